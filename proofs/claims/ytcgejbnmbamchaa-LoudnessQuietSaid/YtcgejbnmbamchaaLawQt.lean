/- LoudnessQuiet. -/
import Derived.Test.YtcgejbnmbamchaaLawMono
import Derived.Test.YtcgejbnmbamchaaQuietM
import Derived.Test.YtcgejbnmbamchaaLdGt
namespace Go.Proofs.Ytcgejbnmbamchaa
open Go.RowKit
attribute [local go_sem ↓] Go.wp_at_zero Go.wp_at_succ run_min_mm run_max_mm

theorem topL_bound {l : List Int} (h : ∀ x ∈ l, 0 ≤ x ∧ x ≤ 2061584302080) : 0 ≤ topL l ∧ topL l ≤ 2061584302080 :=
  ⟨(foldmax_ge (l := l) (m := 0)).1, foldmax_le (by omega) (fun x hx => (h x hx).2)⟩
theorem leastV_bound {l : List Int} (h : ∀ x ∈ l, 0 ≤ x ∧ x ≤ 2061584302080) : 0 ≤ leastV l ∧ leastV l ≤ 4611686018427387904 :=
  ⟨foldmin_ge (by omega) (fun x hx => (h x hx).1), (foldmin_le (l := l)).1⟩
theorem gateL_sorted {l : List Int} {i a b : Nat} (ha : (gateL l)[i]? = some a) (hb : (gateL l)[i + 1]? = some b) : a < b := by
  have hp : (gateL l).Pairwise (· < ·) := by
    unfold gateL
    exact List.Pairwise.filter _ List.pairwise_lt_range
  obtain ⟨h1, rfl⟩ := List.getElem?_eq_some_iff.1 ha
  obtain ⟨h2, rfl⟩ := List.getElem?_eq_some_iff.1 hb
  exact List.pairwise_iff_getElem.1 hp i (i + 1) h1 h2 (by omega)
theorem gateV_at {l : List Int} {i a : Nat} (ha : (gateL l)[i]? = some a) : (gateV l)[i]? = some (l.getD a 0) := by
  unfold gateV
  rw [List.getElem?_map, ha]
  rfl
theorem gateV_take (l : List Int) : ∀ x ∈ gateV l, 0 ≤ x := fun x hx => by have := (gateV_in x hx).2; omega
def QtRel (w : World) (l : List Int) (i t : Value) (wr : World) : Prop :=
  ∃ (k m : Nat) (z : Int), i = .int .i64 (k : Int) ∧ k ≤ l.length ∧ t = .int .i64 z ∧ z = topL (l.take k) ∧ wr = w.drewN m
def QtRel2 (w : World) (v : List Int) (i a b : Value) (wr : World) : Prop :=
  ∃ (k m : Nat) (lo hi : Int), i = .int .i64 (k : Int) ∧ k ≤ v.length ∧ a = .int .i64 lo ∧ b = .int .i64 hi ∧ lo = leastV (v.take k) ∧ hi = topL (v.take k) ∧ wr = w.drewN m

set_option maxRecDepth 100000 in
set_option maxHeartbeats 4000000 in
theorem law_LoudnessQuiet (A : Option Addr) (n c : Nat) (L : List Int) (w : World) (h : Its .i64 (fun _ => True) w A n L) (hok : IntsOk L) :
    Calls Try.prog 9 #[.slice A n c] w fun e w' => e = .returned (.bool true) ∧ Below w.heap.size w w' := by
  have hmade := law_made A n c L 9000 w (h.mono (fun b hb _ => hb)) hok (by omega) (by omega)
  have HMD := Lib.hid hmade
  clear hmade h
  go_enter Try.func9, Try.ntmps9
  go_wp2_with fail
  refine HMD.out.mono ?_
  rintro e w1 ⟨B, C, k1, xs, rfl, hxs, hpc, -, -, hb1⟩
  have hprop := made_ok hxs
  obtain ⟨X, hX⟩ : ∃ X, X = sndOf xs := ⟨_, rfl⟩
  rw [← hX] at hprop
  have hpw := powOut_pws (X := X) (by rw [hX]; exact hpc.smp)
  have e0 : powOut X = powersL X := by unfold powOut; rw [hprop]; rfl
  have e1 : powE X = 0 := by unfold powE; rw [hprop]; rfl
  have e2 : measOutN X = (measNn (powersL X) : Int) := by unfold measOutN; rw [hprop]; exact measN_nat _
  have e3 : measOutD X = (measDn (powersL X) : Int) := by unfold measOutD; rw [hprop]; exact measD_nat _
  have e4 : gateO X = gateL (powersL X) := by unfold gateO; rw [hprop]; rfl
  rw [e0] at hpw
  obtain ⟨l, hl⟩ : ∃ l, l = powersL X := ⟨_, rfl⟩
  rw [← hl] at hpw e0 e2 e3 e4
  have hnb := measN_bound hpw
  have hdb := measD_bound hpw
  have HPC := Lib.hid hpc
  have HX := Lib.hid hX
  have HPW := Lib.hid hpw
  have HE := Lib.hid (And.intro e0 (And.intro e1 (And.intro e2 (And.intro e3 e4))))
  obtain ⟨num, hnum⟩ : ∃ num, num = measNn l := ⟨_, rfl⟩
  obtain ⟨den, hden⟩ : ∃ den, den = measDn l := ⟨_, rfl⟩
  rw [← hnum] at hnb
  rw [← hden] at hdb
  have HND := Lib.hid (And.intro hnum hden)
  clear hxs hpc hprop hX hpw e0 e1 e2 e3 e4 hl hnum hden
  go_wp2_with fail
  refine (ld_Powers _ _ _ xs _ HPC.out).mono ?_
  rintro e w2 ⟨Bl, ml, kl, rfl, hil, hb2, -⟩
  rw [← HX.out, HE.out.1] at hil
  rw [← HX.out, HE.out.2.1]
  have B2 := hb1.trans (hb2.mono hb1.size)
  have HP2 := Lib.hid (HPC.out.ext hb2)
  have HIL := Lib.hid hil
  clear hil hb2 hb1
  go_wp2_with fail
  refine (ld_Gated _ _ _ xs _ HP2.out).mono ?_
  rintro e w3 ⟨Bk, mk, kk, rfl, hik, hb3, -⟩
  rw [← HX.out, HE.out.2.2.2.2] at hik
  rw [← HX.out, HE.out.2.1]
  have B3 := B2.trans (hb3.mono B2.size)
  have HP3 := Lib.hid (HP2.out.ext hb3)
  have HIL3 := Lib.hid (HIL.out.ext hb3)
  have HIK := Lib.hid hik
  clear hik hb3 B2
  go_wp2_with fail
  refine (ld_Measure _ _ _ xs _ HP3.out).mono ?_
  rintro e w4 ⟨rfl, hb4⟩
  rw [← HX.out, HE.out.2.1, HE.out.2.2.1, HE.out.2.2.2.1, ← HND.out.1, ← HND.out.2]
  have B4 := B3.trans (hb4.mono B3.size)
  have HIL4 := Lib.hid (HIL3.out.ext hb4)
  have HIK4 := Lib.hid (HIK.out.ext hb4)
  clear hb4 B3
  go_upto_region 5 with fail
  have x5 := Bx.new w4 38 #[.int .i64 (num : Int), .int .i64 (den : Int)]
  have B5 := B4.alloc B4.size (.cells #[.int .i64 (num : Int), .int .i64 (den : Int)] 38)
  have HIL5 := Lib.hid (HIL4.out.alloc (.cells #[.int .i64 (num : Int), .int .i64 (den : Int)] 38))
  have HIK5 := Lib.hid (HIK4.out.alloc (.cells #[.int .i64 (num : Int), .int .i64 (den : Int)] 38))
  generalize w4.alloc (.cells #[.int .i64 (num : Int), .int .i64 (den : Int)] 38) = w5 at *
  generalize w4.heap.size = gm at *
  have hml : l.length = ml := HIL5.out.len
  have hml8 : ml ≤ 8735 := by rw [← hml]; exact HPW.out.1
  have hmk : (gateL l).length = mk := by rw [← natI_len, HIK5.out.len]
  have hmk8 : mk ≤ 8735 := by have := gateL_len l; omega
  have HML := Lib.hid (And.intro hml hmk)
  clear B4 hml hmk
  go_wp2_with fail
  go_loopw [44, 10] (fun i t wr => QtRel w5 l i t wr) (fun i _ _ => ml - (intOf i).toNat)
  case atStart => exact ⟨0, 0, 0, rfl, Nat.zero_le _, rfl, rfl, rfl⟩
  case round =>
    obtain ⟨k, m, z, rfl, hk, rfl, hz, rfl⟩ := hrel
    rw [HML.out.1] at hk
    have hzb := topL_bound (l := l.take k) (fun x hx => HPW.out.2 x (List.mem_of_mem_take hx))
    rw [← hz] at hzb
    have HZ := Lib.hid hz
    clear hz
    by_cases hkl : k < ml
    · obtain ⟨b, off, y, rfl, _, hb, hy, hcy⟩ := HIL5.out.at_ hkl
      have hyb := HPW.out.2 y (List.mem_of_getElem? hy)
      have hcy' : (w5.drewN m).cell? ⟨b, off + k, none⟩ = some (.int .i64 y) := hcy
      have hkz : (k : Int) < (ml : Int) := by omega
      have hkd : decide ((k : Int) < (ml : Int)) = true := decide_eq_true hkz
      have HY := Lib.hid hy
      clear hy
      go_wp2_with fail
      go_roundw
      case rel => exact ⟨k + 1, m, max z y, by go_num, by rw [HML.out.1]; omega, by go_num, by rw [take_snoc_at HY.out, fold_snoc_max, ← HZ.out], rfl⟩
      case measure => simp [intOf]; omega
    · obtain rfl : k = ml := by omega
      have hzt : z = topL l := by rw [HZ.out, List.take_of_length_le (by rw [HML.out.1]; exact Nat.le_refl _)]
      have hkd : decide ((k : Int) < (k : Int)) = false := decide_eq_false (by omega)
      have x6 := x5.drewN m
      have B6 := bdrewN B5 m
      have HIL6 := Lib.hid (HIL5.out.ext (bdrewN (Below.refl w5.heap.size w5) m))
      have HIK6 := Lib.hid (HIK5.out.ext (bdrewN (Below.refl w5.heap.size w5) m))
      have HZT := Lib.hid hzt
      have c0 := x6.cell 0 rfl
      have c1 := x6.cell 1 rfl
      have l6 := x6.lt
      clear HZ hzt x5 B5
      by_cases hz0 : mk = 0
      · subst hz0
        have hzz : z < 30720 := by rw [HZT.out]; exact quiet_top HML.out.2
        have hzd : decide (z < 30720) = true := decide_eq_true hzz
        have hn0 : num = 0 := by rw [HND.out.1]; unfold measNn; rw [if_pos HML.out.2]
        have hd1 : den = 1 := by rw [HND.out.2]; unfold measDn; rw [if_pos HML.out.2]
        subst hn0 hd1
        go_wp2_with fail
        refine (law_awake _).mono ?_
        rintro e wf ⟨rfl, hbf⟩
        go_wp2_with fail
        go_ret
        exact ⟨rfl, B6.trans (hbf.mono B6.size)⟩
      · have hmz : ¬ (mk : Int) = 0 := by omega
        have hmzb : ((mk : Int) == 0) = false := beq_eq_false_iff_ne.2 hmz
        have hne : (gateL l).length ≠ 0 := by rw [HML.out.2]; exact hz0
        have HMB := Lib.hid (meas_between HPW.out hne)
        have HGT := Lib.hid (gated_top hne)
        clear hne
        generalize w5.drewN m = w6 at *
        go_wp2_with fail
        clear hkd
        go_loopw [69, 12, 13] (fun i a b wr => QtRel2 w6 (gateV l) i a b wr) (fun i _ _ _ => mk - (intOf i).toNat)
        case atStart => exact ⟨0, 0, 4611686018427387904, 0, rfl, Nat.zero_le _, rfl, rfl, rfl, rfl, rfl⟩
        case round =>
          obtain ⟨i, m2, lo, hi, rfl, hik, rfl, rfl, hlo, hhi, rfl⟩ := hrel
          rw [gateV_len, HML.out.2] at hik
          have hvb : ∀ x ∈ (gateV l).take i, 0 ≤ x ∧ x ≤ 2061584302080 := fun x hx => HPW.out.2 x (gateV_in x (List.mem_of_mem_take hx)).1
          have hlob := leastV_bound hvb
          have hhib := topL_bound hvb
          rw [← hlo] at hlob
          rw [← hhi] at hhib
          have HLH := Lib.hid (And.intro hlo hhi)
          clear hlo hhi hvb
          by_cases hil : i < mk
          · obtain ⟨bg, og, gi, rfl, _, hbg, hgx, hgc⟩ := HIK6.out.at_ hil
            have hgx' : ∃ gn : Nat, (gateL l)[i]? = some gn ∧ gi = (gn : Int) := by
              unfold natI at hgx
              rw [List.getElem?_map] at hgx
              cases hq : (gateL l)[i]? with
              | none => rw [hq] at hgx; simp at hgx
              | some gn => rw [hq] at hgx; simp at hgx; exact ⟨gn, rfl, hgx.symm⟩
            obtain ⟨gn, hgn, rfl⟩ := hgx'
            have hgl := (gateL_mem (List.mem_of_getElem? hgn)).1
            rw [HML.out.1] at hgl
            obtain ⟨b, off, y, rfl, _, hb, hy, hcy⟩ := HIL6.out.at_ hgl
            have hgd : l.getD gn 0 = y := by rw [List.getD_eq_getElem?_getD, hy]; rfl
            have hvi : (gateV l)[i]? = some y := by rw [gateV_at hgn, hgd]
            have hyv := gateV_in y (List.mem_of_getElem? hvi)
            have hyb := HPW.out.2 y hyv.1
            have hy3 : 30720 ≤ y := hyv.2
            have hiz : (i : Int) < (mk : Int) := by omega
            have hid : decide ((i : Int) < (mk : Int)) = true := decide_eq_true hiz
            have hgz : (gn : Int) < (k : Int) := by omega
            have d1 : decide ((gn : Int) < 0) = false := decide_eq_false (by omega)
            have d2 : decide ((k : Int) ≤ (gn : Int)) = false := decide_eq_false (by omega)
            have d2n : decide (k ≤ gn) = false := decide_eq_false (by omega)
            have d3 : decide (y < 30720) = false := decide_eq_false (by omega)
            have HVI := Lib.hid hvi
            clear hgx hy hgd hvi hyv
            by_cases hi0 : i = 0
            · have d5 : decide (0 < (i : Int)) = false := decide_eq_false (by omega)
              have d5n : decide (0 < i) = false := decide_eq_false (by omega)
              clear hgn hi0
              go_wp2_with fail
              go_quiet (fail)
              go_wp2_with fail
              go_quiet (fail)
              go_wp2_with fail
              go_roundw
              case rel =>
                refine ⟨i + 1, _, min lo y, max hi y, by go_num, by rw [gateV_len, HML.out.2]; omega, by go_num, by go_num, ?_, ?_, by first | rfl | exact (World.drewN_drewN _ _ _).symm | (simp [World.drewN_drewN, Nat.add_assoc]; rfl)⟩
                · rw [take_snoc_at HVI.out, fold_snoc_min, ← HLH.out.1]
                · rw [take_snoc_at HVI.out, fold_snoc_max, ← HLH.out.2]
              case measure => simp [intOf]; omega
            · obtain ⟨j, hij⟩ : ∃ j, i = j + 1 := ⟨i - 1, by omega⟩
              obtain ⟨bg', og', gj, hAj, _, _, hgj, hgcj⟩ := HIK6.out.at_ (j := j) (by omega)
              injection hAj with hAj
              injection hAj with ea eb
              subst ea eb
              have hgj' : ∃ gp : Nat, (gateL l)[j]? = some gp ∧ gj = (gp : Int) := by
                unfold natI at hgj
                rw [List.getElem?_map] at hgj
                cases hq : (gateL l)[j]? with
                | none => rw [hq] at hgj; simp at hgj
                | some gp => rw [hq] at hgj; simp at hgj; exact ⟨gp, rfl, hgj.symm⟩
              obtain ⟨gp, hgp, rfl⟩ := hgj'
              have hlt := gateL_sorted hgp (hij ▸ hgn)
              have d4 : decide ((gn : Int) ≤ (gp : Int)) = false := decide_eq_false (by omega)
              have d4n : decide (gn ≤ gp) = false := decide_eq_false (by omega)
              have d5n : decide (0 < i) = true := decide_eq_true (by omega)
              have ej : (i : Int) - 1 = (j : Int) := by omega
              have hjz : (j : Int) < (mk : Int) := by omega
              have d5 : decide (0 < (i : Int)) = true := decide_eq_true (by omega)
              clear hgn hgp hgj hij hi0
              go_wp2_with fail
              go_quiet (fail)
              go_wp2_with fail
              go_quiet (fail)
              go_wp2_with fail
              go_roundw
              case rel =>
                refine ⟨i + 1, _, min lo y, max hi y, by go_num, by rw [gateV_len, HML.out.2]; omega, by go_num, by go_num, ?_, ?_, by first | rfl | exact (World.drewN_drewN _ _ _).symm | (simp [World.drewN_drewN, Nat.add_assoc]; rfl)⟩
                · rw [take_snoc_at HVI.out, fold_snoc_min, ← HLH.out.1]
                · rw [take_snoc_at HVI.out, fold_snoc_max, ← HLH.out.2]
              case measure => simp [intOf]; omega
          · obtain rfl : i = mk := by omega
            have htk : (gateV l).take i = gateV l := List.take_of_length_le (by rw [gateV_len, HML.out.2]; exact Nat.le_refl _)
            have q1 : hi = z := by rw [HLH.out.2, htk, HGT.out, ← HZT.out]
            have q2 := HMB.out
            rw [← htk, ← HLH.out.1, ← HLH.out.2, ← HND.out.1, ← HND.out.2] at q2
            have hid : decide ((i : Int) < (i : Int)) = false := decide_eq_false (by omega)
            subst q1
            obtain ⟨p1, hp1⟩ : ∃ p1, p1 = lo * (den : Int) := ⟨_, rfl⟩
            obtain ⟨p2, hp2⟩ : ∃ p2, p2 = hi * (den : Int) := ⟨_, rfl⟩
            rw [← hp1, ← hp2] at q2
            have hp1b : 0 ≤ p1 := by rw [hp1]; exact Int.mul_nonneg hlob.1 (by omega)
            have hp2b : p2 ≤ 8643810661761024000 := by
              rw [hp2]
              exact Int.le_trans (Int.mul_le_mul hhib.2 (show (den : Int) ≤ 4192800 by omega) (by omega) (by omega)) (by omega)
            have hp2c : 0 ≤ p2 := by rw [hp2]; exact Int.mul_nonneg hhib.1 (by omega)
            have r1 : decide (1 ≤ (den : Int)) = true := decide_eq_true (by omega)
            have r2 : decide (p1 ≤ (num : Int) * 480) = true := decide_eq_true q2.1
            have r3 : decide ((num : Int) * 480 ≤ p2) = true := decide_eq_true q2.2
            have m1 : lo * (den : Int) = p1 := hp1.symm
            have m2' : hi * (den : Int) = p2 := hp2.symm
            have x7 := x6.drewN m2
            have B7 := bdrewN B6 m2
            have c0 := x7.cell 0 rfl
            have c1 := x7.cell 1 rfl
            have l7 := x7.lt
            have hq2a := q2.1
            have hq2b := q2.2
            clear hp1 hp2 q2 x6 B6
            generalize w6.drewN m2 = w7 at *
            go_wp2_with fail
            refine (law_awake _).mono ?_
            rintro e wf ⟨rfl, hbf⟩
            go_wp2_with fail
            go_ret
            exact ⟨rfl, B7.trans (hbf.mono B7.size)⟩
end Go.Proofs.Ytcgejbnmbamchaa
