/- loudness.Measure. -/
import Derived.Test.YtcgejbnmbamchaaLdO
namespace Go.Proofs.Ytcgejbnmbamchaa
open Go.RowKit
attribute [local go_sem ↓] Go.wp_at_zero Go.wp_at_succ

theorem gateL_mem {l : List Int} {i : Nat} (h : i ∈ gateL l) : i < l.length ∧ passes l (l.getD i 0) = true := by
  unfold gateL at h
  rw [List.mem_filter, List.mem_range] at h
  exact h
theorem gateL_len (l : List Int) : (gateL l).length ≤ l.length := gateK_len l l.length
def sumAt (l : List Int) (g : List Nat) : Int := (g.map fun i => l.getD i 0).sum
theorem sumAt_snoc (l : List Int) (g : List Nat) (i : Nat) : sumAt l (g ++ [i]) = sumAt l g + l.getD i 0 := by simp [sumAt]
theorem getD_pws {l : List Int} (h : ∀ x ∈ l, 0 ≤ x ∧ x ≤ 2061584302080) (i : Nat) : 0 ≤ l.getD i 0 ∧ l.getD i 0 ≤ 2061584302080 := by
  rw [List.getD_eq_getElem?_getD]
  cases hi : l[i]? with
  | none => simp
  | some x => simpa using h x (List.mem_of_getElem? hi)
theorem sumAt_bound {l : List Int} (h : ∀ x ∈ l, 0 ≤ x ∧ x ≤ 2061584302080) : ∀ (g : List Nat), 0 ≤ sumAt l g ∧ sumAt l g ≤ g.length * 2061584302080
  | [] => by simp [sumAt]
  | i :: g => by
    have h1 := getD_pws h i
    have h2 := sumAt_bound h g
    simp only [sumAt, List.map_cons, List.sum_cons, List.length_cons] at h2 ⊢
    omega
/-- The measure as the program keeps it. -/
def measN (l : List Int) : Int := if (gateL l).length = 0 then 0 else lowN (gateSum l).toNat (480 * (gateL l).length)
def measD (l : List Int) : Int := if (gateL l).length = 0 then 1 else lowD (gateSum l).toNat (480 * (gateL l).length)
def measOutN (X : Snd) : Int := if properB X = true then measN (powersL X) else 0
def measOutD (X : Snd) : Int := if properB X = true then measD (powersL X) else 0
/-- What Measure hands back. -/
def RetMs (w : World) (num den er : Int) (e : Ending) (w' : World) : Prop :=
  e = .returned (.tuple #[.agg #[.int .i64 num, .int .i64 den], .int .i64 er]) ∧ Below w.heap.size w w'
theorem meas_idle (p q : Addr) (w : World) :
    CallsD Try.prog 43 #[.pointer (some p), .pointer (some q)] .returning w fun e u' w' => e = .returned (.tuple #[]) ∧ u' = .returning ∧ w' = w := by
  refine callsD_of_wpS Try.func43 rfl fun c₀ cs hu => ?_
  apply wpS_seq
  apply wpS_region
  simp [wpOpsS, go_sem, recoverD, hu, Try.ntmps43, Exit.thenS]
  refine wpS_cond (t := false) (by simp [Act.eval, Array.replicate]) ?_
  simp only [Bool.false_eq_true, if_false]
  refine wpS_of_wp (wp_skip ?_)
  cases c₀
  simp_all [bodyPostS, results, Try.results43]
theorem meas_leave {w : World} {num den er : Int} (a : Act) (W : World) (h2 : a.tmps[2]? = some (.pointer (some ⟨w.heap.size, 0, none⟩))) (h3 : a.tmps[3]? = some (.pointer (some ⟨w.heap.size + 1, 0, none⟩)))
    (hd : a.defers = [{ target := Target.fn (Fn.func 43) #[.pointer (some ⟨w.heap.size, 0, none⟩), .pointer (some ⟨w.heap.size + 1, 0, none⟩)], args := #[] }])
    (X1 : Bx W w.heap.size 38 #[.int .i64 num, .int .i64 den]) (X2 : Bx W (w.heap.size + 1) 27 #[.int .i64 er]) (hb : Below w.heap.size w W) :
    bodyPostD Try.prog Try.f21 (RetMs w num den er) .ret a W := by
  have u0 : W.cell? ⟨w.heap.size, 0, none⟩ = some (.int .i64 num) := X1.cell 0 rfl
  have u0' : W.cell? ⟨w.heap.size, 1, none⟩ = some (.int .i64 den) := X1.cell 1 rfl
  have u1 : W.cell? ⟨w.heap.size + 1, 0, none⟩ = some (.int .i64 er) := X2.cell 0 rfl
  obtain ⟨tmps, defers⟩ := a
  dsimp only at h2 h3 hd
  subst hd
  refine leaves_cons (f := 43) (args := #[.pointer (some ⟨w.heap.size, 0, none⟩), .pointer (some ⟨w.heap.size + 1, 0, none⟩)]) (by simp) (by simp [go_sem]) ?_
  refine (meas_idle _ _ _).mono ?_
  rintro e u' w'' ⟨rfl, rfl, rfl⟩
  exact ⟨.tuple #[.agg #[.int .i64 num, .int .i64 den], .int .i64 er], by simp [results, Try.results21, go_sem, h2, h3, u0, u0', u1], rfl, hb⟩
def MsRel (wr : World) (l : List Int) (i s : Value) (w2 : World) : Prop :=
  ∃ (k m : Nat) (S : Int), i = .int .i64 (k : Int) ∧ k ≤ (gateL l).length ∧ s = .int .i64 S ∧ S = sumAt l ((gateL l).take k) ∧ w2 = wr.drewN m

set_option maxRecDepth 100000 in
set_option maxHeartbeats 4000000 in
theorem ld_Measure {p : Nat → Prop} (A : Option Addr) (n c : Nat) (xs : List Ch) (w : World) (h : Pcm p w A n xs) :
    Calls Try.prog 21 #[.slice A n c] w (RetMs w (measOutN (sndOf xs)) (measOutD (sndOf xs)) (powE (sndOf xs))) := by
  have hmf : ∀ (fn : Fn) (first cap : Array Value) (w : World), (Instr.makeFunc fn first cap).run Try.prog w = .ok (.func fn first cap) w := fun _ _ _ _ => rfl
  have B0 : Below w.heap.size w ((w.alloc (.cells #[.int .i64 0, .int .i64 0] 38)).alloc (.cells #[.int .i64 0] 27)) := ((Below.refl _ w).alloc (Nat.le_refl _) _).alloc (by simp) _
  have X1 : Bx ((w.alloc (.cells #[.int .i64 0, .int .i64 0] 38)).alloc (.cells #[.int .i64 0] 27)) w.heap.size 38 #[.int .i64 0, .int .i64 0] := (Bx.new _ _ _).alloc _
  have X2 : Bx ((w.alloc (.cells #[.int .i64 0, .int .i64 0] 38)).alloc (.cells #[.int .i64 0] 27)) (w.heap.size + 1) 27 #[.int .i64 0] := Bx.new' _ _ _ _ (by simp)
  obtain ⟨X, hX⟩ : ∃ X, X = sndOf xs := ⟨_, rfl⟩
  have HP := Lib.hid h
  have HX := Lib.hid hX
  have HSM : Hid (∀ c ∈ X, Smp c) := Lib.hid (by rw [hX]; exact h.smp)
  rw [← hX]
  clear h hX
  go_enter_defers Try.func21, Try.ntmps21
  go_upto_region 2 with fail
  have HP2 := Lib.hid (HP.out.ext (B0.mono (Nat.le_refl _)))
  generalize (w.alloc (.cells #[.int .i64 0, .int .i64 0] 38)).alloc (.cells #[.int .i64 0] 27) = W at *
  have z1 := X2.lt
  go_wp2_with fail
  refine (ld_Powers A n c xs _ HP2.out).mono ?_
  rintro e w1 ⟨B, m, k, rfl, hits, hb1, hmk⟩
  rw [← HX.out] at hits ⊢
  have x1 := X1.ext hb1
  have x2 := X2.ext hb1
  have b1 := B0.trans (hb1.mono B0.size)
  have l2 := x2.lt
  have f2 := x2.frozen 0
  have c2 := x2.cell 0 rfl
  have HI := Lib.hid hits
  clear hits B0 X1 X2 hb1
  go_upto_region 3 with fail
  have x2 := x2.set_ 0 (.int .i64 (powE X))
  have x1 := x1.far (a := ⟨w.heap.size + 1, 0, none⟩) (by dsimp only; omega) (.int .i64 (powE X))
  have b1 := bset b1 ⟨w.heap.size + 1, 0, none⟩ (by dsimp only; omega) (.int .i64 (powE X))
  have HI2 := Lib.hid (HI.out.setCell (a := ⟨w.heap.size + 1, 0, none⟩) (by dsimp only; omega) (.int .i64 (powE X)))
  generalize w1.setCell ⟨w.heap.size + 1, 0, none⟩ (.int .i64 (powE X)) = w2 at *
  clear f2 c2 HI l2
  have l2 := x2.lt
  have c2 := x2.cell 0 rfl
  have c10 := x1.cell 0 rfl
  have c11 := x1.cell 1 rfl
  have f10 := x1.frozen 0
  have f11 := x1.frozen 1
  have f20 := x2.frozen 0
  cases hp : properB X with
  | false =>
    have e1 : powE X = 1 := by unfold powE; rw [hp]; rfl
    have e2 : measOutN X = 0 := by unfold measOutN; rw [hp]; rfl
    have e3 : measOutD X = 0 := by unfold measOutD; rw [hp]; rfl
    rw [e1] at x2 c2
    have Y1 := (((x1.set_ 0 (.int .i64 0)).set_ 1 (.int .i64 0)).far (a := ⟨w.heap.size + 1, 0, none⟩) (by dsimp only; omega) (.int .i64 1)).drew
    have Y2 := ((((x2.far (a := ⟨w.heap.size, 0, none⟩) (by dsimp only; omega) (.int .i64 0)).far (a := ⟨w.heap.size, 1, none⟩) (by dsimp only; omega) (.int .i64 0))).set_ 0 (.int .i64 1)).drew
    have BZ := (bset (bset (bset b1 ⟨w.heap.size, 0, none⟩ (Nat.le_refl _) (.int .i64 0)) ⟨w.heap.size, 1, none⟩ (Nat.le_refl _) (.int .i64 0)) ⟨w.heap.size + 1, 0, none⟩ (by dsimp only; omega) (.int .i64 1)).drew
    have HE := Lib.hid (And.intro e1 (And.intro e2 e3))
    rw [e1]
    clear e1 e2 e3 hp HI2
    go_wp2_with fail
    go_region
    all_goals (try go_wp2_with fail)
    all_goals exact meas_leave _ _ rfl rfl rfl (by rw [HE.out.2.1, HE.out.2.2]; exact Y1) (by rw [HE.out.1]; exact Y2) BZ
  | true =>
    have e1 : powE X = 0 := by unfold powE; rw [hp]; rfl
    have e4 : powOut X = powersL X := by unfold powOut; rw [hp]; rfl
    have hpw := powOut_pws HSM.out
    rw [e4] at hpw
    obtain ⟨l, hl⟩ : ∃ l, l = powersL X := ⟨_, rfl⟩
    rw [← hl] at hpw
    have e2 : measOutN X = measN l := by unfold measOutN; rw [hp, hl]; rfl
    have e3 : measOutD X = measD l := by unfold measOutD; rw [hp, hl]; rfl
    have HI3 : Hid (Its .i64 (w.heap.size ≤ ·) w2 B m l) := Lib.hid (by have := HI2.out; rw [e4, ← hl] at this; exact this.mono (fun b _ h => by omega))
    rw [e1] at x2 c2
    have HE := Lib.hid (And.intro e1 (And.intro e2 e3))
    have HPW := Lib.hid hpw
    have hml : l.length = m := HI3.out.len
    have hm8 : m ≤ 8735 := by rw [← hml]; exact hpw.1
    have HML := Lib.hid hml
    rw [e1]
    clear e1 e2 e3 e4 hp HI2 hpw hl hml
    go_wp2_with fail
    refine (ld_gate B m k l _ HI3.out HPW.out).mono ?_
    rintro e w3 ⟨B3, m3, k3, rfl, hg3, hb3, hmk3⟩
    have hm3 : m3 = (gateL l).length := by rw [← hg3.len, natI_len]
    have hm38 : m3 ≤ 8735 := by have := gateL_len l; rw [HML.out] at this; omega
    have x13 := x1.ext hb3
    have x23 := x2.ext hb3
    have b3 := b1.trans (hb3.mono b1.size)
    have HG := Lib.hid hg3
    have HI4 := Lib.hid (HI3.out.ext hb3)
    have HM3 := Lib.hid hm3
    clear hg3 x1 x2 b1 l2 c2 c10 c11 f10 f11 f20 hb3 hm3
    have l2 := x23.lt
    have c2 := x23.cell 0 rfl
    have c10 := x13.cell 0 rfl
    have c11 := x13.cell 1 rfl
    have f10 := x13.frozen 0
    have f11 := x13.frozen 1
    have f20 := x23.frozen 0
    by_cases hz : m3 = 0
    · have k1 : measN l = 0 := by unfold measN; rw [if_pos (by rw [← HM3.out]; exact hz)]
      have k2 : measD l = 1 := by unfold measD; rw [if_pos (by rw [← HM3.out]; exact hz)]
      have HK := Lib.hid (And.intro k1 k2)
      clear k1 k2
      subst hz
      have Y1 := (((x13.set_ 0 (.int .i64 0)).set_ 1 (.int .i64 1)).far (a := ⟨w.heap.size + 1, 0, none⟩) (by dsimp only; omega) (.int .i64 0))
      have Y2 := ((((x23.far (a := ⟨w.heap.size, 0, none⟩) (by dsimp only; omega) (.int .i64 0)).far (a := ⟨w.heap.size, 1, none⟩) (by dsimp only; omega) (.int .i64 1))).set_ 0 (.int .i64 0))
      have BZ := (bset (bset (bset b3 ⟨w.heap.size, 0, none⟩ (Nat.le_refl _) (.int .i64 0)) ⟨w.heap.size, 1, none⟩ (Nat.le_refl _) (.int .i64 1)) ⟨w.heap.size + 1, 0, none⟩ (by dsimp only; omega) (.int .i64 0))
      go_wp2_with fail
      exact meas_leave _ _ rfl rfl rfl (by rw [HE.out.2.1, HE.out.2.2, HK.out.1, HK.out.2]; exact Y1) (by rw [HE.out.1]; exact Y2) BZ
    · have hzd : ¬ (m3 : Int) = 0 := by omega
      go_wp2_with fail
      go_loopw [27, 6] (fun i s w4 => MsRel w3 l i s w4) (fun i _ _ => m3 - (intOf i).toNat)
      case atStart => exact ⟨0, 0, 0, rfl, Nat.zero_le _, rfl, rfl, rfl⟩
      case round =>
        obtain ⟨j, mm, S, rfl, hj, rfl, hS, rfl⟩ := hrel
        rw [← HM3.out] at hj
        have hSb := sumAt_bound HPW.out.2 ((gateL l).take j)
        have htl : ((gateL l).take j).length ≤ j := by rw [List.length_take]; omega
        rw [← hS] at hSb
        have hSb2 : 0 ≤ S ∧ S ≤ 18007938878668800 := by omega
        have HS := Lib.hid hS
        clear hS hSb htl
        by_cases hlt : j < m3
        · obtain ⟨bg, og, gi, rfl, _, hbg, hgx, hgc⟩ := HG.out.at_ hlt
          have hgx' : ∃ gn : Nat, (gateL l)[j]? = some gn ∧ gi = (gn : Int) := by
            unfold natI at hgx
            rw [List.getElem?_map] at hgx
            cases hq : (gateL l)[j]? with
            | none => rw [hq] at hgx; simp at hgx
            | some gn => rw [hq] at hgx; simp at hgx; exact ⟨gn, rfl, hgx.symm⟩
          obtain ⟨gn, hgn, rfl⟩ := hgx'
          have hgl := (gateL_mem (List.mem_of_getElem? hgn)).1
          rw [HML.out] at hgl
          obtain ⟨b, off, x, rfl, _, hb, hx, hc⟩ := HI4.out.at_ hgl
          have hxb := HPW.out.2 x (List.mem_of_getElem? hx)
          have hgc' : (w3.drewN mm).cell? ⟨bg, og + j, none⟩ = some (.int .i64 (gn : Int)) := hgc
          have hc' : (w3.drewN mm).cell? ⟨b, off + gn, none⟩ = some (.int .i64 x) := hc
          have hgd : l.getD gn 0 = x := by rw [List.getD_eq_getElem?_getD, hx]; rfl
          have HX2 := Lib.hid (And.intro hgn hgd)
          have hgz : (gn : Int) < (m : Int) := by omega
          clear hgx hgn hx hgc hc hgd
          go_wp2_with fail
          go_roundw
          case rel =>
            refine ⟨j + 1, mm, S + x, by go_num, by rw [← HM3.out]; omega, by go_num, ?_, rfl⟩
            rw [take_snoc_at HX2.out.1, sumAt_snoc, HX2.out.2, ← HS.out]
          case measure => simp [intOf]; omega
        · obtain rfl : j = m3 := by omega
          have hS2 : S = gateSum l := by rw [HS.out, List.take_of_length_le (by rw [← HM3.out]; exact Nat.le_refl _)]; rfl
          obtain ⟨Sn, rfl⟩ := Int.eq_ofNat_of_zero_le hSb2.1
          have k1 : measN l = lowN Sn (480 * j) := by unfold measN; rw [if_neg (by rw [← HM3.out]; exact hz), ← hS2, Int.toNat_natCast, ← HM3.out]
          have k2 : measD l = lowD Sn (480 * j) := by unfold measD; rw [if_neg (by rw [← HM3.out]; exact hz), ← hS2, Int.toNat_natCast, ← HM3.out]
          have HK := Lib.hid (And.intro k1 k2)
          clear k1 k2 hS2
          have y1 := x13.drewN mm
          have y2 := x23.drewN mm
          have yb := bdrewN b3 mm
          generalize w3.drewN mm = w4 at *
          have e480 : Hid (480 * (j : Int) = ((480 * j : Nat) : Int)) := Lib.hid (by omega)
          go_wp2_with fail
          rw [e480.out]
          refine (rat_Of Sn (480 * j) _ (by omega) (by omega) (by omega)).mono ?_
          rintro e w5 ⟨rfl, hb5⟩
          have y15 := y1.ext hb5
          have y25 := y2.ext hb5
          have yb5 := yb.trans (hb5.mono yb.size)
          have l25 := y25.lt
          have d2 := y25.cell 0 rfl
          have d10 := y15.cell 0 rfl
          have d11 := y15.cell 1 rfl
          have q10 := y15.frozen 0
          have q11 := y15.frozen 1
          have q20 := y25.frozen 0
          obtain ⟨nn, hnn⟩ : ∃ nn, nn = lowN Sn (480 * j) := ⟨_, rfl⟩
          obtain ⟨dd, hdd⟩ : ∃ dd, dd = lowD Sn (480 * j) := ⟨_, rfl⟩
          rw [← hnn, ← hdd] at HK ⊢
          have Y1 := (((y15.set_ 0 (.int .i64 nn)).set_ 1 (.int .i64 dd)).far (a := ⟨w.heap.size + 1, 0, none⟩) (by dsimp only; omega) (.int .i64 0))
          have Y2 := ((((y25.far (a := ⟨w.heap.size, 0, none⟩) (by dsimp only; omega) (.int .i64 nn)).far (a := ⟨w.heap.size, 1, none⟩) (by dsimp only; omega) (.int .i64 dd))).set_ 0 (.int .i64 0))
          have BZ := (bset (bset (bset yb5 ⟨w.heap.size, 0, none⟩ (Nat.le_refl _) (.int .i64 nn)) ⟨w.heap.size, 1, none⟩ (Nat.le_refl _) (.int .i64 dd)) ⟨w.heap.size + 1, 0, none⟩ (by dsimp only; omega) (.int .i64 0))
          clear y1 y2 yb y15 y25 yb5 hnn hdd
          go_wp2_with fail
          exact meas_leave _ _ rfl rfl rfl (by rw [HE.out.2.1, HE.out.2.2, HK.out.1, HK.out.2]; exact Y1) (by rw [HE.out.1]; exact Y2) BZ
end Go.Proofs.Ytcgejbnmbamchaa
