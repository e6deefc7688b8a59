/- gated of the reference. -/
import Derived.Test.YtcgejbnmbamchaaLdMe
import Derived.Test.YtcgejbnmbamchaaLrP
namespace Go.Proofs.Ytcgejbnmbamchaa
open Go.RowKit
attribute [local go_sem ↓] Go.wp_at_zero Go.wp_at_succ

def LgRel2 (w : World) (l : List Int) (i v s : Value) (wr : World) : Prop :=
  ∃ (k : Nat) (v0 : Value) (S : Int), i = .int .i64 (k : Int) ∧ v0 = v ∧ s = .int .i64 S ∧ S = sumAt l (gateK l k) ∧ k ≤ l.length ∧ OwI wr w.heap.size 3 v0 (natI (gateK l k)) ∧ Below w.heap.size w wr
/-- What gated hands back. -/
def RetGs (w : World) (l : List Int) (e : Ending) (w' : World) : Prop :=
  ∃ B m k, e = .returned (.tuple #[.slice B m k, .int .i64 (gateSum l)]) ∧ Its .i64 (w.heap.size ≤ ·) w' B m (natI (gateL l)) ∧ Below w.heap.size w w' ∧ m ≤ k

set_option maxRecDepth 100000 in
set_option maxHeartbeats 4000000 in
theorem lr_gated {p : Nat → Prop} (A : Option Addr) (n c : Nat) (l : List Int) (w : World) (h : Its .i64 p w A n l) (hP : Pws l) :
    Calls Try.prog 47 #[.slice A n c] w (RetGs w l) := by
  have hlen := h.len
  have h8 := hP.1
  rw [hlen] at h8
  have HL := Lib.hid (h.mono (q := (· < w.heap.size)) (fun _ h _ => h))
  have HLEN := Lib.hid hlen
  have HP := Lib.hid hP.2
  have hS := loudSum_bound hP.2
  have hC := loudMany_le l
  rw [hlen] at hS hC
  have HB := Lib.hid (And.intro hS hC)
  clear h hlen hP hS hC
  go_enter Try.func47, Try.ntmps47
  go_wp2_with fail
  go_loopw [6, 4, 5] (fun i s c wr => GtRel w l i s c wr) (fun i _ _ _ => n - (intOf i).toNat)
  case atStart => exact ⟨0, 0, 0, 0, rfl, Nat.zero_le _, rfl, rfl, rfl, rfl, rfl⟩
  case round =>
    obtain ⟨k, m, S, C, rfl, hk, rfl, rfl, hS, hC, rfl⟩ := hrel
    rw [HLEN.out] at hk
    have hSb := loudSum_bound (l := l.take k) (fun y hy => HP.out y (List.mem_of_mem_take hy))
    have hCb := loudMany_le (l.take k)
    have htl : (l.take k).length ≤ k := by rw [List.length_take]; omega
    rw [← hS] at hSb
    rw [← hC] at hCb
    have hSb2 : 0 ≤ S ∧ S ≤ 18007938878668800 := by omega
    have hCb2 : C ≤ 8735 := by omega
    have HSC := Lib.hid (And.intro hS hC)
    clear hS hC hSb hCb htl
    by_cases hlt : k < n
    · obtain ⟨b, off, x, rfl, _, hb, hx, hc⟩ := HL.out.at_ hlt
      have hxb := HP.out x (List.mem_of_getElem? hx)
      have hc' : (w.drewN m).cell? ⟨b, off + k, none⟩ = some (.int .i64 x) := hc
      have hkz : (k : Int) < (n : Int) := by omega
      have hkd : decide ((k : Int) < (n : Int)) = true := decide_eq_true hkz
      have HX := Lib.hid hx
      clear hx
      by_cases hl : 30720 ≤ x
      · have hd : decide (30720 ≤ x) = true := decide_eq_true hl
        have hl2 : Hid (loud x = true) := Lib.hid hd
        go_wp2_with fail
        go_roundw
        case rel =>
          refine ⟨k + 1, _, S + x, C + 1, by go_num, by rw [HLEN.out]; omega, by go_num, by go_num, ?_, ?_, by first | rfl | exact World.drewN_drewN _ _ _⟩
          · rw [take_snoc_at HX.out, loudSum_snoc, if_pos hl2.out, ← HSC.out.1]
          · rw [take_snoc_at HX.out, loudMany_snoc, if_pos hl2.out, ← HSC.out.2]
        case measure => simp [intOf]; omega
      · have hd : decide (30720 ≤ x) = false := decide_eq_false hl
        have hl2 : Hid (¬ loud x = true) := Lib.hid (by unfold loud; rw [hd]; simp)
        go_wp2_with fail
        go_roundw
        case rel =>
          refine ⟨k + 1, m, S, C, by go_num, by rw [HLEN.out]; omega, rfl, rfl, ?_, ?_, rfl⟩
          · rw [take_snoc_at HX.out, loudSum_snoc, if_neg hl2.out, ← HSC.out.1, Int.add_zero]
          · rw [take_snoc_at HX.out, loudMany_snoc, if_neg hl2.out, ← HSC.out.2]; rfl
        case measure => simp [intOf]; omega
    · obtain rfl : k = n := by omega
      have hS : S = loudSum l := by rw [HSC.out.1, List.take_of_length_le (by rw [HLEN.out]; exact Nat.le_refl _)]
      have hC : C = loudMany l := by rw [HSC.out.2, List.take_of_length_le (by rw [HLEN.out]; exact Nat.le_refl _)]
      have HS := Lib.hid (And.intro hS hC)
      clear hS hC HSC
      have B0 := bdrewN (Below.refl w.heap.size w) m
      have hkd : decide ((k : Int) < (k : Int)) = false := decide_eq_false (by omega)
      go_wp2_with fail
      clear hkd
      go_loopw [9, 7, 8] (fun i v s wr => LgRel2 w l i v s wr) (fun i _ _ _ => k - (intOf i).toNat)
      case atStart => exact ⟨0, _, 0, rfl, rfl, rfl, rfl, Nat.zero_le _, (OwI.nil : OwI _ _ _ _ []), B0⟩
      case round =>
        obtain ⟨j, v, R, rfl, hv0, rfl, hR, hj, hown, hb⟩ := hrel
        subst hv0
        rw [HLEN.out] at hj
        have HO := Lib.hid hown
        have hRb := sumAt_bound HP.out (gateK l j)
        have hgl := gateK_len l j
        rw [← hR] at hRb
        have hRb2 : 0 ≤ R ∧ R ≤ 18007938878668800 := by omega
        have HR := Lib.hid hR
        clear hown hR hRb
        by_cases hlt : j < k
        · obtain ⟨b, off, x, rfl, hpb, hbl, hx, hc⟩ := (HL.out.keep (fun b hp _ => hb.block b hp)).at_ hlt
          have hxb := HP.out x (List.mem_of_getElem? hx)
          have hgd : l.getD j 0 = x := by rw [List.getD_eq_getElem?_getD, hx]; rfl
          obtain ⟨Pd, hPd⟩ : ∃ Pd, Pd = 10 * x * (C : Int) := ⟨_, rfl⟩
          have hPb : 0 ≤ Pd ∧ Pd ≤ 20615843020800 * 8735 := by rw [hPd]; exact ⟨Int.mul_nonneg (by omega) (by omega), Int.mul_le_mul (by omega) (by omega) (by omega) (by omega)⟩
          have e10 : IntKind.i64.wrap (10 * x) = 10 * x := IntWalk.i64_in _ (by omega)
          have ePd : IntKind.i64.wrap (10 * x * (C : Int)) = Pd := by rw [← hPd]; exact IntWalk.i64_in _ (by omega)
          have HPS : Hid (passes l (l.getD j 0) = (decide (30720 ≤ x) && decide (S ≤ Pd))) := Lib.hid (by rw [hgd, passes, loud, ← HS.out.1, ← HS.out.2, ← hPd])
          have HGD := Lib.hid hgd
          have hjz : (j : Int) < (k : Int) := by omega
          have hjd : decide ((j : Int) < (k : Int)) = true := decide_eq_true hjz
          clear hx hgd hPd hPb
          cases hd1 : decide (30720 ≤ x) with
          | false =>
            have hps : passes l (l.getD j 0) = false := by rw [HPS.out, hd1]; rfl
            have HG := Lib.hid (gateK_no hps)
            clear hps
            go_wp2_with fail
            go_roundw
            case rel => exact ⟨j + 1, _, R, by go_num, rfl, rfl, by rw [HG.out]; exact HR.out, by rw [HLEN.out]; omega, by rw [HG.out]; exact HO.out, hb⟩
            case measure => simp [intOf]; omega
          | true =>
            cases hd2 : decide (S ≤ Pd) with
            | false =>
              have hps : passes l (l.getD j 0) = false := by rw [HPS.out, hd1, hd2]; rfl
              have HG := Lib.hid (gateK_no hps)
              clear hps
              go_wp2_with fail
              go_roundw
              case rel => exact ⟨j + 1, _, R, by go_num, rfl, rfl, by rw [HG.out]; exact HR.out, by rw [HLEN.out]; omega, by rw [HG.out]; exact HO.out, hb⟩
              case measure => simp [intOf]; omega
            | true =>
              have hps : passes l (l.getD j 0) = true := by rw [HPS.out, hd1, hd2]; rfl
              have HG := Lib.hid (gateK_yes hps)
              clear hps
              obtain ⟨M, hM⟩ : ∃ M, M = (natI (gateK l j)).length := ⟨_, rfl⟩
              have hMl : M ≤ 8735 := by rw [hM, natI_len]; omega
              have yo1 : wr.ownsRow w.heap.size 3 1 v M ((natI (gateK l j)).map (Value.int .i64)) := by rw [hM]; exact HO.out
              have YO := Lib.hid (World.ownsRow.alloc yo1 (.cells #[.int .i64 (j : Int)] 3))
              have YL := Lib.hid (World.ownsRow.lt HO.out)
              have YB := Lib.hid (hb.alloc hb.size (.cells #[.int .i64 (j : Int)] 3))
              have hbase : w.heap.size ≤ (wr.alloc (.cells #[.int .i64 (j : Int)] 3)).heap.size := by have := hb.size; simp; omega
              have HM := Lib.hid hM
              have HCX : Hid (∀ w3, (wr.alloc (.cells #[.int .i64 (j : Int)] 3)).grownBy w3 v.ownBlock → w3.cell? ⟨b, off + j, none⟩ = some (.int .i64 x)) := Lib.hid (fun w3 hg => (World.cell?_of_block (hg.block b (by simp; omega) (fun e => by have := (YL.out b e.symm).1; omega))).trans ((World.cell?_of_block (Below.heap_alloc wr _ b hbl)).trans hc))
              clear yo1 hM
              go_wp2_with (at_builtin; go_must (refine wpList_appR _ rfl (.tmp 51) (.tmp 53) 23 rfl 3 (.int .i64 0) 1 8 Try.underlying23 Try.infoInt rfl (by decide) w.heap.size _ M _ rfl YO.out (some ⟨wr.heap.size, 0, none⟩) 1 1 [.int .i64 (j : Int)] rfl (Rw.lit (p := fun _ => True) _ _ _ rfl 1 1 rfl rfl trivial) (by simp [Value.oneCell']) (by omega) (by omega) hbase ?_; intro v3 w3 ho3 hg3 ha3; have hcx := HCX.out w3 hg3))
              have ZB := YB.out.grown hg3 hbase (fun k hk => (YL.out k hk).1)
              have ZO : OwI w3 w.heap.size 3 v3 (natI (gateK l (j + 1))) := by
                unfold OwI
                have e1 : (natI (gateK l (j + 1))).length = M + 1 := by rw [HG.out, HM.out, natI_len, natI_len, List.length_append]; rfl
                have e2 : (natI (gateK l (j + 1))).map (Value.int .i64) = (natI (gateK l j)).map (Value.int .i64) ++ [.int .i64 (j : Int)] := by rw [HG.out]; simp [natI]
                rw [e1, e2]
                exact ho3
              go_roundw
              case rel => exact ⟨j + 1, _, R + x, by go_num, rfl, by go_num, by rw [HG.out, sumAt_snoc, HGD.out, ← HR.out], by rw [HLEN.out]; omega, ZO, ZB⟩
              case measure => simp [intOf]; omega
        · obtain rfl : j = k := by omega
          obtain ⟨B, cc, rfl⟩ := own_slice HO.out
          have hits := OwI.its (p := (w.heap.size ≤ ·)) HO.out (fun _ h => h)
          have hgl2 : gateK l j = gateL l := by unfold gateK gateL; rw [HLEN.out]
          have hR2 : R = gateSum l := by rw [HR.out, hgl2]; rfl
          have HI := Lib.hid hits
          have HE := Lib.hid (And.intro hgl2 hR2)
          have hjd : decide ((j : Int) < (j : Int)) = false := decide_eq_false (by omega)
          clear hits hgl2 hR2
          go_wp2_with fail
          refine bodyPost_ret (v := .tuple #[.slice B (natI (gateK l j)).length cc, .int .i64 R]) (by simp only [results, Try.results47]; go_simp) rfl ⟨B, _, cc, by rw [HE.out.2], by rw [← HE.out.1]; exact HI.out.1, hb, HI.out.2⟩
end Go.Proofs.Ytcgejbnmbamchaa
