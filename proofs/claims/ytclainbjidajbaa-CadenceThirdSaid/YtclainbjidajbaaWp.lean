/- cadence.weavePlane. -/
import Derived.Test.YtclainbjidajbaaLin
import Derived.Test.YtclainbjidajbaaAlkR
namespace Go.Proofs.Ytclainbjidajbaa
open Go.RowKit

def wpV (g n c1 b off d kk wd P : Nat) : Nat → Value
  | 0 => .slice (some ⟨g, 0, none⟩) n c1
  | 1 => .int .i64 (kk : Int)
  | 2 => .int .i64 (wd : Int)
  | 3 => .int .i64 (P : Int)
  | 4 => .int .i64 (kk : Int)
  | 5 => .int .i64 ((kk : Int) + 1)
  | 6 => .int .i64 (wd : Int)
  | 7 => .int .i64 ((P : Int) + (wd : Int))
  | 8 => .slice (some ⟨g, P, none⟩) wd (c1 - P)
  | 9 => .slice (some ⟨b, off, none⟩) n d
  | 10 => .int .i64 (kk : Int)
  | 11 => .int .i64 (wd : Int)
  | 12 => .int .i64 (P : Int)
  | 13 => .slice (some ⟨b, off + P, none⟩) (n - P) (d - P)
  | _ => .int .i64 (wd : Int)

set_option maxRecDepth 100000 in
/-- Slicing from a place on. -/
theorem sub_tail (b off n c : Nat) (lo : Nat) (h1 : lo ≤ n) (h2 : lo < c) :
    ∀ w, (Instr.slice 25 (.slice (some ⟨b, off, none⟩) n c) (some (.int .i64 (lo : Int))) none none).run Try.prog w = .ok (.slice (some ⟨b, off + lo, none⟩) (n - lo) (c - lo)) w := by
  intro w
  have hsz : ∀ w, (sizeOf 5).run Try.prog w = .ok 1 w := fun _ => by kernel_rfl
  rw [run_slice_l (P := Try.prog) w 25 (some ⟨b, off, none⟩) n c Try.underlying25 .i64 (lo : Int) (by omega) (by omega)]
  have hz := hsz w
  show ((sizeOf 5).run Try.prog w).andThen _ = _
  rw [hz]
  simp only [Result.andThen, sliced]
  rw [if_neg (by omega)]
  simp [Addr.add]
set_option maxRecDepth 100000 in
theorem sub_mid (b off n c : Nat) (lo m : Nat) (h1 : lo + m ≤ c) (h2 : lo < c) :
    ∀ w, (Instr.slice 25 (.slice (some ⟨b, off, none⟩) n c) (some (.int .i64 (lo : Int))) (some (.int .i64 ((lo : Int) + (m : Int)))) none).run Try.prog w = .ok (.slice (some ⟨b, off + lo, none⟩) m (c - lo)) w := by
  intro w
  have hsz : ∀ w, (sizeOf 5).run Try.prog w = .ok 1 w := fun _ => by kernel_rfl
  rw [run_slice_lh (P := Try.prog) w 25 (some ⟨b, off, none⟩) n c Try.underlying25 .i64 .i64 (lo : Int) ((lo : Int) + (m : Int)) (by omega) (by omega) (by omega)]
  have hz := hsz w
  show ((sizeOf 5).run Try.prog w).andThen _ = _
  rw [hz]
  simp only [Result.andThen, sliced]
  rw [if_neg (by omega), show ((lo : Int) + (m : Int)).toNat - (lo : Int).toNat = m by omega]
  simp [Addr.add]

set_option maxRecDepth 100000 in
set_option maxHeartbeats 4000000 in
theorem cad_weavePlane {p q : Nat → Prop} (A : Option Addr) (B : Option Addr) (n cA d : Nat) (al bl : List Int) (wd rows : Nat) (w : World) (hA : Byt p w A n al) (hB : Byt q w B n bl) (hcB : n ≤ d) (hn : n = rows * wd) (hw : 0 < wd) (hmax : n ≤ 1000000) :
    Calls Try.prog 46 #[.slice A n cA, .slice B n d, .int .i64 (wd : Int)] w (RetBc w (linesL al bl wd)) := by
  have HLA := Lib.hid hA.len
  have HLB := Lib.hid hB.len
  have HRA := Lib.hid hA.rng
  have HRB := Lib.hid hB.rng
  have HBB0 := Lib.hid (hB.mono (q := (· < w.heap.size)) (fun b h _ => h))
  have HC := Lib.hid (fun w => bytes_CloneO (p := p) A n cA al w)
  have HA := Lib.hid hA
  have HN := Lib.hid hn
  have q1 : (n : Int).tdiv (wd : Int) = (rows : Int) := by rw [Int.tdiv_eq_ediv_of_nonneg (by omega), hn, Int.natCast_mul]; exact Int.mul_ediv_cancel _ (by omega)
  have q2 : (n : Int) / (wd : Int) = (rows : Int) := by rw [hn, Int.natCast_mul]; exact Int.mul_ediv_cancel _ (by omega)
  have q3 : n / wd = rows := by rw [hn]; exact Nat.mul_div_cancel _ hw
  have z1 : ¬ (wd : Int) = 0 := by omega
  have z2 : ¬ wd = 0 := by omega
  have z3 : ((wd : Int) == 0) = false := by simp; omega
  have hrn : rows ≤ n := by rw [hn]; exact Nat.le_mul_of_pos_right _ hw
  have wrr : IntKind.i64.wrap (rows : Int) = (rows : Int) := IntWalk.i64_in _ (by omega)
  clear hA hB hn
  go_enter Try.func46, Try.ntmps46
  go_wp2_with fail
  refine (HC.out _ HA.out hmax).mono ?_
  rintro e w1 ⟨v, rfl, hov, hb1⟩
  obtain ⟨A1, c1, rfl, hc1⟩ := hov.slice
  rw [HLA.out] at hc1 ⊢
  have HO := Lib.hid hov
  clear hov
  go_wp2_with fail
  go_loopw [15] (fun i wr => ∃ k : Nat, k ≤ rows ∧ i = .int .i64 (k : Int) ∧ Below w.heap.size w wr ∧ OwB wr w.heap.size 5 (.slice A1 n c1) (partL al bl wd (k * wd))) (fun i _ => rows - (intOf i).toNat)
  case atStart => exact ⟨0, Nat.zero_le _, rfl, hb1, by rw [Nat.zero_mul, partL_zero]; rw [HLA.out] at HO; exact HO.out⟩
  case round =>
    obtain ⟨kk, hk, rfl, hb, ho⟩ := hrel
    by_cases hlt : kk < rows
    · have hP : kk * wd + wd ≤ n := by rw [HN.out, ← Nat.succ_mul]; exact Nat.mul_le_mul_right _ hlt
      obtain ⟨P, hPP⟩ : ∃ P, kk * wd = P := ⟨_, rfl⟩
      have HPP := Lib.hid hPP
      have hPP2 : (kk + 1) * wd = P + wd := by rw [Nat.succ_mul, hPP]
      have HPP2 := Lib.hid hPP2
      rw [hPP] at hP
      have i0 : (0 : Int) ≤ (kk : Int) := by omega
      have i1 : (kk : Int) < (rows : Int) := by omega
      have t2 : (kk : Int).tmod 2 = ((kk % 2 : Nat) : Int) := by rw [Int.tmod_eq_emod_of_nonneg (by omega)]; omega
      clear hPP hPP2
      by_cases hev : kk % 2 = 0
      · have u1 : (kk : Int) % 2 = 0 := by omega
        have HE := Lib.hid (partL_even al bl wd kk hev)
        rw [hev] at t2
        go_wp2_with fail
        go_roundw
        case rel => exact ⟨kk + 1, by omega, by go_num, hb, by rw [HE.out]; exact ho⟩
        case measure => (simp [intOf]; try omega)
      · have hod : kk % 2 = 1 := by omega
        have u1 : (kk : Int) % 2 = 1 := by omega
        rw [hod] at t2
        have HSPL : Hid (spl (partL al bl wd P) P ((bl.drop P |>.take (n - P)).take wd) = partL al bl wd (P + wd)) := Lib.hid (by
          rw [List.take_take, Nat.min_eq_left (by omega), ← HPP.out, partL_odd al bl wd kk hod (by rw [HLA.out, HLB.out]) (by rw [HPP2.out, HLA.out]; omega), HPP2.out, HPP.out])
        rw [HPP.out] at ho
        obtain ⟨g, cap, hv, hg0, hgl, hlc, _, _⟩ := ho.form (by rw [partL_len, HLA.out]; omega)
        injection hv with e1 e2 e3
        subst e1 e3
        obtain ⟨b, off, rfl, _, _, _⟩ := HBB0.out.addr (by omega)
        have HBB := HBB0
        have HG0 := Lib.hid hg0
        rw [partL_len, HLA.out] at hlc
        have HHB := Lib.hid hb
        have HHO := Lib.hid ho
        have hP1 : (kk : Int) * (wd : Int) = ((P : Nat) : Int) := by rw [← HPP.out]; exact (Int.natCast_mul _ _).symm
        have wP1 : IntKind.i64.wrap ((P : Nat) : Int) = ((P : Nat) : Int) := IntWalk.i64_in _ (by omega)
        have wk1 : IntKind.i64.wrap ((kk : Int) + 1) = (kk : Int) + 1 := IntWalk.i64_in _ (by omega)
        have hP2 : ((kk : Int) + 1) * (wd : Int) = (P : Int) + (wd : Int) := by rw [Int.add_mul, hP1, Int.one_mul]
        have wP2 : IntKind.i64.wrap ((P : Int) + (wd : Int)) = (P : Int) + (wd : Int) := IntWalk.i64_in _ (by omega)
        have run8 := sub_mid g 0 n c1 P wd (by omega) (by omega)
        have run13 := sub_tail b off n d P (by omega) (by omega)
        rw [Nat.zero_add] at run8
        clear hb ho hg0
        go_upto_region 6 with fail
        refine wp_region_fixedW (wpV g n c1 b off d kk wd P) (fun D w' => Below w.heap.size w w' ∧ OwB w' w.heap.size 5 (.slice (some ⟨g, 0, none⟩) n c1) (if D 14 = true then partL al bl wd (P + wd) else partL al bl wd P)) (by kernel_rfl) (by kernel_rfl) (by kernel_rfl) ?h0 ?hstep ?hend
        case h0 => exact ⟨HHB.out.drew, HHO.out.drew⟩
        case hstep =>
          intro k o ho D ac wx fr hG hcl hDi hpre
          have o1 : ac.tmps[1]?.getD undef = .slice (some ⟨b, off, none⟩) n d := fr.oldT 1 rfl
          have o2 : ac.tmps[2]?.getD undef = .int .i64 (wd : Int) := fr.oldT 2 rfl
          have o7 : ac.tmps[7]?.getD undef = .slice (some ⟨g, 0, none⟩) n c1 := fr.oldT 7 rfl
          have o8 : ac.tmps[8]?.getD undef = .int .i64 (kk : Int) := fr.oldT 8 rfl
          have hkn : k < 15 := (List.getElem?_eq_some_iff.1 ho).1
          rcases (show k = 0 ∨ k = 1 ∨ k = 2 ∨ k = 3 ∨ k = 4 ∨ k = 5 ∨ k = 6 ∨ k = 7 ∨ k = 8 ∨ k = 9 ∨ k = 10 ∨ k = 11 ∨ k = 12 ∨ k = 13 ∨ k = 14 by omega) with rfl | rfl | rfl | rfl | rfl | rfl | rfl | rfl | rfl | rfl | rfl | rfl | rfl | rfl | rfl
          all_goals (simp only [List.getElem?_cons_zero, List.getElem?_cons_succ, Option.some.injEq] at ho; subst ho)
          · refine ⟨true, rfl, fun _ => wp_value (w' := wx) ?_ ⟨rfl, hG⟩, (fun h => by cases h)⟩
            simp [execOp, o7, wpV, go_sem]
          · refine ⟨true, rfl, fun _ => wp_value (w' := wx) ?_ ⟨rfl, hG⟩, (fun h => by cases h)⟩
            simp [execOp, o8, wpV, go_sem]
          · refine ⟨true, rfl, fun _ => wp_value (w' := wx) ?_ ⟨rfl, hG⟩, (fun h => by cases h)⟩
            simp [execOp, o2, wpV, go_sem]
          · have f1 := fr.atT 1 (hpre ⟨1, .data⟩ (by simp) rfl) rfl
            have f2 := fr.atT 2 (hpre ⟨2, .data⟩ (by simp) rfl) rfl
            refine ⟨true, rfl, fun _ => wp_value (w' := wx) ?_ ⟨rfl, hG⟩, (fun h => by cases h)⟩
            simp [execOp, f1, f2, wpV, go_sem, hP1, wP1]
          · refine ⟨true, rfl, fun _ => wp_value (w' := wx) ?_ ⟨rfl, hG⟩, (fun h => by cases h)⟩
            simp [execOp, o8, wpV, go_sem]
          · have f4 := fr.atT 4 (hpre ⟨4, .data⟩ (by simp) rfl) rfl
            refine ⟨true, rfl, fun _ => wp_value (w' := wx) ?_ ⟨rfl, hG⟩, (fun h => by cases h)⟩
            simp [execOp, f4, wpV, go_sem, wk1]
          · refine ⟨true, rfl, fun _ => wp_value (w' := wx) ?_ ⟨rfl, hG⟩, (fun h => by cases h)⟩
            simp [execOp, o2, wpV, go_sem]
          · have f5 := fr.atT 5 (hpre ⟨5, .data⟩ (by simp) rfl) rfl
            have f6 := fr.atT 6 (hpre ⟨6, .data⟩ (by simp) rfl) rfl
            refine ⟨true, rfl, fun _ => wp_value (w' := wx) ?_ ⟨rfl, hG⟩, (fun h => by cases h)⟩
            simp [execOp, f5, f6, wpV, go_sem, hP2, wP2]
          · have f0 := fr.atT 0 (hpre ⟨0, .data⟩ (by simp) rfl) rfl
            have f3 := fr.atT 3 (hpre ⟨3, .data⟩ (by simp) rfl) rfl
            have f7 := fr.atT 7 (hpre ⟨7, .data⟩ (by simp) rfl) rfl
            refine ⟨true, rfl, fun _ => ?_, (fun h => by cases h)⟩
            have e0 := fr.at_ 0 (hpre ⟨0, .data⟩ (by simp) rfl) rfl
            have e3 := fr.at_ 3 (hpre ⟨3, .data⟩ (by simp) rfl) rfl
            have e7 := fr.at_ 7 (hpre ⟨7, .data⟩ (by simp) rfl) rfl
            simp only [wpV] at e0 e3 e7
            refine wp_value (w' := wx) ?_ ⟨rfl, hG⟩
            simp [execOp, e0, e3, e7, wpV, Instr.sliceAt, run8, Sem.run_bind, Sem.run_pure, Result.andThen]
          · refine ⟨true, rfl, fun _ => wp_value (w' := wx) ?_ ⟨rfl, hG⟩, (fun h => by cases h)⟩
            simp [execOp, o1, wpV, go_sem]
          · refine ⟨true, rfl, fun _ => wp_value (w' := wx) ?_ ⟨rfl, hG⟩, (fun h => by cases h)⟩
            simp [execOp, o8, wpV, go_sem]
          · refine ⟨true, rfl, fun _ => wp_value (w' := wx) ?_ ⟨rfl, hG⟩, (fun h => by cases h)⟩
            simp [execOp, o2, wpV, go_sem]
          · have f10 := fr.atT 10 (hpre ⟨10, .data⟩ (by simp) rfl) rfl
            have f11 := fr.atT 11 (hpre ⟨11, .data⟩ (by simp) rfl) rfl
            refine ⟨true, rfl, fun _ => wp_value (w' := wx) ?_ ⟨rfl, hG⟩, (fun h => by cases h)⟩
            simp [execOp, f10, f11, wpV, go_sem, hP1, wP1]
          · have f9 := fr.atT 9 (hpre ⟨9, .data⟩ (by simp) rfl) rfl
            have f12 := fr.atT 12 (hpre ⟨12, .data⟩ (by simp) rfl) rfl
            refine ⟨true, rfl, fun _ => ?_, (fun h => by cases h)⟩
            have e0 := fr.at_ 9 (hpre ⟨9, .data⟩ (by simp) rfl) rfl
            have e3 := fr.at_ 12 (hpre ⟨12, .data⟩ (by simp) rfl) rfl
            simp only [wpV] at e0 e3
            refine wp_value (w' := wx) ?_ ⟨rfl, hG⟩
            simp [execOp, e0, e3, wpV, Instr.sliceAt, run13, Sem.run_bind, Sem.run_pure, Result.andThen]
          · have f8 := fr.atT 8 (hpre ⟨8, .data⟩ (by simp) rfl) rfl
            have f13 := fr.atT 13 (hpre ⟨13, .data⟩ (by simp) rfl) rfl
            refine ⟨true, rfl, fun _ => ?_, (fun h => by cases h)⟩
            obtain ⟨w', hrun, ho', hg'⟩ := run_copyO (P := Try.prog) wx 25 3 5 Try.underlying25 Try.infoB w.heap.size g n c1 (partL al bl wd P) (by have h := hG.2; rw [hDi] at h; exact h) P wd (c1 - P) b (off + P) (n - P) (d - P) (bl.drop P |>.take (n - P)) ((HBB.out.below hG.1 (fun _ _ h => h)).sub (by omega)) (by omega) (by rw [partL_len, HLA.out]; omega)
            refine wp_value (w' := w') ?_ ⟨rfl, hG.1.grown hg' hG.1.size (fun j hj => by cases hj; exact HG0.out), ?_⟩
            · have e8 := fr.at_ 8 (hpre ⟨8, .data⟩ (by simp) rfl) rfl
              have e13 := fr.at_ 13 (hpre ⟨13, .data⟩ (by simp) rfl) rfl
              simp only [wpV] at e8 e13
              simp only [execOp, resolve, invoke, builtin, Sem.run_bind, Sem.run_pure, Result.andThen_ok, List.map_toArray, List.map_cons, List.map_nil, e8, e13, hrun]
              rfl
            · rw [HSPL.out] at ho'
              exact ho'
        case hend =>
          intro D w7 hG hall
          have hd := hall 14 (by decide)
          rw [hd] at hG
          obtain ⟨hB7, hO7⟩ := hG
          simp only [putsU, Act.put, List.setIfInBounds_toArray, List.set_cons_succ, List.set_cons_zero, Nat.zero_add, Nat.reduceAdd, wpV]
          have HO7 := Lib.hid hO7
          have HB7 := Lib.hid hB7
          clear hall hd hO7 hB7 run8 run13
          go_wp2_with fail
          go_roundw
          case rel => exact ⟨kk + 1, by omega, by go_num, HB7.out, by rw [HPP2.out]; exact HO7.out⟩
          case measure => (simp [intOf]; try omega)
    · have hkn : kk = rows := by omega
      subst hkn
      have HHO := Lib.hid ho
      clear ho
      go_wp2_with fail
      go_ret
      have ho := HHO.out
      rw [← HN.out, partL_full al bl wd n (by rw [HLA.out]; exact Nat.le_refl _)] at ho
      have hr := linesL_rng (wd := wd) (HLB.out.trans HLA.out.symm) HRA.out HRB.out
      have hbyt := OwB.byt (p := (w.heap.size ≤ ·)) ho (fun b h => h) hr
      exact ⟨_, _, _, rfl, hbyt, hb, hc1⟩
end Go.Proofs.Ytclainbjidajbaa
