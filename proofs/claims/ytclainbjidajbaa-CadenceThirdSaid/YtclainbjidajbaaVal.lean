/- cadence.valid and the reference's Valid. -/
import Derived.Test.YtclainbjidajbaaFrm
namespace Go.Proofs.Ytclainbjidajbaa
open Go.RowKit

def sizeV (W H : Int) : Prop := 16 ≤ W ∧ W ≤ 64 ∧ W % 16 = 0 ∧ 16 ≤ H ∧ H ≤ 64 ∧ H % 16 = 0
instance (W H : Int) : Decidable (sizeV W H) := by unfold sizeV; infer_instance
def validF (f : Fr) : Bool := decide (sizeV f.W f.H ∧ (f.Y.length : Int) = f.W * f.H ∧ (f.U.length : Int) = f.W * f.H / 4 ∧ (f.V.length : Int) = f.W * f.H / 4)
theorem size_mul {W H : Int} (h : sizeV W H) : 256 ≤ W * H ∧ W * H ≤ 4096 := by
  obtain ⟨h1, h2, _, h4, h5, _⟩ := h
  have a := Int.mul_le_mul h1 h4 (by omega) (by omega)
  have b := Int.mul_le_mul h2 h5 (by omega) (by omega)
  omega

set_option maxHeartbeats 2000000 in
theorem cad_valid {q : Nat → Prop} (x : FA) (w : World) (h : FrmOk q w x) :
    Calls Try.prog 39 #[x.val] w fun e w' => e = .returned (.bool (validF x.f)) ∧ Below w.heap.size w w' := by
  obtain ⟨⟨W, H, Y, U, V⟩, ya, yn, yc, ua, un, uc, va, vn, vc⟩ := x
  have e1 := h.y.len; have e2 := h.u.len; have e3 := h.v.len
  dsimp only at e1 e2 e3
  subst e1 e2 e3
  show Calls _ _ #[.agg #[.int .i64 W, .int .i64 H, .slice ya Y.length yc, .slice ua U.length uc, .slice va V.length vc]] w _
  clear h
  by_cases hs : sizeV W H
  · have hm := size_mul hs
    obtain ⟨h1, h2, h3, h4, h5, h6⟩ := hs
    obtain ⟨m, hm'⟩ : ∃ m, W * H = m := ⟨_, rfl⟩
    rw [hm'] at hm
    have hv : validF ⟨W, H, Y, U, V⟩ = decide ((Y.length : Int) = m ∧ (U.length : Int) = m / 4 ∧ (V.length : Int) = m / 4) := by
      unfold validF
      rw [← hm', decide_eq_decide]
      exact ⟨fun h => h.2, fun h => ⟨⟨h1, h2, h3, h4, h5, h6⟩, h⟩⟩
    rw [hv]
    clear hv
    go_enter Try.func39, Try.ntmps39
    simp only [List.append_eq, List.cons_append, List.nil_append]
    go_wp2
    all_goals
      go_ret
      refine ⟨ret_bool ?_, (Below.refl _ _).alloc (Nat.le_refl _) _⟩
      rw [Bool.eq_iff_iff]
      simp [*]
  · have hv : validF ⟨W, H, Y, U, V⟩ = false := decide_eq_false (fun h => hs h.1)
    rw [hv]
    clear hv
    rcases (by unfold sizeV at hs; omega : W < 16 ∨ (16 ≤ W ∧ 64 < W) ∨ (16 ≤ W ∧ W ≤ 64 ∧ ¬ W % 16 = 0) ∨ (16 ≤ W ∧ W ≤ 64 ∧ W % 16 = 0 ∧ H < 16) ∨ (16 ≤ W ∧ W ≤ 64 ∧ W % 16 = 0 ∧ 16 ≤ H ∧ 64 < H) ∨ (16 ≤ W ∧ W ≤ 64 ∧ W % 16 = 0 ∧ 16 ≤ H ∧ H ≤ 64 ∧ ¬ H % 16 = 0)) with h1 | ⟨h1, h2⟩ | ⟨h1, h2, h3⟩ | ⟨h1, h2, h3, h4⟩ | ⟨h1, h2, h3, h4, h5⟩ | ⟨h1, h2, h3, h4, h5, h6⟩
    · clear hs
      have d0 : decide (16 ≤ W) = false := decide_eq_false (by omega)
      go_enter Try.func39, Try.ntmps39
      simp only [List.append_eq, List.cons_append, List.nil_append]
      go_wp2_with fail
      go_ret
      exact ⟨rfl, (Below.refl _ _).alloc (Nat.le_refl _) _⟩
    · clear hs
      have d0 : decide (16 ≤ W) = true := decide_eq_true (by omega)
      have d1 : decide (W ≤ 64) = false := decide_eq_false (by omega)
      go_enter Try.func39, Try.ntmps39
      simp only [List.append_eq, List.cons_append, List.nil_append]
      go_wp2_with fail
      go_ret
      exact ⟨rfl, (Below.refl _ _).alloc (Nat.le_refl _) _⟩
    · clear hs
      have d0 : decide (16 ≤ W) = true := decide_eq_true (by omega)
      have d1 : decide (W ≤ 64) = true := decide_eq_true (by omega)
      have t2 : W.tmod 16 = W % 16 := Int.tmod_eq_emod_of_nonneg (by omega)
      have d2 : (W % 16 == 0) = false := by simp; omega
      go_enter Try.func39, Try.ntmps39
      simp only [List.append_eq, List.cons_append, List.nil_append]
      go_wp2_with fail
      go_ret
      exact ⟨rfl, (Below.refl _ _).alloc (Nat.le_refl _) _⟩
    · clear hs
      have d0 : decide (16 ≤ W) = true := decide_eq_true (by omega)
      have d1 : decide (W ≤ 64) = true := decide_eq_true (by omega)
      have t2 : W.tmod 16 = W % 16 := Int.tmod_eq_emod_of_nonneg (by omega)
      have d2 : (W % 16 == 0) = true := by simp; omega
      have d3 : decide (16 ≤ H) = false := decide_eq_false (by omega)
      go_enter Try.func39, Try.ntmps39
      simp only [List.append_eq, List.cons_append, List.nil_append]
      go_wp2_with fail
      go_ret
      exact ⟨rfl, (Below.refl _ _).alloc (Nat.le_refl _) _⟩
    · clear hs
      have d0 : decide (16 ≤ W) = true := decide_eq_true (by omega)
      have d1 : decide (W ≤ 64) = true := decide_eq_true (by omega)
      have t2 : W.tmod 16 = W % 16 := Int.tmod_eq_emod_of_nonneg (by omega)
      have d2 : (W % 16 == 0) = true := by simp; omega
      have d3 : decide (16 ≤ H) = true := decide_eq_true (by omega)
      have d4 : decide (H ≤ 64) = false := decide_eq_false (by omega)
      go_enter Try.func39, Try.ntmps39
      simp only [List.append_eq, List.cons_append, List.nil_append]
      go_wp2_with fail
      go_ret
      exact ⟨rfl, (Below.refl _ _).alloc (Nat.le_refl _) _⟩
    · clear hs
      have d0 : decide (16 ≤ W) = true := decide_eq_true (by omega)
      have d1 : decide (W ≤ 64) = true := decide_eq_true (by omega)
      have t2 : W.tmod 16 = W % 16 := Int.tmod_eq_emod_of_nonneg (by omega)
      have d2 : (W % 16 == 0) = true := by simp; omega
      have d3 : decide (16 ≤ H) = true := decide_eq_true (by omega)
      have d4 : decide (H ≤ 64) = true := decide_eq_true (by omega)
      have t5 : H.tmod 16 = H % 16 := Int.tmod_eq_emod_of_nonneg (by omega)
      have d5 : (H % 16 == 0) = false := by simp; omega
      go_enter Try.func39, Try.ntmps39
      simp only [List.append_eq, List.cons_append, List.nil_append]
      go_wp2_with fail
      go_ret
      exact ⟨rfl, (Below.refl _ _).alloc (Nat.le_refl _) _⟩

set_option maxHeartbeats 2000000 in
theorem ref_Valid {q : Nat → Prop} (x : FA) (w : World) (h : FrmOk q w x) :
    Calls Try.prog 41 #[x.val] w fun e w' => e = .returned (.bool (validF x.f)) ∧ Below w.heap.size w w' := by
  obtain ⟨⟨W, H, Y, U, V⟩, ya, yn, yc, ua, un, uc, va, vn, vc⟩ := x
  have e1 := h.y.len; have e2 := h.u.len; have e3 := h.v.len
  dsimp only at e1 e2 e3
  subst e1 e2 e3
  show Calls _ _ #[.agg #[.int .i64 W, .int .i64 H, .slice ya Y.length yc, .slice ua U.length uc, .slice va V.length vc]] w _
  clear h
  by_cases hs : sizeV W H
  · have hm := size_mul hs
    obtain ⟨h1, h2, h3, h4, h5, h6⟩ := hs
    obtain ⟨m, hm'⟩ : ∃ m, W * H = m := ⟨_, rfl⟩
    rw [hm'] at hm
    have hv : validF ⟨W, H, Y, U, V⟩ = decide ((Y.length : Int) = m ∧ (U.length : Int) = m / 4 ∧ (V.length : Int) = m / 4) := by
      unfold validF
      rw [← hm', decide_eq_decide]
      exact ⟨fun h => h.2, fun h => ⟨⟨h1, h2, h3, h4, h5, h6⟩, h⟩⟩
    rw [hv]
    clear hv
    go_enter Try.func41, Try.ntmps41
    go_wp2
    all_goals
      go_ret
      refine ⟨ret_bool ?_, (Below.refl _ _).alloc (Nat.le_refl _) _⟩
      first | rfl | (rw [Bool.eq_iff_iff]; first | (exfalso; omega) | (simp [*]; done))
  · have hv : validF ⟨W, H, Y, U, V⟩ = false := decide_eq_false (fun h => hs h.1)
    rw [hv]
    clear hv
    rcases (by unfold sizeV at hs; omega : W < 16 ∨ (16 ≤ W ∧ 64 < W) ∨ (16 ≤ W ∧ W ≤ 64 ∧ ¬ W % 16 = 0) ∨ (16 ≤ W ∧ W ≤ 64 ∧ W % 16 = 0 ∧ H < 16) ∨ (16 ≤ W ∧ W ≤ 64 ∧ W % 16 = 0 ∧ 16 ≤ H ∧ 64 < H) ∨ (16 ≤ W ∧ W ≤ 64 ∧ W % 16 = 0 ∧ 16 ≤ H ∧ H ≤ 64 ∧ ¬ H % 16 = 0)) with h1 | ⟨h1, h2⟩ | ⟨h1, h2, h3⟩ | ⟨h1, h2, h3, h4⟩ | ⟨h1, h2, h3, h4, h5⟩ | ⟨h1, h2, h3, h4, h5, h6⟩
    all_goals
      clear hs
      go_enter Try.func41, Try.ntmps41
      go_wp2
    all_goals
      go_ret
      exact ⟨rfl, (Below.refl _ _).alloc (Nat.le_refl _) _⟩
end Go.Proofs.Ytclainbjidajbaa
