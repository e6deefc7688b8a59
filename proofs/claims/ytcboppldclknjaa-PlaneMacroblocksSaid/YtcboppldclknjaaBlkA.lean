/- The contracts of has, component, macroblock, place and their references. -/
import Derived.Test.YtcboppldclknjaaBlkM
namespace Go.Proofs.Ytcboppldclknjaa
open Go.RowKit

set_option maxHeartbeats 1000000 in
theorem plane_has {p : Nat → Prop} (v : Value) (f : Fr) (mx my : Int) (w : World) (h : IsFr p w v f) :
    Calls Try.prog 51 #[v, .int .i64 mx, .int .i64 my] w fun e w' => e = .returned (.bool (hasB f mx my)) ∧ Below w.heap.size w w' := by
  have h0 := h
  obtain ⟨ya, yn, yc, ua, un, uc, va, vn, vc, rfl, hy, hu, hv⟩ := h
  clear hy hu hv
  by_cases hs : validB f = true
  · have hp : 2 ≤ f.W ∧ f.W ≤ 64 ∧ 2 ≤ f.H ∧ f.H ≤ 64 := by
      obtain ⟨a, b, h1, h2, _⟩ := valid_sizes hs
      omega
    go_enter Try.func51, Try.ntmps51
    go_wp2_with fail
    refine (plane_Valid (p := p) _ f _ (by (repeat with_reducible apply IsFr.alloc); exact h0)).mono ?_
    rintro e w1 ⟨rfl, hb1⟩
    obtain ⟨c_w1, z_w1⟩ := bcell hb1
    have s_w1 := hb1.size
    try simp at s_w1
    try simp at c_w1
    try simp at z_w1
    have q_w1_0 : w.heap.size < w1.heap.size := by omega
    go_wp2_with fail
    all_goals
      go_ret
      refine ⟨ret_bool ?_, ((Below.refl _ w).alloc (by simp) _).trans (hb1.mono (by simp))⟩
      rw [Bool.eq_iff_iff]
      first | (simp [hasB, *]; done) | (simp [hasB, *]; intros; omega)
  · have hs' : validB f = false := by simpa using hs
    go_enter Try.func51, Try.ntmps51
    go_wp2_with fail
    refine (plane_Valid (p := p) _ f _ (by (repeat with_reducible apply IsFr.alloc); exact h0)).mono ?_
    rintro e w1 ⟨rfl, hb1⟩
    go_wp2_with fail
    go_ret
    exact ⟨ret_bool (by simp [hasB, hs']), ((Below.refl _ w).alloc (by simp) _).trans (hb1.mono (by simp))⟩

set_option maxHeartbeats 1000000 in
theorem ref_Has {p : Nat → Prop} (v : Value) (f : Fr) (mx my : Int) (w : World) (h : IsFr p w v f) :
    Calls Try.prog 54 #[v, .int .i64 mx, .int .i64 my] w fun e w' => e = .returned (.bool (hasB f mx my)) ∧ Below w.heap.size w w' := by
  have h0 := h
  obtain ⟨ya, yn, yc, ua, un, uc, va, vn, vc, rfl, hy, hu, hv⟩ := h
  clear hy hu hv
  by_cases hs : validB f = true
  · have hp : 2 ≤ f.W ∧ f.W ≤ 64 ∧ 2 ≤ f.H ∧ f.H ≤ 64 := by
      obtain ⟨a, b, h1, h2, _⟩ := valid_sizes hs
      omega
    go_enter Try.func54, Try.ntmps54
    go_wp2_with fail
    refine (ref_Valid (p := p) _ f _ (by (repeat with_reducible apply IsFr.alloc); exact h0)).mono ?_
    rintro e w1 ⟨rfl, hb1⟩
    obtain ⟨c_w1, z_w1⟩ := bcell hb1
    have s_w1 := hb1.size
    try simp at s_w1
    try simp at c_w1
    try simp at z_w1
    have q_w1_0 : w.heap.size < w1.heap.size := by omega
    go_wp2_with fail
    all_goals
      go_ret
      refine ⟨ret_bool ?_, ((Below.refl _ w).alloc (by simp) _).trans (hb1.mono (by simp))⟩
      rw [Bool.eq_iff_iff]
      first | (simp [hasB, *]; done) | (simp [hasB, *]; intros; omega)
  · have hs' : validB f = false := by simpa using hs
    go_enter Try.func54, Try.ntmps54
    go_wp2_with fail
    refine (ref_Valid (p := p) _ f _ (by (repeat with_reducible apply IsFr.alloc); exact h0)).mono ?_
    rintro e w1 ⟨rfl, hb1⟩
    go_wp2_with fail
    go_ret
    exact ⟨ret_bool (by simp [hasB, hs']), ((Below.refl _ w).alloc (by simp) _).trans (hb1.mono (by simp))⟩
def compS (n : Nat) (y u v : Value) : Value := if n = 4 then u else if n = 5 then v else y

set_option maxHeartbeats 1000000 in
theorem plane_component (x y : Int) (ya ua va : Option Addr) (yn yc un uc vn vc n : Nat) (w : World) :
    Calls Try.prog 52 #[.agg #[.int .i64 x, .int .i64 y, .slice ya yn yc, .slice ua un uc, .slice va vn vc], .int .i64 n] w fun e w' => e = .returned (compS n (.slice ya yn yc) (.slice ua un uc) (.slice va vn vc)) ∧ Below w.heap.size w w' := by
  unfold compS
  by_cases h4 : n = 4
  · subst h4
    rw [if_pos rfl]
    go_enter Try.func52, Try.ntmps52
    go_wp2
    go_ret
    exact ⟨rfl, (Below.refl _ w).alloc (by simp) _⟩
  · rw [if_neg h4]
    have g4 : ((n : Int) == 4) = false := by rw [beq_eq_false_iff_ne]; omega
    by_cases h5 : n = 5
    · subst h5
      rw [if_pos rfl]
      go_enter Try.func52, Try.ntmps52
      go_wp2
      go_ret
      exact ⟨rfl, (Below.refl _ w).alloc (by simp) _⟩
    · rw [if_neg h5]
      have g5 : ((n : Int) == 5) = false := by rw [beq_eq_false_iff_ne]; omega
      go_enter Try.func52, Try.ntmps52
      go_wp2
      go_ret
      exact ⟨rfl, (Below.refl _ w).alloc (by simp) _⟩

set_option maxHeartbeats 1000000 in
theorem ref_Plane (x y : Int) (ya ua va : Option Addr) (yn yc un uc vn vc n : Nat) (w : World) :
    Calls Try.prog 55 #[.agg #[.int .i64 x, .int .i64 y, .slice ya yn yc, .slice ua un uc, .slice va vn vc], .int .i64 n] w fun e w' => e = .returned (compS n (.slice ya yn yc) (.slice ua un uc) (.slice va vn vc)) ∧ Below w.heap.size w w' := by
  unfold compS
  by_cases h4 : n = 4
  · subst h4
    rw [if_pos rfl]
    go_enter Try.func55, Try.ntmps55
    go_wp2
    go_ret
    exact ⟨rfl, (Below.refl _ w).alloc (by simp) _⟩
  · rw [if_neg h4]
    have g4 : ((n : Int) == 4) = false := by rw [beq_eq_false_iff_ne]; omega
    by_cases h5 : n = 5
    · subst h5
      rw [if_pos rfl]
      go_enter Try.func55, Try.ntmps55
      go_wp2
      go_ret
      exact ⟨rfl, (Below.refl _ w).alloc (by simp) _⟩
    · rw [if_neg h5]
      have g5 : ((n : Int) == 5) = false := by rw [beq_eq_false_iff_ne]; omega
      go_enter Try.func55, Try.ntmps55
      go_wp2
      go_ret
      exact ⟨rfl, (Below.refl _ w).alloc (by simp) _⟩

set_option maxHeartbeats 1000000 in
theorem plane_macroblock (W mx my : Int) (w : World) (w1 : 0 ≤ W) (w2 : W ≤ 64) (x1 : 0 ≤ mx) (x2 : mx ≤ 3) (y1 : 0 ≤ my) (y2 : my ≤ 3) :
    Calls Try.prog 59 #[.int .i64 W, .int .i64 mx, .int .i64 my] w fun e w' => e = .returned (.tuple #[.agg #[.int .i64 (16 * my * W + 16 * mx), .int .i64 W, .int .i64 16, .int .i64 16], .agg #[.int .i64 (8 * my * (W / 2) + 8 * mx), .int .i64 (W / 2), .int .i64 8, .int .i64 8]]) ∧ Below w.heap.size w w' := by
  have m1 := mul_bd (x := 16 * my) (y := W) (m := 64) (by omega) (by omega) (by omega) (by omega)
  have m2 := mul_bd (x := 8 * my) (y := W / 2) (m := 64) (by omega) (by omega) (by omega) (by omega)
  go_enter Try.func59, Try.ntmps59
  go_wp2
  go_region
  all_goals go_wp2
  all_goals
    refine bodyPost_ret (v := .tuple #[.agg #[.int .i64 (16 * my * W + 16 * mx), .int .i64 W, .int .i64 16, .int .i64 16], .agg #[.int .i64 (8 * my * (W / 2) + 8 * mx), .int .i64 (W / 2), .int .i64 8, .int .i64 8]]) (by simp only [results, Try.results59]; go_simp) rfl ⟨rfl, ?_⟩
    repeat refine Below.setCell ?_ (by first | (simp; done) | (simp; omega)) _
    first
    | exact (((Below.refl _ w).alloc (by simp) _).alloc (by simp) _).drew
    | trace_state
end Go.Proofs.Ytcboppldclknjaa
