/- The contracts of has, component, macroblock, place and their references. -/
import Derived.Test.YtaedpadkpclldaaBlkM
namespace Go.Proofs.Ytaedpadkpclldaa
open Go.RowKit


set_option maxHeartbeats 1000000 in
theorem ref_Has {p : Nat → Prop} (v : Value) (f : Fr) (mx my : Int) (w : World) (h : IsFr p w v f) :
    Calls Try.prog 35 #[v, .int .i64 mx, .int .i64 my] w fun e w' => e = .returned (.bool (hasB f mx my)) ∧ Below w.heap.size w w' := by
  have h0 := h
  obtain ⟨ya, yn, yc, ua, un, uc, va, vn, vc, rfl, hy, hu, hv⟩ := h
  clear hy hu hv
  by_cases hs : validB f = true
  · have hp : 2 ≤ f.W ∧ f.W ≤ 64 ∧ 2 ≤ f.H ∧ f.H ≤ 64 := by
      obtain ⟨a, b, h1, h2, _⟩ := valid_sizes hs
      omega
    go_enter Try.func35, Try.ntmps35
    go_wp2_with fail
    refine (ref_Valid (p := p) _ f _ (by (repeat with_reducible apply IsFr.alloc); exact h0)).mono ?_
    rintro e w1 ⟨rfl, hb1⟩
    obtain ⟨c_w1, z_w1⟩ := bcell hb1
    have s_w1 := hb1.size
    try simp at s_w1
    try simp at c_w1
    try simp at z_w1
    have q_w1_0 : w.heap.size < w1.heap.size := by omega
    go_wp2_with fail
    all_goals
      go_ret
      refine ⟨ret_bool ?_, ((Below.refl _ w).alloc (by simp) _).trans (hb1.mono (by simp))⟩
      rw [Bool.eq_iff_iff]
      first | (simp [hasB, *]; done) | (simp [hasB, *]; intros; omega)
  · have hs' : validB f = false := by simpa using hs
    go_enter Try.func35, Try.ntmps35
    go_wp2_with fail
    refine (ref_Valid (p := p) _ f _ (by (repeat with_reducible apply IsFr.alloc); exact h0)).mono ?_
    rintro e w1 ⟨rfl, hb1⟩
    go_wp2_with fail
    go_ret
    exact ⟨ret_bool (by simp [hasB, hs']), ((Below.refl _ w).alloc (by simp) _).trans (hb1.mono (by simp))⟩
def compS (n : Nat) (y u v : Value) : Value := if n = 4 then u else if n = 5 then v else y



end Go.Proofs.Ytaedpadkpclldaa
namespace Go.Proofs.Ytaedpadkpclldaa
open Go.RowKit

theorem mul_bd2 {x y m k : Int} (hx0 : 0 ≤ x) (hx : x ≤ m) (hy0 : 0 ≤ y) (hy : y ≤ k) (hm : 0 ≤ m) : 0 ≤ x * y ∧ x * y ≤ m * k :=
  ⟨Int.mul_nonneg hx0 hy0, Int.mul_le_mul hx hy hy0 hm⟩
theorem ret_area {a b a' b' : Int} (ha : a = a') (hb : b = b') : Ending.returned (.agg #[.int .i64 a, .int .i64 b, .int .i64 8, .int .i64 8]) = .returned (.agg #[.int .i64 a', .int .i64 b', .int .i64 8, .int .i64 8]) := by rw [ha, hb]

theorem ret_i64 {a b : Int} (h : a = b) : Ending.returned (.int .i64 a) = .returned (.int .i64 b) := by rw [h]
end Go.Proofs.Ytaedpadkpclldaa
