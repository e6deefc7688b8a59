/- The contracts of Valid. -/
import Derived.Test.YtaedpadkpclldaaForm
namespace Go.Proofs.Ytaedpadkpclldaa
open Go.RowKit
def validB (f : Fr) : Bool := formedB f && decide (f.W % 16 = 0) && decide (f.H % 16 = 0)

set_option maxHeartbeats 400000 in
theorem plane_Valid {p : Nat → Prop} (v : Value) (f : Fr) (w : World) (h : IsFr p w v f) :
    Calls Try.prog 38 #[v] w fun e w' => e = .returned (.bool (validB f)) ∧ Below w.heap.size w w' := by
  have h0 := h
  obtain ⟨ya, yn, yc, ua, un, uc, va, vn, vc, rfl, hy, hu, hv⟩ := h
  clear hy hu hv
  by_cases hs : formedB f = true
  · have hp : 2 ≤ f.W ∧ f.W ≤ 64 ∧ 2 ≤ f.H ∧ f.H ≤ 64 := by
      simp only [formedB, Bool.and_eq_true] at hs
      have := sizeB_true hs.1.1.1
      omega
    go_enter Try.func38, Try.ntmps38
    go_wp2_with fail
    refine (plane_Formed (p := p) _ f _ (by (repeat with_reducible apply IsFr.alloc); exact h0)).mono ?_
    rintro e w1 ⟨rfl, hb1⟩
    obtain ⟨c_w1, z_w1⟩ := bcell hb1
    have s_w1 := hb1.size
    try simp at s_w1
    try simp at c_w1
    try simp at z_w1
    have q_w1_0 : w.heap.size < w1.heap.size := by omega
    go_wp2_with fail
    all_goals
      go_ret
      refine ⟨ret_bool ?_, ((Below.refl _ w).alloc (by simp) _).trans (hb1.mono (by simp))⟩
      rw [Bool.eq_iff_iff]
      simp [validB, *]
  · have hs' : formedB f = false := by simpa using hs
    go_enter Try.func38, Try.ntmps38
    go_wp2_with fail
    refine (plane_Formed (p := p) _ f _ (by (repeat with_reducible apply IsFr.alloc); exact h0)).mono ?_
    rintro e w1 ⟨rfl, hb1⟩
    go_wp2_with fail
    go_ret
    exact ⟨ret_bool (by simp [validB, hs']), ((Below.refl _ w).alloc (by simp) _).trans (hb1.mono (by simp))⟩

set_option maxHeartbeats 400000 in
theorem ref_Valid {p : Nat → Prop} (v : Value) (f : Fr) (w : World) (h : IsFr p w v f) :
    Calls Try.prog 17 #[v] w fun e w' => e = .returned (.bool (validB f)) ∧ Below w.heap.size w w' := by
  have h0 := h
  obtain ⟨ya, yn, yc, ua, un, uc, va, vn, vc, rfl, hy, hu, hv⟩ := h
  clear hy hu hv
  by_cases hs : formedB f = true
  · have hp : 2 ≤ f.W ∧ f.W ≤ 64 ∧ 2 ≤ f.H ∧ f.H ≤ 64 := by
      simp only [formedB, Bool.and_eq_true] at hs
      have := sizeB_true hs.1.1.1
      omega
    go_enter Try.func17, Try.ntmps17
    go_wp2_with fail
    refine (ref_Formed (p := p) _ f _ (by (repeat with_reducible apply IsFr.alloc); exact h0)).mono ?_
    rintro e w1 ⟨rfl, hb1⟩
    obtain ⟨c_w1, z_w1⟩ := bcell hb1
    have s_w1 := hb1.size
    try simp at s_w1
    try simp at c_w1
    try simp at z_w1
    have q_w1_0 : w.heap.size < w1.heap.size := by omega
    go_wp2_with fail
    all_goals
      go_ret
      refine ⟨ret_bool ?_, ((Below.refl _ w).alloc (by simp) _).trans (hb1.mono (by simp))⟩
      rw [Bool.eq_iff_iff]
      simp [validB, *]
  · have hs' : formedB f = false := by simpa using hs
    go_enter Try.func17, Try.ntmps17
    go_wp2_with fail
    refine (ref_Formed (p := p) _ f _ (by (repeat with_reducible apply IsFr.alloc); exact h0)).mono ?_
    rintro e w1 ⟨rfl, hb1⟩
    go_wp2_with fail
    go_ret
    exact ⟨ret_bool (by simp [validB, hs']), ((Below.refl _ w).alloc (by simp) _).trans (hb1.mono (by simp))⟩
end Go.Proofs.Ytaedpadkpclldaa
