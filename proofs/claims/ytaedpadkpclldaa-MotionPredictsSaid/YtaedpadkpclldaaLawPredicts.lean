/- The law MotionPredicts returns true for every frame and part. -/
import Derived.Test.YtaedpadkpclldaaAwake
import Derived.Test.YtaedpadkpclldaaPredictAll
namespace Go.Proofs.Ytaedpadkpclldaa
open Go.RowKit

set_option maxHeartbeats 2000000 in
theorem law_MotionPredicts {p : Nat → Prop} (v : Value) (f : Fr) (x y pw ph vx vy : Int) (w : World) (hf : IsFr p w v f) :
    Calls Try.prog 4 #[v, .agg #[.int .i64 x, .int .i64 y, .int .i64 pw, .int .i64 ph, .int .i64 vx, .int .i64 vy]] w fun e w' => e = .returned (.bool true) ∧ Below w.heap.size w w' := by
  have hf0 := hf
  obtain ⟨ya, yn, yc, ua, un, uc, va, vn, vc, rfl, hy, hu, hv⟩ := hf
  clear hy hu hv
  by_cases h1 : lightB f = true
  · go_enter Try.func4, Try.ntmps4
    go_wp2_with fail
    refine (law_light (p := p) _ f _ (by (repeat with_reducible apply IsFr.alloc); exact hf0)).mono ?_
    rintro e w1 ⟨rfl, hb1⟩
    obtain ⟨c_w1, z_w1⟩ := bcell hb1
    have s_w1 := hb1.size
    try simp at s_w1
    try simp at c_w1
    try simp at z_w1
    have q_w1_0 : w.heap.size < w1.heap.size := by omega
    have q_w1_1 : w.heap.size + 1 < w1.heap.size := by omega
    have hf1 : IsFr p w1 _ f := IsFr.ext ((hf0.alloc _).alloc _) hb1
    go_wp2_with fail
    refine (motion_Predict (p := p) _ f _ _ _ _ _ _ _ hf1).mono ?_
    generalize hr : predF f x y pw ph vx vy = r
    have HR := Lib.hid hr
    clear hr
    obtain ⟨F, en⟩ := r
    rintro e w3 ⟨v3, rfl, hf3, hb3⟩
    obtain ⟨c_w3, z_w3⟩ := bcell hb3
    have s_w3 := hb3.size
    try simp at s_w3
    try simp at c_w3
    try simp at z_w3
    have q_w3_0 : w.heap.size < w3.heap.size := by omega
    have q_w3_1 : w.heap.size + 1 < w3.heap.size := by omega
    have hf3' := hf3
    obtain ⟨a1, a2, a3, a4, a5, a6, a7, a8, a9, rfl, _, _, _⟩ := hf3
    go_wp2_with fail
    refine (ref_Predict (p := p) _ f _ _ _ _ _ _ _ (IsFr.alloc (hf1.ext hb3) _)).mono ?_
    rw [HR.out]
    rintro e w4 ⟨v4, rfl, hf4, hb4⟩
    obtain ⟨c_w4, z_w4⟩ := bcell hb4
    have s_w4 := hb4.size
    try simp at s_w4
    try simp at c_w4
    try simp at z_w4
    have q_w4_0 : w.heap.size < w4.heap.size := by omega
    have q_w4_1 : w.heap.size + 1 < w4.heap.size := by omega
    have hf4' := hf4
    obtain ⟨b1, b2, b3, b4, b5, b6, b7, b8, b9, rfl, _, _, _⟩ := hf4
    go_wp2_with fail
    refine (law_awake _).mono ?_
    rintro e w5 ⟨rfl, hb5⟩
    obtain ⟨x0, x1, x2, x3, x4⟩ := Bx.cells5 ((((Bx.new w3 24 _).ext hb4).alloc _).ext hb5)
    obtain ⟨y0, y1, y2, y3, y4⟩ := Bx.cells5 ((Bx.new w4 24 _).ext hb5)
    go_wp2_with fail
    refine (ref_Equal _ _ F F _ (IsFr.ext (IsFr.alloc (IsFr.ext (hf3'.alloc _) hb4) _) hb5) (IsFr.ext (hf4'.alloc _) hb5)).mono ?_
    rintro e w6 ⟨rfl, hb6⟩
    have t4 := hb4.size
    have t5 := hb5.size
    have t6 := hb6.size
    simp at t4 t5
    go_wp2_with fail
    go_ret
    refine ⟨ret_bool (eqB_self F), ?_⟩
    have B2 : Below w.heap.size w w3 := ((((Below.refl _ w).alloc (by simp) _).alloc (by simp) _).trans (hb1.mono (by simp; omega))).trans (hb3.mono (by omega))
    exact ((((B2.alloc (by omega) _).trans (hb4.mono (by simp; omega))).alloc (by omega) _).trans (hb5.mono (by simp; omega))).trans (hb6.mono (by omega))
  · have h1' : lightB f = false := by simpa using h1
    go_enter Try.func4, Try.ntmps4
    go_wp2_with fail
    refine (law_light (p := p) _ f _ (by (repeat with_reducible apply IsFr.alloc); exact hf0)).mono ?_
    rintro e w1 ⟨rfl, hb1⟩
    go_wp2_with fail
    go_ret
    exact ⟨rfl, (((Below.refl _ w).alloc (by simp) _).alloc (by simp) _).trans (hb1.mono (by simp; omega))⟩
end Go.Proofs.Ytaedpadkpclldaa
