/- What plane.Field returns where its arguments do not fit. -/
import Derived.Test.YtaedpadkpclldaaFieldW
namespace Go.Proofs.Ytaedpadkpclldaa
open Go.RowKit

set_option maxHeartbeats 4000000 in
theorem plane_Field_no {p : Nat → Prop} (v : Value) (f : Fr) (par : Int) (w : World) (hf : IsFr p w v f) (hno : ¬ fieldOk f par) :
    Calls Try.prog 39 #[v, .int .i64 par] w (RetFc w (zeroFr, 1)) := by
  have hf0 := hf
  obtain ⟨ya, yn, yc, ua, un, uc, va, vn, vc, rfl, hy, hu, hv⟩ := hf
  clear hy hu hv
  by_cases h1 : formedB f = true
  · have hp : 2 ≤ f.W ∧ f.W ≤ 64 ∧ 2 ≤ f.H ∧ f.H ≤ 64 := by
      have h1' := h1
      simp only [formedB, Bool.and_eq_true] at h1'
      have := sizeB_true h1'.1.1.1
      omega
    by_cases h4 : f.H % 4 = 0
    · have h5 : ¬ (par = 0 ∨ par = 1) := fun hc => hno ⟨h1, h4, hc⟩
      clear hno
      have g4 : (f.H % 4 != 0) = false := by rw [h4]; rfl
      have g0 : (par != 0) = true := by simp; omega
      have g1 : (par != 1) = true := by simp; omega
      clear h4 h5
      go_enter Try.func39, Try.ntmps39
      go_wp2_with fail
      refine (plane_Formed (p := p) _ f _ (by (repeat with_reducible apply IsFr.alloc); exact hf0)).mono ?_
      rintro e w1 ⟨rfl, hb1⟩
      obtain ⟨c_w1, z_w1⟩ := bcell hb1
      have s_w1 := hb1.size
      try simp at s_w1
      try simp at c_w1
      try simp at z_w1
      have q_w1_0 : w.heap.size < w1.heap.size := by omega
      have q_w1_1 : w.heap.size + 1 < w1.heap.size := by omega
      have B0 : Below w.heap.size w w1 := (((Below.refl _ w).alloc (by simp) _).alloc (by simp) _).trans (hb1.mono (by simp; omega))
      go_wp2_with fail
      refine bodyPost_ret (v := .tuple #[.agg #[.int .i64 0, .int .i64 0, .slice none 0 0, .slice none 0 0, .slice none 0 0], .int .i64 1]) (by simp only [results, Try.results39]; go_simp) rfl (retFc_zero (B := 1) ?_ rfl)
      repeat refine Below.setCell ?_ (by first | (simp; done) | (simp; omega)) _
      exact B0
    · have g4 : (f.H % 4 != 0) = true := by simpa using h4
      clear hno h4
      go_enter Try.func39, Try.ntmps39
      go_wp2_with fail
      refine (plane_Formed (p := p) _ f _ (by (repeat with_reducible apply IsFr.alloc); exact hf0)).mono ?_
      rintro e w1 ⟨rfl, hb1⟩
      obtain ⟨c_w1, z_w1⟩ := bcell hb1
      have s_w1 := hb1.size
      try simp at s_w1
      try simp at c_w1
      try simp at z_w1
      have q_w1_0 : w.heap.size < w1.heap.size := by omega
      have q_w1_1 : w.heap.size + 1 < w1.heap.size := by omega
      have B0 : Below w.heap.size w w1 := (((Below.refl _ w).alloc (by simp) _).alloc (by simp) _).trans (hb1.mono (by simp; omega))
      go_wp2_with fail
      refine bodyPost_ret (v := .tuple #[.agg #[.int .i64 0, .int .i64 0, .slice none 0 0, .slice none 0 0, .slice none 0 0], .int .i64 1]) (by simp only [results, Try.results39]; go_simp) rfl (retFc_zero (B := 1) ?_ rfl)
      repeat refine Below.setCell ?_ (by first | (simp; done) | (simp; omega)) _
      exact B0
  · have h1' : formedB f = false := by simpa using h1
    clear hno
    go_enter Try.func39, Try.ntmps39
    go_wp2_with fail
    refine (plane_Formed (p := p) _ f _ (by (repeat with_reducible apply IsFr.alloc); exact hf0)).mono ?_
    rintro e w1 ⟨rfl, hb1⟩
    obtain ⟨c_w1, z_w1⟩ := bcell hb1
    have s_w1 := hb1.size
    try simp at s_w1
    try simp at c_w1
    try simp at z_w1
    have q_w1_0 : w.heap.size < w1.heap.size := by omega
    have q_w1_1 : w.heap.size + 1 < w1.heap.size := by omega
    have B0 : Below w.heap.size w w1 := (((Below.refl _ w).alloc (by simp) _).alloc (by simp) _).trans (hb1.mono (by simp; omega))
    go_wp2_with fail
    refine bodyPost_ret (v := .tuple #[.agg #[.int .i64 0, .int .i64 0, .slice none 0 0, .slice none 0 0, .slice none 0 0], .int .i64 1]) (by simp only [results, Try.results39]; go_simp) rfl (retFc_zero (B := 1) ?_ rfl)
    repeat refine Below.setCell ?_ (by first | (simp; done) | (simp; omega)) _
    exact B0

end Go.Proofs.Ytaedpadkpclldaa
