/- The contract of Weave of the program. -/
import Derived.Test.YtaedpadkpclldaaWeaveW
namespace Go.Proofs.Ytaedpadkpclldaa
open Go.RowKit

set_option maxHeartbeats 4000000 in
theorem plane_Weave_no {p : Nat → Prop} (v u : Value) (f g : Fr) (w : World) (hf : IsFr p w v f) (hg : IsFr p w u g) (hno : ¬ weaveOk f g) :
    Calls Try.prog 40 #[v, u] w (RetFc w (zeroFr, 1)) := by
  have hf0 := hf
  have hg0 := hg
  obtain ⟨ya, yn, yc, ua, un, uc, va, vn, vc, rfl, hy, hu, hv⟩ := hf
  obtain ⟨yb, yn2, yc2, ub, un2, uc2, vb, vn2, vc2, rfl, hy2, hu2, hv2⟩ := hg
  clear hy hu hv hy2 hu2 hv2
  by_cases h1 : formedB f = true
  · have hp : 2 ≤ f.W ∧ f.W ≤ 64 ∧ 2 ≤ f.H ∧ f.H ≤ 64 := by
      have h1' := h1
      simp only [formedB, Bool.and_eq_true] at h1'
      have := sizeB_true h1'.1.1.1
      omega
    have eW : IntKind.i64.wrap (2 * f.H) = 2 * f.H := IntWalk.i64_in _ (by omega)
    by_cases h2 : formedB g = true
    · have h3 : ¬ (f.W = g.W ∧ f.H = g.H ∧ 2 * f.H ≤ 64) := fun hc => hno ⟨h1, h2, hc⟩
      clear hno
      by_cases k1 : f.W = g.W
      · have G1 : (f.W != g.W) = false := by simpa using k1
        by_cases k2 : f.H = g.H
        · have G2 : (f.H != g.H) = false := by simpa using k2
          have G3 : decide (2 * f.H > 64) = true := by apply decide_eq_true; have := fun h => h3 ⟨k1, k2, h⟩; omega
          clear k1 k2 h3
          go_enter Try.func40, Try.ntmps40
          go_wp2_with fail
          refine (plane_Formed (p := p) _ f _ (by (repeat with_reducible apply IsFr.alloc); exact hf0)).mono ?_
          rintro e w1 ⟨rfl, hb1⟩
          obtain ⟨c_w1, z_w1⟩ := bcell hb1
          have s_w1 := hb1.size
          try simp at s_w1
          try simp at c_w1
          try simp at z_w1
          have q_w1_0 : w.heap.size < w1.heap.size := by omega
          have q_w1_1 : w.heap.size + 1 < w1.heap.size := by omega
          have q_w1_2 : w.heap.size + 1 + 1 < w1.heap.size := by omega
          have B0 : Below w.heap.size w w1 := ((((Below.refl _ w).alloc (by simp) _).alloc (by simp) _).alloc (by simp; omega) _).trans (hb1.mono (by simp; omega))
          go_wp2_with fail
          refine (plane_Formed (p := p) _ g _ (hg0.ext B0)).mono ?_
          rintro e w2 ⟨rfl, hb2⟩
          obtain ⟨c_w2, z_w2⟩ := bcell hb2
          have s_w2 := hb2.size
          try simp at s_w2
          try simp at c_w2
          try simp at z_w2
          have q_w2_0 : w.heap.size < w2.heap.size := by omega
          have q_w2_1 : w.heap.size + 1 < w2.heap.size := by omega
          have q_w2_2 : w.heap.size + 1 + 1 < w2.heap.size := by omega
          have B1 : Below w.heap.size w w2 := B0.trans (hb2.mono B0.size)
          go_wp2_with fail
          refine bodyPost_ret (v := .tuple #[.agg #[.int .i64 0, .int .i64 0, .slice none 0 0, .slice none 0 0, .slice none 0 0], .int .i64 1]) (by simp only [results, Try.results40]; go_simp) rfl (retFc_zero (B := 1) ?_ rfl)
          repeat refine Below.setCell ?_ (by first | (simp; done) | (simp; omega)) _
          exact B1
        · have G2 : (f.H != g.H) = true := by simpa using k2
          clear k1 k2 h3
          go_enter Try.func40, Try.ntmps40
          go_wp2_with fail
          refine (plane_Formed (p := p) _ f _ (by (repeat with_reducible apply IsFr.alloc); exact hf0)).mono ?_
          rintro e w1 ⟨rfl, hb1⟩
          obtain ⟨c_w1, z_w1⟩ := bcell hb1
          have s_w1 := hb1.size
          try simp at s_w1
          try simp at c_w1
          try simp at z_w1
          have q_w1_0 : w.heap.size < w1.heap.size := by omega
          have q_w1_1 : w.heap.size + 1 < w1.heap.size := by omega
          have q_w1_2 : w.heap.size + 1 + 1 < w1.heap.size := by omega
          have B0 : Below w.heap.size w w1 := ((((Below.refl _ w).alloc (by simp) _).alloc (by simp) _).alloc (by simp; omega) _).trans (hb1.mono (by simp; omega))
          go_wp2_with fail
          refine (plane_Formed (p := p) _ g _ (hg0.ext B0)).mono ?_
          rintro e w2 ⟨rfl, hb2⟩
          obtain ⟨c_w2, z_w2⟩ := bcell hb2
          have s_w2 := hb2.size
          try simp at s_w2
          try simp at c_w2
          try simp at z_w2
          have q_w2_0 : w.heap.size < w2.heap.size := by omega
          have q_w2_1 : w.heap.size + 1 < w2.heap.size := by omega
          have q_w2_2 : w.heap.size + 1 + 1 < w2.heap.size := by omega
          have B1 : Below w.heap.size w w2 := B0.trans (hb2.mono B0.size)
          go_wp2_with fail
          refine bodyPost_ret (v := .tuple #[.agg #[.int .i64 0, .int .i64 0, .slice none 0 0, .slice none 0 0, .slice none 0 0], .int .i64 1]) (by simp only [results, Try.results40]; go_simp) rfl (retFc_zero (B := 1) ?_ rfl)
          repeat refine Below.setCell ?_ (by first | (simp; done) | (simp; omega)) _
          exact B1
      · have G1 : (f.W != g.W) = true := by simpa using k1
        clear k1 h3
        go_enter Try.func40, Try.ntmps40
        go_wp2_with fail
        refine (plane_Formed (p := p) _ f _ (by (repeat with_reducible apply IsFr.alloc); exact hf0)).mono ?_
        rintro e w1 ⟨rfl, hb1⟩
        obtain ⟨c_w1, z_w1⟩ := bcell hb1
        have s_w1 := hb1.size
        try simp at s_w1
        try simp at c_w1
        try simp at z_w1
        have q_w1_0 : w.heap.size < w1.heap.size := by omega
        have q_w1_1 : w.heap.size + 1 < w1.heap.size := by omega
        have q_w1_2 : w.heap.size + 1 + 1 < w1.heap.size := by omega
        have B0 : Below w.heap.size w w1 := ((((Below.refl _ w).alloc (by simp) _).alloc (by simp) _).alloc (by simp; omega) _).trans (hb1.mono (by simp; omega))
        go_wp2_with fail
        refine (plane_Formed (p := p) _ g _ (hg0.ext B0)).mono ?_
        rintro e w2 ⟨rfl, hb2⟩
        obtain ⟨c_w2, z_w2⟩ := bcell hb2
        have s_w2 := hb2.size
        try simp at s_w2
        try simp at c_w2
        try simp at z_w2
        have q_w2_0 : w.heap.size < w2.heap.size := by omega
        have q_w2_1 : w.heap.size + 1 < w2.heap.size := by omega
        have q_w2_2 : w.heap.size + 1 + 1 < w2.heap.size := by omega
        have B1 : Below w.heap.size w w2 := B0.trans (hb2.mono B0.size)
        go_wp2_with fail
        refine bodyPost_ret (v := .tuple #[.agg #[.int .i64 0, .int .i64 0, .slice none 0 0, .slice none 0 0, .slice none 0 0], .int .i64 1]) (by simp only [results, Try.results40]; go_simp) rfl (retFc_zero (B := 1) ?_ rfl)
        repeat refine Below.setCell ?_ (by first | (simp; done) | (simp; omega)) _
        exact B1
    · have h2' : formedB g = false := by simpa using h2
      clear hno
      go_enter Try.func40, Try.ntmps40
      go_wp2_with fail
      refine (plane_Formed (p := p) _ f _ (by (repeat with_reducible apply IsFr.alloc); exact hf0)).mono ?_
      rintro e w1 ⟨rfl, hb1⟩
      obtain ⟨c_w1, z_w1⟩ := bcell hb1
      have s_w1 := hb1.size
      try simp at s_w1
      try simp at c_w1
      try simp at z_w1
      have q_w1_0 : w.heap.size < w1.heap.size := by omega
      have q_w1_1 : w.heap.size + 1 < w1.heap.size := by omega
      have q_w1_2 : w.heap.size + 1 + 1 < w1.heap.size := by omega
      have B0 : Below w.heap.size w w1 := ((((Below.refl _ w).alloc (by simp) _).alloc (by simp) _).alloc (by simp; omega) _).trans (hb1.mono (by simp; omega))
      go_wp2_with fail
      refine (plane_Formed (p := p) _ g _ (hg0.ext B0)).mono ?_
      rintro e w2 ⟨rfl, hb2⟩
      obtain ⟨c_w2, z_w2⟩ := bcell hb2
      have s_w2 := hb2.size
      try simp at s_w2
      try simp at c_w2
      try simp at z_w2
      have q_w2_0 : w.heap.size < w2.heap.size := by omega
      have q_w2_1 : w.heap.size + 1 < w2.heap.size := by omega
      have q_w2_2 : w.heap.size + 1 + 1 < w2.heap.size := by omega
      have B1 : Below w.heap.size w w2 := B0.trans (hb2.mono B0.size)
      go_wp2_with fail
      refine bodyPost_ret (v := .tuple #[.agg #[.int .i64 0, .int .i64 0, .slice none 0 0, .slice none 0 0, .slice none 0 0], .int .i64 1]) (by simp only [results, Try.results40]; go_simp) rfl (retFc_zero (B := 1) ?_ rfl)
      repeat refine Below.setCell ?_ (by first | (simp; done) | (simp; omega)) _
      exact B1
  · have h1' : formedB f = false := by simpa using h1
    clear hno
    go_enter Try.func40, Try.ntmps40
    go_wp2_with fail
    refine (plane_Formed (p := p) _ f _ (by (repeat with_reducible apply IsFr.alloc); exact hf0)).mono ?_
    rintro e w1 ⟨rfl, hb1⟩
    obtain ⟨c_w1, z_w1⟩ := bcell hb1
    have s_w1 := hb1.size
    try simp at s_w1
    try simp at c_w1
    try simp at z_w1
    have q_w1_0 : w.heap.size < w1.heap.size := by omega
    have q_w1_1 : w.heap.size + 1 < w1.heap.size := by omega
    have q_w1_2 : w.heap.size + 1 + 1 < w1.heap.size := by omega
    have B0 : Below w.heap.size w w1 := ((((Below.refl _ w).alloc (by simp) _).alloc (by simp) _).alloc (by simp; omega) _).trans (hb1.mono (by simp; omega))
    go_wp2_with fail
    refine bodyPost_ret (v := .tuple #[.agg #[.int .i64 0, .int .i64 0, .slice none 0 0, .slice none 0 0, .slice none 0 0], .int .i64 1]) (by simp only [results, Try.results40]; go_simp) rfl (retFc_zero (B := 1) ?_ rfl)
    repeat refine Below.setCell ?_ (by first | (simp; done) | (simp; omega)) _
    exact B0
end Go.Proofs.Ytaedpadkpclldaa
