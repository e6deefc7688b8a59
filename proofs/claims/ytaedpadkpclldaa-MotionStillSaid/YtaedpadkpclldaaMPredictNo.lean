/- What motion.Predict returns where its arguments do not fit. -/
import Derived.Test.YtaedpadkpclldaaRange
namespace Go.Proofs.Ytaedpadkpclldaa
open Go.RowKit

theorem motion_Predict_zero {e : Ending} {w w' : World} {B : Nat} (hB : Below w.heap.size w w') (he : e = .returned (.tuple #[.agg #[.int .i64 0, .int .i64 0, .slice none 0 0, .slice none 0 0, .slice none 0 0], .int .i64 B])) : RetFr w (zeroFr, (B : Int)) e w' :=
  ⟨_, he, ⟨_, _, _, _, _, _, _, _, _, rfl, Byt.nil, Byt.nil, Byt.nil⟩, hB⟩

set_option maxHeartbeats 4000000 in
theorem motion_Predict_no {p : Nat → Prop} (v : Value) (f : Fr) (x y pw ph vx vy : Int) (w : World) (hf : IsFr p w v f) (hno : ¬ predOk f x y pw ph) :
    Calls Try.prog 15 #[v, .int .i64 x, .int .i64 y, .int .i64 pw, .int .i64 ph, .agg #[.int .i64 vx, .int .i64 vy]] w (RetFr w (zeroFr, 1)) := by
  have hf0 := hf
  obtain ⟨ya, yn, yc, ua, un, uc, va, vn, vc, rfl, hy, hu, hv⟩ := hf
  clear hy hu hv
  obtain ⟨W, H, Y, U, V⟩ := f
  dsimp only at *
  by_cases h1 : formedB ⟨W, H, Y, U, V⟩ = true
  · obtain ⟨k1, k2, k3, k4, k5, k6, -, -, -⟩ := formed_parts h1
    by_cases hpw : pw = 16
    · subst hpw
      have hno1 : (ph = 8 ∨ ph = 16) → ¬ (0 ≤ x ∧ x % 2 = 0 ∧ x ≤ W - 16 ∧ 0 ≤ y ∧ y % 2 = 0 ∧ y ≤ H - ph) := fun hh hc => hno ⟨h1, rfl, hh, hc.1, hc.2.1, hc.2.2.1, hc.2.2.2.1, hc.2.2.2.2.1, hc.2.2.2.2.2⟩
      clear hno
      by_cases h8 : ph = 8
      · subst h8
        have hno2 := hno1 (Or.inl rfl)
        clear hno1
        go_enter Try.func15, Try.ntmps15
        go_wp2_with fail
        refine (plane_Formed (p := p) _ ⟨W, H, Y, U, V⟩ _ (by (repeat with_reducible apply IsFr.alloc); exact hf0)).mono ?_
        rintro e w1 ⟨rfl, hb1⟩
        obtain ⟨c_w1, z_w1⟩ := bcell hb1
        have s_w1 := hb1.size
        try simp at s_w1
        try simp at c_w1
        try simp at z_w1
        have q_w1_0 : w.heap.size < w1.heap.size := by omega
        have q_w1_1 : w.heap.size + 1 < w1.heap.size := by omega
        have q_w1_2 : w.heap.size + 1 + 1 < w1.heap.size := by omega
        have B0 : Below w.heap.size w w1 := ((((Below.refl _ w).alloc (by simp) _).alloc (by simp) _).alloc (by simp; omega) _).trans (hb1.mono (by simp; omega))
        go_wp2_with fail
        all_goals
          first
          | (exfalso; omega)
          | (refine bodyPost_ret (v := .tuple #[.agg #[.int .i64 0, .int .i64 0, .slice none 0 0, .slice none 0 0, .slice none 0 0], .int .i64 1]) ?_ rfl (motion_Predict_zero (B := 1) ?_ rfl)
             · ((simp only [results, Try.results15]); go_simp; done)
             · ((repeat refine Below.setCell ?_ (by simp; omega) _); exact B0))
      · by_cases h16 : ph = 16
        · subst h16
          have hno2 := hno1 (Or.inr rfl)
          clear hno1
          go_enter Try.func15, Try.ntmps15
          go_wp2_with fail
          refine (plane_Formed (p := p) _ ⟨W, H, Y, U, V⟩ _ (by (repeat with_reducible apply IsFr.alloc); exact hf0)).mono ?_
          rintro e w1 ⟨rfl, hb1⟩
          obtain ⟨c_w1, z_w1⟩ := bcell hb1
          have s_w1 := hb1.size
          try simp at s_w1
          try simp at c_w1
          try simp at z_w1
          have q_w1_0 : w.heap.size < w1.heap.size := by omega
          have q_w1_1 : w.heap.size + 1 < w1.heap.size := by omega
          have q_w1_2 : w.heap.size + 1 + 1 < w1.heap.size := by omega
          have B0 : Below w.heap.size w w1 := ((((Below.refl _ w).alloc (by simp) _).alloc (by simp) _).alloc (by simp; omega) _).trans (hb1.mono (by simp; omega))
          go_wp2_with fail
          all_goals
            first
            | (exfalso; omega)
            | (refine bodyPost_ret (v := .tuple #[.agg #[.int .i64 0, .int .i64 0, .slice none 0 0, .slice none 0 0, .slice none 0 0], .int .i64 1]) ?_ rfl (motion_Predict_zero (B := 1) ?_ rfl)
               · ((simp only [results, Try.results15]); go_simp; done)
               · ((repeat refine Below.setCell ?_ (by simp; omega) _); exact B0))
        · have g8 : (ph != 8) = true := by simpa using h8
          have g16 : (ph != 16) = true := by simpa using h16
          clear hno1
          go_enter Try.func15, Try.ntmps15
          go_wp2_with fail
          refine (plane_Formed (p := p) _ ⟨W, H, Y, U, V⟩ _ (by (repeat with_reducible apply IsFr.alloc); exact hf0)).mono ?_
          rintro e w1 ⟨rfl, hb1⟩
          obtain ⟨c_w1, z_w1⟩ := bcell hb1
          have s_w1 := hb1.size
          try simp at s_w1
          try simp at c_w1
          try simp at z_w1
          have q_w1_0 : w.heap.size < w1.heap.size := by omega
          have q_w1_1 : w.heap.size + 1 < w1.heap.size := by omega
          have q_w1_2 : w.heap.size + 1 + 1 < w1.heap.size := by omega
          have B0 : Below w.heap.size w w1 := ((((Below.refl _ w).alloc (by simp) _).alloc (by simp) _).alloc (by simp; omega) _).trans (hb1.mono (by simp; omega))
          go_wp2_with fail
          refine bodyPost_ret (v := .tuple #[.agg #[.int .i64 0, .int .i64 0, .slice none 0 0, .slice none 0 0, .slice none 0 0], .int .i64 1]) (by simp only [results, Try.results15]; go_simp) rfl (motion_Predict_zero (B := 1) ?_ rfl)
          repeat refine Below.setCell ?_ (by simp; omega) _
          exact B0
    · have gpw : (pw != 16) = true := by simpa using hpw
      clear hno
      go_enter Try.func15, Try.ntmps15
      go_wp2_with fail
      refine (plane_Formed (p := p) _ ⟨W, H, Y, U, V⟩ _ (by (repeat with_reducible apply IsFr.alloc); exact hf0)).mono ?_
      rintro e w1 ⟨rfl, hb1⟩
      obtain ⟨c_w1, z_w1⟩ := bcell hb1
      have s_w1 := hb1.size
      try simp at s_w1
      try simp at c_w1
      try simp at z_w1
      have q_w1_0 : w.heap.size < w1.heap.size := by omega
      have q_w1_1 : w.heap.size + 1 < w1.heap.size := by omega
      have q_w1_2 : w.heap.size + 1 + 1 < w1.heap.size := by omega
      have B0 : Below w.heap.size w w1 := ((((Below.refl _ w).alloc (by simp) _).alloc (by simp) _).alloc (by simp; omega) _).trans (hb1.mono (by simp; omega))
      go_wp2_with fail
      refine bodyPost_ret (v := .tuple #[.agg #[.int .i64 0, .int .i64 0, .slice none 0 0, .slice none 0 0, .slice none 0 0], .int .i64 1]) (by simp only [results, Try.results15]; go_simp) rfl (motion_Predict_zero (B := 1) ?_ rfl)
      repeat refine Below.setCell ?_ (by simp; omega) _
      exact B0
  · have h1' : formedB ⟨W, H, Y, U, V⟩ = false := by simpa using h1
    clear hno
    go_enter Try.func15, Try.ntmps15
    go_wp2_with fail
    refine (plane_Formed (p := p) _ ⟨W, H, Y, U, V⟩ _ (by (repeat with_reducible apply IsFr.alloc); exact hf0)).mono ?_
    rintro e w1 ⟨rfl, hb1⟩
    obtain ⟨c_w1, z_w1⟩ := bcell hb1
    have s_w1 := hb1.size
    try simp at s_w1
    try simp at c_w1
    try simp at z_w1
    have q_w1_0 : w.heap.size < w1.heap.size := by omega
    have q_w1_1 : w.heap.size + 1 < w1.heap.size := by omega
    have q_w1_2 : w.heap.size + 1 + 1 < w1.heap.size := by omega
    have B0 : Below w.heap.size w w1 := ((((Below.refl _ w).alloc (by simp) _).alloc (by simp) _).alloc (by simp; omega) _).trans (hb1.mono (by simp; omega))
    go_wp2_with fail
    refine bodyPost_ret (v := .tuple #[.agg #[.int .i64 0, .int .i64 0, .slice none 0 0, .slice none 0 0, .slice none 0 0], .int .i64 1]) (by simp only [results, Try.results15]; go_simp) rfl (motion_Predict_zero (B := 1) ?_ rfl)
    repeat refine Below.setCell ?_ (by simp; omega) _
    exact B0
end Go.Proofs.Ytaedpadkpclldaa
