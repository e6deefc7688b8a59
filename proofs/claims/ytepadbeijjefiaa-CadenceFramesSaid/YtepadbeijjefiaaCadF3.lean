/- The contract of Frame of the reference: the refusals. -/
import Derived.Test.YtepadbeijjefiaaCadF2
namespace Go.Proofs.Ytepadbeijjefiaa
open Go.RowKit

set_option maxHeartbeats 1000000 in
theorem ref_Frame (n a b c d : Int) (w : World) :
    Calls Try.prog 18 #[.int .i64 n, .agg #[.int .i64 a, .int .i64 b], .agg #[.int .i64 c, .int .i64 d]] w fun e w' => e = .returned (frameV n a b c d) ∧ Below w.heap.size w w' := by
  have u1 := fun w => ref_Usable a b w
  have u2 := fun w => ref_Usable c d w
  by_cases h1 : usableR a b = true
  · rw [h1] at u1
    have U1 := Lib.hid u1
    by_cases h2 : usableR c d = true
    · rw [h2] at u2
      have U2 := Lib.hid u2
      by_cases h3 : rangeB n = true
      · exact ref_Frame_in n a b c d w h1 h2 h3
      · have h3' : rangeB n = false := by simpa using h3
        have r := fun w => ref_InRange n w
        rw [h3'] at r
        have R := Lib.hid r
        have ev : frameV n a b c d = .tuple #[.int .i64 0, .int .i64 2] := by unfold frameV; rw [h1, h2, if_neg h3]; rfl
        rw [ev]
        clear ev u1 u2 r h1 h2 h3 h3'
        go_enter Try.func18, Try.ntmps18
        go_wp2_with fail
        refine (U1.out _).mono ?_
        rintro e w1 ⟨rfl, hb1⟩
        obtain ⟨c_w1, z_w1⟩ := bcell hb1
        have s_w1 := hb1.size
        try simp at s_w1
        try simp at c_w1
        try simp at z_w1
        have q_w1_0 : w.heap.size < w1.heap.size := by omega
        have q_w1_1 : w.heap.size + 1 < w1.heap.size := by omega
        go_wp2_with fail
        refine (U2.out _).mono ?_
        rintro e w2 ⟨rfl, hb2⟩
        go_wp2_with fail
        refine (R.out _).mono ?_
        rintro e w2 ⟨rfl, rfl⟩
        go_wp2_with fail
        go_ret2
        exact ⟨rfl, ((((Below.refl _ w).alloc (Nat.le_refl _) _).alloc (by simp) _).trans (hb1.mono (by simp; omega))).trans (hb2.mono (by omega))⟩
    · have h2' : usableR c d = false := by simpa using h2
      rw [h2'] at u2
      have U2 := Lib.hid u2
      have ev : frameV n a b c d = .tuple #[.int .i64 0, .int .i64 1] := by unfold frameV; rw [h2']; simp
      rw [ev]
      clear u1 u2 h1 h2 h2' ev
      go_enter Try.func18, Try.ntmps18
      go_wp2_with fail
      refine (U1.out _).mono ?_
      rintro e w1 ⟨rfl, hb1⟩
      obtain ⟨c_w1, z_w1⟩ := bcell hb1
      have s_w1 := hb1.size
      try simp at s_w1
      try simp at c_w1
      try simp at z_w1
      have q_w1_0 : w.heap.size < w1.heap.size := by omega
      have q_w1_1 : w.heap.size + 1 < w1.heap.size := by omega
      go_wp2_with fail
      refine (U2.out _).mono ?_
      rintro e w2 ⟨rfl, hb2⟩
      go_wp2_with fail
      go_ret2
      exact ⟨rfl, ((((Below.refl _ w).alloc (Nat.le_refl _) _).alloc (by simp) _).trans (hb1.mono (by simp; omega))).trans (hb2.mono (by omega))⟩
  · have h1' : usableR a b = false := by simpa using h1
    rw [h1'] at u1
    have U1 := Lib.hid u1
    have ev : frameV n a b c d = .tuple #[.int .i64 0, .int .i64 1] := by unfold frameV; rw [h1']; simp
    rw [ev]
    clear u1 u2 h1 h1' ev
    go_enter Try.func18, Try.ntmps18
    go_wp2_with fail
    refine (U1.out _).mono ?_
    rintro e w1 ⟨rfl, hb1⟩
    go_wp2_with fail
    go_ret2
    exact ⟨rfl, (((Below.refl _ w).alloc (Nat.le_refl _) _).alloc (by simp) _).trans (hb1.mono (by simp; omega))⟩
end Go.Proofs.Ytepadbeijjefiaa
