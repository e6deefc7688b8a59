/- The contracts of Ticks, the program's and the reference's; PesTicks. -/
import Derived.Test.YtojfaonlgkicfaaR01P
import Derived.Test.YtojfaonlgkicfaaPesAwake
namespace Go.Proofs.Ytojfaonlgkicfaa
open Go.RowKit

structure I64 (x : Int) : Prop where
  lo : -9223372036854775808 ≤ x
  hi : x ≤ 9223372036854775807

set_option maxHeartbeats 1000000 in
theorem r01_Position (n a b c d : Int) (w : World) (hn : I64 n) (ha : I64 a) (hb : I64 b) (hc : I64 c) (hd : I64 d) :
    Calls Try.prog 27 #[.int .i64 n, .agg #[.int .i64 a, .int .i64 b], .agg #[.int .i64 c, .int .i64 d]] w fun e w' => e = .returned (posV n a b c d) ∧ Below w.heap.size w w' := by
  have s1 := fun w => r01_scale a b w ha.lo ha.hi hb.lo hb.hi
  have s2 := fun w => r01_scale c d w hc.lo hc.hi hd.lo hd.hi
  have S1 := Lib.hid s1
  have S2 := Lib.hid s2
  clear s1 s2
  by_cases h1 : scaleR a b = true
  · by_cases h2 : scaleR c d = true
    · exact r01_Position_in n a b c d w hn.lo hn.hi h1 h2
    · have h2' : scaleR c d = false := by simpa using h2
      have ev : posV n a b c d = .tuple #[.int .i64 0, .int .i64 1] := by unfold posV; rw [h1, h2']; rfl
      rw [ev]
      rw [h1] at S1
      rw [h2'] at S2
      clear ev h1 h2 h2'
      go_enter Try.func27, Try.ntmps27
      go_wp2_with fail
      refine (S1.out _).mono ?_
      rintro e w1 ⟨rfl, hb1⟩
      obtain ⟨c_w1, z_w1⟩ := bcell hb1
      have s_w1 := hb1.size
      try simp at s_w1
      try simp at c_w1
      try simp at z_w1
      have q_w1_0 : w.heap.size < w1.heap.size := by omega
      have q_w1_1 : w.heap.size + 1 < w1.heap.size := by omega
      go_wp2_with fail
      refine (S2.out _).mono ?_
      rintro e w2 ⟨rfl, hb2⟩
      go_wp2_with fail
      go_ret2
      exact ⟨rfl, ((((Below.refl _ w).alloc (Nat.le_refl _) _).alloc (by simp) _).trans (hb1.mono (by simp; omega))).trans (hb2.mono (by omega))⟩
  · have h1' : scaleR a b = false := by simpa using h1
    have ev : posV n a b c d = .tuple #[.int .i64 0, .int .i64 1] := by unfold posV; rw [h1']; rfl
    rw [ev]
    rw [h1'] at S1
    clear ev h1 h1'
    go_enter Try.func27, Try.ntmps27
    go_wp2_with fail
    refine (S1.out _).mono ?_
    rintro e w1 ⟨rfl, hb1⟩
    go_wp2_with fail
    go_ret2
    exact ⟨rfl, (((Below.refl _ w).alloc (Nat.le_refl _) _).alloc (by simp) _).trans (hb1.mono (by simp; omega))⟩

theorem pos_all (n a b c d : Int) (w : World) (hn : I64 n) (ha : I64 a) (hb : I64 b) (hc : I64 c) (hd : I64 d) :
    Calls Try.prog 42 #[.int .i64 n, .agg #[.int .i64 a, .int .i64 b], .agg #[.int .i64 c, .int .i64 d]] w fun e w' => e = .returned (posV n a b c d) ∧ Below w.heap.size w w' :=
  rat_Position n a b c d w hn.lo hn.hi ha.lo ha.hi hb.lo hb.hi hc.lo hc.hi hd.lo hd.hi (fun h1 h2 h => div64_ok h (by have := scale_mul h1 h2; omega))

theorem posV_two (n a b c d : Int) : ∃ x e : Int, posV n a b c d = .tuple #[.int .i64 x, .int .i64 e] ∧ (e = 0 ∨ (e = 1 ∨ e = 2) ∧ x = 0) ∧ I64 x ∧ (e = 0 → x = (2 * (n * (c * b)) + d * a) / (2 * (d * a))) := by
  unfold posV
  split
  · split
    · rename_i h
      simp only [fitsB, decide_eq_true_eq] at h
      exact ⟨_, _, rfl, .inl rfl, ⟨h.1, h.2⟩, fun _ => rfl⟩
    · exact ⟨_, _, rfl, .inr ⟨.inr rfl, rfl⟩, ⟨by omega, by omega⟩, fun h => by omega⟩
  · exact ⟨_, _, rfl, .inr ⟨.inl rfl, rfl⟩, ⟨by omega, by omega⟩, fun h => by omega⟩

theorem pes_Ticks (n a b x er : Int) (w : World) (hn : I64 n) (ha : I64 a) (hb : I64 b) (hv : posV n a b 90000 1 = .tuple #[.int .i64 x, .int .i64 er]) (he : er = 0 ∨ (er = 1 ∨ er = 2) ∧ x = 0) :
    Calls Try.prog 24 #[.int .i64 n, .agg #[.int .i64 a, .int .i64 b]] w fun e w' => e = .returned (.tuple #[.int .i64 (x % 8589934592), .int .i64 er]) ∧ Below w.heap.size w w' := by
  have p := fun w => pos_all n a b 90000 1 w hn ha hb ⟨by omega, by omega⟩ ⟨by omega, by omega⟩
  rw [hv] at p
  have P := Lib.hid p
  clear p hv
  rcases he with rfl | ⟨he, rfl⟩
  · go_enter Try.func24, Try.ntmps24
    go_wp2_with fail
    refine (P.out _).mono ?_
    rintro e w1 ⟨rfl, hb1⟩
    go_wp2_with fail
    refine (pes_modulo x _).mono ?_
    rintro e w1 ⟨rfl, rfl⟩
    go_wp2_with fail
    go_ret2
    exact ⟨rfl, ((Below.refl _ w).alloc (Nat.le_refl _) _).trans (hb1.mono (by simp))⟩
  · have t1 : (er != 0) = true := by simp; omega
    go_enter Try.func24, Try.ntmps24
    go_wp2_with fail
    refine (P.out _).mono ?_
    rintro e w1 ⟨rfl, hb1⟩
    go_wp2_with fail
    go_ret2
    exact ⟨rfl, ((Below.refl _ w).alloc (Nat.le_refl _) _).trans (hb1.mono (by simp))⟩

theorem ref_Ticks (n a b x er : Int) (w : World) (hn : I64 n) (ha : I64 a) (hb : I64 b) (hv : posV n a b 90000 1 = .tuple #[.int .i64 x, .int .i64 er]) (hx : I64 x) :
    Calls Try.prog 25 #[.int .i64 n, .agg #[.int .i64 a, .int .i64 b]] w fun e w' => e = .returned (.tuple #[.int .i64 (x % 8589934592), .int .i64 er]) ∧ Below w.heap.size w w' := by
  have p := fun w => r01_Position n a b 90000 1 w hn ha hb ⟨by omega, by omega⟩ ⟨by omega, by omega⟩
  rw [hv] at p
  have P := Lib.hid p
  have x1 := hx.lo
  have x2 := hx.hi
  clear p hv
  rcases tmod_cases x 8589934592 with ⟨h0, hm⟩ | ⟨h0, hm⟩
  · have hm' : x.tmod 8589934592 = x % 8589934592 := hm
    clear hm
    go_enter Try.func25, Try.ntmps25
    go_wp2_with fail
    refine (P.out _).mono ?_
    rintro e w1 ⟨rfl, hb1⟩
    go_wp2_with fail
    go_ret2
    exact ⟨rfl, ((Below.refl _ w).alloc (Nat.le_refl _) _).trans (hb1.mono (by simp))⟩
  · by_cases h2 : (-x) % 8589934592 = 0
    · have hm' : x.tmod 8589934592 = 0 := by omega
      have hf : x % 8589934592 = 0 := by omega
      rw [hf]
      clear hm hf h2
      go_enter Try.func25, Try.ntmps25
      go_wp2_with fail
      refine (P.out _).mono ?_
      rintro e w1 ⟨rfl, hb1⟩
      go_wp2_with fail
      go_ret2
      exact ⟨rfl, ((Below.refl _ w).alloc (Nat.le_refl _) _).trans (hb1.mono (by simp))⟩
    · obtain ⟨y, hy⟩ : ∃ y, -((-x) % 8589934592) = y := ⟨_, rfl⟩
      have hm' : x.tmod 8589934592 = y := by omega
      have y1 : y < 0 := by omega
      have y2 : -8589934592 < y := by omega
      have hf : x % 8589934592 = y + 8589934592 := by omega
      rw [hf]
      clear hm hf h2 hy
      go_enter Try.func25, Try.ntmps25
      go_wp2_with fail
      refine (P.out _).mono ?_
      rintro e w1 ⟨rfl, hb1⟩
      go_wp2_with fail
      go_ret2
      exact ⟨rfl, ((Below.refl _ w).alloc (Nat.le_refl _) _).trans (hb1.mono (by simp))⟩

set_option maxHeartbeats 1000000 in
theorem law_PesTicks (n a b : Int) (w : World) (hn : I64 n) (ha : I64 a) (hb : I64 b) :
    Calls Try.prog 8 #[.int .i64 n, .agg #[.int .i64 a, .int .i64 b]] w fun e w' => e = .returned (.bool true) ∧ Below w.heap.size w w' := by
  obtain ⟨x, er, hv, he, hx, _⟩ := posV_two n a b 90000 1
  have c1 := fun w => pes_Ticks n a b x er w hn ha hb hv he
  have c2 := fun w => ref_Ticks n a b x er w hn ha hb hv hx
  have C1 := Lib.hid c1
  have C2 := Lib.hid c2
  clear c1 c2 hv he hx
  generalize x % 8589934592 = t at *
  go_enter Try.func8, Try.ntmps8
  go_wp2_with fail
  refine (C1.out _).mono ?_
  rintro e w1 ⟨rfl, hb1⟩
  obtain ⟨c_w1, z_w1⟩ := bcell hb1
  have s_w1 := hb1.size
  try simp at s_w1
  try simp at c_w1
  try simp at z_w1
  have q_w1_0 : w.heap.size < w1.heap.size := by omega
  go_wp2_with fail
  refine (C2.out _).mono ?_
  rintro e w2 ⟨rfl, hb2⟩
  go_wp2_with fail
  refine (pes_awake _).mono ?_
  rintro e w3 ⟨rfl, hb3⟩
  go_wp2_with fail
  go_ret
  refine ⟨rfl, ?_⟩
  have B1 : Below w.heap.size w w1 := ((Below.refl _ w).alloc (Nat.le_refl _) _).trans (hb1.mono (by simp))
  have B2 := B1.trans (hb2.mono B1.size)
  exact B2.trans (hb3.mono B2.size)
end Go.Proofs.Ytojfaonlgkicfaa
