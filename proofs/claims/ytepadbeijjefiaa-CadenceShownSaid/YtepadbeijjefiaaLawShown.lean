/- CadenceShown. -/
import Derived.Test.YtepadbeijjefiaaCompare
namespace Go.Proofs.Ytepadbeijjefiaa
open Go.RowKit

/-- q = floor(n*(c*b)/(d*a)): from a/b, to c/d: q*d/c <= n*b/a < (q+1)*d/c. -/
theorem shown_law {n a b c d : Int} (ha : 0 < a) (hd : 0 < d) :
    cmpF (frameF n a b c d) c d n a b ≤ 0 ∧ 0 < cmpF (frameF n a b c d + 1) c d n a b := by
  have hK := Int.mul_pos hd ha
  have e := Int.mul_ediv_add_emod (n * (c * b)) (d * a)
  have g3 := Int.emod_nonneg (n * (c * b)) (show d * a ≠ 0 by omega)
  have g4 := Int.emod_lt_of_pos (n * (c * b)) hK
  have hq : frameF n a b c d = n * (c * b) / (d * a) := rfl
  unfold cmpF
  rw [hq]
  generalize n * (c * b) / (d * a) = q at *
  have e1 : q * d * a = d * a * q := by rw [Int.mul_assoc, Int.mul_comm]
  have e2 : n * b * c = n * (c * b) := by rw [Int.mul_assoc, Int.mul_comm b c]
  have e3 : (q + 1) * d * a = d * a * q + d * a := by rw [Int.add_mul, Int.add_mul, e1, Int.one_mul]
  rw [e1, e2, e3]
  constructor
  · split
    · omega
    · rw [if_neg (by omega)]
      omega
  · rw [if_neg (by omega), if_pos (by omega)]
    omega

theorem frame_bd {n a b c d : Int} (hn : n.natAbs ≤ 268435456) (ha : 1 ≤ a) (hb : 1 ≤ b) (hb2 : b ≤ 2000) (hc : 1 ≤ c) (hc2 : c ≤ 200000) (hd : 1 ≤ d) :
    (n * (c * b)).natAbs ≤ 107374182400000000 ∧ -107374182400000000 ≤ frameF n a b c d ∧ frameF n a b c d ≤ 107374182400000000 := by
  have h1 := mulDiv_lt (x := c) (y := b) (m := 200000) (n := 2000) (by omega) (by omega) (by omega) (by omega)
  have e : (n * (c * b)).natAbs ≤ 107374182400000000 := by
    rw [Int.natAbs_mul]
    have := Nat.mul_le_mul hn (show (c * b).natAbs ≤ 400000000 by omega)
    omega
  have hK := Int.mul_pos (show 0 < d by omega) (show 0 < a by omega)
  have := div_bd (x := n * (c * b)) (y := d * a) (B := 107374182400000000) (by omega) (by omega) (by omega) (by omega)
  exact ⟨e, this.1, this.2⟩

set_option maxHeartbeats 1000000 in
theorem law_CadenceShown (n a b c d : Int) (w : World) (hn : -2147483648 ≤ n ∧ n ≤ 2147483647) (ha : I64 a) (hb : I64 b) (hc : I64 c) (hd : I64 d) :
    Calls Try.prog 5 #[.int .i32 n, .agg #[.int .i64 a, .int .i64 b], .agg #[.int .i64 c, .int .i64 d]] w fun e w' => e = .returned (.bool true) ∧ Below w.heap.size w w' := by
  have u1 := fun w => ref_Usable a b w
  have u2 := fun w => ref_Usable c d w
  by_cases h1 : usableR a b = true
  · rw [h1] at u1
    have U1 := Lib.hid u1
    by_cases h2 : usableR c d = true
    · rw [h2] at u2
      have U2 := Lib.hid u2
      clear u1 u2
      by_cases h3 : a ≤ 200000 ∧ c ≤ 200000 ∧ b ≤ 2000 ∧ d ≤ 2000 ∧ n ≤ 268435456 ∧ -268435456 ≤ n
      · obtain ⟨k1, k2, k3, k4, k5, k6⟩ := h3
        have hr : rangeB n = true := by simp [rangeB]; omega
        have g1 := (usableR_iff a b).1 h1
        have g2 := (usableR_iff c d).1 h2
        obtain ⟨f1, f2, f3⟩ := frame_bd (n := n) (a := a) (b := b) (c := c) (d := d) (by omega) (by omega) (by omega) k3 (by omega) k2 (by omega)
        obtain ⟨l1, l2⟩ := shown_law (n := n) (a := a) (b := b) (c := c) (d := d) (by omega) (by omega)
        obtain ⟨⟨_, _⟩, m3, m4⟩ := usable_mul' h1 h2
        have p := fun w => cad_Frame n a b c d w ha hb hc hd (fun _ _ _ _ => div64_low (by omega) (by omega) (by omega))
        have ev : frameV n a b c d = .tuple #[.int .i64 (frameF n a b c d), .int .i64 0] := by
          unfold frameV; rw [h1, h2, if_pos (show (true && true) = true from rfl), if_pos hr, if_pos ⟨by omega, by omega⟩]
        rw [ev] at p
        have P := Lib.hid p
        have q1 := fun (x : Int) (hx : -2147483648 ≤ x ∧ x ≤ 2147483648) w => ref_Compare x c d n a b w (by omega) (by omega) (by omega) (by omega) (by omega) (by omega) (by omega) (by omega) (by omega) (by omega) (by omega) (by omega)
        have Q1 := Lib.hid q1
        clear p ev q1 hr h1 h2 f1 m3 m4 g1 g2
        generalize frameF n a b c d = q at *
        have b1 : decide (200000 < a) = false := by simp; omega
        have b2 : decide (200000 < c) = false := by simp; omega
        have b3 : decide (2000 < b) = false := by simp; omega
        have b4 : decide (2000 < d) = false := by simp; omega
        have b5 : decide (268435456 < n) = false := by simp; omega
        have b6 : decide (n < -268435456) = false := by simp; omega
        by_cases h4 : q ≤ 2147483646 ∧ -2147483647 ≤ q
        · obtain ⟨r1, r2⟩ := h4
          have q1 := Q1.out q (by omega)
          have q2 := Q1.out (q + 1) (by omega)
          generalize cmpF q c d n a b = z1 at *
          generalize cmpF (q + 1) c d n a b = z2 at *
          have P1 := Lib.hid q1
          have P2 := Lib.hid q2
          clear q1 q2 Q1
          have wK : IntKind.i64.wrap (q + 1) = q + 1 := IntWalk.i64_in _ (by omega)
          have wn : IntKind.i64.wrap n = n := IntWalk.i64_in _ (by omega)
          have b7 : decide (2147483646 < q) = false := by simp; omega
          have b8 : decide (q < -2147483647) = false := by simp; omega
          have b9 : decide (z1 ≤ 0) = true := by simp; omega
          have b10 : decide (0 < z2) = true := by simp; omega
          go_enter Try.func5, Try.ntmps5
          go_wp2_with fail
          refine (U1.out _).mono ?_
          rintro e w1 ⟨rfl, hb1⟩
          obtain ⟨c_w1, z_w1⟩ := bcell hb1
          have s_w1 := hb1.size
          try simp at s_w1
          try simp at c_w1
          try simp at z_w1
          have q_w1_0 : w.heap.size < w1.heap.size := by omega
          have q_w1_1 : w.heap.size + 1 < w1.heap.size := by omega
          go_wp2_with fail
          refine (U2.out _).mono ?_
          rintro e w2 ⟨rfl, hb2⟩
          obtain ⟨c_w2, z_w2⟩ := bcell hb2
          have s_w2 := hb2.size
          try simp at s_w2
          try simp at c_w2
          try simp at z_w2
          have q_w2_0 : w.heap.size < w2.heap.size := by omega
          have q_w2_1 : w.heap.size + 1 < w2.heap.size := by omega
          go_wp2_with fail
          refine (P.out _).mono ?_
          rintro e w3 ⟨rfl, hb3⟩
          obtain ⟨c_w3, z_w3⟩ := bcell hb3
          have s_w3 := hb3.size
          try simp at s_w3
          try simp at c_w3
          try simp at z_w3
          have q_w3_0 : w.heap.size < w3.heap.size := by omega
          have q_w3_1 : w.heap.size + 1 < w3.heap.size := by omega
          have B3 : Below w.heap.size w w3 := (((((Below.refl _ w).alloc (Nat.le_refl _) _).alloc (by simp) _).trans (hb1.mono (by simp; omega))).trans (hb2.mono (by omega))).trans (hb3.mono (by omega))
          have HB3 := Lib.hid B3
          clear B3
          go_wp2_with fail
          go_region_held3 (fun w' => w'.cell? ⟨w.heap.size, 0, none⟩ = some (.int .i64 a) ∧ w'.cell? ⟨w.heap.size, 1, none⟩ = some (.int .i64 b) ∧ w'.cell? ⟨w.heap.size + 1, 0, none⟩ = some (.int .i64 c) ∧ w'.cell? ⟨w.heap.size + 1, 1, none⟩ = some (.int .i64 d))
            (first | (refine ⟨?_, ?_, ?_, ?_⟩ <;> go_simp; done) | go_keep)
            (first
             | (go_at_call 19; ((with_reducible refine (P1.out _).mono ?_); rintro e w4 ⟨rfl, hb4⟩; have hb4 := undrew hb4; obtain ⟨c_w4, z_w4⟩ := bcell hb4; have s_w4 := hb4.size; have q_w4_0 : w.heap.size < w4.heap.size := (by omega); have q_w4_1 : w.heap.size + 1 < w4.heap.size := (by omega)))
             | (go_at_call 19; ((with_reducible refine (P2.out _).mono ?_); rintro e w5 ⟨rfl, hb5⟩; obtain ⟨c_w5, z_w5⟩ := bcell hb5; have s_w5 := hb5.size; have q_w5_0 : w.heap.size < w5.heap.size := (by omega); have q_w5_1 : w.heap.size + 1 < w5.heap.size := (by omega))))
          go_wp2_with fail
          refine (cad_awake _).mono ?_
          rintro e w6 ⟨rfl, hb6⟩
          go_wp2_with fail
          go_ret
          refine ⟨rfl, ?_⟩
          have B4 := HB3.out.trans (hb4.mono HB3.out.size)
          have B5 := B4.trans (hb5.mono B4.size)
          exact B5.trans (hb6.mono B5.size)
        · clear Q1 l1 l2
          go_enter Try.func5, Try.ntmps5
          go_wp2_with fail
          refine (U1.out _).mono ?_
          rintro e w1 ⟨rfl, hb1⟩
          obtain ⟨c_w1, z_w1⟩ := bcell hb1
          have s_w1 := hb1.size
          try simp at s_w1
          try simp at c_w1
          try simp at z_w1
          have q_w1_0 : w.heap.size < w1.heap.size := by omega
          have q_w1_1 : w.heap.size + 1 < w1.heap.size := by omega
          go_wp2_with fail
          refine (U2.out _).mono ?_
          rintro e w2 ⟨rfl, hb2⟩
          obtain ⟨c_w2, z_w2⟩ := bcell hb2
          have s_w2 := hb2.size
          try simp at s_w2
          try simp at c_w2
          try simp at z_w2
          have q_w2_0 : w.heap.size < w2.heap.size := by omega
          have q_w2_1 : w.heap.size + 1 < w2.heap.size := by omega
          go_wp2_with fail
          refine (P.out _).mono ?_
          rintro e w3 ⟨rfl, hb3⟩
          have B3 : Below w.heap.size w w3 := (((((Below.refl _ w).alloc (Nat.le_refl _) _).alloc (by simp) _).trans (hb1.mono (by simp; omega))).trans (hb2.mono (by omega))).trans (hb3.mono (by omega))
          rcases (by omega : 2147483646 < q ∨ ¬ 2147483646 < q ∧ q < -2147483647) with h5 | ⟨h5, h6⟩
          · go_wp2_with fail
            refine (cad_awake _).mono ?_
            rintro e w6 ⟨rfl, hb6⟩
            go_wp2_with fail
            go_ret
            exact ⟨rfl, B3.trans (hb6.mono B3.size)⟩
          · have b7 : decide (2147483646 < q) = false := by simp; omega
            go_wp2_with fail
            refine (cad_awake _).mono ?_
            rintro e w6 ⟨rfl, hb6⟩
            go_wp2_with fail
            go_ret
            exact ⟨rfl, B3.trans (hb6.mono B3.size)⟩
      · clear h1 h2
        go_enter Try.func5, Try.ntmps5
        go_wp2_with fail
        refine (U1.out _).mono ?_
        rintro e w1 ⟨rfl, hb1⟩
        obtain ⟨c_w1, z_w1⟩ := bcell hb1
        have s_w1 := hb1.size
        try simp at s_w1
        try simp at c_w1
        try simp at z_w1
        have q_w1_0 : w.heap.size < w1.heap.size := by omega
        have q_w1_1 : w.heap.size + 1 < w1.heap.size := by omega
        go_wp2_with fail
        refine (U2.out _).mono ?_
        rintro e w2 ⟨rfl, hb2⟩
        obtain ⟨c_w2, z_w2⟩ := bcell hb2
        have s_w2 := hb2.size
        try simp at s_w2
        try simp at c_w2
        try simp at z_w2
        have q_w2_0 : w.heap.size < w2.heap.size := by omega
        have q_w2_1 : w.heap.size + 1 < w2.heap.size := by omega
        have B2 : Below w.heap.size w w2 := ((((Below.refl _ w).alloc (Nat.le_refl _) _).alloc (by simp) _).trans (hb1.mono (by simp; omega))).trans (hb2.mono (by omega))
        have HB2 := Lib.hid B2
        clear B2
        go_wp2_with (go_at_call 16; ((with_reducible refine (cad_awake _).mono ?_); rintro e w6 ⟨rfl, hb6⟩))
        all_goals first
          | (go_ret
             exact ⟨rfl, HB2.out.trans (hb6.mono HB2.out.size)⟩)
          | (exfalso; omega)
    · have h2' : usableR c d = false := by simpa using h2
      rw [h2'] at u2
      have U2 := Lib.hid u2
      clear u1 u2 h1 h2 h2'
      go_enter Try.func5, Try.ntmps5
      go_wp2_with fail
      refine (U1.out _).mono ?_
      rintro e w1 ⟨rfl, hb1⟩
      obtain ⟨c_w1, z_w1⟩ := bcell hb1
      have s_w1 := hb1.size
      try simp at s_w1
      try simp at c_w1
      try simp at z_w1
      have q_w1_0 : w.heap.size < w1.heap.size := by omega
      have q_w1_1 : w.heap.size + 1 < w1.heap.size := by omega
      go_wp2_with fail
      refine (U2.out _).mono ?_
      rintro e w2 ⟨rfl, hb2⟩
      have B2 : Below w.heap.size w w2 := ((((Below.refl _ w).alloc (Nat.le_refl _) _).alloc (by simp) _).trans (hb1.mono (by simp; omega))).trans (hb2.mono (by omega))
      go_wp2_with fail
      refine (cad_awake _).mono ?_
      rintro e w6 ⟨rfl, hb6⟩
      go_wp2_with fail
      go_ret
      exact ⟨rfl, B2.trans (hb6.mono B2.size)⟩
  · have h1' : usableR a b = false := by simpa using h1
    rw [h1'] at u1
    have U1 := Lib.hid u1
    clear u1 u2 h1 h1'
    go_enter Try.func5, Try.ntmps5
    go_wp2_with fail
    refine (U1.out _).mono ?_
    rintro e w1 ⟨rfl, hb1⟩
    have B2 : Below w.heap.size w w1 := (((Below.refl _ w).alloc (Nat.le_refl _) _).alloc (by simp) _).trans (hb1.mono (by simp; omega))
    go_wp2_with fail
    refine (cad_awake _).mono ?_
    rintro e w6 ⟨rfl, hb6⟩
    go_wp2_with fail
    go_ret
    exact ⟨rfl, B2.trans (hb6.mono B2.size)⟩
end Go.Proofs.Ytepadbeijjefiaa
