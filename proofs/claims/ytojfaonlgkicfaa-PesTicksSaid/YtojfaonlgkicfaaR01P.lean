/- The contract of the reference's Position. -/
import Derived.Test.YtojfaonlgkicfaaR01B
import Derived.Test.YtojfaonlgkicfaaPos
namespace Go.Proofs.Ytojfaonlgkicfaa
open Go.RowKit

theorem Bx.set2 {w : World} {g : Nat} {t : TypeId} {x y a b : Value} (h : Bx w g t #[x, y]) : Bx ((w.setCell ⟨g, 0, none⟩ a).setCell ⟨g, 1, none⟩ b) g t #[a, b] := by
  have := (h.set_ 0 a).set_ 1 b
  simpa using this

theorem overV_cases (V den : Nat) (hd : 0 < den) : (18446744073709551616 ≤ V / den ∧ overV V den = .tuple #[.int .u64 0, .int .u64 0, .bool false]) ∨ overV V den = .tuple #[.int .u64 ((V / den : Nat) : Int), .int .u64 ((V % den : Nat) : Int), .bool true] := by
  by_cases h : den ≤ V / 18446744073709551616
  · left
    refine ⟨?_, by unfold overV; rw [if_pos h]⟩
    rw [Nat.le_div_iff_mul_le hd]
    rw [Nat.le_div_iff_mul_le (by omega)] at h
    omega
  · right
    unfold overV; rw [if_neg h]

set_option maxRecDepth 100000 in
set_option maxHeartbeats 2000000 in
theorem r01_Position_in (n a b c d : Int) (w : World) (n1 : -9223372036854775808 ≤ n) (n2 : n ≤ 9223372036854775807) (h1 : scaleR a b = true) (h2 : scaleR c d = true) :
    Calls Try.prog 27 #[.int .i64 n, .agg #[.int .i64 a, .int .i64 b], .agg #[.int .i64 c, .int .i64 d]] w fun e w' => e = .returned (posV n a b c d) ∧ Below w.heap.size w w' := by
  obtain ⟨N1, N2, D1, D2⟩ := scale_mul h1 h2
  have g1 : 1 ≤ a ∧ a ≤ 2147483648 ∧ 1 ≤ b ∧ b ≤ 2147483648 := by simp only [scaleR, decide_eq_true_eq] at h1; omega
  have g2 : 1 ≤ c ∧ c ≤ 2147483648 ∧ 1 ≤ d ∧ d ≤ 2147483648 := by simp only [scaleR, decide_eq_true_eq] at h2; omega
  have s1 := fun w => r01_scale a b w (by omega) (by omega) (by omega) (by omega)
  have s2 := fun w => r01_scale c d w (by omega) (by omega) (by omega) (by omega)
  have ev : posV n a b c d = if fitsB ((2 * (n * (c * b)) + d * a) / (2 * (d * a))) then .tuple #[.int .i64 ((2 * (n * (c * b)) + d * a) / (2 * (d * a))), .int .i64 0] else .tuple #[.int .i64 0, .int .i64 2] := by
    unfold posV; rw [h1, h2]; rfl
  rw [h1] at s1
  rw [h2] at s2
  have S1 := Lib.hid s1
  have S2 := Lib.hid s2
  clear s1 s2 h1 h2
  obtain ⟨N, hN⟩ := Int.eq_ofNat_of_zero_le (show 0 ≤ c * b by omega)
  obtain ⟨D, hD⟩ := Int.eq_ofNat_of_zero_le (show 0 ≤ d * a by omega)
  rw [hN, hD] at ev
  rw [hN] at N1 N2
  rw [hD] at D1 D2
  obtain ⟨m, hm⟩ : ∃ m, n.natAbs = m := ⟨_, rfl⟩
  obtain ⟨P, hP⟩ : ∃ P, m * N = P := ⟨_, rfl⟩
  have bP : P ≤ 42535295865117307932921825928971026432 := by
    rw [← hP]
    have := Nat.mul_le_mul (show m ≤ 9223372036854775808 by omega) (show N ≤ 4611686018427387904 by omega)
    omega
  have cm := fun w => r01_mag n w n1 n2
  have ct := fun w => r01_times m N w (by omega) (by omega)
  have cp := fun w => r01_plus P P w (by omega)
  rw [hm] at cm
  rw [hP] at ct
  have wrc : IntKind.u64.wrap c = c := by rw [IntKind.wrap_u64]; omega
  have wrb : IntKind.u64.wrap b = b := by rw [IntKind.wrap_u64]; omega
  have wrcb : IntKind.u64.wrap (c * b) = (N : Int) := by rw [hN, IntKind.wrap_u64]; omega
  have hn : n = m ∨ 0 < m ∧ n = -(m : Int) := by omega
  have hnN : n * N = P ∧ 0 ≤ n ∨ 0 < m ∧ n < 0 ∧ n * N = -(P : Int) := by
    rcases hn with h | ⟨h0, h⟩
    · left; rw [h, ← hP]; exact ⟨by simp, by omega⟩
    · right; refine ⟨h0, by omega, ?_⟩; rw [h, ← hP, Int.neg_mul]; simp
  obtain ⟨H1, L1, e1, p1, p1'⟩ := w2_open P
  obtain ⟨H2, L2, e2, p2, p2'⟩ := w2_open (P + P)
  rw [e1] at ct
  rw [e1, e2] at cp
  have CM := Lib.hid cm
  have CT := Lib.hid ct
  have CP := Lib.hid cp
  have E2 := Lib.hid e2
  clear cm ct cp hn hm hP hN p1 p1' p2 p2' e1 e2
  have EV := Lib.hid ev
  clear ev
  rcases hnN with ⟨hP, hn0⟩ | ⟨hm0, hn0, hP⟩
  · have dn : decide (n < 0) = false := by simp; omega
    rw [hP] at EV
    obtain ⟨V, hV⟩ : ∃ V, P + P + D = V := ⟨_, rfl⟩
    obtain ⟨H3, L3, e3, p3, p3'⟩ := w2_open V
    have cq := fun w => r01_plus (P + P) D w (by omega)
    rw [hV, e3, E2.out, w2_small D (by omega)] at cq
    have co := fun w => r01_over V (2 * D) w (by omega)
    rw [e3, show ((2 * D : Nat) : Int) = 2 * (D : Int) by omega] at co
    have CQ := Lib.hid cq
    have CO := Lib.hid co
    have hz : (2 * (P : Int) + (D : Int)) / (2 * (D : Int)) = ((V / (2 * D) : Nat) : Int) := by
      rw [Int.natCast_ediv, ← hV]; congr 1; omega
    rw [hz] at EV
    have e5 := overV_cases V (2 * D) (by omega)
    obtain ⟨q, hq⟩ : ∃ q, V / (2 * D) = q := ⟨_, rfl⟩
    obtain ⟨r, hr⟩ : ∃ q, V % (2 * D) = q := ⟨_, rfl⟩
    rw [hq] at EV
    rw [hq, hr] at e5
    have E5 := Lib.hid e5
    clear hP cq co hV hz p3 p3' e3 e5 hq hr
    go_enter Try.func27, Try.ntmps27
    go_wp2_with fail
    refine (S1.out _).mono ?_
    rintro e w1 ⟨rfl, hb1⟩
    obtain ⟨c_w1, z_w1⟩ := bcell hb1
    have s_w1 := hb1.size
    try simp at s_w1
    try simp at c_w1
    try simp at z_w1
    have q_w1_0 : w.heap.size < w1.heap.size := by omega
    have q_w1_1 : w.heap.size + 1 < w1.heap.size := by omega
    go_wp2_with fail
    refine (S2.out _).mono ?_
    rintro e w2 ⟨rfl, hb2⟩
    obtain ⟨c_w2, z_w2⟩ := bcell hb2
    have s_w2 := hb2.size
    try simp at s_w2
    try simp at c_w2
    try simp at z_w2
    have q_w2_0 : w.heap.size < w2.heap.size := by omega
    have q_w2_1 : w.heap.size + 1 < w2.heap.size := by omega
    have B2 : Below w.heap.size w w2 := ((((Below.refl _ w).alloc (Nat.le_refl _) _).alloc (by simp) _).trans (hb1.mono (by simp; omega))).trans (hb2.mono (by omega))
    have HB2 := Lib.hid B2
    clear B2
    go_upto_region 4 with fail
    go_cut [9] (fun p wx => ∃ g : Nat, p = .pointer (some ⟨g, 0, none⟩) ∧ Bx wx g 84 #[.int .u64 (H1 : Int), .int .u64 (L1 : Int)] ∧ w.heap.size ≤ g ∧ Below w.heap.size w wx)
    case first =>
      go_region_held3 (fun w' => w'.cell? ⟨w.heap.size + 1, 0, none⟩ = some (.int .i64 c) ∧ w'.cell? ⟨w.heap.size, 1, none⟩ = some (.int .i64 b))
        (first | (refine ⟨?_, ?_⟩ <;> go_simp; done) | go_keep)
        (first
         | (go_at_call 44; ((with_reducible refine (CM.out _).mono ?_); rintro e w3 ⟨rfl, rfl⟩))
         | (go_at_call 46; ((with_reducible refine (CT.out _).mono ?_); rintro e w4 ⟨rfl, hb4⟩; obtain ⟨c_w4, z_w4⟩ := bcell hb4; have s_w4 := hb4.size; try simp at s_w4; try simp at c_w4; have q_w4_0 : w.heap.size < w4.heap.size := (by omega); have q_w4_1 : w.heap.size + 1 < w4.heap.size := (by omega))))
      all_goals
        go_wp2_with fail
        go_meet
        have y2 := HB2.out.size
        first
        | exact ⟨_, rfl, Bx.new _ _ _, by omega, (HB2.out.trans (Below.mono (show Below w2.heap.size w2 w4 from ⟨hb4.os, hb4.tape, hb4.output, hb4.size, hb4.block⟩) y2)).alloc (by omega) _⟩
        | exact ⟨_, rfl, Bx.set2 (Bx.ext (Bx.drew (Bx.new w2 _ #[.int .u64 0, .int .u64 0])) hb4), y2, (((HB2.out.alloc y2 _).drew.trans (hb4.mono (by simp; omega))).setCell y2 _).setCell y2 _⟩
        | exact ⟨_, rfl, Bx.set2 (Bx.ext (Bx.new w2 _ #[.int .u64 0, .int .u64 0]) hb4), y2, (((HB2.out.alloc y2 _).trans (hb4.mono (by simp; omega))).setCell y2 _).setCell y2 _⟩
    case rest =>
      obtain ⟨g, rfl, bx, hg, hB⟩ := hcut
      have c0 := bx.cell 0 rfl
      have c1 := bx.cell 1 rfl
      have lt0 := bx.lt
      have BX := Lib.hid bx
      have HB := Lib.hid hB
      clear bx hB HB2 hb1 hb2 c_w1 z_w1 c_w2 z_w2 CM CT wrc wrb wrcb
      go_wp2_with fail
      refine (CP.out _).mono ?_
      rintro e w5 ⟨rfl, hb5⟩
      have bx5 := BX.out.ext hb5
      have d0 := bx5.cell 0 rfl
      have d1 := bx5.cell 1 rfl
      have z0 := bx5.frozen 0
      have z1 := bx5.frozen 1
      have lt5 := bx5.lt
      have bx6 : Bx ((w5.setCell ⟨g, 0, none⟩ (.int .u64 (H2 : Int))).setCell ⟨g, 1, none⟩ (.int .u64 (L2 : Int))) g _ _ := bx5.set2
      have B6 : Below w.heap.size w ((w5.setCell ⟨g, 0, none⟩ (.int .u64 (H2 : Int))).setCell ⟨g, 1, none⟩ (.int .u64 (L2 : Int))) := ((HB.out.trans (hb5.mono HB.out.size)).setCell hg _).setCell hg _
      have BX6 := Lib.hid bx6
      have HB6 := Lib.hid B6
      clear bx5 bx6 B6 hb5 BX HB CP c0 c1
      go_wp2_with fail
      refine (CQ.out _).mono ?_
      rintro e w7 ⟨rfl, hb7⟩
      have bx7 := BX6.out.ext hb7
      have f0 := bx7.cell 0 rfl
      have f1 := bx7.cell 1 rfl
      have k0 := bx7.frozen 0
      have k1 := bx7.frozen 1
      have lt7 := bx7.lt
      have B8 : Below w.heap.size w ((w7.setCell ⟨g, 0, none⟩ (.int .u64 (H3 : Int))).setCell ⟨g, 1, none⟩ (.int .u64 (L3 : Int))) := ((HB6.out.trans (hb7.mono HB6.out.size)).setCell hg _).setCell hg _
      have HB8 := Lib.hid B8
      clear bx7 B8 hb7 BX6 HB6 CQ d0 d1 z0 z1
      rcases E5.out with ⟨hbig, ho⟩ | ho
      · rw [ho] at CO
        have ev := EV.out
        rw [if_neg (by simp only [fitsB, decide_eq_true_eq]; omega)] at ev
        have EV2 := Lib.hid ev
        clear ev EV ho E5
        go_wp2_with fail
        refine (CO.out _).mono ?_
        rintro e w9 ⟨rfl, hb9⟩
        go_wp2_with fail
        go_ret2
        exact ⟨congrArg Ending.returned EV2.out.symm, HB8.out.trans (hb9.mono HB8.out.size)⟩
      · rw [ho] at CO
        clear ho E5
        by_cases hq2 : 9223372036854775808 < q
        · have ev := EV.out
          rw [if_neg (by simp only [fitsB, decide_eq_true_eq]; omega)] at ev
          have EV2 := Lib.hid ev
          clear ev EV
          go_wp2_with fail
          refine (CO.out _).mono ?_
          rintro e w9 ⟨rfl, hb9⟩
          go_wp2_with fail
          go_ret2
          exact ⟨congrArg Ending.returned EV2.out.symm, HB8.out.trans (hb9.mono HB8.out.size)⟩
        · have dq : decide ((9223372036854775808 : Int) < (q : Int)) = false := by simp; omega
          have cs := fun w => r01_signed_pos q w (by omega)
          have CS := Lib.hid cs
          have ev := EV.out
          clear cs EV
          by_cases hq3 : q ≤ 9223372036854775807
          · rw [if_pos (by simp only [fitsB, decide_eq_true_eq]; omega)] at ev
            rw [show decide (q ≤ 9223372036854775807) = true by simpa using hq3] at CS
            have EV2 := Lib.hid ev
            clear ev
            go_wp2_with fail
            refine (CO.out _).mono ?_
            rintro e w9 ⟨rfl, hb9⟩
            go_wp2_with fail
            refine (CS.out _).mono ?_
            rintro e w9 ⟨x, rfl, hx, rfl⟩
            obtain rfl := hx hq3
            clear hx
            go_wp2_with fail
            go_ret2
            exact ⟨congrArg Ending.returned EV2.out.symm, HB8.out.trans (hb9.mono HB8.out.size)⟩
          · rw [if_neg (by simp only [fitsB, decide_eq_true_eq]; omega)] at ev
            rw [show decide (q ≤ 9223372036854775807) = false by simpa using hq3] at CS
            have EV2 := Lib.hid ev
            clear ev
            go_wp2_with fail
            refine (CO.out _).mono ?_
            rintro e w9 ⟨rfl, hb9⟩
            go_wp2_with fail
            refine (CS.out _).mono ?_
            rintro e w9 ⟨x, rfl, hx, rfl⟩
            clear hx
            go_wp2_with fail
            go_ret2
            exact ⟨congrArg Ending.returned EV2.out.symm, HB8.out.trans (hb9.mono HB8.out.size)⟩
  · have dn : decide (n < 0) = true := by simp; omega
    rw [hP] at EV
    have cl := fun w => r01_less D (P + P) w
    rw [E2.out, w2_small D (by omega)] at cl
    by_cases hlt : D < P + P
    · rw [show decide (D < P + P) = true by simpa using hlt] at cl
      have CL := Lib.hid cl
      obtain ⟨V, hV⟩ : ∃ V, P + P - D = V := ⟨_, rfl⟩
      obtain ⟨H3, L3, e3, p3, p3'⟩ := w2_open V
      have cq := fun w => r01_minus (P + P) D w (by omega) (by omega)
      rw [hV, e3, E2.out, w2_small D (by omega)] at cq
      have co := fun w => r01_over V (2 * D) w (by omega)
      rw [e3, show ((2 * D : Nat) : Int) = 2 * (D : Int) by omega] at co
      have CQ := Lib.hid cq
      have CO := Lib.hid co
      have hfl := floor_neg V (2 * D) (by omega)
      rw [show 2 * -(P : Int) + (D : Int) = -(V : Int) by omega] at EV
      rw [show ((2 * D : Nat) : Int) = 2 * (D : Int) by omega] at hfl
      have e5 := overV_cases V (2 * D) (by omega)
      obtain ⟨q, hq⟩ : ∃ q, V / (2 * D) = q := ⟨_, rfl⟩
      obtain ⟨r, hr⟩ : ∃ q, V % (2 * D) = q := ⟨_, rfl⟩
      rw [hq, hr] at e5 hfl
      have hfl2 : r = 0 ∧ -(V : Int) / (2 * (D : Int)) = -(q : Int) ∨ 0 < r ∧ -(V : Int) / (2 * (D : Int)) = -(q : Int) - 1 := by
        rcases hfl with ⟨h1, h2, _⟩ | ⟨h1, h2, _⟩
        · exact .inl ⟨h1, h2⟩
        · exact .inr ⟨h1, h2⟩
      have E5 := Lib.hid e5
      have FL := Lib.hid hfl2
      clear hP cq co cl hV p3 p3' e3 e5 hq hr hfl hfl2 hlt
      go_enter Try.func27, Try.ntmps27
      go_wp2_with fail
      refine (S1.out _).mono ?_
      rintro e w1 ⟨rfl, hb1⟩
      obtain ⟨c_w1, z_w1⟩ := bcell hb1
      have s_w1 := hb1.size
      try simp at s_w1
      try simp at c_w1
      try simp at z_w1
      have q_w1_0 : w.heap.size < w1.heap.size := by omega
      have q_w1_1 : w.heap.size + 1 < w1.heap.size := by omega
      go_wp2_with fail
      refine (S2.out _).mono ?_
      rintro e w2 ⟨rfl, hb2⟩
      obtain ⟨c_w2, z_w2⟩ := bcell hb2
      have s_w2 := hb2.size
      try simp at s_w2
      try simp at c_w2
      try simp at z_w2
      have q_w2_0 : w.heap.size < w2.heap.size := by omega
      have q_w2_1 : w.heap.size + 1 < w2.heap.size := by omega
      have B2 : Below w.heap.size w w2 := ((((Below.refl _ w).alloc (Nat.le_refl _) _).alloc (by simp) _).trans (hb1.mono (by simp; omega))).trans (hb2.mono (by omega))
      have HB2 := Lib.hid B2
      clear B2
      go_upto_region 4 with fail
      go_cut [9] (fun p wx => ∃ g : Nat, p = .pointer (some ⟨g, 0, none⟩) ∧ Bx wx g 84 #[.int .u64 (H1 : Int), .int .u64 (L1 : Int)] ∧ w.heap.size ≤ g ∧ Below w.heap.size w wx)
      case first =>
        go_region_held3 (fun w' => w'.cell? ⟨w.heap.size + 1, 0, none⟩ = some (.int .i64 c) ∧ w'.cell? ⟨w.heap.size, 1, none⟩ = some (.int .i64 b))
          (first | (refine ⟨?_, ?_⟩ <;> go_simp; done) | go_keep)
          (first
           | (go_at_call 44; ((with_reducible refine (CM.out _).mono ?_); rintro e w3 ⟨rfl, rfl⟩))
           | (go_at_call 46; ((with_reducible refine (CT.out _).mono ?_); rintro e w4 ⟨rfl, hb4⟩; obtain ⟨c_w4, z_w4⟩ := bcell hb4; have s_w4 := hb4.size; try simp at s_w4; try simp at c_w4; have q_w4_0 : w.heap.size < w4.heap.size := (by omega); have q_w4_1 : w.heap.size + 1 < w4.heap.size := (by omega))))
        all_goals
          go_wp2_with fail
          go_meet
          have y2 := HB2.out.size
          first
          | exact ⟨_, rfl, Bx.new _ _ _, by omega, (HB2.out.trans (Below.mono (show Below w2.heap.size w2 w4 from ⟨hb4.os, hb4.tape, hb4.output, hb4.size, hb4.block⟩) y2)).alloc (by omega) _⟩
          | exact ⟨_, rfl, Bx.set2 (Bx.ext (Bx.drew (Bx.new w2 _ #[.int .u64 0, .int .u64 0])) hb4), y2, (((HB2.out.alloc y2 _).drew.trans (hb4.mono (by simp; omega))).setCell y2 _).setCell y2 _⟩
          | exact ⟨_, rfl, Bx.set2 (Bx.ext (Bx.new w2 _ #[.int .u64 0, .int .u64 0]) hb4), y2, (((HB2.out.alloc y2 _).trans (hb4.mono (by simp; omega))).setCell y2 _).setCell y2 _⟩
      case rest =>
        obtain ⟨g, rfl, bx, hg, hB⟩ := hcut
        have c0 := bx.cell 0 rfl
        have c1 := bx.cell 1 rfl
        have lt0 := bx.lt
        have BX := Lib.hid bx
        have HB := Lib.hid hB
        clear bx hB HB2 hb1 hb2 c_w1 z_w1 c_w2 z_w2 CM CT wrc wrb wrcb
        go_wp2_with fail
        refine (CP.out _).mono ?_
        rintro e w5 ⟨rfl, hb5⟩
        have bx5 := BX.out.ext hb5
        have d0 := bx5.cell 0 rfl
        have d1 := bx5.cell 1 rfl
        have z0 := bx5.frozen 0
        have z1 := bx5.frozen 1
        have lt5 := bx5.lt
        have bx6 : Bx ((w5.setCell ⟨g, 0, none⟩ (.int .u64 (H2 : Int))).setCell ⟨g, 1, none⟩ (.int .u64 (L2 : Int))) g _ _ := bx5.set2
        have B6 : Below w.heap.size w ((w5.setCell ⟨g, 0, none⟩ (.int .u64 (H2 : Int))).setCell ⟨g, 1, none⟩ (.int .u64 (L2 : Int))) := ((HB.out.trans (hb5.mono HB.out.size)).setCell hg _).setCell hg _
        have BX6 := Lib.hid bx6
        have HB6 := Lib.hid B6
        clear bx5 bx6 B6 hb5 BX HB CP c0 c1
        go_wp2_with fail
        refine (CL.out _).mono ?_
        rintro e w6 ⟨rfl, hb6⟩
        have bx6 := BX6.out.ext hb6
        have u0 := bx6.cell 0 rfl
        have u1 := bx6.cell 1 rfl
        have B6 := HB6.out.trans (hb6.mono HB6.out.size)
        have lt6 := bx6.lt
        clear BX6 HB6 hb6 d0 d1 z0 z1
        have BX6 := Lib.hid bx6
        have HB6 := Lib.hid B6
        clear bx6 B6
        go_wp2_with fail
        refine (CQ.out _).mono ?_
        rintro e w7 ⟨rfl, hb7⟩
        have bx7 := BX6.out.ext hb7
        have f0 := bx7.cell 0 rfl
        have f1 := bx7.cell 1 rfl
        have k0 := bx7.frozen 0
        have k1 := bx7.frozen 1
        have lt7 := bx7.lt
        have B8 : Below w.heap.size w ((w7.setCell ⟨g, 0, none⟩ (.int .u64 (H3 : Int))).setCell ⟨g, 1, none⟩ (.int .u64 (L3 : Int))) := ((HB6.out.trans (hb7.mono HB6.out.size)).setCell hg _).setCell hg _
        have HB8 := Lib.hid B8
        clear bx7 B8 hb7 BX6 HB6 CQ CL u0 u1
        have hfl := FL.out
        clear FL
        rcases E5.out with ⟨hbig, ho⟩ | ho
        · rw [ho] at CO
          have ev := EV.out
          rw [if_neg (by simp only [fitsB, decide_eq_true_eq]; omega)] at ev
          have EV2 := Lib.hid ev
          clear ev EV ho E5 hfl
          go_wp2_with fail
          refine (CO.out _).mono ?_
          rintro e w9 ⟨rfl, hb9⟩
          go_wp2_with fail
          go_ret2
          exact ⟨congrArg Ending.returned EV2.out.symm, HB8.out.trans (hb9.mono HB8.out.size)⟩
        · rw [ho] at CO
          clear ho E5
          by_cases hq2 : 9223372036854775808 < q
          · have ev := EV.out
            rw [if_neg (by simp only [fitsB, decide_eq_true_eq]; omega)] at ev
            have EV2 := Lib.hid ev
            clear ev EV hfl
            go_wp2_with fail
            refine (CO.out _).mono ?_
            rintro e w9 ⟨rfl, hb9⟩
            go_wp2_with fail
            go_ret2
            exact ⟨congrArg Ending.returned EV2.out.symm, HB8.out.trans (hb9.mono HB8.out.size)⟩
          · have dq : decide ((9223372036854775808 : Int) < (q : Int)) = false := by simp; omega
            have ev := EV.out
            clear EV
            rcases hfl with ⟨hr0, hz⟩ | ⟨hr0, hz⟩
            · subst hr0
              rw [hz] at ev
              have tr : ¬ (0 : Int) < ((0 : Nat) : Int) := by omega
              have cs := fun w => r01_signed_neg q w (by omega)
              rw [show decide (q ≤ 9223372036854775808) = true by simp; omega] at cs
              rw [if_pos (by simp only [fitsB, decide_eq_true_eq]; omega)] at ev
              have CS := Lib.hid cs
              have EV2 := Lib.hid ev
              clear cs ev hz
              go_wp2_with fail
              refine (CO.out _).mono ?_
              rintro e w9 ⟨rfl, hb9⟩
              go_wp2_with fail
              refine (CS.out _).mono ?_
              rintro e w9 ⟨x, rfl, hx, rfl⟩
              obtain rfl := hx (by omega)
              clear hx
              go_wp2_with fail
              go_ret2
              exact ⟨congrArg Ending.returned EV2.out.symm, HB8.out.trans (hb9.mono HB8.out.size)⟩
            · rw [hz] at ev
              have cs := fun w => r01_signed_neg (q + 1) w (by omega)
              rw [show (((q + 1 : Nat)) : Int) = (q : Int) + 1 by omega] at cs
              by_cases hq3 : q + 1 ≤ 9223372036854775808
              · rw [show decide (q + 1 ≤ 9223372036854775808) = true by simp; omega] at cs
                rw [if_pos (by simp only [fitsB, decide_eq_true_eq]; omega)] at ev
                have CS := Lib.hid cs
                have EV2 := Lib.hid ev
                clear cs ev hz
                go_wp2_with fail
                refine (CO.out _).mono ?_
                rintro e w9 ⟨rfl, hb9⟩
                go_wp2_with fail
                refine (CS.out _).mono ?_
                rintro e w9 ⟨x, rfl, hx, rfl⟩
                have hx' := hx hq3
                obtain rfl : x = -(q : Int) - 1 := by omega
                clear hx hx'
                go_wp2_with fail
                go_ret2
                exact ⟨congrArg Ending.returned EV2.out.symm, HB8.out.trans (hb9.mono HB8.out.size)⟩
              · rw [show decide (q + 1 ≤ 9223372036854775808) = false by simp; omega] at cs
                rw [if_neg (by simp only [fitsB, decide_eq_true_eq]; omega)] at ev
                have CS := Lib.hid cs
                have EV2 := Lib.hid ev
                clear cs ev hz
                go_wp2_with fail
                refine (CO.out _).mono ?_
                rintro e w9 ⟨rfl, hb9⟩
                go_wp2_with fail
                refine (CS.out _).mono ?_
                rintro e w9 ⟨x, rfl, hx, rfl⟩
                clear hx
                go_wp2_with fail
                go_ret2
                exact ⟨congrArg Ending.returned EV2.out.symm, HB8.out.trans (hb9.mono HB8.out.size)⟩
    · rw [show decide (D < P + P) = false by simpa using hlt] at cl
      have CL := Lib.hid cl
      have ev := EV.out
      rw [show (2 * -(P : Int) + (D : Int)) / (2 * (D : Int)) = 0 from Int.ediv_eq_zero_of_lt (by omega) (by omega), if_pos (by decide)] at ev
      have EV2 := Lib.hid ev
      clear hP cl ev EV hlt
      go_enter Try.func27, Try.ntmps27
      go_wp2_with fail
      refine (S1.out _).mono ?_
      rintro e w1 ⟨rfl, hb1⟩
      obtain ⟨c_w1, z_w1⟩ := bcell hb1
      have s_w1 := hb1.size
      try simp at s_w1
      try simp at c_w1
      try simp at z_w1
      have q_w1_0 : w.heap.size < w1.heap.size := by omega
      have q_w1_1 : w.heap.size + 1 < w1.heap.size := by omega
      go_wp2_with fail
      refine (S2.out _).mono ?_
      rintro e w2 ⟨rfl, hb2⟩
      obtain ⟨c_w2, z_w2⟩ := bcell hb2
      have s_w2 := hb2.size
      try simp at s_w2
      try simp at c_w2
      try simp at z_w2
      have q_w2_0 : w.heap.size < w2.heap.size := by omega
      have q_w2_1 : w.heap.size + 1 < w2.heap.size := by omega
      have B2 : Below w.heap.size w w2 := ((((Below.refl _ w).alloc (Nat.le_refl _) _).alloc (by simp) _).trans (hb1.mono (by simp; omega))).trans (hb2.mono (by omega))
      have HB2 := Lib.hid B2
      clear B2
      go_upto_region 4 with fail
      go_cut [9] (fun p wx => ∃ g : Nat, p = .pointer (some ⟨g, 0, none⟩) ∧ Bx wx g 84 #[.int .u64 (H1 : Int), .int .u64 (L1 : Int)] ∧ w.heap.size ≤ g ∧ Below w.heap.size w wx)
      case first =>
        go_region_held3 (fun w' => w'.cell? ⟨w.heap.size + 1, 0, none⟩ = some (.int .i64 c) ∧ w'.cell? ⟨w.heap.size, 1, none⟩ = some (.int .i64 b))
          (first | (refine ⟨?_, ?_⟩ <;> go_simp; done) | go_keep)
          (first
           | (go_at_call 44; ((with_reducible refine (CM.out _).mono ?_); rintro e w3 ⟨rfl, rfl⟩))
           | (go_at_call 46; ((with_reducible refine (CT.out _).mono ?_); rintro e w4 ⟨rfl, hb4⟩; obtain ⟨c_w4, z_w4⟩ := bcell hb4; have s_w4 := hb4.size; try simp at s_w4; try simp at c_w4; have q_w4_0 : w.heap.size < w4.heap.size := (by omega); have q_w4_1 : w.heap.size + 1 < w4.heap.size := (by omega))))
        all_goals
          go_wp2_with fail
          go_meet
          have y2 := HB2.out.size
          first
          | exact ⟨_, rfl, Bx.new _ _ _, by omega, (HB2.out.trans (Below.mono (show Below w2.heap.size w2 w4 from ⟨hb4.os, hb4.tape, hb4.output, hb4.size, hb4.block⟩) y2)).alloc (by omega) _⟩
          | exact ⟨_, rfl, Bx.set2 (Bx.ext (Bx.drew (Bx.new w2 _ #[.int .u64 0, .int .u64 0])) hb4), y2, (((HB2.out.alloc y2 _).drew.trans (hb4.mono (by simp; omega))).setCell y2 _).setCell y2 _⟩
          | exact ⟨_, rfl, Bx.set2 (Bx.ext (Bx.new w2 _ #[.int .u64 0, .int .u64 0]) hb4), y2, (((HB2.out.alloc y2 _).trans (hb4.mono (by simp; omega))).setCell y2 _).setCell y2 _⟩
      case rest =>
        obtain ⟨g, rfl, bx, hg, hB⟩ := hcut
        have c0 := bx.cell 0 rfl
        have c1 := bx.cell 1 rfl
        have lt0 := bx.lt
        have BX := Lib.hid bx
        have HB := Lib.hid hB
        clear bx hB HB2 hb1 hb2 c_w1 z_w1 c_w2 z_w2 CM CT wrc wrb wrcb
        go_wp2_with fail
        refine (CP.out _).mono ?_
        rintro e w5 ⟨rfl, hb5⟩
        have bx5 := BX.out.ext hb5
        have d0 := bx5.cell 0 rfl
        have d1 := bx5.cell 1 rfl
        have z0 := bx5.frozen 0
        have z1 := bx5.frozen 1
        have lt5 := bx5.lt
        have bx6 : Bx ((w5.setCell ⟨g, 0, none⟩ (.int .u64 (H2 : Int))).setCell ⟨g, 1, none⟩ (.int .u64 (L2 : Int))) g _ _ := bx5.set2
        have B6 : Below w.heap.size w ((w5.setCell ⟨g, 0, none⟩ (.int .u64 (H2 : Int))).setCell ⟨g, 1, none⟩ (.int .u64 (L2 : Int))) := ((HB.out.trans (hb5.mono HB.out.size)).setCell hg _).setCell hg _
        have BX6 := Lib.hid bx6
        have HB6 := Lib.hid B6
        clear bx5 bx6 B6 hb5 BX HB CP c0 c1
        go_wp2_with fail
        refine (CL.out _).mono ?_
        rintro e w6 ⟨rfl, hb6⟩
        go_wp2_with fail
        go_ret2
        exact ⟨congrArg Ending.returned EV2.out.symm, HB6.out.trans (hb6.mono HB6.out.size)⟩
end Go.Proofs.Ytojfaonlgkicfaa
