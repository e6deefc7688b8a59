/- The contract of math/bits.Div64, for all numbers. -/
import Derived.Test.YtdnchjmopkhnaaaDivM
import Derived.Deep.CutBlock
namespace Go.Proofs.Ytdnchjmopkhnaaa
open Go.RowKit

def DigRel (y u v : Nat) (a b : Value) : Prop := ∃ q r : Nat, Digit y u v q r ∧ r < 4294967296 ∧ a = .int .u64 (q : Int) ∧ b = .int .u64 (r : Int)

set_option maxRecDepth 4000 in
set_option maxHeartbeats 2000000 in
theorem bits_Div64_high (hi lo y : Nat) (h0 : 0 < hi) (h : hi < y) (hy : y < 18446744073709551616) (hlo : lo < 18446744073709551616) (w : World) :
    Calls Try.prog 65 #[.int .u64 hi, .int .u64 lo, .int .u64 y] w fun e w' => e = .returned (.tuple #[.int .u64 (((hi * 18446744073709551616 + lo) / y : Nat) : Int), .int .u64 (((hi * 18446744073709551616 + lo) % y : Nat) : Int)]) ∧ w = w' := by
  obtain ⟨s, hs, hc⟩ := bits_Lead y (by omega) hy
  obtain ⟨Y, U, LO, N⟩ := normed h hlo hs
  have s1 := hs.1
  have C := Lib.hid hc
  obtain ⟨dq, dr⟩ := digits (U := U) (LO := LO) (Y := Y) (by have := N.y1; omega)
  rw [N.q] at dq
  have dr2 := N.r
  rw [dr] at dr2
  have h1 : ((y : Int) == 0) = false := by simp; omega
  have h2 : ¬ (y : Int) ≤ (hi : Int) := by omega
  have h3 : ((hi : Int) == 0) = false := by simp; omega
  have h4 : decide ((y : Int) ≤ (hi : Int)) = false := by simp; omega
  have h5 : decide (y ≤ hi) = false := by simp; omega
  rw [dq, ← dr2]
  have eY := N.eY
  have eL := N.eL
  have eU := N.eU
  have y1 := N.y1
  have y2 := N.y2
  have u1 := N.u
  have l1 := N.l
  clear hc dq dr dr2 hs N
  have hYp : 0 < Y := by omega
  obtain ⟨V1, hV1⟩ : ∃ V1, LO / 4294967296 = V1 := ⟨_, rfl⟩
  obtain ⟨V0, hV0⟩ : ∃ V0, LO % 4294967296 = V0 := ⟨_, rfl⟩
  rw [hV1, hV0]
  have v1b : V1 < 4294967296 := by omega
  have v0b : V0 < 4294967296 := by omega
  have d1lt := digit_lt u1 v1b
  have st1 := digit_start (v := V1) y1 y2 u1 v1b
  obtain ⟨D1, hD1⟩ : ∃ D, (U * 4294967296 + V1) / Y = D := ⟨_, rfl⟩
  obtain ⟨R1, hR1⟩ : ∃ R, (U * 4294967296 + V1) % Y = R := ⟨_, rfl⟩
  have e1 : Y * D1 + R1 = U * 4294967296 + V1 := by rw [← hD1, ← hR1]; exact Nat.div_add_mod _ _
  have r1b : R1 < Y := hR1 ▸ Nat.mod_lt _ hYp
  rw [hD1, hR1]
  rw [hD1] at d1lt
  have d0lt := digit_lt r1b v0b
  have st0 := digit_start (v := V0) y1 y2 r1b v0b
  obtain ⟨D0, hD0⟩ : ∃ D, (R1 * 4294967296 + V0) / Y = D := ⟨_, rfl⟩
  obtain ⟨R0, hR0⟩ : ∃ R, (R1 * 4294967296 + V0) % Y = R := ⟨_, rfl⟩
  have e0 : Y * D0 + R0 = R1 * 4294967296 + V0 := by rw [← hD0, ← hR0]; exact Nat.div_add_mod _ _
  have r0b : R0 < Y := hR0 ▸ Nat.mod_lt _ hYp
  rw [hD0, hR0]
  rw [hD0] at d0lt
  obtain ⟨Y1, hY1⟩ : ∃ Y1, Y / 4294967296 = Y1 := ⟨_, rfl⟩
  obtain ⟨Y0, hY0⟩ : ∃ Y0, Y % 4294967296 = Y0 := ⟨_, rfl⟩
  have y1b : 2147483648 ≤ Y1 := by omega
  have y1c : Y1 < 4294967296 := by omega
  have y0b : Y0 < 4294967296 := by omega
  rw [hY1] at st1 st0
  obtain ⟨a1, a2, a3, a4⟩ := st1
  obtain ⟨c1, c2, c3, c4⟩ := st0
  have x1 := rest_u64 e1 (by omega)
  have x0 := rest_u64 e0 (by omega)
  have X1 := Lib.hid x1
  have X0 := Lib.hid x0
  have HY1 := Lib.hid hY1
  have HY0 := Lib.hid hY0
  have HD1 := Lib.hid hD1
  have HD0 := Lib.hid hD0
  have fY1 : (Y : Int) / 4294967296 = (Y1 : Int) := by omega
  have fY0 : bits .and .u64 (Y : Int) 4294967295 = (Y0 : Int) := by rw [M64.maskN _ y2, hY0]
  have fV1 : (LO : Int) / 4294967296 = (V1 : Int) := by omega
  have fV0 : bits .and .u64 (LO : Int) 4294967295 = (V0 : Int) := by rw [M64.maskN _ l1, hV0]
  obtain ⟨q1, hq1⟩ : ∃ q, U / Y1 = q := ⟨_, rfl⟩
  obtain ⟨r1, hr1⟩ : ∃ q, U % Y1 = q := ⟨_, rfl⟩
  obtain ⟨q0, hq0⟩ : ∃ q, R1 / Y1 = q := ⟨_, rfl⟩
  obtain ⟨r0, hr0⟩ : ∃ q, R1 % Y1 = q := ⟨_, rfl⟩
  rw [hq1] at a1 a2 a3
  rw [hr1] at a3 a4
  rw [hq0] at c1 c2 c3
  rw [hr0] at c3 c4
  have fq1 : (U : Int) / (Y1 : Int) = (q1 : Int) := by rw [← Int.natCast_ediv, hq1]
  have fq0 : (R1 : Int) / (Y1 : Int) = (q0 : Int) := by rw [← Int.natCast_ediv, hq0]
  have A1 : Digit Y U V1 q1 r1 := ⟨by rw [hY1]; exact a3, a1, a2⟩
  have A0 : Digit Y R1 V0 q0 r0 := ⟨by rw [hY1]; exact c3, c1, c2⟩
  have G1 := Lib.hid A1
  have G0 := Lib.hid A0
  have k1 : (q1 : Int) * (Y1 : Int) + (r1 : Int) = (U : Int) := by rw [← a3]; simp
  have k0 : (q0 : Int) * (Y1 : Int) + (r0 : Int) = (R1 : Int) := by rw [← c3]; simp
  have K1 := Lib.hid k1
  have K0 := Lib.hid k0
  have k1' : (q1 : Int) * (Y1 : Int) ≤ (U : Int) := by omega
  have k1'' : 0 ≤ (q1 : Int) * (Y1 : Int) := Int.mul_nonneg (by omega) (by omega)
  have k0' : (q0 : Int) * (Y1 : Int) ≤ (R1 : Int) := by omega
  have k0'' : 0 ≤ (q0 : Int) * (Y1 : Int) := Int.mul_nonneg (by omega) (by omega)
  clear x1 x0 hY1 hY0 hD1 hD0 hV1 hV0 hR1 hR0 e1 e0 hq1 hr1 hq0 hr0 A1 A0 a1 a3 c1 c3 k1 k0
  go_enter Try.func65, Try.ntmps65
  go_upto_block 0 with (go_at_call 66; ((with_reducible refine (C.out _).mono ?_); rintro e w1 ⟨rfl, rfl⟩))
  clear eY eL eU fY1 fY0 fV1 fV0 fq1
  go_cut [15, 16] from 67 to 85 (fun a _ wx => a = .int .u64 (D1 : Int) ∧ w = wx)
  case first =>
    go_wp2_with fail
    go_loop [15, 16] (fun a b => DigRel Y U V1 a b) (fun a _ => (intOf a).toNat)
    case atStart => exact ⟨q1, r1, G1.out, by omega, rfl, congrArg (Value.int .u64) (by have := K1.out; omega)⟩
    case round =>
      obtain ⟨q, r, hd, hr, rfl, rfl⟩ := hrel
      have htop := hd.top
      by_cases ha : 4294967296 ≤ q
      · obtain ⟨hq1, hd'⟩ := digit_step hYp u1 v1b hd (.inl ha)
        rw [HY1.out] at hd'
        have HD' := Lib.hid hd'
        clear hd hd'
        by_cases hbk : 4294967296 ≤ r + Y1
        · have tb : (4294967296 : Int) ≤ (r : Int) + (Y1 : Int) := by omega
          go_wp2_with fail
          go_meet
          exact ⟨congrArg (Value.int .u64) (by have := digit_break hYp HD'.out hbk; rw [← HD1.out, ← this]; omega), rfl⟩
        · have tb : ¬ (4294967296 : Int) ≤ (r : Int) + (Y1 : Int) := by omega
          have tb' : decide ((4294967296 : Int) ≤ (r : Int) + (Y1 : Int)) = false := by simp; omega
          go_wp2_with fail
          go_round
          case rel => exact ⟨q - 1, r + Y1, HD'.out, by omega, by congr 1; omega, by congr 1⟩
          case measure => simp [intOf]; omega
      · have ha' : decide ((4294967296 : Int) ≤ (q : Int)) = false := by simp; omega
        have pb := Nat.mul_le_mul (show q ≤ 4294967295 by omega) (show Y0 ≤ 4294967295 by omega)
        have pb' : (q : Int) * (Y0 : Int) ≤ 18446744065119617025 := by have : ((q * Y0 : Nat) : Int) ≤ 18446744065119617025 := by omega
                                                                       simpa using this
        have pb'' : (0 : Int) ≤ (q : Int) * (Y0 : Int) := Int.mul_nonneg (by omega) (by omega)
        have pc : ((q * Y0 : Nat) : Int) = (q : Int) * (Y0 : Int) := by simp
        have HPC := Lib.hid pc
        clear pc
        by_cases hb : 4294967296 * r + V1 < q * Y0
        · obtain ⟨hq1, hd'⟩ := digit_step hYp u1 v1b hd (.inr (by rw [HY0.out]; exact hb))
          rw [HY1.out] at hd'
          have HD' := Lib.hid hd'
          have tc : (4294967296 : Int) * (r : Int) + (V1 : Int) < (q : Int) * (Y0 : Int) := by rw [← HPC.out]; omega
          clear hd hd' hb
          by_cases hbk : 4294967296 ≤ r + Y1
          · have tb : (4294967296 : Int) ≤ (r : Int) + (Y1 : Int) := by omega
            go_wp2_with fail
            go_meet
            exact ⟨congrArg (Value.int .u64) (by have := digit_break hYp HD'.out hbk; rw [← HD1.out, ← this]; omega), rfl⟩
          · have tb : ¬ (4294967296 : Int) ≤ (r : Int) + (Y1 : Int) := by omega
            have tb' : decide ((4294967296 : Int) ≤ (r : Int) + (Y1 : Int)) = false := by simp; omega
            go_wp2_with fail
            go_round
            case rel => exact ⟨q - 1, r + Y1, HD'.out, by omega, by congr 1; omega, by congr 1⟩
            case measure => simp [intOf]; omega
        · have tc : ¬ (4294967296 : Int) * (r : Int) + (V1 : Int) < (q : Int) * (Y0 : Int) := by rw [← HPC.out]; omega
          have tc' : decide ((4294967296 : Int) * (r : Int) + (V1 : Int) < (q : Int) * (Y0 : Int)) = false := by simpa using tc
          have hfin := digit_done hYp hd (by rw [HY0.out]; omega)
          have HFIN := Lib.hid hfin
          clear hd hb hfin
          go_wp2_with fail
          go_meet
          exact ⟨congrArg (Value.int .u64) (by rw [← HD1.out, ← HFIN.out]), rfl⟩
  case rest =>
    obtain ⟨rfl, rfl⟩ := hcut
    have x1 := X1.out
    go_upto_block 2 with fail
    clear x1 fq0
    go_cut [18, 16] from 102 to 120 (fun a _ wx => a = .int .u64 (D0 : Int) ∧ w = wx)
    case first =>
      go_wp2_with fail
      go_loop [18, 16] (fun a b => DigRel Y R1 V0 a b) (fun a _ => (intOf a).toNat)
      case atStart => exact ⟨q0, r0, G0.out, by omega, rfl, congrArg (Value.int .u64) (by have := K0.out; omega)⟩
      case round =>
        obtain ⟨q, r, hd, hr, rfl, rfl⟩ := hrel
        have htop := hd.top
        by_cases ha : 4294967296 ≤ q
        · obtain ⟨hq1, hd'⟩ := digit_step hYp r1b v0b hd (.inl ha)
          rw [HY1.out] at hd'
          have HD' := Lib.hid hd'
          clear hd hd'
          by_cases hbk : 4294967296 ≤ r + Y1
          · have tb : (4294967296 : Int) ≤ (r : Int) + (Y1 : Int) := by omega
            go_wp2_with fail
            go_meet
            exact ⟨congrArg (Value.int .u64) (by have := digit_break hYp HD'.out hbk; rw [← HD0.out, ← this]; omega), rfl⟩
          · have tb : ¬ (4294967296 : Int) ≤ (r : Int) + (Y1 : Int) := by omega
            have tb' : decide ((4294967296 : Int) ≤ (r : Int) + (Y1 : Int)) = false := by simp; omega
            go_wp2_with fail
            go_round
            case rel => exact ⟨q - 1, r + Y1, HD'.out, by omega, by congr 1; omega, by congr 1⟩
            case measure => simp [intOf]; omega
        · have ha' : decide ((4294967296 : Int) ≤ (q : Int)) = false := by simp; omega
          have pb := Nat.mul_le_mul (show q ≤ 4294967295 by omega) (show Y0 ≤ 4294967295 by omega)
          have pb' : (q : Int) * (Y0 : Int) ≤ 18446744065119617025 := by have : ((q * Y0 : Nat) : Int) ≤ 18446744065119617025 := by omega
                                                                         simpa using this
          have pb'' : (0 : Int) ≤ (q : Int) * (Y0 : Int) := Int.mul_nonneg (by omega) (by omega)
          have pc : ((q * Y0 : Nat) : Int) = (q : Int) * (Y0 : Int) := by simp
          have HPC := Lib.hid pc
          clear pc
          by_cases hb : 4294967296 * r + V0 < q * Y0
          · obtain ⟨hq1, hd'⟩ := digit_step hYp r1b v0b hd (.inr (by rw [HY0.out]; exact hb))
            rw [HY1.out] at hd'
            have HD' := Lib.hid hd'
            have tc : (4294967296 : Int) * (r : Int) + (V0 : Int) < (q : Int) * (Y0 : Int) := by rw [← HPC.out]; omega
            clear hd hd' hb
            by_cases hbk : 4294967296 ≤ r + Y1
            · have tb : (4294967296 : Int) ≤ (r : Int) + (Y1 : Int) := by omega
              go_wp2_with fail
              go_meet
              exact ⟨congrArg (Value.int .u64) (by have := digit_break hYp HD'.out hbk; rw [← HD0.out, ← this]; omega), rfl⟩
            · have tb : ¬ (4294967296 : Int) ≤ (r : Int) + (Y1 : Int) := by omega
              have tb' : decide ((4294967296 : Int) ≤ (r : Int) + (Y1 : Int)) = false := by simp; omega
              go_wp2_with fail
              go_round
              case rel => exact ⟨q - 1, r + Y1, HD'.out, by omega, by congr 1; omega, by congr 1⟩
              case measure => simp [intOf]; omega
          · have tc : ¬ (4294967296 : Int) * (r : Int) + (V0 : Int) < (q : Int) * (Y0 : Int) := by rw [← HPC.out]; omega
            have tc' : decide ((4294967296 : Int) * (r : Int) + (V0 : Int) < (q : Int) * (Y0 : Int)) = false := by simpa using tc
            have hfin := digit_done hYp hd (by rw [HY0.out]; omega)
            have HFIN := Lib.hid hfin
            clear hd hb hfin
            go_wp2_with fail
            go_meet
            exact ⟨congrArg (Value.int .u64) (by rw [← HD0.out, ← HFIN.out]), rfl⟩
    case rest =>
      obtain ⟨rfl, rfl⟩ := hcut
      have x0 := X0.out
      go_wp2_with fail
      go_ret2
      exact ⟨ret2_u64 (by omega) (by simp), rfl⟩
end Go.Proofs.Ytdnchjmopkhnaaa
