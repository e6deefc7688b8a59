/- The contract of MulDiv. -/
import Derived.Test.YtclainbjidajbaaWideD
namespace Go.Proofs.Ytclainbjidajbaa
open Go.RowKit

def mulDivV (z den : Int) : Value := if fitsB (z / den) then .tuple #[.int .i64 (z / den), .int .i64 (z % den), .int .i64 0] else .tuple #[.int .i64 0, .int .i64 0, .int .i64 2]

set_option maxHeartbeats 1000000 in
theorem rat_MulDiv (x num den : Int) (w : World) (x1 : -9223372036854775808 ≤ x) (x2 : x ≤ 9223372036854775807) (y1 : -9223372036854775808 ≤ num) (y2 : num ≤ 9223372036854775807) (hd : 1 ≤ den) (hd2 : den ≤ 9223372036854775807)
    (hD : (x * num).natAbs / 18446744073709551616 < den.toNat → Div64Ok (x * num).natAbs den.toNat) :
    Calls Try.prog 44 #[.int .i64 x, .int .i64 num, .int .i64 den] w fun e w' => e = .returned (mulDivV (x * num) den) ∧ Below w.heap.size w w' := by
  obtain ⟨dn, rfl⟩ := Int.eq_ofNat_of_zero_le (show 0 ≤ den by omega)
  have hdv := fun w => rat_divide (x * num) dn w (by omega) (by omega) hD
  have hpr := rat_product x num w x1 x2 y1 y2
  obtain ⟨z, hz⟩ : ∃ z, x * num = z := ⟨_, rfl⟩
  rw [hz] at hdv hpr
  rw [hz]
  have HP := Lib.hid hpr
  have HV := Lib.hid hdv
  clear hdv hpr hz hD
  have hm0 := Int.emod_nonneg z (show (dn : Int) ≠ 0 by omega)
  have hm1 := Int.emod_lt_of_pos z (show (0 : Int) < dn by omega)
  have hcv : IntKind.u64.wrap (dn : Int) = dn := by rw [IntKind.wrap_u64]; omega
  by_cases hf : fitsB (z / dn) = true
  · have e1 : divV z dn = .tuple #[.int .i64 (z / dn), .int .u64 (z % dn), .bool true] := by unfold divV; rw [if_pos hf]
    have e2 : mulDivV z dn = .tuple #[.int .i64 (z / dn), .int .i64 (z % dn), .int .i64 0] := by unfold mulDivV; rw [if_pos hf]
    rw [e1] at HV
    rw [e2]
    clear e1 e2 hf
    generalize z / (dn : Int) = q at *
    generalize z % (dn : Int) = r at *
    go_enter Try.func44, Try.ntmps44
    go_wp2_with fail
    refine HP.out.mono ?_
    rintro e w1 ⟨rfl, hb1⟩
    go_wp2_with fail
    refine (HV.out _).mono ?_
    rintro e w2 ⟨rfl, hb2⟩
    go_wp2_with fail
    go_ret3
    exact ⟨rfl, hb1.trans (hb2.mono hb1.size)⟩
  · have hf' : fitsB (z / dn) = false := by simpa using hf
    have e1 : divV z dn = .tuple #[.int .i64 0, .int .u64 0, .bool false] := by unfold divV; rw [if_neg hf]
    have e2 : mulDivV z dn = .tuple #[.int .i64 0, .int .i64 0, .int .i64 2] := by unfold mulDivV; rw [if_neg hf]
    rw [e1] at HV
    rw [e2]
    clear e1 e2 hf hf' hm0 hm1
    go_enter Try.func44, Try.ntmps44
    go_wp2_with fail
    refine HP.out.mono ?_
    rintro e w1 ⟨rfl, hb1⟩
    go_wp2_with fail
    refine (HV.out _).mono ?_
    rintro e w2 ⟨rfl, hb2⟩
    go_wp2_with fail
    go_ret3
    exact ⟨rfl, hb1.trans (hb2.mono hb1.size)⟩
end Go.Proofs.Ytclainbjidajbaa
