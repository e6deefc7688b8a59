/- awake of the law of transport packets. -/
import Derived.Test.YtdnchjmopkhnaaaTrG
namespace Go.Proofs.Ytdnchjmopkhnaaa
open Go.RowKit

def awakeL : List Int := encL 256 0 false (-1) [9] 1
theorem awakeL_len : awakeL.length = 188 := encL_len _ _ _ _ _ _ rfl (by omega)
theorem awakeL_at : awakeL[0]? = some 71 ∧ awakeL[1]? = some 1 ∧ awakeL[3]? = some 48 ∧ awakeL[4]? = some 182 ∧ awakeL[187]? = some 9 := by decide +kernel

set_option maxRecDepth 100000 in
set_option maxHeartbeats 2000000 in
theorem law_awake (w : World) : Calls Try.prog 15 #[] w fun e w' => e = .returned (.bool true) ∧ Below w.heap.size w w' := by
  have hv : validT 256 0 false (-1) 1 = true := by decide
  obtain ⟨r0, r1, r3, r4, r187⟩ := awakeL_at
  obtain ⟨E, hE⟩ : ∃ E, E = awakeL := ⟨_, rfl⟩
  have hput : ∀ (w1 : World), Byt (fun _ => True) w1 (some ⟨w.heap.size, 0, none⟩) 1 [9] → Calls Try.prog 11 #[.agg #[.int .i64 256, .int .i64 0, .bool false, .int .i64 (-1), .slice (some ⟨w.heap.size, 0, none⟩) 1 1]] w1 (RetP w1 E 0) := by
    intro w1 h1
    rw [hE]
    exact tr_Put_ok 256 0 false (-1) _ 1 1 [9] w1 h1 hv
  have hEl : E.length = 188 := by rw [hE]; exact awakeL_len
  rw [← hE] at r0 r1 r3 r4 r187
  have HP := Lib.hid hput
  clear hput hE
  go_enter Try.func15, Try.ntmps15
  go_wp2_with fail
  refine (HP.out _ ?_).mono ?_
  · exact Byt.one _ _ _ (by omega) (by omega)
  rintro e w1 ⟨A1, n1, c1, rfl, hB, hb⟩
  have B1 : Below w.heap.size w w1 := ((Below.refl _ w).alloc (Nat.le_refl _) _).trans (hb.mono (by simp))
  obtain rfl : n1 = 188 := by rw [← hB.len]; exact hEl
  obtain ⟨bb, oo, rfl, _, hbb, hc⟩ := hB.addr (by omega)
  have q0 := hc 0 _ r0
  rw [Nat.add_zero] at q0
  have q1 := hc 1 _ r1
  have q3 := hc 3 _ r3
  have q4 := hc 4 _ r4
  have q187 := hc 187 _ r187
  clear hc hB hb r0 r1 r3 r4 r187 hEl
  go_wp2_with fail
  go_ret
  exact ⟨rfl, B1⟩
end Go.Proofs.Ytdnchjmopkhnaaa
