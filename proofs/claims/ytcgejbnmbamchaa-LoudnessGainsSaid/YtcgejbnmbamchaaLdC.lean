/- The closures of loudness.Gain. -/
import Derived.Test.YtcgejbnmbamchaaLdS
namespace Go.Proofs.Ytcgejbnmbamchaa
open Go.RowKit

/-- The gain keeps both limits. -/
def gainB (g num den T p pk : Nat) : Bool := decide (g * g * num ≤ T * 16777216 * den) && decide (g * p ≤ pk * 4096)
theorem gainB_mono {a b num den T p pk : Nat} (h : a ≤ b) (hb : gainB b num den T p pk = true) : gainB a num den T p pk = true := by
  simp only [gainB, Bool.and_eq_true, decide_eq_true_eq] at hb ⊢
  exact ⟨Nat.le_trans (Nat.mul_le_mul_right _ (Nat.mul_le_mul h h)) hb.1, Nat.le_trans (Nat.mul_le_mul_right _ h) hb.2⟩
set_option maxRecDepth 100000 in
set_option maxHeartbeats 4000000 in
theorem ld_fits (g num den T p pk gm gt gl gp : Nat) (W : World) (b1 : g ≤ 65536) (b2 : num ≤ 9223372036854775807) (b3 : den ≤ 9223372036854775807) (b4 : T ≤ 4294967296) (b5 : p ≤ 32768) (b6 : pk ≤ 32767)
    (c1 : W.cell? ⟨gm, 0, none⟩ = some (.int .i64 (num : Int))) (c2 : W.cell? ⟨gm, 1, none⟩ = some (.int .i64 (den : Int))) (c3 : W.cell? ⟨gt, 0, none⟩ = some (.int .i64 (T : Int))) (c4 : W.cell? ⟨gl, 0, none⟩ = some (.int .i64 (p : Int))) (c5 : W.cell? ⟨gp, 0, none⟩ = some (.int .i64 (pk : Int))) :
    Calls Try.prog 38 #[.int .i64 (g : Int), .pointer (some ⟨gm, 0, none⟩), .pointer (some ⟨gt, 0, none⟩), .pointer (some ⟨gl, 0, none⟩), .pointer (some ⟨gp, 0, none⟩)] W fun e w' => e = .returned (.bool (gainB g num den T p pk)) ∧ ∃ m, w' = W.drewN m := by
  obtain ⟨G, hG⟩ : ∃ G, G = g * g := ⟨_, rfl⟩
  obtain ⟨TT, hTT⟩ : ∃ TT, TT = T * 16777216 := ⟨_, rfl⟩
  obtain ⟨GP, hGP⟩ : ∃ GP, GP = g * p := ⟨_, rfl⟩
  have hGb : G ≤ 65536 * 65536 := by rw [hG]; exact Nat.mul_le_mul b1 b1
  have hGPb : GP ≤ 65536 * 32768 := by rw [hGP]; exact Nat.mul_le_mul b1 b5
  have s1 := fun w => ld_square (g : Int) (G : Int) w (by rw [← Int.natCast_mul, ← hG]; omega) (by rw [hG, Int.natCast_mul])
  have s2 := fun w => ld_square 4096 16777216 w (by omega) (by omega)
  have s3 := fun w => ld_atMost G num TT den w (by omega) b2 (by omega) b3
  have e1 : (T : Int) * 16777216 = (TT : Int) := by omega
  have e2 : (g : Int) * (p : Int) = (GP : Int) := by rw [hGP, Int.natCast_mul]
  have hf : gainB g num den T p pk = (decide (G * num ≤ TT * den) && decide (GP ≤ pk * 4096)) := by rw [hG, hTT, hGP]; rfl
  rw [hf]
  have hTb : TT ≤ 4294967296 * 16777216 := by omega
  have S1 := Lib.hid s1
  have S2 := Lib.hid s2
  have S3 := Lib.hid s3
  clear s1 s2 s3 hG hTT hGP hf
  cases hb : decide (G * num ≤ TT * den) with
  | false =>
    have S4 : Hid (∀ w, Calls Try.prog 39 #[.int .i64 (G : Int), .int .i64 (num : Int), .int .i64 (TT : Int), .int .i64 (den : Int)] w fun e w' => e = .returned (.bool false) ∧ ∃ m, w' = w.drewN m) := Lib.hid (fun w => by have := S3.out w; rwa [hb] at this)
    clear hb
    go_enter Try.func38, Try.ntmps38
    go_wp2_with fail
    go_quiet (first | (go_at_call 40; first | exact Calls.quiet_of_same (S1.out _) | exact Calls.quiet_of_same (S2.out _)) | (go_at_call 39; exact Calls.quiet_of (S4.out _)))
    go_wp2_with fail
    go_ret
    exact ⟨rfl, _, rfl⟩
  | true =>
    have S4 : Hid (∀ w, Calls Try.prog 39 #[.int .i64 (G : Int), .int .i64 (num : Int), .int .i64 (TT : Int), .int .i64 (den : Int)] w fun e w' => e = .returned (.bool true) ∧ ∃ m, w' = w.drewN m) := Lib.hid (fun w => by have := S3.out w; rwa [hb] at this)
    have hd : decide ((GP : Int) ≤ (pk : Int) * 4096) = decide (GP ≤ pk * 4096) := by rw [Bool.eq_iff_iff, decide_eq_true_eq, decide_eq_true_eq]; omega
    have HD := Lib.hid hd
    clear hb hd
    go_enter Try.func38, Try.ntmps38
    go_wp2_with fail
    go_quiet (first | (go_at_call 40; first | exact Calls.quiet_of_same (S1.out _) | exact Calls.quiet_of_same (S2.out _)) | (go_at_call 39; exact Calls.quiet_of (S4.out _)))
    go_wp2_with fail
    go_ret
    exact ⟨ret_bool (by rw [Bool.true_and, ← HD.out]), _, rfl⟩
end Go.Proofs.Ytcgejbnmbamchaa
