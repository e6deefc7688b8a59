/- The contracts of Usable, Sample, Owner: the program's and the reference's. -/
import Derived.Test.YtepadbeijjefiaaPos
import Derived.Test.YtepadbeijjefiaaSplit
import Derived.Test.YtepadbeijjefiaaCadU
import Derived.Test.YtepadbeijjefiaaMulDiv
namespace Go.Proofs.Ytepadbeijjefiaa
open Go.RowKit

structure I64 (x : Int) : Prop where
  lo : -9223372036854775808 ≤ x
  hi : x ≤ 9223372036854775807

def UsbRel (n d : Int) (w : World) (a b : Value) (wr : World) : Prop :=
  ∃ (i j m : Nat), i < 9223372036854775808 ∧ j < 9223372036854775808 ∧ Nat.gcd i j = Nat.gcd n.natAbs d.natAbs ∧ a = .int .i64 i ∧ b = .int .i64 j ∧ Below w.heap.size w wr ∧ wr = wr

set_option maxHeartbeats 1000000 in
theorem ref_Usable (n d : Int) (w : World) :
    Calls Try.prog 15 #[.agg #[.int .i64 n, .int .i64 d]] w fun e w' => e = .returned (.bool (usableR n d)) ∧ Below w.heap.size w w' := by
  by_cases hb : 1 ≤ n ∧ n ≤ 1048576 ∧ 1 ≤ d ∧ d ≤ 65536
  · obtain ⟨h1, h2, h3, h4⟩ := hb
    have g1 : decide (n < 1) = false := by simp; omega
    have g2 : decide (1048576 < n) = false := by simp; omega
    have g3 : decide (d < 1) = false := by simp; omega
    have g4 : decide (65536 < d) = false := by simp; omega
    go_enter Try.func15, Try.ntmps15
    go_wp2_with fail
    go_quiet (fail)
    go_wp2_with fail
    go_loopw [3, 4] (fun a b wr => UsbRel n d w a b wr) (fun _ b _ => (intOf b).toNat)
    case atStart => exact ⟨n.toNat, d.toNat, 0, by omega, by omega, by rw [show n.toNat = n.natAbs by omega, show d.toNat = d.natAbs by omega], by rw [Int.toNat_of_nonneg (by omega)], by rw [Int.toNat_of_nonneg (by omega)], below_drewN ((Below.refl _ _).alloc (Nat.le_refl _) _) _, rfl⟩
    case round =>
      obtain ⟨i, j, m, hi, hj, hg, rfl, rfl, hbel, -⟩ := hrel
      have HG := Lib.hid hg
      clear hg
      by_cases hz : j = 0
      · subst hz
        go_wp2_with fail
        go_ret
        refine ⟨ret_bool ?_, hbel⟩
        have e := HG.out
        rw [Nat.gcd_zero_right] at e
        rw [Bool.eq_iff_iff]
        simp only [usableR, decide_eq_true_eq, beq_iff_eq, ← e]
        omega
      · have hz1 : ((j : Int) != 0) = true := by simp; exact hz
        have hz2 : ((j : Int) == 0) = false := by simp; exact hz
        have hm : (i : Int).tmod (j : Int) = ((i % j : Nat) : Int) := by rw [Int.tmod_eq_emod_of_nonneg (by omega), Int.natCast_emod]
        have hlt := Nat.mod_lt i (by omega : j > 0)
        go_wp2_with fail
        go_quiet (fail)
        go_wp2_with fail
        go_roundw
        case rel => exact ⟨j, i % j, 0, by omega, by omega, by rw [← HG.out, Nat.gcd_comm i j, Nat.gcd_rec j i, Nat.gcd_comm], rfl, by simp, below_drewN hbel _, rfl⟩
        case measure => simp [intOf] <;> omega
  · go_enter Try.func15, Try.ntmps15
    go_wp2_with fail
    all_goals first
      | (go_ret
         exact ⟨ret_bool (by simp only [usableR]; simp; omega), (Below.refl _ _).alloc (Nat.le_refl _) _⟩)
      | (exfalso; omega)

def rangeB (n : Int) : Bool := decide (-2147483647 ≤ n ∧ n ≤ 2147483647)
theorem cad_inRange (n : Int) (w : World) :
    Calls Try.prog 33 #[.int .i64 n] w fun e w' => e = .returned (.bool (rangeB n)) ∧ w = w' := by
  go_enter Try.func33, Try.ntmps33
  go_wp2
  all_goals
    go_ret
    exact ⟨ret_bool (by unfold rangeB; first | (simp; omega) | (rw [Bool.eq_iff_iff]; simp; omega)), rfl⟩
theorem ref_InRange (n : Int) (w : World) :
    Calls Try.prog 35 #[.int .i64 n] w fun e w' => e = .returned (.bool (rangeB n)) ∧ w = w' := by
  go_enter Try.func35, Try.ntmps35
  go_wp2
  all_goals
    go_ret
    exact ⟨ret_bool (by unfold rangeB; first | (simp; omega) | (rw [Bool.eq_iff_iff]; simp; omega)), rfl⟩
end Go.Proofs.Ytepadbeijjefiaa
