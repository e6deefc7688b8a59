/- sort.Search with a function that only reads. -/
import Derived.Test.YtcgejbnmbamchaaLdF
namespace Go.Proofs.Ytcgejbnmbamchaa
open Go.RowKit

def SeRel (w : World) (n : Nat) (q : Nat → Bool) (i j : Value) (wr : World) : Prop :=
  ∃ (a b m : Nat), i = .int .i64 (a : Int) ∧ j = .int .i64 (b : Int) ∧ a ≤ b ∧ b ≤ n ∧ (∀ t, t < a → q t = false) ∧ (∀ t, b ≤ t → t < n → q t = true) ∧ wr = w.drewN m
set_option maxRecDepth 100000 in
set_option maxHeartbeats 2000000 in
/-- q is false, and from some place on true; Search returns that place. -/
theorem sort_Search (n : Nat) (hn : n ≤ 1000000) (ptr : Addr) (q : Nat → Bool) (w : World) (hq : ∀ s t, s ≤ t → t < n → q s = true → q t = true)
    (hc : ∀ (t m : Nat), t < n → Calls Try.prog 42 #[.int .i64 (t : Int), .pointer (some ptr)] (w.drewN m) fun e w' => e = .returned (.bool (q t)) ∧ ∃ k, w' = w.drewN k) :
    Calls Try.prog 41 #[.int .i64 (n : Int), .func (Fn.func 42) #[] #[.pointer (some ptr)]] w fun e w' => ∃ r : Nat, e = .returned (.int .i64 (r : Int)) ∧ r ≤ n ∧ (∀ t, t < r → q t = false) ∧ (∀ t, r ≤ t → t < n → q t = true) ∧ ∃ m, w' = w.drewN m := by
  have HQ := Lib.hid hq
  have HC := Lib.hid hc
  clear hq hc
  go_enter Try.func41, Try.ntmps41
  go_wp2_with fail
  go_loopw [5, 6] (fun i j wr => SeRel w n q i j wr) (fun i j _ => (intOf j).toNat - (intOf i).toNat)
  case atStart => exact ⟨0, n, 0, rfl, rfl, Nat.zero_le _, Nat.le_refl _, fun t h => absurd h (by omega), fun t h h' => absurd h' (by omega), rfl⟩
  case round =>
    obtain ⟨a, b, m, rfl, rfl, hab, hbn, hlo, hhi, rfl⟩ := hrel
    have HL := Lib.hid hlo
    have HH := Lib.hid hhi
    clear hlo hhi
    by_cases hlt : a < b
    · obtain ⟨h, hh⟩ : ∃ h, h = (a + b) / 2 := ⟨_, rfl⟩
      have hab2 : a ≤ h ∧ h < b := by omega
      have eh : ((a : Int) + (b : Int)) / 2 = (h : Int) := by omega
      have HE := Lib.hid hh
      clear hh
      go_wp2_with fail
      refine (HC.out h m (by omega)).mono ?_
      rintro e w2 ⟨rfl, m2, rfl⟩
      cases hqh : q h with
      | false =>
        have HQH := Lib.hid hqh
        clear hqh
        go_wp2_with fail
        go_roundw
        case rel =>
          refine ⟨h + 1, b, m2, by go_num, rfl, by omega, hbn, fun t ht => ?_, HH.out, rfl⟩
          cases ht2 : q t with
          | false => rfl
          | true => exact absurd (HQ.out t h (by omega) (by omega) ht2) (by rw [HQH.out]; simp)
        case measure => simp [intOf]; omega
      | true =>
        have HQH := Lib.hid hqh
        clear hqh
        go_wp2_with fail
        go_roundw
        case rel => exact ⟨a, h, m2, rfl, rfl, hab2.1, by omega, HL.out, fun t ht htn => HQ.out h t ht htn HQH.out, rfl⟩
        case measure => simp [intOf]; omega
    · obtain rfl : a = b := by omega
      go_wp2_with fail
      go_ret
      exact ⟨a, rfl, hbn, HL.out, HH.out, m, rfl⟩
end Go.Proofs.Ytcgejbnmbamchaa
