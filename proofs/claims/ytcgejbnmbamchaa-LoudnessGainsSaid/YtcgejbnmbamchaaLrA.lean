/- Proper of the reference. -/
import Derived.Test.YtcgejbnmbamchaaLdA
import Derived.Deep.DrawnRows
namespace Go.Proofs.Ytcgejbnmbamchaa
open Go.RowKit
attribute [local go_sem ↓] Go.wp_at_zero Go.wp_at_succ

set_option maxRecDepth 100000 in
set_option maxHeartbeats 4000000 in
theorem lr_Proper {p : Nat → Prop} (A : Option Addr) (n c : Nat) (xs : List Ch) (w : World) (h : Pcm p w A n xs) (hn : n ≤ maxLen) :
    Calls Try.prog 35 #[.slice A n c] w fun e w' => e = .returned (.bool (properB (sndOf xs))) ∧ ∃ m, w' = w.drewN m := by
  have H := Lib.hid h
  have hn2 : n ≤ 9223372036854775807 := hn
  clear h hn
  go_enter Try.func35, Try.ntmps35
  go_wp2_with fail
  go_loopw [3] (fun v wr => ∃ k m : Nat, v = .int .i64 (k : Int) ∧ k ≤ n ∧ (∀ j x x0, j < k → xs[j]? = some x → xs[0]? = some x0 → x.n = x0.n ∧ x.n ≤ 1048576) ∧ wr = w.drewN m) (fun v _ => n - (intOf v).toNat)
  case atStart => exact ⟨0, 0, rfl, Nat.zero_le _, fun j x x0 hj => absurd hj (by omega), rfl⟩
  case round =>
    obtain ⟨k, m, rfl, hk, hall, rfl⟩ := hrel
    have HA := Lib.hid hall
    clear hall
    by_cases hlt : k < n
    · obtain ⟨b, off, x0, hA, _, hb, hx0, hc0, _, _, _, _⟩ := H.out.at_ (i := 0) (by omega)
      obtain ⟨b', off', x, hA', _, _, hx, hc, _, _, _, _⟩ := H.out.at_ hlt
      rw [hA] at hA'
      injection hA' with hA'
      injection hA' with e1 e2
      subst e1 e2
      subst hA
      rw [Nat.add_zero] at hc0
      have hkz : (k : Int) < (n : Int) := by omega
      have h0z : (0 : Int) < (n : Int) := by omega
      have HXX := Lib.hid (And.intro hx0 hx)
      clear hx0 hx
      by_cases e1 : x.n = x0.n
      · have e1' : ((x.n : Int) == (x0.n : Int)) = true := by simp; omega
        have e1b : decide ((x.n : Int) = (x0.n : Int)) = true := decide_eq_true (by omega)
        by_cases e2 : 1048576 < x.n
        · have HR := Lib.hid (proper_not H.out x0 x k HXX.out.1 HXX.out.2 (.inr e2))
          have e2' : decide (1048576 < (x.n : Int)) = true := decide_eq_true (by omega)
          go_wp2_with fail
          go_quiet (fail)
          go_wp2_with fail
          all_goals
            go_ret
            exact ⟨ret_bool HR.out.symm, _, World.drewN_drewN _ _ _⟩
        · have e2' : decide (1048576 < (x.n : Int)) = false := decide_eq_false (by omega)
          go_wp2_with fail
          go_quiet (fail)
          go_wp2_with fail
          all_goals go_roundw
          case rel =>
            refine ⟨k + 1, _, by go_num, by omega, fun j y y0 hj hy hy0 => ?_, rfl⟩
            rcases Nat.lt_or_ge j k with hjk | hjk
            · exact HA.out j y y0 hjk hy hy0
            · obtain rfl : j = k := by omega
              rw [HXX.out.2] at hy
              rw [HXX.out.1] at hy0
              injection hy with hy
              injection hy0 with hy0
              subst hy hy0
              exact ⟨e1, by omega⟩
          case measure => simp [intOf]; omega
      · have HR := Lib.hid (proper_not H.out x0 x k HXX.out.1 HXX.out.2 (.inl e1))
        have e1' : ((x.n : Int) == (x0.n : Int)) = false := by simp; omega
        have e1b : ¬ (x.n : Int) = (x0.n : Int) := by omega
        have hkk : 0 < k := by
          rcases Nat.eq_zero_or_pos k with h0 | h0
          · subst h0
            have := HXX.out.1.symm.trans HXX.out.2
            injection this with this
            subst this
            exact absurd rfl e1
          · exact h0
        clear e1 hkk
        have h0n : 0 < n := by omega
        have h0d : decide ((0 : Int) < (n : Int)) = true := decide_eq_true h0z
        go_wp2_with fail
        go_quiet (fail)
        go_wp2_with fail
        all_goals
          go_ret
          exact ⟨ret_bool HR.out.symm, _, World.drewN_drewN _ _ _⟩
    · obtain rfl : k = n := by omega
      by_cases h1 : k < 1
      · have HR := Lib.hid (proper_len H.out (.inl h1))
        have d1 : decide (1 ≤ (k : Int)) = false := decide_eq_false (by omega)
        go_wp2_with fail
        all_goals
          go_ret
          exact ⟨ret_bool HR.out.symm, m, rfl⟩
      · have d1 : decide (1 ≤ (k : Int)) = true := decide_eq_true (by omega)
        by_cases h4 : 4 < k
        · have HR := Lib.hid (proper_len H.out (.inr h4))
          have d2 : decide ((k : Int) ≤ 4) = false := decide_eq_false (by omega)
          go_wp2_with fail
          all_goals
            go_ret
            exact ⟨ret_bool HR.out.symm, m, rfl⟩
        · obtain ⟨b, off, x0, hA, _, hb, hx0, _, _, _, _, _⟩ := H.out.at_ (i := 0) (by omega)
          have HR := Lib.hid (proper_of H.out x0 hx0 (by omega) (by omega) (fun j x hj hx => HA.out j x x0 hj hx hx0))
          have d2 : decide ((k : Int) ≤ 4) = true := decide_eq_true (by omega)
          clear hx0
          go_wp2_with fail
          all_goals
            go_ret
            exact ⟨ret_bool HR.out.symm, m, rfl⟩
end Go.Proofs.Ytcgejbnmbamchaa
