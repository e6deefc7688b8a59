/- cutroomlaw28.ints. -/
import Derived.Test.YtcgejbnmbamchaaLdG
namespace Go.Proofs.Ytcgejbnmbamchaa
open Go.RowKit
attribute [local go_sem ↓] Go.wp_at_zero Go.wp_at_succ

theorem ne_of_at {l m : List Int} {k : Nat} {x y : Int} (h1 : l[k]? = some x) (h2 : m[k]? = some y) (h : x ≠ y) : decide (l = m) = false := by
  apply decide_eq_false
  intro e
  rw [e, h2] at h1
  injection h1 with h1
  exact h h1.symm
theorem eq_of_all {l m : List Int} (hl : l.length = m.length) (h : ∀ j, j < l.length → l[j]? = m[j]?) : decide (l = m) = true := by
  apply decide_eq_true
  apply List.ext_getElem?
  intro j
  by_cases hj : j < l.length
  · exact h j hj
  · rw [List.getElem?_eq_none (by omega), List.getElem?_eq_none (by omega)]
set_option maxRecDepth 100000 in
set_option maxHeartbeats 2000000 in
theorem law_ints {p q : Nat → Prop} (A B : Option Addr) (n c m d : Nat) (l r : List Int) (w : World) (hl : Its .i64 p w A n l) (hr : Its .i64 q w B m r) (hn : n ≤ 100000000) :
    Calls Try.prog 16 #[.slice A n c, .slice B m d] w fun e w' => e = .returned (.bool (decide (l = r))) ∧ ∃ k, w' = w.drewN k := by
  have HL := Lib.hid hl
  have HR := Lib.hid hr
  by_cases hnm : n = m
  · subst hnm
    clear hl hr
    go_enter Try.func16, Try.ntmps16
    go_wp2_with fail
    go_loopw [13] (fun v wr => ∃ i k : Nat, v = .int .i64 (i : Int) ∧ i ≤ n ∧ (∀ j, j < i → l[j]? = r[j]?) ∧ wr = w.drewN k) (fun v _ => n - (intOf v).toNat)
    case atStart => exact ⟨0, 0, rfl, Nat.zero_le _, fun j h => absurd h (by omega), rfl⟩
    case round =>
      obtain ⟨i, k, rfl, hi, hall, rfl⟩ := hrel
      have HA := Lib.hid hall
      clear hall
      by_cases hlt : i < n
      · obtain ⟨b1, o1, x, rfl, _, hb1, hx, hc1⟩ := HL.out.at_ hlt
        obtain ⟨b2, o2, y, rfl, _, hb2, hy, hc2⟩ := HR.out.at_ hlt
        have HXY := Lib.hid (And.intro hx hy)
        have hc1' : (w.drewN k).cell? ⟨b1, o1 + i, none⟩ = some (.int .i64 x) := hc1
        have hc2' : (w.drewN k).cell? ⟨b2, o2 + i, none⟩ = some (.int .i64 y) := hc2
        have hiz : (i : Int) < (n : Int) := by omega
        have hdl : decide ((i : Int) < (n : Int)) = true := decide_eq_true hiz
        clear hx hy
        by_cases hxy : x = y
        · subst hxy
          go_wp2_with fail
          go_quiet (fail)
          go_wp2_with fail
          go_roundw
          case rel =>
            refine ⟨i + 1, _, by go_num, by omega, fun j hj => ?_, rfl⟩
            rcases Nat.lt_or_ge j i with h | h
            · exact HA.out j h
            · obtain rfl : j = i := by omega
              rw [HXY.out.1, HXY.out.2]
          case measure => simp [intOf]; omega
        · have hne : (x == y) = false := by simpa using hxy
          have HN := Lib.hid (ne_of_at HXY.out.1 HXY.out.2 hxy)
          go_wp2_with fail
          go_quiet (fail)
          go_wp2_with fail
          go_ret
          exact ⟨ret_bool HN.out.symm, _, World.drewN_drewN _ _ _⟩
      · obtain rfl : i = n := by omega
        have HE := Lib.hid (eq_of_all (HL.out.len.trans HR.out.len.symm) (fun j hj => HA.out j (by rw [← HL.out.len]; exact hj)))
        go_wp2_with fail
        go_ret
        exact ⟨ret_bool HE.out.symm, k, rfl⟩
  · have hz : ¬ (n : Int) = (m : Int) := by omega
    have HN : Hid (decide (l = r) = false) := Lib.hid (decide_eq_false (fun e => hnm (by rw [← hl.len, ← hr.len, e])))
    clear hl hr
    go_enter Try.func16, Try.ntmps16
    go_wp2_with fail
    go_ret
    exact ⟨ret_bool HN.out.symm, 0, rfl⟩
end Go.Proofs.Ytcgejbnmbamchaa
