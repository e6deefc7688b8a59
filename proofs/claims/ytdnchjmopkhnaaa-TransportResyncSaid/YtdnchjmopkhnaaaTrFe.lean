/- few: the packets are few and valid. -/
import Derived.Test.YtdnchjmopkhnaaaTrL3
namespace Go.Proofs.Ytdnchjmopkhnaaa
open Go.RowKit
attribute [local go_sem ↓] Go.wp_at_zero Go.wp_at_succ

theorem mem_of_idx {α : Type} {P : α → Prop} {l : List α} {n : Nat} (hl : l.length = n) (h : ∀ j x, j < n → l[j]? = some x → P x) : ∀ x ∈ l, P x := by
  intro x hx
  obtain ⟨j, hj⟩ := List.mem_iff_getElem?.1 hx
  exact h j x (by have := (List.getElem?_eq_some_iff.1 hj).1; omega) hj

set_option maxRecDepth 100000 in
set_option maxHeartbeats 2000000 in
theorem law_few {p q : Nat → Prop} (A : Option Addr) (n c : Nat) (qs : List TA) (w : World) (h : TPks p q w A n qs) :
    Calls Try.prog 22 #[.slice A n c] w fun e w' => ∃ B, e = .returned (.bool B) ∧ (B = true → n ≤ 12 ∧ ∀ x ∈ qs, x.p.ok = true) ∧ Below w.heap.size w w' := by
  by_cases h1 : 12 < n
  · go_enter Try.func22, Try.ntmps22
    go_wp2_with fail
    go_ret
    exact ⟨false, rfl, by simp, Below.refl _ _⟩
  have hn : n ≤ 12 := by omega
  have H := Lib.hid h
  clear h h1
  go_enter Try.func22, Try.ntmps22
  go_wp2_with fail
  go_loopw [3] (fun i wr => ∃ k : Nat, k ≤ n ∧ i = .int .i64 (k : Int) ∧ (∀ j x, j < k → qs[j]? = some x → x.p.ok = true) ∧ Below w.heap.size w wr) (fun i _ => n - (intOf i).toNat)
  case atStart => exact ⟨0, Nat.zero_le _, rfl, fun j x hj => absurd hj (Nat.not_lt_zero _), Below.refl _ _⟩
  case round =>
    obtain ⟨k, hk, rfl, hok, hb⟩ := hrel
    have HOK := Lib.hid hok
    clear hok
    by_cases hlt : k < n
    · obtain ⟨b, off, x, rfl, hbl, hx, hbx, hc0, hc1, hc2, hc3, hc4⟩ := (H.out.ext hb).at_ hlt
      have HX := Lib.hid hx
      have hln := hbx.len
      clear hx hbx
      obtain ⟨⟨pid, cnt, st, clk, pl⟩, A1, n1, c1⟩ := x
      dsimp only at hc0 hc1 hc2 hc3 hc4 hln
      have HLN := Lib.hid hln
      clear hln
      have i0 : (0 : Int) ≤ (k : Int) := by omega
      have i1 : (k : Int) < (n : Int) := by omega
      go_wp2_with fail
      refine (ref_TValid pid cnt st clk A1 n1 c1 _).mono ?_
      rintro e w3 ⟨rfl, hb3⟩
      have B3 := hb.trans (hb3.mono hb.size)
      cases hv : validT pid cnt st clk n1 with
      | false =>
        clear hv
        go_wp2_with fail
        go_ret
        exact ⟨false, rfl, by simp, B3⟩
      | true =>
        have HV := Lib.hid hv
        clear hv
        go_wp2_with fail
        go_roundw
        case rel =>
          refine ⟨k + 1, by omega, by go_num, fun j y hj hy => ?_, B3⟩
          rcases Nat.lt_succ_iff_lt_or_eq.1 hj with h | rfl
          · exact HOK.out j y h hy
          · rw [HX.out] at hy
            injection hy with hy
            subst hy
            show validT pid cnt st clk pl.length = true
            rw [HLN.out]
            exact HV.out
        case measure => (simp [intOf]; try omega)
    · have hkn : k = n := by omega
      subst hkn
      go_wp2_with fail
      go_ret
      exact ⟨true, rfl, fun _ => ⟨hn, mem_of_idx H.out.1 HOK.out⟩, hb⟩
end Go.Proofs.Ytdnchjmopkhnaaa
