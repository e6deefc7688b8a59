/- The contract of lines of the reference: every second row of a component. -/
import Derived.Test.YtaedpadkpclldaaCut
import Derived.Deep.DeepMust
namespace Go.Proofs.Ytaedpadkpclldaa
open Go.RowKit

theorem cut_take_row {l : List Int} {fr st wd ht r : Nat} (hr : r < ht) (hfit : fr + r * st + wd ≤ l.length) :
    (cutL l fr st wd ht).take ((r + 1) * wd) = (cutL l fr st wd ht).take (r * wd) ++ (l.drop (fr + r * st)).take wd := by
  have e1 : (r + 1) * wd = r * wd + wd := by rw [Nat.succ_mul]
  have e2 : (r + 1) * wd ≤ ht * wd := Nat.mul_le_mul_right _ (by omega)
  have hlen : ((cutL l fr st wd ht).take (r * wd)).length = r * wd := by rw [List.length_take, cutL_len]; omega
  apply List.ext_getElem?
  intro k
  by_cases h1 : k < r * wd
  · rw [List.getElem?_append_left (by rw [hlen]; exact h1), List.getElem?_take, List.getElem?_take, if_pos (by omega), if_pos h1]
  · rw [List.getElem?_append_right (by omega), hlen]
    by_cases h2 : k < (r + 1) * wd
    · rw [List.getElem?_take, if_pos h2, cutL_at (by omega), List.getElem?_take, if_pos (by omega), List.getElem?_drop]
      have e3 : k = r * wd + (k - r * wd) := by omega
      conv => lhs; rw [e3, cutAt_row (by omega)]
      rw [List.getD_eq_getElem?_getD, List.getElem?_eq_getElem (by omega)]
      rfl
    · rw [List.getElem?_eq_none (by rw [List.length_take, cutL_len]; omega), List.getElem?_eq_none (by rw [List.length_take, List.length_drop]; omega)]

theorem OwB.retC {w : World} {base : Nat} {e : TypeId} {v : Value} {l : List Int} {p : Nat → Prop} (h : OwB w base e v l) (hp : ∀ b, base ≤ b → p b) (hr : ∀ x ∈ l, 0 ≤ x ∧ x ≤ 255) : ∃ A c, v = .slice A l.length c ∧ l.length ≤ c ∧ Byt p w A l.length l := by
  obtain ⟨A, c, rfl, hB⟩ := h.ret hp hr
  refine ⟨A, c, rfl, ?_, hB⟩
  rcases h.2 with ⟨hv, hn⟩ | ⟨g, cap, cur, hv, _, _, hnc, _⟩
  · rw [hn]; exact Nat.zero_le _
  · injection hv with h1 h2 h3
    omega

set_option maxHeartbeats 2000000 in
theorem ref_lines {p : Nat → Prop} (A : Option Addr) (n c cols fm h : Nat) (l : List Int) (w : World) (hl : Byt p w A n l) (hnc : n ≤ c) (hw : 0 < cols) (hwd : cols ≤ 64) (hfm : fm ≤ 1) (hh : h ≤ 64) (hn : n = h * (2 * cols)) :
    Calls Try.prog 49 #[.slice A n c, .int .i64 cols, .int .i64 fm] w (RetC w (cutL l (fm * cols) (2 * cols) cols h)) := by
  have HN := Lib.hid hn
  clear hn
  obtain ⟨s0, hs0⟩ : ∃ s, s = fm * cols := ⟨_, rfl⟩
  have hs1 : s0 ≤ cols := by rw [hs0]; exact Nat.le_trans (Nat.mul_le_mul_right _ hfm) (by omega)
  have e0 : (fm : Int) * (cols : Int) = (s0 : Int) := by rw [hs0, Int.natCast_mul]
  have HS0 := Lib.hid hs0
  have hn4 : n ≤ 8192 := by have := HN.out; rw [this]; exact Nat.le_trans (Nat.mul_le_mul hh (Nat.mul_le_mul_left 2 hwd)) (by omega)
  clear hs0
  go_enter Try.func49, Try.ntmps49
  go_wp2
  clear e0
  go_loopw [7, 8] (fun v i wr => ∃ r s : Nat, r ≤ h ∧ Hid (s = s0 + r * (2 * cols)) ∧ i = .int .i64 s ∧ Below w.heap.size w wr ∧ OwB wr w.heap.size 5 v ((cutL l s0 (2 * cols) cols h).take (r * cols))) (fun _ i _ => n + 200 - (intOf i).toNat)
  case atStart => exact ⟨0, s0, Nat.zero_le _, by show s0 = _; omega, rfl, Below.refl _ _, by simpa using OwB.nil⟩
  case round =>
    obtain ⟨r, s, hr, HS, rfl, hbel, hown⟩ := hrel
    have hs := HS.out
    by_cases hlt : r < h
    · have hrl : (r + 1) * (2 * cols) ≤ h * (2 * cols) := Nat.mul_le_mul_right _ (by omega)
      have hfit : s + cols ≤ n := by rw [Nat.succ_mul] at hrl; have := HN.out; omega
      have hsn : s < n := by omega
      clear hs
      obtain ⟨bb, oo, rfl, _, hbb, _⟩ := hl.addr (by omega)
      have hz := hbel.size
      have hsrc := (hl.ext hbel).sub (k := s) (m := cols) hfit
      have hlenr : ((cutL l s0 (2 * cols) cols h).take (r * cols)).length ≤ 4096 := by
        rw [List.length_take, cutL_len]
        have : h * cols ≤ 64 * 64 := Nat.mul_le_mul hh hwd
        omega
      go_wp2_with (at_builtin; go_must (refine wpList_appB (p := p) _ rfl _ _ _ rfl _ Try.underlying22 Try.infoB w.heap.size _ _ rfl hown _ _ _ _ rfl (Byt.cast hsrc (by first | rfl | (simp; done) | (simp; omega)) (by first | rfl | (simp; done) | (simp; omega))) (by omega) (by omega) ?_); intro v' w1 hown' hg hat)
      go_roundw
      case rel =>
        refine ⟨r + 1, s + 2 * cols, by omega, ?_, by go_num, hbel.grown hg hz (fun b hb => (hown.lt b hb).1), ?_⟩
        · show s + 2 * cols = _
          have h1 := HS.out
          have h2 : (r + 1) * (2 * cols) = r * (2 * cols) + 2 * cols := Nat.succ_mul _ _
          omega
        · rw [cut_take_row hlt (by rw [hl.len, ← HS.out]; exact hfit), ← HS.out]; exact hown'
      case measure => simp [intOf]; omega
    · obtain rfl : r = h := by omega
      have hge : n ≤ s := by have := HN.out; omega
      clear hs
      go_wp2
      go_ret
      rw [List.take_of_length_le (by rw [cutL_len]; exact Nat.le_refl _)] at hown
      obtain ⟨A1, c1, rfl, hcap, hB⟩ := hown.retC (p := (w.heap.size ≤ ·)) (fun _ h => h) (cutL_rng hl.rng s0 (2 * cols) cols r)
      rw [← HS0.out]
      exact ⟨_, _, _, rfl, hcap, hB, hbel⟩
end Go.Proofs.Ytaedpadkpclldaa
