/- Pasting a rectangle of a component into another one: plain lists. -/
import Derived.Test.YtaedpadkpclldaaSetM
namespace Go.Proofs.Ytaedpadkpclldaa
open Go.RowKit

theorem cutL_row {l : List Int} {fr st wd ht r : Nat} (hr : r < ht) (hw : 0 < wd) : ((cutL l fr st wd ht).drop (r * wd)).take wd = (List.range wd).map fun j => l.getD (fr + r * st + j) 0 := by
  apply List.ext_getElem?
  intro j
  have hb : (r + 1) * wd ≤ ht * wd := Nat.mul_le_mul_right _ hr
  rw [Nat.add_mul] at hb
  rw [List.getElem?_take, List.getElem?_map]
  by_cases hj : j < wd
  · rw [if_pos hj, List.getElem?_drop, cutL_at (by omega), List.getElem?_range hj]
    show some _ = some _
    rw [cutAt_row hj]
  · rw [if_neg hj, List.getElem?_eq_none (by simp; omega)]
    rfl
theorem cut_row_take {l : List Int} {fr st wd ht r j : Nat} (hr : r < ht) (hj : j < wd) :
    ((cutL l fr st wd ht).drop (r * wd)).take (j + 1) = ((cutL l fr st wd ht).drop (r * wd)).take j ++ [l.getD (fr + r * st + j) 0] := by
  have hb : (r + 1) * wd ≤ ht * wd := Nat.mul_le_mul_right _ hr
  rw [Nat.add_mul] at hb
  rw [List.take_add_one, List.getElem?_drop, cutL_at (by omega), cutAt_row hj]
  rfl
theorem cut_row_len {l : List Int} {fr st wd ht r j : Nat} (hr : r < ht) (hj : j ≤ wd) : (((cutL l fr st wd ht).drop (r * wd)).take j).length = j := by
  have hb : (r + 1) * wd ≤ ht * wd := Nat.mul_le_mul_right _ hr
  rw [Nat.add_mul] at hb
  rw [List.length_take, List.length_drop, cutL_len]
  omega
/-- The list behind r whole rows and j samples of the next one. -/
def pasteJ (m l : List Int) (fr st ffr fst wd ht r j : Nat) : List Int := spl (pasteL m (cutL l ffr fst wd ht) fr st wd r) (fr + r * st) (((cutL l ffr fst wd ht).drop (r * wd)).take j)
theorem pasteJ_zero (m l : List Int) (fr st ffr fst wd ht r : Nat) : pasteJ m l fr st ffr fst wd ht r 0 = pasteL m (cutL l ffr fst wd ht) fr st wd r := by unfold pasteJ; rw [List.take_zero, spl_nil]
theorem pasteJ_row (m l : List Int) (fr st ffr fst wd ht r : Nat) : pasteJ m l fr st ffr fst wd ht r wd = pasteL m (cutL l ffr fst wd ht) fr st wd (r + 1) := rfl
theorem pasteJ_step {m l : List Int} {fr st ffr fst wd ht r j : Nat} (hr : r < ht) (hj : j < wd) (hfit : ∀ i, i < ht → fr + i * st + wd ≤ m.length) :
    pasteJ m l fr st ffr fst wd ht r (j + 1) = (pasteJ m l fr st ffr fst wd ht r j).set (fr + r * st + j) (l.getD (ffr + r * fst + j) 0) := by
  have hlen := pasteL_len (l := cutL l ffr fst wd ht) (wd := wd) r (fun i hi => hfit i (by omega))
  have hf := hfit r hr
  unfold pasteJ
  rw [cut_row_take hr hj, spl_snoc (by rw [cut_row_len hr (by omega), hlen]; omega), cut_row_len hr (by omega)]
theorem pasteJ_len {m l : List Int} {fr st ffr fst wd ht r j : Nat} (hr : r < ht) (hj : j ≤ wd) (hfit : ∀ i, i < ht → fr + i * st + wd ≤ m.length) : (pasteJ m l fr st ffr fst wd ht r j).length = m.length := by
  have hlen := pasteL_len (l := cutL l ffr fst wd ht) (wd := wd) r (fun i hi => hfit i (by omega))
  have hf := hfit r hr
  unfold pasteJ
  rw [spl_len (by rw [cut_row_len hr hj, hlen]; omega), hlen]
/-- A rectangle as wide as the plane is one piece. -/
theorem paste_contig {m S : List Int} {fr wd : Nat} : ∀ ht, S.length = ht * wd → fr + ht * wd ≤ m.length → pasteL m S fr wd wd ht = spl m fr S
  | 0, hS, _ => by
    have : S = [] := List.eq_nil_of_length_eq_zero (by omega)
    subst this
    rw [spl_nil]; rfl
  | ht + 1, hS, hm => by
    rw [Nat.add_mul, Nat.one_mul] at hS hm
    have ih := paste_contig (m := m) (S := S.take (ht * wd)) (fr := fr) (wd := wd) ht (by rw [List.length_take]; omega) (by omega)
    have same : ∀ r, r ≤ ht → pasteL m S fr wd wd r = pasteL m (S.take (ht * wd)) fr wd wd r := by
      intro r hr
      induction r with
      | zero => rfl
      | succ r ihr =>
        have hb : (r + 1) * wd ≤ ht * wd := Nat.mul_le_mul_right _ hr
        rw [Nat.add_mul, Nat.one_mul] at hb
        unfold pasteL
        rw [ihr (by omega)]
        congr 1
        apply List.ext_getElem?
        intro j
        rw [List.getElem?_take, List.getElem?_take, List.getElem?_drop, List.getElem?_drop, List.getElem?_take]
        by_cases hj : j < wd
        · rw [if_pos hj, if_pos hj, if_pos (by omega)]
        · rw [if_neg hj, if_neg hj]
    show spl (pasteL m S fr wd wd ht) (fr + ht * wd) ((S.drop (ht * wd)).take wd) = spl m fr S
    rw [same ht (Nat.le_refl _), ih]
    have l1 : (S.take (ht * wd)).length = ht * wd := by rw [List.length_take]; omega
    have l2 : ((S.drop (ht * wd)).take wd).length = wd := by rw [List.length_take, List.length_drop]; omega
    apply List.ext_getElem?
    intro j
    rw [spl_at (by rw [l2, spl_len (by omega)]; omega), spl_at (by omega), spl_at (by omega), l1, l2]
    by_cases h1 : j < fr
    · rw [if_pos (by omega), if_pos h1, if_pos h1]
    · rw [if_neg h1]
      by_cases h2 : j < fr + ht * wd
      · rw [if_pos h2, if_neg h1, if_pos h2, if_pos (by omega), List.getElem?_take, if_pos (by omega)]
      · rw [if_neg h2]
        by_cases h3 : j < fr + ht * wd + wd
        · rw [if_pos h3, if_neg h1, if_pos (show j < fr + S.length by omega), List.getElem?_take, if_pos (show j - (fr + ht * wd) < wd by omega), List.getElem?_drop]
          congr 1
          omega
        · rw [if_neg h3, if_neg h1, if_neg h2, if_neg (show ¬ j < fr + S.length by omega)]
theorem cut_contig {l : List Int} {fr wd ht : Nat} (hw : 0 < wd) (h : fr + ht * wd ≤ l.length) : cutL l fr wd wd ht = (l.drop fr).take (ht * wd) := by
  apply List.ext_getElem?
  intro k
  by_cases hk : k < ht * wd
  · rw [cutL_at hk, List.getElem?_take, if_pos hk, List.getElem?_drop]
    unfold cutAt
    rw [Nat.add_assoc, show k / wd * wd + k % wd = k by rw [Nat.mul_comm]; exact Nat.div_add_mod k wd, List.getD_eq_getElem?_getD, List.getElem?_eq_getElem (by omega)]
    rfl
  · rw [List.getElem?_eq_none (by rw [cutL_len]; omega), List.getElem?_take, if_neg hk]
theorem cut_whole {l : List Int} {wd ht : Nat} (hw : 0 < wd) (h : l.length = ht * wd) : cutL l 0 wd wd ht = l := by
  rw [cut_contig hw (by omega), List.drop_zero, List.take_of_length_le (by omega)]
theorem paste_whole {m S : List Int} {wd ht : Nat} (hS : S.length = ht * wd) (hm : m.length = ht * wd) : pasteL m S 0 wd wd ht = S := by
  rw [paste_contig ht hS (by omega)]
  unfold spl
  rw [List.take_zero, List.nil_append, Nat.zero_add, List.drop_eq_nil_of_le (by omega), List.append_nil]
end Go.Proofs.Ytaedpadkpclldaa
