/- Replacing a block: plain lists. -/
import Derived.Test.YtaedpadkpclldaaBlkM
import Derived.Test.YtaedpadkpclldaaPaste
namespace Go.Proofs.Ytaedpadkpclldaa
open Go.RowKit

def clipI (x : Int) : Int := min (max x 0) 255
theorem clipI_rng (x : Int) : 0 ≤ clipI x ∧ clipI x ≤ 255 := by unfold clipI; omega
def clipL (l : List Int) : List Int := l.map clipI
theorem clipL_len (l : List Int) : (clipL l).length = l.length := by simp [clipL]
theorem clipL_rng (l : List Int) : ∀ x ∈ clipL l, 0 ≤ x ∧ x ≤ 255 := by
  intro x hx
  obtain ⟨y, _, rfl⟩ := List.mem_map.1 hx
  exact clipI_rng y
/-- The list in which the samples of s have been laid at the places of the block, the first k of them. -/
def setsL (m : List Int) (P : Nat → Nat) (s : List Int) : Nat → List Int
  | 0 => m
  | k + 1 => (setsL m P s k).set (P k) (s.getD k 0)
theorem setsL_len (m : List Int) (P : Nat → Nat) (s : List Int) : ∀ k, (setsL m P s k).length = m.length
  | 0 => rfl
  | k + 1 => by rw [setsL, List.length_set, setsL_len m P s k]
theorem setsL_rng {m : List Int} {P : Nat → Nat} {s : List Int} (hm : ∀ x ∈ m, 0 ≤ x ∧ x ≤ 255) (hs : ∀ x ∈ s, 0 ≤ x ∧ x ≤ 255) : ∀ k, ∀ x ∈ setsL m P s k, 0 ≤ x ∧ x ≤ 255
  | 0 => hm
  | k + 1 => by
    intro x hx
    rcases List.mem_or_eq_of_mem_set hx with h | h
    · exact setsL_rng hm hs k x h
    · rw [h]; exact getD_rng hs k
theorem spl_snoc {l : List Int} {o : Nat} {m : List Int} {x : Int} (h : o + m.length < l.length) : spl l o (m ++ [x]) = (spl l o m).set (o + m.length) x := by
  apply List.ext_getElem?
  intro j
  rw [spl_at (by simp; omega), List.getElem?_set, spl_len (by omega), spl_at (by omega)]
  by_cases h1 : j < o
  · rw [if_pos h1, if_neg (by omega), if_pos h1]
  · rw [if_neg h1]
    by_cases h2 : o + m.length = j
    · rw [if_pos (by simp; omega), if_pos h2, if_pos (by omega)]
      rw [List.getElem?_append_right (by omega), show j - o - m.length = 0 by omega]
      rfl
    · rw [if_neg h2, if_neg h1]
      by_cases h3 : j < o + m.length
      · rw [if_pos (by simp; omega), if_pos h3, List.getElem?_append_left (by omega)]
      · rw [if_neg (by simp; omega), if_neg h3]
theorem sets_row {m s : List Int} {P : Nat → Nat} {fr st r : Nat} (hP : ∀ j, j < 8 → P (8 * r + j) = fr + r * st + j) (hs : 8 * r + 8 ≤ s.length) (hm : fr + r * st + 8 ≤ m.length) :
    ∀ j, j ≤ 8 → setsL m P s (8 * r + j) = spl (setsL m P s (8 * r)) (fr + r * st) ((s.drop (r * 8)).take j)
  | 0, _ => by rw [List.take_zero, spl_nil]; rfl
  | j + 1, hj => by
    have hr : r * 8 = 8 * r := Nat.mul_comm _ _
    have ht : (s.drop (r * 8)).take (j + 1) = (s.drop (r * 8)).take j ++ [s.getD (8 * r + j) 0] := by
      rw [List.take_add_one, List.getElem?_drop, hr, List.getD_eq_getElem?_getD, List.getElem?_eq_getElem (by omega)]
      rfl
    have hl : ((s.drop (r * 8)).take j).length = j := by rw [List.length_take, List.length_drop]; omega
    rw [ht, spl_snoc (by rw [hl, setsL_len]; omega), hl, ← sets_row hP hs hm j (by omega), show 8 * r + (j + 1) = (8 * r + j) + 1 by omega, setsL, hP j (by omega)]
theorem sets_paste {m s : List Int} {P : Nat → Nat} {fr st : Nat} (hP : ∀ k, k < 64 → P k = fr + k / 8 * st + k % 8) (hs : s.length = 64) (hm : ∀ r, r < 8 → fr + r * st + 8 ≤ m.length) :
    ∀ r, r ≤ 8 → setsL m P s (8 * r) = pasteL m s fr st 8 r
  | 0, _ => rfl
  | r + 1, hr => by
    have := sets_row (m := m) (s := s) (P := P) (fr := fr) (st := st) (r := r) (fun j hj => by rw [hP _ (by omega), show (8 * r + j) / 8 = r by omega, show (8 * r + j) % 8 = j by omega]) (by omega) (hm r (by omega)) 8 (Nat.le_refl _)
    rw [show 8 * (r + 1) = 8 * r + 8 by omega, this, sets_paste hP hs hm r (by omega)]
    rfl
def setComp (f : Fr) (n : Nat) (l : List Int) : Fr := if n = 4 then { f with U := l } else if n = 5 then { f with V := l } else { f with Y := l }
/-- The frame with another block. -/
def setBlkF (f : Fr) (mx my n : Nat) (fd : Bool) (x : List Int) : Fr := setComp f n (setsL (compL f n) (placeN f.W.toNat mx my n fd) (clipL x) 64)
theorem setBlk_paste {f : Fr} {mx my n a b : Nat} {fd : Bool} {x : List Int} (hx : x.length = 64) (hW : f.W = ((16 * a : Nat) : Int)) (hmx : mx < a) (hmy : my < b) (hn : n ≤ 5)
    (lY : f.Y.length = (16 * b) * (16 * a)) (lU : f.U.length = (8 * b) * (8 * a)) (lV : f.V.length = (8 * b) * (8 * a)) :
    setsL (compL f n) (placeN f.W.toNat mx my n fd) (clipL x) 64 = pasteL (compL f n) (clipL x) (fromN f.W.toNat mx my n fd) (stepN f.W.toNat n fd) 8 8 :=
  sets_paste (fun k _ => (place_eq f.W.toNat mx my n fd k).symm) (by rw [clipL_len, hx]) (block_fit hW hmx hmy hn lY lU lV) 8 (Nat.le_refl _)
end Go.Proofs.Ytaedpadkpclldaa
