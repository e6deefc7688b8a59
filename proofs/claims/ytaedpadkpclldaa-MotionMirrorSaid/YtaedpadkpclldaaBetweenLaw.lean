/- Plain laws: no predicted sample lies outside the range of the samples. -/
import Derived.Test.YtaedpadkpclldaaCloseLaw
namespace Go.Proofs.Ytaedpadkpclldaa
open Go.RowKit

theorem foldl_min_le {l : List Int} {s x : Int} (h : x ∈ l ∨ s ≤ x) : l.foldl min s ≤ x := by
  induction l generalizing s with
  | nil => rcases h with h | h
           · cases h
           · exact h
  | cons y l ih =>
    rw [List.foldl_cons]
    apply ih
    rcases h with h | h
    · rcases List.mem_cons.1 h with rfl | h
      · right; omega
      · left; exact h
    · right; omega
theorem le_foldl_max {l : List Int} {s x : Int} (h : x ∈ l ∨ x ≤ s) : x ≤ l.foldl max s := by
  induction l generalizing s with
  | nil => rcases h with h | h
           · cases h
           · exact h
  | cons y l ih =>
    rw [List.foldl_cons]
    apply ih
    rcases h with h | h
    · rcases List.mem_cons.1 h with rfl | h
      · right; omega
      · left; exact h
    · right; omega
def lowL (l : List Int) : Int := l.foldl min 255
def highL (l : List Int) : Int := l.foldl max 0
theorem low_bd {l : List Int} (h : ∀ x ∈ l, 0 ≤ x ∧ x ≤ 255) : 0 ≤ lowL l ∧ lowL l ≤ 255 := by
  unfold lowL
  suffices H : ∀ (l : List Int) (s : Int), (∀ x ∈ l, 0 ≤ x ∧ x ≤ 255) → 0 ≤ s ∧ s ≤ 255 → 0 ≤ l.foldl min s ∧ l.foldl min s ≤ 255 from H l 255 h (by omega)
  intro l
  induction l with
  | nil => intro s _ hs; exact hs
  | cons x l ih =>
    intro s hl hs
    have := hl x (by simp)
    exact ih _ (fun y hy => hl y (by simp [hy])) (by omega)
theorem high_bd {l : List Int} (h : ∀ x ∈ l, 0 ≤ x ∧ x ≤ 255) : 0 ≤ highL l ∧ highL l ≤ 255 :=
  foldl_max_bd (by omega) (fun x hx => (h x hx).2)
theorem low_snoc {l : List Int} {k : Nat} {x : Int} (h : l[k]? = some x) : lowL (l.take (k + 1)) = min (lowL (l.take k)) x := by
  unfold lowL; rw [take_snoc_at h, List.foldl_append]; rfl
theorem high_snoc {l : List Int} {k : Nat} {x : Int} (h : l[k]? = some x) : highL (l.take (k + 1)) = max (highL (l.take k)) x := by
  unfold highL; rw [take_snoc_at h, List.foldl_append]; rfl
theorem pix_between {l : List Int} {cols rows : Int} (hc : 1 ≤ cols) (hr : 1 ≤ rows) (hn : (l.length : Int) = cols * rows) (x y : Int) : lowL l ≤ pix l cols rows x y ∧ pix l cols rows x y ≤ highL l := by
  have h := place_bd (x := x) (y := y) hc hr
  have hk : (clampI y rows * cols + clampI x cols).toNat < l.length := by omega
  have hv := List.getElem?_eq_getElem hk
  rw [pix_at hv]
  have hm := List.getElem_mem hk
  exact ⟨foldl_min_le (Or.inl hm), le_foldl_max (Or.inl hm)⟩
theorem halfS_between {l : List Int} {cols rows : Int} (hc : 1 ≤ cols) (hr : 1 ≤ rows) (hn : (l.length : Int) = cols * rows) (a b : Int) : lowL l ≤ halfS l cols rows a b ∧ halfS l cols rows a b ≤ highL l := by
  unfold halfS
  have h1 := pix_between hc hr hn (a / 2) (b / 2)
  have h2 := pix_between hc hr hn (a / 2 + a % 2) (b / 2)
  have h3 := pix_between hc hr hn (a / 2) (b / 2 + b % 2)
  have h4 := pix_between hc hr hn (a / 2 + a % 2) (b / 2 + b % 2)
  omega
/-- What MotionBetween says. -/
theorem pred_between {f : Fr} {x y pw ph vx vy : Int} (he : (predF f x y pw ph vx vy).2 = 0) :
    ((predF f x y pw ph vx vy).1.Y.length : Int) = pw * ph ∧ pw = 16 ∧ (ph = 8 ∨ ph = 16) ∧ ∀ z ∈ (predF f x y pw ph vx vy).1.Y, lowL f.Y ≤ z ∧ z ≤ highL f.Y := by
  obtain ⟨h1, h2, h3⟩ := predF_cases f x y pw ph vx vy he
  rw [h3]
  obtain ⟨q1, q2, q3, q4, q5, q6, q7, q8, q9⟩ := h1
  have hf := q1
  simp only [formedB, Bool.and_eq_true, decide_eq_true_eq] at hf
  obtain ⟨⟨⟨hs, a1⟩, _⟩, _⟩ := hf
  obtain ⟨g1, g2, g3, g4, g5, g6⟩ := sizeB_true hs
  refine ⟨?_, q2, q3, fun z hz => ?_⟩
  · simp only [predFr, predL_len]
    rcases q3 with rfl | rfl <;> subst q2 <;> rfl
  · obtain ⟨k, _, rfl⟩ := List.mem_map.1 hz
    exact halfS_between (by omega) (by omega) a1 _ _
theorem predF_zero {f : Fr} {x y pw ph vx vy : Int} (he : (predF f x y pw ph vx vy).2 ≠ 0) : (predF f x y pw ph vx vy).1 = zeroFr := by
  unfold predF at he ⊢
  split
  · split
    · rename_i h1 h2; rw [if_pos h1, if_pos h2] at he; exact absurd rfl he
    · rfl
  · rfl
end Go.Proofs.Ytaedpadkpclldaa
