/- Plain laws on predictions: they never amplify an error, and are formed. -/
import Derived.Test.YtaedpadkpclldaaRange
import Derived.Test.YtaedpadkpclldaaDistLaw
namespace Go.Proofs.Ytaedpadkpclldaa
open Go.RowKit

theorem pix_close {l l' : List Int} {d : Int} (hd : 0 ≤ d) (hl : l.length = l'.length) (h : ∀ (i : Nat) (x y : Int), l[i]? = some x → l'[i]? = some y → x - y ≤ d ∧ y - x ≤ d) (cols rows x y : Int) :
    pix l cols rows x y - pix l' cols rows x y ≤ d ∧ pix l' cols rows x y - pix l cols rows x y ≤ d := by
  unfold pix
  generalize (clampI y rows * cols + clampI x cols).toNat = k
  rw [List.getD_eq_getElem?_getD, List.getD_eq_getElem?_getD]
  by_cases hk : k < l.length
  · have h1 := List.getElem?_eq_getElem hk
    have h2 := List.getElem?_eq_getElem (show k < l'.length by omega)
    rw [h1, h2]
    exact h k _ _ h1 h2
  · rw [List.getElem?_eq_none (by omega), List.getElem?_eq_none (by omega)]
    simp
    omega
theorem halfS_close {l l' : List Int} {d : Int} (hd : 0 ≤ d) (hl : l.length = l'.length) (h : ∀ (i : Nat) (x y : Int), l[i]? = some x → l'[i]? = some y → x - y ≤ d ∧ y - x ≤ d) (cols rows a b : Int) :
    halfS l cols rows a b - halfS l' cols rows a b ≤ d ∧ halfS l' cols rows a b - halfS l cols rows a b ≤ d := by
  unfold halfS
  have h1 := pix_close hd hl h cols rows (a / 2) (b / 2)
  have h2 := pix_close hd hl h cols rows (a / 2 + a % 2) (b / 2)
  have h3 := pix_close hd hl h cols rows (a / 2) (b / 2 + b % 2)
  have h4 := pix_close hd hl h cols rows (a / 2 + a % 2) (b / 2 + b % 2)
  omega
theorem predL_at {l : List Int} {cols rows x y : Int} {pw ph : Nat} {vx vy : Int} {k : Nat} {z : Int} (h : (predL l cols rows x y pw ph vx vy)[k]? = some z) : z = predAt l cols rows x y pw vx vy k := by
  unfold predL at h
  rw [List.getElem?_map] at h
  rcases hk : (List.range (ph * pw))[k]? with _ | j <;> rw [hk] at h <;> simp at h
  have : j = k := by
    have := List.getElem?_eq_some_iff.1 hk
    obtain ⟨h1, h2⟩ := this
    simpa using h2.symm
  subst this
  exact h.symm
theorem predL_close {l l' : List Int} (hl : l.length = l'.length) (cols rows x y : Int) (pw ph : Nat) (vx vy : Int) :
    distL (predL l cols rows x y pw ph vx vy) (predL l' cols rows x y pw ph vx vy) ≤ distL l l' := by
  have hn := distL_nonneg l l'
  have h0 := (distL_le hn).1 (Int.le_refl _)
  rw [distL_le hn]
  intro i a b ha hb
  rw [predL_at ha, predL_at hb]
  exact halfS_close hn hl h0 _ _ _ _
theorem predL_len (l : List Int) (cols rows x y : Int) (pw ph : Nat) (vx vy : Int) : (predL l cols rows x y pw ph vx vy).length = ph * pw := by simp [predL]
theorem predFr_formed {f : Fr} {x y ph vx vy : Int} (h : ph = 8 ∨ ph = 16) : formedB (predFr f x y ph vx vy) = true := by
  rcases h with rfl | rfl <;> simp [formedB, predFr, predL_len, sizeB]
theorem predF_cases (f : Fr) (x y pw ph vx vy : Int) : (predF f x y pw ph vx vy).2 = 0 → predOk f x y pw ph ∧ mayB vx vy = true ∧ predF f x y pw ph vx vy = (predFr f x y ph vx vy, 0) := by
  unfold predF
  by_cases h : predOk f x y pw ph
  · rw [if_pos h]
    by_cases h2 : mayB vx vy = true
    · rw [if_pos h2]; exact fun _ => ⟨h, h2, rfl⟩
    · rw [if_neg h2]; simp
  · rw [if_neg h]; simp
/-- What MotionClose says. -/
theorem pred_close {f g : Fr} {x y pw ph vx vy : Int} (hd : 0 ≤ distF f g) (he : (predF f x y pw ph vx vy).2 = 0) :
    (predF g x y pw ph vx vy).2 = 0 ∧ 0 ≤ distF (predF f x y pw ph vx vy).1 (predF g x y pw ph vx vy).1 ∧ distF (predF f x y pw ph vx vy).1 (predF g x y pw ph vx vy).1 ≤ distF f g := by
  obtain ⟨h1, h2, h3⟩ := predF_cases f x y pw ph vx vy he
  unfold distF at hd
  by_cases c : (formedB f && formedB g && decide (f.W = g.W) && decide (f.H = g.H)) = true
  · have c0 := c
    simp only [Bool.and_eq_true, decide_eq_true_eq] at c
    obtain ⟨⟨⟨d1, d2⟩, d3⟩, d4⟩ := c
    obtain ⟨l1, l2, l3⟩ := same_len d1 d2 d3 d4
    have h1' : predOk g x y pw ph := by
      obtain ⟨q1, q2, q3, q4, q5, q6, q7, q8, q9⟩ := h1
      exact ⟨d2, q2, q3, q4, q5, by omega, q7, q8, by omega⟩
    have h3' : predF g x y pw ph vx vy = (predFr g x y ph vx vy, 0) := by unfold predF; rw [if_pos h1', if_pos h2]
    rw [h3, h3']
    have e1 := predFr_formed (f := f) (x := x) (y := y) (vx := vx) (vy := vy) h1.2.2.1
    have e2 := predFr_formed (f := g) (x := x) (y := y) (vx := vx) (vy := vy) h1.2.2.1
    have hdist : distF (predFr f x y ph vx vy) (predFr g x y ph vx vy) = max (distL (predFr f x y ph vx vy).Y (predFr g x y ph vx vy).Y) (max (distL (predFr f x y ph vx vy).U (predFr g x y ph vx vy).U) (distL (predFr f x y ph vx vy).V (predFr g x y ph vx vy).V)) := by
      unfold distF
      rw [e1, e2]
      simp only [show (predFr f x y ph vx vy).W = (predFr g x y ph vx vy).W from rfl, show (predFr f x y ph vx vy).H = (predFr g x y ph vx vy).H from rfl, decide_true, Bool.and_self, if_true]
    have hdist' : distF f g = max (distL f.Y g.Y) (max (distL f.U g.U) (distL f.V g.V)) := by unfold distF; rw [if_pos c0]
    have t1 := predL_close l1 f.W f.H x y 16 ph.toNat vx vy
    have t2 := predL_close l2 (f.W / 2) (f.H / 2) (x / 2) (y / 2) 8 (ph.toNat / 2) (vx.tdiv 2) (vy.tdiv 2)
    have t3 := predL_close l3 (f.W / 2) (f.H / 2) (x / 2) (y / 2) 8 (ph.toNat / 2) (vx.tdiv 2) (vy.tdiv 2)
    refine ⟨rfl, ?_, ?_⟩
    · rw [hdist]
      have := distL_nonneg (predFr f x y ph vx vy).Y (predFr g x y ph vx vy).Y
      omega
    · rw [hdist, hdist']
      simp only [predFr, ← d3, ← d4]
      omega
  · rw [if_neg c] at hd; omega
end Go.Proofs.Ytaedpadkpclldaa
