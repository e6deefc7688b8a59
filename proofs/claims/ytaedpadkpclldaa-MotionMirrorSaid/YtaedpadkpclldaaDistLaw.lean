/- Plain laws on the distance of frames. -/
import Derived.Test.YtaedpadkpclldaaRDistance
import Derived.Test.YtaedpadkpclldaaEqual
namespace Go.Proofs.Ytaedpadkpclldaa
open Go.RowKit

theorem foldl_max_le {l : List Int} {s m : Int} : l.foldl max s ≤ m ↔ s ≤ m ∧ ∀ x ∈ l, x ≤ m := by
  induction l generalizing s with
  | nil => simp
  | cons x l ih =>
    rw [List.foldl_cons, ih]
    simp only [List.mem_cons, forall_eq_or_imp]
    constructor
    · rintro ⟨h1, h2⟩; exact ⟨by omega, by omega, h2⟩
    · rintro ⟨h1, h2, h3⟩; exact ⟨by omega, h3⟩
theorem dl_mem {a b : List Int} {z : Int} : z ∈ dl a b ↔ ∃ (i : Nat) (x y : Int), a[i]? = some x ∧ b[i]? = some y ∧ z = max (x - y) (y - x) := by
  rw [List.mem_iff_getElem?]
  constructor
  · rintro ⟨i, hi⟩
    simp only [dl, List.getElem?_zipWith] at hi
    rcases hx : a[i]? with _ | x <;> rcases hy : b[i]? with _ | y <;> simp [hx, hy] at hi
    exact ⟨i, x, y, hx, hy, hi.symm⟩
  · rintro ⟨i, x, y, hx, hy, rfl⟩
    exact ⟨i, dl_at hx hy⟩
theorem distL_le {a b : List Int} {m : Int} (hm : 0 ≤ m) : distL a b ≤ m ↔ ∀ (i : Nat) (x y : Int), a[i]? = some x → b[i]? = some y → x - y ≤ m ∧ y - x ≤ m := by
  unfold distL
  rw [foldl_max_le]
  constructor
  · rintro ⟨_, h⟩ i x y hx hy
    have := h _ (dl_mem.2 ⟨i, x, y, hx, hy, rfl⟩)
    omega
  · intro h
    refine ⟨hm, fun z hz => ?_⟩
    obtain ⟨i, x, y, hx, hy, rfl⟩ := dl_mem.1 hz
    have := h i x y hx hy
    omega
theorem distL_nonneg (a b : List Int) : 0 ≤ distL a b := by
  unfold distL
  suffices h : ∀ (l : List Int) (s : Int), 0 ≤ s → 0 ≤ l.foldl max s from h _ 0 (by omega)
  intro l
  induction l with
  | nil => intro s hs; exact hs
  | cons x l ih => intro s hs; exact ih _ (by omega)
theorem distL_sym (a b : List Int) : distL a b = distL b a := by
  apply Int.le_antisymm
  · rw [distL_le (distL_nonneg b a)]
    intro i x y hx hy
    have := (distL_le (distL_nonneg b a)).1 (Int.le_refl _) i y x hy hx
    omega
  · rw [distL_le (distL_nonneg a b)]
    intro i x y hx hy
    have := (distL_le (distL_nonneg a b)).1 (Int.le_refl _) i y x hy hx
    omega
theorem distL_zero {a b : List Int} (hl : a.length = b.length) : distL a b = 0 ↔ a = b := by
  constructor
  · intro h
    have h0 : distL a b ≤ 0 := by omega
    rw [distL_le (by omega)] at h0
    apply List.ext_getElem?
    intro i
    rcases hx : a[i]? with _ | x
    · have : b.length ≤ i := by rw [← hl]; exact List.getElem?_eq_none_iff.1 hx
      rw [List.getElem?_eq_none this]
    · have hi : i < b.length := by rw [← hl]; exact (List.getElem?_eq_some_iff.1 hx).1
      have hy := List.getElem?_eq_getElem hi
      have := h0 i x _ hx hy
      rw [hy]
      congr 1
      omega
  · rintro rfl
    apply Int.le_antisymm
    · rw [distL_le (by omega)]
      intro i x y hx hy
      rw [hx] at hy
      cases hy
      omega
    · exact distL_nonneg a a
theorem distL_tri {a b c : List Int} (h1 : a.length = b.length) : distL a c ≤ distL a b + distL b c := by
  have n1 := distL_nonneg a b
  have n2 := distL_nonneg b c
  rw [distL_le (by omega)]
  intro i x z hx hz
  have hi : i < b.length := by rw [← h1]; exact (List.getElem?_eq_some_iff.1 hx).1
  have hy := List.getElem?_eq_getElem hi
  have q1 := (distL_le n1).1 (Int.le_refl _) i x _ hx hy
  have q2 := (distL_le n2).1 (Int.le_refl _) i _ z hy hz
  omega
theorem formedB_lens {f : Fr} (h : formedB f = true) : (f.Y.length : Int) = f.W * f.H ∧ (f.U.length : Int) = f.W / 2 * (f.H / 2) ∧ (f.V.length : Int) = f.W / 2 * (f.H / 2) := by
  simp only [formedB, Bool.and_eq_true, decide_eq_true_eq] at h
  exact ⟨h.1.1.2, h.1.2, h.2⟩
theorem same_len {f g : Fr} (h1 : formedB f = true) (h2 : formedB g = true) (hw : f.W = g.W) (hh : f.H = g.H) : f.Y.length = g.Y.length ∧ f.U.length = g.U.length ∧ f.V.length = g.V.length := by
  obtain ⟨a1, a2, a3⟩ := formedB_lens h1
  obtain ⟨b1, b2, b3⟩ := formedB_lens h2
  rw [hw, hh] at a1 a2 a3
  omega
theorem distF_sym (f g : Fr) : distF f g = distF g f := by
  unfold distF
  rw [distL_sym f.Y, distL_sym f.U, distL_sym f.V]
  have : (formedB f && formedB g && decide (f.W = g.W) && decide (f.H = g.H)) = (formedB g && formedB f && decide (g.W = f.W) && decide (g.H = f.H)) := by
    rw [Bool.eq_iff_iff]; simp only [Bool.and_eq_true, decide_eq_true_eq]
    constructor
    · rintro ⟨⟨⟨a, b⟩, c⟩, d⟩; exact ⟨⟨⟨b, a⟩, c.symm⟩, d.symm⟩
    · rintro ⟨⟨⟨a, b⟩, c⟩, d⟩; exact ⟨⟨⟨b, a⟩, c.symm⟩, d.symm⟩
  rw [this]
theorem distF_zero (f g : Fr) : (distF f g == 0) = (formedB f && formedB g && eqB f g) := by
  rw [Bool.eq_iff_iff]
  simp only [beq_iff_eq, Bool.and_eq_true]
  unfold distF
  by_cases h : (formedB f && formedB g && decide (f.W = g.W) && decide (f.H = g.H)) = true
  · rw [if_pos h]
    simp only [Bool.and_eq_true, decide_eq_true_eq] at h
    obtain ⟨⟨⟨h1, h2⟩, h3⟩, h4⟩ := h
    obtain ⟨l1, l2, l3⟩ := same_len h1 h2 h3 h4
    have n1 := distL_nonneg f.Y g.Y
    have n2 := distL_nonneg f.U g.U
    have n3 := distL_nonneg f.V g.V
    constructor
    · intro hz
      refine ⟨⟨h1, h2⟩, ?_⟩
      have z1 := (distL_zero l1).1 (by omega)
      have z2 := (distL_zero l2).1 (by omega)
      have z3 := (distL_zero l3).1 (by omega)
      simp [eqB, h3, h4, z1, z2, z3]
    · rintro ⟨_, he⟩
      obtain rfl := eqB_eq he
      rw [(distL_zero rfl).2 rfl, (distL_zero rfl).2 rfl, (distL_zero rfl).2 rfl]
      rfl
  · rw [if_neg h]
    constructor
    · intro hc; omega
    · rintro ⟨⟨h1, h2⟩, he⟩
      exfalso
      apply h
      obtain rfl := eqB_eq he
      simp [h1]
theorem distF_bd (f g : Fr) (h1 : ∀ x ∈ f.Y, 0 ≤ x ∧ x ≤ 255) (h2 : ∀ x ∈ f.U, 0 ≤ x ∧ x ≤ 255) (h3 : ∀ x ∈ f.V, 0 ≤ x ∧ x ≤ 255) (h4 : ∀ x ∈ g.Y, 0 ≤ x ∧ x ≤ 255) (h5 : ∀ x ∈ g.U, 0 ≤ x ∧ x ≤ 255) (h6 : ∀ x ∈ g.V, 0 ≤ x ∧ x ≤ 255) :
    -1 ≤ distF f g ∧ distF f g ≤ 255 := by
  have b1 := dist_bd h1 h4 (dl f.Y g.Y).length
  have b2 := dist_bd h2 h5 (dl f.U g.U).length
  have b3 := dist_bd h3 h6 (dl f.V g.V).length
  rw [List.take_length] at b1 b2 b3
  unfold distF distL
  split <;> omega
theorem distF_tri (f g h : Fr) (h1 : 0 ≤ distF f g) (h2 : 0 ≤ distF g h) : distF f h ≤ distF f g + distF g h := by
  unfold distF at h1 h2 ⊢
  by_cases c1 : (formedB f && formedB g && decide (f.W = g.W) && decide (f.H = g.H)) = true
  · by_cases c2 : (formedB g && formedB h && decide (g.W = h.W) && decide (g.H = h.H)) = true
    · rw [if_pos c1, if_pos c2]
      simp only [Bool.and_eq_true, decide_eq_true_eq] at c1 c2
      obtain ⟨⟨⟨d1, d2⟩, d3⟩, d4⟩ := c1
      obtain ⟨⟨⟨e1, e2⟩, e3⟩, e4⟩ := c2
      obtain ⟨l1, l2, l3⟩ := same_len d1 d2 d3 d4
      have t1 := distL_tri (c := h.Y) l1
      have t2 := distL_tri (c := h.U) l2
      have t3 := distL_tri (c := h.V) l3
      have n1 := distL_nonneg f.Y g.Y
      have n2 := distL_nonneg g.Y h.Y
      split <;> omega
    · rw [if_neg c2] at h2; omega
  · rw [if_neg c1] at h1; omega
end Go.Proofs.Ytaedpadkpclldaa
