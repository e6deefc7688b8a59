/- Weaving: the plain functions and their laws. -/
import Derived.Test.YtaedpadkpclldaaPaste
import Derived.Test.YtaedpadkpclldaaWoven
import Derived.Test.YtaedpadkpclldaaFieldW
namespace Go.Proofs.Ytaedpadkpclldaa
open Go.RowKit

theorem row_lt {q r st j : Nat} (h : q < r) (hj : j < st) : q * st + j < r * st := by
  have : (q + 1) * st ≤ r * st := Nat.mul_le_mul_right _ h
  rw [Nat.succ_mul] at this
  omega
theorem row_of {k st : Nat} (hst : 0 < st) : k = k / st * st + k % st ∧ k % st < st := ⟨by rw [Nat.mul_comm]; exact (Nat.div_add_mod k st).symm, Nat.mod_lt _ hst⟩
theorem pasteL_in {m l : List Int} {fr st wd : Nat} (hst : wd ≤ st) : ∀ (r : Nat), (∀ i, i < r → fr + i * st + wd ≤ m.length) → r * wd ≤ l.length → ∀ q j, q < r → j < wd → (pasteL m l fr st wd r)[fr + q * st + j]? = l[q * wd + j]?
  | 0, _, _ => fun _ _ h _ => absurd h (by omega)
  | r + 1, hf, hl => by
    intro q j hq hj
    have h1 := hf r (by omega)
    rw [Nat.succ_mul] at hl
    have hlen := pasteL_len (l := l) r (fun i hi => hf i (by omega))
    have hn : ((l.drop (r * wd)).take wd).length = wd := by rw [List.length_take, List.length_drop]; omega
    unfold pasteL
    rw [spl_at (by rw [hlen, hn]; exact h1), hn]
    by_cases e : q = r
    · subst e
      rw [if_neg (by omega), if_pos (by omega), List.getElem?_take, if_pos (by omega), List.getElem?_drop]
      congr 1
      omega
    · have h2 := row_lt (q := q) (r := r) (st := st) (j := j) (by omega) (by omega)
      rw [if_pos (by omega)]
      exact pasteL_in hst r (fun i hi => hf i (by omega)) (by omega) q j (by omega) hj
theorem pasteL_out {m l : List Int} {fr st wd : Nat} : ∀ (r : Nat), (∀ i, i < r → fr + i * st + wd ≤ m.length) → r * wd ≤ l.length → ∀ k, (∀ q, q < r → k < fr + q * st ∨ fr + q * st + wd ≤ k) → (pasteL m l fr st wd r)[k]? = m[k]?
  | 0, _, _ => fun _ _ => rfl
  | r + 1, hf, hl => by
    intro k hk
    have h1 := hf r (by omega)
    rw [Nat.succ_mul] at hl
    have hlen := pasteL_len (l := l) r (fun i hi => hf i (by omega))
    have hn : ((l.drop (r * wd)).take wd).length = wd := by rw [List.length_take, List.length_drop]; omega
    have ih := pasteL_out (l := l) r (fun i hi => hf i (by omega)) (by omega) k (fun q hq => hk q (by omega))
    unfold pasteL
    rw [spl_at (by rw [hlen, hn]; exact h1), hn]
    by_cases e : k < fr + r * st
    · rw [if_pos e]; exact ih
    · rw [if_neg e, if_neg (by have := hk r (by omega); omega)]; exact ih
theorem wovenL_at {a b : List Int} {wd h : Nat} (ha : a.length = h * wd) (hb : b.length = h * wd) : ∀ (r : Nat), r ≤ h → ∀ q j, q < r → j < 2 * wd → (wovenL a b wd r)[q * (2 * wd) + j]? = if j < wd then a[q * wd + j]? else b[q * wd + (j - wd)]?
  | 0, _ => fun _ _ h _ => absurd h (by omega)
  | r + 1, hr => by
    intro q j hq hj
    have hlen := wovenL_len ha hb r (by omega)
    have e1 : (r + 1) * wd ≤ h * wd := Nat.mul_le_mul_right _ hr
    rw [Nat.succ_mul] at e1
    have la : ((a.drop (r * wd)).take wd).length = wd := by rw [List.length_take, List.length_drop]; omega
    unfold wovenL
    by_cases e : q = r
    · subst e
      rw [List.append_assoc, List.getElem?_append_right (by omega), hlen]
      rw [show q * (2 * wd) + j - q * (2 * wd) = j by omega]
      by_cases hj' : j < wd
      · rw [if_pos hj', List.getElem?_append_left (by omega), List.getElem?_take, if_pos hj', List.getElem?_drop]
      · rw [if_neg hj', List.getElem?_append_right (by omega), la, List.getElem?_take, if_pos (by omega), List.getElem?_drop]
    · have h2 := row_lt (q := q) (r := r) (st := 2 * wd) (j := j) (by omega) hj
      rw [List.append_assoc, List.getElem?_append_left (by omega)]
      exact wovenL_at ha hb r (by omega) q j (by omega) hj
theorem ext_rows {x y : List Int} {h st : Nat} (hst : 0 < st) (hx : x.length = h * st) (hy : y.length = h * st) (hh : ∀ q j, q < h → j < st → x[q * st + j]? = y[q * st + j]?) : x = y := by
  apply List.ext_getElem?
  intro k
  by_cases hk : k < h * st
  · obtain ⟨e, hj⟩ := row_of (k := k) hst
    rw [e]
    refine hh _ _ ?_ hj
    rw [Nat.div_lt_iff_lt_mul hst]
    exact hk
  · rw [List.getElem?_eq_none (by omega), List.getElem?_eq_none (by omega)]
/-- What the program lays is what the reference weaves. -/
theorem paste_woven {m a b : List Int} {wd h : Nat} (hw : 0 < wd) (hm : m.length = h * (2 * wd)) (ha : a.length = h * wd) (hb : b.length = h * wd) : pasteL (pasteL m a 0 (2 * wd) wd h) b wd (2 * wd) wd h = wovenL a b wd h := by
  have f1 : ∀ i, i < h → 0 + i * (2 * wd) + wd ≤ m.length := fun i hi => by have := row_lt (q := i) (r := h) (st := 2 * wd) (j := wd) hi (by omega); omega
  have l1 := pasteL_len (l := a) h f1
  have f2 : ∀ i, i < h → wd + i * (2 * wd) + wd ≤ (pasteL m a 0 (2 * wd) wd h).length := fun i hi => by have := row_lt (q := i) (r := h) (st := 2 * wd) (j := 2 * wd - 1) hi (by omega); omega
  have l2 := pasteL_len (l := b) h f2
  refine ext_rows (h := h) (st := 2 * wd) (by omega) (by omega) (wovenL_len ha hb h (Nat.le_refl _)) ?_
  intro q j hq hj
  rw [wovenL_at ha hb h (Nat.le_refl _) q j hq hj]
  by_cases hj' : j < wd
  · rw [if_pos hj', pasteL_out h f2 (by omega), ← pasteL_in (m := m) (l := a) (fr := 0) (st := 2 * wd) (wd := wd) (by omega) h f1 (by omega) q j hq hj']
    · congr 1; omega
    · intro i _
      by_cases e : i = q
      · subst e; omega
      · by_cases e2 : i < q
        · have := row_lt (q := i) (r := q) (st := 2 * wd) (j := 2 * wd - 1) e2 (by omega); omega
        · have := row_lt (q := q) (r := i) (st := 2 * wd) (j := j) (by omega) hj; omega
  · rw [if_neg hj', ← pasteL_in (m := pasteL m a 0 (2 * wd) wd h) (l := b) (fr := wd) (st := 2 * wd) (wd := wd) (by omega) h f2 (by omega) q (j - wd) hq (by omega)]
    congr 1; omega
theorem cut_at {l : List Int} {fr st wd ht q j : Nat} (hq : q < ht) (hj : j < wd) (hfit : fr + q * st + j < l.length) : (cutL l fr st wd ht)[q * wd + j]? = l[fr + q * st + j]? := by
  rw [cutL_at (row_lt hq hj), cutAt_row hj, List.getD_eq_getElem?_getD, List.getElem?_eq_getElem hfit]
  rfl
/-- The two fields are woven to what they were cut from. -/
theorem woven_cut {l : List Int} {wd h : Nat} (hw : 0 < wd) (hl : l.length = h * (2 * wd)) : wovenL (cutL l (0 * wd) (2 * wd) wd h) (cutL l (1 * wd) (2 * wd) wd h) wd h = l := by
  have la := cutL_len l (0 * wd) (2 * wd) wd h
  have lb := cutL_len l (1 * wd) (2 * wd) wd h
  refine ext_rows (h := h) (st := 2 * wd) (by omega) (wovenL_len la lb h (Nat.le_refl _)) hl ?_
  intro q j hq hj
  rw [wovenL_at la lb h (Nat.le_refl _) q j hq hj]
  have h1 := row_lt (q := q) (r := h) (st := 2 * wd) (j := j) hq hj
  by_cases hj' : j < wd
  · rw [if_pos hj', cut_at hq hj' (by omega)]; congr 1; omega
  · rw [if_neg hj', cut_at hq (by omega) (by omega)]; congr 1; omega
theorem cut_woven0 {a b : List Int} {wd h : Nat} (hw : 0 < wd) (ha : a.length = h * wd) (hb : b.length = h * wd) : cutL (wovenL a b wd h) (0 * wd) (2 * wd) wd h = a := by
  have l1 := wovenL_len ha hb h (Nat.le_refl _)
  refine ext_rows (h := h) (st := wd) hw (cutL_len _ _ _ _ _) ha ?_
  intro q j hq hj
  have h1 := row_lt (q := q) (r := h) (st := 2 * wd) (j := j) hq (by omega)
  rw [cut_at hq hj (by omega), show 0 * wd + q * (2 * wd) + j = q * (2 * wd) + j by omega, wovenL_at ha hb h (Nat.le_refl _) q j hq (by omega), if_pos hj]
theorem cut_woven1 {a b : List Int} {wd h : Nat} (hw : 0 < wd) (ha : a.length = h * wd) (hb : b.length = h * wd) : cutL (wovenL a b wd h) (1 * wd) (2 * wd) wd h = b := by
  have l1 := wovenL_len ha hb h (Nat.le_refl _)
  refine ext_rows (h := h) (st := wd) hw (cutL_len _ _ _ _ _) hb ?_
  intro q j hq hj
  have h1 := row_lt (q := q) (r := h) (st := 2 * wd) (j := wd + j) hq (by omega)
  rw [cut_at hq hj (by omega), show 1 * wd + q * (2 * wd) + j = q * (2 * wd) + (wd + j) by omega, wovenL_at ha hb h (Nat.le_refl _) q (wd + j) hq (by omega), if_neg (by omega)]
  congr 1; omega

def weaveOk (f g : Fr) : Prop := formedB f = true ∧ formedB g = true ∧ f.W = g.W ∧ f.H = g.H ∧ 2 * f.H ≤ 64
instance (f g : Fr) : Decidable (weaveOk f g) := by unfold weaveOk; infer_instance
def weaveFr (f g : Fr) : Fr :=
  ⟨f.W, 2 * f.H, wovenL f.Y g.Y f.W.toNat f.H.toNat, wovenL f.U g.U (f.W / 2).toNat (f.H / 2).toNat, wovenL f.V g.V (f.W / 2).toNat (f.H / 2).toNat⟩
def weaveF (f g : Fr) : Fr × Int := if weaveOk f g then (weaveFr f g, 0) else (zeroFr, 1)
/-- The sizes of a formed frame as numbers. -/
theorem formed_sizes {W H : Int} {Y U V : List Int} (h : formedB ⟨W, H, Y, U, V⟩ = true) :
    ∃ a q : Nat, W = ((2 * a : Nat) : Int) ∧ H = ((2 * q : Nat) : Int) ∧ 1 ≤ a ∧ a ≤ 32 ∧ 1 ≤ q ∧ q ≤ 32 ∧ Y.length = (2 * q) * (2 * a) ∧ U.length = q * a ∧ V.length = q * a := by
  simp only [formedB, Bool.and_eq_true, decide_eq_true_eq] at h
  obtain ⟨⟨⟨hs, a1⟩, a2⟩, a3⟩ := h
  obtain ⟨g1, g2, g3, g4, g5, g6⟩ := sizeB_true hs
  obtain ⟨a, rfl⟩ : ∃ a : Nat, W = ((2 * a : Nat) : Int) := ⟨(W / 2).toNat, by omega⟩
  obtain ⟨q, rfl⟩ : ∃ q : Nat, H = ((2 * q : Nat) : Int) := ⟨(H / 2).toNat, by omega⟩
  have e1 : (((2 * a : Nat) : Int) / 2) = a := by omega
  have e2 : (((2 * q : Nat) : Int) / 2) = q := by omega
  rw [e1, e2, ← Int.natCast_mul] at a2 a3
  rw [← Int.natCast_mul] at a1
  refine ⟨a, q, rfl, rfl, by omega, by omega, by omega, by omega, ?_, ?_, ?_⟩
  · rw [Nat.mul_comm]; exact_mod_cast a1
  · rw [Nat.mul_comm]; exact_mod_cast a2
  · rw [Nat.mul_comm]; exact_mod_cast a3
theorem weaveFr_of {a q : Nat} {Y U V : List Int} {g : Fr} : weaveFr ⟨((2 * a : Nat) : Int), ((2 * q : Nat) : Int), Y, U, V⟩ g = ⟨((2 * a : Nat) : Int), ((4 * q : Nat) : Int), wovenL Y g.Y (2 * a) (2 * q), wovenL U g.U a q, wovenL V g.V a q⟩ := by
  unfold weaveFr
  have e1 : (((2 * a : Nat) : Int) / 2).toNat = a := by omega
  have e2 : (((2 * q : Nat) : Int) / 2).toNat = q := by omega
  have e3 : 2 * ((2 * q : Nat) : Int) = ((4 * q : Nat) : Int) := by omega
  simp only [e1, e2, e3, Int.toNat_natCast]
theorem formed_mk {a q : Nat} {Y U V : List Int} (ha : 1 ≤ a) (ha' : a ≤ 32) (hq : 1 ≤ q) (hq' : q ≤ 32) (hY : Y.length = (2 * q) * (2 * a)) (hU : U.length = q * a) (hV : V.length = q * a) : formedB ⟨((2 * a : Nat) : Int), ((2 * q : Nat) : Int), Y, U, V⟩ = true := by
  have e1 : (((2 * a : Nat) : Int) / 2) = a := by omega
  have e2 : (((2 * q : Nat) : Int) / 2) = q := by omega
  simp only [formedB, sizeB, Bool.and_eq_true, decide_eq_true_eq, e1, e2, hY, hU, hV, ← Int.natCast_mul]
  refine ⟨⟨⟨by omega, ?_⟩, ?_⟩, ?_⟩
  · rw [Nat.mul_comm]
  · rw [Nat.mul_comm]
  · rw [Nat.mul_comm]
end Go.Proofs.Ytaedpadkpclldaa
