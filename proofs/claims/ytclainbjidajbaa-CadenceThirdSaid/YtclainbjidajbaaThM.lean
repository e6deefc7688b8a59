/- Which fields of pulled film frames are repeated: as data. -/
import Derived.Test.YtclainbjidajbaaInvM
import Derived.Test.YtclainbjidajbaaRpM
namespace Go.Proofs.Ytclainbjidajbaa
open Go.RowKit

theorem own_step {h : Nat → Nat} : ∀ (N : Nat), (∀ k, k < N → 2 ≤ h k) → ∀ p, p + 2 < (ownL h N).length → ∃ k : Nat, k < N ∧ (ownL h N)[p]? = some (k : Int) ∧ ((ownL h N)[p + 2]? = some (k : Int) ∨ (k + 1 < N ∧ (ownL h N)[p + 2]? = some ((k + 1 : Nat) : Int))) := by
  intro N
  induction N with
  | zero => intro _ p hp; simp [ownL] at hp
  | succ N ih =>
    intro hh p hp
    rw [ownL_succ] at hp ⊢
    rw [List.length_append, List.length_replicate] at hp
    by_cases h1 : p + 2 < (ownL h N).length
    · obtain ⟨k, hk, e1, e2⟩ := ih (fun k hk => hh k (by omega)) p h1
      rw [List.getElem?_append_left (by omega), List.getElem?_append_left h1]
      exact ⟨k, by omega, e1, e2.imp id (fun e => ⟨by omega, e.2⟩)⟩
    · have eN : (ownL h N ++ List.replicate (h N) (N : Int))[p + 2]? = some (N : Int) := by
        rw [List.getElem?_append_right (by omega), List.getElem?_replicate, if_pos (by omega)]
      by_cases h2 : p < (ownL h N).length
      · cases N with
        | zero => simp [ownL] at h2
        | succ M =>
          have hM := hh M (by omega)
          refine ⟨M, by omega, ?_, .inr ⟨by omega, eN⟩⟩
          rw [List.getElem?_append_left h2]
          rw [ownL_succ] at h1 h2 ⊢
          rw [List.length_append, List.length_replicate] at h1 h2
          rw [List.getElem?_append_right (by omega), List.getElem?_replicate, if_pos (by omega)]
      · refine ⟨N, by omega, ?_, .inl eN⟩
        rw [List.getElem?_append_right (by omega), List.getElem?_replicate, if_pos (by omega)]
theorem weave_step {a b c d : Int} (ht : teleB a b c d = true) {N p : Nat} (hp : p + 2 < (weaveL N a b c d).length) : ∃ k : Nat, k < N ∧ (weaveL N a b c d)[p]? = some (k : Int) ∧ ((weaveL N a b c d)[p + 2]? = some (k : Int) ∨ (k + 1 < N ∧ (weaveL N a b c d)[p + 2]? = some ((k + 1 : Nat) : Int))) := by
  unfold weaveL at hp ⊢
  rw [weave_runs] at hp ⊢
  exact own_step N (fun k _ => (run_bd ht N k).1) p hp

theorem rows_lines_even {a b c d : List Int} {wd rows : Nat} (ha : a.length = rows * wd) (hc : c.length = rows * wd) (hw : 0 < wd) : eqRowsF (linesL a b wd) (linesL c d wd) wd 0 rows = eqRowsF a c wd 0 rows := by
  rw [Bool.eq_iff_iff, eqRowsF_iff ((linesL_len _ _ _).trans ha) ((linesL_len _ _ _).trans hc) hw, eqRowsF_iff ha hc hw]
  have e : ∀ (x y : List Int), x.length = rows * wd → ∀ i, i < rows * wd → i / wd % 2 = 0 → (linesL x y wd).getD i 0 = x.getD i 0 := by
    intro x y hx i hi hp
    rw [List.getD_eq_getElem?_getD, linesL_at x y wd (by omega), if_neg (by omega)]
    rfl
  constructor
  · intro h i hi hp
    have := h i hi hp
    rwa [e a b ha i hi hp, e c d hc i hi hp] at this
  · intro h i hi hp
    rw [e a b ha i hi hp, e c d hc i hi hp]
    exact h i hi hp
theorem rows_lines_odd {a b c d : List Int} {wd rows : Nat} (ha : a.length = rows * wd) (hb : b.length = rows * wd) (hc : c.length = rows * wd) (hd : d.length = rows * wd) (hw : 0 < wd) : eqRowsF (linesL a b wd) (linesL c d wd) wd 1 rows = eqRowsF b d wd 1 rows := by
  rw [Bool.eq_iff_iff, eqRowsF_iff ((linesL_len _ _ _).trans ha) ((linesL_len _ _ _).trans hc) hw, eqRowsF_iff hb hd hw]
  have e : ∀ (x y : List Int), x.length = rows * wd → ∀ i, i < rows * wd → i / wd % 2 = 1 → (linesL x y wd).getD i 0 = y.getD i 0 := by
    intro x y hx i hi hp
    rw [List.getD_eq_getElem?_getD, linesL_at x y wd (by omega), if_pos hp]
    rfl
  constructor
  · intro h i hi hp
    have := h i hi hp
    rwa [e a b ha i hi hp, e c d hc i hi hp] at this
  · intro h i hi hp
    rw [e a b ha i hi hp, e c d hc i hi hp]
    exact h i hi hp
theorem fld_even {a b c d : Fr} {W H : Nat} (ha : SzF a W H) (hc : SzF c W H) : eqFldF (joinF a b) (joinF c d) 0 = eqFldF a c 0 := by
  obtain ⟨n1, n2, n3, n4⟩ := ha.nums
  obtain ⟨m1, m2, m3, m4⟩ := hc.nums
  unfold eqFldF joinF
  dsimp only
  rw [n1, n2, n3, n4, m1, m2, rows_lines_even (by rw [ha.y]) (by rw [hc.y]) (by have := ha.w0; omega), rows_lines_even ha.u hc.u ha.w0, rows_lines_even ha.v hc.v ha.w0]
theorem fld_odd {a b c d : Fr} {W H : Nat} (ha : SzF a W H) (hb : SzF b W H) (hc : SzF c W H) (hd : SzF d W H) : eqFldF (joinF a b) (joinF c d) 1 = eqFldF b d 1 := by
  obtain ⟨n1, n2, n3, n4⟩ := ha.nums
  obtain ⟨m1, m2, m3, m4⟩ := hc.nums
  obtain ⟨k1, k2, k3, k4⟩ := hb.nums
  unfold eqFldF joinF
  dsimp only
  rw [n1, n2, n3, n4, m1, m2, k1, k2, k3, k4, rows_lines_odd (by rw [ha.y]) (by rw [hb.y]) (by rw [hc.y]) (by rw [hd.y]) (by have := ha.w0; omega), rows_lines_odd ha.u hb.u hc.u hd.u ha.w0, rows_lines_odd ha.v hb.v hc.v hd.v ha.w0]
theorem rows_refl (a : List Int) (wd par rows : Nat) : eqRowsF a a wd par rows = true := by simp [eqRowsF]
theorem fld_refl (f : Fr) (par : Nat) : eqFldF f f par = true := by simp [eqFldF, rows_refl]
/-- Neighbours of the film differ in both fields. -/
def DiffF (fs : List Fr) (k : Nat) : Prop := ∀ i f g, i < k → fs[i]? = some f → fs[i + 1]? = some g → eqFldF f g 0 = false ∧ eqFldF f g 1 = false
/-- The repeated fields of the pulled film are those with the owner of the field two before them. -/
theorem third_rep {fs : List Fr} {a b c d : Int} (ht : teleB a b c d = true) (hal : alikeF fs = true) (hdf : DiffF fs fs.length) {i : Nat} {x y : Int × Int} (hx : (wvL fs.length a b c d)[i]? = some x) (hy : (wvL fs.length a b c d)[i + 1]? = some y) :
    repB (pullL fs (wvL fs.length a b c d)) (2 * (i + 1)) = decide (y.1 = x.1) ∧ repB (pullL fs (wvL fs.length a b c d)) (2 * (i + 1) + 1) = decide (y.2 = x.2) := by
  obtain ⟨SW, SH, hsz⟩ := alike_sz hal
  have hM : i + 1 < (weaveL fs.length a b c d).length / 2 := by
    have := (List.getElem?_eq_some_iff.1 hy).1
    rw [wvL_len] at this
    exact this
  have ex : x = ((weaveL fs.length a b c d).getD (2 * i) 0, (weaveL fs.length a b c d).getD (2 * i + 1) 0) := by
    have e := pairs_at (l := weaveL fs.length a b c d) (v := i) (m := (weaveL fs.length a b c d).length / 2) (by omega)
    have hx' := hx
    unfold wvL at hx'
    rw [e] at hx'
    injection hx' with hx'
    exact hx'.symm
  have ey : y = ((weaveL fs.length a b c d).getD (2 * (i + 1)) 0, (weaveL fs.length a b c d).getD (2 * (i + 1) + 1) 0) := by
    have e := pairs_at (l := weaveL fs.length a b c d) (v := i + 1) (m := (weaveL fs.length a b c d).length / 2) hM
    have hy' := hy
    unfold wvL at hy'
    rw [e] at hy'
    injection hy' with hy'
    exact hy'.symm
  have hok := wvL_ok fs.length a b c d
  obtain ⟨x1, x2, x3, x4⟩ := okW_iff.1 (List.all_eq_true.1 hok x (List.mem_of_getElem? hx))
  obtain ⟨y1, y2, y3, y4⟩ := okW_iff.1 (List.all_eq_true.1 hok y (List.mem_of_getElem? hy))
  have px := frAt_get (pullL_at (fs := fs) hx)
  have py := frAt_get (pullL_at (fs := fs) hy)
  have fx1 := hsz _ (frAt_mem x1 x2)
  have fx2 := hsz _ (frAt_mem x3 x4)
  have fy1 := hsz _ (frAt_mem y1 y2)
  have fy2 := hsz _ (frAt_mem y3 y4)
  -- the field of two owners that follow each other
  have key : ∀ (p par : Nat), par < 2 → p + 2 < (weaveL fs.length a b c d).length → eqFldF (frAt fs ((weaveL fs.length a b c d).getD p 0)) (frAt fs ((weaveL fs.length a b c d).getD (p + 2) 0)) par = decide ((weaveL fs.length a b c d).getD (p + 2) 0 = (weaveL fs.length a b c d).getD p 0) := by
    intro p par hpar hp
    obtain ⟨k, hk, e1, e2⟩ := weave_step ht hp
    rw [List.getD_eq_getElem?_getD, List.getD_eq_getElem?_getD, e1, Option.getD_some]
    rcases e2 with e2 | ⟨hk1, e2⟩
    · rw [e2, Option.getD_some, fld_refl, decide_eq_true rfl]
    · rw [e2, Option.getD_some]
      have h0 := List.getElem?_eq_getElem hk
      have h1 := List.getElem?_eq_getElem hk1
      rw [frAt_get h0, frAt_get h1, decide_eq_false (by omega)]
      obtain ⟨g0, g1⟩ := hdf k _ _ hk h0 h1
      rcases (by omega : par = 0 ∨ par = 1) with rfl | rfl
      · exact g0
      · exact g1
  unfold repB
  rw [show 2 * (i + 1) / 2 - 1 = i by omega, show 2 * (i + 1) / 2 = i + 1 by omega, show 2 * (i + 1) % 2 = 0 by omega, show (2 * (i + 1) + 1) / 2 - 1 = i by omega, show (2 * (i + 1) + 1) / 2 = i + 1 by omega, show (2 * (i + 1) + 1) % 2 = 1 by omega,
    px, py, fld_even fx1 fy1, fld_odd fx1 fx2 fy1 fy2, decide_eq_true (show 2 ≤ 2 * (i + 1) by omega), decide_eq_true (show 2 ≤ 2 * (i + 1) + 1 by omega), Bool.true_and, Bool.true_and, ex, ey]
  exact ⟨key (2 * i) 0 (by omega) (by omega), key (2 * i + 1) 1 (by omega) (by omega)⟩
end Go.Proofs.Ytclainbjidajbaa
