/- Restore of Pull for a Weave: as data. -/
import Derived.Test.YtclainbjidajbaaOrderM
import Derived.Test.YtclainbjidajbaaPlM
namespace Go.Proofs.Ytclainbjidajbaa
open Go.RowKit

theorem lines_back {a b c : List Int} {wd : Nat} (hc : c.length = a.length) : linesL (linesL a b wd) (linesL c a wd) wd = a := by
  refine list_ext ((linesL_len _ _ _).trans (linesL_len _ _ _)) rfl fun i hi => ?_
  rw [linesL_at _ _ wd (by rw [linesL_len]; exact hi), getD_at hi]
  congr 1
  have e1 := linesL_at a b wd hi
  have e2 := linesL_at c a wd (i := i) (by omega)
  by_cases hp : i / wd % 2 = 1
  · rw [if_pos hp] at e2 ⊢
    rw [List.getD_eq_getElem?_getD, e2]
    rfl
  · rw [if_neg hp] at e1 ⊢
    rw [List.getD_eq_getElem?_getD, e1]
    rfl
theorem SzF.num {f : Fr} {W H : Nat} (h : SzF f W H) : f.W.toNat = 2 * W ∧ (f.W / 2).toNat = W := by
  have := h.w
  omega
theorem joinF_back {a b c : Fr} {W H : Nat} (ha : SzF a W H) (hc : SzF c W H) : joinF (joinF a b) (joinF c a) = a := by
  obtain ⟨n1, n2⟩ := ha.num
  obtain ⟨m1, m2⟩ := hc.num
  have e1 := lines_back (a := a.Y) (b := b.Y) (c := c.Y) (wd := 2 * W) (by rw [ha.y, hc.y])
  have e2 := lines_back (a := a.U) (b := b.U) (c := c.U) (wd := W) (by rw [ha.u, hc.u])
  have e3 := lines_back (a := a.V) (b := b.V) (c := c.V) (wd := W) (by rw [ha.v, hc.v])
  unfold joinF
  dsimp only
  rw [n1, n2, m1, m2, e1, e2, e3]

theorem own_val {g : Nat → Nat} {n : Nat} {x : Int} (h : x ∈ ownL g n) : ∃ k : Nat, k < n ∧ x = (k : Int) := by
  unfold ownL at h
  obtain ⟨k, hk, hx⟩ := List.mem_flatMap.1 h
  exact ⟨k, List.mem_range.1 hk, (List.mem_replicate.1 hx).2⟩
theorem weave_val {N : Nat} {a b c d x : Int} (h : x ∈ weaveL N a b c d) : ∃ k : Nat, k < N ∧ x = (k : Int) := by
  unfold weaveL at h
  rw [weave_runs] at h
  exact own_val h
theorem weave_even (N : Nat) (a b c d : Int) : (weaveL N a b c d).length % 2 = 0 := by
  unfold weaveL evenL
  split
  · assumption
  · rw [List.length_append, List.length_singleton]; omega
theorem weave_occ {a b c d : Int} (ht : teleB a b c d = true) {N f : Nat} (hf : f < N) :
    ∃ p, p + 1 < (weaveL N a b c d).length ∧ (weaveL N a b c d)[p]? = some (f : Int) ∧ (weaveL N a b c d)[p + 1]? = some (f : Int) := by
  have h2 := (run_bd ht N f).1
  unfold weaveL
  rw [weave_runs]
  exact ⟨(ownL (runF (cntF a b c d) N) f).length, ownL_lt _ hf (j := 1) (by omega), ownL_at _ hf (j := 0) (by omega), ownL_at _ hf (j := 1) (by omega)⟩
theorem pairs_at {l : List Int} {m v : Nat} (h : v < m) : (pairsL l m)[v]? = some (l.getD (2 * v) 0, l.getD (2 * v + 1) 0) := by simp [pairsL, h]
/-- The woven frames of n film frames. -/
def wvL (N : Nat) (a b c d : Int) : List (Int × Int) := pairsL (weaveL N a b c d) ((weaveL N a b c d).length / 2)
theorem wvL_len (N : Nat) (a b c d : Int) : (wvL N a b c d).length = (weaveL N a b c d).length / 2 := pairsL_len _ _
theorem wvL_ok (N : Nat) (a b c d : Int) : (wvL N a b c d).all (okW N) = true := by
  rw [List.all_eq_true]
  intro x hx
  obtain ⟨v, hv, rfl⟩ := List.mem_map.1 (show x ∈ (List.range _).map _ from hx)
  have hv := List.mem_range.1 hv
  obtain ⟨k1, h1, e1⟩ := weave_val (getD_mem (l := weaveL N a b c d) (i := 2 * v) (by omega))
  obtain ⟨k2, h2, e2⟩ := weave_val (getD_mem (l := weaveL N a b c d) (i := 2 * v + 1) (by omega))
  rw [okW_iff]
  dsimp only
  omega
theorem wvL_top {a b c d : Int} (ht : teleB a b c d = true) {N f : Nat} (hf : f < N) : ∃ (v : Nat) (x : Int × Int), (wvL N a b c d)[v]? = some x ∧ x.1 = (f : Int) := by
  obtain ⟨p, hp, e0, e1⟩ := weave_occ ht hf
  have he := weave_even N a b c d
  by_cases hpe : p % 2 = 0
  · refine ⟨p / 2, _, pairs_at (by omega), ?_⟩
    dsimp only
    rw [show 2 * (p / 2) = p by omega, List.getD_eq_getElem?_getD, e0]
    rfl
  · refine ⟨(p + 1) / 2, _, pairs_at (by omega), ?_⟩
    dsimp only
    rw [show 2 * ((p + 1) / 2) = p + 1 by omega, List.getD_eq_getElem?_getD, e1]
    rfl
theorem wvL_bot {a b c d : Int} (ht : teleB a b c d = true) {N f : Nat} (hf : f < N) : ∃ (v : Nat) (x : Int × Int), (wvL N a b c d)[v]? = some x ∧ x.2 = (f : Int) := by
  obtain ⟨p, hp, e0, e1⟩ := weave_occ ht hf
  have he := weave_even N a b c d
  by_cases hpe : p % 2 = 0
  · refine ⟨p / 2, _, pairs_at (by omega), ?_⟩
    dsimp only
    rw [show 2 * (p / 2) + 1 = p + 1 by omega, List.getD_eq_getElem?_getD, e1]
    rfl
  · refine ⟨p / 2, _, pairs_at (by omega), ?_⟩
    dsimp only
    rw [show 2 * (p / 2) + 1 = p by omega, List.getD_eq_getElem?_getD, e0]
    rfl

theorem ixS_spec {g : Int × Int → Bool} {l : List (Int × Int)} (h : ∃ (v : Nat) (x : Int × Int), l[v]? = some x ∧ g x = true) : ∃ (i : Nat) (x : Int × Int), ixS g l 0 = (i : Int) ∧ l[i]? = some x ∧ g x = true := by
  obtain ⟨v, x, hx, hg⟩ := h
  unfold ixS
  rw [List.drop_zero]
  cases hf : l.findIdx? g with
  | none =>
    have := List.findIdx?_eq_none_iff.1 hf x (List.mem_of_getElem? hx)
    rw [hg] at this
    cases this
  | some i =>
    obtain ⟨hi, hgi, _⟩ := List.findIdx?_eq_some_iff_getElem.1 hf
    exact ⟨i, l[i], by simp, List.getElem?_eq_getElem hi, hgi⟩
theorem frAt_get {l : List Fr} {i : Nat} {f : Fr} (h : l[i]? = some f) : frAt l (i : Int) = f := by
  unfold frAt
  rw [Int.toNat_natCast, List.getD_eq_getElem?_getD, h]
  rfl
theorem topF_spec : ∀ (l : List (Int × Int)) (a B : Int), a ≤ B → (∀ x ∈ l, x.1 + 1 ≤ B ∧ x.2 + 1 ≤ B) →
    a ≤ l.foldl (fun a x => max a (max (x.1 + 1) (x.2 + 1))) a ∧ l.foldl (fun a x => max a (max (x.1 + 1) (x.2 + 1))) a ≤ B ∧ ∀ x ∈ l, x.1 + 1 ≤ l.foldl (fun a x => max a (max (x.1 + 1) (x.2 + 1))) a := by
  intro l
  induction l with
  | nil => intro a B h _; exact ⟨Int.le_refl _, h, by simp⟩
  | cons y l ih =>
    intro a B h hb
    have hy := hb y (List.mem_cons_self ..)
    obtain ⟨h1, h2, h3⟩ := ih (max a (max (y.1 + 1) (y.2 + 1))) B (by omega) (fun x hx => hb x (List.mem_cons_of_mem _ hx))
    rw [List.foldl_cons]
    refine ⟨by omega, h2, fun x hx => ?_⟩
    rcases List.mem_cons.1 hx with rfl | hx
    · omega
    · exact h3 x hx
theorem pullL_at {fs : List Fr} {ws : List (Int × Int)} {v : Nat} {x : Int × Int} (h : ws[v]? = some x) : (pullL fs ws)[v]? = some (joinF (frAt fs x.1) (frAt fs x.2)) := by simp [pullL, h]
theorem validF_join (f g : Fr) : validF (joinF f g) = validF f := by simp only [validF, joinF, linesL_len]
theorem alike_mem {fs : List Fr} (h : alikeF fs = true) {f : Fr} (hf : f ∈ fs) : validF f = true ∧ f.W = (hdF fs).W ∧ f.H = (hdF fs).H := by
  have := List.all_eq_true.1 h f hf
  simpa [okF] using this
theorem frAt_mem {fs : List Fr} {i : Int} (h0 : 0 ≤ i) (h1 : i < fs.length) : frAt fs i ∈ fs := by
  obtain ⟨k, rfl⟩ := Int.eq_ofNat_of_zero_le h0
  rw [frAt_get (List.getElem?_eq_getElem (show k < fs.length by omega))]
  exact List.getElem_mem _
theorem alike_pull {fs : List Fr} {ws : List (Int × Int)} (h : alikeF fs = true) (hok : ws.all (okW fs.length) = true) : alikeF (pullL fs ws) = true := by
  have key : ∀ g ∈ pullL fs ws, validF g = true ∧ g.W = (hdF fs).W ∧ g.H = (hdF fs).H := by
    intro g hg
    obtain ⟨x, hx, rfl⟩ := List.mem_map.1 hg
    obtain ⟨h1, h2, _, _⟩ := okW_iff.1 (List.all_eq_true.1 hok x hx)
    obtain ⟨k1, k2, k3⟩ := alike_mem h (frAt_mem h1 h2)
    rw [validF_join]
    exact ⟨k1, k2, k3⟩
  unfold alikeF
  rw [List.all_eq_true]
  intro g hg
  obtain ⟨k1, k2, k3⟩ := key g hg
  have hd : hdF (pullL fs ws) ∈ pullL fs ws := by
    cases hp : pullL fs ws with
    | nil => rw [hp] at hg; cases hg
    | cons a l => exact List.mem_cons_self ..
  obtain ⟨_, j2, j3⟩ := key _ hd
  simp [okF, k1, k2, k3, j2, j3]
/-- Restore of Pull. -/
theorem rest_pull {fs : List Fr} {ws : List (Int × Int)} (hal : alikeF fs = true) (hok : ws.all (okW fs.length) = true) (hle : ws.length ≤ 256) (hN : fs.length ≤ 256)
    (htop : ∀ f : Nat, f < fs.length → ∃ (v : Nat) (x : Int × Int), ws[v]? = some x ∧ x.1 = (f : Int)) (hbot : ∀ f : Nat, f < fs.length → ∃ (v : Nat) (x : Int × Int), ws[v]? = some x ∧ x.2 = (f : Int)) :
    restE (pullL fs ws) ws = 0 ∧ restF (pullL fs ws) ws = fs := by
  have hlen : (pullL fs ws).length = ws.length := by simp [pullL]
  have hmem : ∀ x ∈ ws, 0 ≤ x.1 ∧ x.1 < fs.length ∧ 0 ≤ x.2 ∧ x.2 < fs.length := fun x hx => okW_iff.1 (List.all_eq_true.1 hok x hx)
  have hokR : ws.all okR = true := by
    rw [List.all_eq_true]
    intro x hx
    have := hmem x hx
    rw [okR_iff]
    omega
  have hT : topF ws = (fs.length : Int) := by
    obtain ⟨h1, h2, h3⟩ := topF_spec ws 0 fs.length (by omega) (fun x hx => by have := hmem x hx; omega)
    refine Int.le_antisymm h2 ?_
    rcases Nat.eq_zero_or_pos fs.length with h | h
    · rw [h]; exact h1
    · obtain ⟨v, x, hx, e⟩ := htop (fs.length - 1) (by omega)
      have := h3 x (List.mem_of_getElem? hx)
      show (fs.length : Int) ≤ ws.foldl _ 0
      omega
  have hix1 : ∀ f : Nat, f < fs.length → ∃ (i : Nat) (x : Int × Int), ixS (gT (f : Int)) ws 0 = (i : Int) ∧ ws[i]? = some x ∧ x.1 = (f : Int) := by
    intro f hf
    obtain ⟨v, x, hx, e⟩ := htop f hf
    obtain ⟨i, y, h1, h2, h3⟩ := ixS_spec (g := gT (f : Int)) ⟨v, x, hx, by simp [gT, e]⟩
    exact ⟨i, y, h1, h2, by simpa [gT] using h3⟩
  have hix2 : ∀ f : Nat, f < fs.length → ∃ (i : Nat) (x : Int × Int), ixS (gB (f : Int)) ws 0 = (i : Int) ∧ ws[i]? = some x ∧ x.2 = (f : Int) := by
    intro f hf
    obtain ⟨v, x, hx, e⟩ := hbot f hf
    obtain ⟨i, y, h1, h2, h3⟩ := ixS_spec (g := gB (f : Int)) ⟨v, x, hx, by simp [gB, e]⟩
    exact ⟨i, y, h1, h2, by simpa [gB] using h3⟩
  obtain ⟨e1, e2⟩ := rest_ok (fs := pullL fs ws) hlen (alike_pull hal hok) hokR hle (fun f hf => by
    rw [hT] at hf
    obtain ⟨i, _, h1, _, _⟩ := hix1 f (by omega)
    obtain ⟨j, _, h2, _, _⟩ := hix2 f (by omega)
    unfold hasR
    rw [decide_eq_true_eq, h1, h2]
    omega)
  refine ⟨e1, ?_⟩
  rw [e2, hT, Int.toNat_natCast]
  obtain ⟨SW, SH, hsz⟩ := alike_sz hal
  apply List.ext_getElem?
  intro f
  by_cases hf : f < fs.length
  · obtain ⟨i, x, h1, h2, h3⟩ := hix1 f hf
    obtain ⟨j, y, k1, k2, k3⟩ := hix2 f hf
    have hff : fs[f]? = some fs[f] := List.getElem?_eq_getElem hf
    have hx := hmem x (List.mem_of_getElem? h2)
    have hy := hmem y (List.mem_of_getElem? k2)
    unfold restL
    rw [List.getElem?_map, List.getElem?_range hf, Option.map_some, h1, k1, frAt_get (pullL_at h2), frAt_get (pullL_at k2), h3, k3, frAt_get hff, hff]
    congr 1
    exact joinF_back (hsz _ (List.getElem_mem _)) (hsz _ (frAt_mem hy.1 hy.2.1))
  · rw [List.getElem?_eq_none (by simp [restL]; omega), List.getElem?_eq_none (by omega)]
/-- Frames of the film are alike. -/
theorem film_alike {xs : List FA} {s : Nat} (h : ∀ x ∈ xs, SzF x.f s s) (hs : s = 8 ∨ s = 16) : alikeF (frs xs) = true := by
  have key : ∀ g ∈ frs xs, validF g = true ∧ g.W = ((2 * s : Nat) : Int) ∧ g.H = ((2 * s : Nat) : Int) := by
    intro g hg
    obtain ⟨x, hx, rfl⟩ := List.mem_map.1 hg
    have := h x hx
    exact ⟨this.valid (by omega) (by omega) (by omega) (by omega), this.w, this.h⟩
  unfold alikeF
  rw [List.all_eq_true]
  intro g hg
  obtain ⟨k1, k2, k3⟩ := key g hg
  have hd : hdF (frs xs) ∈ frs xs := by
    cases hp : frs xs with
    | nil => rw [hp] at hg; cases hg
    | cons a l => exact List.mem_cons_self ..
  obtain ⟨_, j2, j3⟩ := key _ hd
  simp [okF, k1, k2, k3, j2, j3]
theorem weave_cases (N : Nat) (a b c d : Int) : (weaveR (N : Int) a b c d).2 ≠ 0 ∨ (teleB a b c d = true ∧ weaveR (N : Int) a b c d = (wvL N a b c d, 0) ∧ (wvL N a b c d).length ≤ 256) := by
  unfold weaveR
  split
  · rename_i h
    split
    · exact .inl (by decide)
    · split
      · exact .inl (by decide)
      · rename_i h3
        rw [Int.toNat_natCast] at h3 ⊢
        exact .inr ⟨h.1, rfl, by rw [wvL_len]; omega⟩
  · exact .inl (by decide)
end Go.Proofs.Ytclainbjidajbaa
