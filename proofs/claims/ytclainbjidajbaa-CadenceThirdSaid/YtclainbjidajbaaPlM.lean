/- Lists of woven frames; what Pull makes: as data. -/
import Derived.Test.YtclainbjidajbaaSmF
import Derived.Test.YtclainbjidajbaaOrd
namespace Go.Proofs.Ytclainbjidajbaa
open Go.RowKit

def wvCells (ws : List (Int × Int)) : List Value := ws.flatMap fun x => [.int .i64 x.1, .int .i64 x.2]
theorem wvCells_len (ws : List (Int × Int)) : (wvCells ws).length = ws.length * 2 := by
  induction ws with
  | nil => rfl
  | cons a ws ih => simp only [wvCells, List.flatMap_cons, List.length_append, List.length_cons, List.length_nil] at ih ⊢; omega
theorem wvCells_at : ∀ {ws : List (Int × Int)} {k : Nat} {x : Int × Int}, ws[k]? = some x → (wvCells ws)[k * 2]? = some (.int .i64 x.1) ∧ (wvCells ws)[k * 2 + 1]? = some (.int .i64 x.2)
  | [], k, x, h => by simp at h
  | a :: ws, 0, x, h => by
    simp at h
    subst h
    simp [wvCells]
  | a :: ws, k + 1, x, h => by
    have := wvCells_at (ws := ws) (k := k) (x := x) (by simpa using h)
    rw [show (k + 1) * 2 = k * 2 + 2 by omega]
    simpa [wvCells] using this
/-- A slice of woven frames. -/
def Wvs (p : Nat → Prop) (w : World) (A : Option Addr) (m : Nat) (ws : List (Int × Int)) : Prop := ws.length = m ∧ Rw p w A m 2 (wvCells ws)
section
variable {p p' : Nat → Prop} {w w' : World} {A : Option Addr} {m : Nat} {ws : List (Int × Int)}
theorem Wvs.ext (h : Wvs p w A m ws) (hb : Below w.heap.size w w') : Wvs p w' A m ws := ⟨h.1, h.2.ext hb⟩
theorem Wvs.mono (h : Wvs p w A m ws) (h1 : ∀ b, b < w.heap.size → p b → p' b) : Wvs p' w A m ws := ⟨h.1, h.2.mono h1⟩
theorem Wvs.at_ (h : Wvs p w A m ws) {k : Nat} (hk : k < m) : ∃ b off x, A = some ⟨b, off, none⟩ ∧ b < w.heap.size ∧ ws[k]? = some x ∧ w.cell? ⟨b, off + k * 2, none⟩ = some (.int .i64 x.1) ∧ w.cell? ⟨b, off + k * 2 + 1, none⟩ = some (.int .i64 x.2) := by
  obtain ⟨b, off, hA, _, hb, hc⟩ := h.2.addr (by omega)
  have hx : ws[k]? = some (ws[k]'(by have := h.1; omega)) := List.getElem?_eq_getElem _
  obtain ⟨e0, e1⟩ := wvCells_at hx
  have c0 := hc _ _ e0
  have c1 := hc _ _ e1
  rw [← Nat.add_assoc] at c1
  exact ⟨b, off, _, hA, hb, hx, c0, c1⟩
end
def okW (n : Nat) (x : Int × Int) : Bool := decide (0 ≤ x.1 ∧ x.1 < n ∧ 0 ≤ x.2 ∧ x.2 < n)
theorem okW_iff {n : Nat} {x : Int × Int} : okW n x = true ↔ 0 ≤ x.1 ∧ x.1 < n ∧ 0 ≤ x.2 ∧ x.2 < n := by simp [okW]
def pullE (fs : List Fr) (ws : List (Int × Int)) : Int := if alikeF fs = false then 1 else if ws.all (okW fs.length) = false then 1 else if 256 < ws.length then 5 else 0
def frAt (fs : List Fr) (i : Int) : Fr := fs.getD i.toNat ⟨0, 0, [], [], []⟩
def pullL (fs : List Fr) (ws : List (Int × Int)) : List Fr := ws.map fun x => joinF (frAt fs x.1) (frAt fs x.2)
def pullF (fs : List Fr) (ws : List (Int × Int)) : List Fr := if pullE fs ws = 0 then pullL fs ws else []
theorem all_true {α : Type} {l : List α} {f : α → Bool} {n : Nat} (hl : l.length = n) (h : ∀ j x, j < n → l[j]? = some x → f x = true) : l.all f = true := by
  rw [List.all_eq_true]
  intro x hx
  obtain ⟨j, hj⟩ := List.mem_iff_getElem?.1 hx
  exact h j x (by have := (List.getElem?_eq_some_iff.1 hj).1; omega) hj
theorem all_false {α : Type} {l : List α} {f : α → Bool} {j : Nat} {x : α} (hj : l[j]? = some x) (h : f x = false) : l.all f = false := by
  rw [List.all_eq_false]
  exact ⟨x, List.mem_of_getElem? hj, by simp [h]⟩
theorem pull_alike {fs : List Fr} {ws : List (Int × Int)} (h : alikeF fs = false) : pullE fs ws = 1 ∧ pullF fs ws = [] := by
  have e : pullE fs ws = 1 := by unfold pullE; rw [if_pos h]
  exact ⟨e, by unfold pullF; rw [e]; rfl⟩
theorem pull_bad {fs : List Fr} {ws : List (Int × Int)} (h : alikeF fs = true) (h2 : ws.all (okW fs.length) = false) : pullE fs ws = 1 ∧ pullF fs ws = [] := by
  have e : pullE fs ws = 1 := by unfold pullE; rw [if_neg (by simp [h]), if_pos h2]
  exact ⟨e, by unfold pullF; rw [e]; rfl⟩
theorem pull_long {fs : List Fr} {ws : List (Int × Int)} (h : alikeF fs = true) (h2 : ws.all (okW fs.length) = true) (h3 : 256 < ws.length) : pullE fs ws = 5 ∧ pullF fs ws = [] := by
  have e : pullE fs ws = 5 := by unfold pullE; rw [if_neg (by simp [h]), if_neg (by simp [h2]), if_pos h3]
  exact ⟨e, by unfold pullF; rw [e]; rfl⟩
theorem pull_ok {fs : List Fr} {ws : List (Int × Int)} (h : alikeF fs = true) (h2 : ws.all (okW fs.length) = true) (h3 : ws.length ≤ 256) : pullE fs ws = 0 ∧ pullF fs ws = pullL fs ws := by
  have e : pullE fs ws = 0 := by unfold pullE; rw [if_neg (by simp [h]), if_neg (by simp [h2]), if_neg (by omega)]
  exact ⟨e, by unfold pullF; rw [e]; rfl⟩
/-- Frames that are alike have one size. -/
theorem alike_sz {fs : List Fr} (h : alikeF fs = true) : ∃ W H, ∀ f ∈ fs, SzF f W H := by
  cases fs with
  | nil => exact ⟨0, 0, by simp⟩
  | cons a fs =>
    have h0 := List.all_eq_true.1 h
    have ok : ∀ f ∈ a :: fs, validF f = true ∧ f.W = a.W ∧ f.H = a.H := by
      intro f hf
      have := h0 f hf
      simpa [okF, hdF] using this
    obtain ⟨W, H, hs⟩ := SzF.of (ok a (List.mem_cons_self ..)).1
    exact ⟨W, H, fun f hf => hs.same (ok f hf).1 (ok f hf).2.1 (ok f hf).2.2⟩
theorem frAt_of {xs : List FA} {x : FA} {i : Int} {k : Nat} (hi : i = (k : Int)) (h : xs[k]? = some x) : frAt (frs xs) i = x.f := by
  unfold frAt
  rw [hi, Int.toNat_natCast, List.getD_eq_getElem?_getD, frs_at h]
  rfl
/-- What Pull and Restore hand back. -/
def RetPl (w : World) (e0 : Int) (fs : List Fr) (e : Ending) (w' : World) : Prop := ∃ A n c ys, e = .returned (.tuple #[.slice A n c, .int .i64 e0]) ∧ Frs (w.heap.size ≤ ·) (w.heap.size ≤ ·) w' A n ys ∧ frs ys = fs ∧ Below w.heap.size w w' ∧ n ≤ c
theorem own_cap {w : World} {base : Nat} {e : TypeId} {size n c n2 : Nat} {A : Option Addr} {xs : List Value} (h : w.ownsRow base e size (.slice A n c) n2 xs) : n = n2 ∧ n ≤ c := by
  rcases h.2 with ⟨hv, hn⟩ | ⟨g, cap, cur, hv, _, _, hnc, _⟩
  · injection hv with h1 h2 h3; omega
  · injection hv with h1 h2 h3; omega
/-- What is known of the values that come up while a frame is appended. -/
structure PE where
  z : FA
  gb : Nat
  A3 : Option Addr
  c3 : Nat
end Go.Proofs.Ytclainbjidajbaa
namespace Go.Proofs.Ytclainbjidajbaa
open Go.RowKit

def okR (x : Int × Int) : Bool := decide (0 ≤ x.1 ∧ x.1 < 256 ∧ 0 ≤ x.2 ∧ x.2 < 256)
theorem okR_iff {x : Int × Int} : okR x = true ↔ 0 ≤ x.1 ∧ x.1 < 256 ∧ 0 ≤ x.2 ∧ x.2 < 256 := by simp [okR]
/-- The number of frames that the fields name. -/
def topF (ws : List (Int × Int)) : Int := ws.foldl (fun a x => max a (max (x.1 + 1) (x.2 + 1))) 0
theorem topF_snoc (l : List (Int × Int)) (x : Int × Int) : topF (l ++ [x]) = max (topF l) (max (x.1 + 1) (x.2 + 1)) := by simp [topF]
theorem topF_bd : ∀ {l : List (Int × Int)}, (∀ x ∈ l, okR x = true) → 0 ≤ topF l ∧ topF l ≤ 256 := by
  intro l h
  have : ∀ (l : List (Int × Int)) (a : Int), (∀ x ∈ l, okR x = true) → 0 ≤ a → a ≤ 256 → 0 ≤ l.foldl (fun a x => max a (max (x.1 + 1) (x.2 + 1))) a ∧ l.foldl (fun a x => max a (max (x.1 + 1) (x.2 + 1))) a ≤ 256 := by
    intro l
    induction l with
    | nil => intro a _ h1 h2; exact ⟨h1, h2⟩
    | cons y l ih =>
      intro a h h1 h2
      have hy := okR_iff.1 (h y (List.mem_cons_self ..))
      exact ih _ (fun x hx => h x (List.mem_cons_of_mem _ hx)) (by dsimp only; omega) (by dsimp only; omega)
  exact this l 0 h (by omega) (by omega)
/-- The first place where g holds, or -1. -/
def ixS (g : Int × Int → Bool) (l : List (Int × Int)) (k : Nat) : Int := match (l.drop k).findIdx? g with
  | none => -1
  | some i => ((k + i : Nat) : Int)
theorem ixS_step {g : Int × Int → Bool} {l : List (Int × Int)} {k : Nat} {x : Int × Int} (h : l[k]? = some x) : ixS g l k = if g x = true then (k : Int) else ixS g l (k + 1) := by
  obtain ⟨hk, hx⟩ := List.getElem?_eq_some_iff.1 h
  unfold ixS
  rw [List.drop_eq_getElem_cons hk, hx, List.findIdx?_cons]
  cases hg : g x with
  | true => simp
  | false =>
    simp only [Bool.false_eq_true, if_false]
    cases (List.drop (k + 1) l).findIdx? g with
    | none => rfl
    | some i => simp only [Option.map_some]; omega
theorem ixS_end (g : Int × Int → Bool) (l : List (Int × Int)) : ixS g l l.length = -1 := by simp [ixS]
theorem ixS_bd (g : Int × Int → Bool) (l : List (Int × Int)) (k : Nat) : ixS g l k = -1 ∨ (0 ≤ ixS g l k ∧ ixS g l k < l.length) := by
  unfold ixS
  cases h : (List.drop k l).findIdx? g with
  | none => exact .inl rfl
  | some i =>
    have := (List.findIdx?_eq_some_iff_getElem.1 h).1
    rw [List.length_drop] at this
    refine .inr ⟨?_, ?_⟩ <;> simp only <;> omega
theorem ixS_snoc (g : Int × Int → Bool) (l : List (Int × Int)) (x : Int × Int) : ixS g (l ++ [x]) 0 = if ixS g l 0 < 0 then (if g x = true then (l.length : Int) else -1) else ixS g l 0 := by
  unfold ixS
  simp only [List.drop_zero, List.findIdx?_append, Nat.zero_add]
  cases h : l.findIdx? g with
  | none =>
    cases hg : g x <;> simp [List.findIdx?_cons, hg]
  | some i => simp; omega
def gT (f : Int) (x : Int × Int) : Bool := x.1 == f
def gB (f : Int) (x : Int × Int) : Bool := x.2 == f
def hasR (ws : List (Int × Int)) (f : Nat) : Bool := decide (0 ≤ ixS (gT f) ws 0 ∧ 0 ≤ ixS (gB f) ws 0)
def restE (fs : List Fr) (ws : List (Int × Int)) : Int := if fs.length ≠ ws.length then 1 else if alikeF fs = false then 1 else if ws.all okR = false then 1 else if 256 < ws.length then 5 else if (List.range (topF ws).toNat).all (hasR ws) = false then 6 else 0
def restL (fs : List Fr) (ws : List (Int × Int)) (k : Nat) : List Fr := (List.range k).map fun (f : Nat) => joinF (frAt fs (ixS (gT (f : Int)) ws 0)) (frAt fs (ixS (gB (f : Int)) ws 0))
def restF (fs : List Fr) (ws : List (Int × Int)) : List Fr := if restE fs ws = 0 then restL fs ws (topF ws).toNat else []
section
variable {fs : List Fr} {ws : List (Int × Int)}
theorem rest_len (h : fs.length ≠ ws.length) : restE fs ws = 1 ∧ restF fs ws = [] := by
  have e : restE fs ws = 1 := by unfold restE; rw [if_pos h]
  exact ⟨e, by unfold restF; rw [e]; rfl⟩
theorem rest_alike (h : alikeF fs = false) : restE fs ws = 1 ∧ restF fs ws = [] := by
  have e : restE fs ws = 1 := by unfold restE; split <;> simp_all
  exact ⟨e, by unfold restF; rw [e]; rfl⟩
theorem rest_bad (h0 : fs.length = ws.length) (h : alikeF fs = true) (h2 : ws.all okR = false) : restE fs ws = 1 ∧ restF fs ws = [] := by
  have e : restE fs ws = 1 := by unfold restE; rw [if_neg (by omega), if_neg (by simp [h]), if_pos h2]
  exact ⟨e, by unfold restF; rw [e]; rfl⟩
theorem rest_long (h0 : fs.length = ws.length) (h : alikeF fs = true) (h2 : ws.all okR = true) (h3 : 256 < ws.length) : restE fs ws = 5 ∧ restF fs ws = [] := by
  have e : restE fs ws = 5 := by unfold restE; rw [if_neg (by omega), if_neg (by simp [h]), if_neg (by simp [h2]), if_pos h3]
  exact ⟨e, by unfold restF; rw [e]; rfl⟩
theorem rest_lost (h0 : fs.length = ws.length) (h : alikeF fs = true) (h2 : ws.all okR = true) (h3 : ws.length ≤ 256) {f : Nat} (hf : (f : Int) < topF ws) (hm : hasR ws f = false) : restE fs ws = 6 ∧ restF fs ws = [] := by
  have e : restE fs ws = 6 := by
    unfold restE
    rw [if_neg (by omega), if_neg (by simp [h]), if_neg (by simp [h2]), if_neg (by omega), if_pos]
    rw [List.all_eq_false]
    exact ⟨f, List.mem_range.2 (by omega), by simp [hm]⟩
  exact ⟨e, by unfold restF; rw [e]; rfl⟩
theorem rest_ok (h0 : fs.length = ws.length) (h : alikeF fs = true) (h2 : ws.all okR = true) (h3 : ws.length ≤ 256) (hm : ∀ f : Nat, (f : Int) < topF ws → hasR ws f = true) : restE fs ws = 0 ∧ restF fs ws = restL fs ws (topF ws).toNat := by
  have e : restE fs ws = 0 := by
    unfold restE
    rw [if_neg (by omega), if_neg (by simp [h]), if_neg (by simp [h2]), if_neg (by omega), if_neg]
    rw [Bool.not_eq_false, List.all_eq_true]
    intro f hf
    exact hm f (by have := List.mem_range.1 hf; omega)
  exact ⟨e, by unfold restF; rw [if_pos e]⟩
theorem restL_succ (k : Nat) : restL fs ws (k + 1) = restL fs ws k ++ [joinF (frAt fs (ixS (gT k) ws 0)) (frAt fs (ixS (gB k) ws 0))] := by
  simp [restL, List.range_succ]
end
end Go.Proofs.Ytclainbjidajbaa
