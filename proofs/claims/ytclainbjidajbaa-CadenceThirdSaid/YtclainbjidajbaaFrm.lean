/- Rows of frames: as data and in memory. -/
import Derived.Test.YtclainbjidajbaaGen
import Derived.Test.YtclainbjidajbaaOrd
import Derived.Test.YtclainbjidajbaaRatA
namespace Go.Proofs.Ytclainbjidajbaa
open Go.RowKit

/-- A frame as data. -/
structure Fr where
  W : Int
  H : Int
  Y : List Int
  U : List Int
  V : List Int
deriving DecidableEq
/-- A frame as it lies in memory. -/
structure FA where
  f : Fr
  ya : Option Addr
  yn : Nat
  yc : Nat
  ua : Option Addr
  un : Nat
  uc : Nat
  va : Option Addr
  vn : Nat
  vc : Nat
def FA.cells (x : FA) : List Value := [.int .i64 x.f.W, .int .i64 x.f.H, .slice x.ya x.yn x.yc, .slice x.ua x.un x.uc, .slice x.va x.vn x.vc]
def FA.val (x : FA) : Value := .agg #[.int .i64 x.f.W, .int .i64 x.f.H, .slice x.ya x.yn x.yc, .slice x.ua x.un x.uc, .slice x.va x.vn x.vc]
def frCells (xs : List FA) : List Value := xs.flatMap FA.cells
def frs (xs : List FA) : List Fr := xs.map FA.f
theorem frCells_len (xs : List FA) : (frCells xs).length = xs.length * 5 := by
  induction xs with
  | nil => rfl
  | cons a xs ih => simp only [frCells, List.flatMap_cons, List.length_append, List.length_cons] at ih ⊢; simp only [FA.cells, List.length_cons, List.length_nil]; omega
theorem frCells_at : ∀ {xs : List FA} {k : Nat} {x : FA}, xs[k]? = some x → (frCells xs)[k * 5]? = some (.int .i64 x.f.W) ∧ (frCells xs)[k * 5 + 1]? = some (.int .i64 x.f.H) ∧ (frCells xs)[k * 5 + 2]? = some (.slice x.ya x.yn x.yc) ∧ (frCells xs)[k * 5 + 3]? = some (.slice x.ua x.un x.uc) ∧ (frCells xs)[k * 5 + 4]? = some (.slice x.va x.vn x.vc)
  | [], k, x, h => by simp at h
  | a :: xs, 0, x, h => by
    simp at h
    subst h
    simp [frCells, FA.cells]
  | a :: xs, k + 1, x, h => by
    have := frCells_at (xs := xs) (k := k) (x := x) (by simpa using h)
    rw [show (k + 1) * 5 = k * 5 + 5 by omega]
    simpa [frCells, FA.cells] using this
theorem frCells_snoc (xs : List FA) (x : FA) : frCells (xs ++ [x]) = frCells xs ++ x.cells := by simp [frCells]
theorem frCells_app (xs ys : List FA) : frCells (xs ++ ys) = frCells xs ++ frCells ys := by simp [frCells]
theorem frCells_one (xs : List FA) : ∀ u ∈ frCells xs, u.oneCell' = true := by
  intro u hu
  obtain ⟨x, _, hx⟩ := List.mem_flatMap.1 hu
  simp only [FA.cells, List.mem_cons, List.not_mem_nil, or_false] at hx
  rcases hx with rfl | rfl | rfl | rfl | rfl <;> rfl

/-- The planes of a frame in memory. -/
structure FrmOk (q : Nat → Prop) (w : World) (x : FA) : Prop where
  y : Byt q w x.ya x.yn x.f.Y
  u : Byt q w x.ua x.un x.f.U
  v : Byt q w x.va x.vn x.f.V
  cy : x.yn ≤ x.yc
  cu : x.un ≤ x.uc
  cv : x.vn ≤ x.vc
section
variable {p q q' : Nat → Prop} {w w' : World} {x : FA} {A : Option Addr} {n : Nat} {xs : List FA}
theorem FrmOk.keep (h : FrmOk q w x) (hk : ∀ b, q b → b < w.heap.size → w'.heap[b]? = w.heap[b]?) : FrmOk q w' x := ⟨h.y.keep hk, h.u.keep hk, h.v.keep hk, h.cy, h.cu, h.cv⟩
theorem FrmOk.mono (h : FrmOk q w x) (hk : ∀ b, b < w.heap.size → q b → q' b) : FrmOk q' w x := ⟨h.y.mono hk, h.u.mono hk, h.v.mono hk, h.cy, h.cu, h.cv⟩
theorem FrmOk.ext (h : FrmOk q w x) (hb : Below w.heap.size w w') : FrmOk q w' x := h.keep fun b _ hlt => hb.block b hlt
theorem FrmOk.below {B : Nat} (h : FrmOk q w x) (hb : Below B w w') (hp : ∀ b, b < w.heap.size → q b → b < B) : FrmOk q w' x := h.keep fun b hpb hlt => hb.block b (hp b hlt hpb)
theorem FrmOk.alloc (h : FrmOk q w x) (o : Obj) : FrmOk q (w.alloc o) x := h.keep fun b _ hlt => Below.heap_alloc w o b hlt
theorem FrmOk.drew (h : FrmOk q w x) : FrmOk q w.drew x := h.keep fun _ _ _ => rfl
theorem FrmOk.drewN (h : FrmOk q w x) (k : Nat) : FrmOk q (w.drewN k) x := h.keep fun _ _ _ => rfl
theorem FrmOk.grown {row : Option Nat} (h : FrmOk q w x) (hg : w.grownBy w' row) (hp : ∀ b, q b → some b ≠ row) : FrmOk q w' x := h.keep fun b hpb hlt => hg.block b hlt (hp b hpb)
theorem FrmOk.setCell (h : FrmOk q w x) {a : Addr} (ha : ¬ q a.block) (u : Value) : FrmOk q (w.setCell a u) x :=
  h.keep fun b hpb _ => Below.heap_setCell w a u b (fun e => ha (e ▸ hpb))
/-- A slice of frames, each with its planes. -/
def Frs (p q : Nat → Prop) (w : World) (A : Option Addr) (n : Nat) (xs : List FA) : Prop := xs.length = n ∧ Rw p w A n 5 (frCells xs) ∧ ∀ x ∈ xs, FrmOk q w x
theorem Frs.ext (h : Frs p q w A n xs) (hb : Below w.heap.size w w') : Frs p q w' A n xs := ⟨h.1, h.2.1.ext hb, fun x hx => (h.2.2 x hx).ext hb⟩
theorem Frs.alloc (h : Frs p q w A n xs) (o : Obj) : Frs p q (w.alloc o) A n xs := ⟨h.1, h.2.1.alloc o, fun x hx => (h.2.2 x hx).alloc o⟩
theorem Frs.drew (h : Frs p q w A n xs) : Frs p q w.drew A n xs := ⟨h.1, h.2.1.drew, fun x hx => (h.2.2 x hx).drew⟩
theorem Frs.drewN (h : Frs p q w A n xs) (k : Nat) : Frs p q (w.drewN k) A n xs := ⟨h.1, h.2.1.drewN k, fun x hx => (h.2.2 x hx).drewN k⟩
theorem Frs.mono {p' : Nat → Prop} (h : Frs p q w A n xs) (h1 : ∀ b, b < w.heap.size → p b → p' b) (h2 : ∀ b, b < w.heap.size → q b → q' b) : Frs p' q' w A n xs := ⟨h.1, h.2.1.mono h1, fun x hx => (h.2.2 x hx).mono h2⟩
theorem Frs.below {B : Nat} (h : Frs p q w A n xs) (hb : Below B w w') (h1 : ∀ b, b < w.heap.size → p b → b < B) (h2 : ∀ b, b < w.heap.size → q b → b < B) : Frs p q w' A n xs :=
  ⟨h.1, h.2.1.below hb h1, fun x hx => (h.2.2 x hx).below hb h2⟩
theorem Frs.nil : Frs p q w A 0 [] := ⟨rfl, Rw.nil, by simp⟩
theorem Frs.at_ (h : Frs p q w A n xs) {k : Nat} (hk : k < n) :
    ∃ b off x, A = some ⟨b, off, none⟩ ∧ b < w.heap.size ∧ xs[k]? = some x ∧ FrmOk q w x ∧ (w.cell? ⟨b, off + k * 5, none⟩ = some (.int .i64 x.f.W) ∧ w.cell? ⟨b, off + k * 5 + 1, none⟩ = some (.int .i64 x.f.H) ∧ w.cell? ⟨b, off + k * 5 + 2, none⟩ = some (.slice x.ya x.yn x.yc) ∧ w.cell? ⟨b, off + k * 5 + 3, none⟩ = some (.slice x.ua x.un x.uc) ∧ w.cell? ⟨b, off + k * 5 + 4, none⟩ = some (.slice x.va x.vn x.vc)) := by
  obtain ⟨h1, h2, h3⟩ := h
  obtain ⟨b, off, hA, _, hb, hc⟩ := h2.addr (by omega)
  have hx : xs[k]? = some (xs[k]'(by omega)) := List.getElem?_eq_getElem _
  obtain ⟨e0, e1, e2, e3, e4⟩ := frCells_at hx
  have c0 := hc _ _ e0
  have c1 := hc _ _ e1
  have c2 := hc _ _ e2
  have c3 := hc _ _ e3
  have c4 := hc _ _ e4
  rw [← Nat.add_assoc] at c1 c2 c3 c4
  exact ⟨b, off, _, hA, hb, hx, h3 _ (List.getElem_mem _), c0, c1, c2, c3, c4⟩
end

theorem Try.infoF : (Try.prog.info? 27).map (fun i => (i.zero, i.size, i.bytes)) = some (some (.agg #[.int .i64 0, .int .i64 0, .slice none 0 0, .slice none 0 0, .slice none 0 0]), 5, 88) := by kernel_rfl
/-- A row of frames of the call's own; no plane lies in the row's block. -/
def OwnF (q : Nat → Prop) (w : World) (base : Nat) (v : Value) (xs : List FA) : Prop :=
  w.ownsRow base 27 5 v xs.length (frCells xs) ∧ ∀ x ∈ xs, FrmOk (fun b => q b ∧ some b ≠ v.ownBlock) w x
section
variable {q q' : Nat → Prop} {w w' : World} {base : Nat} {v v' : Value} {xs : List FA}
theorem OwnF.nil : OwnF q w base (.slice none 0 0) [] := ⟨World.ownsRow_nil w base _ 5, by simp⟩
theorem OwnF.keep {row : Option Nat} (h : OwnF q w base v xs) (hg : w.grownBy w' row) (h1 : v.ownBlock = none ∨ v.ownBlock ≠ row) (h2 : ∀ b, b < w.heap.size → q b → some b ≠ v.ownBlock → some b ≠ row) : OwnF q w' base v xs := by
  refine ⟨World.ownsRow.kept h.1 hg h1, fun x hx => ?_⟩
  exact ((((h.2 x hx).mono (q' := fun b => b < w.heap.size ∧ q b ∧ some b ≠ v.ownBlock) (fun b hb hp => ⟨hb, hp⟩)).grown hg (fun b hp => h2 b hp.1 hp.2.1 hp.2.2))).mono (fun b _ hp => hp.2)
theorem OwnF.ext (h : OwnF q w base v xs) (hb : Below w.heap.size w w') : OwnF q w' base v xs :=
  h.keep (row := none) ⟨hb.os, hb.tape, hb.output, hb.size, fun k hk _ => hb.block k hk⟩ (by cases v.ownBlock <;> simp) (fun b _ _ _ => by simp)
theorem OwnF.alloc (h : OwnF q w base v xs) (o : Obj) : OwnF q (w.alloc o) base v xs := h.ext ((Below.refl _ _).alloc (Nat.le_refl _) _)
theorem OwnF.setCell (h : OwnF q w base v xs) {a : Addr} (ha : a.block < base) (hq : ¬ q a.block) (u : Value) : OwnF q (w.setCell a u) base v xs :=
  ⟨own_set h.1 ha, fun x hx => (h.2 x hx).setCell (fun hp => hq hp.1) u⟩
theorem OwnF.mono (h : OwnF q w base v xs) (hq : ∀ b, b < w.heap.size → q b → q' b) : OwnF q' w base v xs := ⟨h.1, fun x hx => (h.2 x hx).mono fun b hb hp => ⟨hq b hb hp.1, hp.2⟩⟩
/-- Frames are appended. -/
theorem OwnF.app {ys : List FA} (h : OwnF q w base v xs) (ho : w'.ownsRow base 27 5 v' (xs.length + ys.length) (frCells xs ++ frCells ys)) (hg : w.grownBy w' v.ownBlock) (ha : v'.ownBlock = v.ownBlock ∨ v'.ownBlock = some w.heap.size)
    (hy : ∀ y ∈ ys, FrmOk (fun b => q b ∧ some b ≠ v.ownBlock) w y) : OwnF q w' base v' (xs ++ ys) := by
  have key : ∀ y : FA, FrmOk (fun b => q b ∧ some b ≠ v.ownBlock) w y → FrmOk (fun b => q b ∧ some b ≠ v'.ownBlock) w' y := by
    intro y hy
    refine ((hy.mono (q' := fun b => b < w.heap.size ∧ q b ∧ some b ≠ v.ownBlock) (fun b hb hp => ⟨hb, hp⟩)).grown hg (fun b hp => hp.2.2)).mono (fun b _ hp => ⟨hp.2.1, ?_⟩)
    rcases ha with h1 | h1
    · rw [h1]; exact hp.2.2
    · rw [h1]
      intro e
      injection e with e
      have := hp.1
      omega
  refine ⟨by rw [frCells_app, List.length_append]; exact ho, fun y hy' => ?_⟩
  rcases List.mem_append.1 hy' with h1 | h1
  · exact key y (h.2 y h1)
  · exact key y (hy y h1)
/-- An own row of frames is a slice of frames. -/
theorem OwnF.frs {p : Nat → Prop} (h : OwnF q w base v xs) (hp : ∀ b, base ≤ b → p b) : ∃ A c, v = .slice A xs.length c ∧ Frs p q w A xs.length xs := by
  obtain ⟨A, c, hv, hr⟩ := own_rw (p := p) h.1 hp
  exact ⟨A, c, hv, rfl, hr, fun x hx => (h.2 x hx).mono (fun _ _ hp => hp.1)⟩
end
end Go.Proofs.Ytclainbjidajbaa
