/- Rows of transport packets and of defects. -/
import Derived.Test.YtdnchjmopkhnaaaTrM
namespace Go.Proofs.Ytdnchjmopkhnaaa
open Go.RowKit

/-- A packet as it lies in memory. -/
structure TA where
  p : TP
  A : Option Addr
  n : Nat
  c : Nat
def TA.cells (k : TA) : List Value := [.int .i64 k.p.pid, .int .i64 k.p.cnt, .bool k.p.st, .int .i64 k.p.clk, .slice k.A k.n k.c]
def tpCells (ps : List TA) : List Value := ps.flatMap TA.cells
def datas (ps : List TA) : List TP := ps.map TA.p
theorem tpCells_len (ps : List TA) : (tpCells ps).length = ps.length * 5 := by
  induction ps with
  | nil => rfl
  | cons a ps ih => simp only [tpCells, List.flatMap_cons, List.length_append, List.length_cons] at ih ⊢; simp only [TA.cells, List.length_cons, List.length_nil]; omega
theorem tpCells_at : ∀ {ps : List TA} {k : Nat} {x : TA}, ps[k]? = some x → (tpCells ps)[k * 5]? = some (.int .i64 x.p.pid) ∧ (tpCells ps)[k * 5 + 1]? = some (.int .i64 x.p.cnt) ∧ (tpCells ps)[k * 5 + 2]? = some (.bool x.p.st) ∧ (tpCells ps)[k * 5 + 3]? = some (.int .i64 x.p.clk) ∧ (tpCells ps)[k * 5 + 4]? = some (.slice x.A x.n x.c)
  | [], k, x, h => by simp at h
  | a :: ps, 0, x, h => by
    simp at h
    subst h
    simp [tpCells, TA.cells]
  | a :: ps, k + 1, x, h => by
    have := tpCells_at (ps := ps) (k := k) (x := x) (by simpa using h)
    rw [show (k + 1) * 5 = k * 5 + 5 by omega]
    simpa [tpCells, TA.cells] using this
theorem tpCells_snoc (ps : List TA) (x : TA) : tpCells (ps ++ [x]) = tpCells ps ++ x.cells := by simp [tpCells]
/-- A slice of packets, each with its payload. -/
def TPks (p q : Nat → Prop) (w : World) (A : Option Addr) (n : Nat) (ps : List TA) : Prop := ps.length = n ∧ Rw p w A n 5 (tpCells ps) ∧ ∀ x ∈ ps, Byt q w x.A x.n x.p.l
section
variable {p q : Nat → Prop} {w w' : World} {A : Option Addr} {n : Nat} {ps : List TA}
theorem TPks.ext (h : TPks p q w A n ps) (hb : Below w.heap.size w w') : TPks p q w' A n ps := ⟨h.1, h.2.1.ext hb, fun x hx => (h.2.2 x hx).ext hb⟩
theorem TPks.alloc (h : TPks p q w A n ps) (o : Obj) : TPks p q (w.alloc o) A n ps := ⟨h.1, h.2.1.alloc o, fun x hx => (h.2.2 x hx).alloc o⟩
theorem TPks.below {B : Nat} (h : TPks p q w A n ps) (hb : Below B w w') (h1 : ∀ b, b < w.heap.size → p b → b < B) (h2 : ∀ b, b < w.heap.size → q b → b < B) : TPks p q w' A n ps :=
  ⟨h.1, h.2.1.below hb h1, fun x hx => (h.2.2 x hx).below hb h2⟩
end

theorem Try.infoTP : (Try.prog.info? 28).map (fun i => (i.zero, i.size, i.bytes)) = some (some (.agg #[.int .i64 0, .int .i64 0, .bool false, .int .i64 0, .slice none 0 0]), 5, 56) := by kernel_rfl
theorem Try.infoTR : (Try.prog.info? 24).map (fun i => (i.zero, i.size, i.bytes)) = some (some (.agg #[.int .i64 0, .int .i64 0, .bool false, .int .i64 0, .slice none 0 0]), 5, 56) := by kernel_rfl
theorem Try.infoDP : (Try.prog.info? 50).map (fun i => (i.zero, i.size, i.bytes)) = some (some (.agg #[.int .i64 0, .int .i64 0]), 2, 16) := by kernel_rfl
theorem Try.infoDR : (Try.prog.info? 51).map (fun i => (i.zero, i.size, i.bytes)) = some (some (.agg #[.int .i64 0, .int .i64 0]), 2, 16) := by kernel_rfl

/-- A row of packets of the call's own; no payload lies in the row's block nor in block ex. -/
def OwnT (w : World) (base : Nat) (T : TypeId) (v : Value) (ex : Option Nat) (ps : List TA) : Prop :=
  w.ownsRow base T 5 v ps.length (tpCells ps) ∧ ∀ x ∈ ps, Byt (fun b => base ≤ b ∧ some b ≠ v.ownBlock ∧ some b ≠ ex) w x.A x.n x.p.l
def dfCells (ds : List (Nat × Nat)) : List Value := ds.flatMap fun d => [.int .i64 (d.1 : Int), .int .i64 (d.2 : Int)]
theorem dfCells_len (ds : List (Nat × Nat)) : (dfCells ds).length = ds.length * 2 := by
  induction ds with
  | nil => rfl
  | cons a ds ih => simp only [dfCells, List.flatMap_cons, List.length_append, List.length_cons, List.length_nil] at ih ⊢; omega
theorem dfCells_snoc (ds : List (Nat × Nat)) (x : Nat × Nat) : dfCells (ds ++ [x]) = dfCells ds ++ [.int .i64 (x.1 : Int), .int .i64 (x.2 : Int)] := by simp [dfCells]
theorem dfCells_at : ∀ {ds : List (Nat × Nat)} {k : Nat} {x : Nat × Nat}, ds[k]? = some x → (dfCells ds)[k * 2]? = some (.int .i64 (x.1 : Int)) ∧ (dfCells ds)[k * 2 + 1]? = some (.int .i64 (x.2 : Int))
  | [], k, x, h => by simp at h
  | a :: ds, 0, x, h => by
    simp at h
    subst h
    simp [dfCells]
  | a :: ds, k + 1, x, h => by
    have := dfCells_at (ds := ds) (k := k) (x := x) (by simpa using h)
    rw [show (k + 1) * 2 = k * 2 + 2 by omega]
    simpa [dfCells] using this
def OwnD (w : World) (base : Nat) (T : TypeId) (v : Value) (ds : List (Nat × Nat)) : Prop := w.ownsRow base T 2 v ds.length (dfCells ds)
section
variable {w w' : World} {base : Nat} {T : TypeId} {v v' : Value} {ex ex' : Option Nat} {ps : List TA}
theorem OwnT.nil : OwnT w base T (.slice none 0 0) ex [] := ⟨World.ownsRow_nil w base T 5, by simp⟩
theorem OwnT.keep {row : Option Nat} (h : OwnT w base T v ex ps) (hg : w.grownBy w' row) (h1 : v.ownBlock = none ∨ v.ownBlock ≠ row) (h2 : ∀ b, b < w.heap.size → base ≤ b → some b ≠ v.ownBlock → some b ≠ ex → some b ≠ row) (h3 : ∀ b, b < w.heap.size → some b ≠ ex → some b ≠ ex') : OwnT w' base T v ex' ps := by
  refine ⟨World.ownsRow.kept h.1 hg h1, fun x hx => ?_⟩
  have hx' := h.2 x hx
  refine ((hx'.mono (q := fun b => b < w.heap.size ∧ base ≤ b ∧ some b ≠ v.ownBlock ∧ some b ≠ ex) (fun b hb hp => ⟨hb, hp⟩)).grown hg (fun b hp => h2 b hp.1 hp.2.1 hp.2.2.1 hp.2.2.2)).mono (fun b _ hp => ⟨hp.2.1, hp.2.2.1, h3 b hp.1 hp.2.2.2⟩)
theorem OwnT.ext (h : OwnT w base T v ex ps) (hb : Below w.heap.size w w') : OwnT w' base T v ex ps :=
  h.keep (row := none) ⟨hb.os, hb.tape, hb.output, hb.size, fun k hk _ => hb.block k hk⟩ (by cases v.ownBlock <;> simp) (fun b _ _ _ _ => by simp) (fun _ _ h => h)
theorem OwnT.alloc (h : OwnT w base T v ex ps) (o : Obj) : OwnT (w.alloc o) base T v ex ps := h.ext ((Below.refl _ _).alloc (Nat.le_refl _) _)
theorem OwnT.setCell (h : OwnT w base T v ex ps) {a : Addr} (ha : a.block < base) (u : Value) : OwnT (w.setCell a u) base T v ex ps :=
  ⟨own_set h.1 ha, fun x hx => (h.2 x hx).setCell (fun hp => by omega) u⟩
theorem OwnT.app {x : TA} (h : OwnT w base T v ex ps) (ho : w'.ownsRow base T 5 v' (ps.length + 1) (tpCells ps ++ x.cells)) (hg : w.grownBy w' v.ownBlock) (ha : v'.ownBlock = v.ownBlock ∨ v'.ownBlock = some w.heap.size)
    (hx : Byt (fun b => base ≤ b ∧ some b ≠ v.ownBlock ∧ some b ≠ ex) w x.A x.n x.p.l) : OwnT w' base T v' ex (ps ++ [x]) := by
  have key : ∀ y : TA, Byt (fun b => base ≤ b ∧ some b ≠ v.ownBlock ∧ some b ≠ ex) w y.A y.n y.p.l → Byt (fun b => base ≤ b ∧ some b ≠ v'.ownBlock ∧ some b ≠ ex) w' y.A y.n y.p.l := by
    intro y hy
    refine ((hy.mono (q := fun b => b < w.heap.size ∧ base ≤ b ∧ some b ≠ v.ownBlock ∧ some b ≠ ex) (fun b hb hp => ⟨hb, hp⟩)).grown hg (fun b hp => hp.2.2.1)).mono (fun b _ hp => ⟨hp.2.1, ?_, hp.2.2.2⟩)
    rcases ha with h1 | h1
    · rw [h1]; exact hp.2.2.1
    · rw [h1]
      intro e
      injection e with e
      have := hp.1
      omega
  refine ⟨by rw [tpCells_snoc, List.length_append]; exact ho, fun y hy => ?_⟩
  rcases List.mem_append.1 hy with hy | hy
  · exact key y (h.2 y hy)
  · rw [List.mem_singleton] at hy
    rw [hy]
    exact key x hx
theorem OwnT.slice (h : OwnT w base T v ex ps) : ∃ A c, v = .slice A ps.length c := by
  obtain ⟨A, c, hv⟩ := own_slice h.1
  exact ⟨A, c, hv⟩
/-- An own row of packets is a slice of packets. -/
theorem OwnT.pks (h : OwnT w base T v ex ps) : ∃ A c, v = .slice A ps.length c ∧ TPks (base ≤ ·) (base ≤ ·) w A ps.length ps := by
  obtain ⟨A, c, hv, hr⟩ := own_rw (p := (base ≤ ·)) h.1 (fun _ h => h)
  exact ⟨A, c, hv, rfl, hr, fun x hx => (h.2 x hx).mono (fun _ _ hp => hp.1)⟩
end

end Go.Proofs.Ytdnchjmopkhnaaa
