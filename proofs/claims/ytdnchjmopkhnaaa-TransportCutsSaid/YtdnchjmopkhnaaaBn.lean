/- A block of numbers of one kind that is known whole; arrays of 64 numbers. -/
import Derived.Test.YtdnchjmopkhnaaaWords2
import Derived.Laws.Rows
namespace Go.Proofs.Ytdnchjmopkhnaaa
open Go.RowKit

/-- The cells of a row of numbers. -/
def rowN (k : IntKind) (l : List Int) : Array Value := (l.map (Value.int k)).toArray
theorem rowN_size (k : IntKind) (l : List Int) : (rowN k l).size = l.length := by simp [rowN]
theorem rowN_one (k : IntKind) (l : List Int) : (rowN k l).all (·.oneCell') = true := by
  rw [Array.all_eq_true_iff_forall_mem]
  intro v hv
  obtain ⟨x, _, rfl⟩ := List.mem_map.1 (by simpa [rowN] using hv)
  rfl
/-- Block g is just the numbers l. -/
def Bn (k : IntKind) (w : World) (e : TypeId) (g : Nat) (l : List Int) : Prop := w.heap[g]? = some (.cells (rowN k l) e (0, 0))
section
variable {k : IntKind} {w w' : World} {g : Nat} {e : TypeId} {l : List Int}
theorem Bn.lt (h : Bn k w e g l) : g < w.heap.size := by
  rcases Nat.lt_or_ge g w.heap.size with hlt | hge
  · exact hlt
  · unfold Bn at h; rw [Array.getElem?_eq_none hge] at h; cases h
theorem Bn.cell (h : Bn k w e g l) (i : Nat) : w.cell? ⟨g, i, none⟩ = (l[i]?).map (Value.int k) := by
  unfold Bn rowN at h
  simp [World.cell?, h]
theorem Bn.cell_some (h : Bn k w e g l) {i : Nat} (hi : i < l.length) : ∃ x, l[i]? = some x ∧ w.cell? ⟨g, i, none⟩ = some (.int k x) :=
  ⟨l[i], List.getElem?_eq_getElem hi, by rw [h.cell, List.getElem?_eq_getElem hi]; rfl⟩
theorem Bn.frozen (h : Bn k w e g l) (i : Nat) : w.frozen? ⟨g, i, none⟩ = false := by
  unfold Bn at h
  simp [World.frozen?, h]
theorem Bn.keep (h : Bn k w e g l) (hk : w'.heap[g]? = w.heap[g]?) : Bn k w' e g l := hk.trans h
theorem Bn.drew (h : Bn k w e g l) : Bn k w.drew e g l := h
theorem Bn.alloc (h : Bn k w e g l) (o : Obj) : Bn k (w.alloc o) e g l := h.keep (Below.heap_alloc w o g h.lt)
theorem Bn.new' (w : World) (k : IntKind) (e : TypeId) (l : List Int) (g : Nat) (hg : g = w.heap.size) : Bn k (w.alloc (.cells (rowN k l) e)) e g l := by subst hg; exact heap_alloc_new w _
theorem Bn.set_ (h : Bn k w e g l) (i : Nat) (x : Int) : Bn k (w.setCell ⟨g, i, none⟩ (.int k x)) e g (l.set i x) := by
  unfold Bn rowN at h ⊢
  simp [World.setCell, Array.getElem?_modify, h]
theorem Bn.far (h : Bn k w e g l) {a : Addr} (ha : g ≠ a.block) (u : Value) : Bn k (w.setCell a u) e g l := h.keep (Below.heap_setCell w a u g ha)
theorem Bn.below {B : Nat} (h : Bn k w e g l) (hb : Below B w w') (hg : g < B) : Bn k w' e g l := h.keep (hb.block g hg)
theorem Bn.ext (h : Bn k w e g l) (hb : Below w.heap.size w w') : Bn k w' e g l := h.keep (hb.block g h.lt)
theorem Bn.row (h : Bn k w e g l) (m : List Int) : Bn k (w.setRow g (rowN k m)) e g m := setRow_heap w g _ _ e (0, 0) h
theorem Bn.rowFar {g' : Nat} {cs : Array Value} (h : Bn k w e g l) (hne : g ≠ g') : Bn k (w.setRow g' cs) e g l := h.keep (setRow_other w g' g cs hne)
theorem Bn.load {P : Program} {ty : TypeId} {d : TypeDesc} (h : Bn k w e g l) (hu : P.underlying ty = some d) (hd : (match d with | .struct _ | .array _ _ => true | _ => false) = true) (hi : (P.info? ty).map (·.size) = some l.length) :
    (loadVar ty ⟨g, 0, none⟩).run P w = .ok (.agg (rowN k l)) w := run_loadVar_row w g e ty _ (0, 0) d h hu hd (by rw [rowN_size]; exact hi)
end
theorem Bx.rowFar {w : World} {g g' : Nat} {t : TypeId} {cs cs' : Array Value} (h : Bx w g t cs) (hne : g ≠ g') : Bx (w.setRow g' cs') g t cs := h.keep (setRow_other w g' g cs' hne)
theorem Byt.rowFar {p : Nat → Prop} {w : World} {A : Option Addr} {n : Nat} {l : List Int} {g : Nat} {cs : Array Value} (h : Byt p w A n l) (hne : ¬ p g) : Byt p (w.setRow g cs) A n l :=
  h.keep fun b hpb _ => setRow_other w g b cs (fun e => hne (e ▸ hpb))
theorem below_row {B : Nat} {w w' : World} {g : Nat} {cs : Array Value} (h : Below B w w') (hg : B ≤ g) : Below B w (w'.setRow g cs) :=
  ⟨h.os, h.tape, h.output, by rw [size_setRow]; exact h.size, fun k hk => (setRow_other w' g k cs (by omega)).trans (h.block k hk)⟩
theorem results_row_tmp {P : Program} {fn : Func} {p q : Tmp} {ty : TypeId} (h : fn.results = #[.cell p ty, .tmp q]) (tmps : Array Value) (w : World) (g : Nat) (v z : Value)
    (hp : tmps.getD p undef = .pointer (some ⟨g, 0, none⟩)) (hq : tmps.getD q undef = z) (hld : (loadVar ty ⟨g, 0, none⟩).run P w = .ok v w) : (results fn tmps).run P w = .ok (.tuple #[v, z]) w := by
  have hp' : tmps[p]?.getD undef = .pointer (some ⟨g, 0, none⟩) := by simpa using hp
  have hq' : tmps[q]?.getD undef = z := by simpa using hq
  simp [results, h, hp', hq', asAddr, hld]
end Go.Proofs.Ytdnchjmopkhnaaa
