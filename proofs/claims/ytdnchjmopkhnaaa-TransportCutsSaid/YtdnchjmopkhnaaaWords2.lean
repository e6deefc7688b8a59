/- More words for memory: a block of cells that is known whole (a boxed variable). No condition. -/
import Derived.Test.YtdnchjmopkhnaaaWords
namespace Go.Proofs.Ytdnchjmopkhnaaa
open Go.RowKit

/-- Block g is just the cells cs, of element type t, none frozen. -/
def Bx (w : World) (g : Nat) (t : TypeId) (cs : Array Value) : Prop := w.heap[g]? = some (.cells cs t (0, 0))
section
variable {w w' : World} {g : Nat} {t : TypeId} {cs : Array Value}
theorem Bx.lt (h : Bx w g t cs) : g < w.heap.size := by
  rcases Nat.lt_or_ge g w.heap.size with hlt | hge
  · exact hlt
  · unfold Bx at h; rw [Array.getElem?_eq_none hge] at h; cases h
theorem Bx.cell (h : Bx w g t cs) (i : Nat) {v : Value} (hv : cs[i]? = some v) : w.cell? ⟨g, i, none⟩ = some v := by
  unfold Bx at h
  simp [World.cell?, h, hv]
theorem Bx.frozen (h : Bx w g t cs) (i : Nat) : w.frozen? ⟨g, i, none⟩ = false := by
  unfold Bx at h
  simp [World.frozen?, h]
theorem Bx.new (w : World) (t : TypeId) (cs : Array Value) : Bx (w.alloc (.cells cs t)) w.heap.size t cs := heap_alloc_new w _
theorem Bx.new' (w : World) (t : TypeId) (cs : Array Value) (k : Nat) (hk : k = w.heap.size) : Bx (w.alloc (.cells cs t)) k t cs := by subst hk; exact heap_alloc_new w _
theorem Bx.keep (h : Bx w g t cs) (hk : w'.heap[g]? = w.heap[g]?) : Bx w' g t cs := hk.trans h
theorem Bx.drew (h : Bx w g t cs) : Bx w.drew g t cs := h
theorem Bx.alloc (h : Bx w g t cs) (o : Obj) : Bx (w.alloc o) g t cs := h.keep (Below.heap_alloc w o g h.lt)
theorem Bx.far (h : Bx w g t cs) {a : Addr} (ha : g ≠ a.block) (u : Value) : Bx (w.setCell a u) g t cs := h.keep (Below.heap_setCell w a u g ha)
theorem Bx.set_ (h : Bx w g t cs) (i : Nat) (u : Value) : Bx (w.setCell ⟨g, i, none⟩ u) g t (cs.setIfInBounds i u) := by
  unfold Bx at h ⊢
  simp [World.setCell, Array.getElem?_modify, h]
theorem Bx.ext (h : Bx w g t cs) (hb : Below w.heap.size w w') : Bx w' g t cs := h.keep (hb.block g h.lt)
theorem Bx.below {B : Nat} (h : Bx w g t cs) (hb : Below B w w') (hg : g < B) : Bx w' g t cs := h.keep (hb.block g hg)
theorem Bx.grown {row : Option Nat} (h : Bx w g t cs) (hb : w.grownBy w' row) (hg : some g ≠ row) : Bx w' g t cs := h.keep (hb.block g h.lt hg)
theorem Bx.ne_bk {e : TypeId} {g' : Nat} {l : List Int} (h : Bx w g t cs) (h' : Bk w e g' l) (hne : t ≠ e) : g ≠ g' := by
  rintro rfl
  unfold Bx at h
  unfold Bk at h'
  rw [h] at h'
  injection h' with h'
  injection h' with _ ht
  exact hne ht
theorem Bx.cells5 {a0 a1 a2 a3 a4 : Value} (h : Bx w g t #[a0, a1, a2, a3, a4]) :
    w.cell? ⟨g, 0, none⟩ = some a0 ∧ w.cell? ⟨g, 1, none⟩ = some a1 ∧ w.cell? ⟨g, 2, none⟩ = some a2 ∧ w.cell? ⟨g, 3, none⟩ = some a3 ∧ w.cell? ⟨g, 4, none⟩ = some a4 :=
  ⟨h.cell 0 rfl, h.cell 1 rfl, h.cell 2 rfl, h.cell 3 rfl, h.cell 4 rfl⟩
end
/-- min and max of two and three integers, as omega reads them. -/
theorem run_min_mm {P : Program} {w : World} (ts : Array TypeId) (t : TypeId) (k k' : IntKind) (x y : Int) : (Builtin.min_ ts t #[.int k x, .int k' y]).run P w = .ok (.int k (min x y)) w := by
  rw [run_min_int2, show (if y < x then y else x) = min x y by split <;> omega]
theorem run_max_mm {P : Program} {w : World} (ts : Array TypeId) (t : TypeId) (k k' : IntKind) (x y : Int) : (Builtin.max_ ts t #[.int k x, .int k' y]).run P w = .ok (.int k (max x y)) w := by
  rw [run_max_int2, show (if y > x then y else x) = max x y by split <;> omega]
theorem run_max_mm3 {P : Program} {w : World} (ts : Array TypeId) (t : TypeId) (k k' k'' : IntKind) (x y z : Int) : (Builtin.max_ ts t #[.int k x, .int k' y, .int k'' z]).run P w = .ok (.int k (max (max x y) z)) w := by
  rw [run_max_int3]
  congr 2
  split <;> split <;> omega
theorem i64_and_one (x : Int) : bits .and .i64 x 1 = x % 2 := by
  show IntKind.i64.wrap ((BitVec.ofInt 64 x &&& BitVec.ofInt 64 1).toNat : Int) = _
  have h1 : (BitVec.ofInt 64 x &&& BitVec.ofInt 64 1).toNat = (x % 2).toNat := by
    rw [BitVec.toNat_and, show (BitVec.ofInt 64 1).toNat = 1 from rfl, Nat.and_one_is_mod, BitVec.toNat_ofInt]
    omega
  rw [h1, IntKind.wrap_i64]
  omega
theorem Bk.ne {w : World} {e : TypeId} {g g' : Nat} {l l' : List Int} (h : Bk w e g l) (h' : Bk w e g' l') (hl : l.length ≠ l'.length) : g ≠ g' := by
  rintro rfl
  unfold Bk at h h'
  rw [h] at h'
  injection h' with h'
  injection h' with h1
  apply hl
  have := congrArg Array.size h1
  simpa using this
end Go.Proofs.Ytdnchjmopkhnaaa
