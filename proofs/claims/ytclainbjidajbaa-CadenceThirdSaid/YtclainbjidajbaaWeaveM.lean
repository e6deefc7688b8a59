/- Plain lists under Weave; the state of its loops. -/
import Derived.Test.YtclainbjidajbaaCadF
import Derived.Test.YtclainbjidajbaaRowW
namespace Go.Proofs.Ytclainbjidajbaa
open Go.RowKit

def cntF (a b c d : Int) (k : Nat) : Nat := (beforeF ((k : Int) + 1) a b c d - beforeF (k : Int) a b c d).toNat
/-- By field: its film frame. -/
def ownL (g : Nat → Nat) (n : Nat) : List Int := (List.range n).flatMap fun k => List.replicate (g k) (k : Int)
theorem ownL_zero (g : Nat → Nat) : ownL g 0 = [] := rfl
theorem ownL_succ (g : Nat → Nat) (n : Nat) : ownL g (n + 1) = ownL g n ++ List.replicate (g n) (n : Int) := by
  simp [ownL, List.range_succ, List.flatMap_append]
theorem ownL_len (g : Nat → Nat) (B : Nat) (n : Nat) (h : ∀ k, k < n → g k ≤ B) : (ownL g n).length ≤ n * B := by
  induction n with
  | zero => simp [ownL]
  | succ n ih =>
    rw [ownL_succ, List.length_append, List.length_replicate]
    have h1 := ih (fun k hk => h k (by omega))
    have h2 := h n (by omega)
    rw [Nat.add_mul]
    omega
theorem cnt_le {a b c d : Int} (h : teleB a b c d = true) {k : Nat} (hk : k < 256) : cntF a b c d k ≤ 768 := by
  have h1 := before_bd h (show (0 : Int) ≤ (k : Int) + 1 by omega) (by omega)
  have h2 := before_bd h (show (0 : Int) ≤ (k : Int) by omega) (by omega)
  unfold cntF
  omega
def evenL (n : Nat) (l : List Int) : List Int := if l.length % 2 = 0 then l else l ++ [(n : Int) - 1]
def pairsL (l : List Int) (m : Nat) : List (Int × Int) := (List.range m).map fun v => (l.getD (2 * v) 0, l.getD (2 * v + 1) 0)
theorem pairsL_succ (l : List Int) (m : Nat) : pairsL l (m + 1) = pairsL l m ++ [(l.getD (2 * m) 0, l.getD (2 * m + 1) 0)] := by simp [pairsL, List.range_succ]
theorem pairsL_len (l : List Int) (m : Nat) : (pairsL l m).length = m := by simp [pairsL]
def wovC (l : List (Int × Int)) : List Value := l.flatMap fun p => [.int .i64 p.1, .int .i64 p.2]
theorem wovC_snoc (l : List (Int × Int)) (p : Int × Int) : wovC (l ++ [p]) = wovC l ++ [.int .i64 p.1, .int .i64 p.2] := by simp [wovC]
theorem wovC_len (l : List (Int × Int)) : (wovC l).length = l.length * 2 := by
  induction l with
  | nil => rfl
  | cons p l ih => simp only [wovC, List.flatMap_cons, List.length_append, List.length_cons, List.length_nil] at *; omega
def weaveL (n : Nat) (a b c d : Int) : List Int := evenL n (ownL (cntF a b c d) n)
def weaveR (n a b c d : Int) : List (Int × Int) × Int :=
  if teleB a b c d = true ∧ 0 ≤ n then (if 256 < n then ([], 5) else if 256 < (weaveL n.toNat a b c d).length / 2 then ([], 5) else (pairsL (weaveL n.toNat a b c d) ((weaveL n.toNat a b c d).length / 2), 0)) else ([], 1)

/-- What Weave returns: a slice in new memory, and an error. -/
def RetWv (w : World) (r : List (Int × Int) × Int) (e : Ending) (w' : World) : Prop :=
  ∃ A n c, e = .returned (.tuple #[.slice A n c, .int .i64 r.2]) ∧ n = r.1.length ∧ Rw (w.heap.size ≤ ·) w' A n 2 (wovC r.1) ∧ Below w.heap.size w w'

theorem Try.infoI : (Try.prog.info? 3).map (fun i => (i.zero, i.size, i.bytes)) = some (some (.int .i64 0), 1, 8) := by kernel_rfl
theorem Try.infoW : (Try.prog.info? 46).map (fun i => (i.zero, i.size, i.bytes)) = some (some (.agg #[.int .i64 0, .int .i64 0]), 2, 16) := by kernel_rfl

/-- The state of cadence.Weave: four boxes, the list of owners, the result. -/
structure WSt (w : World) (a b c d : Int) (xs : List Int) (A1 : Option Addr) (n1 c1 : Nat) (ys : List Value) (A2 : Option Addr) (n2 c2 : Nat) (wr : World) : Prop where
  l1 : n1 = xs.length
  x0 : Bx wr w.heap.size 40 #[.int .i64 a, .int .i64 b]
  x1 : Bx wr (w.heap.size + 1) 40 #[.int .i64 c, .int .i64 d]
  x2 : Bx wr (w.heap.size + 1 + 1) 34 #[.slice A2 n2 c2]
  x3 : Bx wr (w.heap.size + 1 + 1 + 1) 28 #[.int .i64 0]
  o1 : wr.ownsRow (w.heap.size + 4) 3 1 (.slice A1 n1 c1) n1 (xs.map (Value.int .i64))
  o2 : wr.ownsRow (w.heap.size + 4) 46 2 (.slice A2 n2 c2) n2 ys
  be : Below w.heap.size w wr
section
variable {w wr w1 : World} {a b c d : Int} {xs : List Int} {ys : List Value} {A1 A2 A3 : Option Addr} {n1 c1 n2 c2 n3 c3 : Nat}
theorem WSt.alloc (h : WSt w a b c d xs A1 n1 c1 ys A2 n2 c2 wr) (o : Obj) : WSt w a b c d xs A1 n1 c1 ys A2 n2 c2 (wr.alloc o) :=
  ⟨h.l1, h.x0.alloc o, h.x1.alloc o, h.x2.alloc o, h.x3.alloc o, h.o1.alloc o, h.o2.alloc o, h.be.alloc (by have := h.x0.lt; omega) o⟩
theorem WSt.drew (h : WSt w a b c d xs A1 n1 c1 ys A2 n2 c2 wr) : WSt w a b c d xs A1 n1 c1 ys A2 n2 c2 wr.drew :=
  ⟨h.l1, h.x0, h.x1, h.x2, h.x3, h.o1.drew, h.o2.drew, h.be.drew⟩
theorem WSt.ext (h : WSt w a b c d xs A1 n1 c1 ys A2 n2 c2 wr) (hb : Below wr.heap.size wr w1) : WSt w a b c d xs A1 n1 c1 ys A2 n2 c2 w1 :=
  ⟨h.l1, h.x0.ext hb, h.x1.ext hb, h.x2.ext hb, h.x3.ext hb, own_ext h.o1 hb, own_ext h.o2 hb, h.be.trans (hb.mono (by have := h.x0.lt; omega))⟩
theorem WSt.facts (h : WSt w a b c d xs A1 n1 c1 ys A2 n2 c2 wr) :
    (wr.cell? ⟨w.heap.size, 0, none⟩ = some (.int .i64 a) ∧ wr.cell? ⟨w.heap.size, 1, none⟩ = some (.int .i64 b) ∧ wr.cell? ⟨w.heap.size + 1, 0, none⟩ = some (.int .i64 c) ∧ wr.cell? ⟨w.heap.size + 1, 1, none⟩ = some (.int .i64 d)) ∧
    (wr.cell? ⟨w.heap.size + 1 + 1, 0, none⟩ = some (.slice A2 n2 c2) ∧ wr.frozen? ⟨w.heap.size + 1 + 1, 0, none⟩ = false ∧ wr.frozen? ⟨w.heap.size + 1 + 1 + 1, 0, none⟩ = false ∧ wr.cell? ⟨w.heap.size + 1 + 1 + 1, 0, none⟩ = some (.int .i64 0)) ∧
    w.heap.size < wr.heap.size ∧ w.heap.size + 1 < wr.heap.size ∧ w.heap.size + 1 + 1 < wr.heap.size ∧ w.heap.size + 1 + 1 + 1 < wr.heap.size :=
  ⟨⟨h.x0.cell 0 rfl, h.x0.cell 1 rfl, h.x1.cell 0 rfl, h.x1.cell 1 rfl⟩, ⟨h.x2.cell 0 rfl, h.x2.frozen 0, h.x3.frozen 0, h.x3.cell 0 rfl⟩, h.x0.lt, h.x1.lt, h.x2.lt, h.x3.lt⟩
/-- One owner more. -/
theorem WSt.push1 (h : WSt w a b c d xs A1 n1 c1 ys A2 n2 c2 wr) (x : Int) (ho : w1.ownsRow (w.heap.size + 4) 3 1 (.slice A3 n3 c3) (n1 + 1) (xs.map (Value.int .i64) ++ [.int .i64 x])) (hg : wr.grownBy w1 (Value.slice A1 n1 c1).ownBlock) :
    WSt w a b c d (xs ++ [x]) A3 n3 c3 ys A2 n2 c2 w1 := by
  obtain ⟨A, c, hv⟩ := own_slice ho
  injection hv with hA hn hc
  subst hn
  exact ⟨by simp [h.l1], h.x0.grown hg (own_ne h.o1 (.inl (by omega))), h.x1.grown hg (own_ne h.o1 (.inl (by omega))), h.x2.grown hg (own_ne h.o1 (.inl (by omega))), h.x3.grown hg (own_ne h.o1 (.inl (by omega))),
    by simpa using ho, World.ownsRow.kept h.o2 hg (own_sep h.o2 h.o1 (by decide)), h.be.grown hg h.be.size (fun k hk => by have := (World.ownsRow.lt h.o1 k hk).1; omega)⟩
/-- One frame more: the world in which the row has grown, and its box is written. -/
theorem WSt.push2 (h : WSt w a b c d xs A1 n1 c1 ys A2 n2 c2 wr) (us : List Value) (ho : w1.ownsRow (w.heap.size + 4) 46 2 (.slice A3 n3 c3) (n2 + 1) (ys ++ us)) (hg : wr.grownBy w1 (Value.slice A2 n2 c2).ownBlock) :
    WSt w a b c d xs A1 n1 c1 (ys ++ us) A3 n3 c3 (w1.setCell ⟨w.heap.size + 1 + 1, 0, none⟩ (.slice A3 n3 c3)) := by
  obtain ⟨A, c, hv⟩ := own_slice ho
  injection hv with hA hn hc
  subst hn
  have e2 : Bx w1 (w.heap.size + 1 + 1) 34 #[.slice A2 n2 c2] := h.x2.grown hg (own_ne h.o2 (.inl (by omega)))
  exact ⟨h.l1, (h.x0.grown hg (own_ne h.o2 (.inl (by omega)))).far (by show w.heap.size ≠ w.heap.size + 1 + 1; omega) _, (h.x1.grown hg (own_ne h.o2 (.inl (by omega)))).far (by show w.heap.size + 1 ≠ w.heap.size + 1 + 1; omega) _, e2.set_ 0 _, (h.x3.grown hg (own_ne h.o2 (.inl (by omega)))).far (by show w.heap.size + 1 + 1 + 1 ≠ w.heap.size + 1 + 1; omega) _,
    own_set (World.ownsRow.kept h.o1 hg (own_sep h.o1 h.o2 (by decide))) (by show w.heap.size + 1 + 1 < _; omega), own_set ho (by show w.heap.size + 1 + 1 < _; omega),
    (h.be.grown hg h.be.size (fun k hk => by have := (World.ownsRow.lt h.o2 k hk).1; omega)).setCell (by show w.heap.size ≤ w.heap.size + 1 + 1; omega) _⟩
theorem WSt.grew2 (h : WSt w a b c d xs A1 n1 c1 ys A2 n2 c2 wr) (hg : wr.grownBy w1 (Value.slice A2 n2 c2).ownBlock) :
    w1.cell? ⟨w.heap.size + 1 + 1, 0, none⟩ = some (.slice A2 n2 c2) ∧ w1.frozen? ⟨w.heap.size + 1 + 1, 0, none⟩ = false ∧ w.heap.size + 1 + 1 < w1.heap.size :=
  have e' := h.x2.grown hg (own_ne h.o2 (.inl (by omega)))
  ⟨e'.cell 0 rfl, e'.frozen 0, e'.lt⟩
end

theorem weave_idle (p q : Addr) (w : World) :
    CallsD Try.prog 34 #[.pointer (some p), .pointer (some q)] .returning w fun e u' w' => e = .returned (.tuple #[]) ∧ u' = .returning ∧ w' = w := by
  refine callsD_of_wpS Try.func34 rfl fun c₀ cs hu => ?_
  apply wpS_seq
  apply wpS_region
  simp [wpOpsS, go_sem, recoverD, hu, Try.ntmps34, Exit.thenS]
  refine wpS_cond (t := false) (by simp [Act.eval, Array.replicate]) ?_
  simp only [Bool.false_eq_true, if_false]
  refine wpS_of_wp (wp_skip ?_)
  cases c₀
  simp_all [bodyPostS, results, Try.results34]
end Go.Proofs.Ytclainbjidajbaa
