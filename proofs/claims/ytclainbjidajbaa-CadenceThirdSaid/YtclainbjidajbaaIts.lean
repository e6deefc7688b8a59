/- A slice of numbers of one kind that reads as a list. -/
import Derived.Test.YtclainbjidajbaaWords2
namespace Go.Proofs.Ytclainbjidajbaa
open Go.RowKit

def Its (k : IntKind) (p : Nat → Prop) (w : World) (A : Option Addr) (n : Nat) (l : List Int) : Prop :=
  l.length = n ∧ (0 < n → ∃ b off, A = some ⟨b, off, none⟩ ∧ p b ∧ ∀ j x, l[j]? = some x → w.cell? ⟨b, off + j, none⟩ = some (.int k x))
section
variable {k : IntKind} {p q : Nat → Prop} {w w' : World} {A : Option Addr} {n : Nat} {l : List Int}
theorem Its.len (h : Its k p w A n l) : l.length = n := h.1
theorem Its.nil : Its k p w A 0 [] := ⟨rfl, fun h => absurd h (by omega)⟩
theorem Its.addr (h : Its k p w A n l) (hk : 0 < n) : ∃ b off, A = some ⟨b, off, none⟩ ∧ p b ∧ b < w.heap.size ∧ ∀ j x, l[j]? = some x → w.cell? ⟨b, off + j, none⟩ = some (.int k x) := by
  obtain ⟨b, off, hA, hp, hc⟩ := h.2 hk
  have h0 : 0 < l.length := by rw [h.1]; exact hk
  exact ⟨b, off, hA, hp, blk_lt (hc 0 l[0] (List.getElem?_eq_getElem h0)), hc⟩
theorem Its.at_ {j : Nat} (h : Its k p w A n l) (hj : j < n) : ∃ b off x, A = some ⟨b, off, none⟩ ∧ p b ∧ b < w.heap.size ∧ l[j]? = some x ∧ w.cell? ⟨b, off + j, none⟩ = some (.int k x) := by
  obtain ⟨b, off, hA, hp, hb, hc⟩ := h.addr (by omega)
  have hl : j < l.length := by rw [h.1]; exact hj
  exact ⟨b, off, l[j], hA, hp, hb, List.getElem?_eq_getElem hl, hc j _ (List.getElem?_eq_getElem hl)⟩
theorem Its.keep (h : Its k p w A n l) (hk : ∀ b, p b → b < w.heap.size → w'.heap[b]? = w.heap[b]?) : Its k p w' A n l := by
  refine ⟨h.1, fun hn => ?_⟩
  obtain ⟨b, off, hA, hp, hb, hc⟩ := h.addr hn
  exact ⟨b, off, hA, hp, fun j x hx => (World.cell?_of_block (hk b hp hb)).trans (hc j x hx)⟩
theorem Its.mono (h : Its k p w A n l) (hpq : ∀ b, b < w.heap.size → p b → q b) : Its k q w A n l := by
  refine ⟨h.1, fun hn => ?_⟩
  obtain ⟨b, off, hA, hp, hb, hc⟩ := h.addr hn
  exact ⟨b, off, hA, hpq b hb hp, hc⟩
theorem Its.ext (h : Its k p w A n l) (hb : Below w.heap.size w w') : Its k p w' A n l := h.keep fun b _ hlt => hb.block b hlt
theorem Its.alloc (h : Its k p w A n l) (o : Obj) : Its k p (w.alloc o) A n l := h.keep fun b _ hlt => Below.heap_alloc w o b hlt
theorem Its.drew (h : Its k p w A n l) : Its k p w.drew A n l := h
theorem Its.setCell (h : Its k p w A n l) {a : Addr} (ha : ¬ p a.block) (u : Value) : Its k p (w.setCell a u) A n l :=
  h.keep fun b hpb _ => Below.heap_setCell w a u b (fun e => ha (e ▸ hpb))
end
end Go.Proofs.Ytclainbjidajbaa
