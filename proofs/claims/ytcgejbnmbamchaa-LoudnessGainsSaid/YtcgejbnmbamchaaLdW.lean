/- Sound in memory: a row of channels, each a row of samples of 16 bits. -/
import Derived.Test.YtcgejbnmbamchaaProg
import Derived.Test.YtcgejbnmbamchaaRowW
import Derived.Test.YtcgejbnmbamchaaIts
import Derived.Test.YtcgejbnmbamchaaLdM
import Derived.Recover
namespace Go.Proofs.Ytcgejbnmbamchaa
open Go.RowKit

/-- A channel as it lies in memory. -/
structure Ch where
  A : Option Addr
  n : Nat
  c : Nat
  l : List Int
def Ch.val (x : Ch) : Value := .slice x.A x.n x.c
def sndOf (xs : List Ch) : Snd := xs.map Ch.l
/-- The slice (A, n) reads as the channels xs. -/
def Pcm (p : Nat → Prop) (w : World) (A : Option Addr) (n : Nat) (xs : List Ch) : Prop :=
  Rw p w A n 1 (xs.map Ch.val) ∧ ∀ x ∈ xs, Its .i16 p w x.A x.n x.l ∧ Smp x.l ∧ x.n ≤ x.c
section
variable {p q : Nat → Prop} {w w' : World} {A : Option Addr} {n : Nat} {xs : List Ch}
theorem Pcm.len (h : Pcm p w A n xs) : xs.length = n := by simpa using h.1.len
theorem Pcm.slen (h : Pcm p w A n xs) : (sndOf xs).length = n := by simpa [sndOf] using h.len
theorem Pcm.ext (h : Pcm p w A n xs) (hb : Below w.heap.size w w') : Pcm p w' A n xs := ⟨h.1.ext hb, fun x hx => ⟨(h.2 x hx).1.ext hb, (h.2 x hx).2⟩⟩
theorem Pcm.alloc (h : Pcm p w A n xs) (o : Obj) : Pcm p (w.alloc o) A n xs := ⟨h.1.alloc o, fun x hx => ⟨(h.2 x hx).1.alloc o, (h.2 x hx).2⟩⟩
theorem Pcm.setCell (h : Pcm p w A n xs) {a : Addr} (ha : ¬ p a.block) (u : Value) : Pcm p (w.setCell a u) A n xs := ⟨h.1.setCell ha u, fun x hx => ⟨(h.2 x hx).1.setCell ha u, (h.2 x hx).2⟩⟩
theorem Pcm.drew (h : Pcm p w A n xs) : Pcm p w.drew A n xs := h
theorem Pcm.drewN (h : Pcm p w A n xs) (k : Nat) : Pcm p (w.drewN k) A n xs := h
theorem Pcm.mono (h : Pcm p w A n xs) (hpq : ∀ b, b < w.heap.size → p b → q b) : Pcm q w A n xs := ⟨h.1.mono hpq, fun x hx => ⟨(h.2 x hx).1.mono hpq, (h.2 x hx).2⟩⟩
theorem Pcm.below {B : Nat} (h : Pcm p w A n xs) (hb : Below B w w') (hp : ∀ b, b < w.heap.size → p b → b < B) : Pcm p w' A n xs :=
  ⟨h.1.below hb hp, fun x hx => ⟨(h.2 x hx).1.keep (fun b hpb hlt => hb.block b (hp b hlt hpb)), (h.2 x hx).2⟩⟩
theorem Pcm.smp (h : Pcm p w A n xs) : ∀ c ∈ sndOf xs, Smp c := by
  intro c hc
  obtain ⟨x, hx, rfl⟩ := List.mem_map.1 hc
  exact (h.2 x hx).2.1
/-- Channel i. -/
theorem Pcm.at_ {i : Nat} (h : Pcm p w A n xs) (hi : i < n) : ∃ b off x, A = some ⟨b, off, none⟩ ∧ p b ∧ b < w.heap.size ∧ xs[i]? = some x ∧ w.cell? ⟨b, off + i, none⟩ = some (.slice x.A x.n x.c) ∧ Its .i16 p w x.A x.n x.l ∧ Smp x.l ∧ x.n ≤ x.c ∧ (sndOf xs)[i]? = some x.l := by
  obtain ⟨b, off, hA, hp, hb, hc⟩ := h.1.addr (by omega)
  have hl : i < xs.length := by rw [h.len]; exact hi
  have hx : xs[i]? = some xs[i] := List.getElem?_eq_getElem hl
  obtain ⟨h1, h2, h3⟩ := h.2 xs[i] (List.getElem_mem hl)
  exact ⟨b, off, xs[i], hA, hp, hb, hx, hc i _ (by rw [List.getElem?_map, hx]; rfl), h1, h2, h3, by rw [sndOf, List.getElem?_map, hx]; rfl⟩
theorem Pcm.addr (h : Pcm p w A n xs) (hi : 0 < n) : ∃ b off, A = some ⟨b, off, none⟩ ∧ p b ∧ b < w.heap.size ∧ ∀ i x, xs[i]? = some x → w.cell? ⟨b, off + i, none⟩ = some (.slice x.A x.n x.c) := by
  obtain ⟨b, off, hA, hp, hb, hc⟩ := h.1.addr hi
  exact ⟨b, off, hA, hp, hb, fun i x hx => hc i _ (by rw [List.getElem?_map, hx]; rfl)⟩
end
theorem snd_head {xs : List Ch} {x : Ch} (h : xs[0]? = some x) : wide (sndOf xs) = x.l.length := by
  cases xs with
  | nil => simp at h
  | cons a xs => simp at h; subst h; simp [wide, sndOf]
theorem bdrewN {B : Nat} {w W : World} (h : Below B w W) (k : Nat) : Below B w (W.drewN k) := ⟨h.os, h.tape, h.output, h.size, h.block⟩
theorem bset {B : Nat} {w W : World} (h : Below B w W) (a : Addr) (ha : B ≤ a.block) (v : Value) : Below B w (W.setCell a v) := h.setCell ha v
theorem Bx.drewN {w : World} {g : Nat} {t : TypeId} {cs : Array Value} (h : Bx w g t cs) (k : Nat) : Bx (w.drewN k) g t cs := h
end Go.Proofs.Ytcgejbnmbamchaa
