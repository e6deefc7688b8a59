/- A slice of bools; opening an argument that is one. -/
import Derived.Test.YtdnchjmopkhnaaaOpenTr
import Derived.Test.YtdnchjmopkhnaaaWords2
import Derived.OpenShut
namespace Go.Proofs.Ytdnchjmopkhnaaa
open Go.ChangeShapes Go.WideShapes Go.ChangeAt Go.RowKit Go.Joins Go.Deep

def Bls (p : Nat → Prop) (w : World) (A : Option Addr) (n : Nat) (l : List Bool) : Prop :=
  l.length = n ∧ (0 < n → ∃ b off, A = some ⟨b, off, none⟩ ∧ p b ∧ b < w.heap.size ∧ ∀ j x, l[j]? = some x → w.cell? ⟨b, off + j, none⟩ = some (.bool x))
theorem Bls.ext {p : Nat → Prop} {w w' : World} {A : Option Addr} {n : Nat} {l : List Bool} (h : Bls p w A n l) (hb : Below w.heap.size w w') : Bls p w' A n l := by
  refine ⟨h.1, fun hn => ?_⟩
  obtain ⟨b, off, hA, hp, hlt, hc⟩ := h.2 hn
  exact ⟨b, off, hA, hp, Nat.lt_of_lt_of_le hlt hb.size, fun j x hx => (World.cell?_of_block (hb.block b hlt)).trans (hc j x hx)⟩
theorem Bls.low {p : Nat → Prop} {w : World} {A : Option Addr} {n : Nat} {l : List Bool} (h : Bls p w A n l) : Bls (· < w.heap.size) w A n l := by
  refine ⟨h.1, fun hn => ?_⟩
  obtain ⟨b, off, hA, _, hlt, hc⟩ := h.2 hn
  exact ⟨b, off, hA, hlt, hlt, hc⟩
theorem Bls.below {B : Nat} {w w' : World} {A : Option Addr} {n : Nat} {l : List Bool} (h : Bls (· < B) w A n l) (hb : Below B w w') : Bls (· < B) w' A n l := by
  refine ⟨h.1, fun hn => ?_⟩
  obtain ⟨b, off, hA, hp, hlt, hc⟩ := h.2 hn
  exact ⟨b, off, hA, hp, Nat.lt_of_lt_of_le hlt hb.size, fun j x hx => (World.cell?_of_block (hb.block b hp)).trans (hc j x hx)⟩
theorem Bls.at_ {p : Nat → Prop} {w : World} {A : Option Addr} {n j : Nat} {l : List Bool} (h : Bls p w A n l) (hj : j < n) : ∃ b off x, A = some ⟨b, off, none⟩ ∧ p b ∧ b < w.heap.size ∧ l[j]? = some x ∧ w.cell? ⟨b, off + j, none⟩ = some (.bool x) := by
  obtain ⟨b, off, hA, hp, hlt, hc⟩ := h.2 (by omega)
  have hl : j < l.length := by rw [h.1]; exact hj
  exact ⟨b, off, l[j], hA, hp, hlt, List.getElem?_eq_getElem hl, hc j _ (List.getElem?_eq_getElem hl)⟩
set_option maxRecDepth 100000 in
theorem open_bls {H : Type} {enc : TypeId × Value → H} {w : World} {base b0 : Nat} {spare : Nat → Bool} {held : Bool} {r : Reach} {v : Value} {d : DataW H} {p : List MemPlace}
    (hv : Value.okWide Try.prog w r b0 70 v) (h : DataW.Trod enc Try.prog w base spare held 70 v d p) :
    ∃ A n c l, v = .slice A n c ∧ Bls (fun _ => True) w A n l ∧ n ≤ maxLen := by
  have hP : Try.prog.cellsOf 4 = 1 := by kernel_rfl
  obtain ⟨a0, len, cap, rfl⟩ := okWide_slice Try.underlying70 hv
  obtain ⟨fuel, hf⟩ := h
  rcases open_slice Try.underlying70 hf with ⟨hcs, _⟩ | ⟨a, len', cap', m, n, D, Pl, hcs, _, hl, hmx, hmm, _, hi⟩
  · exact ⟨none, 0, 0, [], by simpa [Value.cells] using hcs, ⟨rfl, fun h => absurd h (by omega)⟩, Nat.zero_le _⟩
  · have hv0 : Value.slice a0 len cap = .slice (some a) len' cap' := by simpa [Value.cells] using hcs
    injection hv0 with h1 h2 h3
    subst h1 h2 h3
    have hle : len ≤ m := by rw [hmm]; split <;> omega
    have each : ∀ i, i < len → ∃ x : Bool, w.cell? (a.add i) = some (.bool x) := by
      intro i hil
      obtain ⟨cs', hc, ht⟩ := hi i (by omega)
      rw [hP] at hc
      obtain ⟨x, rfl, _⟩ := DataW.trod_bool Try.underlying4 ht
      obtain ⟨_, hcl, hat⟩ := World.cells?_some hc
      refine ⟨x, ?_⟩
      have := hat 0 (by omega)
      rw [Go.Deep.add_add] at this
      simpa using this
    obtain ⟨X, hX⟩ := choose_lt each
    refine ⟨some a, len, cap, (List.range len).map X, rfl, ⟨by simp, fun hn => ?_⟩, by omega⟩
    have c0 := hX 0 hn
    obtain ⟨b, off, spot⟩ := a
    have hspot : spot = none := by simpa [Addr.add] using World.cell?_spot c0
    subst hspot
    refine ⟨b, off, rfl, trivial, by simpa [Addr.add] using World.block_lt_of_cell? w _ c0, fun j y hy => ?_⟩
    have hjl : j < len := by
      have := (List.getElem?_eq_some_iff.1 hy).1
      simpa using this
    have hc := hX j hjl
    rw [WideShapes.add_plain] at hc
    rw [List.getElem?_map, List.getElem?_range hjl] at hy
    simp at hy
    rw [hc, hy]
end Go.Proofs.Ytdnchjmopkhnaaa
