/- Opening an argument that is sound. -/
import Derived.Test.YtcgejbnmbamchaaOpenL
import Derived.Test.YtcgejbnmbamchaaLdW
namespace Go.Proofs.Ytcgejbnmbamchaa
open Go.ChangeShapes Go.WideShapes Go.ChangeAt Go.RowKit Go.Joins Go.Deep

set_option maxRecDepth 100000 in
theorem open_pcm {H : Type} {enc : TypeId × Value → H} {w : World} {base b0 : Nat} {spare : Nat → Bool} {held : Bool} {r : Reach} {v : Value} {d : DataW H} {p : List MemPlace}
    (hv : Value.okWide Try.prog w r b0 22 v) (h : DataW.Trod enc Try.prog w base spare held 22 v d p) :
    ∃ A n c xs, v = .slice A n c ∧ Pcm (fun _ => True) w A n xs ∧ n ≤ maxLen ∧ n ≤ c := by
  have hP : Try.prog.cellsOf 44 = 1 := by kernel_rfl
  have hE : Try.prog.cellsOf 49 = 1 := by kernel_rfl
  obtain ⟨a0, len, cap, rfl⟩ := okWide_slice Try.underlying22 hv
  obtain ⟨fuel, hf⟩ := h
  rcases open_slice Try.underlying22 hf with ⟨hcs, _⟩ | ⟨a, len', cap', m, n, D, Pl, hcs, _, hl, hcm, hmm, _, hi⟩
  · exact ⟨none, 0, 0, [], by simpa [Value.cells] using hcs, ⟨Rw.nil, by simp⟩, Nat.zero_le _, Nat.le_refl _⟩
  · have hv0 : Value.slice a0 len cap = .slice (some a) len' cap' := by simpa [Value.cells] using hcs
    injection hv0 with h1 h2 h3
    subst h1 h2 h3
    have hle : len ≤ m := by rw [hmm]; split <;> omega
    have each : ∀ i, i < len → ∃ x : Ch, w.cell? (a.add (i * 1)) = some x.val ∧ Its .i16 (fun _ => True) w x.A x.n x.l ∧ Smp x.l ∧ x.n ≤ x.c := by
      intro i hil
      obtain ⟨cs', hc, ht⟩ := hi i (by omega)
      rw [hP] at hc
      obtain ⟨_, hcl, hat⟩ := World.cells?_some hc
      obtain ⟨u, rfl⟩ : ∃ u, cs' = [u] := by
        match cs', hcl with
        | [u], _ => exact ⟨u, rfl⟩
      obtain ⟨A, n1, c1, l, rfl, h1, h2, h3, h4⟩ := its_of_trod Try.underlying44 Try.underlying49 hE ht
      refine ⟨⟨A, n1, c1, l⟩, ?_, h1, fun x hx => ?_, h2⟩
      · have := hat 0 (by omega)
        simpa [Addr.add, Ch.val] using this
      · have := h4 x hx
        simp [Lit.wf, IntKind.min, IntKind.max, IntKind.signed, IntKind.bits] at this
        omega
    haveI : Inhabited Ch := ⟨⟨none, 0, 0, []⟩⟩
    obtain ⟨X, hX⟩ := choose_lt each
    refine ⟨some a, len, cap, (List.range len).map X, rfl, ⟨⟨by simp, fun hn => ?_⟩, ?_⟩, ?_, hl⟩
    · have c0 := (hX 0 hn).1
      obtain ⟨b, off, spot⟩ := a
      have hspot : spot = none := by simpa [Addr.add] using World.cell?_spot c0
      subst hspot
      refine ⟨b, off, rfl, trivial, by simpa [Addr.add] using World.block_lt_of_cell? w _ c0, fun j y hy => ?_⟩
      rw [List.getElem?_map, List.getElem?_map] at hy
      have hjl : j < len := by
        rcases Nat.lt_or_ge j len with h | h
        · exact h
        · rw [List.getElem?_eq_none (by simp; omega)] at hy; cases hy
      rw [List.getElem?_range hjl] at hy
      injection hy with hy
      subst hy
      have hc := (hX j hjl).1
      rw [WideShapes.add_plain] at hc
      rwa [show off + j * 1 = off + j by omega] at hc
    · intro x hx
      obtain ⟨i, hi', rfl⟩ := List.mem_map.1 hx
      exact (hX i (List.mem_range.1 hi')).2
    · omega
end Go.Proofs.Ytcgejbnmbamchaa
