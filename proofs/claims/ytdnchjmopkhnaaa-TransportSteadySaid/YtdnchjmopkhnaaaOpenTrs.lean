/- Opening an argument that is a slice of transport packets. -/
import Derived.Test.YtdnchjmopkhnaaaOpenTr
import Derived.Test.YtdnchjmopkhnaaaTrPk
namespace Go.Proofs.Ytdnchjmopkhnaaa
open Go.ChangeShapes Go.WideShapes Go.ChangeAt Go.RowKit Go.Joins Go.Deep

set_option maxRecDepth 100000 in
theorem open_tpks {H : Type} {enc : TypeId × Value → H} {w : World} {base b0 : Nat} {spare : Nat → Bool} {held : Bool} {r : Reach} {v : Value} {d : DataW H} {p : List MemPlace}
    (hv : Value.okWide Try.prog w r b0 44 v) (h : DataW.Trod enc Try.prog w base spare held 44 v d p) :
    ∃ A n c ps, v = .slice A n c ∧ TPks (fun _ => True) (fun _ => True) w A n ps := by
  have hP : Try.prog.cellsOf 24 = 5 := by kernel_rfl
  obtain ⟨a0, len, cap, rfl⟩ := okWide_slice Try.underlying44 hv
  obtain ⟨fuel, hf⟩ := h
  rcases open_slice Try.underlying44 hf with ⟨hcs, _⟩ | ⟨a, len', cap', m, n, D, Pl, hcs, _, hl, _, hmm, _, hi⟩
  · exact ⟨none, 0, 0, [], by simpa [Value.cells] using hcs, rfl, Rw.nil, by simp⟩
  · have hv0 : Value.slice a0 len cap = .slice (some a) len' cap' := by simpa [Value.cells] using hcs
    injection hv0 with h1 h2 h3
    subst h1 h2 h3
    have hle : len ≤ m := by rw [hmm]; split <;> omega
    have each : ∀ i, i < len → ∃ x : TA, (∀ j y, x.cells[j]? = some y → w.cell? (a.add (i * 5 + j)) = some y) ∧ Byt (fun _ => True) w x.A x.n x.p.l := by
      intro i hil
      obtain ⟨cs', hc, ht⟩ := hi i (by omega)
      rw [hP] at hc
      obtain ⟨pid, cnt, st, clk, A, n1, c1, l, rfl, hb, _⟩ := tp_of_trod ht
      obtain ⟨_, hcl, hat⟩ := World.cells?_some hc
      refine ⟨⟨⟨pid, cnt, st, clk, l⟩, A, n1, c1⟩, fun j y hy => ?_, hb⟩
      have hj : j < 5 := by
        have := (List.getElem?_eq_some_iff.1 hy).1
        simpa [TA.cells] using this
      rw [← Go.Deep.add_add, hat j hj]
      exact hy
    haveI : Inhabited TA := ⟨⟨⟨0, 0, false, 0, []⟩, none, 0, 0⟩⟩
    obtain ⟨X, hX⟩ := choose_lt each
    refine ⟨some a, len, cap, (List.range len).map X, rfl, by simp, ⟨by rw [tpCells_len]; simp, fun hn => ?_⟩, ?_⟩
    · have c0 := (hX 0 hn).1 0 _ rfl
      obtain ⟨b, off, spot⟩ := a
      have hspot : spot = none := by simpa [Addr.add] using World.cell?_spot c0
      subst hspot
      refine ⟨b, off, rfl, trivial, by simpa [Addr.add] using World.block_lt_of_cell? w _ c0, fun j y hy => ?_⟩
      have hjl : j < len * 5 := by
        have := (List.getElem?_eq_some_iff.1 hy).1
        rw [tpCells_len] at this
        simpa using this
      have hxi : ((List.range len).map X)[j / 5]? = some (X (j / 5)) := by rw [List.getElem?_map, List.getElem?_range (by omega)]; rfl
      obtain ⟨e0, e1, e2, e3, e4⟩ := tpCells_at hxi
      have hc := (hX (j / 5) (by omega)).1 (j % 5) y ?_
      · rw [WideShapes.add_plain] at hc
        rwa [show off + (j / 5 * 5 + j % 5) = off + j by omega] at hc
      · rcases (by omega : j % 5 = 0 ∨ j % 5 = 1 ∨ j % 5 = 2 ∨ j % 5 = 3 ∨ j % 5 = 4) with hm | hm | hm | hm | hm <;> rw [hm]
        · rw [show j / 5 * 5 = j by omega, hy] at e0; exact e0.symm ▸ rfl
        · rw [show j / 5 * 5 + 1 = j by omega, hy] at e1; exact e1.symm ▸ rfl
        · rw [show j / 5 * 5 + 2 = j by omega, hy] at e2; exact e2.symm ▸ rfl
        · rw [show j / 5 * 5 + 3 = j by omega, hy] at e3; exact e3.symm ▸ rfl
        · rw [show j / 5 * 5 + 4 = j by omega, hy] at e4; exact e4.symm ▸ rfl
    · intro x hx
      obtain ⟨i, hi', rfl⟩ := List.mem_map.1 hx
      exact (hX i (List.mem_range.1 hi')).2

end Go.Proofs.Ytdnchjmopkhnaaa
