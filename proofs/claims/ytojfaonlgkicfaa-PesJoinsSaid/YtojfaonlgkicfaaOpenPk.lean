/- Opening an argument that is a slice of packets. -/
import Derived.Test.YtojfaonlgkicfaaOpenN
import Derived.Test.YtojfaonlgkicfaaJoinP
namespace Go.Proofs.Ytojfaonlgkicfaa
open Go.ChangeShapes Go.WideShapes Go.ChangeAt Go.RowKit Go.Joins Go.Deep

theorem len4 {α : Type} : ∀ {l : List α}, l.length = 4 → ∃ a b c d, l = [a, b, c, d]
  | [a, b, c, d], _ => ⟨a, b, c, d, rfl⟩

set_option maxRecDepth 100000 in
/-- The four cells of a packet that reads. -/
theorem pk_of_trod {H : Type} {enc : TypeId × Value → H} {w : World} {base fuel : Nat} {spare : Nat → Bool} {held : Bool} {cs : List Value} {y : DataW H × List MemPlace}
    (h : DataW.trod enc Try.prog w base spare held fuel 29 cs = some y) : ∃ x : Pk, cs = x.cells ∧ Byt (fun _ => True) w x.A x.n x.l ∧ x.n ≤ x.c := by
  have hE : Try.prog.cellsOf 5 = 1 := by kernel_rfl
  have hS : Try.prog.cellsOf 27 = 1 := by kernel_rfl
  have hI : Try.prog.cellsOf 3 = 1 := by kernel_rfl
  have hL : Try.prog.cellsOf 2 = 1 := by kernel_rfl
  have hP : Try.prog.cellsOf 29 = 4 := by kernel_rfl
  obtain ⟨xs, n, _, _, hlen, hxl, hg⟩ := DataW.trod_struct Try.underlying29 h
  rw [hP] at hlen
  obtain ⟨c0, c1, c2, c3, rfl⟩ := len4 hlen
  obtain ⟨y0, y1, y2, y3, rfl⟩ := len4 hxl
  have g0 := hg 0 _ rfl
  have g1 := hg 1 _ rfl
  have g2 := hg 2 _ rfl
  have g3 := hg 3 _ rfl
  simp [hS, hI, hL] at g0 g1 g2 g3
  obtain ⟨a0, q0, _, _⟩ := DataW.trod_int Try.underlying3 g0
  obtain ⟨a1, q1, _, _⟩ := DataW.trod_int Try.underlying2 g1
  obtain ⟨a2, q2, _, _⟩ := DataW.trod_int Try.underlying2 g2
  obtain ⟨A, m, c, l, q3, hb⟩ := byt_of_trod Try.underlying27 Try.underlying5 hE g3
  simp at q0 q1 q2
  subst q0 q1 q2 q3
  refine ⟨⟨a0, a1, a2, A, m, c, l⟩, rfl, hb, ?_⟩
  rcases open_slice Try.underlying27 g3 with ⟨hcs, _⟩ | ⟨_, _, _, _, _, _, _, hcs, _, hle, _⟩
  · simp at hcs; simp [hcs]
  · simp at hcs
    show m ≤ c
    rw [hcs.2.1, hcs.2.2]; exact hle

set_option maxRecDepth 100000 in
theorem open_pks {H : Type} {enc : TypeId × Value → H} {w : World} {base b0 : Nat} {spare : Nat → Bool} {held : Bool} {r : Reach} {v : Value} {d : DataW H} {p : List MemPlace}
    (hv : Value.okWide Try.prog w r b0 25 v) (h : DataW.Trod enc Try.prog w base spare held 25 v d p) :
    ∃ A n c ps, v = .slice A n c ∧ Pks (fun _ => True) (fun _ => True) w A n ps := by
  have hP : Try.prog.cellsOf 29 = 4 := by kernel_rfl
  obtain ⟨a0, len, cap, rfl⟩ := okWide_slice Try.underlying25 hv
  obtain ⟨fuel, hf⟩ := h
  rcases open_slice Try.underlying25 hf with ⟨hcs, _⟩ | ⟨a, len', cap', m, n, D, Pl, hcs, _, hl, _, hmm, _, hi⟩
  · exact ⟨none, 0, 0, [], by simpa [Value.cells] using hcs, rfl, Rw.nil, by simp⟩
  · have hv0 : Value.slice a0 len cap = .slice (some a) len' cap' := by simpa [Value.cells] using hcs
    injection hv0 with h1 h2 h3
    subst h1 h2 h3
    have hle : len ≤ m := by rw [hmm]; split <;> omega
    have each : ∀ i, i < len → ∃ x : Pk, (∀ j y, x.cells[j]? = some y → w.cell? (a.add (i * 4 + j)) = some y) ∧ Byt (fun _ => True) w x.A x.n x.l := by
      intro i hil
      obtain ⟨cs', hc, ht⟩ := hi i (by omega)
      rw [hP] at hc
      obtain ⟨x, rfl, hb, _⟩ := pk_of_trod ht
      obtain ⟨_, hcl, hat⟩ := World.cells?_some hc
      refine ⟨x, fun j y hy => ?_, hb⟩
      have hj : j < 4 := by
        have := (List.getElem?_eq_some_iff.1 hy).1
        simpa [Pk.cells] using this
      rw [← Go.Deep.add_add, hat j hj, hy]
    haveI : Inhabited Pk := ⟨⟨0, 0, 0, none, 0, 0, []⟩⟩
    obtain ⟨X, hX⟩ := choose_lt each
    refine ⟨some a, len, cap, (List.range len).map X, rfl, by simp, ⟨by rw [pkCells_len]; simp, fun hn => ?_⟩, ?_⟩
    · have c0 := (hX 0 hn).1 0 _ rfl
      obtain ⟨b, off, spot⟩ := a
      have hspot : spot = none := by simpa [Addr.add] using World.cell?_spot c0
      subst hspot
      refine ⟨b, off, rfl, trivial, by simpa [Addr.add] using World.block_lt_of_cell? w _ c0, fun j y hy => ?_⟩
      have hjl : j < len * 4 := by
        have := (List.getElem?_eq_some_iff.1 hy).1
        rw [pkCells_len] at this
        simpa using this
      have hxi : ((List.range len).map X)[j / 4]? = some (X (j / 4)) := by rw [List.getElem?_map, List.getElem?_range (by omega)]; rfl
      obtain ⟨e0, e1, e2, e3⟩ := pkCells_at hxi
      have hc := (hX (j / 4) (by omega)).1 (j % 4) y ?_
      · rw [WideShapes.add_plain] at hc
        rwa [show off + (j / 4 * 4 + j % 4) = off + j by omega] at hc
      · rcases (by omega : j % 4 = 0 ∨ j % 4 = 1 ∨ j % 4 = 2 ∨ j % 4 = 3) with hm | hm | hm | hm <;> rw [hm]
        · rw [show j / 4 * 4 = j by omega, hy] at e0; exact e0.symm ▸ rfl
        · rw [show j / 4 * 4 + 1 = j by omega, hy] at e1; exact e1.symm ▸ rfl
        · rw [show j / 4 * 4 + 2 = j by omega, hy] at e2; exact e2.symm ▸ rfl
        · rw [show j / 4 * 4 + 3 = j by omega, hy] at e3; exact e3.symm ▸ rfl
    · intro x hx
      obtain ⟨i, hi', rfl⟩ := List.mem_map.1 hx
      exact (hX i (List.mem_range.1 hi')).2

end Go.Proofs.Ytojfaonlgkicfaa
