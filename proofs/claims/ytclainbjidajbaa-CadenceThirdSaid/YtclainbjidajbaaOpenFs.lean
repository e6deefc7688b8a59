/- Opening an argument that is a slice of frames, of woven frames. -/
import Derived.Test.YtclainbjidajbaaOpenN
import Derived.Test.YtclainbjidajbaaPlM
import Derived.Test.YtclainbjidajbaaIts
import Derived.SizedLaws
namespace Go.Proofs.Ytclainbjidajbaa
open Go.ChangeShapes Go.WideShapes Go.ChangeAt Go.RowKit Go.Joins Go.Deep

theorem wf64 {x : Int} (h : (Lit.int .i64 x).wf = true) : -9223372036854775808 ≤ x ∧ x ≤ 9223372036854775807 := by
  simp [Lit.wf, IntKind.min, IntKind.max, IntKind.signed, IntKind.bits] at h
  omega
/-- A slice of bytes that reads, as a list, with its capacity. -/
theorem bytk_of_trod {H : Type} {enc : TypeId × Value → H} {P : Program} {w : World} {base : Nat} {spare : Nat → Bool} {held : Bool} {t e : TypeId} {fuel : Nat} {v : Value} {x : DataW H × List MemPlace} (ht : P.underlying t = some (.slice e)) (he : P.underlying e = some (.int .u8)) (hc : P.cellsOf e = 1)
    (h : DataW.trod enc P w base spare held fuel t [v] = some x) : ∃ A n c l, v = .slice A n c ∧ Byt (fun _ => True) w A n l ∧ n ≤ c := by
  obtain ⟨A, n, c, l, rfl, hb⟩ := byt_of_trod ht he hc h
  refine ⟨A, n, c, l, rfl, hb, ?_⟩
  rcases open_ints ht he hc h with ⟨hcs, _⟩ | ⟨a, len, cap, zs, hcs, _, hl, _⟩
  · simp at hcs; omega
  · simp at hcs; omega
set_option maxRecDepth 100000 in
/-- The five cells of a frame that reads. -/
theorem fa_of_trod {H : Type} {enc : TypeId × Value → H} {w : World} {base fuel : Nat} {spare : Nat → Bool} {held : Bool} {cs : List Value} {y : DataW H × List MemPlace}
    (h : DataW.trod enc Try.prog w base spare held fuel 27 cs = some y) :
    ∃ x : FA, cs = x.cells ∧ FrmOk (fun _ => True) w x := by
  have hE : Try.prog.cellsOf 5 = 1 := by kernel_rfl
  have hS : Try.prog.cellsOf 25 = 1 := by kernel_rfl
  have hI : Try.prog.cellsOf 3 = 1 := by kernel_rfl
  have hP : Try.prog.cellsOf 27 = 5 := by kernel_rfl
  obtain ⟨xs, n, _, _, hlen, hxl, hg⟩ := DataW.trod_struct Try.underlying27 h
  rw [hP] at hlen
  match cs, hlen, xs, hxl with
  | [c0, c1, c2, c3, c4], _, [y0, y1, y2, y3, y4], _ =>
    have g0 := hg 0 _ rfl
    have g1 := hg 1 _ rfl
    have g2 := hg 2 _ rfl
    have g3 := hg 3 _ rfl
    have g4 := hg 4 _ rfl
    simp [hS, hI] at g0 g1 g2 g3 g4
    obtain ⟨a0, q0, _, f0⟩ := DataW.trod_int Try.underlying3 g0
    obtain ⟨a1, q1, _, f1⟩ := DataW.trod_int Try.underlying3 g1
    obtain ⟨A2, m2, k2, l2, q2, h2, e2⟩ := bytk_of_trod Try.underlying25 Try.underlying5 hE g2
    obtain ⟨A3, m3, k3, l3, q3, h3, e3⟩ := bytk_of_trod Try.underlying25 Try.underlying5 hE g3
    obtain ⟨A4, m4, k4, l4, q4, h4, e4⟩ := bytk_of_trod Try.underlying25 Try.underlying5 hE g4
    simp at q0 q1
    subst q0 q1 q2 q3 q4
    exact ⟨⟨⟨a0, a1, l2, l3, l4⟩, A2, m2, k2, A3, m3, k3, A4, m4, k4⟩, rfl, h2, h3, h4, e2, e3, e4⟩

/-- How long the data of a slice is. -/
def DLen {H : Type} (d : DataW H) (n : Nat) : Prop := n = 0 ∨ ∃ el sp, d = .slice el sp ∧ el.length = n

theorem open_itk {H : Type} {enc : TypeId × Value → H} {w : World} {base b0 : Nat} {spare : Nat → Bool} {held : Bool} {r : Reach} {v : Value} {d : DataW H} {p : List MemPlace}
    (hv : Value.okWide Try.prog w r b0 22 v) (h : DataW.Trod enc Try.prog w base spare held 22 v d p) :
    ∃ A n c l, v = .slice A n c ∧ Its .i64 (fun _ => True) w A n l ∧ ∀ x ∈ l, -9223372036854775808 ≤ x ∧ x ≤ 9223372036854775807 := by
  obtain ⟨a0, len, cap, rfl⟩ := okWide_slice Try.underlying22 hv
  obtain ⟨fuel, hf⟩ := h
  rcases open_ints Try.underlying22 Try.underlying3 (by kernel_rfl) hf with ⟨hcs, _⟩ | ⟨a, len', cap', zs, hcs, _, hl, hm, hz, _, hcell, hwz⟩
  · exact ⟨none, 0, 0, [], by simpa [Value.cells] using hcs, Its.nil, by simp⟩
  · have hv0 : Value.slice a0 len cap = .slice (some a) len' cap' := by simpa [Value.cells] using hcs
    injection hv0 with h1 h2 h3
    subst h1 h2 h3
    have hle : len ≤ zs.length := by rw [hz]; split <;> omega
    refine ⟨some a, len, cap, zs.take len, rfl, ⟨by simp; omega, ?_⟩, fun z hz => wf64 (hwz z (List.mem_of_mem_take hz))⟩
    intro hn
    obtain ⟨b, off, rfl, hc'⟩ := ints_at hcell (by omega)
    refine ⟨b, off, rfl, trivial, fun j x hx => ?_⟩
    rw [List.getElem?_take] at hx
    split at hx
    · rename_i hj
      rw [hc' j (by omega), List.getD_eq_getElem?_getD, hx]
      rfl
    · cases hx

set_option maxRecDepth 100000 in
theorem open_frs {H : Type} {enc : TypeId × Value → H} {w : World} {base b0 : Nat} {spare : Nat → Bool} {held : Bool} {r : Reach} {v : Value} {d : DataW H} {p : List MemPlace}
    (hv : Value.okWide Try.prog w r b0 23 v) (h : DataW.Trod enc Try.prog w base spare held 23 v d p) :
    ∃ A n c xs, v = .slice A n c ∧ Frs (fun _ => True) (fun _ => True) w A n xs ∧ n ≤ c ∧ c ≤ maxLen ∧ DLen d n := by
  have hP : Try.prog.cellsOf 27 = 5 := by kernel_rfl
  obtain ⟨a0, len, cap, rfl⟩ := okWide_slice Try.underlying23 hv
  obtain ⟨fuel, hf⟩ := h
  rcases open_slice Try.underlying23 hf with ⟨hcs, _⟩ | ⟨a, len', cap', m, n, D, Pl, hcs, _, hl, hcm, hmm, hd, hi⟩
  · exact ⟨none, 0, 0, [], by simpa [Value.cells] using hcs, Frs.nil, Nat.le_refl _, Nat.zero_le _, .inl rfl⟩
  · have hv0 : Value.slice a0 len cap = .slice (some a) len' cap' := by simpa [Value.cells] using hcs
    injection hv0 with h1 h2 h3
    subst h1 h2 h3
    have hle : len ≤ m := by rw [hmm]; split <;> omega
    have each : ∀ i, i < len → ∃ x : FA, (∀ j y, x.cells[j]? = some y → w.cell? (a.add (i * 5 + j)) = some y) ∧ FrmOk (fun _ => True) w x := by
      intro i hil
      obtain ⟨cs', hc, ht⟩ := hi i (by omega)
      rw [hP] at hc
      obtain ⟨x, rfl, hb⟩ := fa_of_trod ht
      obtain ⟨_, hcl, hat⟩ := World.cells?_some hc
      refine ⟨x, fun j y hy => ?_, hb⟩
      have hj : j < 5 := by
        have := (List.getElem?_eq_some_iff.1 hy).1
        simpa [FA.cells] using this
      rw [← Go.Deep.add_add, hat j hj]
      exact hy
    haveI : Inhabited FA := ⟨⟨⟨0, 0, [], [], []⟩, none, 0, 0, none, 0, 0, none, 0, 0⟩⟩
    obtain ⟨X, hX⟩ := choose_lt each
    refine ⟨some a, len, cap, (List.range len).map X, rfl, ⟨by simp, ⟨by rw [frCells_len]; simp, fun hn => ?_⟩, ?_⟩, hl, hcm, .inr ⟨_, _, (Prod.mk.inj hd).1, by simp⟩⟩
    · have c0 := (hX 0 hn).1 0 _ rfl
      obtain ⟨b, off, spot⟩ := a
      have hspot : spot = none := by simpa [Addr.add] using World.cell?_spot c0
      subst hspot
      refine ⟨b, off, rfl, trivial, by simpa [Addr.add] using World.block_lt_of_cell? w _ c0, fun j y hy => ?_⟩
      have hjl : j < len * 5 := by
        have := (List.getElem?_eq_some_iff.1 hy).1
        rw [frCells_len] at this
        simpa using this
      have hxi : ((List.range len).map X)[j / 5]? = some (X (j / 5)) := by rw [List.getElem?_map, List.getElem?_range (by omega)]; rfl
      obtain ⟨e0, e1, e2, e3, e4⟩ := frCells_at hxi
      have hc := (hX (j / 5) (by omega)).1 (j % 5) y ?_
      · rw [WideShapes.add_plain] at hc
        rwa [show off + (j / 5 * 5 + j % 5) = off + j by omega] at hc
      · rcases (by omega : j % 5 = 0 ∨ j % 5 = 1 ∨ j % 5 = 2 ∨ j % 5 = 3 ∨ j % 5 = 4) with hm | hm | hm | hm | hm <;> rw [hm]
        · rw [show j / 5 * 5 = j by omega, hy] at e0; exact e0.symm ▸ rfl
        · rw [show j / 5 * 5 + 1 = j by omega, hy] at e1; exact e1.symm ▸ rfl
        · rw [show j / 5 * 5 + 2 = j by omega, hy] at e2; exact e2.symm ▸ rfl
        · rw [show j / 5 * 5 + 3 = j by omega, hy] at e3; exact e3.symm ▸ rfl
        · rw [show j / 5 * 5 + 4 = j by omega, hy] at e4; exact e4.symm ▸ rfl
    · intro x hx
      obtain ⟨i, hi', rfl⟩ := List.mem_map.1 hx
      exact (hX i (List.mem_range.1 hi')).2

set_option maxRecDepth 100000 in
theorem open_wvs {H : Type} {enc : TypeId × Value → H} {w : World} {base b0 : Nat} {spare : Nat → Bool} {held : Bool} {r : Reach} {v : Value} {d : DataW H} {p : List MemPlace}
    (hv : Value.okWide Try.prog w r b0 34 v) (h : DataW.Trod enc Try.prog w base spare held 34 v d p) :
    ∃ A n c xs, v = .slice A n c ∧ Wvs (fun _ => True) w A n xs ∧ n ≤ c ∧ c ≤ maxLen ∧ DLen d n := by
  have hP : Try.prog.cellsOf 46 = 2 := by kernel_rfl
  have hI : Try.prog.cellsOf 3 = 1 := by kernel_rfl
  obtain ⟨a0, len, cap, rfl⟩ := okWide_slice Try.underlying34 hv
  obtain ⟨fuel, hf⟩ := h
  rcases open_slice Try.underlying34 hf with ⟨hcs, _⟩ | ⟨a, len', cap', m, n, D, Pl, hcs, _, hl, hcm, hmm, hd, hi⟩
  · exact ⟨none, 0, 0, [], by simpa [Value.cells] using hcs, ⟨rfl, Rw.nil⟩, Nat.le_refl _, Nat.zero_le _, .inl rfl⟩
  · have hv0 : Value.slice a0 len cap = .slice (some a) len' cap' := by simpa [Value.cells] using hcs
    injection hv0 with h1 h2 h3
    subst h1 h2 h3
    have hle : len ≤ m := by rw [hmm]; split <;> omega
    have each : ∀ i, i < len → ∃ x : Int × Int, w.cell? (a.add (i * 2)) = some (.int .i64 x.1) ∧ w.cell? (a.add (i * 2 + 1)) = some (.int .i64 x.2) := by
      intro i hil
      obtain ⟨cs', hc, ht⟩ := hi i (by omega)
      rw [hP] at hc
      obtain ⟨_, hcl, hat⟩ := World.cells?_some hc
      obtain ⟨xs, n, _, _, hlen, hxl, hg⟩ := DataW.trod_struct Try.underlying46 ht
      rw [hP] at hlen
      match cs', hlen, xs, hxl with
      | [c0, c1], _, [y0, y1], _ =>
        have g0 := hg 0 _ rfl
        have g1 := hg 1 _ rfl
        simp [hI] at g0 g1
        obtain ⟨x0, q0, _, _⟩ := DataW.trod_int Try.underlying3 g0
        obtain ⟨x1, q1, _, _⟩ := DataW.trod_int Try.underlying3 g1
        simp at q0 q1
        subst q0 q1
        have a0 := hat 0 (by omega)
        have a1 := hat 1 (by omega)
        rw [Go.Deep.add_add] at a0 a1
        exact ⟨(x0, x1), by simpa using a0, by simpa using a1⟩
    haveI : Inhabited (Int × Int) := ⟨(0, 0)⟩
    obtain ⟨X, hX⟩ := choose_lt each
    refine ⟨some a, len, cap, (List.range len).map X, rfl, ⟨by simp, ⟨by rw [wvCells_len]; simp, fun hn => ?_⟩⟩, hl, hcm, .inr ⟨_, _, (Prod.mk.inj hd).1, by simp⟩⟩
    · have c0 := (hX 0 hn).1
      obtain ⟨b, off, spot⟩ := a
      have hspot : spot = none := by simpa [Addr.add] using World.cell?_spot c0
      subst hspot
      refine ⟨b, off, rfl, trivial, by simpa [Addr.add] using World.block_lt_of_cell? w _ c0, fun j y hy => ?_⟩
      have hjl : j < len * 2 := by
        have := (List.getElem?_eq_some_iff.1 hy).1
        rw [wvCells_len] at this
        simpa using this
      have hxi : ((List.range len).map X)[j / 2]? = some (X (j / 2)) := by rw [List.getElem?_map, List.getElem?_range (by omega)]; rfl
      obtain ⟨e0, e1⟩ := wvCells_at hxi
      obtain ⟨d0, d1⟩ := hX (j / 2) (by omega)
      rw [WideShapes.add_plain] at d0 d1
      rcases (by omega : j % 2 = 0 ∨ j % 2 = 1) with hm | hm
      · rw [show j / 2 * 2 = j by omega] at e0 d0
        rw [e0] at hy
        rw [← Option.some.inj hy]
        exact d0
      · rw [show j / 2 * 2 + 1 = j by omega] at e1 d1
        rw [e1] at hy
        rw [← Option.some.inj hy]
        exact d1
end Go.Proofs.Ytclainbjidajbaa
