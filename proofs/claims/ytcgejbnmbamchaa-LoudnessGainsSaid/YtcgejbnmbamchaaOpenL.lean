/- Opening an argument that is a slice of numbers, with their bounds. -/
import Derived.Test.YtcgejbnmbamchaaOpenN
import Derived.Test.YtcgejbnmbamchaaIts
namespace Go.Proofs.Ytcgejbnmbamchaa
open Go.ChangeShapes Go.WideShapes Go.ChangeAt Go.RowKit Go.Joins Go.Deep

theorem its_of_trod {H : Type} {enc : TypeId × Value → H} {P : Program} {w : World} {base : Nat} {spare : Nat → Bool} {held : Bool} {k : IntKind} {t e : TypeId} {fuel : Nat} {v : Value} {x : DataW H × List MemPlace} (ht : P.underlying t = some (.slice e)) (he : P.underlying e = some (.int k)) (hc : P.cellsOf e = 1)
    (h : DataW.trod enc P w base spare held fuel t [v] = some x) : ∃ A n c l, v = .slice A n c ∧ Its k (fun _ => True) w A n l ∧ n ≤ c ∧ c ≤ maxLen ∧ ∀ z ∈ l, (Lit.int k z).wf = true := by
  rcases open_ints ht he hc h with ⟨hcs, _⟩ | ⟨a, len, cap, zs, hcs, _, hl, hm, hz, _, hcell, hwz⟩
  · simp at hcs
    exact ⟨none, 0, 0, [], hcs, Its.nil, Nat.le_refl _, Nat.zero_le _, by simp⟩
  · simp at hcs
    have hle : len ≤ zs.length := by rw [hz]; split <;> omega
    refine ⟨some a, len, cap, zs.take len, hcs, ⟨by simp; omega, ?_⟩, hl, hm, fun z hz => hwz z (List.mem_of_mem_take hz)⟩
    intro hn
    obtain ⟨b, off, rfl, hc'⟩ := ints_at hcell (by omega)
    refine ⟨b, off, rfl, trivial, fun j x hx => ?_⟩
    rw [List.getElem?_take] at hx
    split at hx
    · rename_i hj
      rw [hc' j (by omega), List.getD_eq_getElem?_getD, hx]
      rfl
    · cases hx
theorem u16_wf {x : Int} (h : (Lit.int .u16 x).wf = true) : 0 ≤ x ∧ x ≤ 65535 := by
  simp [Lit.wf, IntKind.min, IntKind.max, IntKind.signed, IntKind.bits] at h
  omega
theorem open_itw {H : Type} {enc : TypeId × Value → H} {w : World} {base b0 : Nat} {spare : Nat → Bool} {held : Bool} {r : Reach} {v : Value} {d : DataW H} {p : List MemPlace}
    (hv : Value.okWide Try.prog w r b0 23 v) (h : DataW.Trod enc Try.prog w base spare held 23 v d p) :
    ∃ A n c l, v = .slice A n c ∧ Its .i64 (fun _ => True) w A n l ∧ ∀ x ∈ l, -9223372036854775808 ≤ x ∧ x ≤ 9223372036854775807 := by
  obtain ⟨fuel, hf⟩ := h
  have hcs : v.cells.toList = [v] := by
    obtain ⟨a, len, cap, rfl⟩ := okWide_slice Try.underlying23 hv
    rfl
  rw [hcs] at hf
  obtain ⟨A, n, c, l, e, h1, _, _, h4⟩ := its_of_trod Try.underlying23 Try.underlying3 (by kernel_rfl) hf
  refine ⟨A, n, c, l, e, h1, fun x hx => ?_⟩
  have := h4 x hx
  simp [Lit.wf, IntKind.min, IntKind.max, IntKind.signed, IntKind.bits] at this
  omega
end Go.Proofs.Ytcgejbnmbamchaa
