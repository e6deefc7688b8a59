/- Opening an argument that is a packet, and one that is a slice of bytes with its capacity. -/
import Derived.Test.YtdnchjmopkhnaaaOpenN
namespace Go.Proofs.Ytdnchjmopkhnaaa
open Go.ChangeShapes Go.WideShapes Go.ChangeAt Go.RowKit Go.Joins Go.Deep

theorem cap_of_trod {H : Type} {enc : TypeId × Value → H} {P : Program} {w : World} {base : Nat} {spare : Nat → Bool} {held : Bool} {t e : TypeId} {fuel : Nat} {A : Option Addr} {n c : Nat} {x : DataW H × List MemPlace} (ht : P.underlying t = some (.slice e))
    (h : DataW.trod enc P w base spare held fuel t [.slice A n c] = some x) : n ≤ c := by
  rcases open_slice ht h with ⟨hcs, _⟩ | ⟨_, _, _, _, _, _, _, hcs, _, hle, _⟩
  · simp at hcs; simp [hcs]
  · simp at hcs
    rw [hcs.2.1, hcs.2.2]; exact hle

set_option maxRecDepth 100000 in
theorem open_bytc {H : Type} {enc : TypeId × Value → H} {w : World} {base b0 : Nat} {spare : Nat → Bool} {held : Bool} {r : Reach} {v : Value} {d : DataW H} {p : List MemPlace}
    (hv : Value.okWide Try.prog w r b0 22 v) (h : DataW.Trod enc Try.prog w base spare held 22 v d p) :
    ∃ A n c l, v = .slice A n c ∧ Byt (fun _ => True) w A n l ∧ n ≤ c := by
  have hE : Try.prog.cellsOf 5 = 1 := by kernel_rfl
  obtain ⟨a0, len, cap, rfl⟩ := okWide_slice Try.underlying22 hv
  obtain ⟨fuel, hf⟩ := h
  have hf : DataW.trod enc Try.prog w base spare held fuel 22 [.slice a0 len cap] = some (d, p) := hf
  obtain ⟨A, n, c, l, hvv, hB⟩ := byt_of_trod Try.underlying22 Try.underlying5 hE hf
  injection hvv with h1 h2 h3
  subst h1 h2 h3
  exact ⟨_, _, _, l, rfl, hB, cap_of_trod Try.underlying22 hf⟩


end Go.Proofs.Ytdnchjmopkhnaaa
