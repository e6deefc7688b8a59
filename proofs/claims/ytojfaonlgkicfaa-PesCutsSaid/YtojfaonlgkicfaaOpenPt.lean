/- Opening an argument that is a packet, and one that is a slice of bytes with its capacity. -/
import Derived.Test.YtojfaonlgkicfaaOpenN
namespace Go.Proofs.Ytojfaonlgkicfaa
open Go.ChangeShapes Go.WideShapes Go.ChangeAt Go.RowKit Go.Joins Go.Deep

theorem cap_of_trod {H : Type} {enc : TypeId × Value → H} {P : Program} {w : World} {base : Nat} {spare : Nat → Bool} {held : Bool} {t e : TypeId} {fuel : Nat} {A : Option Addr} {n c : Nat} {x : DataW H × List MemPlace} (ht : P.underlying t = some (.slice e))
    (h : DataW.trod enc P w base spare held fuel t [.slice A n c] = some x) : n ≤ c := by
  rcases open_slice ht h with ⟨hcs, _⟩ | ⟨_, _, _, _, _, _, _, hcs, _, hle, _⟩
  · simp at hcs; simp [hcs]
  · simp at hcs
    rw [hcs.2.1, hcs.2.2]; exact hle

set_option maxRecDepth 100000 in
theorem open_bytc {H : Type} {enc : TypeId × Value → H} {w : World} {base b0 : Nat} {spare : Nat → Bool} {held : Bool} {r : Reach} {v : Value} {d : DataW H} {p : List MemPlace}
    (hv : Value.okWide Try.prog w r b0 27 v) (h : DataW.Trod enc Try.prog w base spare held 27 v d p) :
    ∃ A n c l, v = .slice A n c ∧ Byt (fun _ => True) w A n l ∧ n ≤ c := by
  have hE : Try.prog.cellsOf 5 = 1 := by kernel_rfl
  obtain ⟨a0, len, cap, rfl⟩ := okWide_slice Try.underlying27 hv
  obtain ⟨fuel, hf⟩ := h
  have hf : DataW.trod enc Try.prog w base spare held fuel 27 [.slice a0 len cap] = some (d, p) := hf
  obtain ⟨A, n, c, l, hvv, hB⟩ := byt_of_trod Try.underlying27 Try.underlying5 hE hf
  injection hvv with h1 h2 h3
  subst h1 h2 h3
  exact ⟨_, _, _, l, rfl, hB, cap_of_trod Try.underlying27 hf⟩

set_option maxRecDepth 100000 in
theorem open_pkt {H : Type} {enc : TypeId × Value → H} {w : World} {base b0 : Nat} {spare : Nat → Bool} {held : Bool} {r : Reach} {v : Value} {d : DataW H} {p : List MemPlace}
    (hv : Value.okWide Try.prog w r b0 29 v) (h : DataW.Trod enc Try.prog w base spare held 29 v d p) :
    ∃ s p d A n c l, v = .agg #[.int .i64 s, .int .i64 p, .int .i64 d, .slice A n c] ∧ Byt (fun _ => True) w A n l ∧ n ≤ c := by
  obtain ⟨cs, rfl, hsz⟩ := okWide_struct Try.underlying29 hv
  obtain ⟨l⟩ := cs
  have hC : Try.prog.cellsOf 29 = 4 := by kernel_rfl
  have hE : Try.prog.cellsOf 5 = 1 := by kernel_rfl
  have hS : Try.prog.cellsOf 27 = 1 := by kernel_rfl
  have hI : Try.prog.cellsOf 3 = 1 := by kernel_rfl
  have hL : Try.prog.cellsOf 2 = 1 := by kernel_rfl
  match l, hsz.trans hC with
  | [c0, c1, c2, c3], _ =>
    obtain ⟨fuel, hf⟩ := h
    obtain ⟨xs, n, _, _, _, hlen, hg⟩ := DataW.trod_struct Try.underlying29 hf
    match xs, hlen with
    | [y0, y1, y2, y3], _ =>
      have g0 := hg 0 _ rfl
      have g1 := hg 1 _ rfl
      have g2 := hg 2 _ rfl
      have g3 := hg 3 _ rfl
      simp [Value.cells, hI, hL, hS] at g0 g1 g2 g3
      obtain ⟨a, e0, _, _⟩ := DataW.trod_int Try.underlying3 g0
      obtain ⟨b, e1, _, _⟩ := DataW.trod_int Try.underlying2 g1
      obtain ⟨b2, e2, _, _⟩ := DataW.trod_int Try.underlying2 g2
      obtain ⟨A3, n3, k3, l3, rfl, r3⟩ := byt_of_trod Try.underlying27 Try.underlying5 hE g3
      simp at e0 e1 e2
      subst e0 e1 e2
      exact ⟨_, _, _, _, _, _, _, rfl, r3, cap_of_trod Try.underlying27 g3⟩

end Go.Proofs.Ytojfaonlgkicfaa
