/- Opening an argument that is a frame, with its capacities. -/
import Derived.Test.YtaedpadkpclldaaOpen
import Derived.Test.YtaedpadkpclldaaCut
namespace Go.Proofs.Ytaedpadkpclldaa
open Go.ChangeShapes Go.WideShapes Go.ChangeAt Go.RowKit Go.Joins Go.Deep

theorem cap_of_trod {H : Type} {enc : TypeId × Value → H} {P : Program} {w : World} {base : Nat} {spare : Nat → Bool} {held : Bool} {t e : TypeId} {fuel : Nat} {A : Option Addr} {n c : Nat} {x : DataW H × List MemPlace} (ht : P.underlying t = some (.slice e)) (he : P.underlying e = some (.int .u8)) (hc : P.cellsOf e = 1)
    (h : DataW.trod enc P w base spare held fuel t [.slice A n c] = some x) : n ≤ c := by
  rcases open_ints ht he hc h with ⟨hcs, _⟩ | ⟨a, len, cap, zs, hcs, _, hl, _⟩
  · simp at hcs; omega
  · simp at hcs; omega
theorem open_frc {H : Type} {enc : TypeId × Value → H} {w : World} {base b0 : Nat} {spare : Nat → Bool} {held : Bool} {r : Reach} {v : Value} {d : DataW H} {p : List MemPlace}
    (hv : Value.okWide Try.prog w r b0 24 v) (h : DataW.Trod enc Try.prog w base spare held 24 v d p) : ∃ f, IsFr (fun _ => True) w v f ∧ CapsOK v := by
  obtain ⟨f, hf⟩ := open_fr hv h
  refine ⟨f, hf, ?_⟩
  obtain ⟨ya, yn, yc, ua, un, uc, va, vn, vc, rfl, _, _, _⟩ := hf
  have hE : Try.prog.cellsOf 5 = 1 := by kernel_rfl
  have hS : Try.prog.cellsOf 22 = 1 := by kernel_rfl
  have hI : Try.prog.cellsOf 3 = 1 := by kernel_rfl
  obtain ⟨fuel, hf⟩ := h
  obtain ⟨xs, n, _, _, _, hlen, hg⟩ := DataW.trod_struct Try.underlying24 hf
  match xs, hlen with
  | [y0, y1, y2, y3, y4], _ =>
    have g2 := hg 2 _ rfl
    have g3 := hg 3 _ rfl
    have g4 := hg 4 _ rfl
    simp [Value.cells, hS] at g2 g3 g4
    exact CapsOK.mk (cap_of_trod Try.underlying22 Try.underlying5 hE g2) (cap_of_trod Try.underlying22 Try.underlying5 hE g3) (cap_of_trod Try.underlying22 Try.underlying5 hE g4)
end Go.Proofs.Ytaedpadkpclldaa
