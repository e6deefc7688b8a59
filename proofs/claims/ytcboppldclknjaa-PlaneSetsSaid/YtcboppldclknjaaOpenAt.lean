/- Opening an argument that names a block. -/
import Derived.Test.YtcboppldclknjaaOpen
namespace Go.Proofs.Ytcboppldclknjaa
open Go.ChangeShapes Go.WideShapes Go.ChangeAt Go.RowKit Go.Joins Go.Deep

theorem open_at {H : Type} {enc : TypeId × Value → H} {w : World} {base b0 : Nat} {spare : Nat → Bool} {held : Bool} {r : Reach} {v : Value} {d : DataW H} {p : List MemPlace}
    (hv : Value.okWide Try.prog w r b0 40 v) (h : DataW.Trod enc Try.prog w base spare held 40 v d p) :
    ∃ (a b c : Int) (e : Bool), v = .agg #[.int .i64 a, .int .i64 b, .int .i64 c, .bool e] := by
  obtain ⟨cs, rfl, hsz⟩ := okWide_struct Try.underlying40 hv
  obtain ⟨l⟩ := cs
  have hC : Try.prog.cellsOf 40 = 4 := by kernel_rfl
  have hI : Try.prog.cellsOf 3 = 1 := by kernel_rfl
  have hBo : Try.prog.cellsOf 4 = 1 := by kernel_rfl
  match l, hsz.trans hC with
  | [c0, c1, c2, c3], _ =>
    obtain ⟨fuel, hf⟩ := h
    obtain ⟨xs, n, _, _, _, hlen, hg⟩ := DataW.trod_struct Try.underlying40 hf
    match xs, hlen with
    | [y0, y1, y2, y3], _ =>
      have g0 := hg 0 _ rfl
      have g1 := hg 1 _ rfl
      have g2 := hg 2 _ rfl
      have g3 := hg 3 _ rfl
      simp [Value.cells, hI, hBo] at g0 g1 g2 g3
      obtain ⟨a, e0, _, _⟩ := DataW.trod_int Try.underlying3 g0
      obtain ⟨b, e1, _, _⟩ := DataW.trod_int Try.underlying3 g1
      obtain ⟨c, e2, _, _⟩ := DataW.trod_int Try.underlying3 g2
      obtain ⟨d, e3, _, _⟩ := DataW.trod_bool Try.underlying4 g3
      simp at e0 e1 e2 e3
      subst e0 e1 e2 e3
      exact ⟨a, b, c, d, rfl⟩
end Go.Proofs.Ytcboppldclknjaa
