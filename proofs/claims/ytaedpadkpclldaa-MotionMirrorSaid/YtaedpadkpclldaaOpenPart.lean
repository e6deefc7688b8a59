/- Opening an argument that names a part of a picture and a vector. -/
import Derived.Test.YtaedpadkpclldaaOpen
namespace Go.Proofs.Ytaedpadkpclldaa
open Go.ChangeShapes Go.WideShapes Go.ChangeAt Go.RowKit Go.Joins Go.Deep

theorem open_part {H : Type} {enc : TypeId × Value → H} {w : World} {base b0 : Nat} {spare : Nat → Bool} {held : Bool} {r : Reach} {v : Value} {d : DataW H} {p : List MemPlace}
    (hv : Value.okWide Try.prog w r b0 34 v) (h : DataW.Trod enc Try.prog w base spare held 34 v d p) :
    ∃ a b c e f g : Int, v = .agg #[.int .i64 a, .int .i64 b, .int .i64 c, .int .i64 e, .int .i64 f, .int .i64 g] := by
  obtain ⟨cs, rfl, hsz⟩ := okWide_struct Try.underlying34 hv
  obtain ⟨l⟩ := cs
  have hC : Try.prog.cellsOf 34 = 6 := by kernel_rfl
  have hI : Try.prog.cellsOf 3 = 1 := by kernel_rfl
  have hV : Try.prog.cellsOf 32 = 2 := by kernel_rfl
  match l, hsz.trans hC with
  | [c0, c1, c2, c3, c4, c5], _ =>
    obtain ⟨fuel, hf⟩ := h
    obtain ⟨xs, n, _, _, _, hlen, hg⟩ := DataW.trod_struct Try.underlying34 hf
    match xs, hlen with
    | [y0, y1, y2, y3, y4], _ =>
      have g0 := hg 0 _ rfl
      have g1 := hg 1 _ rfl
      have g2 := hg 2 _ rfl
      have g3 := hg 3 _ rfl
      have g4 := hg 4 _ rfl
      simp [Value.cells, hI, hV] at g0 g1 g2 g3 g4
      obtain ⟨a, e0, _, _⟩ := DataW.trod_int Try.underlying3 g0
      obtain ⟨b, e1, _, _⟩ := DataW.trod_int Try.underlying3 g1
      obtain ⟨c, e2, _, _⟩ := DataW.trod_int Try.underlying3 g2
      obtain ⟨d, e3, _, _⟩ := DataW.trod_int Try.underlying3 g3
      obtain ⟨zs, n', _, _, _, hlen', hg'⟩ := DataW.trod_struct Try.underlying32 g4
      match zs, hlen' with
      | [z0, z1], _ =>
        have i0 := hg' 0 _ rfl
        have i1 := hg' 1 _ rfl
        simp [hI] at i0 i1
        obtain ⟨s, e4, _, _⟩ := DataW.trod_int Try.underlying3 i0
        obtain ⟨t, e5, _, _⟩ := DataW.trod_int Try.underlying3 i1
        simp at e0 e1 e2 e3 e4 e5
        subst e0 e1 e2 e3 e4 e5
        exact ⟨a, b, c, d, s, t, rfl⟩
end Go.Proofs.Ytaedpadkpclldaa
