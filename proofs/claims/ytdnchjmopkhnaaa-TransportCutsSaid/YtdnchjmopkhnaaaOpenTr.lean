/- Opening an argument that is a transport packet. -/
import Derived.Test.YtdnchjmopkhnaaaOpenPt
namespace Go.Proofs.Ytdnchjmopkhnaaa
open Go.ChangeShapes Go.WideShapes Go.ChangeAt Go.RowKit Go.Joins Go.Deep

theorem wf64 {x : Int} (h : (Lit.int .i64 x).wf = true) : -9223372036854775808 ≤ x ∧ x ≤ 9223372036854775807 := by
  simp [Lit.wf, IntKind.min, IntKind.max, IntKind.signed, IntKind.bits] at h
  omega
set_option maxRecDepth 100000 in
/-- The five cells of a packet that reads. -/
theorem tp_of_trod {H : Type} {enc : TypeId × Value → H} {w : World} {base fuel : Nat} {spare : Nat → Bool} {held : Bool} {cs : List Value} {y : DataW H × List MemPlace}
    (h : DataW.trod enc Try.prog w base spare held fuel 24 cs = some y) :
    ∃ (pid cnt : Int) (st : Bool) (clk : Int) (A : Option Addr) (n c : Nat) (l : List Int), cs = [.int .i64 pid, .int .i64 cnt, .bool st, .int .i64 clk, .slice A n c] ∧ Byt (fun _ => True) w A n l ∧ n ≤ c ∧ (-9223372036854775808 ≤ pid ∧ pid ≤ 9223372036854775807) ∧ (-9223372036854775808 ≤ cnt ∧ cnt ≤ 9223372036854775807) ∧ (-9223372036854775808 ≤ clk ∧ clk ≤ 9223372036854775807) := by
  have hE : Try.prog.cellsOf 5 = 1 := by kernel_rfl
  have hS : Try.prog.cellsOf 22 = 1 := by kernel_rfl
  have hI : Try.prog.cellsOf 3 = 1 := by kernel_rfl
  have hL : Try.prog.cellsOf 2 = 1 := by kernel_rfl
  have hB : Try.prog.cellsOf 4 = 1 := by kernel_rfl
  have hP : Try.prog.cellsOf 24 = 5 := by kernel_rfl
  obtain ⟨xs, n, _, _, hlen, hxl, hg⟩ := DataW.trod_struct Try.underlying24 h
  rw [hP] at hlen
  match cs, hlen, xs, hxl with
  | [c0, c1, c2, c3, c4], _, [y0, y1, y2, y3, y4], _ =>
    have g0 := hg 0 _ rfl
    have g1 := hg 1 _ rfl
    have g2 := hg 2 _ rfl
    have g3 := hg 3 _ rfl
    have g4 := hg 4 _ rfl
    simp [hS, hI, hL, hB] at g0 g1 g2 g3 g4
    obtain ⟨a0, q0, _, f0⟩ := DataW.trod_int Try.underlying3 g0
    obtain ⟨a1, q1, _, f1⟩ := DataW.trod_int Try.underlying3 g1
    obtain ⟨a2, q2, _⟩ := DataW.trod_bool Try.underlying4 g2
    obtain ⟨a3, q3, _, f3⟩ := DataW.trod_int Try.underlying2 g3
    obtain ⟨A, m, c, l, q4, hb⟩ := byt_of_trod Try.underlying22 Try.underlying5 hE g4
    simp at q0 q1 q2 q3
    subst q0 q1 q2 q3 q4
    exact ⟨a0, a1, a2, a3, A, m, c, l, rfl, hb, cap_of_trod Try.underlying22 g4, wf64 f0, wf64 f1, wf64 f3⟩
set_option maxRecDepth 100000 in
theorem open_tpk {H : Type} {enc : TypeId × Value → H} {w : World} {base b0 : Nat} {spare : Nat → Bool} {held : Bool} {r : Reach} {v : Value} {d : DataW H} {p : List MemPlace}
    (hv : Value.okWide Try.prog w r b0 24 v) (h : DataW.Trod enc Try.prog w base spare held 24 v d p) :
    ∃ (pid cnt : Int) (st : Bool) (clk : Int) (A : Option Addr) (n c : Nat) (l : List Int), v = .agg #[.int .i64 pid, .int .i64 cnt, .bool st, .int .i64 clk, .slice A n c] ∧ Byt (fun _ => True) w A n l := by
  obtain ⟨cs, rfl, hsz⟩ := okWide_struct Try.underlying24 hv
  obtain ⟨fuel, hf⟩ := h
  obtain ⟨pid, cnt, st, clk, A, n, c, l, hcs, hb, _⟩ := tp_of_trod hf
  refine ⟨pid, cnt, st, clk, A, n, c, l, ?_, hb⟩
  obtain ⟨cs⟩ := cs
  simp [Value.cells] at hcs
  rw [hcs]
end Go.Proofs.Ytdnchjmopkhnaaa
