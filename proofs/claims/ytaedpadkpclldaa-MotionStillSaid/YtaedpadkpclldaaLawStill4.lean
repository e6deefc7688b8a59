/- MotionStill, where the macroblock is in the reference and the piece is not. -/
import Derived.Test.YtaedpadkpclldaaLawStill3
namespace Go.Proofs.Ytaedpadkpclldaa
open Go.RowKit

set_option maxRecDepth 100000 in
set_option maxHeartbeats 4000000 in
theorem law_Still_out {p : Nat → Prop} (v : Value) (f : Fr) (mx my : Nat) (dx dy : Int) (w : World) (hf : IsFr p w v f)
    (hl : lightB f = true) (hv : validB f = true) (hx : mx ≤ 3) (hy : my ≤ 3) (h1 : 16 * (mx : Int) + 16 ≤ f.W) (h2 : 16 * (my : Int) + 16 ≤ f.H) (hd : dx < -15 ∨ 15 < dx ∨ dy < -15 ∨ 15 < dy ∨ 16 * (mx : Int) + 2 * dx < 0 ∨ 16 * (my : Int) + 2 * dy < 0 ∨ f.W < 16 * (mx : Int) + 2 * dx + 16 ∨ f.H < 16 * (my : Int) + 2 * dy + 16) :
    Calls Try.prog 5 #[v, .int .i64 mx, .int .i64 my, .int .i64 dx, .int .i64 dy] w fun e w' => e = .returned (.bool true) ∧ Below w.heap.size w w' := by
  have hsz : f.W ≤ 64 ∧ f.H ≤ 64 ∧ 2 ≤ f.W ∧ 2 ≤ f.H := by
    have h := hv
    simp only [validB, formedB, sizeB, Bool.and_eq_true, decide_eq_true_eq] at h
    omega
  obtain ⟨w1', w2', w3', w4'⟩ := hsz
  have hfo : formedB f = true := by
    have h := hv
    simp only [validB, Bool.and_eq_true] at h
    exact h.1.1
  have HM := Lib.hid (macroF_piece hv h1 h2)
  have HP := Lib.hid (predF_whole (dx := 0) (dy := 0) (fx := 16 * mx) (fy := 16 * my) hfo (by omega) (by omega) (by omega) (by omega) h1 h2 (by omega) (by omega))
  have hf0 := hf
  obtain ⟨ya, yn, yc, ua, un, uc, va, vn, vc, rfl, hy', hu, hv'⟩ := hf
  clear hy' hu hv'
  have HF := Lib.hid hf0
  have HV := Lib.hid hv
  have HFO := Lib.hid hfo
  clear hf0 hv hfo
  have HD := Lib.hid hd
  clear hd
  go_enter Try.func5, Try.ntmps5
  go_wp2_with fail
  refine (law_light (p := p) _ f _ (by (repeat with_reducible apply IsFr.alloc); exact HF.out)).mono ?_
  rintro e w1 ⟨rfl, hb1⟩
  have B1 : Below w.heap.size w w1 := ((Below.refl _ w).alloc (by simp) _).trans (hb1.mono (by simp))
  have f1 := HF.out.ext B1
  rw [hl]
  have x1 : Bx w1 w.heap.size 24 #[.int .i64 f.W, .int .i64 f.H, .slice ya yn yc, .slice ua un uc, .slice va vn vc] := (Bx.new w _ _).ext hb1
  obtain ⟨g0, g1, g2, g3, g4⟩ := x1.cells5
  have lx1 := x1.lt
  go_wp2_with fail
  refine (ref_Valid (p := p) _ f _ f1).mono ?_
  rintro e w2 ⟨rfl, hb2⟩
  have B2 := B1.trans (hb2.mono B1.size)
  have f2 := HF.out.ext B2
  have x2 := x1.ext hb2
  rw [HV.out]
  clear g0 g1 g2 g3 g4
  obtain ⟨g0, g1, g2, g3, g4⟩ := x2.cells5
  have lx2 := x2.lt
  go_wp2_with fail
  refine (motion_Predict (p := p) _ f _ _ _ _ _ _ _ (by (repeat with_reducible apply IsFr.alloc); exact f2)).mono ?_
  rw [show predF f (16 * mx) (16 * my) 16 16 0 0 = (pieceF f (16 * mx) (16 * my), 0) from HP.out]
  rintro e w3 ⟨v3, rfl, hf3, hb3⟩
  have B3 : Below w.heap.size w w3 := B2.trans (hb3.mono B2.size)
  have f3 := HF.out.ext B3
  have x3 := x2.ext hb3
  clear g0 g1 g2 g3 g4
  obtain ⟨g0, g1, g2, g3, g4⟩ := x3.cells5
  have lx3 := x3.lt
  obtain ⟨a1, a2, a3, a4, a5, a6, a7, a8, a9, rfl, _, _, _⟩ := id hf3
  have HF3 := Lib.hid hf3
  clear hf3
  go_wp2_with fail
  refine (ref_Macroblock (p := p) _ f _ _ _ (by (repeat with_reducible apply IsFr.alloc); exact f3)).mono ?_
  rw [HM.out]
  rintro e w4 ⟨v4, rfl, _, hf4, hb4⟩
  obtain ⟨b1, b2, b3, b4, b5, b6, b7, b8, b9, rfl, _, _, _⟩ := id hf4
  have HF4 := Lib.hid hf4
  clear hf4
  have B4 : Below w.heap.size w w4 := (B3.alloc B3.size _).trans (hb4.mono (by simp; omega))
  have f4 := HF.out.ext B4
  have x4 := (x3.alloc (.cells #[.int .i64 (pieceF f (16 * mx) (16 * my)).W, .int .i64 (pieceF f (16 * mx) (16 * my)).H, .slice a1 a2 a3, .slice a4 a5 a6, .slice a7 a8 a9] 24)).ext hb4
  have y4 := (Bx.new w3 24 #[.int .i64 (pieceF f (16 * mx) (16 * my)).W, .int .i64 (pieceF f (16 * mx) (16 * my)).H, .slice a1 a2 a3, .slice a4 a5 a6, .slice a7 a8 a9]).ext hb4
  clear g0 g1 g2 g3 g4
  obtain ⟨g0, g1, g2, g3, g4⟩ := x4.cells5
  obtain ⟨h0, h1', h2', h3', h4'⟩ := y4.cells5
  have lx4 := x4.lt
  have ly4 := y4.lt
  go_wp2_with fail
  refine (ref_Equal _ _ (pieceF f (16 * mx) (16 * my)) (pieceF f (16 * mx) (16 * my)) _ ((IsFr.ext (HF3.out.alloc _) hb4).alloc _) (HF4.out.alloc _)).mono ?_
  rintro e w5 ⟨rfl, hb5⟩
  rw [eqB_self]
  have B5 : Below w.heap.size w w5 := (B4.alloc B4.size _).trans (hb5.mono (by have := B4.size; simp; omega))
  have f5 := HF.out.ext B5
  have x5 := (x4.alloc _).ext hb5
  have y5 := (y4.alloc _).ext hb5
  clear g0 g1 g2 g3 g4 h0 h1' h2' h3' h4'
  obtain ⟨g0, g1, g2, g3, g4⟩ := x5.cells5
  obtain ⟨h0, h1', h2', h3', h4'⟩ := y5.cells5
  have lx5 := x5.lt
  have ly5 := y5.lt
  have hd := HD.out
  by_cases c1 : dx < -15
  · go_wp2_with fail
    all_goals
      refine (law_awake _).mono ?_
      rintro e w6 ⟨rfl, hb6⟩
      go_wp2_with fail
      go_ret
      exact ⟨rfl, B5.trans (hb6.mono B5.size)⟩
  by_cases c2 : 15 < dx
  · go_wp2_with fail
    all_goals
      refine (law_awake _).mono ?_
      rintro e w6 ⟨rfl, hb6⟩
      go_wp2_with fail
      go_ret
      exact ⟨rfl, B5.trans (hb6.mono B5.size)⟩
  by_cases c3 : dy < -15
  · go_wp2_with fail
    all_goals
      refine (law_awake _).mono ?_
      rintro e w6 ⟨rfl, hb6⟩
      go_wp2_with fail
      go_ret
      exact ⟨rfl, B5.trans (hb6.mono B5.size)⟩
  by_cases c4 : 15 < dy
  · go_wp2_with fail
    all_goals
      refine (law_awake _).mono ?_
      rintro e w6 ⟨rfl, hb6⟩
      go_wp2_with fail
      go_ret
      exact ⟨rfl, B5.trans (hb6.mono B5.size)⟩
  by_cases c5 : 16 * (mx : Int) + 2 * dx < 0
  · go_wp2_with fail
    all_goals
      refine (law_awake _).mono ?_
      rintro e w6 ⟨rfl, hb6⟩
      go_wp2_with fail
      go_ret
      exact ⟨rfl, B5.trans (hb6.mono B5.size)⟩
  by_cases c6 : 16 * (my : Int) + 2 * dy < 0
  · go_wp2_with fail
    all_goals
      refine (law_awake _).mono ?_
      rintro e w6 ⟨rfl, hb6⟩
      go_wp2_with fail
      go_ret
      exact ⟨rfl, B5.trans (hb6.mono B5.size)⟩
  by_cases c7 : f.W < 16 * (mx : Int) + 2 * dx + 16
  · go_wp2_with fail
    all_goals
      refine (law_awake _).mono ?_
      rintro e w6 ⟨rfl, hb6⟩
      go_wp2_with fail
      go_ret
      exact ⟨rfl, B5.trans (hb6.mono B5.size)⟩
  have c8 : f.H < 16 * (my : Int) + 2 * dy + 16 := by omega
  go_wp2_with fail
  all_goals
    refine (law_awake _).mono ?_
    rintro e w6 ⟨rfl, hb6⟩
    go_wp2_with fail
    go_ret
    exact ⟨rfl, B5.trans (hb6.mono B5.size)⟩
end Go.Proofs.Ytaedpadkpclldaa
namespace Go.Proofs.Ytaedpadkpclldaa
open Go.RowKit

theorem law_MotionStill {p : Nat → Prop} (v : Value) (f : Fr) (x y dx dy : Int) (w : World) (hf : IsFr p w v f) :
    Calls Try.prog 5 #[v, .int .i64 x, .int .i64 y, .int .i64 dx, .int .i64 dy] w fun e w' => e = .returned (.bool true) ∧ Below w.heap.size w w' := by
  by_cases h : lightB f = true ∧ validB f = true ∧ 0 ≤ x ∧ 0 ≤ y ∧ x ≤ 3 ∧ y ≤ 3 ∧ 16 * x + 16 ≤ f.W ∧ 16 * y + 16 ≤ f.H
  · obtain ⟨h1, h2, h3, h4, h5, h6, h7, h8⟩ := h
    obtain ⟨mx, rfl⟩ := Int.eq_ofNat_of_zero_le h3
    obtain ⟨my, rfl⟩ := Int.eq_ofNat_of_zero_le h4
    by_cases hd : dx < -15 ∨ 15 < dx ∨ dy < -15 ∨ 15 < dy ∨ 16 * (mx : Int) + 2 * dx < 0 ∨ 16 * (my : Int) + 2 * dy < 0 ∨ f.W < 16 * (mx : Int) + 2 * dx + 16 ∨ f.H < 16 * (my : Int) + 2 * dy + 16
    · exact law_Still_out v f mx my dx dy w hf h1 h2 (by omega) (by omega) h7 h8 hd
    · exact law_Still_in v f mx my dx dy w hf h1 h2 (by omega) (by omega) h7 h8 hd
  · exact law_Still_no v f x y dx dy w hf h
end Go.Proofs.Ytaedpadkpclldaa
