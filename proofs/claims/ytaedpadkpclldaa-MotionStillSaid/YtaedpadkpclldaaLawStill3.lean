/- MotionStill, where the macroblock and the piece are in the reference. -/
import Derived.Test.YtaedpadkpclldaaStillM
namespace Go.Proofs.Ytaedpadkpclldaa
open Go.RowKit

theorem mbF_piece (f : Fr) (mx my : Nat) : mbF f mx my = pieceF f (16 * mx) (16 * my) := by
  unfold mbF pieceF mbL mbC
  rw [show 16 * my / 2 = 8 * my by omega, show 16 * mx / 2 = 8 * mx by omega]
theorem macroF_piece {f : Fr} {mx my : Nat} (hv : validB f = true) (h1 : 16 * (mx : Int) + 16 ≤ f.W) (h2 : 16 * (my : Int) + 16 ≤ f.H) : macroF f mx my = (pieceF f (16 * mx) (16 * my), 0) := by
  have hh : hasB f mx my = true := by
    unfold hasB
    rw [hv]
    simp only [Bool.true_and, Bool.and_eq_true, decide_eq_true_eq]
    omega
  unfold macroF
  rw [if_pos hh, Int.toNat_natCast, Int.toNat_natCast, mbF_piece]

theorem bsetS {B : Nat} {w W : World} (h : Below B w W) (a : Addr) (ha : B ≤ a.block) (v : Value) : Below B w (W.setCell a v) := h.setCell ha v
theorem piece_fit {W H fx fy r k : Nat} (h1 : fx + k ≤ W) (h2 : fy + r < H) : fy * W + fx + r * W + k ≤ H * W := by
  have h := Nat.mul_le_mul_right W (show fy + r + 1 ≤ H by omega)
  rw [Nat.add_mul, Nat.add_mul, Nat.one_mul] at h
  omega
set_option maxRecDepth 100000 in
set_option maxHeartbeats 4000000 in
theorem law_Still_in {p : Nat → Prop} (v : Value) (f : Fr) (mx my : Nat) (dx dy : Int) (w : World) (hf : IsFr p w v f)
    (hl : lightB f = true) (hv : validB f = true) (hx : mx ≤ 3) (hy : my ≤ 3) (h1 : 16 * (mx : Int) + 16 ≤ f.W) (h2 : 16 * (my : Int) + 16 ≤ f.H) (hd : ¬ (dx < -15 ∨ 15 < dx ∨ dy < -15 ∨ 15 < dy ∨ 16 * (mx : Int) + 2 * dx < 0 ∨ 16 * (my : Int) + 2 * dy < 0 ∨ f.W < 16 * (mx : Int) + 2 * dx + 16 ∨ f.H < 16 * (my : Int) + 2 * dy + 16)) :
    Calls Try.prog 5 #[v, .int .i64 mx, .int .i64 my, .int .i64 dx, .int .i64 dy] w fun e w' => e = .returned (.bool true) ∧ Below w.heap.size w w' := by
  have hsz : f.W ≤ 64 ∧ f.H ≤ 64 ∧ 2 ≤ f.W ∧ 2 ≤ f.H := by
    have h := hv
    simp only [validB, formedB, sizeB, Bool.and_eq_true, decide_eq_true_eq] at h
    omega
  obtain ⟨w1', w2', w3', w4'⟩ := hsz
  have hfo : formedB f = true := by
    have h := hv
    simp only [validB, Bool.and_eq_true] at h
    exact h.1.1
  have HM := Lib.hid (macroF_piece hv h1 h2)
  have HP := Lib.hid (predF_whole (dx := 0) (dy := 0) (fx := 16 * mx) (fy := 16 * my) hfo (by omega) (by omega) (by omega) (by omega) h1 h2 (by omega) (by omega))
  have hf0 := hf
  obtain ⟨ya, yn, yc, ua, un, uc, va, vn, vc, rfl, hy', hu, hv'⟩ := hf
  clear hy' hu hv'
  have HF := Lib.hid hf0
  have HV := Lib.hid hv
  have HFO := Lib.hid hfo
  clear hf0 hv hfo
  have HD := Lib.hid hd
  clear hd
  go_enter Try.func5, Try.ntmps5
  go_wp2_with fail
  refine (law_light (p := p) _ f _ (by (repeat with_reducible apply IsFr.alloc); exact HF.out)).mono ?_
  rintro e w1 ⟨rfl, hb1⟩
  have B1 : Below w.heap.size w w1 := ((Below.refl _ w).alloc (by simp) _).trans (hb1.mono (by simp))
  have f1 := HF.out.ext B1
  rw [hl]
  have x1 : Bx w1 w.heap.size 24 #[.int .i64 f.W, .int .i64 f.H, .slice ya yn yc, .slice ua un uc, .slice va vn vc] := (Bx.new w _ _).ext hb1
  obtain ⟨g0, g1, g2, g3, g4⟩ := x1.cells5
  have lx1 := x1.lt
  go_wp2_with fail
  refine (ref_Valid (p := p) _ f _ f1).mono ?_
  rintro e w2 ⟨rfl, hb2⟩
  have B2 := B1.trans (hb2.mono B1.size)
  have f2 := HF.out.ext B2
  have x2 := x1.ext hb2
  rw [HV.out]
  clear g0 g1 g2 g3 g4
  obtain ⟨g0, g1, g2, g3, g4⟩ := x2.cells5
  have lx2 := x2.lt
  go_wp2_with fail
  refine (motion_Predict (p := p) _ f _ _ _ _ _ _ _ (by (repeat with_reducible apply IsFr.alloc); exact f2)).mono ?_
  rw [show predF f (16 * mx) (16 * my) 16 16 0 0 = (pieceF f (16 * mx) (16 * my), 0) from HP.out]
  rintro e w3 ⟨v3, rfl, hf3, hb3⟩
  have B3 : Below w.heap.size w w3 := B2.trans (hb3.mono B2.size)
  have f3 := HF.out.ext B3
  have x3 := x2.ext hb3
  clear g0 g1 g2 g3 g4
  obtain ⟨g0, g1, g2, g3, g4⟩ := x3.cells5
  have lx3 := x3.lt
  obtain ⟨a1, a2, a3, a4, a5, a6, a7, a8, a9, rfl, _, _, _⟩ := id hf3
  have HF3 := Lib.hid hf3
  clear hf3
  go_wp2_with fail
  refine (ref_Macroblock (p := p) _ f _ _ _ (by (repeat with_reducible apply IsFr.alloc); exact f3)).mono ?_
  rw [HM.out]
  rintro e w4 ⟨v4, rfl, _, hf4, hb4⟩
  obtain ⟨b1, b2, b3, b4, b5, b6, b7, b8, b9, rfl, _, _, _⟩ := id hf4
  have HF4 := Lib.hid hf4
  clear hf4
  have B4 : Below w.heap.size w w4 := (B3.alloc B3.size _).trans (hb4.mono (by simp; omega))
  have f4 := HF.out.ext B4
  have x4 := (x3.alloc (.cells #[.int .i64 (pieceF f (16 * mx) (16 * my)).W, .int .i64 (pieceF f (16 * mx) (16 * my)).H, .slice a1 a2 a3, .slice a4 a5 a6, .slice a7 a8 a9] 24)).ext hb4
  have y4 := (Bx.new w3 24 #[.int .i64 (pieceF f (16 * mx) (16 * my)).W, .int .i64 (pieceF f (16 * mx) (16 * my)).H, .slice a1 a2 a3, .slice a4 a5 a6, .slice a7 a8 a9]).ext hb4
  clear g0 g1 g2 g3 g4
  obtain ⟨g0, g1, g2, g3, g4⟩ := x4.cells5
  obtain ⟨h0, h1', h2', h3', h4'⟩ := y4.cells5
  have lx4 := x4.lt
  have ly4 := y4.lt
  go_wp2_with fail
  refine (ref_Equal _ _ (pieceF f (16 * mx) (16 * my)) (pieceF f (16 * mx) (16 * my)) _ ((IsFr.ext (HF3.out.alloc _) hb4).alloc _) (HF4.out.alloc _)).mono ?_
  rintro e w5 ⟨rfl, hb5⟩
  rw [eqB_self]
  have B5 : Below w.heap.size w w5 := (B4.alloc B4.size _).trans (hb5.mono (by have := B4.size; simp; omega))
  have f5 := HF.out.ext B5
  have x5 := (x4.alloc _).ext hb5
  have y5 := (y4.alloc _).ext hb5
  clear g0 g1 g2 g3 g4 h0 h1' h2' h3' h4'
  obtain ⟨g0, g1, g2, g3, g4⟩ := x5.cells5
  obtain ⟨h0, h1', h2', h3', h4'⟩ := y5.cells5
  have lx5 := x5.lt
  have ly5 := y5.lt
  have hd := HD.out
  have c1 : -15 ≤ dx := by omega
  have c2 : dx ≤ 15 := by omega
  have c3 : -15 ≤ dy := by omega
  have c4 : dy ≤ 15 := by omega
  have c5 : 0 ≤ 16 * (mx : Int) + 2 * dx := by omega
  have c6 : 0 ≤ 16 * (my : Int) + 2 * dy := by omega
  have c7 : 16 * (mx : Int) + 2 * dx + 16 ≤ f.W := by omega
  have c8 : 16 * (my : Int) + 2 * dy + 16 ≤ f.H := by omega
  clear hd
  obtain ⟨fx, hfx⟩ : ∃ fx : Nat, 16 * (mx : Int) + 2 * dx = fx := ⟨(16 * (mx : Int) + 2 * dx).toNat, by omega⟩
  obtain ⟨fy, hfy⟩ : ∃ fy : Nat, 16 * (my : Int) + 2 * dy = fy := ⟨(16 * (my : Int) + 2 * dy).toNat, by omega⟩
  have HP2 := Lib.hid (predF_whole (dx := dx) (dy := dy) (fx := fx) (fy := fy) HFO.out hfx hfy (by omega) (by omega) h1 h2 (by omega) (by omega))
  have k1 : decide (dx < -15) = false := decide_eq_false (by omega)
  have k2 : decide (15 < dx) = false := decide_eq_false (by omega)
  have k3 : decide (dy < -15) = false := decide_eq_false (by omega)
  have k4 : decide (15 < dy) = false := decide_eq_false (by omega)
  have k5 : decide (16 * (mx : Int) + 2 * dx < 0) = false := decide_eq_false (by omega)
  have k6 : decide (16 * (my : Int) + 2 * dy < 0) = false := decide_eq_false (by omega)
  have k7 : decide (f.W < 16 * (mx : Int) + 2 * dx + 16) = false := decide_eq_false (by omega)
  have k8 : decide (f.H < 16 * (my : Int) + 2 * dy + 16) = false := decide_eq_false (by omega)
  go_wp2_with fail
  refine (motion_Predict (p := p) _ f _ _ _ _ _ _ _ (by (repeat with_reducible apply IsFr.alloc); exact f5)).mono ?_
  rw [show predF f (16 * mx) (16 * my) 16 16 (4 * dx) (4 * dy) = (pieceF f fx fy, 0) from HP2.out]
  rintro e w6 ⟨v6, rfl, hf6, hb6⟩
  have HWH : Hid ((pieceF f fx fy).W = 16 ∧ (pieceF f fx fy).H = 16) := Lib.hid ⟨rfl, rfl⟩
  obtain ⟨R, hR⟩ : ∃ R, R = pieceF f fx fy := ⟨_, rfl⟩
  have HR := Lib.hid hR
  rw [← hR] at hf6 HWH
  clear hR
  obtain ⟨c1a, c2a, c3a, c4a, c5a, c6a, c7a, c8a, c9a, rfl, ra1, ra2, ra3⟩ := id hf6
  rw [HWH.out.1, HWH.out.2] at hf6
  have HRR := Lib.hid (And.intro ra1.rng (And.intro ra2.rng ra3.rng))
  clear ra1 ra2 ra3
  have HF6 := Lib.hid hf6
  clear hf6
  rw [HWH.out.1, HWH.out.2]
  have z5 := hb5.size
  have B6 := B5.trans (hb6.mono B5.size)
  have x6 := x5.ext hb6
  have y6 := y5.ext hb6
  have zb6 := hb6.size
  clear g0 g1 g2 g3 g4 h0 h1' h2' h3' h4' x5 y5 k1 k2 k3 k4 k5 k6 k7 k8
  have h0 := y6.cell 0 rfl
  have h1' := y6.cell 1 rfl
  have h2' := y6.cell 2 rfl
  have h3' := y6.cell 3 rfl
  have h4' := y6.cell 4 rfl
  have q0 := y6.frozen 0
  have q1 := y6.frozen 1
  have q2 := y6.frozen 2
  have q3 := y6.frozen 3
  have q4 := y6.frozen 4
  have lx6 := x6.lt
  have ly6 := y6.lt
  go_upto_region 10 with fail
  have hw7 : ∃ w7, w7 = ((((w6.setCell ⟨w3.heap.size, 0, none⟩ (.int .i64 16)).setCell ⟨w3.heap.size, 1, none⟩ (.int .i64 16)).setCell ⟨w3.heap.size, 2, none⟩ (.slice c1a c2a c3a)).setCell ⟨w3.heap.size, 3, none⟩ (.slice c4a c5a c6a)).setCell ⟨w3.heap.size, 4, none⟩ (.slice c7a c8a c9a) := ⟨_, rfl⟩
  have z34 := hb4.size
  have z3 := B3.size
  obtain ⟨w7, hw7⟩ := hw7
  have y7 : Bx w7 w3.heap.size 24 #[.int .i64 16, .int .i64 16, .slice c1a c2a c3a, .slice c4a c5a c6a, .slice c7a c8a c9a] := by rw [hw7]; exact ((((y6.set_ 0 _).set_ 1 _).set_ 2 _).set_ 3 _).set_ 4 _
  have hne : w.heap.size ≠ w3.heap.size := by omega
  have x7 : Bx w7 w.heap.size 24 #[.int .i64 f.W, .int .i64 f.H, .slice ya yn yc, .slice ua un uc, .slice va vn vc] := by rw [hw7]; exact ((((x6.far (a := ⟨w3.heap.size, 0, none⟩) hne _).far (a := ⟨w3.heap.size, 1, none⟩) hne _).far (a := ⟨w3.heap.size, 2, none⟩) hne _).far (a := ⟨w3.heap.size, 3, none⟩) hne _).far (a := ⟨w3.heap.size, 4, none⟩) hne _
  have B7 : Below w.heap.size w w7 := by rw [hw7]; exact bsetS (bsetS (bsetS (bsetS (bsetS B6 ⟨w3.heap.size, 0, none⟩ z3 _) ⟨w3.heap.size, 1, none⟩ z3 _) ⟨w3.heap.size, 2, none⟩ z3 _) ⟨w3.heap.size, 3, none⟩ z3 _) ⟨w3.heap.size, 4, none⟩ z3 _
  have hlt35 : w3.heap.size < w5.heap.size := by omega
  have HF7 : Hid (IsFr (w5.heap.size ≤ ·) w7 (.agg #[.int .i64 16, .int .i64 16, .slice c1a c2a c3a, .slice c4a c5a c6a, .slice c7a c8a c9a]) R) := Lib.hid (by
    rw [hw7]
    refine ((((HF6.out.setCell (a := ⟨w3.heap.size, 0, none⟩) ?_ _).setCell (a := ⟨w3.heap.size, 1, none⟩) ?_ _).setCell (a := ⟨w3.heap.size, 2, none⟩) ?_ _).setCell (a := ⟨w3.heap.size, 3, none⟩) ?_ _).setCell (a := ⟨w3.heap.size, 4, none⟩) ?_ _ <;> (dsimp only; omega))
  rw [← hw7]
  clear hw7 h0 h1' h2' h3' h4' q0 q1 q2 q3 q4 y6 x6 B6 lx6 ly6
  go_wp2_with fail
  refine (ref_Blank 16 16 (by omega) (by omega) (by omega) (by omega) _).mono ?_
  rintro e w8 ⟨v8, rfl, hO, hb8⟩
  obtain ⟨N, hN⟩ : ∃ N, N = 256 := ⟨_, rfl⟩
  obtain ⟨M, hM⟩ : ∃ M, M = 64 := ⟨_, rfl⟩
  obtain ⟨g1, g2, g3, rfl, hrows⟩ := blank_rows hO N M hN hM
  have HN := Lib.hid hN
  have HM2 := Lib.hid hM
  have B8 := B7.trans (hb8.mono B7.size)
  have x8 := x7.ext hb8
  have y8 := y7.ext hb8
  have lg1 := (hrows.o1.lt g1 rfl)
  have lg2 := (hrows.o2.lt g2 rfl)
  have lg3 := (hrows.o3.lt g3 rfl)
  have z07 := B7.size
  have HB78 := hb8
  have z8 := hb8.size
  have l7 := y7.lt
  clear hb8 hO hN hM x7 y7 B7
  go_upto_region 11 with fail
  have x9 := x8.alloc (.cells #[.int .i64 16, .int .i64 16, .slice (some ⟨g1, 0, none⟩) N N, .slice (some ⟨g2, 0, none⟩) M M, .slice (some ⟨g3, 0, none⟩) M M] 24)
  have y9 := y8.alloc (.cells #[.int .i64 16, .int .i64 16, .slice (some ⟨g1, 0, none⟩) N N, .slice (some ⟨g2, 0, none⟩) M M, .slice (some ⟨g3, 0, none⟩) M M] 24)
  have HB79 := Lib.hid (HB78.alloc z8 (.cells #[.int .i64 16, .int .i64 16, .slice (some ⟨g1, 0, none⟩) N N, .slice (some ⟨g2, 0, none⟩) M M, .slice (some ⟨g3, 0, none⟩) M M] 24))
  have m9 := Bx.new w8 24 #[.int .i64 16, .int .i64 16, .slice (some ⟨g1, 0, none⟩) N N, .slice (some ⟨g2, 0, none⟩) M M, .slice (some ⟨g3, 0, none⟩) M M]
  have r9 := hrows.ext ((Below.refl _ w8).alloc (Nat.le_refl _) (.cells #[.int .i64 16, .int .i64 16, .slice (some ⟨g1, 0, none⟩) N N, .slice (some ⟨g2, 0, none⟩) M M, .slice (some ⟨g3, 0, none⟩) M M] 24))
  have B9 := B8.alloc B8.size (.cells #[.int .i64 16, .int .i64 16, .slice (some ⟨g1, 0, none⟩) N N, .slice (some ⟨g2, 0, none⟩) M M, .slice (some ⟨g3, 0, none⟩) M M] 24)
  generalize w8.alloc (.cells #[.int .i64 16, .int .i64 16, .slice (some ⟨g1, 0, none⟩) N N, .slice (some ⟨g2, 0, none⟩) M M, .slice (some ⟨g3, 0, none⟩) M M] 24) = w9 at *
  have lm := m9.lt
  generalize w8.heap.size = gm at *
  have HRW := Lib.hid r9
  clear x8 y8 B8 hrows r9 HB78
  obtain ⟨c0, c1, c2, c3, c4⟩ := x9.cells5
  obtain ⟨d0, d1, d2, d3, d4⟩ := m9.cells5
  have lx9 := x9.lt
  have HFX := Lib.hid hfx
  have HFY := Lib.hid hfy
  go_wp2_with fail
  obtain ⟨fa, fb, hWa, hHb, fa1, fa2, fb1, fb2, lY, lU, lV⟩ := valid_sizes HV.out
  obtain ⟨cw, hcw⟩ : ∃ cw, cw = f.W.toNat := ⟨_, rfl⟩
  have hWc : f.W = (cw : Int) := by omega
  have hcw16 : cw = 16 * fa := by omega
  have bx : fx + 16 ≤ 16 * fa := by omega
  have by_ : fy + 16 ≤ 16 * fb := by omega
  have hPF := piece_paste (f := f) (N := N) (M := M) (cw := cw) (fx := fx) (fy := fy) HN.out HM2.out (by omega)
  have q1 : 16 * fa / 2 = 8 * fa := by omega
  have hpaste := ref_Paste (p := (· < w.heap.size)) _ (blankF N M) f w7.heap.size g1 N N g2 M M g3 M M 16 0 0 cw fx fy 16 16 16 w9 HRW.out ((HF.out.mono (q := (· < w.heap.size)) (fun _ h _ => h)).ext B9) (fun b hb => Nat.lt_of_lt_of_le hb (by omega)) hWc (by omega) (by omega) (by omega) (by omega) (by omega) (by omega) (by omega) (by omega) (by omega)
    (fun r hr => by show _ ≤ (List.replicate N (0 : Int)).length; rw [List.length_replicate, HN.out]; omega)
    (fun r hr => by rw [lY, hcw16]; exact piece_fit bx (by omega))
    (fun r hr => by show _ ≤ (List.replicate M (0 : Int)).length; rw [List.length_replicate, HM2.out]; omega)
    (fun r hr => by rw [lU, hcw16, q1]; exact piece_fit (by omega) (by omega))
    (fun r hr => by show _ ≤ (List.replicate M (0 : Int)).length; rw [List.length_replicate, HM2.out]; omega)
    (fun r hr => by rw [lV, hcw16, q1]; exact piece_fit (by omega) (by omega))
  rw [hPF, ← HR.out] at hpaste
  refine hpaste.mono ?_
  rintro e w10 ⟨rfl, r10, hb10, hk10⟩
  clear hpaste c0 c1 c2 c3 c4 d0 d1 d2 d3 d4
  have m10 : Bx w10 gm 24 _ := m9.keep (hk10 gm lm (by omega) (by omega) (by omega))
  have y10 := y9.below hb10 (by omega)
  have HFA := Lib.hid (HF7.out.ext (HB79.out.trans hb10))
  have B10 := B9.trans (hb10.mono (by omega))
  have hfin := rows_isFr r10 HRR.out.1 HRR.out.2.1 HRR.out.2.2
  rw [HWH.out.1, HWH.out.2] at hfin
  have HFB := Lib.hid hfin
  clear hfin hk10 r10 y9 m9 B9 x9
  go_wp2_with fail
  refine (law_awake _).mono ?_
  rintro e w11 ⟨rfl, hb11⟩
  have m11 := m10.ext hb11
  have y11 := y10.ext hb11
  have B11 := B10.trans (hb11.mono B10.size)
  have HFA1 := Lib.hid (HFA.out.ext hb11)
  have HFB1 := Lib.hid (HFB.out.ext hb11)
  obtain ⟨c0, c1, c2, c3, c4⟩ := y11.cells5
  obtain ⟨d0, d1, d2, d3, d4⟩ := m11.cells5
  have lx11 := y11.lt
  have lm11 := m11.lt
  go_wp2_with fail
  refine (ref_Equal _ _ R R _ HFA1.out HFB1.out).mono ?_
  rintro e w12 ⟨rfl, hb12⟩
  rw [eqB_self]
  go_wp2_with fail
  go_ret
  exact ⟨rfl, B11.trans (hb12.mono B11.size)⟩
end Go.Proofs.Ytaedpadkpclldaa
