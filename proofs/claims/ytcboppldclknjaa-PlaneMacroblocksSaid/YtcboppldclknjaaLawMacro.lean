/- The law PlaneMacroblocks returns true for all frames and numbers. -/
import Derived.Test.YtcboppldclknjaaSrC
import Derived.Test.YtcboppldclknjaaPAwake
namespace Go.Proofs.Ytcboppldclknjaa
open Go.RowKit

set_option maxRecDepth 100000 in
set_option maxHeartbeats 16000000 in
theorem law_PlaneMacroblocks {p p' : Nat → Prop} (v u : Value) (f m : Fr) (mx my : Int) (w : World) (hf : IsFr p w v f) (hm : IsFr p' w u m) (hc : CapsOK v) (hcm : CapsOK u) :
    Calls Try.prog 11 #[v, u, .int .i64 mx, .int .i64 my] w fun e w' => e = .returned (.bool true) ∧ Below w.heap.size w w' := by
  have hfA := hf.mono (q := (· < w.heap.size)) (fun _ h _ => h)
  have hmA := hm.mono (q := (· < w.heap.size)) (fun _ h _ => h)
  obtain ⟨a1, a2, a3, a4, a5, a6, a7, a8, a9, rfl, _, _, _⟩ := hf
  obtain ⟨b1, b2, b3, b4, b5, b6, b7, b8, b9, rfl, _, _, _⟩ := hm
  obtain ⟨R1, x1, hR1⟩ : ∃ R er, macroF f mx my = (R, er) := ⟨_, _, rfl⟩
  obtain ⟨R2, x2, hR2⟩ : ∃ R er, setMbF f m mx my = (R, er) := ⟨_, _, rfl⟩
  obtain ⟨R3, x3, hR3⟩ : ∃ R er, setRowF f m my = (R, er) := ⟨_, _, rfl⟩
  have HR1 := Lib.hid hR1
  have HR2 := Lib.hid hR2
  have HR3 := Lib.hid hR3
  clear hR1 hR2 hR3
  have n1 : (x1 != x1) = false := by simp
  have n2 : (x2 != x2) = false := by simp
  have n3 : (x3 == x3) = true := by simp
  have E1 : eqB R1 R1 = true := eqB_self R1
  have E2 : eqB R2 R2 = true := eqB_self R2
  have E3 : eqB R3 R3 = true := eqB_self R3
  by_cases hl1 : lightB f = true
  · by_cases hl2 : lightB m = true
    · go_enter Try.func11, Try.ntmps11
      go_wp2_with fail
      refine (law_light _ f _ (by (repeat with_reducible apply IsFr.alloc); exact hfA)).mono ?_
      rintro e w1 ⟨rfl, hb1⟩
      have BA : Below w.heap.size w w1 := (((Below.refl _ w).alloc (by simp) _).alloc (by simp) _).trans (hb1.mono (by simp; omega))
      have xA : Bx w1 w.heap.size 24 #[.int .i64 f.W, .int .i64 f.H, .slice a1 a2 a3, .slice a4 a5 a6, .slice a7 a8 a9] := ((Bx.new w _ _).alloc _).ext hb1
      have xB : Bx w1 (w.heap.size + 1) 24 #[.int .i64 m.W, .int .i64 m.H, .slice b1 b2 b3, .slice b4 b5 b6, .slice b7 b8 b9] := (Bx.new' _ _ _ _ (by simp)).ext hb1
      clear hb1
      have hfB := hfA.ext BA
      have hmB := hmA.ext BA
      clear hfA hmA
      obtain ⟨xA0, xA1, xA2, xA3, xA4⟩ := xA.cells5
      have xAl := xA.lt
      obtain ⟨xB0, xB1, xB2, xB3, xB4⟩ := xB.cells5
      have xBl := xB.lt
      go_wp2_with fail
      clear xA0 xA1 xA2 xA3 xA4 xAl
      clear xB0 xB1 xB2 xB3 xB4 xBl
      refine (law_light _ m _ hmB).mono ?_
      rintro e w2 ⟨rfl, hb2⟩
      replace xA := xA.ext hb2
      replace xB := xB.ext hb2
      replace hfB := hfB.ext hb2
      replace hmB := hmB.ext hb2
      have zz2 := hb2.size
      replace BA := BA.trans (hb2.mono BA.size)
      clear hb2
      obtain ⟨xA0, xA1, xA2, xA3, xA4⟩ := xA.cells5
      have xAl := xA.lt
      obtain ⟨xB0, xB1, xB2, xB3, xB4⟩ := xB.cells5
      have xBl := xB.lt
      go_wp2_with fail
      clear xA0 xA1 xA2 xA3 xA4 xAl
      clear xB0 xB1 xB2 xB3 xB4 xBl
      refine (plane_Macroblock _ f mx my _ hfB hc).mono ?_
      rw [HR1.out]
      rintro e w3 ⟨v3, rfl, hc3, hf3, hb3⟩
      replace xA := xA.ext hb3
      replace xB := xB.ext hb3
      replace hfB := hfB.ext hb3
      replace hmB := hmB.ext hb3
      have zz3 := hb3.size
      replace BA := BA.trans (hb3.mono BA.size)
      clear hb3
      have hf30 := hf3
      obtain ⟨c1, c2, c3, c4, c5, c6, c7, c8, c9, rfl, _, _, _⟩ := hf30
      have BSZ := BA.size
      obtain ⟨xA0, xA1, xA2, xA3, xA4⟩ := xA.cells5
      have xAl := xA.lt
      obtain ⟨xB0, xB1, xB2, xB3, xB4⟩ := xB.cells5
      have xBl := xB.lt
      go_upto_region 4 with fail
      clear xA0 xA1 xA2 xA3 xA4 xAl
      clear xB0 xB1 xB2 xB3 xB4 xBl
      have lp1xA := xA.lt
      have lp1xB := xB.lt
      replace xA := xA.alloc (.cells #[.int .i64 R1.W, .int .i64 R1.H, .slice c1 c2 c3, .slice c4 c5 c6, .slice c7 c8 c9] 24)
      replace xB := xB.alloc (.cells #[.int .i64 R1.W, .int .i64 R1.H, .slice c1 c2 c3, .slice c4 c5 c6, .slice c7 c8 c9] 24)
      replace hfB := hfB.alloc (.cells #[.int .i64 R1.W, .int .i64 R1.H, .slice c1 c2 c3, .slice c4 c5 c6, .slice c7 c8 c9] 24)
      replace hmB := hmB.alloc (.cells #[.int .i64 R1.W, .int .i64 R1.H, .slice c1 c2 c3, .slice c4 c5 c6, .slice c7 c8 c9] 24)
      replace hf3 := hf3.alloc (.cells #[.int .i64 R1.W, .int .i64 R1.H, .slice c1 c2 c3, .slice c4 c5 c6, .slice c7 c8 c9] 24)
      have xC := Bx.new w3 24 #[.int .i64 R1.W, .int .i64 R1.H, .slice c1 c2 c3, .slice c4 c5 c6, .slice c7 c8 c9]
      replace BA := BA.alloc BA.size (.cells #[.int .i64 R1.W, .int .i64 R1.H, .slice c1 c2 c3, .slice c4 c5 c6, .slice c7 c8 c9] 24)
      have lbxC : w3.heap.size < (w3.alloc (.cells #[.int .i64 R1.W, .int .i64 R1.H, .slice c1 c2 c3, .slice c4 c5 c6, .slice c7 c8 c9] 24)).heap.size := xC.lt
      generalize w3.alloc (.cells #[.int .i64 R1.W, .int .i64 R1.H, .slice c1 c2 c3, .slice c4 c5 c6, .slice c7 c8 c9] 24) = w4 at *
      have llxCxA := xA.lt
      have llxCxB := xB.lt
      have szxC : w.heap.size ≤ w3.heap.size := BSZ
      generalize w3.heap.size = xCg at *
      clear BSZ
      obtain ⟨xA0, xA1, xA2, xA3, xA4⟩ := xA.cells5
      have xAl := xA.lt
      obtain ⟨xB0, xB1, xB2, xB3, xB4⟩ := xB.cells5
      have xBl := xB.lt
      obtain ⟨xC0, xC1, xC2, xC3, xC4⟩ := xC.cells5
      have xCl := xC.lt
      go_wp2_with fail
      clear xA0 xA1 xA2 xA3 xA4 xAl
      clear xB0 xB1 xB2 xB3 xB4 xBl
      clear xC0 xC1 xC2 xC3 xC4 xCl
      refine (ref_Macroblock _ f mx my _ hfB).mono ?_
      rw [HR1.out]
      rintro e w5 ⟨v5, rfl, hc5, hf5, hb5⟩
      replace xA := xA.ext hb5
      replace xB := xB.ext hb5
      replace xC := xC.ext hb5
      replace hfB := hfB.ext hb5
      replace hmB := hmB.ext hb5
      replace hf3 := hf3.ext hb5
      have zz5 := hb5.size
      replace BA := BA.trans (hb5.mono BA.size)
      clear hb5
      have hf50 := hf5
      obtain ⟨d1, d2, d3, d4, d5, d6, d7, d8, d9, rfl, _, _, _⟩ := hf50
      have BSZ := BA.size
      obtain ⟨xA0, xA1, xA2, xA3, xA4⟩ := xA.cells5
      have xAl := xA.lt
      obtain ⟨xB0, xB1, xB2, xB3, xB4⟩ := xB.cells5
      have xBl := xB.lt
      obtain ⟨xC0, xC1, xC2, xC3, xC4⟩ := xC.cells5
      have xCl := xC.lt
      go_upto_region 5 with fail
      clear xA0 xA1 xA2 xA3 xA4 xAl
      clear xB0 xB1 xB2 xB3 xB4 xBl
      clear xC0 xC1 xC2 xC3 xC4 xCl
      have lp2xA := xA.lt
      have lp2xB := xB.lt
      have lp2xC := xC.lt
      replace xA := xA.alloc (.cells #[.int .i64 R1.W, .int .i64 R1.H, .slice d1 d2 d3, .slice d4 d5 d6, .slice d7 d8 d9] 24)
      replace xB := xB.alloc (.cells #[.int .i64 R1.W, .int .i64 R1.H, .slice d1 d2 d3, .slice d4 d5 d6, .slice d7 d8 d9] 24)
      replace xC := xC.alloc (.cells #[.int .i64 R1.W, .int .i64 R1.H, .slice d1 d2 d3, .slice d4 d5 d6, .slice d7 d8 d9] 24)
      replace hfB := hfB.alloc (.cells #[.int .i64 R1.W, .int .i64 R1.H, .slice d1 d2 d3, .slice d4 d5 d6, .slice d7 d8 d9] 24)
      replace hmB := hmB.alloc (.cells #[.int .i64 R1.W, .int .i64 R1.H, .slice d1 d2 d3, .slice d4 d5 d6, .slice d7 d8 d9] 24)
      replace hf3 := hf3.alloc (.cells #[.int .i64 R1.W, .int .i64 R1.H, .slice d1 d2 d3, .slice d4 d5 d6, .slice d7 d8 d9] 24)
      replace hf5 := hf5.alloc (.cells #[.int .i64 R1.W, .int .i64 R1.H, .slice d1 d2 d3, .slice d4 d5 d6, .slice d7 d8 d9] 24)
      have xD := Bx.new w5 24 #[.int .i64 R1.W, .int .i64 R1.H, .slice d1 d2 d3, .slice d4 d5 d6, .slice d7 d8 d9]
      replace BA := BA.alloc BA.size (.cells #[.int .i64 R1.W, .int .i64 R1.H, .slice d1 d2 d3, .slice d4 d5 d6, .slice d7 d8 d9] 24)
      have lbxD : w5.heap.size < (w5.alloc (.cells #[.int .i64 R1.W, .int .i64 R1.H, .slice d1 d2 d3, .slice d4 d5 d6, .slice d7 d8 d9] 24)).heap.size := xD.lt
      generalize w5.alloc (.cells #[.int .i64 R1.W, .int .i64 R1.H, .slice d1 d2 d3, .slice d4 d5 d6, .slice d7 d8 d9] 24) = w6 at *
      have llxDxA := xA.lt
      have llxDxB := xB.lt
      have llxDxC := xC.lt
      have szxD : w.heap.size ≤ w5.heap.size := BSZ
      generalize w5.heap.size = xDg at *
      clear BSZ
      obtain ⟨xA0, xA1, xA2, xA3, xA4⟩ := xA.cells5
      have xAl := xA.lt
      obtain ⟨xB0, xB1, xB2, xB3, xB4⟩ := xB.cells5
      have xBl := xB.lt
      obtain ⟨xC0, xC1, xC2, xC3, xC4⟩ := xC.cells5
      have xCl := xC.lt
      obtain ⟨xD0, xD1, xD2, xD3, xD4⟩ := xD.cells5
      have xDl := xD.lt
      go_wp2_with fail
      clear xA0 xA1 xA2 xA3 xA4 xAl
      clear xB0 xB1 xB2 xB3 xB4 xBl
      clear xC0 xC1 xC2 xC3 xC4 xCl
      clear xD0 xD1 xD2 xD3 xD4 xDl
      refine (ref_Equal _ _ R1 R1 _ hf3 hf5).mono ?_
      rintro e w7 ⟨rfl, hb7⟩
      replace xA := xA.ext hb7
      replace xB := xB.ext hb7
      replace xC := xC.ext hb7
      replace xD := xD.ext hb7
      replace hfB := hfB.ext hb7
      replace hmB := hmB.ext hb7
      replace hf3 := hf3.ext hb7
      replace hf5 := hf5.ext hb7
      have zz7 := hb7.size
      replace BA := BA.trans (hb7.mono BA.size)
      clear hb7
      obtain ⟨xA0, xA1, xA2, xA3, xA4⟩ := xA.cells5
      have xAl := xA.lt
      obtain ⟨xB0, xB1, xB2, xB3, xB4⟩ := xB.cells5
      have xBl := xB.lt
      obtain ⟨xC0, xC1, xC2, xC3, xC4⟩ := xC.cells5
      have xCl := xC.lt
      obtain ⟨xD0, xD1, xD2, xD3, xD4⟩ := xD.cells5
      have xDl := xD.lt
      go_wp2_with fail
      clear xA0 xA1 xA2 xA3 xA4 xAl
      clear xB0 xB1 xB2 xB3 xB4 xBl
      clear xC0 xC1 xC2 xC3 xC4 xCl
      clear xD0 xD1 xD2 xD3 xD4 xDl
      clear hf3 hf5
      refine (plane_SetMacroblock _ _ f m mx my _ hfB hmB hcm).mono ?_
      rw [HR2.out]
      rintro e w8 ⟨v8, rfl, hc8, hf8, hb8⟩
      replace xA := xA.ext hb8
      replace xB := xB.ext hb8
      replace xC := xC.ext hb8
      replace xD := xD.ext hb8
      replace hfB := hfB.ext hb8
      replace hmB := hmB.ext hb8
      have zz8 := hb8.size
      replace BA := BA.trans (hb8.mono BA.size)
      clear hb8
      have hf80 := hf8
      obtain ⟨i1, i2, i3, i4, i5, i6, i7, i8, i9, rfl, _, _, _⟩ := hf80
      replace hf8 := hf8.mono (q := (xDg < ·)) (fun b _ h => by omega)
      obtain ⟨xA0, xA1, xA2, xA3, xA4⟩ := xA.cells5
      have xAl := xA.lt
      obtain ⟨xB0, xB1, xB2, xB3, xB4⟩ := xB.cells5
      have xBl := xB.lt
      obtain ⟨xC0, xC1, xC2, xC3, xC4⟩ := xC.cells5
      have xCl := xC.lt
      obtain ⟨xD0, xD1, xD2, xD3, xD4⟩ := xD.cells5
      have xDl := xD.lt
      have fz0 := xC.frozen 0
      have fz1 := xC.frozen 1
      have fz2 := xC.frozen 2
      have fz3 := xC.frozen 3
      have fz4 := xC.frozen 4
      go_upto_region 8 with fail
      clear fz0 fz1 fz2 fz3 fz4
      clear xA0 xA1 xA2 xA3 xA4 xAl
      clear xB0 xB1 xB2 xB3 xB4 xBl
      clear xC0 xC1 xC2 xC3 xC4 xCl
      clear xD0 xD1 xD2 xD3 xD4 xDl
      have ne_xA : w.heap.size ≠ xCg := by omega
      replace xA : Bx (((((w8.setCell ⟨xCg, 0, none⟩ (.int .i64 R2.W)).setCell ⟨xCg, 1, none⟩ (.int .i64 R2.H)).setCell ⟨xCg, 2, none⟩ (.slice i1 i2 i3)).setCell ⟨xCg, 3, none⟩ (.slice i4 i5 i6)).setCell ⟨xCg, 4, none⟩ (.slice i7 i8 i9)) (w.heap.size) 24 _ := (((((xA.far ne_xA _).far ne_xA _).far ne_xA _).far ne_xA _).far ne_xA _)
      clear ne_xA
      have ne_xB : w.heap.size + 1 ≠ xCg := by omega
      replace xB : Bx (((((w8.setCell ⟨xCg, 0, none⟩ (.int .i64 R2.W)).setCell ⟨xCg, 1, none⟩ (.int .i64 R2.H)).setCell ⟨xCg, 2, none⟩ (.slice i1 i2 i3)).setCell ⟨xCg, 3, none⟩ (.slice i4 i5 i6)).setCell ⟨xCg, 4, none⟩ (.slice i7 i8 i9)) (w.heap.size + 1) 24 _ := (((((xB.far ne_xB _).far ne_xB _).far ne_xB _).far ne_xB _).far ne_xB _)
      clear ne_xB
      replace xC := xC.put5 (.int .i64 R2.W) (.int .i64 R2.H) (.slice i1 i2 i3) (.slice i4 i5 i6) (.slice i7 i8 i9)
      have ne_xD : xDg ≠ xCg := by omega
      replace xD : Bx (((((w8.setCell ⟨xCg, 0, none⟩ (.int .i64 R2.W)).setCell ⟨xCg, 1, none⟩ (.int .i64 R2.H)).setCell ⟨xCg, 2, none⟩ (.slice i1 i2 i3)).setCell ⟨xCg, 3, none⟩ (.slice i4 i5 i6)).setCell ⟨xCg, 4, none⟩ (.slice i7 i8 i9)) (xDg) 24 _ := (((((xD.far ne_xD _).far ne_xD _).far ne_xD _).far ne_xD _).far ne_xD _)
      clear ne_xD
      have np_hfB : ¬ (xCg < w.heap.size) := by omega
      replace hfB := (((((hfB.setCell (a := ⟨xCg, 0, none⟩) np_hfB (.int .i64 R2.W)).setCell (a := ⟨xCg, 1, none⟩) np_hfB (.int .i64 R2.H)).setCell (a := ⟨xCg, 2, none⟩) np_hfB (.slice i1 i2 i3)).setCell (a := ⟨xCg, 3, none⟩) np_hfB (.slice i4 i5 i6)).setCell (a := ⟨xCg, 4, none⟩) np_hfB (.slice i7 i8 i9))
      clear np_hfB
      have np_hmB : ¬ (xCg < w.heap.size) := by omega
      replace hmB := (((((hmB.setCell (a := ⟨xCg, 0, none⟩) np_hmB (.int .i64 R2.W)).setCell (a := ⟨xCg, 1, none⟩) np_hmB (.int .i64 R2.H)).setCell (a := ⟨xCg, 2, none⟩) np_hmB (.slice i1 i2 i3)).setCell (a := ⟨xCg, 3, none⟩) np_hmB (.slice i4 i5 i6)).setCell (a := ⟨xCg, 4, none⟩) np_hmB (.slice i7 i8 i9))
      clear np_hmB
      have np_hf8 : ¬ (xDg < xCg) := by omega
      replace hf8 := (((((hf8.setCell (a := ⟨xCg, 0, none⟩) np_hf8 (.int .i64 R2.W)).setCell (a := ⟨xCg, 1, none⟩) np_hf8 (.int .i64 R2.H)).setCell (a := ⟨xCg, 2, none⟩) np_hf8 (.slice i1 i2 i3)).setCell (a := ⟨xCg, 3, none⟩) np_hf8 (.slice i4 i5 i6)).setCell (a := ⟨xCg, 4, none⟩) np_hf8 (.slice i7 i8 i9))
      clear np_hf8
      replace BA : Below w.heap.size w (((((w8.setCell ⟨xCg, 0, none⟩ (.int .i64 R2.W)).setCell ⟨xCg, 1, none⟩ (.int .i64 R2.H)).setCell ⟨xCg, 2, none⟩ (.slice i1 i2 i3)).setCell ⟨xCg, 3, none⟩ (.slice i4 i5 i6)).setCell ⟨xCg, 4, none⟩ (.slice i7 i8 i9)) := (((((BA.setCell (by simp; omega) _).setCell (by simp; omega) _).setCell (by simp; omega) _).setCell (by simp; omega) _).setCell (by simp; omega) _)
      generalize (((((w8.setCell ⟨xCg, 0, none⟩ (.int .i64 R2.W)).setCell ⟨xCg, 1, none⟩ (.int .i64 R2.H)).setCell ⟨xCg, 2, none⟩ (.slice i1 i2 i3)).setCell ⟨xCg, 3, none⟩ (.slice i4 i5 i6)).setCell ⟨xCg, 4, none⟩ (.slice i7 i8 i9)) = wp8 at *
      have lswp8xA := xA.lt
      have lswp8xB := xB.lt
      have lswp8xC := xC.lt
      have lswp8xD := xD.lt
      obtain ⟨xA0, xA1, xA2, xA3, xA4⟩ := xA.cells5
      have xAl := xA.lt
      obtain ⟨xB0, xB1, xB2, xB3, xB4⟩ := xB.cells5
      have xBl := xB.lt
      obtain ⟨xC0, xC1, xC2, xC3, xC4⟩ := xC.cells5
      have xCl := xC.lt
      obtain ⟨xD0, xD1, xD2, xD3, xD4⟩ := xD.cells5
      have xDl := xD.lt
      go_wp2_with fail
      clear xA0 xA1 xA2 xA3 xA4 xAl
      clear xB0 xB1 xB2 xB3 xB4 xBl
      clear xC0 xC1 xC2 xC3 xC4 xCl
      clear xD0 xD1 xD2 xD3 xD4 xDl
      refine (ref_SetMacroblock _ _ f m mx my _ hfB hmB).mono ?_
      rw [HR2.out]
      rintro e w9 ⟨v9, rfl, hc9, hf9, hb9⟩
      replace xA := xA.ext hb9
      replace xB := xB.ext hb9
      replace xC := xC.ext hb9
      replace xD := xD.ext hb9
      replace hfB := hfB.ext hb9
      replace hmB := hmB.ext hb9
      replace hf8 := hf8.ext hb9
      have zz9 := hb9.size
      replace BA := BA.trans (hb9.mono BA.size)
      clear hb9
      have hf90 := hf9
      obtain ⟨j1, j2, j3, j4, j5, j6, j7, j8, j9, rfl, _, _, _⟩ := hf90
      replace hf9 := hf9.mono (q := (xDg < ·)) (fun b _ h => by omega)
      obtain ⟨xA0, xA1, xA2, xA3, xA4⟩ := xA.cells5
      have xAl := xA.lt
      obtain ⟨xB0, xB1, xB2, xB3, xB4⟩ := xB.cells5
      have xBl := xB.lt
      obtain ⟨xC0, xC1, xC2, xC3, xC4⟩ := xC.cells5
      have xCl := xC.lt
      obtain ⟨xD0, xD1, xD2, xD3, xD4⟩ := xD.cells5
      have xDl := xD.lt
      have fz0 := xD.frozen 0
      have fz1 := xD.frozen 1
      have fz2 := xD.frozen 2
      have fz3 := xD.frozen 3
      have fz4 := xD.frozen 4
      go_upto_region 9 with fail
      clear fz0 fz1 fz2 fz3 fz4
      clear xA0 xA1 xA2 xA3 xA4 xAl
      clear xB0 xB1 xB2 xB3 xB4 xBl
      clear xC0 xC1 xC2 xC3 xC4 xCl
      clear xD0 xD1 xD2 xD3 xD4 xDl
      have ne_xA : w.heap.size ≠ xDg := by omega
      replace xA : Bx (((((w9.setCell ⟨xDg, 0, none⟩ (.int .i64 R2.W)).setCell ⟨xDg, 1, none⟩ (.int .i64 R2.H)).setCell ⟨xDg, 2, none⟩ (.slice j1 j2 j3)).setCell ⟨xDg, 3, none⟩ (.slice j4 j5 j6)).setCell ⟨xDg, 4, none⟩ (.slice j7 j8 j9)) (w.heap.size) 24 _ := (((((xA.far ne_xA _).far ne_xA _).far ne_xA _).far ne_xA _).far ne_xA _)
      clear ne_xA
      have ne_xB : w.heap.size + 1 ≠ xDg := by omega
      replace xB : Bx (((((w9.setCell ⟨xDg, 0, none⟩ (.int .i64 R2.W)).setCell ⟨xDg, 1, none⟩ (.int .i64 R2.H)).setCell ⟨xDg, 2, none⟩ (.slice j1 j2 j3)).setCell ⟨xDg, 3, none⟩ (.slice j4 j5 j6)).setCell ⟨xDg, 4, none⟩ (.slice j7 j8 j9)) (w.heap.size + 1) 24 _ := (((((xB.far ne_xB _).far ne_xB _).far ne_xB _).far ne_xB _).far ne_xB _)
      clear ne_xB
      have ne_xC : xCg ≠ xDg := by omega
      replace xC : Bx (((((w9.setCell ⟨xDg, 0, none⟩ (.int .i64 R2.W)).setCell ⟨xDg, 1, none⟩ (.int .i64 R2.H)).setCell ⟨xDg, 2, none⟩ (.slice j1 j2 j3)).setCell ⟨xDg, 3, none⟩ (.slice j4 j5 j6)).setCell ⟨xDg, 4, none⟩ (.slice j7 j8 j9)) (xCg) 24 _ := (((((xC.far ne_xC _).far ne_xC _).far ne_xC _).far ne_xC _).far ne_xC _)
      clear ne_xC
      replace xD := xD.put5 (.int .i64 R2.W) (.int .i64 R2.H) (.slice j1 j2 j3) (.slice j4 j5 j6) (.slice j7 j8 j9)
      have np_hfB : ¬ (xDg < w.heap.size) := by omega
      replace hfB := (((((hfB.setCell (a := ⟨xDg, 0, none⟩) np_hfB (.int .i64 R2.W)).setCell (a := ⟨xDg, 1, none⟩) np_hfB (.int .i64 R2.H)).setCell (a := ⟨xDg, 2, none⟩) np_hfB (.slice j1 j2 j3)).setCell (a := ⟨xDg, 3, none⟩) np_hfB (.slice j4 j5 j6)).setCell (a := ⟨xDg, 4, none⟩) np_hfB (.slice j7 j8 j9))
      clear np_hfB
      have np_hmB : ¬ (xDg < w.heap.size) := by omega
      replace hmB := (((((hmB.setCell (a := ⟨xDg, 0, none⟩) np_hmB (.int .i64 R2.W)).setCell (a := ⟨xDg, 1, none⟩) np_hmB (.int .i64 R2.H)).setCell (a := ⟨xDg, 2, none⟩) np_hmB (.slice j1 j2 j3)).setCell (a := ⟨xDg, 3, none⟩) np_hmB (.slice j4 j5 j6)).setCell (a := ⟨xDg, 4, none⟩) np_hmB (.slice j7 j8 j9))
      clear np_hmB
      have np_hf8 : ¬ (xDg < xDg) := by omega
      replace hf8 := (((((hf8.setCell (a := ⟨xDg, 0, none⟩) np_hf8 (.int .i64 R2.W)).setCell (a := ⟨xDg, 1, none⟩) np_hf8 (.int .i64 R2.H)).setCell (a := ⟨xDg, 2, none⟩) np_hf8 (.slice j1 j2 j3)).setCell (a := ⟨xDg, 3, none⟩) np_hf8 (.slice j4 j5 j6)).setCell (a := ⟨xDg, 4, none⟩) np_hf8 (.slice j7 j8 j9))
      clear np_hf8
      have np_hf9 : ¬ (xDg < xDg) := by omega
      replace hf9 := (((((hf9.setCell (a := ⟨xDg, 0, none⟩) np_hf9 (.int .i64 R2.W)).setCell (a := ⟨xDg, 1, none⟩) np_hf9 (.int .i64 R2.H)).setCell (a := ⟨xDg, 2, none⟩) np_hf9 (.slice j1 j2 j3)).setCell (a := ⟨xDg, 3, none⟩) np_hf9 (.slice j4 j5 j6)).setCell (a := ⟨xDg, 4, none⟩) np_hf9 (.slice j7 j8 j9))
      clear np_hf9
      replace BA : Below w.heap.size w (((((w9.setCell ⟨xDg, 0, none⟩ (.int .i64 R2.W)).setCell ⟨xDg, 1, none⟩ (.int .i64 R2.H)).setCell ⟨xDg, 2, none⟩ (.slice j1 j2 j3)).setCell ⟨xDg, 3, none⟩ (.slice j4 j5 j6)).setCell ⟨xDg, 4, none⟩ (.slice j7 j8 j9)) := (((((BA.setCell (by simp; omega) _).setCell (by simp; omega) _).setCell (by simp; omega) _).setCell (by simp; omega) _).setCell (by simp; omega) _)
      generalize (((((w9.setCell ⟨xDg, 0, none⟩ (.int .i64 R2.W)).setCell ⟨xDg, 1, none⟩ (.int .i64 R2.H)).setCell ⟨xDg, 2, none⟩ (.slice j1 j2 j3)).setCell ⟨xDg, 3, none⟩ (.slice j4 j5 j6)).setCell ⟨xDg, 4, none⟩ (.slice j7 j8 j9)) = wp9 at *
      have lswp9xA := xA.lt
      have lswp9xB := xB.lt
      have lswp9xC := xC.lt
      have lswp9xD := xD.lt
      obtain ⟨xA0, xA1, xA2, xA3, xA4⟩ := xA.cells5
      have xAl := xA.lt
      obtain ⟨xB0, xB1, xB2, xB3, xB4⟩ := xB.cells5
      have xBl := xB.lt
      obtain ⟨xC0, xC1, xC2, xC3, xC4⟩ := xC.cells5
      have xCl := xC.lt
      obtain ⟨xD0, xD1, xD2, xD3, xD4⟩ := xD.cells5
      have xDl := xD.lt
      go_wp2_with fail
      clear xA0 xA1 xA2 xA3 xA4 xAl
      clear xB0 xB1 xB2 xB3 xB4 xBl
      clear xC0 xC1 xC2 xC3 xC4 xCl
      clear xD0 xD1 xD2 xD3 xD4 xDl
      refine (ref_Equal _ _ R2 R2 _ hf8 hf9).mono ?_
      rintro e wq ⟨rfl, hbq⟩
      replace xA := xA.ext hbq
      replace xB := xB.ext hbq
      replace xC := xC.ext hbq
      replace xD := xD.ext hbq
      replace hfB := hfB.ext hbq
      replace hmB := hmB.ext hbq
      replace hf8 := hf8.ext hbq
      replace hf9 := hf9.ext hbq
      have zzq := hbq.size
      replace BA := BA.trans (hbq.mono BA.size)
      clear hbq
      obtain ⟨xA0, xA1, xA2, xA3, xA4⟩ := xA.cells5
      have xAl := xA.lt
      obtain ⟨xB0, xB1, xB2, xB3, xB4⟩ := xB.cells5
      have xBl := xB.lt
      obtain ⟨xC0, xC1, xC2, xC3, xC4⟩ := xC.cells5
      have xCl := xC.lt
      obtain ⟨xD0, xD1, xD2, xD3, xD4⟩ := xD.cells5
      have xDl := xD.lt
      go_wp2_with fail
      clear xA0 xA1 xA2 xA3 xA4 xAl
      clear xB0 xB1 xB2 xB3 xB4 xBl
      clear xC0 xC1 xC2 xC3 xC4 xCl
      clear xD0 xD1 xD2 xD3 xD4 xDl
      clear hf8 hf9
      refine (plane_SetRow _ _ f m my _ hfB hmB hcm).mono ?_
      rw [HR3.out]
      rintro e wr ⟨vr, rfl, hcr, hfr, hbr⟩
      replace xA := xA.ext hbr
      replace xB := xB.ext hbr
      replace xC := xC.ext hbr
      replace xD := xD.ext hbr
      replace hfB := hfB.ext hbr
      replace hmB := hmB.ext hbr
      have zzr := hbr.size
      replace BA := BA.trans (hbr.mono BA.size)
      clear hbr
      have hfr0 := hfr
      obtain ⟨k1, k2, k3, k4, k5, k6, k7, k8, k9, rfl, _, _, _⟩ := hfr0
      replace hfr := hfr.mono (q := (xDg < ·)) (fun b _ h => by omega)
      obtain ⟨xA0, xA1, xA2, xA3, xA4⟩ := xA.cells5
      have xAl := xA.lt
      obtain ⟨xB0, xB1, xB2, xB3, xB4⟩ := xB.cells5
      have xBl := xB.lt
      obtain ⟨xC0, xC1, xC2, xC3, xC4⟩ := xC.cells5
      have xCl := xC.lt
      obtain ⟨xD0, xD1, xD2, xD3, xD4⟩ := xD.cells5
      have xDl := xD.lt
      have fz0 := xC.frozen 0
      have fz1 := xC.frozen 1
      have fz2 := xC.frozen 2
      have fz3 := xC.frozen 3
      have fz4 := xC.frozen 4
      go_upto_region 12 with fail
      clear fz0 fz1 fz2 fz3 fz4
      clear xA0 xA1 xA2 xA3 xA4 xAl
      clear xB0 xB1 xB2 xB3 xB4 xBl
      clear xC0 xC1 xC2 xC3 xC4 xCl
      clear xD0 xD1 xD2 xD3 xD4 xDl
      have ne_xA : w.heap.size ≠ xCg := by omega
      replace xA : Bx (((((wr.setCell ⟨xCg, 0, none⟩ (.int .i64 R3.W)).setCell ⟨xCg, 1, none⟩ (.int .i64 R3.H)).setCell ⟨xCg, 2, none⟩ (.slice k1 k2 k3)).setCell ⟨xCg, 3, none⟩ (.slice k4 k5 k6)).setCell ⟨xCg, 4, none⟩ (.slice k7 k8 k9)) (w.heap.size) 24 _ := (((((xA.far ne_xA _).far ne_xA _).far ne_xA _).far ne_xA _).far ne_xA _)
      clear ne_xA
      have ne_xB : w.heap.size + 1 ≠ xCg := by omega
      replace xB : Bx (((((wr.setCell ⟨xCg, 0, none⟩ (.int .i64 R3.W)).setCell ⟨xCg, 1, none⟩ (.int .i64 R3.H)).setCell ⟨xCg, 2, none⟩ (.slice k1 k2 k3)).setCell ⟨xCg, 3, none⟩ (.slice k4 k5 k6)).setCell ⟨xCg, 4, none⟩ (.slice k7 k8 k9)) (w.heap.size + 1) 24 _ := (((((xB.far ne_xB _).far ne_xB _).far ne_xB _).far ne_xB _).far ne_xB _)
      clear ne_xB
      replace xC := xC.put5 (.int .i64 R3.W) (.int .i64 R3.H) (.slice k1 k2 k3) (.slice k4 k5 k6) (.slice k7 k8 k9)
      have ne_xD : xDg ≠ xCg := by omega
      replace xD : Bx (((((wr.setCell ⟨xCg, 0, none⟩ (.int .i64 R3.W)).setCell ⟨xCg, 1, none⟩ (.int .i64 R3.H)).setCell ⟨xCg, 2, none⟩ (.slice k1 k2 k3)).setCell ⟨xCg, 3, none⟩ (.slice k4 k5 k6)).setCell ⟨xCg, 4, none⟩ (.slice k7 k8 k9)) (xDg) 24 _ := (((((xD.far ne_xD _).far ne_xD _).far ne_xD _).far ne_xD _).far ne_xD _)
      clear ne_xD
      have np_hfB : ¬ (xCg < w.heap.size) := by omega
      replace hfB := (((((hfB.setCell (a := ⟨xCg, 0, none⟩) np_hfB (.int .i64 R3.W)).setCell (a := ⟨xCg, 1, none⟩) np_hfB (.int .i64 R3.H)).setCell (a := ⟨xCg, 2, none⟩) np_hfB (.slice k1 k2 k3)).setCell (a := ⟨xCg, 3, none⟩) np_hfB (.slice k4 k5 k6)).setCell (a := ⟨xCg, 4, none⟩) np_hfB (.slice k7 k8 k9))
      clear np_hfB
      have np_hmB : ¬ (xCg < w.heap.size) := by omega
      replace hmB := (((((hmB.setCell (a := ⟨xCg, 0, none⟩) np_hmB (.int .i64 R3.W)).setCell (a := ⟨xCg, 1, none⟩) np_hmB (.int .i64 R3.H)).setCell (a := ⟨xCg, 2, none⟩) np_hmB (.slice k1 k2 k3)).setCell (a := ⟨xCg, 3, none⟩) np_hmB (.slice k4 k5 k6)).setCell (a := ⟨xCg, 4, none⟩) np_hmB (.slice k7 k8 k9))
      clear np_hmB
      have np_hfr : ¬ (xDg < xCg) := by omega
      replace hfr := (((((hfr.setCell (a := ⟨xCg, 0, none⟩) np_hfr (.int .i64 R3.W)).setCell (a := ⟨xCg, 1, none⟩) np_hfr (.int .i64 R3.H)).setCell (a := ⟨xCg, 2, none⟩) np_hfr (.slice k1 k2 k3)).setCell (a := ⟨xCg, 3, none⟩) np_hfr (.slice k4 k5 k6)).setCell (a := ⟨xCg, 4, none⟩) np_hfr (.slice k7 k8 k9))
      clear np_hfr
      replace BA : Below w.heap.size w (((((wr.setCell ⟨xCg, 0, none⟩ (.int .i64 R3.W)).setCell ⟨xCg, 1, none⟩ (.int .i64 R3.H)).setCell ⟨xCg, 2, none⟩ (.slice k1 k2 k3)).setCell ⟨xCg, 3, none⟩ (.slice k4 k5 k6)).setCell ⟨xCg, 4, none⟩ (.slice k7 k8 k9)) := (((((BA.setCell (by simp; omega) _).setCell (by simp; omega) _).setCell (by simp; omega) _).setCell (by simp; omega) _).setCell (by simp; omega) _)
      generalize (((((wr.setCell ⟨xCg, 0, none⟩ (.int .i64 R3.W)).setCell ⟨xCg, 1, none⟩ (.int .i64 R3.H)).setCell ⟨xCg, 2, none⟩ (.slice k1 k2 k3)).setCell ⟨xCg, 3, none⟩ (.slice k4 k5 k6)).setCell ⟨xCg, 4, none⟩ (.slice k7 k8 k9)) = wpr at *
      have lswprxA := xA.lt
      have lswprxB := xB.lt
      have lswprxC := xC.lt
      have lswprxD := xD.lt
      obtain ⟨xA0, xA1, xA2, xA3, xA4⟩ := xA.cells5
      have xAl := xA.lt
      obtain ⟨xB0, xB1, xB2, xB3, xB4⟩ := xB.cells5
      have xBl := xB.lt
      obtain ⟨xC0, xC1, xC2, xC3, xC4⟩ := xC.cells5
      have xCl := xC.lt
      obtain ⟨xD0, xD1, xD2, xD3, xD4⟩ := xD.cells5
      have xDl := xD.lt
      go_wp2_with fail
      clear xA0 xA1 xA2 xA3 xA4 xAl
      clear xB0 xB1 xB2 xB3 xB4 xBl
      clear xC0 xC1 xC2 xC3 xC4 xCl
      clear xD0 xD1 xD2 xD3 xD4 xDl
      refine (ref_SetRow _ _ f m my _ hfB hmB).mono ?_
      rw [HR3.out]
      rintro e ws ⟨vs, rfl, hcs, hfs, hbs⟩
      replace xA := xA.ext hbs
      replace xB := xB.ext hbs
      replace xC := xC.ext hbs
      replace xD := xD.ext hbs
      replace hfB := hfB.ext hbs
      replace hmB := hmB.ext hbs
      replace hfr := hfr.ext hbs
      have zzs := hbs.size
      replace BA := BA.trans (hbs.mono BA.size)
      clear hbs
      have hfs0 := hfs
      obtain ⟨l1, l2, l3, l4, l5, l6, l7, l8, l9, rfl, _, _, _⟩ := hfs0
      replace hfs := hfs.mono (q := (xDg < ·)) (fun b _ h => by omega)
      obtain ⟨xA0, xA1, xA2, xA3, xA4⟩ := xA.cells5
      have xAl := xA.lt
      obtain ⟨xB0, xB1, xB2, xB3, xB4⟩ := xB.cells5
      have xBl := xB.lt
      obtain ⟨xC0, xC1, xC2, xC3, xC4⟩ := xC.cells5
      have xCl := xC.lt
      obtain ⟨xD0, xD1, xD2, xD3, xD4⟩ := xD.cells5
      have xDl := xD.lt
      have fz0 := xD.frozen 0
      have fz1 := xD.frozen 1
      have fz2 := xD.frozen 2
      have fz3 := xD.frozen 3
      have fz4 := xD.frozen 4
      go_upto_region 13 with fail
      clear fz0 fz1 fz2 fz3 fz4
      clear xA0 xA1 xA2 xA3 xA4 xAl
      clear xB0 xB1 xB2 xB3 xB4 xBl
      clear xC0 xC1 xC2 xC3 xC4 xCl
      clear xD0 xD1 xD2 xD3 xD4 xDl
      have ne_xA : w.heap.size ≠ xDg := by omega
      replace xA : Bx (((((ws.setCell ⟨xDg, 0, none⟩ (.int .i64 R3.W)).setCell ⟨xDg, 1, none⟩ (.int .i64 R3.H)).setCell ⟨xDg, 2, none⟩ (.slice l1 l2 l3)).setCell ⟨xDg, 3, none⟩ (.slice l4 l5 l6)).setCell ⟨xDg, 4, none⟩ (.slice l7 l8 l9)) (w.heap.size) 24 _ := (((((xA.far ne_xA _).far ne_xA _).far ne_xA _).far ne_xA _).far ne_xA _)
      clear ne_xA
      have ne_xB : w.heap.size + 1 ≠ xDg := by omega
      replace xB : Bx (((((ws.setCell ⟨xDg, 0, none⟩ (.int .i64 R3.W)).setCell ⟨xDg, 1, none⟩ (.int .i64 R3.H)).setCell ⟨xDg, 2, none⟩ (.slice l1 l2 l3)).setCell ⟨xDg, 3, none⟩ (.slice l4 l5 l6)).setCell ⟨xDg, 4, none⟩ (.slice l7 l8 l9)) (w.heap.size + 1) 24 _ := (((((xB.far ne_xB _).far ne_xB _).far ne_xB _).far ne_xB _).far ne_xB _)
      clear ne_xB
      have ne_xC : xCg ≠ xDg := by omega
      replace xC : Bx (((((ws.setCell ⟨xDg, 0, none⟩ (.int .i64 R3.W)).setCell ⟨xDg, 1, none⟩ (.int .i64 R3.H)).setCell ⟨xDg, 2, none⟩ (.slice l1 l2 l3)).setCell ⟨xDg, 3, none⟩ (.slice l4 l5 l6)).setCell ⟨xDg, 4, none⟩ (.slice l7 l8 l9)) (xCg) 24 _ := (((((xC.far ne_xC _).far ne_xC _).far ne_xC _).far ne_xC _).far ne_xC _)
      clear ne_xC
      replace xD := xD.put5 (.int .i64 R3.W) (.int .i64 R3.H) (.slice l1 l2 l3) (.slice l4 l5 l6) (.slice l7 l8 l9)
      have np_hfB : ¬ (xDg < w.heap.size) := by omega
      replace hfB := (((((hfB.setCell (a := ⟨xDg, 0, none⟩) np_hfB (.int .i64 R3.W)).setCell (a := ⟨xDg, 1, none⟩) np_hfB (.int .i64 R3.H)).setCell (a := ⟨xDg, 2, none⟩) np_hfB (.slice l1 l2 l3)).setCell (a := ⟨xDg, 3, none⟩) np_hfB (.slice l4 l5 l6)).setCell (a := ⟨xDg, 4, none⟩) np_hfB (.slice l7 l8 l9))
      clear np_hfB
      have np_hmB : ¬ (xDg < w.heap.size) := by omega
      replace hmB := (((((hmB.setCell (a := ⟨xDg, 0, none⟩) np_hmB (.int .i64 R3.W)).setCell (a := ⟨xDg, 1, none⟩) np_hmB (.int .i64 R3.H)).setCell (a := ⟨xDg, 2, none⟩) np_hmB (.slice l1 l2 l3)).setCell (a := ⟨xDg, 3, none⟩) np_hmB (.slice l4 l5 l6)).setCell (a := ⟨xDg, 4, none⟩) np_hmB (.slice l7 l8 l9))
      clear np_hmB
      have np_hfr : ¬ (xDg < xDg) := by omega
      replace hfr := (((((hfr.setCell (a := ⟨xDg, 0, none⟩) np_hfr (.int .i64 R3.W)).setCell (a := ⟨xDg, 1, none⟩) np_hfr (.int .i64 R3.H)).setCell (a := ⟨xDg, 2, none⟩) np_hfr (.slice l1 l2 l3)).setCell (a := ⟨xDg, 3, none⟩) np_hfr (.slice l4 l5 l6)).setCell (a := ⟨xDg, 4, none⟩) np_hfr (.slice l7 l8 l9))
      clear np_hfr
      have np_hfs : ¬ (xDg < xDg) := by omega
      replace hfs := (((((hfs.setCell (a := ⟨xDg, 0, none⟩) np_hfs (.int .i64 R3.W)).setCell (a := ⟨xDg, 1, none⟩) np_hfs (.int .i64 R3.H)).setCell (a := ⟨xDg, 2, none⟩) np_hfs (.slice l1 l2 l3)).setCell (a := ⟨xDg, 3, none⟩) np_hfs (.slice l4 l5 l6)).setCell (a := ⟨xDg, 4, none⟩) np_hfs (.slice l7 l8 l9))
      clear np_hfs
      replace BA : Below w.heap.size w (((((ws.setCell ⟨xDg, 0, none⟩ (.int .i64 R3.W)).setCell ⟨xDg, 1, none⟩ (.int .i64 R3.H)).setCell ⟨xDg, 2, none⟩ (.slice l1 l2 l3)).setCell ⟨xDg, 3, none⟩ (.slice l4 l5 l6)).setCell ⟨xDg, 4, none⟩ (.slice l7 l8 l9)) := (((((BA.setCell (by simp; omega) _).setCell (by simp; omega) _).setCell (by simp; omega) _).setCell (by simp; omega) _).setCell (by simp; omega) _)
      generalize (((((ws.setCell ⟨xDg, 0, none⟩ (.int .i64 R3.W)).setCell ⟨xDg, 1, none⟩ (.int .i64 R3.H)).setCell ⟨xDg, 2, none⟩ (.slice l1 l2 l3)).setCell ⟨xDg, 3, none⟩ (.slice l4 l5 l6)).setCell ⟨xDg, 4, none⟩ (.slice l7 l8 l9)) = wps at *
      have lswpsxA := xA.lt
      have lswpsxB := xB.lt
      have lswpsxC := xC.lt
      have lswpsxD := xD.lt
      obtain ⟨xA0, xA1, xA2, xA3, xA4⟩ := xA.cells5
      have xAl := xA.lt
      obtain ⟨xB0, xB1, xB2, xB3, xB4⟩ := xB.cells5
      have xBl := xB.lt
      obtain ⟨xC0, xC1, xC2, xC3, xC4⟩ := xC.cells5
      have xCl := xC.lt
      obtain ⟨xD0, xD1, xD2, xD3, xD4⟩ := xD.cells5
      have xDl := xD.lt
      go_wp2_with fail
      clear xA0 xA1 xA2 xA3 xA4 xAl
      clear xB0 xB1 xB2 xB3 xB4 xBl
      clear xC0 xC1 xC2 xC3 xC4 xCl
      clear xD0 xD1 xD2 xD3 xD4 xDl
      refine (plane_awake _).mono ?_
      rintro e wt ⟨rfl, hbt⟩
      replace xA := xA.ext hbt
      replace xB := xB.ext hbt
      replace xC := xC.ext hbt
      replace xD := xD.ext hbt
      replace hfB := hfB.ext hbt
      replace hmB := hmB.ext hbt
      replace hfr := hfr.ext hbt
      replace hfs := hfs.ext hbt
      have zzt := hbt.size
      replace BA := BA.trans (hbt.mono BA.size)
      clear hbt
      obtain ⟨xA0, xA1, xA2, xA3, xA4⟩ := xA.cells5
      have xAl := xA.lt
      obtain ⟨xB0, xB1, xB2, xB3, xB4⟩ := xB.cells5
      have xBl := xB.lt
      obtain ⟨xC0, xC1, xC2, xC3, xC4⟩ := xC.cells5
      have xCl := xC.lt
      obtain ⟨xD0, xD1, xD2, xD3, xD4⟩ := xD.cells5
      have xDl := xD.lt
      go_wp2_with fail
      clear xA0 xA1 xA2 xA3 xA4 xAl
      clear xB0 xB1 xB2 xB3 xB4 xBl
      clear xC0 xC1 xC2 xC3 xC4 xCl
      clear xD0 xD1 xD2 xD3 xD4 xDl
      refine (ref_Equal _ _ R3 R3 _ hfr hfs).mono ?_
      rintro e wy ⟨rfl, hby⟩
      replace xA := xA.ext hby
      replace xB := xB.ext hby
      replace xC := xC.ext hby
      replace xD := xD.ext hby
      replace hfB := hfB.ext hby
      replace hmB := hmB.ext hby
      replace hfr := hfr.ext hby
      replace hfs := hfs.ext hby
      have zzy := hby.size
      replace BA := BA.trans (hby.mono BA.size)
      clear hby
      obtain ⟨xA0, xA1, xA2, xA3, xA4⟩ := xA.cells5
      have xAl := xA.lt
      obtain ⟨xB0, xB1, xB2, xB3, xB4⟩ := xB.cells5
      have xBl := xB.lt
      obtain ⟨xC0, xC1, xC2, xC3, xC4⟩ := xC.cells5
      have xCl := xC.lt
      obtain ⟨xD0, xD1, xD2, xD3, xD4⟩ := xD.cells5
      have xDl := xD.lt
      go_wp2_with fail
      clear xA0 xA1 xA2 xA3 xA4 xAl
      clear xB0 xB1 xB2 xB3 xB4 xBl
      clear xC0 xC1 xC2 xC3 xC4 xCl
      clear xD0 xD1 xD2 xD3 xD4 xDl
      go_ret
      exact ⟨rfl, BA⟩
    · have hl2' : lightB m = false := by simpa using hl2
      go_enter Try.func11, Try.ntmps11
      go_wp2_with fail
      refine (law_light _ f _ (by (repeat with_reducible apply IsFr.alloc); exact hfA)).mono ?_
      rintro e w1 ⟨rfl, hb1⟩
      have BA : Below w.heap.size w w1 := (((Below.refl _ w).alloc (by simp) _).alloc (by simp) _).trans (hb1.mono (by simp; omega))
      have xA : Bx w1 w.heap.size 24 #[.int .i64 f.W, .int .i64 f.H, .slice a1 a2 a3, .slice a4 a5 a6, .slice a7 a8 a9] := ((Bx.new w _ _).alloc _).ext hb1
      have xB : Bx w1 (w.heap.size + 1) 24 #[.int .i64 m.W, .int .i64 m.H, .slice b1 b2 b3, .slice b4 b5 b6, .slice b7 b8 b9] := (Bx.new' _ _ _ _ (by simp)).ext hb1
      clear hb1
      have hfB := hfA.ext BA
      have hmB := hmA.ext BA
      clear hfA hmA
      obtain ⟨xA0, xA1, xA2, xA3, xA4⟩ := xA.cells5
      have xAl := xA.lt
      obtain ⟨xB0, xB1, xB2, xB3, xB4⟩ := xB.cells5
      have xBl := xB.lt
      go_wp2_with fail
      clear xA0 xA1 xA2 xA3 xA4 xAl
      clear xB0 xB1 xB2 xB3 xB4 xBl
      refine (law_light _ m _ hmB).mono ?_
      rintro e w2 ⟨rfl, hb2⟩
      replace xA := xA.ext hb2
      replace xB := xB.ext hb2
      replace hfB := hfB.ext hb2
      replace hmB := hmB.ext hb2
      have zz2 := hb2.size
      replace BA := BA.trans (hb2.mono BA.size)
      clear hb2
      obtain ⟨xA0, xA1, xA2, xA3, xA4⟩ := xA.cells5
      have xAl := xA.lt
      obtain ⟨xB0, xB1, xB2, xB3, xB4⟩ := xB.cells5
      have xBl := xB.lt
      go_wp2_with fail
      clear xA0 xA1 xA2 xA3 xA4 xAl
      clear xB0 xB1 xB2 xB3 xB4 xBl
      go_ret
      exact ⟨rfl, BA⟩
  · have hl1' : lightB f = false := by simpa using hl1
    go_enter Try.func11, Try.ntmps11
    go_wp2_with fail
    refine (law_light _ f _ (by (repeat with_reducible apply IsFr.alloc); exact hfA)).mono ?_
    rintro e w1 ⟨rfl, hb1⟩
    have B1 : Below w.heap.size w w1 := (((Below.refl _ w).alloc (by simp) _).alloc (by simp) _).trans (hb1.mono (by simp; omega))
    go_wp2_with fail
    go_ret
    exact ⟨rfl, B1⟩
end Go.Proofs.Ytcboppldclknjaa
