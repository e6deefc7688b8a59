/- MotionFields. -/
import Derived.Test.YtaedpadkpclldaaFldN
import Derived.Test.YtaedpadkpclldaaFldR3
import Derived.Test.YtaedpadkpclldaaAwake
import Derived.Test.YtaedpadkpclldaaEqual
namespace Go.Proofs.Ytaedpadkpclldaa
open Go.RowKit

theorem ref_Fields {p : Nat → Prop} (v : Value) (f : Fr) (mx my vx vy wx wy a b : Int) (w : World) (hf : IsFr p w v f) (hc : CapsOK v) :
    Calls Try.prog 24 #[v, .int .i64 mx, .int .i64 my, .agg #[.int .i64 vx, .int .i64 vy, .int .i64 wx, .int .i64 wy], .agg #[.int .i64 a, .int .i64 b]] w (RetFc w (fldsF f mx my vx vy wx wy a b)) := by
  by_cases h : fldOk f mx my a b
  · cases h1 : mayB vx vy with
    | false =>
      rw [flds_r1 h h1]
      exact ref_Fields_r v f mx my vx vy wx wy a b w hf hc h (.inl h1)
    | true =>
      cases h2 : mayB wx wy with
      | false =>
        rw [flds_r2 h h2]
        exact ref_Fields_r v f mx my vx vy wx wy a b w hf hc h (.inr ⟨h1, h2⟩)
      | true =>
        rw [flds_ok h h1 h2]
        exact ref_Fields_yes v f mx my vx vy wx wy a b w hf hc h h1 h2
  · rw [flds_no h]
    exact ref_Fields_no v f mx my vx vy wx wy a b w hf hc h
theorem eqB_refl (f : Fr) : eqB f f = true := by simp [eqB]

set_option maxRecDepth 100000 in
set_option maxHeartbeats 8000000 in
theorem law_MotionFields {p : Nat → Prop} (v : Value) (f : Fr) (mx my vx vy wx wy a b : Int) (w : World) (hf : IsFr p w v f) (hc : CapsOK v) :
    Calls Try.prog 9 #[v, .int .i64 mx, .int .i64 my, .agg #[.int .i64 vx, .int .i64 vy], .agg #[.int .i64 wx, .int .i64 wy], .int .i64 a, .int .i64 b] w fun e w' => e = .returned (.bool true) ∧ Below w.heap.size w w' := by
  obtain ⟨X, rfl⟩ : ∃ X : FV, v = X.val := hf.fv
  have HV := Lib.hid (hf.mono (q := (· < w.heap.size)) (fun b h _ => h))
  have HCV := Lib.hid hc
  have b0 := ((Bx.new w 24 #[.int .i64 X.W, .int .i64 X.H, .slice X.ya X.yn X.yc, .slice X.ua X.un X.uc, .slice X.va X.vn X.vc]).alloc (.cells #[.int .i64 vx, .int .i64 vy] 32)).alloc (.cells #[.int .i64 wx, .int .i64 wy] 32)
  have b1 := (Bx.new' (w.alloc (.cells #[.int .i64 X.W, .int .i64 X.H, .slice X.ya X.yn X.yc, .slice X.ua X.un X.uc, .slice X.va X.vn X.vc] 24)) 32 #[.int .i64 vx, .int .i64 vy] (w.heap.size + 1) (by simp)).alloc (.cells #[.int .i64 wx, .int .i64 wy] 32)
  have b2 := Bx.new' ((w.alloc (.cells #[.int .i64 X.W, .int .i64 X.H, .slice X.ya X.yn X.yc, .slice X.ua X.un X.uc, .slice X.va X.vn X.vc] 24)).alloc (.cells #[.int .i64 vx, .int .i64 vy] 32)) 32 #[.int .i64 wx, .int .i64 wy] (w.heap.size + 1 + 1) (by simp)
  have B0 := (((Below.refl w.heap.size w).alloc (Nat.le_refl _) (.cells #[.int .i64 X.W, .int .i64 X.H, .slice X.ya X.yn X.yc, .slice X.ua X.un X.uc, .slice X.va X.vn X.vc] 24)).alloc (by simp) (.cells #[.int .i64 vx, .int .i64 vy] 32)).alloc (by simp; omega) (.cells #[.int .i64 wx, .int .i64 wy] 32)
  have HL := Lib.hid (fun w' (h : Below w.heap.size w w') => law_light X.val f w' (HV.out.below h (fun _ _ h => h)))
  have HM := Lib.hid (fun w' (h : Below w.heap.size w w') => motion_Fields X.val f mx my vx vy wx wy a b w' (HV.out.below h (fun _ _ h => h)) HCV.out)
  have HR := Lib.hid (fun w' (h : Below w.heap.size w w') => ref_Fields X.val f mx my vx vy wx wy a b w' (HV.out.below h (fun _ _ h => h)) HCV.out)
  simp only [FV.val] at HL HM HR
  simp only [FV.val]
  obtain ⟨r, e0, hre⟩ : ∃ r e0, fldsF f mx my vx vy wx wy a b = (r, e0) := ⟨_, _, rfl⟩
  rw [hre] at HM HR
  clear hf hc hre
  go_enter Try.func9, Try.ntmps9
  go_upto_region 1 with fail
  generalize ((w.alloc _).alloc _).alloc _ = W0 at *
  have HB0 := Lib.hid B0
  have HQ0 := Lib.hid b0
  have HQ1 := Lib.hid b1
  have HQ2 := Lib.hid b2
  clear b0 b1 b2 B0
  obtain ⟨c0, c1, c2, c3, c4⟩ := HQ0.out.cells5
  go_wp2_with fail
  refine (HL.out _ HB0.out).mono ?_
  rintro e w1 ⟨rfl, hb1⟩
  have HB1 := Lib.hid (HB0.out.trans (hb1.mono HB0.out.size))
  have HX0 := Lib.hid (HQ0.out.ext hb1)
  have HX1 := Lib.hid (HQ1.out.ext hb1)
  have HX2 := Lib.hid (HQ2.out.ext hb1)
  clear hb1 c0 c1 c2 c3 c4
  cases hl : lightB f with
  | false =>
    clear hl
    go_wp2_with fail
    go_ret
    exact ⟨rfl, HB1.out⟩
  | true =>
    clear hl
    obtain ⟨c0, c1, c2, c3, c4⟩ := HX0.out.cells5
    have d0 := HX1.out.cell 0 rfl
    have d1 := HX1.out.cell 1 rfl
    have e0' := HX2.out.cell 0 rfl
    have e1' := HX2.out.cell 1 rfl
    go_wp2_with fail
    refine (HM.out _ HB1.out).mono ?_
    intro e w2 hr2
    obtain ⟨x1, rfl, hc1, hi1, hb2⟩ := hr2.parts
    have HB3 := Lib.hid ((HB1.out.trans (hb2.mono HB1.out.size)).alloc (HB1.out.trans (hb2.mono HB1.out.size)).size (.cells #[.int .i64 x1.W, .int .i64 x1.H, .slice x1.ya x1.yn x1.yc, .slice x1.ua x1.un x1.uc, .slice x1.va x1.vn x1.vc] 24))
    have HY0 := Lib.hid ((HX0.out.ext hb2).alloc (.cells #[.int .i64 x1.W, .int .i64 x1.H, .slice x1.ya x1.yn x1.yc, .slice x1.ua x1.un x1.uc, .slice x1.va x1.vn x1.vc] 24))
    have HY1 := Lib.hid ((HX1.out.ext hb2).alloc (.cells #[.int .i64 x1.W, .int .i64 x1.H, .slice x1.ya x1.yn x1.yc, .slice x1.ua x1.un x1.uc, .slice x1.va x1.vn x1.vc] 24))
    have HY2 := Lib.hid ((HX2.out.ext hb2).alloc (.cells #[.int .i64 x1.W, .int .i64 x1.H, .slice x1.ya x1.yn x1.yc, .slice x1.ua x1.un x1.uc, .slice x1.va x1.vn x1.vc] 24))
    have HY3 := Lib.hid (Bx.new w2 24 #[.int .i64 x1.W, .int .i64 x1.H, .slice x1.ya x1.yn x1.yc, .slice x1.ua x1.un x1.uc, .slice x1.va x1.vn x1.vc])
    have HI1 := Lib.hid (hi1.alloc (.cells #[.int .i64 x1.W, .int .i64 x1.H, .slice x1.ya x1.yn x1.yc, .slice x1.ua x1.un x1.uc, .slice x1.va x1.vn x1.vc] 24))
    clear hr2 hc1 hi1 hb2 c0 c1 c2 c3 c4 d0 d1 e0' e1'
    simp only [FV.val]
    go_upto_region 4 with fail
    generalize w2.alloc (.cells #[.int .i64 x1.W, .int .i64 x1.H, .slice x1.ya x1.yn x1.yc, .slice x1.ua x1.un x1.uc, .slice x1.va x1.vn x1.vc] 24) = w3 at *
    obtain ⟨c0, c1, c2, c3, c4⟩ := HY0.out.cells5
    have d0 := HY1.out.cell 0 rfl
    have d1 := HY1.out.cell 1 rfl
    have e0' := HY2.out.cell 0 rfl
    have e1' := HY2.out.cell 1 rfl
    go_wp2_with fail
    refine (HR.out _ HB3.out).mono ?_
    intro e w4 hr4
    obtain ⟨x2, rfl, hc2, hi2, hb4⟩ := hr4.parts
    have HB5 := Lib.hid ((HB3.out.trans (hb4.mono HB3.out.size)).alloc (HB3.out.trans (hb4.mono HB3.out.size)).size (.cells #[.int .i64 x2.W, .int .i64 x2.H, .slice x2.ya x2.yn x2.yc, .slice x2.ua x2.un x2.uc, .slice x2.va x2.vn x2.vc] 24))
    have HZ3 := Lib.hid ((HY3.out.ext hb4).alloc (.cells #[.int .i64 x2.W, .int .i64 x2.H, .slice x2.ya x2.yn x2.yc, .slice x2.ua x2.un x2.uc, .slice x2.va x2.vn x2.vc] 24))
    have HZ4 := Lib.hid (Bx.new w4 24 #[.int .i64 x2.W, .int .i64 x2.H, .slice x2.ya x2.yn x2.yc, .slice x2.ua x2.un x2.uc, .slice x2.va x2.vn x2.vc])
    have HI1' := Lib.hid ((HI1.out.ext hb4).alloc (.cells #[.int .i64 x2.W, .int .i64 x2.H, .slice x2.ya x2.yn x2.yc, .slice x2.ua x2.un x2.uc, .slice x2.va x2.vn x2.vc] 24))
    have HI2' := Lib.hid (hi2.alloc (.cells #[.int .i64 x2.W, .int .i64 x2.H, .slice x2.ya x2.yn x2.yc, .slice x2.ua x2.un x2.uc, .slice x2.va x2.vn x2.vc] 24))
    clear hr4 hc2 hi2 hb4 c0 c1 c2 c3 c4 d0 d1 e0' e1'
    simp only [FV.val]
    go_upto_region 5 with fail
    generalize w4.alloc (.cells #[.int .i64 x2.W, .int .i64 x2.H, .slice x2.ya x2.yn x2.yc, .slice x2.ua x2.un x2.uc, .slice x2.va x2.vn x2.vc] 24) = w5 at *
    go_wp2_with fail
    refine (law_awake w5).mono ?_
    rintro e w6 ⟨rfl, hb6⟩
    have HB6 := Lib.hid (HB5.out.trans (hb6.mono HB5.out.size))
    have HE := Lib.hid (ref_Equal x1.val x2.val r r w6 (HI1'.out.ext hb6) (HI2'.out.ext hb6))
    rw [eqB_refl] at HE
    simp only [FV.val] at HE
    obtain ⟨c0, c1, c2, c3, c4⟩ := (HZ3.out.ext hb6).cells5
    obtain ⟨d0, d1, d2, d3, d4⟩ := (HZ4.out.ext hb6).cells5
    clear hb6
    go_wp2_with fail
    refine HE.out.mono ?_
    rintro e w7 ⟨rfl, hb7⟩
    have hbb := HB6.out.trans (hb7.mono HB6.out.size)
    clear hb7 c0 c1 c2 c3 c4 d0 d1 d2 d3 d4
    go_wp2_with fail
    go_ret
    exact ⟨rfl, hbb⟩
end Go.Proofs.Ytaedpadkpclldaa
