/- Fields of the reference: the prediction. -/
import Derived.Test.YtaedpadkpclldaaFldR2
namespace Go.Proofs.Ytaedpadkpclldaa
open Go.RowKit

set_option maxRecDepth 100000 in
set_option maxHeartbeats 8000000 in
theorem ref_Fields_yes {p : Nat → Prop} (v : Value) (f : Fr) (mx my vx vy wx wy a b : Int) (w : World) (hf : IsFr p w v f) (hc : CapsOK v) (h : fldOk f mx my a b) (hm1 : mayB vx vy = true) (hm2 : mayB wx wy = true) :
    Calls Try.prog 24 #[v, .int .i64 mx, .int .i64 my, .agg #[.int .i64 vx, .int .i64 vy, .int .i64 wx, .int .i64 wy], .agg #[.int .i64 a, .int .i64 b]] w (RetFc w (weaveFr (fpF f mx my vx vy a) (fpF f mx my wx wy b), 0)) := by
  have hf0 := hf
  obtain ⟨X, rfl⟩ : ∃ X : FV, v = X.val := hf.fv
  have HV := Lib.hid (hf.mono (q := (· < w.heap.size)) (fun b h _ => h))
  have HCV := Lib.hid hc
  have hXW : X.W = f.W ∧ X.H = f.H := by
    obtain ⟨ya, yn, yc, ua, un, uc, va, vn, vc, he, _⟩ := hf
    simp only [FV.val, Value.agg.injEq, Array.mk.injEq, List.cons.injEq, Value.int.injEq, true_and] at he
    exact ⟨he.1, he.2.1⟩
  clear hf0 hf hc
  have HB0 := Lib.hid (FB.start w #[.int .i64 X.W, .int .i64 X.H, .slice X.ya X.yn X.yc, .slice X.ua X.un X.uc, .slice X.va X.vn X.vc] #[.int .i64 vx, .int .i64 vy, .int .i64 wx, .int .i64 wy] #[.int .i64 a, .int .i64 b] #[.int .i64 0, .int .i64 0, .slice none 0 0, .slice none 0 0, .slice none 0 0])
  have HXW := Lib.hid hXW
  clear hXW
  obtain ⟨hfm, h4, pw0, pw1, ph0, ph1, hw16, m0, m1, n0, n1, h32⟩ := fld_parts h
  have ha := h.2.2.1
  have hb := h.2.2.2
  have HOK := Lib.hid h
  have wmx : IntKind.i64.wrap (16 * mx) = 16 * mx := IntWalk.i64_in _ (by omega)
  have wmy : IntKind.i64.wrap (8 * my) = 8 * my := IntWalk.i64_in _ (by omega)
  rw [← HXW.out.2] at h32 ph0 ph1 n1
  rw [← HXW.out.1] at pw0 pw1 m1
  have t32 : X.H.tmod 32 = X.H % 32 := Int.tmod_eq_emod_of_nonneg (by omega)
  have g32 : (X.H % 32 != 0) = false := by simpa using h32
  simp only [FV.val]
  clear hfm h4 hw16 h32 h
  have HH : Hid (∀ w', Below w.heap.size w w' → Calls Try.prog 35 #[.agg #[.int .i64 X.W, .int .i64 X.H, .slice X.ya X.yn X.yc, .slice X.ua X.un X.uc, .slice X.va X.vn X.vc], .int .i64 mx, .int .i64 my] w' fun e w'' => e = .returned (.bool true) ∧ Below w'.heap.size w' w'') := Lib.hid (fun w' h => by have := ref_Has _ f mx my w' (HV.out.below h (fun _ _ h => h)); rwa [HOK.out.1] at this)
  have HM1 : Hid (∀ w', Calls Try.prog 33 #[.agg #[.int .i64 vx, .int .i64 vy]] w' fun e w'' => e = .returned (.bool true) ∧ Below w'.heap.size w' w'') := Lib.hid (fun w' => by have := ref_May vx vy w'; rwa [hm1] at this)
  have HM2 : Hid (∀ w', Calls Try.prog 33 #[.agg #[.int .i64 wx, .int .i64 wy]] w' fun e w'' => e = .returned (.bool true) ∧ Below w'.heap.size w' w'') := Lib.hid (fun w' => by have := ref_May wx wy w'; rwa [hm2] at this)
  have HMM := Lib.hid (And.intro hm1 hm2)
  have HFA := Lib.hid (fun w' (h : Below w.heap.size w w') => ref_Fld8 HOK.out ha X.val w' (HV.out.below h (fun _ _ h => h)) HCV.out)
  have HFB := Lib.hid (fun w' (h : Below w.heap.size w w') => ref_Fld8 HOK.out hb X.val w' (HV.out.below h (fun _ _ h => h)) HCV.out)
  simp only [FV.val] at HFA HFB
  obtain ⟨fa, hfa⟩ : ∃ g, fieldFr f a.toNat = g := ⟨_, rfl⟩
  obtain ⟨fb, hfb⟩ : ∃ g, fieldFr f b.toNat = g := ⟨_, rfl⟩
  obtain ⟨P1, hP1⟩ : ∃ P, fpF f mx my vx vy a = P := ⟨_, rfl⟩
  obtain ⟨P2, hP2⟩ : ∃ P, fpF f mx my wx wy b = P := ⟨_, rfl⟩
  have hg1 := pred8_formed (fieldFr f a.toNat) (16 * mx) (8 * my) vx vy
  have hg2 := pred8_formed (fieldFr f b.toNat) (16 * mx) (8 * my) wx wy
  rw [show predFr (fieldFr f a.toNat) (16 * mx) (8 * my) 8 vx vy = P1 from hP1] at hg1
  rw [show predFr (fieldFr f b.toNat) (16 * mx) (8 * my) 8 wx wy = P2 from hP2] at hg2
  have HG1 := Lib.hid hg1
  have HG2 := Lib.hid hg2
  clear hg1 hg2
  have HPA : Hid (∀ (x : FV) (w' : World) (q : Nat → Prop), IsFr q w' x.val fa → Calls Try.prog 16 #[.agg #[.int .i64 x.W, .int .i64 x.H, .slice x.ya x.yn x.yc, .slice x.ua x.un x.uc, .slice x.va x.vn x.vc], .int .i64 (16 * mx), .int .i64 (8 * my), .int .i64 16, .int .i64 8, .agg #[.int .i64 vx, .int .i64 vy]] w' (RetFc w' (P1, 0))) := Lib.hid (fun x w' q hx => by
    rw [← hP1]
    exact ref_Pred8 HOK.out a.toNat x.val vx vy w' (by rw [hfa]; exact hx) HMM.out.1)
  have HPB : Hid (∀ (x : FV) (w' : World) (q : Nat → Prop), IsFr q w' x.val fb → Calls Try.prog 16 #[.agg #[.int .i64 x.W, .int .i64 x.H, .slice x.ya x.yn x.yc, .slice x.ua x.un x.uc, .slice x.va x.vn x.vc], .int .i64 (16 * mx), .int .i64 (8 * my), .int .i64 16, .int .i64 8, .agg #[.int .i64 wx, .int .i64 wy]] w' (RetFc w' (P2, 0))) := Lib.hid (fun x w' q hx => by
    rw [← hP2]
    exact ref_Pred8 HOK.out b.toNat x.val wx wy w' (by rw [hfb]; exact hx) HMM.out.2)
  rw [hP1, hP2]
  rw [hfa] at HFA
  rw [hfb] at HFB
  clear hm1 hm2 hfa hfb hP1 hP2
  rcases ha with rfl | rfl <;> rcases hb with rfl | rfl
  all_goals
    go_enter Try.func24, Try.ntmps24
    go_upto_region 1 with fail
    generalize (((w.alloc _).alloc _).alloc _).alloc _ = W0 at *
    obtain ⟨⟨c0, c1, c2, c3, c4⟩, ⟨d0, d1, d2, d3⟩, e0, e1⟩ := HB0.out.get
    go_wp2_with fail
    refine (HH.out _ HB0.out.be).mono ?_
    rintro e w1 ⟨rfl, hb1⟩
    have HB1 := Lib.hid (HB0.out.ext hb1)
    clear hb1 c0 c1 c2 c3 c4 d0 d1 d2 d3 e0 e1
    obtain ⟨⟨c0, c1, c2, c3, c4⟩, ⟨d0, d1, d2, d3⟩, e0, e1⟩ := HB1.out.get
    go_wp2_with fail
    refine (HM1.out _).mono ?_
    rintro e w2 ⟨rfl, hb2⟩
    have HB2 := Lib.hid (HB1.out.ext hb2)
    clear hb2 c0 c1 c2 c3 c4 d0 d1 d2 d3 e0 e1
    obtain ⟨⟨c0, c1, c2, c3, c4⟩, ⟨d0, d1, d2, d3⟩, e0, e1⟩ := HB2.out.get
    go_wp2_with fail
    refine (HM2.out _).mono ?_
    rintro e w3 ⟨rfl, hb3⟩
    have HB3 := Lib.hid (HB2.out.ext hb3)
    clear hb3 c0 c1 c2 c3 c4 d0 d1 d2 d3 e0 e1
    obtain ⟨⟨c0, c1, c2, c3, c4⟩, ⟨d0, d1, d2, d3⟩, e0, e1⟩ := HB3.out.get
    go_wp2_with fail
    refine (HFA.out _ HB3.out.be).mono ?_
    intro e w4 hr4
    obtain ⟨x1, rfl, hc1, hi1, hb4⟩ := hr4.parts
    have HB4 := Lib.hid (HB3.out.ext hb4)
    have z3 := HB3.out.res.2.2
    have y4 := hb4.size
    have z4 : w.heap.size + 4 ≤ w4.heap.size := by omega
    have HX5 := Lib.hid (Bx.new w4 24 #[.int .i64 x1.W, .int .i64 x1.H, .slice x1.ya x1.yn x1.yc, .slice x1.ua x1.un x1.uc, .slice x1.va x1.vn x1.vc])
    have HB5 := Lib.hid (HB4.out.alloc (.cells #[.int .i64 x1.W, .int .i64 x1.H, .slice x1.ya x1.yn x1.yc, .slice x1.ua x1.un x1.uc, .slice x1.va x1.vn x1.vc] 24))
    have HI5 := Lib.hid ((hi1.mono (q := fun b => b < w4.heap.size) (fun b h _ => h)).alloc (.cells #[.int .i64 x1.W, .int .i64 x1.H, .slice x1.ya x1.yn x1.yc, .slice x1.ua x1.un x1.uc, .slice x1.va x1.vn x1.vc] 24))
    have HC1 := Lib.hid hc1
    clear hr4 hc1 hi1 hb4 c0 c1 c2 c3 c4 d0 d1 d2 d3 e0 e1
    simp only [FV.val] at HC1
    simp only [FV.val]
    go_upto_region 6 with fail
    generalize w4.alloc (.cells #[.int .i64 x1.W, .int .i64 x1.H, .slice x1.ya x1.yn x1.yc, .slice x1.ua x1.un x1.uc, .slice x1.va x1.vn x1.vc] 24) = W5 at *
    obtain ⟨⟨c0, c1, c2, c3, c4⟩, ⟨d0, d1, d2, d3⟩, e0, e1⟩ := HB5.out.get
    go_wp2_with fail
    refine (HFB.out _ HB5.out.be).mono ?_
    intro e w6 hr6
    obtain ⟨x2, rfl, hc2, hi2, hb6⟩ := hr6.parts
    have y5 := HX5.out.lt
    have y6 := hb6.size
    have HX6 := Lib.hid (HX5.out.ext hb6)
    have HX7 := Lib.hid (HX6.out.alloc (.cells #[.int .i64 x2.W, .int .i64 x2.H, .slice x2.ya x2.yn x2.yc, .slice x2.ua x2.un x2.uc, .slice x2.va x2.vn x2.vc] 24))
    have HZ7 := Lib.hid (Bx.new w6 24 #[.int .i64 x2.W, .int .i64 x2.H, .slice x2.ya x2.yn x2.yc, .slice x2.ua x2.un x2.uc, .slice x2.va x2.vn x2.vc])
    have HB7 := Lib.hid ((HB5.out.ext hb6).alloc (.cells #[.int .i64 x2.W, .int .i64 x2.H, .slice x2.ya x2.yn x2.yc, .slice x2.ua x2.un x2.uc, .slice x2.va x2.vn x2.vc] 24))
    have HI7 := Lib.hid (((HI5.out.ext hb6).mono (q := fun b => b < w4.heap.size) (fun b _ h => h)).alloc (.cells #[.int .i64 x2.W, .int .i64 x2.H, .slice x2.ya x2.yn x2.yc, .slice x2.ua x2.un x2.uc, .slice x2.va x2.vn x2.vc] 24))
    have HJ7 := Lib.hid ((hi2.mono (q := fun b => w4.heap.size < b ∧ b < w6.heap.size) (fun b h h' => ⟨by omega, h⟩)).alloc (.cells #[.int .i64 x2.W, .int .i64 x2.H, .slice x2.ya x2.yn x2.yc, .slice x2.ua x2.un x2.uc, .slice x2.va x2.vn x2.vc] 24))
    have HC2 := Lib.hid hc2
    clear hr6 hc2 hi2 hb6 c0 c1 c2 c3 c4 d0 d1 d2 d3 e0 e1
    simp only [FV.val] at HC2
    simp only [FV.val]
    go_upto_region 7 with fail
    generalize w6.alloc (.cells #[.int .i64 x2.W, .int .i64 x2.H, .slice x2.ya x2.yn x2.yc, .slice x2.ua x2.un x2.uc, .slice x2.va x2.vn x2.vc] 24) = W7 at *
    obtain ⟨⟨c0, c1, c2, c3, c4⟩, ⟨d0, d1, d2, d3⟩, e0, e1⟩ := HB7.out.get
    obtain ⟨⟨t0, t1, t2, t3, t4⟩, ⟨u0, u1, u2, u3, u4⟩, ul⟩ := HX7.out.five
    go_wp2_with fail
    refine (HPA.out x1 _ _ HI7.out).mono ?_
    intro e w8 hr8
    obtain ⟨p1, rfl, hc3, hi3, hb8⟩ := hr8.parts
    have y7 := HZ7.out.lt
    have y8 := hb8.size
    have HX8 := Lib.hid (HX7.out.ext hb8)
    have HX9 := Lib.hid (st5_at (v0 := .int .i64 p1.W) (v1 := .int .i64 p1.H) (v2 := .slice p1.ya p1.yn p1.yc) (v3 := .slice p1.ua p1.un p1.uc) (v4 := .slice p1.va p1.vn p1.vc) HX8.out)
    have HZ9 := Lib.hid (st5_far (g := w4.heap.size) (o := 0) (v0 := .int .i64 p1.W) (v1 := .int .i64 p1.H) (v2 := .slice p1.ya p1.yn p1.yc) (v3 := .slice p1.ua p1.un p1.uc) (v4 := .slice p1.va p1.vn p1.vc) (HZ7.out.ext hb8) (by omega))
    have HB9 := Lib.hid ((HB7.out.ext hb8).st5 (g := w4.heap.size) (o := 0) z4 (.int .i64 p1.W) (.int .i64 p1.H) (.slice p1.ya p1.yn p1.yc) (.slice p1.ua p1.un p1.uc) (.slice p1.va p1.vn p1.vc))
    have HJ9 := Lib.hid (st5_isFr (g := w4.heap.size) (o := 0) (v0 := .int .i64 p1.W) (v1 := .int .i64 p1.H) (v2 := .slice p1.ya p1.yn p1.yc) (v3 := .slice p1.ua p1.un p1.uc) (v4 := .slice p1.va p1.vn p1.vc) (HJ7.out.ext hb8) (by omega))
    have HK9 := Lib.hid (st5_isFr (g := w4.heap.size) (o := 0) (v0 := .int .i64 p1.W) (v1 := .int .i64 p1.H) (v2 := .slice p1.ya p1.yn p1.yc) (v3 := .slice p1.ua p1.un p1.uc) (v4 := .slice p1.va p1.vn p1.vc) (hi3.mono (q := fun b => w6.heap.size < b) (fun b _ h => by omega)) (by omega))
    have HC3 := Lib.hid hc3
    clear hr8 hc3 hi3 hb8 c0 c1 c2 c3 c4 d0 d1 d2 d3 e0 e1 t0 t1 t2 t3 t4 u0 u1 u2 u3 u4 ul
    obtain ⟨⟨t0, t1, t2, t3, t4⟩, ⟨u0, u1, u2, u3, u4⟩, ul⟩ := HX8.out.five
    simp only [FV.val] at HC3
    simp only [FV.val]
    go_upto_region 8 with fail
    change Code.wp _ _ _ _ (st5 (w8) (w4.heap.size) 0 (.int .i64 p1.W) (.int .i64 p1.H) (.slice p1.ya p1.yn p1.yc) (.slice p1.ua p1.un p1.uc) (.slice p1.va p1.vn p1.vc))
    generalize st5 (w8) (w4.heap.size) 0 (.int .i64 p1.W) (.int .i64 p1.H) (.slice p1.ya p1.yn p1.yc) (.slice p1.ua p1.un p1.uc) (.slice p1.va p1.vn p1.vc) = W9 at *
    clear t0 t1 t2 t3 t4 u0 u1 u2 u3 u4 ul
    obtain ⟨⟨c0, c1, c2, c3, c4⟩, ⟨d0, d1, d2, d3⟩, e0, e1⟩ := HB9.out.get
    obtain ⟨⟨t0, t1, t2, t3, t4⟩, ⟨u0, u1, u2, u3, u4⟩, ul⟩ := HZ9.out.five
    go_wp2_with fail
    refine (HPB.out x2 _ _ HJ9.out).mono ?_
    intro e w10 hr10
    obtain ⟨p2, rfl, hc4, hi4, hb10⟩ := hr10.parts
    have y9 := HZ9.out.lt
    have y10 := hb10.size
    have HZ10 := Lib.hid (HZ9.out.ext hb10)
    have HZ11 := Lib.hid (st5_at (v0 := .int .i64 p2.W) (v1 := .int .i64 p2.H) (v2 := .slice p2.ya p2.yn p2.yc) (v3 := .slice p2.ua p2.un p2.uc) (v4 := .slice p2.va p2.vn p2.vc) HZ10.out)
    have HX11 := Lib.hid (st5_far (g := w6.heap.size) (o := 0) (v0 := .int .i64 p2.W) (v1 := .int .i64 p2.H) (v2 := .slice p2.ya p2.yn p2.yc) (v3 := .slice p2.ua p2.un p2.uc) (v4 := .slice p2.va p2.vn p2.vc) (HX9.out.ext hb10) (by omega))
    have HB11 := Lib.hid ((HB9.out.ext hb10).st5 (g := w6.heap.size) (o := 0) (by omega) (.int .i64 p2.W) (.int .i64 p2.H) (.slice p2.ya p2.yn p2.yc) (.slice p2.ua p2.un p2.uc) (.slice p2.va p2.vn p2.vc))
    have HK11 := Lib.hid (st5_isFr (g := w6.heap.size) (o := 0) (v0 := .int .i64 p2.W) (v1 := .int .i64 p2.H) (v2 := .slice p2.ya p2.yn p2.yc) (v3 := .slice p2.ua p2.un p2.uc) (v4 := .slice p2.va p2.vn p2.vc) (HK9.out.ext hb10) (by omega))
    have HL11 := Lib.hid (st5_isFr (g := w6.heap.size) (o := 0) (v0 := .int .i64 p2.W) (v1 := .int .i64 p2.H) (v2 := .slice p2.ya p2.yn p2.yc) (v3 := .slice p2.ua p2.un p2.uc) (v4 := .slice p2.va p2.vn p2.vc) (hi4.mono (q := fun b => w6.heap.size < b) (fun b _ h => by omega)) (by omega))
    have HC4 := Lib.hid hc4
    clear hr10 hc4 hi4 hb10 c0 c1 c2 c3 c4 d0 d1 d2 d3 e0 e1 t0 t1 t2 t3 t4 u0 u1 u2 u3 u4 ul
    obtain ⟨⟨t0, t1, t2, t3, t4⟩, ⟨u0, u1, u2, u3, u4⟩, ul⟩ := HZ10.out.five
    simp only [FV.val] at HC4
    simp only [FV.val]
    go_upto_region 9 with fail
    change Code.wp _ _ _ _ (st5 (w10) (w6.heap.size) 0 (.int .i64 p2.W) (.int .i64 p2.H) (.slice p2.ya p2.yn p2.yc) (.slice p2.ua p2.un p2.uc) (.slice p2.va p2.vn p2.vc))
    generalize st5 (w10) (w6.heap.size) 0 (.int .i64 p2.W) (.int .i64 p2.H) (.slice p2.ya p2.yn p2.yc) (.slice p2.ua p2.un p2.uc) (.slice p2.va p2.vn p2.vc) = W11 at *
    clear t0 t1 t2 t3 t4 u0 u1 u2 u3 u4 ul
    obtain ⟨⟨t0, t1, t2, t3, t4⟩, ⟨u0, u1, u2, u3, u4⟩, ul⟩ := HX11.out.five
    obtain ⟨⟨s0, s1, s2, s3, s4⟩, ⟨v0, v1, v2, v3, v4⟩, vl⟩ := HZ11.out.five
    have HWV := Lib.hid (ref_Weave88 p1.val p2.val P1 P2 W11 HK11.out HL11.out HC3.out HC4.out HG1.out HG2.out)
    simp only [FV.val] at HWV
    go_wp2_with fail
    refine HWV.out.mono ?_
    intro e w12 hr12
    obtain ⟨r, rfl, hc5, hi5, hb12⟩ := hr12.parts
    have HB12 := Lib.hid (HB11.out.ext hb12)
    have HI12 := Lib.hid (hi5.mono (q := (w.heap.size + 4 ≤ ·)) (fun b _ h => by have := HB11.out.res.2.2; omega))
    have HC5 := Lib.hid hc5
    clear hr12 hc5 hi5 hb12 t0 t1 t2 t3 t4 u0 u1 u2 u3 u4 ul s0 s1 s2 s3 s4 v0 v1 v2 v3 v4 vl
    obtain ⟨⟨r0, r1, r2, r3, r4⟩, ⟨z0, z1, z2, z33, z44⟩, zl⟩ := HB12.out.res
    simp only [FV.val]
    go_wp2_with fail
    refine bodyPost_ret (v := .tuple #[r.val, .int .i64 0]) (by simp only [results, Try.results24, FV.val]; go_simp) rfl (HB12.out.leave (r := (weaveFr P1 P2, 0)) r HC5.out HI12.out)
end Go.Proofs.Ytaedpadkpclldaa
