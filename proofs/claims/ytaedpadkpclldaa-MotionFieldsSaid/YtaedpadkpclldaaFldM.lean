/- motion.Fields: the prediction. -/
import Derived.Test.YtaedpadkpclldaaFldW
import Derived.Test.YtaedpadkpclldaaMPredC8
import Derived.Test.YtaedpadkpclldaaMPredRC8
import Derived.Test.YtaedpadkpclldaaPField
import Derived.Test.YtaedpadkpclldaaPWeave
import Derived.Test.YtaedpadkpclldaaOrd
namespace Go.Proofs.Ytaedpadkpclldaa
open Go.RowKit

theorem plane_Weave88 {p q : Nat → Prop} (x y : Value) (f g : Fr) (w : World) (hx : IsFr p w x f) (hy : IsFr q w y g) (hc : CapsOK x) (hd : CapsOK y)
    (hf : formedB f = true ∧ f.W = ((2 * 8 : Nat) : Int) ∧ f.H = ((2 * 4 : Nat) : Int) ∧ f.Y.length = (2 * 4) * (2 * 8) ∧ f.U.length = 4 * 8 ∧ f.V.length = 4 * 8)
    (hg : formedB g = true ∧ g.W = ((2 * 8 : Nat) : Int) ∧ g.H = ((2 * 4 : Nat) : Int) ∧ g.Y.length = (2 * 4) * (2 * 8) ∧ g.U.length = 4 * 8 ∧ g.V.length = 4 * 8) :
    Calls Try.prog 40 #[x, y] w (RetFc w (weaveFr f g, 0)) := by
  obtain ⟨W, H, Y, U, V⟩ := f
  obtain ⟨W2, H2, Y2, U2, V2⟩ := g
  obtain ⟨h1, h2, h3, h4, h5, h6⟩ := hf
  obtain ⟨k1, k2, k3, k4, k5, k6⟩ := hg
  dsimp only at h2 h3 h4 h5 h6 k2 k3 k4 k5 k6
  subst h2 h3 k2 k3
  rw [weaveFr_of (a := 8) (q := 4)]
  exact plane_Weave_yes x y 8 4 Y U V Y2 U2 V2 w (hx.mono (q := fun _ => True) (fun _ _ _ => trivial)) (hy.mono (q := fun _ => True) (fun _ _ _ => trivial)) hc hd h1 k1 (by omega) (by omega) (by omega) (by omega) h4 h5 h6 k4 k5 k6
theorem plane_Pred8 {p : Nat → Prop} {f : Fr} {mx my a b : Int} (h : fldOk f mx my a b) (k : Nat) (v : Value) (vx vy : Int) (w : World) (hv : IsFr p w v (fieldFr f k)) (hm : mayB vx vy = true) :
    Calls Try.prog 15 #[v, .int .i64 (16 * mx), .int .i64 (8 * my), .int .i64 16, .int .i64 8, .agg #[.int .i64 vx, .int .i64 vy]] w (RetFc w (predFr (fieldFr f k) (16 * mx) (8 * my) 8 vx vy, 0)) := by
  obtain ⟨_, _, w0, w1, h0, h1, hw, m0, m1, n0, n1, h32⟩ := fld_parts h
  exact motion_Predict_yes8C v (fieldFr f k).W (fieldFr f k).H (fieldFr f k).Y (fieldFr f k).U (fieldFr f k).V (16 * mx) (8 * my) vx vy w hv (field_formed h k) (by omega) (by omega) (by show 16 * mx ≤ f.W - 16; omega) (by omega) (by omega) (by show 8 * my ≤ f.H / 2 - 8; omega) hm
theorem plane_Pred8R {p : Nat → Prop} {f : Fr} {mx my a b : Int} (h : fldOk f mx my a b) (k : Nat) (v : Value) (vx vy : Int) (w : World) (hv : IsFr p w v (fieldFr f k)) (hm : mayB vx vy = false) :
    Calls Try.prog 15 #[v, .int .i64 (16 * mx), .int .i64 (8 * my), .int .i64 16, .int .i64 8, .agg #[.int .i64 vx, .int .i64 vy]] w (RetFc w (zeroFr, 2)) := by
  obtain ⟨_, _, w0, w1, h0, h1, hw, m0, m1, n0, n1, h32⟩ := fld_parts h
  exact motion_Predict_range8C v (fieldFr f k).W (fieldFr f k).H (fieldFr f k).Y (fieldFr f k).U (fieldFr f k).V (16 * mx) (8 * my) vx vy w hv (field_formed h k) (by omega) (by omega) (by show 16 * mx ≤ f.W - 16; omega) (by omega) (by omega) (by show 8 * my ≤ f.H / 2 - 8; omega) hm
theorem plane_Fld8 {p : Nat → Prop} {f : Fr} {mx my a b : Int} (h : fldOk f mx my a b) {c : Int} (hc01 : c = 0 ∨ c = 1) (v : Value) (w : World) (hv : IsFr p w v f) (hc : CapsOK v) :
    Calls Try.prog 39 #[v, .int .i64 c] w (RetFc w (fieldFr f c.toNat, 0)) := by
  obtain ⟨hf, h4, _⟩ := fld_parts h
  have := plane_Field v f c w hv hc
  unfold fieldF at this
  rwa [if_pos ⟨hf, h4, hc01⟩] at this
theorem index2 (a b : Int) (w : World) : (Instr.index 46 (.agg #[.int .i64 a, .int .i64 b]) (.int .i64 0)).run Try.prog w = .ok (.int .i64 a) w ∧ (Instr.index 46 (.agg #[.int .i64 a, .int .i64 b]) (.int .i64 1)).run Try.prog w = .ok (.int .i64 b) w := by
  have hsz : ∀ w, (sizeOf 3).run Try.prog w = .ok 1 w := fun _ => by kernel_rfl
  have hag : ∀ w, (isAgg 3).run Try.prog w = .ok false w := fun _ => by kernel_rfl
  constructor <;> simp [Instr.index, run_underlying Try.underlying46, part, hsz, hag, go_sem]
structure GF (w4 : World) (g14 : Nat) (P : Fr) (K : FV → World → Prop) (env : FV) (d9 d14 : Bool) (W : World) : Prop where
  lo : d14 = false → Below w4.heap.size w4 W
  z : d9 = true → d14 = false → CapsOK env.val ∧ IsFr (g14 < ·) W env.val P
  hi : d14 = true → K env W
def gf0 (b8 g14 g17 : Nat) (x1 : FV) (mx my vx vy e0 : Int) (env : FV) : Nat → Value
  | 0 => .int .i64 0
  | 1 => x1.val
  | 2 => .int .i64 mx
  | 3 => .int .i64 (16 * mx)
  | 4 => .int .i64 my
  | 5 => .int .i64 (8 * my)
  | 6 => .int .i64 0
  | 7 => .pointer (some ⟨b8, 0, none⟩)
  | 8 => .agg #[.int .i64 vx, .int .i64 vy]
  | 9 => .tuple #[env.val, .int .i64 e0]
  | 10 => .tuple #[env.val, .int .i64 e0]
  | 11 => env.val
  | 12 => .int .i64 e0
  | 13 => .pointer (some ⟨g14, 0, none⟩)
  | 14 => undef
  | _ => .int .i64 e0
theorem gf0_env {b8 g14 g17 : Nat} {x1 : FV} {mx my vx vy e0 : Int} {env z : FV} {j : Nat} (h1 : j ≠ 9) (h2 : j ≠ 10) (h3 : j ≠ 11) (hl : j < 16) : gf0 b8 g14 g17 x1 mx my vx vy e0 z j = gf0 b8 g14 g17 x1 mx my vx vy e0 env j := by
  rcases (show j = 0 ∨ j = 1 ∨ j = 2 ∨ j = 3 ∨ j = 4 ∨ j = 5 ∨ j = 6 ∨ j = 7 ∨ j = 8 ∨ j = 9 ∨ j = 10 ∨ j = 11 ∨ j = 12 ∨ j = 13 ∨ j = 14 ∨ j = 15 by omega) with rfl | rfl | rfl | rfl | rfl | rfl | rfl | rfl | rfl | rfl | rfl | rfl | rfl | rfl | rfl | rfl <;> first | rfl | exact absurd rfl h1 | exact absurd rfl h2 | exact absurd rfl h3
def gf1 (b8 g14 g17 : Nat) (x1 : FV) (mx my vx vy e0 : Int) (env : FV) : Nat → Value
  | 0 => .int .i64 1
  | 1 => x1.val
  | 2 => .int .i64 mx
  | 3 => .int .i64 (16 * mx)
  | 4 => .int .i64 my
  | 5 => .int .i64 (8 * my)
  | 6 => .int .i64 1
  | 7 => .pointer (some ⟨b8, 2, none⟩)
  | 8 => .agg #[.int .i64 vx, .int .i64 vy]
  | 9 => .tuple #[env.val, .int .i64 e0]
  | 10 => .tuple #[env.val, .int .i64 e0]
  | 11 => env.val
  | 12 => .int .i64 e0
  | 13 => .pointer (some ⟨g14, 5, none⟩)
  | 14 => undef
  | _ => .int .i64 e0
theorem gf1_env {b8 g14 g17 : Nat} {x1 : FV} {mx my vx vy e0 : Int} {env z : FV} {j : Nat} (h1 : j ≠ 9) (h2 : j ≠ 10) (h3 : j ≠ 11) (hl : j < 16) : gf1 b8 g14 g17 x1 mx my vx vy e0 z j = gf1 b8 g14 g17 x1 mx my vx vy e0 env j := by
  rcases (show j = 0 ∨ j = 1 ∨ j = 2 ∨ j = 3 ∨ j = 4 ∨ j = 5 ∨ j = 6 ∨ j = 7 ∨ j = 8 ∨ j = 9 ∨ j = 10 ∨ j = 11 ∨ j = 12 ∨ j = 13 ∨ j = 14 ∨ j = 15 by omega) with rfl | rfl | rfl | rfl | rfl | rfl | rfl | rfl | rfl | rfl | rfl | rfl | rfl | rfl | rfl | rfl <;> first | rfl | exact absurd rfl h1 | exact absurd rfl h2 | exact absurd rfl h3

set_option maxRecDepth 100000 in
set_option maxHeartbeats 16000000 in
theorem motion_Fields_yes {p : Nat → Prop} (v : Value) (f : Fr) (mx my vx vy wx wy a b : Int) (w : World) (hf : IsFr p w v f) (hc : CapsOK v) (h : fldOk f mx my a b) :
    Calls Try.prog 23 #[v, .int .i64 mx, .int .i64 my, .agg #[.int .i64 vx, .int .i64 vy, .int .i64 wx, .int .i64 wy], .agg #[.int .i64 a, .int .i64 b]] w (RetFc w (fldsF f mx my vx vy wx wy a b)) := by
  have hf0 := hf
  obtain ⟨X, rfl⟩ : ∃ X : FV, v = X.val := hf.fv
  have HV := Lib.hid (hf.mono (q := (· < w.heap.size)) (fun b h _ => h))
  have HCV := Lib.hid hc
  have hXW : X.W = f.W ∧ X.H = f.H := by
    obtain ⟨ya, yn, yc, ua, un, uc, va, vn, vc, he, _⟩ := hf
    simp only [FV.val, Value.agg.injEq, Array.mk.injEq, List.cons.injEq, Value.int.injEq, true_and] at he
    exact ⟨he.1, he.2.1⟩
  clear hf0 hf hc
  have HB0 := Lib.hid (FB.start w #[.int .i64 X.W, .int .i64 X.H, .slice X.ya X.yn X.yc, .slice X.ua X.un X.uc, .slice X.va X.vn X.vc] #[.int .i64 vx, .int .i64 vy, .int .i64 wx, .int .i64 wy] #[.int .i64 a, .int .i64 b] #[.int .i64 0, .int .i64 0, .slice none 0 0, .slice none 0 0, .slice none 0 0])
  have HXW := Lib.hid hXW
  clear hXW
  obtain ⟨hfm, h4, pw0, pw1, ph0, ph1, hw16, m0, m1, n0, n1, h32⟩ := fld_parts h
  have ha := h.2.2.1
  have hb := h.2.2.2
  have HOK := Lib.hid h
  have wmx : IntKind.i64.wrap (16 * mx) = 16 * mx := IntWalk.i64_in _ (by omega)
  have wmy : IntKind.i64.wrap (8 * my) = 8 * my := IntWalk.i64_in _ (by omega)
  rw [← HXW.out.2] at h32 ph0 ph1 n1
  rw [← HXW.out.1] at pw0 pw1 m1
  have t32 : X.H.tmod 32 = X.H % 32 := Int.tmod_eq_emod_of_nonneg (by omega)
  have g32 : (X.H % 32 != 0) = false := by simpa using h32
  simp only [FV.val]
  clear hfm h4 hw16 h32 h
  have HA := Lib.hid ha
  have HBB := Lib.hid hb
  have HF0 := Lib.hid (fun w' (h : Below w.heap.size w w') => plane_Fld8 HOK.out ha X.val w' (HV.out.below h (fun _ _ h => h)) HCV.out)
  have HF1 := Lib.hid (fun w' (h : Below w.heap.size w w') => plane_Fld8 HOK.out hb X.val w' (HV.out.below h (fun _ _ h => h)) HCV.out)
  simp only [FV.val] at HF0 HF1
  obtain ⟨P1, hP1⟩ : ∃ P, fpF f mx my vx vy a = P := ⟨_, rfl⟩
  obtain ⟨P2, hP2⟩ : ∃ P, fpF f mx my wx wy b = P := ⟨_, rfl⟩
  have hg1 := pred8_formed (fieldFr f a.toNat) (16 * mx) (8 * my) vx vy
  have hg2 := pred8_formed (fieldFr f b.toNat) (16 * mx) (8 * my) wx wy
  rw [show predFr (fieldFr f a.toNat) (16 * mx) (8 * my) 8 vx vy = P1 from hP1] at hg1
  rw [show predFr (fieldFr f b.toNat) (16 * mx) (8 * my) 8 wx wy = P2 from hP2] at hg2
  have HG1 := Lib.hid hg1
  have HG2 := Lib.hid hg2
  have HPP0 := Lib.hid hP1
  have HPP1 := Lib.hid hP2
  have HVL : Hid (∀ w', Below w.heap.size w w' → Calls Try.prog 38 #[.agg #[.int .i64 X.W, .int .i64 X.H, .slice X.ya X.yn X.yc, .slice X.ua X.un X.uc, .slice X.va X.vn X.vc]] w' fun e w'' => e = .returned (.bool true) ∧ Below w'.heap.size w' w'') := Lib.hid (fun w' h => by
    have := plane_Valid _ f w' (HV.out.below h (fun _ _ h => h))
    have hvb := HOK.out.1
    simp only [hasB, Bool.and_eq_true] at hvb
    rwa [hvb.1.1.1.1] at this)
  have qW : X.W.tdiv 16 = X.W / 16 := Int.tdiv_eq_ediv_of_nonneg (by omega)
  have qH : X.H.tdiv 16 = X.H / 16 := Int.tdiv_eq_ediv_of_nonneg (by omega)
  have ww : IntKind.i64.wrap (X.W / 16) = X.W / 16 := IntWalk.i64_in _ (by omega)
  have wh : IntKind.i64.wrap (X.H / 16) = X.H / 16 := IntWalk.i64_in _ (by omega)
  have d1' : decide (mx < 0) = false := decide_eq_false (by omega)
  have d2' : decide (X.W / 16 ≤ mx) = false := decide_eq_false (by omega)
  have d3' : decide (my < 0) = false := decide_eq_false (by omega)
  have d4' : decide (X.H / 16 ≤ my) = false := decide_eq_false (by omega)
  have hix0 := fun w => (index2 a b w).1
  have hix1 := fun w => (index2 a b w).2
  clear hg1 hg2 hP1 hP2 ha hb
  go_enter Try.func23, Try.ntmps23
  go_upto_region 1 with fail
  generalize (((w.alloc _).alloc _).alloc _).alloc _ = W0 at *
  obtain ⟨⟨c0, c1, c2, c3, c4⟩, ⟨d0, d1, d2, d3⟩, e0, e1⟩ := HB0.out.get
  go_wp2_with fail
  refine (HVL.out _ HB0.out.be).mono ?_
  rintro e w1 ⟨rfl, hb1⟩
  have HB1 := Lib.hid (HB0.out.ext hb1)
  clear hb1 c0 c1 c2 c3 c4 d0 d1 d2 d3 e0 e1
  obtain ⟨⟨c0, c1, c2, c3, c4⟩, ⟨d0, d1, d2, d3⟩, e0, e1⟩ := HB1.out.get
  go_wp2_with fail
  clear c0 c1 c2 c3 c4 d0 d1 d2 d3 e0 e1
  go_loopw [52] (fun i wr => wr = w1 ∧ (i = .int .i64 0 ∨ i = .int .i64 1 ∨ i = .int .i64 2)) (fun i _ => 2 - (intOf i).toNat)
  case atStart => exact ⟨rfl, .inl rfl⟩
  case round =>
    obtain ⟨rfl, hrel⟩ := hrel
    rcases hrel with rfl | rfl | rfl
    · rcases HA.out with rfl | rfl
      all_goals
        go_wp2_with fail
        go_roundw
        case rel => exact ⟨trivial, .inr (.inl (by go_num))⟩
        case measure => (simp [intOf]; try omega)
    · rcases HBB.out with rfl | rfl
      all_goals
        go_wp2_with fail
        go_roundw
        case rel => exact ⟨trivial, .inr (.inr (by go_num))⟩
        case measure => (simp [intOf]; try omega)
    · have HB2 := Lib.hid (HB1.out.alloc (.cells #[.int .i64 0, .int .i64 0, .slice none 0 0, .slice none 0 0, .slice none 0 0, .int .i64 0, .int .i64 0, .slice none 0 0, .slice none 0 0, .slice none 0 0] 59))
      have HX2 := Lib.hid (Bx.new wr 59 #[.int .i64 0, .int .i64 0, .slice none 0 0, .slice none 0 0, .slice none 0 0, .int .i64 0, .int .i64 0, .slice none 0 0, .slice none 0 0, .slice none 0 0])
      obtain ⟨g14, hg14⟩ : ∃ g, wr.heap.size = g := ⟨_, rfl⟩
      have zz := HB1.out.res.2.2
      rw [hg14] at HX2 zz
      have z14 : w.heap.size + 4 ≤ g14 := by omega
      go_upto_region 10 with fail

      clear zz hg14
      generalize wr.alloc (.cells #[.int .i64 0, .int .i64 0, .slice none 0 0, .slice none 0 0, .slice none 0 0, .int .i64 0, .int .i64 0, .slice none 0 0, .slice none 0 0, .slice none 0 0] 59) = W2 at *
      obtain ⟨⟨c0, c1, c2, c3, c4⟩, ⟨d0, d1, d2, d3⟩, e0, e1⟩ := HB2.out.get
      go_wp2_with fail
      clear c0 c1 c2 c3 c4 d0 d1 d2 d3 e0 e1
      go_loopw [64] (fun i wr => (i = .int .i64 0 ∧ wr = W2) ∨
        (i = .int .i64 1 ∧ mayB vx vy = true ∧ ∃ q1 : FV, FB w #[.int .i64 X.W, .int .i64 X.H, .slice X.ya X.yn X.yc, .slice X.ua X.un X.uc, .slice X.va X.vn X.vc] #[.int .i64 vx, .int .i64 vy, .int .i64 wx, .int .i64 wy] #[.int .i64 a, .int .i64 b] #[.int .i64 0, .int .i64 0, .slice none 0 0, .slice none 0 0, .slice none 0 0] wr ∧ Bx wr g14 59 #[.int .i64 q1.W, .int .i64 q1.H, .slice q1.ya q1.yn q1.yc, .slice q1.ua q1.un q1.uc, .slice q1.va q1.vn q1.vc, .int .i64 0, .int .i64 0, .slice none 0 0, .slice none 0 0, .slice none 0 0] ∧ CapsOK q1.val ∧ IsFr (g14 < ·) wr q1.val P1) ∨
        (i = .int .i64 2 ∧ mayB vx vy = true ∧ mayB wx wy = true ∧ ∃ q1 q2 : FV, FB w #[.int .i64 X.W, .int .i64 X.H, .slice X.ya X.yn X.yc, .slice X.ua X.un X.uc, .slice X.va X.vn X.vc] #[.int .i64 vx, .int .i64 vy, .int .i64 wx, .int .i64 wy] #[.int .i64 a, .int .i64 b] #[.int .i64 0, .int .i64 0, .slice none 0 0, .slice none 0 0, .slice none 0 0] wr ∧ Bx wr g14 59 #[.int .i64 q1.W, .int .i64 q1.H, .slice q1.ya q1.yn q1.yc, .slice q1.ua q1.un q1.uc, .slice q1.va q1.vn q1.vc, .int .i64 q2.W, .int .i64 q2.H, .slice q2.ya q2.yn q2.yc, .slice q2.ua q2.un q2.uc, .slice q2.va q2.vn q2.vc] ∧ CapsOK q1.val ∧ CapsOK q2.val ∧ IsFr (g14 < ·) wr q1.val P1 ∧ IsFr (g14 < ·) wr q2.val P2)) (fun i _ => 2 - (intOf i).toNat)
      case atStart => exact .inl ⟨rfl, rfl⟩
      case round =>
        rcases hrel with ⟨rfl, rfl⟩ | ⟨rfl, hm0, q1, hfb, hx, hcq, hq⟩ | ⟨rfl, hm0, hm1, q1, q2, hfb, hx, hcq, hcq2, hq, hq2⟩
        · have HBR := HB2
          have HXR := HX2
          obtain ⟨⟨c0, c1, c2, c3, c4⟩, ⟨d0, d1, d2, d3⟩, e0, e1⟩ := HBR.out.get
          go_wp2_with fail
          refine (HF0.out _ HBR.out.be).mono ?_
          intro e w3 hr3
          obtain ⟨x1, rfl, hc1, hi1, hb3⟩ := hr3.parts
          have HB4 := Lib.hid ((HBR.out.ext hb3).alloc (.cells #[.int .i64 x1.W, .int .i64 x1.H, .slice x1.ya x1.yn x1.yc, .slice x1.ua x1.un x1.uc, .slice x1.va x1.vn x1.vc] 24))
          have HX14 := Lib.hid ((HXR.out.ext hb3).alloc (.cells #[.int .i64 x1.W, .int .i64 x1.H, .slice x1.ya x1.yn x1.yc, .slice x1.ua x1.un x1.uc, .slice x1.va x1.vn x1.vc] 24))
          have HX17 := Lib.hid (Bx.new w3 24 #[.int .i64 x1.W, .int .i64 x1.H, .slice x1.ya x1.yn x1.yc, .slice x1.ua x1.un x1.uc, .slice x1.va x1.vn x1.vc])
          have HI4 := Lib.hid ((hi1.mono (q := fun _ => True) (fun _ _ _ => trivial)).alloc (.cells #[.int .i64 x1.W, .int .i64 x1.H, .slice x1.ya x1.yn x1.yc, .slice x1.ua x1.un x1.uc, .slice x1.va x1.vn x1.vc] 24))
          have y3 := hb3.size
          have yg := HXR.out.lt
          clear hr3 hc1 hi1 hb3 c0 c1 c2 c3 c4 d0 d1 d2 d3 e0 e1
          simp only [FV.val]
          go_upto_region 14 with fail
          generalize w3.alloc (.cells #[.int .i64 x1.W, .int .i64 x1.H, .slice x1.ya x1.yn x1.yc, .slice x1.ua x1.un x1.uc, .slice x1.va x1.vn x1.vc] 24) = w4 at *
          have HG14 : Hid (g14 < w4.heap.size) := Lib.hid HX14.out.lt
          have HKS : Hid (∀ (env : FV) (W : World), Below w4.heap.size w4 W → CapsOK env.val → IsFr (g14 < ·) W env.val P1 → (fun env W => FB w #[.int .i64 X.W, .int .i64 X.H, .slice X.ya X.yn X.yc, .slice X.ua X.un X.uc, .slice X.va X.vn X.vc] #[.int .i64 vx, .int .i64 vy, .int .i64 wx, .int .i64 wy] #[.int .i64 a, .int .i64 b] #[.int .i64 0, .int .i64 0, .slice none 0 0, .slice none 0 0, .slice none 0 0] W ∧ Bx W g14 59 #[.int .i64 env.W, .int .i64 env.H, .slice env.ya env.yn env.yc, .slice env.ua env.un env.uc, .slice env.va env.vn env.vc, .int .i64 0, .int .i64 0, .slice none 0 0, .slice none 0 0, .slice none 0 0] ∧ CapsOK env.val ∧ IsFr (g14 < ·) W env.val P1) env (st5 W g14 0 (.int .i64 env.W) (.int .i64 env.H) (.slice env.ya env.yn env.yc) (.slice env.ua env.un env.uc) (.slice env.va env.vn env.vc))) := Lib.hid (fun env W hW hc hi => ⟨(HB4.out.ext hW).st5 (by omega) _ _ _ _ _, st5_lo (HX14.out.ext hW), hc, st5_isFr hi (by omega)⟩)
          have HKZ : Hid (∀ (env : FV) (W : World), Below w4.heap.size w4 W → CapsOK env.val → IsFr (g14 < ·) W env.val zeroFr → (fun env W => FB w #[.int .i64 X.W, .int .i64 X.H, .slice X.ya X.yn X.yc, .slice X.ua X.un X.uc, .slice X.va X.vn X.vc] #[.int .i64 vx, .int .i64 vy, .int .i64 wx, .int .i64 wy] #[.int .i64 a, .int .i64 b] #[.int .i64 0, .int .i64 0, .slice none 0 0, .slice none 0 0, .slice none 0 0] W ∧ Bx W g14 59 #[.int .i64 env.W, .int .i64 env.H, .slice env.ya env.yn env.yc, .slice env.ua env.un env.uc, .slice env.va env.vn env.vc, .int .i64 0, .int .i64 0, .slice none 0 0, .slice none 0 0, .slice none 0 0] ∧ CapsOK env.val ∧ IsFr (g14 < ·) W env.val zeroFr) env (st5 W g14 0 (.int .i64 env.W) (.int .i64 env.H) (.slice env.ya env.yn env.yc) (.slice env.ua env.un env.uc) (.slice env.va env.vn env.vc))) := Lib.hid (fun env W hW hc hi => ⟨(HB4.out.ext hW).st5 (by omega) _ _ _ _ _, st5_lo (HX14.out.ext hW), hc, st5_isFr hi (by omega)⟩)
          cases hm : mayB vx vy with
          | false =>
            have HR1 := Lib.hid (flds_r1 HOK.out (vx := vx) (vy := vy) (wx := wx) (wy := wy) hm)
            have HPR : Hid (∀ (x : FV) (w' : World) (q : Nat → Prop), IsFr q w' x.val (fieldFr f a.toNat) → Calls Try.prog 15 #[x.val, .int .i64 (16 * mx), .int .i64 (8 * my), .int .i64 16, .int .i64 8, .agg #[.int .i64 vx, .int .i64 vy]] w' (RetFc w' (zeroFr, 2))) := Lib.hid (fun x w' q hx => plane_Pred8R HOK.out _ x.val vx vy w' hx hm)
            clear hm
            go_upto_region 16 with fail
            refine wp_region_fixedE (gf0 (w.heap.size + 1) g14 w3.heap.size x1 mx my vx vy 2) (fun env D W => GF w4 g14 zeroFr (fun env W => FB w #[.int .i64 X.W, .int .i64 X.H, .slice X.ya X.yn X.yc, .slice X.ua X.un X.uc, .slice X.va X.vn X.vc] #[.int .i64 vx, .int .i64 vy, .int .i64 wx, .int .i64 wy] #[.int .i64 a, .int .i64 b] #[.int .i64 0, .int .i64 0, .slice none 0 0, .slice none 0 0, .slice none 0 0] W ∧ Bx W g14 59 #[.int .i64 env.W, .int .i64 env.H, .slice env.ya env.yn env.yc, .slice env.ua env.un env.uc, .slice env.va env.vn env.vc, .int .i64 0, .int .i64 0, .slice none 0 0, .slice none 0 0, .slice none 0 0] ∧ CapsOK env.val ∧ IsFr (g14 < ·) W env.val zeroFr) env (D 9) (D 14) W) FV.zero (by kernel_rfl) (by kernel_rfl) (by kernel_rfl) ?h0 ?hstep ?hend
            case h0 => exact ⟨fun _ => (Below.refl _ _).drew, fun h => (by cases h), fun h => (by cases h)⟩
            case hstep =>
              intro k o ho env D ac wk fr hG hcl hDi hpre hun
              have o1 : ac.tmps[1]?.getD undef = .int .i64 mx := fr.oldT 1 rfl
              have o2 : ac.tmps[2]?.getD undef = .int .i64 my := fr.oldT 2 rfl
              have o8 : ac.tmps[8]?.getD undef = .pointer (some ⟨w.heap.size + 1, 0, none⟩) := fr.oldT 8 rfl
              have o14 : ac.tmps[14]?.getD undef = .pointer (some ⟨g14, 0, none⟩) := fr.oldT 14 rfl
              have o15 : ac.tmps[15]?.getD undef = .int .i64 0 := fr.oldT 15 rfl
              have o17 : ac.tmps[17]?.getD undef = .pointer (some ⟨w3.heap.size, 0, none⟩) := fr.oldT 17 rfl
              have hkn : k < 16 := (List.getElem?_eq_some_iff.1 ho).1
              rcases (show k = 0 ∨ k = 1 ∨ k = 2 ∨ k = 3 ∨ k = 4 ∨ k = 5 ∨ k = 6 ∨ k = 7 ∨ k = 8 ∨ k = 9 ∨ k = 10 ∨ k = 11 ∨ k = 12 ∨ k = 13 ∨ k = 14 ∨ k = 15 by omega) with rfl | rfl | rfl | rfl | rfl | rfl | rfl | rfl | rfl | rfl | rfl | rfl | rfl | rfl | rfl | rfl
              all_goals (simp only [List.getElem?_cons_zero, List.getElem?_cons_succ, Option.some.injEq] at ho; subst ho)
              · refine ⟨true, rfl, fun _ => wp_value (w' := wk) ?_ ⟨env, fun _ _ _ => rfl, rfl, hG⟩, (fun h => by cases h)⟩
                simp [execOp, o15, gf0, go_sem]
              · refine ⟨true, rfl, fun _ => ?_, (fun h => by cases h)⟩
                have n14 : D 14 = false := by
                  cases h : D 14 with
                  | false => rfl
                  | true => have h2 := hcl 14 _ rfl h ⟨1, .phase⟩ (by simp) rfl; rw [hDi] at h2; cases h2
                obtain ⟨⟨c0, c1, c2, c3, c4⟩, ⟨d0, d1, d2, d3⟩, e0', e1'⟩ := (HB4.out.ext (hG.lo n14)).get
                obtain ⟨⟨t0, t1, t2, t3, t4⟩, _, _⟩ := (HX17.out.ext (hG.lo n14)).five
                exact wp_value (w' := wk) (by simp [execOp, o17, gf0, FV.val, go_sem, t0, t1, t2, t3, t4]) ⟨env, fun _ _ _ => rfl, rfl, hG⟩
              · refine ⟨true, rfl, fun _ => wp_value (w' := wk) ?_ ⟨env, fun _ _ _ => rfl, rfl, hG⟩, (fun h => by cases h)⟩
                simp [execOp, o1, gf0, go_sem]
              · have f2 := fr.atT 2 (hpre ⟨2, .data⟩ (by simp) rfl) rfl
                refine ⟨true, rfl, fun _ => wp_value (w' := wk) ?_ ⟨env, fun _ _ _ => rfl, rfl, hG⟩, (fun h => by cases h)⟩
                simp [execOp, f2, gf0, go_sem, wmx]
              · refine ⟨true, rfl, fun _ => wp_value (w' := wk) ?_ ⟨env, fun _ _ _ => rfl, rfl, hG⟩, (fun h => by cases h)⟩
                simp [execOp, o2, gf0, go_sem]
              · have f4 := fr.atT 4 (hpre ⟨4, .data⟩ (by simp) rfl) rfl
                refine ⟨true, rfl, fun _ => wp_value (w' := wk) ?_ ⟨env, fun _ _ _ => rfl, rfl, hG⟩, (fun h => by cases h)⟩
                simp [execOp, f4, gf0, go_sem, wmy]
              · refine ⟨true, rfl, fun _ => wp_value (w' := wk) ?_ ⟨env, fun _ _ _ => rfl, rfl, hG⟩, (fun h => by cases h)⟩
                simp [execOp, o15, gf0, go_sem]
              · have f6 := fr.atT 6 (hpre ⟨6, .data⟩ (by simp) rfl) rfl
                refine ⟨true, rfl, fun _ => wp_value (w' := wk) ?_ ⟨env, fun _ _ _ => rfl, rfl, hG⟩, (fun h => by cases h)⟩
                simp [execOp, o8, f6, gf0, go_sem]
              · have f7 := fr.atT 7 (hpre ⟨7, .data⟩ (by simp) rfl) rfl
                refine ⟨true, rfl, fun _ => ?_, (fun h => by cases h)⟩
                have n14 : D 14 = false := by
                  cases h : D 14 with
                  | false => rfl
                  | true => have h2 := hcl 14 _ rfl h ⟨8, .phase⟩ (by simp) rfl; rw [hDi] at h2; cases h2
                obtain ⟨⟨c0, c1, c2, c3, c4⟩, ⟨d0, d1, d2, d3⟩, e0', e1'⟩ := (HB4.out.ext (hG.lo n14)).get
                obtain ⟨⟨t0, t1, t2, t3, t4⟩, _, _⟩ := (HX17.out.ext (hG.lo n14)).five
                exact wp_value (w' := wk) (by simp [execOp, f7, gf0, FV.val, go_sem, d0, d1, d2, d3]) ⟨env, fun _ _ _ => rfl, rfl, hG⟩
              · have f1 := fr.atT 1 (hpre ⟨1, .data⟩ (by simp) rfl) rfl
                have e1 := fr.at_ 1 (hpre ⟨1, .data⟩ (by simp) rfl) rfl
                have f3 := fr.atT 3 (hpre ⟨3, .data⟩ (by simp) rfl) rfl
                have e3 := fr.at_ 3 (hpre ⟨3, .data⟩ (by simp) rfl) rfl
                have f5 := fr.atT 5 (hpre ⟨5, .data⟩ (by simp) rfl) rfl
                have e5 := fr.at_ 5 (hpre ⟨5, .data⟩ (by simp) rfl) rfl
                have f8 := fr.atT 8 (hpre ⟨8, .data⟩ (by simp) rfl) rfl
                have e8 := fr.at_ 8 (hpre ⟨8, .data⟩ (by simp) rfl) rfl
                refine ⟨true, rfl, fun _ => ?_, (fun h => by cases h)⟩
                have n14 : D 14 = false := by
                  cases h : D 14 with
                  | false => rfl
                  | true => have h2 := hcl 14 _ rfl h ⟨11, .data⟩ (by simp) rfl; have h3 := hcl 11 _ rfl h2 ⟨10, .data⟩ (by simp) rfl; have h4 := hcl 10 _ rfl h3 ⟨9, .data⟩ (by simp) rfl; rw [hDi] at h4; cases h4
                have n10 : ¬ D 10 = true := fun h => by have h4 := hcl 10 _ rfl h ⟨9, .data⟩ (by simp) rfl; rw [hDi] at h4; cases h4
                have n11 : ¬ D 11 = true := fun h => by have h3 := hcl 11 _ rfl h ⟨10, .data⟩ (by simp) rfl; have h4 := hcl 10 _ rfl h3 ⟨9, .data⟩ (by simp) rfl; rw [hDi] at h4; cases h4
                refine wp_called (f := 15) (args := #[x1.val, .int .i64 (16 * mx), .int .i64 (8 * my), .int .i64 16, .int .i64 8, .agg #[.int .i64 vx, .int .i64 vy]]) ?_ (HPR.out x1 wk _ (HI4.out.ext (hG.lo n14))) ?_
                · simp [execOp, resolve, invoke, f1, e1, f3, e3, f5, e5, f8, e8, gf0, go_sem]
                · intro e w' hr9
                  obtain ⟨p1, rfl, hc9, hi9, hb9⟩ := hr9.parts
                  refine ⟨_, rfl, p1, fun j hjl hj => gf0_env (fun e => by rw [e, hDi] at hj; cases hj) (fun e => n10 (by rw [← e]; exact hj)) (fun e => n11 (by rw [← e]; exact hj)) hjl, rfl, fun _ => (hG.lo n14).trans (hb9.mono (hG.lo n14).size), fun _ _ => ⟨hc9, hi9.mono (fun b _ h => by have := HG14.out; have := (hG.lo n14).size; omega)⟩, fun h => absurd (show D 14 = true from h) (by rw [n14]; exact Bool.false_ne_true)⟩
              · have f9 := fr.atT 9 (hpre ⟨9, .data⟩ (by simp) rfl) rfl
                refine ⟨true, rfl, fun _ => wp_value (w' := wk) ?_ ⟨env, fun _ _ _ => rfl, rfl, hG⟩, (fun h => by cases h)⟩
                simp [execOp, f9, gf0, go_sem]
              · have f10 := fr.atT 10 (hpre ⟨10, .data⟩ (by simp) rfl) rfl
                refine ⟨true, rfl, fun _ => wp_value (w' := wk) ?_ ⟨env, fun _ _ _ => rfl, rfl, hG⟩, (fun h => by cases h)⟩
                simp [execOp, f10, gf0, go_sem, FV.val]
              · have f10 := fr.atT 10 (hpre ⟨10, .data⟩ (by simp) rfl) rfl
                refine ⟨true, rfl, fun _ => wp_value (w' := wk) ?_ ⟨env, fun _ _ _ => rfl, rfl, hG⟩, (fun h => by cases h)⟩
                simp [execOp, f10, gf0, go_sem]
              · have f0 := fr.atT 0 (hpre ⟨0, .data⟩ (by simp) rfl) rfl
                refine ⟨true, rfl, fun _ => wp_value (w' := wk) ?_ ⟨env, fun _ _ _ => rfl, rfl, hG⟩, (fun h => by cases h)⟩
                simp [execOp, o14, f0, gf0, go_sem]
              · have f13 := fr.atT 13 (hpre ⟨13, .data⟩ (by simp) rfl) rfl
                have f11 := fr.atT 11 (hpre ⟨11, .data⟩ (by simp) rfl) rfl
                refine ⟨true, rfl, fun _ => ?_, (fun h => by cases h)⟩
                have d11 : D 11 = true := hpre ⟨11, .data⟩ (by simp) rfl
                have d10 : D 10 = true := hcl 11 _ rfl d11 ⟨10, .data⟩ (by simp) rfl
                have d9 : D 9 = true := hcl 10 _ rfl d10 ⟨9, .data⟩ (by simp) rfl
                have hlo := hG.lo hDi
                have hz := hG.z d9 hDi
                have h14 := HX14.out.ext hlo
                have y0 := h14.cell 0 rfl
                have y1 := h14.cell 1 rfl
                have y2 := h14.cell 2 rfl
                have y3 := h14.cell 3 rfl
                have y4 := h14.cell 4 rfl
                have z0 := h14.frozen 0
                have z1 := h14.frozen 1
                have z2 := h14.frozen 2
                have z3 := h14.frozen 3
                have z4 := h14.frozen 4
                refine wp_skipF (w' := st5 wk g14 0 (.int .i64 env.W) (.int .i64 env.H) (.slice env.ya env.yn env.yc) (.slice env.ua env.un env.uc) (.slice env.va env.vn env.vc)) ?_ ⟨env, fun _ _ _ => rfl, rfl, fun h => (by cases h), fun _ h => (by cases h), fun _ => HKZ.out env wk hlo hz.1 hz.2⟩
                have hst := run_store5a wk g14 env ⟨_, y0⟩ ⟨_, y1⟩ ⟨_, y2⟩ ⟨_, y3⟩ ⟨_, y4⟩ z0 z1 z2 z3 z4
                have e11 := fr.at_ 11 (hpre ⟨11, .data⟩ (by simp) rfl) rfl
                have e13 := fr.at_ 13 (hpre ⟨13, .data⟩ (by simp) rfl) rfl
                simp only [gf0] at e11 e13
                simp [execOp, e11, e13, hst, Sem.run_bind, Sem.run_pure, Result.andThen]
              · have f12 := fr.atT 12 (hpre ⟨12, .data⟩ (by simp) rfl) rfl
                refine ⟨true, rfl, fun _ => wp_value (w' := wk) ?_ ⟨env, fun _ _ _ => rfl, rfl, hG⟩, (fun h => by cases h)⟩
                simp [execOp, f12, gf0, go_sem]
            case hend =>
              intro env D w7 hG hall
              have hK := hG.hi (hall 14 (by decide))
              simp only [putsU, Act.put, List.setIfInBounds_toArray, List.set_cons_succ, List.set_cons_zero, Nat.zero_add, Nat.reduceAdd, gf0]
              obtain ⟨k1, k2, k3, k4⟩ := hK
              have HB7 := Lib.hid k1
              have HX7 := Lib.hid k2
              have HC7 := Lib.hid k3
              have HI7 := Lib.hid k4
              clear hG hall k1 k2 k3 k4
              obtain ⟨⟨r0, r1, r2, r3, r4⟩, ⟨z0, z1, z2, z3, z4⟩, zl⟩ := HB7.out.res
              go_wp2_with fail
              refine bodyPost_ret (v := .tuple #[.agg #[.int .i64 0, .int .i64 0, .slice none 0 0, .slice none 0 0, .slice none 0 0], .int .i64 2]) (by simp only [results, Try.results23]; go_simp) rfl ?_
              rw [HR1.out]
              exact HB7.out.leave (r := (zeroFr, 2)) FV.zero (CapsOK.mk (Nat.le_refl _) (Nat.le_refl _) (Nat.le_refl _)) ⟨_, _, _, _, _, _, _, _, _, rfl, Byt.nil, Byt.nil, Byt.nil⟩
          | true =>
            have HM0 := Lib.hid hm
            have HPR : Hid (∀ (x : FV) (w' : World) (q : Nat → Prop), IsFr q w' x.val (fieldFr f a.toNat) → Calls Try.prog 15 #[x.val, .int .i64 (16 * mx), .int .i64 (8 * my), .int .i64 16, .int .i64 8, .agg #[.int .i64 vx, .int .i64 vy]] w' (RetFc w' (P1, 0))) := Lib.hid (fun x w' q hx => by
              have := plane_Pred8 HOK.out _ x.val vx vy w' hx HM0.out
              rwa [show predFr (fieldFr f a.toNat) (16 * mx) (8 * my) 8 vx vy = P1 from HPP0.out] at this)
            clear hm
            go_upto_region 16 with fail
            refine wp_region_fixedE (gf0 (w.heap.size + 1) g14 w3.heap.size x1 mx my vx vy 0) (fun env D W => GF w4 g14 P1 (fun env W => FB w #[.int .i64 X.W, .int .i64 X.H, .slice X.ya X.yn X.yc, .slice X.ua X.un X.uc, .slice X.va X.vn X.vc] #[.int .i64 vx, .int .i64 vy, .int .i64 wx, .int .i64 wy] #[.int .i64 a, .int .i64 b] #[.int .i64 0, .int .i64 0, .slice none 0 0, .slice none 0 0, .slice none 0 0] W ∧ Bx W g14 59 #[.int .i64 env.W, .int .i64 env.H, .slice env.ya env.yn env.yc, .slice env.ua env.un env.uc, .slice env.va env.vn env.vc, .int .i64 0, .int .i64 0, .slice none 0 0, .slice none 0 0, .slice none 0 0] ∧ CapsOK env.val ∧ IsFr (g14 < ·) W env.val P1) env (D 9) (D 14) W) FV.zero (by kernel_rfl) (by kernel_rfl) (by kernel_rfl) ?h0 ?hstep ?hend
            case h0 => exact ⟨fun _ => (Below.refl _ _).drew, fun h => (by cases h), fun h => (by cases h)⟩
            case hstep =>
              intro k o ho env D ac wk fr hG hcl hDi hpre hun
              have o1 : ac.tmps[1]?.getD undef = .int .i64 mx := fr.oldT 1 rfl
              have o2 : ac.tmps[2]?.getD undef = .int .i64 my := fr.oldT 2 rfl
              have o8 : ac.tmps[8]?.getD undef = .pointer (some ⟨w.heap.size + 1, 0, none⟩) := fr.oldT 8 rfl
              have o14 : ac.tmps[14]?.getD undef = .pointer (some ⟨g14, 0, none⟩) := fr.oldT 14 rfl
              have o15 : ac.tmps[15]?.getD undef = .int .i64 0 := fr.oldT 15 rfl
              have o17 : ac.tmps[17]?.getD undef = .pointer (some ⟨w3.heap.size, 0, none⟩) := fr.oldT 17 rfl
              have hkn : k < 16 := (List.getElem?_eq_some_iff.1 ho).1
              rcases (show k = 0 ∨ k = 1 ∨ k = 2 ∨ k = 3 ∨ k = 4 ∨ k = 5 ∨ k = 6 ∨ k = 7 ∨ k = 8 ∨ k = 9 ∨ k = 10 ∨ k = 11 ∨ k = 12 ∨ k = 13 ∨ k = 14 ∨ k = 15 by omega) with rfl | rfl | rfl | rfl | rfl | rfl | rfl | rfl | rfl | rfl | rfl | rfl | rfl | rfl | rfl | rfl
              all_goals (simp only [List.getElem?_cons_zero, List.getElem?_cons_succ, Option.some.injEq] at ho; subst ho)
              · refine ⟨true, rfl, fun _ => wp_value (w' := wk) ?_ ⟨env, fun _ _ _ => rfl, rfl, hG⟩, (fun h => by cases h)⟩
                simp [execOp, o15, gf0, go_sem]
              · refine ⟨true, rfl, fun _ => ?_, (fun h => by cases h)⟩
                have n14 : D 14 = false := by
                  cases h : D 14 with
                  | false => rfl
                  | true => have h2 := hcl 14 _ rfl h ⟨1, .phase⟩ (by simp) rfl; rw [hDi] at h2; cases h2
                obtain ⟨⟨c0, c1, c2, c3, c4⟩, ⟨d0, d1, d2, d3⟩, e0', e1'⟩ := (HB4.out.ext (hG.lo n14)).get
                obtain ⟨⟨t0, t1, t2, t3, t4⟩, _, _⟩ := (HX17.out.ext (hG.lo n14)).five
                exact wp_value (w' := wk) (by simp [execOp, o17, gf0, FV.val, go_sem, t0, t1, t2, t3, t4]) ⟨env, fun _ _ _ => rfl, rfl, hG⟩
              · refine ⟨true, rfl, fun _ => wp_value (w' := wk) ?_ ⟨env, fun _ _ _ => rfl, rfl, hG⟩, (fun h => by cases h)⟩
                simp [execOp, o1, gf0, go_sem]
              · have f2 := fr.atT 2 (hpre ⟨2, .data⟩ (by simp) rfl) rfl
                refine ⟨true, rfl, fun _ => wp_value (w' := wk) ?_ ⟨env, fun _ _ _ => rfl, rfl, hG⟩, (fun h => by cases h)⟩
                simp [execOp, f2, gf0, go_sem, wmx]
              · refine ⟨true, rfl, fun _ => wp_value (w' := wk) ?_ ⟨env, fun _ _ _ => rfl, rfl, hG⟩, (fun h => by cases h)⟩
                simp [execOp, o2, gf0, go_sem]
              · have f4 := fr.atT 4 (hpre ⟨4, .data⟩ (by simp) rfl) rfl
                refine ⟨true, rfl, fun _ => wp_value (w' := wk) ?_ ⟨env, fun _ _ _ => rfl, rfl, hG⟩, (fun h => by cases h)⟩
                simp [execOp, f4, gf0, go_sem, wmy]
              · refine ⟨true, rfl, fun _ => wp_value (w' := wk) ?_ ⟨env, fun _ _ _ => rfl, rfl, hG⟩, (fun h => by cases h)⟩
                simp [execOp, o15, gf0, go_sem]
              · have f6 := fr.atT 6 (hpre ⟨6, .data⟩ (by simp) rfl) rfl
                refine ⟨true, rfl, fun _ => wp_value (w' := wk) ?_ ⟨env, fun _ _ _ => rfl, rfl, hG⟩, (fun h => by cases h)⟩
                simp [execOp, o8, f6, gf0, go_sem]
              · have f7 := fr.atT 7 (hpre ⟨7, .data⟩ (by simp) rfl) rfl
                refine ⟨true, rfl, fun _ => ?_, (fun h => by cases h)⟩
                have n14 : D 14 = false := by
                  cases h : D 14 with
                  | false => rfl
                  | true => have h2 := hcl 14 _ rfl h ⟨8, .phase⟩ (by simp) rfl; rw [hDi] at h2; cases h2
                obtain ⟨⟨c0, c1, c2, c3, c4⟩, ⟨d0, d1, d2, d3⟩, e0', e1'⟩ := (HB4.out.ext (hG.lo n14)).get
                obtain ⟨⟨t0, t1, t2, t3, t4⟩, _, _⟩ := (HX17.out.ext (hG.lo n14)).five
                exact wp_value (w' := wk) (by simp [execOp, f7, gf0, FV.val, go_sem, d0, d1, d2, d3]) ⟨env, fun _ _ _ => rfl, rfl, hG⟩
              · have f1 := fr.atT 1 (hpre ⟨1, .data⟩ (by simp) rfl) rfl
                have e1 := fr.at_ 1 (hpre ⟨1, .data⟩ (by simp) rfl) rfl
                have f3 := fr.atT 3 (hpre ⟨3, .data⟩ (by simp) rfl) rfl
                have e3 := fr.at_ 3 (hpre ⟨3, .data⟩ (by simp) rfl) rfl
                have f5 := fr.atT 5 (hpre ⟨5, .data⟩ (by simp) rfl) rfl
                have e5 := fr.at_ 5 (hpre ⟨5, .data⟩ (by simp) rfl) rfl
                have f8 := fr.atT 8 (hpre ⟨8, .data⟩ (by simp) rfl) rfl
                have e8 := fr.at_ 8 (hpre ⟨8, .data⟩ (by simp) rfl) rfl
                refine ⟨true, rfl, fun _ => ?_, (fun h => by cases h)⟩
                have n14 : D 14 = false := by
                  cases h : D 14 with
                  | false => rfl
                  | true => have h2 := hcl 14 _ rfl h ⟨11, .data⟩ (by simp) rfl; have h3 := hcl 11 _ rfl h2 ⟨10, .data⟩ (by simp) rfl; have h4 := hcl 10 _ rfl h3 ⟨9, .data⟩ (by simp) rfl; rw [hDi] at h4; cases h4
                have n10 : ¬ D 10 = true := fun h => by have h4 := hcl 10 _ rfl h ⟨9, .data⟩ (by simp) rfl; rw [hDi] at h4; cases h4
                have n11 : ¬ D 11 = true := fun h => by have h3 := hcl 11 _ rfl h ⟨10, .data⟩ (by simp) rfl; have h4 := hcl 10 _ rfl h3 ⟨9, .data⟩ (by simp) rfl; rw [hDi] at h4; cases h4
                refine wp_called (f := 15) (args := #[x1.val, .int .i64 (16 * mx), .int .i64 (8 * my), .int .i64 16, .int .i64 8, .agg #[.int .i64 vx, .int .i64 vy]]) ?_ (HPR.out x1 wk _ (HI4.out.ext (hG.lo n14))) ?_
                · simp [execOp, resolve, invoke, f1, e1, f3, e3, f5, e5, f8, e8, gf0, go_sem]
                · intro e w' hr9
                  obtain ⟨p1, rfl, hc9, hi9, hb9⟩ := hr9.parts
                  refine ⟨_, rfl, p1, fun j hjl hj => gf0_env (fun e => by rw [e, hDi] at hj; cases hj) (fun e => n10 (by rw [← e]; exact hj)) (fun e => n11 (by rw [← e]; exact hj)) hjl, rfl, fun _ => (hG.lo n14).trans (hb9.mono (hG.lo n14).size), fun _ _ => ⟨hc9, hi9.mono (fun b _ h => by have := HG14.out; have := (hG.lo n14).size; omega)⟩, fun h => absurd (show D 14 = true from h) (by rw [n14]; exact Bool.false_ne_true)⟩
              · have f9 := fr.atT 9 (hpre ⟨9, .data⟩ (by simp) rfl) rfl
                refine ⟨true, rfl, fun _ => wp_value (w' := wk) ?_ ⟨env, fun _ _ _ => rfl, rfl, hG⟩, (fun h => by cases h)⟩
                simp [execOp, f9, gf0, go_sem]
              · have f10 := fr.atT 10 (hpre ⟨10, .data⟩ (by simp) rfl) rfl
                refine ⟨true, rfl, fun _ => wp_value (w' := wk) ?_ ⟨env, fun _ _ _ => rfl, rfl, hG⟩, (fun h => by cases h)⟩
                simp [execOp, f10, gf0, go_sem, FV.val]
              · have f10 := fr.atT 10 (hpre ⟨10, .data⟩ (by simp) rfl) rfl
                refine ⟨true, rfl, fun _ => wp_value (w' := wk) ?_ ⟨env, fun _ _ _ => rfl, rfl, hG⟩, (fun h => by cases h)⟩
                simp [execOp, f10, gf0, go_sem]
              · have f0 := fr.atT 0 (hpre ⟨0, .data⟩ (by simp) rfl) rfl
                refine ⟨true, rfl, fun _ => wp_value (w' := wk) ?_ ⟨env, fun _ _ _ => rfl, rfl, hG⟩, (fun h => by cases h)⟩
                simp [execOp, o14, f0, gf0, go_sem]
              · have f13 := fr.atT 13 (hpre ⟨13, .data⟩ (by simp) rfl) rfl
                have f11 := fr.atT 11 (hpre ⟨11, .data⟩ (by simp) rfl) rfl
                refine ⟨true, rfl, fun _ => ?_, (fun h => by cases h)⟩
                have d11 : D 11 = true := hpre ⟨11, .data⟩ (by simp) rfl
                have d10 : D 10 = true := hcl 11 _ rfl d11 ⟨10, .data⟩ (by simp) rfl
                have d9 : D 9 = true := hcl 10 _ rfl d10 ⟨9, .data⟩ (by simp) rfl
                have hlo := hG.lo hDi
                have hz := hG.z d9 hDi
                have h14 := HX14.out.ext hlo
                have y0 := h14.cell 0 rfl
                have y1 := h14.cell 1 rfl
                have y2 := h14.cell 2 rfl
                have y3 := h14.cell 3 rfl
                have y4 := h14.cell 4 rfl
                have z0 := h14.frozen 0
                have z1 := h14.frozen 1
                have z2 := h14.frozen 2
                have z3 := h14.frozen 3
                have z4 := h14.frozen 4
                refine wp_skipF (w' := st5 wk g14 0 (.int .i64 env.W) (.int .i64 env.H) (.slice env.ya env.yn env.yc) (.slice env.ua env.un env.uc) (.slice env.va env.vn env.vc)) ?_ ⟨env, fun _ _ _ => rfl, rfl, fun h => (by cases h), fun _ h => (by cases h), fun _ => HKS.out env wk hlo hz.1 hz.2⟩
                have hst := run_store5a wk g14 env ⟨_, y0⟩ ⟨_, y1⟩ ⟨_, y2⟩ ⟨_, y3⟩ ⟨_, y4⟩ z0 z1 z2 z3 z4
                have e11 := fr.at_ 11 (hpre ⟨11, .data⟩ (by simp) rfl) rfl
                have e13 := fr.at_ 13 (hpre ⟨13, .data⟩ (by simp) rfl) rfl
                simp only [gf0] at e11 e13
                simp [execOp, e11, e13, hst, Sem.run_bind, Sem.run_pure, Result.andThen]
              · have f12 := fr.atT 12 (hpre ⟨12, .data⟩ (by simp) rfl) rfl
                refine ⟨true, rfl, fun _ => wp_value (w' := wk) ?_ ⟨env, fun _ _ _ => rfl, rfl, hG⟩, (fun h => by cases h)⟩
                simp [execOp, f12, gf0, go_sem]
            case hend =>
              intro env D w7 hG hall
              have hK := hG.hi (hall 14 (by decide))
              simp only [putsU, Act.put, List.setIfInBounds_toArray, List.set_cons_succ, List.set_cons_zero, Nat.zero_add, Nat.reduceAdd, gf0]
              obtain ⟨k1, k2, k3, k4⟩ := hK
              have HB7 := Lib.hid k1
              have HX7 := Lib.hid k2
              have HC7 := Lib.hid k3
              have HI7 := Lib.hid k4
              clear hG hall k1 k2 k3 k4
              go_wp2_with fail
              go_roundw
              case rel => exact .inr (.inl ⟨by go_num, HM0.out, env, HB7.out, HX7.out, HC7.out, HI7.out⟩)
              case measure => (simp [intOf]; try omega)
        · have HBR := Lib.hid hfb
          have HXR := Lib.hid hx
          have HQR := Lib.hid hq
          have HCQ := Lib.hid hcq
          have HM0 := Lib.hid hm0
          clear hfb hx hcq hq hm0
          obtain ⟨⟨c0, c1, c2, c3, c4⟩, ⟨d0, d1, d2, d3⟩, e0, e1⟩ := HBR.out.get
          go_wp2_with fail
          refine (HF1.out _ HBR.out.be).mono ?_
          intro e w3 hr3
          obtain ⟨x1, rfl, hc1, hi1, hb3⟩ := hr3.parts
          have HB4 := Lib.hid ((HBR.out.ext hb3).alloc (.cells #[.int .i64 x1.W, .int .i64 x1.H, .slice x1.ya x1.yn x1.yc, .slice x1.ua x1.un x1.uc, .slice x1.va x1.vn x1.vc] 24))
          have HX14 := Lib.hid ((HXR.out.ext hb3).alloc (.cells #[.int .i64 x1.W, .int .i64 x1.H, .slice x1.ya x1.yn x1.yc, .slice x1.ua x1.un x1.uc, .slice x1.va x1.vn x1.vc] 24))
          have HX17 := Lib.hid (Bx.new w3 24 #[.int .i64 x1.W, .int .i64 x1.H, .slice x1.ya x1.yn x1.yc, .slice x1.ua x1.un x1.uc, .slice x1.va x1.vn x1.vc])
          have HI4 := Lib.hid ((hi1.mono (q := fun _ => True) (fun _ _ _ => trivial)).alloc (.cells #[.int .i64 x1.W, .int .i64 x1.H, .slice x1.ya x1.yn x1.yc, .slice x1.ua x1.un x1.uc, .slice x1.va x1.vn x1.vc] 24))
          have HQ4 := Lib.hid ((HQR.out.ext hb3).alloc (.cells #[.int .i64 x1.W, .int .i64 x1.H, .slice x1.ya x1.yn x1.yc, .slice x1.ua x1.un x1.uc, .slice x1.va x1.vn x1.vc] 24))
          have y3 := hb3.size
          have yg := HXR.out.lt
          clear hr3 hc1 hi1 hb3 c0 c1 c2 c3 c4 d0 d1 d2 d3 e0 e1
          simp only [FV.val]
          go_upto_region 14 with fail
          generalize w3.alloc (.cells #[.int .i64 x1.W, .int .i64 x1.H, .slice x1.ya x1.yn x1.yc, .slice x1.ua x1.un x1.uc, .slice x1.va x1.vn x1.vc] 24) = w4 at *
          have HG14 : Hid (g14 < w4.heap.size) := Lib.hid HX14.out.lt
          have HKS : Hid (∀ (env : FV) (W : World), Below w4.heap.size w4 W → CapsOK env.val → IsFr (g14 < ·) W env.val P2 → (fun env W => FB w #[.int .i64 X.W, .int .i64 X.H, .slice X.ya X.yn X.yc, .slice X.ua X.un X.uc, .slice X.va X.vn X.vc] #[.int .i64 vx, .int .i64 vy, .int .i64 wx, .int .i64 wy] #[.int .i64 a, .int .i64 b] #[.int .i64 0, .int .i64 0, .slice none 0 0, .slice none 0 0, .slice none 0 0] W ∧ Bx W g14 59 #[.int .i64 q1.W, .int .i64 q1.H, .slice q1.ya q1.yn q1.yc, .slice q1.ua q1.un q1.uc, .slice q1.va q1.vn q1.vc, .int .i64 env.W, .int .i64 env.H, .slice env.ya env.yn env.yc, .slice env.ua env.un env.uc, .slice env.va env.vn env.vc] ∧ CapsOK env.val ∧ IsFr (g14 < ·) W env.val P2 ∧ IsFr (g14 < ·) W q1.val P1) env (st5 W g14 5 (.int .i64 env.W) (.int .i64 env.H) (.slice env.ya env.yn env.yc) (.slice env.ua env.un env.uc) (.slice env.va env.vn env.vc))) := Lib.hid (fun env W hW hc hi => ⟨(HB4.out.ext hW).st5 (by omega) _ _ _ _ _, st5_hi (HX14.out.ext hW), hc, st5_isFr hi (by omega), st5_isFr (HQ4.out.ext hW) (by omega)⟩)
          have HKZ : Hid (∀ (env : FV) (W : World), Below w4.heap.size w4 W → CapsOK env.val → IsFr (g14 < ·) W env.val zeroFr → (fun env W => FB w #[.int .i64 X.W, .int .i64 X.H, .slice X.ya X.yn X.yc, .slice X.ua X.un X.uc, .slice X.va X.vn X.vc] #[.int .i64 vx, .int .i64 vy, .int .i64 wx, .int .i64 wy] #[.int .i64 a, .int .i64 b] #[.int .i64 0, .int .i64 0, .slice none 0 0, .slice none 0 0, .slice none 0 0] W ∧ Bx W g14 59 #[.int .i64 q1.W, .int .i64 q1.H, .slice q1.ya q1.yn q1.yc, .slice q1.ua q1.un q1.uc, .slice q1.va q1.vn q1.vc, .int .i64 env.W, .int .i64 env.H, .slice env.ya env.yn env.yc, .slice env.ua env.un env.uc, .slice env.va env.vn env.vc] ∧ CapsOK env.val ∧ IsFr (g14 < ·) W env.val zeroFr ∧ IsFr (g14 < ·) W q1.val P1) env (st5 W g14 5 (.int .i64 env.W) (.int .i64 env.H) (.slice env.ya env.yn env.yc) (.slice env.ua env.un env.uc) (.slice env.va env.vn env.vc))) := Lib.hid (fun env W hW hc hi => ⟨(HB4.out.ext hW).st5 (by omega) _ _ _ _ _, st5_hi (HX14.out.ext hW), hc, st5_isFr hi (by omega), st5_isFr (HQ4.out.ext hW) (by omega)⟩)
          cases hm : mayB wx wy with
          | false =>
            have HR2 := Lib.hid (flds_r2 HOK.out (vx := vx) (vy := vy) (wx := wx) (wy := wy) hm)
            have HPR : Hid (∀ (x : FV) (w' : World) (q : Nat → Prop), IsFr q w' x.val (fieldFr f b.toNat) → Calls Try.prog 15 #[x.val, .int .i64 (16 * mx), .int .i64 (8 * my), .int .i64 16, .int .i64 8, .agg #[.int .i64 wx, .int .i64 wy]] w' (RetFc w' (zeroFr, 2))) := Lib.hid (fun x w' q hx => plane_Pred8R HOK.out _ x.val wx wy w' hx hm)
            clear hm
            go_upto_region 16 with fail
            refine wp_region_fixedE (gf1 (w.heap.size + 1) g14 w3.heap.size x1 mx my wx wy 2) (fun env D W => GF w4 g14 zeroFr (fun env W => FB w #[.int .i64 X.W, .int .i64 X.H, .slice X.ya X.yn X.yc, .slice X.ua X.un X.uc, .slice X.va X.vn X.vc] #[.int .i64 vx, .int .i64 vy, .int .i64 wx, .int .i64 wy] #[.int .i64 a, .int .i64 b] #[.int .i64 0, .int .i64 0, .slice none 0 0, .slice none 0 0, .slice none 0 0] W ∧ Bx W g14 59 #[.int .i64 q1.W, .int .i64 q1.H, .slice q1.ya q1.yn q1.yc, .slice q1.ua q1.un q1.uc, .slice q1.va q1.vn q1.vc, .int .i64 env.W, .int .i64 env.H, .slice env.ya env.yn env.yc, .slice env.ua env.un env.uc, .slice env.va env.vn env.vc] ∧ CapsOK env.val ∧ IsFr (g14 < ·) W env.val zeroFr ∧ IsFr (g14 < ·) W q1.val P1) env (D 9) (D 14) W) FV.zero (by kernel_rfl) (by kernel_rfl) (by kernel_rfl) ?h0 ?hstep ?hend
            case h0 => exact ⟨fun _ => (Below.refl _ _).drew, fun h => (by cases h), fun h => (by cases h)⟩
            case hstep =>
              intro k o ho env D ac wk fr hG hcl hDi hpre hun
              have o1 : ac.tmps[1]?.getD undef = .int .i64 mx := fr.oldT 1 rfl
              have o2 : ac.tmps[2]?.getD undef = .int .i64 my := fr.oldT 2 rfl
              have o8 : ac.tmps[8]?.getD undef = .pointer (some ⟨w.heap.size + 1, 0, none⟩) := fr.oldT 8 rfl
              have o14 : ac.tmps[14]?.getD undef = .pointer (some ⟨g14, 0, none⟩) := fr.oldT 14 rfl
              have o15 : ac.tmps[15]?.getD undef = .int .i64 1 := fr.oldT 15 rfl
              have o17 : ac.tmps[17]?.getD undef = .pointer (some ⟨w3.heap.size, 0, none⟩) := fr.oldT 17 rfl
              have hkn : k < 16 := (List.getElem?_eq_some_iff.1 ho).1
              rcases (show k = 0 ∨ k = 1 ∨ k = 2 ∨ k = 3 ∨ k = 4 ∨ k = 5 ∨ k = 6 ∨ k = 7 ∨ k = 8 ∨ k = 9 ∨ k = 10 ∨ k = 11 ∨ k = 12 ∨ k = 13 ∨ k = 14 ∨ k = 15 by omega) with rfl | rfl | rfl | rfl | rfl | rfl | rfl | rfl | rfl | rfl | rfl | rfl | rfl | rfl | rfl | rfl
              all_goals (simp only [List.getElem?_cons_zero, List.getElem?_cons_succ, Option.some.injEq] at ho; subst ho)
              · refine ⟨true, rfl, fun _ => wp_value (w' := wk) ?_ ⟨env, fun _ _ _ => rfl, rfl, hG⟩, (fun h => by cases h)⟩
                simp [execOp, o15, gf1, go_sem]
              · refine ⟨true, rfl, fun _ => ?_, (fun h => by cases h)⟩
                have n14 : D 14 = false := by
                  cases h : D 14 with
                  | false => rfl
                  | true => have h2 := hcl 14 _ rfl h ⟨1, .phase⟩ (by simp) rfl; rw [hDi] at h2; cases h2
                obtain ⟨⟨c0, c1, c2, c3, c4⟩, ⟨d0, d1, d2, d3⟩, e0', e1'⟩ := (HB4.out.ext (hG.lo n14)).get
                obtain ⟨⟨t0, t1, t2, t3, t4⟩, _, _⟩ := (HX17.out.ext (hG.lo n14)).five
                exact wp_value (w' := wk) (by simp [execOp, o17, gf1, FV.val, go_sem, t0, t1, t2, t3, t4]) ⟨env, fun _ _ _ => rfl, rfl, hG⟩
              · refine ⟨true, rfl, fun _ => wp_value (w' := wk) ?_ ⟨env, fun _ _ _ => rfl, rfl, hG⟩, (fun h => by cases h)⟩
                simp [execOp, o1, gf1, go_sem]
              · have f2 := fr.atT 2 (hpre ⟨2, .data⟩ (by simp) rfl) rfl
                refine ⟨true, rfl, fun _ => wp_value (w' := wk) ?_ ⟨env, fun _ _ _ => rfl, rfl, hG⟩, (fun h => by cases h)⟩
                simp [execOp, f2, gf1, go_sem, wmx]
              · refine ⟨true, rfl, fun _ => wp_value (w' := wk) ?_ ⟨env, fun _ _ _ => rfl, rfl, hG⟩, (fun h => by cases h)⟩
                simp [execOp, o2, gf1, go_sem]
              · have f4 := fr.atT 4 (hpre ⟨4, .data⟩ (by simp) rfl) rfl
                refine ⟨true, rfl, fun _ => wp_value (w' := wk) ?_ ⟨env, fun _ _ _ => rfl, rfl, hG⟩, (fun h => by cases h)⟩
                simp [execOp, f4, gf1, go_sem, wmy]
              · refine ⟨true, rfl, fun _ => wp_value (w' := wk) ?_ ⟨env, fun _ _ _ => rfl, rfl, hG⟩, (fun h => by cases h)⟩
                simp [execOp, o15, gf1, go_sem]
              · have f6 := fr.atT 6 (hpre ⟨6, .data⟩ (by simp) rfl) rfl
                refine ⟨true, rfl, fun _ => wp_value (w' := wk) ?_ ⟨env, fun _ _ _ => rfl, rfl, hG⟩, (fun h => by cases h)⟩
                simp [execOp, o8, f6, gf1, go_sem]
              · have f7 := fr.atT 7 (hpre ⟨7, .data⟩ (by simp) rfl) rfl
                refine ⟨true, rfl, fun _ => ?_, (fun h => by cases h)⟩
                have n14 : D 14 = false := by
                  cases h : D 14 with
                  | false => rfl
                  | true => have h2 := hcl 14 _ rfl h ⟨8, .phase⟩ (by simp) rfl; rw [hDi] at h2; cases h2
                obtain ⟨⟨c0, c1, c2, c3, c4⟩, ⟨d0, d1, d2, d3⟩, e0', e1'⟩ := (HB4.out.ext (hG.lo n14)).get
                obtain ⟨⟨t0, t1, t2, t3, t4⟩, _, _⟩ := (HX17.out.ext (hG.lo n14)).five
                exact wp_value (w' := wk) (by simp [execOp, f7, gf1, FV.val, go_sem, d0, d1, d2, d3]) ⟨env, fun _ _ _ => rfl, rfl, hG⟩
              · have f1 := fr.atT 1 (hpre ⟨1, .data⟩ (by simp) rfl) rfl
                have e1 := fr.at_ 1 (hpre ⟨1, .data⟩ (by simp) rfl) rfl
                have f3 := fr.atT 3 (hpre ⟨3, .data⟩ (by simp) rfl) rfl
                have e3 := fr.at_ 3 (hpre ⟨3, .data⟩ (by simp) rfl) rfl
                have f5 := fr.atT 5 (hpre ⟨5, .data⟩ (by simp) rfl) rfl
                have e5 := fr.at_ 5 (hpre ⟨5, .data⟩ (by simp) rfl) rfl
                have f8 := fr.atT 8 (hpre ⟨8, .data⟩ (by simp) rfl) rfl
                have e8 := fr.at_ 8 (hpre ⟨8, .data⟩ (by simp) rfl) rfl
                refine ⟨true, rfl, fun _ => ?_, (fun h => by cases h)⟩
                have n14 : D 14 = false := by
                  cases h : D 14 with
                  | false => rfl
                  | true => have h2 := hcl 14 _ rfl h ⟨11, .data⟩ (by simp) rfl; have h3 := hcl 11 _ rfl h2 ⟨10, .data⟩ (by simp) rfl; have h4 := hcl 10 _ rfl h3 ⟨9, .data⟩ (by simp) rfl; rw [hDi] at h4; cases h4
                have n10 : ¬ D 10 = true := fun h => by have h4 := hcl 10 _ rfl h ⟨9, .data⟩ (by simp) rfl; rw [hDi] at h4; cases h4
                have n11 : ¬ D 11 = true := fun h => by have h3 := hcl 11 _ rfl h ⟨10, .data⟩ (by simp) rfl; have h4 := hcl 10 _ rfl h3 ⟨9, .data⟩ (by simp) rfl; rw [hDi] at h4; cases h4
                refine wp_called (f := 15) (args := #[x1.val, .int .i64 (16 * mx), .int .i64 (8 * my), .int .i64 16, .int .i64 8, .agg #[.int .i64 wx, .int .i64 wy]]) ?_ (HPR.out x1 wk _ (HI4.out.ext (hG.lo n14))) ?_
                · simp [execOp, resolve, invoke, f1, e1, f3, e3, f5, e5, f8, e8, gf1, go_sem]
                · intro e w' hr9
                  obtain ⟨p1, rfl, hc9, hi9, hb9⟩ := hr9.parts
                  refine ⟨_, rfl, p1, fun j hjl hj => gf1_env (fun e => by rw [e, hDi] at hj; cases hj) (fun e => n10 (by rw [← e]; exact hj)) (fun e => n11 (by rw [← e]; exact hj)) hjl, rfl, fun _ => (hG.lo n14).trans (hb9.mono (hG.lo n14).size), fun _ _ => ⟨hc9, hi9.mono (fun b _ h => by have := HG14.out; have := (hG.lo n14).size; omega)⟩, fun h => absurd (show D 14 = true from h) (by rw [n14]; exact Bool.false_ne_true)⟩
              · have f9 := fr.atT 9 (hpre ⟨9, .data⟩ (by simp) rfl) rfl
                refine ⟨true, rfl, fun _ => wp_value (w' := wk) ?_ ⟨env, fun _ _ _ => rfl, rfl, hG⟩, (fun h => by cases h)⟩
                simp [execOp, f9, gf1, go_sem]
              · have f10 := fr.atT 10 (hpre ⟨10, .data⟩ (by simp) rfl) rfl
                refine ⟨true, rfl, fun _ => wp_value (w' := wk) ?_ ⟨env, fun _ _ _ => rfl, rfl, hG⟩, (fun h => by cases h)⟩
                simp [execOp, f10, gf1, go_sem, FV.val]
              · have f10 := fr.atT 10 (hpre ⟨10, .data⟩ (by simp) rfl) rfl
                refine ⟨true, rfl, fun _ => wp_value (w' := wk) ?_ ⟨env, fun _ _ _ => rfl, rfl, hG⟩, (fun h => by cases h)⟩
                simp [execOp, f10, gf1, go_sem]
              · have f0 := fr.atT 0 (hpre ⟨0, .data⟩ (by simp) rfl) rfl
                refine ⟨true, rfl, fun _ => wp_value (w' := wk) ?_ ⟨env, fun _ _ _ => rfl, rfl, hG⟩, (fun h => by cases h)⟩
                simp [execOp, o14, f0, gf1, go_sem]
              · have f13 := fr.atT 13 (hpre ⟨13, .data⟩ (by simp) rfl) rfl
                have f11 := fr.atT 11 (hpre ⟨11, .data⟩ (by simp) rfl) rfl
                refine ⟨true, rfl, fun _ => ?_, (fun h => by cases h)⟩
                have d11 : D 11 = true := hpre ⟨11, .data⟩ (by simp) rfl
                have d10 : D 10 = true := hcl 11 _ rfl d11 ⟨10, .data⟩ (by simp) rfl
                have d9 : D 9 = true := hcl 10 _ rfl d10 ⟨9, .data⟩ (by simp) rfl
                have hlo := hG.lo hDi
                have hz := hG.z d9 hDi
                have h14 := HX14.out.ext hlo
                have y0 := h14.cell 5 rfl
                have y1 := h14.cell 6 rfl
                have y2 := h14.cell 7 rfl
                have y3 := h14.cell 8 rfl
                have y4 := h14.cell 9 rfl
                have z0 := h14.frozen 5
                have z1 := h14.frozen 6
                have z2 := h14.frozen 7
                have z3 := h14.frozen 8
                have z4 := h14.frozen 9
                refine wp_skipF (w' := st5 wk g14 5 (.int .i64 env.W) (.int .i64 env.H) (.slice env.ya env.yn env.yc) (.slice env.ua env.un env.uc) (.slice env.va env.vn env.vc)) ?_ ⟨env, fun _ _ _ => rfl, rfl, fun h => (by cases h), fun _ h => (by cases h), fun _ => HKZ.out env wk hlo hz.1 hz.2⟩
                have hst := run_store5b wk g14 env ⟨_, y0⟩ ⟨_, y1⟩ ⟨_, y2⟩ ⟨_, y3⟩ ⟨_, y4⟩ z0 z1 z2 z3 z4
                have e11 := fr.at_ 11 (hpre ⟨11, .data⟩ (by simp) rfl) rfl
                have e13 := fr.at_ 13 (hpre ⟨13, .data⟩ (by simp) rfl) rfl
                simp only [gf1] at e11 e13
                simp [execOp, e11, e13, hst, Sem.run_bind, Sem.run_pure, Result.andThen]
              · have f12 := fr.atT 12 (hpre ⟨12, .data⟩ (by simp) rfl) rfl
                refine ⟨true, rfl, fun _ => wp_value (w' := wk) ?_ ⟨env, fun _ _ _ => rfl, rfl, hG⟩, (fun h => by cases h)⟩
                simp [execOp, f12, gf1, go_sem]
            case hend =>
              intro env D w7 hG hall
              have hK := hG.hi (hall 14 (by decide))
              simp only [putsU, Act.put, List.setIfInBounds_toArray, List.set_cons_succ, List.set_cons_zero, Nat.zero_add, Nat.reduceAdd, gf1]
              obtain ⟨k1, k2, k3, k4, k5⟩ := hK
              have HB7 := Lib.hid k1
              have HX7 := Lib.hid k2
              have HC7 := Lib.hid k3
              have HI7 := Lib.hid k4
              have HQ7 := Lib.hid k5
              clear hG hall k1 k2 k3 k4 k5
              obtain ⟨⟨r0, r1, r2, r3, r4⟩, ⟨z0, z1, z2, z3, z4⟩, zl⟩ := HB7.out.res
              go_wp2_with fail
              refine bodyPost_ret (v := .tuple #[.agg #[.int .i64 0, .int .i64 0, .slice none 0 0, .slice none 0 0, .slice none 0 0], .int .i64 2]) (by simp only [results, Try.results23]; go_simp) rfl ?_
              rw [HR2.out]
              exact HB7.out.leave (r := (zeroFr, 2)) FV.zero (CapsOK.mk (Nat.le_refl _) (Nat.le_refl _) (Nat.le_refl _)) ⟨_, _, _, _, _, _, _, _, _, rfl, Byt.nil, Byt.nil, Byt.nil⟩
          | true =>
            have HM1 := Lib.hid hm
            have HPR : Hid (∀ (x : FV) (w' : World) (q : Nat → Prop), IsFr q w' x.val (fieldFr f b.toNat) → Calls Try.prog 15 #[x.val, .int .i64 (16 * mx), .int .i64 (8 * my), .int .i64 16, .int .i64 8, .agg #[.int .i64 wx, .int .i64 wy]] w' (RetFc w' (P2, 0))) := Lib.hid (fun x w' q hx => by
              have := plane_Pred8 HOK.out _ x.val wx wy w' hx HM1.out
              rwa [show predFr (fieldFr f b.toNat) (16 * mx) (8 * my) 8 wx wy = P2 from HPP1.out] at this)
            clear hm
            go_upto_region 16 with fail
            refine wp_region_fixedE (gf1 (w.heap.size + 1) g14 w3.heap.size x1 mx my wx wy 0) (fun env D W => GF w4 g14 P2 (fun env W => FB w #[.int .i64 X.W, .int .i64 X.H, .slice X.ya X.yn X.yc, .slice X.ua X.un X.uc, .slice X.va X.vn X.vc] #[.int .i64 vx, .int .i64 vy, .int .i64 wx, .int .i64 wy] #[.int .i64 a, .int .i64 b] #[.int .i64 0, .int .i64 0, .slice none 0 0, .slice none 0 0, .slice none 0 0] W ∧ Bx W g14 59 #[.int .i64 q1.W, .int .i64 q1.H, .slice q1.ya q1.yn q1.yc, .slice q1.ua q1.un q1.uc, .slice q1.va q1.vn q1.vc, .int .i64 env.W, .int .i64 env.H, .slice env.ya env.yn env.yc, .slice env.ua env.un env.uc, .slice env.va env.vn env.vc] ∧ CapsOK env.val ∧ IsFr (g14 < ·) W env.val P2 ∧ IsFr (g14 < ·) W q1.val P1) env (D 9) (D 14) W) FV.zero (by kernel_rfl) (by kernel_rfl) (by kernel_rfl) ?h0 ?hstep ?hend
            case h0 => exact ⟨fun _ => (Below.refl _ _).drew, fun h => (by cases h), fun h => (by cases h)⟩
            case hstep =>
              intro k o ho env D ac wk fr hG hcl hDi hpre hun
              have o1 : ac.tmps[1]?.getD undef = .int .i64 mx := fr.oldT 1 rfl
              have o2 : ac.tmps[2]?.getD undef = .int .i64 my := fr.oldT 2 rfl
              have o8 : ac.tmps[8]?.getD undef = .pointer (some ⟨w.heap.size + 1, 0, none⟩) := fr.oldT 8 rfl
              have o14 : ac.tmps[14]?.getD undef = .pointer (some ⟨g14, 0, none⟩) := fr.oldT 14 rfl
              have o15 : ac.tmps[15]?.getD undef = .int .i64 1 := fr.oldT 15 rfl
              have o17 : ac.tmps[17]?.getD undef = .pointer (some ⟨w3.heap.size, 0, none⟩) := fr.oldT 17 rfl
              have hkn : k < 16 := (List.getElem?_eq_some_iff.1 ho).1
              rcases (show k = 0 ∨ k = 1 ∨ k = 2 ∨ k = 3 ∨ k = 4 ∨ k = 5 ∨ k = 6 ∨ k = 7 ∨ k = 8 ∨ k = 9 ∨ k = 10 ∨ k = 11 ∨ k = 12 ∨ k = 13 ∨ k = 14 ∨ k = 15 by omega) with rfl | rfl | rfl | rfl | rfl | rfl | rfl | rfl | rfl | rfl | rfl | rfl | rfl | rfl | rfl | rfl
              all_goals (simp only [List.getElem?_cons_zero, List.getElem?_cons_succ, Option.some.injEq] at ho; subst ho)
              · refine ⟨true, rfl, fun _ => wp_value (w' := wk) ?_ ⟨env, fun _ _ _ => rfl, rfl, hG⟩, (fun h => by cases h)⟩
                simp [execOp, o15, gf1, go_sem]
              · refine ⟨true, rfl, fun _ => ?_, (fun h => by cases h)⟩
                have n14 : D 14 = false := by
                  cases h : D 14 with
                  | false => rfl
                  | true => have h2 := hcl 14 _ rfl h ⟨1, .phase⟩ (by simp) rfl; rw [hDi] at h2; cases h2
                obtain ⟨⟨c0, c1, c2, c3, c4⟩, ⟨d0, d1, d2, d3⟩, e0', e1'⟩ := (HB4.out.ext (hG.lo n14)).get
                obtain ⟨⟨t0, t1, t2, t3, t4⟩, _, _⟩ := (HX17.out.ext (hG.lo n14)).five
                exact wp_value (w' := wk) (by simp [execOp, o17, gf1, FV.val, go_sem, t0, t1, t2, t3, t4]) ⟨env, fun _ _ _ => rfl, rfl, hG⟩
              · refine ⟨true, rfl, fun _ => wp_value (w' := wk) ?_ ⟨env, fun _ _ _ => rfl, rfl, hG⟩, (fun h => by cases h)⟩
                simp [execOp, o1, gf1, go_sem]
              · have f2 := fr.atT 2 (hpre ⟨2, .data⟩ (by simp) rfl) rfl
                refine ⟨true, rfl, fun _ => wp_value (w' := wk) ?_ ⟨env, fun _ _ _ => rfl, rfl, hG⟩, (fun h => by cases h)⟩
                simp [execOp, f2, gf1, go_sem, wmx]
              · refine ⟨true, rfl, fun _ => wp_value (w' := wk) ?_ ⟨env, fun _ _ _ => rfl, rfl, hG⟩, (fun h => by cases h)⟩
                simp [execOp, o2, gf1, go_sem]
              · have f4 := fr.atT 4 (hpre ⟨4, .data⟩ (by simp) rfl) rfl
                refine ⟨true, rfl, fun _ => wp_value (w' := wk) ?_ ⟨env, fun _ _ _ => rfl, rfl, hG⟩, (fun h => by cases h)⟩
                simp [execOp, f4, gf1, go_sem, wmy]
              · refine ⟨true, rfl, fun _ => wp_value (w' := wk) ?_ ⟨env, fun _ _ _ => rfl, rfl, hG⟩, (fun h => by cases h)⟩
                simp [execOp, o15, gf1, go_sem]
              · have f6 := fr.atT 6 (hpre ⟨6, .data⟩ (by simp) rfl) rfl
                refine ⟨true, rfl, fun _ => wp_value (w' := wk) ?_ ⟨env, fun _ _ _ => rfl, rfl, hG⟩, (fun h => by cases h)⟩
                simp [execOp, o8, f6, gf1, go_sem]
              · have f7 := fr.atT 7 (hpre ⟨7, .data⟩ (by simp) rfl) rfl
                refine ⟨true, rfl, fun _ => ?_, (fun h => by cases h)⟩
                have n14 : D 14 = false := by
                  cases h : D 14 with
                  | false => rfl
                  | true => have h2 := hcl 14 _ rfl h ⟨8, .phase⟩ (by simp) rfl; rw [hDi] at h2; cases h2
                obtain ⟨⟨c0, c1, c2, c3, c4⟩, ⟨d0, d1, d2, d3⟩, e0', e1'⟩ := (HB4.out.ext (hG.lo n14)).get
                obtain ⟨⟨t0, t1, t2, t3, t4⟩, _, _⟩ := (HX17.out.ext (hG.lo n14)).five
                exact wp_value (w' := wk) (by simp [execOp, f7, gf1, FV.val, go_sem, d0, d1, d2, d3]) ⟨env, fun _ _ _ => rfl, rfl, hG⟩
              · have f1 := fr.atT 1 (hpre ⟨1, .data⟩ (by simp) rfl) rfl
                have e1 := fr.at_ 1 (hpre ⟨1, .data⟩ (by simp) rfl) rfl
                have f3 := fr.atT 3 (hpre ⟨3, .data⟩ (by simp) rfl) rfl
                have e3 := fr.at_ 3 (hpre ⟨3, .data⟩ (by simp) rfl) rfl
                have f5 := fr.atT 5 (hpre ⟨5, .data⟩ (by simp) rfl) rfl
                have e5 := fr.at_ 5 (hpre ⟨5, .data⟩ (by simp) rfl) rfl
                have f8 := fr.atT 8 (hpre ⟨8, .data⟩ (by simp) rfl) rfl
                have e8 := fr.at_ 8 (hpre ⟨8, .data⟩ (by simp) rfl) rfl
                refine ⟨true, rfl, fun _ => ?_, (fun h => by cases h)⟩
                have n14 : D 14 = false := by
                  cases h : D 14 with
                  | false => rfl
                  | true => have h2 := hcl 14 _ rfl h ⟨11, .data⟩ (by simp) rfl; have h3 := hcl 11 _ rfl h2 ⟨10, .data⟩ (by simp) rfl; have h4 := hcl 10 _ rfl h3 ⟨9, .data⟩ (by simp) rfl; rw [hDi] at h4; cases h4
                have n10 : ¬ D 10 = true := fun h => by have h4 := hcl 10 _ rfl h ⟨9, .data⟩ (by simp) rfl; rw [hDi] at h4; cases h4
                have n11 : ¬ D 11 = true := fun h => by have h3 := hcl 11 _ rfl h ⟨10, .data⟩ (by simp) rfl; have h4 := hcl 10 _ rfl h3 ⟨9, .data⟩ (by simp) rfl; rw [hDi] at h4; cases h4
                refine wp_called (f := 15) (args := #[x1.val, .int .i64 (16 * mx), .int .i64 (8 * my), .int .i64 16, .int .i64 8, .agg #[.int .i64 wx, .int .i64 wy]]) ?_ (HPR.out x1 wk _ (HI4.out.ext (hG.lo n14))) ?_
                · simp [execOp, resolve, invoke, f1, e1, f3, e3, f5, e5, f8, e8, gf1, go_sem]
                · intro e w' hr9
                  obtain ⟨p1, rfl, hc9, hi9, hb9⟩ := hr9.parts
                  refine ⟨_, rfl, p1, fun j hjl hj => gf1_env (fun e => by rw [e, hDi] at hj; cases hj) (fun e => n10 (by rw [← e]; exact hj)) (fun e => n11 (by rw [← e]; exact hj)) hjl, rfl, fun _ => (hG.lo n14).trans (hb9.mono (hG.lo n14).size), fun _ _ => ⟨hc9, hi9.mono (fun b _ h => by have := HG14.out; have := (hG.lo n14).size; omega)⟩, fun h => absurd (show D 14 = true from h) (by rw [n14]; exact Bool.false_ne_true)⟩
              · have f9 := fr.atT 9 (hpre ⟨9, .data⟩ (by simp) rfl) rfl
                refine ⟨true, rfl, fun _ => wp_value (w' := wk) ?_ ⟨env, fun _ _ _ => rfl, rfl, hG⟩, (fun h => by cases h)⟩
                simp [execOp, f9, gf1, go_sem]
              · have f10 := fr.atT 10 (hpre ⟨10, .data⟩ (by simp) rfl) rfl
                refine ⟨true, rfl, fun _ => wp_value (w' := wk) ?_ ⟨env, fun _ _ _ => rfl, rfl, hG⟩, (fun h => by cases h)⟩
                simp [execOp, f10, gf1, go_sem, FV.val]
              · have f10 := fr.atT 10 (hpre ⟨10, .data⟩ (by simp) rfl) rfl
                refine ⟨true, rfl, fun _ => wp_value (w' := wk) ?_ ⟨env, fun _ _ _ => rfl, rfl, hG⟩, (fun h => by cases h)⟩
                simp [execOp, f10, gf1, go_sem]
              · have f0 := fr.atT 0 (hpre ⟨0, .data⟩ (by simp) rfl) rfl
                refine ⟨true, rfl, fun _ => wp_value (w' := wk) ?_ ⟨env, fun _ _ _ => rfl, rfl, hG⟩, (fun h => by cases h)⟩
                simp [execOp, o14, f0, gf1, go_sem]
              · have f13 := fr.atT 13 (hpre ⟨13, .data⟩ (by simp) rfl) rfl
                have f11 := fr.atT 11 (hpre ⟨11, .data⟩ (by simp) rfl) rfl
                refine ⟨true, rfl, fun _ => ?_, (fun h => by cases h)⟩
                have d11 : D 11 = true := hpre ⟨11, .data⟩ (by simp) rfl
                have d10 : D 10 = true := hcl 11 _ rfl d11 ⟨10, .data⟩ (by simp) rfl
                have d9 : D 9 = true := hcl 10 _ rfl d10 ⟨9, .data⟩ (by simp) rfl
                have hlo := hG.lo hDi
                have hz := hG.z d9 hDi
                have h14 := HX14.out.ext hlo
                have y0 := h14.cell 5 rfl
                have y1 := h14.cell 6 rfl
                have y2 := h14.cell 7 rfl
                have y3 := h14.cell 8 rfl
                have y4 := h14.cell 9 rfl
                have z0 := h14.frozen 5
                have z1 := h14.frozen 6
                have z2 := h14.frozen 7
                have z3 := h14.frozen 8
                have z4 := h14.frozen 9
                refine wp_skipF (w' := st5 wk g14 5 (.int .i64 env.W) (.int .i64 env.H) (.slice env.ya env.yn env.yc) (.slice env.ua env.un env.uc) (.slice env.va env.vn env.vc)) ?_ ⟨env, fun _ _ _ => rfl, rfl, fun h => (by cases h), fun _ h => (by cases h), fun _ => HKS.out env wk hlo hz.1 hz.2⟩
                have hst := run_store5b wk g14 env ⟨_, y0⟩ ⟨_, y1⟩ ⟨_, y2⟩ ⟨_, y3⟩ ⟨_, y4⟩ z0 z1 z2 z3 z4
                have e11 := fr.at_ 11 (hpre ⟨11, .data⟩ (by simp) rfl) rfl
                have e13 := fr.at_ 13 (hpre ⟨13, .data⟩ (by simp) rfl) rfl
                simp only [gf1] at e11 e13
                simp [execOp, e11, e13, hst, Sem.run_bind, Sem.run_pure, Result.andThen]
              · have f12 := fr.atT 12 (hpre ⟨12, .data⟩ (by simp) rfl) rfl
                refine ⟨true, rfl, fun _ => wp_value (w' := wk) ?_ ⟨env, fun _ _ _ => rfl, rfl, hG⟩, (fun h => by cases h)⟩
                simp [execOp, f12, gf1, go_sem]
            case hend =>
              intro env D w7 hG hall
              have hK := hG.hi (hall 14 (by decide))
              simp only [putsU, Act.put, List.setIfInBounds_toArray, List.set_cons_succ, List.set_cons_zero, Nat.zero_add, Nat.reduceAdd, gf1]
              obtain ⟨k1, k2, k3, k4, k5⟩ := hK
              have HB7 := Lib.hid k1
              have HX7 := Lib.hid k2
              have HC7 := Lib.hid k3
              have HI7 := Lib.hid k4
              have HQ7 := Lib.hid k5
              clear hG hall k1 k2 k3 k4 k5
              go_wp2_with fail
              go_roundw
              case rel => exact .inr (.inr ⟨by go_num, HM0.out, HM1.out, q1, env, HB7.out, HX7.out, HCQ.out, HC7.out, HQ7.out, HI7.out⟩)
              case measure => (simp [intOf]; try omega)
        · have HBR := Lib.hid hfb
          have HXR := Lib.hid hx
          have HRR := Lib.hid (flds_ok HOK.out hm0 hm1)
          have HWV := Lib.hid (plane_Weave88 q1.val q2.val P1 P2 wr hq hq2 hcq hcq2 HG1.out HG2.out)
          clear hfb hx hcq hcq2 hq hq2 hm0 hm1
          simp only [FV.val] at HWV
          have y0 := HXR.out.cell 0 rfl
          have y1 := HXR.out.cell 1 rfl
          have y2 := HXR.out.cell 2 rfl
          have y3 := HXR.out.cell 3 rfl
          have y4 := HXR.out.cell 4 rfl
          have y5 := HXR.out.cell 5 rfl
          have y6 := HXR.out.cell 6 rfl
          have y7 := HXR.out.cell 7 rfl
          have y8 := HXR.out.cell 8 rfl
          have y9 := HXR.out.cell 9 rfl
          go_wp2_with fail
          refine HWV.out.mono ?_
          intro e w12 hr12
          obtain ⟨r, rfl, hc5, hi5, hb12⟩ := hr12.parts
          have HB12 := Lib.hid (HBR.out.ext hb12)
          have HI12 := Lib.hid (hi5.mono (q := (w.heap.size + 4 ≤ ·)) (fun b _ h => by have := HBR.out.res.2.2; omega))
          have HC5 := Lib.hid hc5
          clear hr12 hc5 hi5 hb12 y0 y1 y2 y3 y4 y5 y6 y7 y8 y9
          obtain ⟨⟨r0, r1, r2, r3, r4⟩, ⟨z0, z1, z2, z33, z44⟩, zl⟩ := HB12.out.res
          simp only [FV.val]
          go_wp2_with fail
          refine bodyPost_ret (v := .tuple #[r.val, .int .i64 0]) (by simp only [results, Try.results23, FV.val]; go_simp) rfl ?_
          rw [HRR.out, HPP0.out, HPP1.out]
          exact HB12.out.leave (r := (weaveFr P1 P2, 0)) r HC5.out HI12.out
end Go.Proofs.Ytaedpadkpclldaa
