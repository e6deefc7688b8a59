/- Fields of the reference: where there is a prediction. -/
import Derived.Test.YtaedpadkpclldaaFldR
namespace Go.Proofs.Ytaedpadkpclldaa
open Go.RowKit

theorem ref_Weave88 {p q : Nat → Prop} (x y : Value) (f g : Fr) (w : World) (hx : IsFr p w x f) (hy : IsFr q w y g) (hc : CapsOK x) (hd : CapsOK y)
    (hf : formedB f = true ∧ f.W = ((2 * 8 : Nat) : Int) ∧ f.H = ((2 * 4 : Nat) : Int) ∧ f.Y.length = (2 * 4) * (2 * 8) ∧ f.U.length = 4 * 8 ∧ f.V.length = 4 * 8)
    (hg : formedB g = true ∧ g.W = ((2 * 8 : Nat) : Int) ∧ g.H = ((2 * 4 : Nat) : Int) ∧ g.Y.length = (2 * 4) * (2 * 8) ∧ g.U.length = 4 * 8 ∧ g.V.length = 4 * 8) :
    Calls Try.prog 42 #[x, y] w (RetFc w (weaveFr f g, 0)) := by
  obtain ⟨W, H, Y, U, V⟩ := f
  obtain ⟨W2, H2, Y2, U2, V2⟩ := g
  obtain ⟨h1, h2, h3, h4, h5, h6⟩ := hf
  obtain ⟨k1, k2, k3, k4, k5, k6⟩ := hg
  dsimp only at h2 h3 h4 h5 h6 k2 k3 k4 k5 k6
  subst h2 h3 k2 k3
  rw [weaveFr_of (a := 8) (q := 4)]
  exact ref_Weave_yes x y 8 4 Y U V Y2 U2 V2 w (hx.mono (q := fun _ => True) (fun _ _ _ => trivial)) (hy.mono (q := fun _ => True) (fun _ _ _ => trivial)) hc hd h1 k1 (by omega) (by omega) (by omega) (by omega) h4 h5 h6 k4 k5 k6
theorem ref_Pred8 {p : Nat → Prop} {f : Fr} {mx my a b : Int} (h : fldOk f mx my a b) (k : Nat) (v : Value) (vx vy : Int) (w : World) (hv : IsFr p w v (fieldFr f k)) (hm : mayB vx vy = true) :
    Calls Try.prog 16 #[v, .int .i64 (16 * mx), .int .i64 (8 * my), .int .i64 16, .int .i64 8, .agg #[.int .i64 vx, .int .i64 vy]] w (RetFc w (predFr (fieldFr f k) (16 * mx) (8 * my) 8 vx vy, 0)) := by
  obtain ⟨_, _, w0, w1, h0, h1, hw, m0, m1, n0, n1, h32⟩ := fld_parts h
  exact ref_Predict_yes8C v (fieldFr f k).W (fieldFr f k).H (fieldFr f k).Y (fieldFr f k).U (fieldFr f k).V (16 * mx) (8 * my) vx vy w hv (field_formed h k) (by omega) (by omega) (by show 16 * mx ≤ f.W - 16; omega) (by omega) (by omega) (by show 8 * my ≤ f.H / 2 - 8; omega) hm
theorem ref_Pred8R {p : Nat → Prop} {f : Fr} {mx my a b : Int} (h : fldOk f mx my a b) (k : Nat) (v : Value) (vx vy : Int) (w : World) (hv : IsFr p w v (fieldFr f k)) (hm : mayB vx vy = false) :
    Calls Try.prog 16 #[v, .int .i64 (16 * mx), .int .i64 (8 * my), .int .i64 16, .int .i64 8, .agg #[.int .i64 vx, .int .i64 vy]] w (RetFc w (zeroFr, 2)) := by
  obtain ⟨_, _, w0, w1, h0, h1, hw, m0, m1, n0, n1, h32⟩ := fld_parts h
  exact ref_Predict_range8C v (fieldFr f k).W (fieldFr f k).H (fieldFr f k).Y (fieldFr f k).U (fieldFr f k).V (16 * mx) (8 * my) vx vy w hv (field_formed h k) (by omega) (by omega) (by show 16 * mx ≤ f.W - 16; omega) (by omega) (by omega) (by show 8 * my ≤ f.H / 2 - 8; omega) hm
theorem ref_Fld8 {p : Nat → Prop} {f : Fr} {mx my a b : Int} (h : fldOk f mx my a b) {c : Int} (hc01 : c = 0 ∨ c = 1) (v : Value) (w : World) (hv : IsFr p w v f) (hc : CapsOK v) :
    Calls Try.prog 41 #[v, .int .i64 c] w (RetFc w (fieldFr f c.toNat, 0)) := by
  obtain ⟨hf, h4, _⟩ := fld_parts h
  have := ref_Field v f c w hv hc
  unfold fieldF at this
  rwa [if_pos ⟨hf, h4, hc01⟩] at this
def zc5 : Array Value := #[.int .i64 0, .int .i64 0, .slice none 0 0, .slice none 0 0, .slice none 0 0]
set_option maxRecDepth 100000 in
set_option maxHeartbeats 8000000 in
theorem ref_Fields_r {p : Nat → Prop} (v : Value) (f : Fr) (mx my vx vy wx wy a b : Int) (w : World) (hf : IsFr p w v f) (hc : CapsOK v) (h : fldOk f mx my a b) (hm : mayB vx vy = false ∨ (mayB vx vy = true ∧ mayB wx wy = false)) :
    Calls Try.prog 24 #[v, .int .i64 mx, .int .i64 my, .agg #[.int .i64 vx, .int .i64 vy, .int .i64 wx, .int .i64 wy], .agg #[.int .i64 a, .int .i64 b]] w (RetFc w (zeroFr, 2)) := by
  have hf0 := hf
  obtain ⟨X, rfl⟩ : ∃ X : FV, v = X.val := hf.fv
  have HV := Lib.hid (hf.mono (q := (· < w.heap.size)) (fun b h _ => h))
  have HCV := Lib.hid hc
  have hXW : X.W = f.W ∧ X.H = f.H := by
    obtain ⟨ya, yn, yc, ua, un, uc, va, vn, vc, he, _⟩ := hf
    simp only [FV.val, Value.agg.injEq, Array.mk.injEq, List.cons.injEq, Value.int.injEq, true_and] at he
    exact ⟨he.1, he.2.1⟩
  clear hf0 hf hc
  have HB0 := Lib.hid (FB.start w #[.int .i64 X.W, .int .i64 X.H, .slice X.ya X.yn X.yc, .slice X.ua X.un X.uc, .slice X.va X.vn X.vc] #[.int .i64 vx, .int .i64 vy, .int .i64 wx, .int .i64 wy] #[.int .i64 a, .int .i64 b] #[.int .i64 0, .int .i64 0, .slice none 0 0, .slice none 0 0, .slice none 0 0])
  have HXW := Lib.hid hXW
  clear hXW
  obtain ⟨hfm, h4, pw0, pw1, ph0, ph1, hw16, m0, m1, n0, n1, h32⟩ := fld_parts h
  have ha := h.2.2.1
  have hb := h.2.2.2
  have HOK := Lib.hid h
  have wmx : IntKind.i64.wrap (16 * mx) = 16 * mx := IntWalk.i64_in _ (by omega)
  have wmy : IntKind.i64.wrap (8 * my) = 8 * my := IntWalk.i64_in _ (by omega)
  rw [← HXW.out.2] at h32 ph0 ph1 n1
  rw [← HXW.out.1] at pw0 pw1 m1
  have t32 : X.H.tmod 32 = X.H % 32 := Int.tmod_eq_emod_of_nonneg (by omega)
  have g32 : (X.H % 32 != 0) = false := by simpa using h32
  simp only [FV.val]
  clear hfm h4 hw16 h32 h
  have HH : Hid (∀ w', Below w.heap.size w w' → Calls Try.prog 35 #[.agg #[.int .i64 X.W, .int .i64 X.H, .slice X.ya X.yn X.yc, .slice X.ua X.un X.uc, .slice X.va X.vn X.vc], .int .i64 mx, .int .i64 my] w' fun e w'' => e = .returned (.bool true) ∧ Below w'.heap.size w' w'') := Lib.hid (fun w' h => by have := ref_Has _ f mx my w' (HV.out.below h (fun _ _ h => h)); rwa [HOK.out.1] at this)
  have HM1 := Lib.hid (fun w' => ref_May vx vy w')
  have HM2 := Lib.hid (fun w' => ref_May wx wy w')
  rcases hm with hm | ⟨hm1, hm2⟩
  · rw [hm] at HM1
    clear hm
    rcases ha with rfl | rfl <;> rcases hb with rfl | rfl
    all_goals
      go_enter Try.func24, Try.ntmps24
      go_upto_region 1 with fail
      generalize (((w.alloc _).alloc _).alloc _).alloc _ = W0 at *
      obtain ⟨⟨c0, c1, c2, c3, c4⟩, ⟨d0, d1, d2, d3⟩, e0, e1⟩ := HB0.out.get
      go_wp2_with fail
      refine (HH.out _ HB0.out.be).mono ?_
      rintro e w1 ⟨rfl, hb1⟩
      have HB1 := Lib.hid (HB0.out.ext hb1)
      clear hb1 c0 c1 c2 c3 c4 d0 d1 d2 d3 e0 e1
      obtain ⟨⟨c0, c1, c2, c3, c4⟩, ⟨d0, d1, d2, d3⟩, e0, e1⟩ := HB1.out.get
      go_wp2_with fail
      refine (HM1.out _).mono ?_
      rintro e w2 ⟨rfl, hb2⟩
      have HB2 := Lib.hid (HB1.out.ext hb2)
      clear hb2 c0 c1 c2 c3 c4 d0 d1 d2 d3 e0 e1
      obtain ⟨⟨r0, r1, r2, r3, r4⟩, ⟨z0, z1, z2, z3, z4⟩, zl⟩ := HB2.out.res
      go_wp2_with fail
      refine bodyPost_ret (v := .tuple #[.agg #[.int .i64 0, .int .i64 0, .slice none 0 0, .slice none 0 0, .slice none 0 0], .int .i64 2]) (by simp only [results, Try.results24]; go_simp) rfl (HB2.out.leave (r := (zeroFr, 2)) FV.zero (CapsOK.mk (Nat.le_refl _) (Nat.le_refl _) (Nat.le_refl _)) ⟨_, _, _, _, _, _, _, _, _, rfl, Byt.nil, Byt.nil, Byt.nil⟩)
  · rw [hm1] at HM1
    rw [hm2] at HM2
    clear hm1 hm2
    rcases ha with rfl | rfl <;> rcases hb with rfl | rfl
    all_goals
      go_enter Try.func24, Try.ntmps24
      go_upto_region 1 with fail
      generalize (((w.alloc _).alloc _).alloc _).alloc _ = W0 at *
      obtain ⟨⟨c0, c1, c2, c3, c4⟩, ⟨d0, d1, d2, d3⟩, e0, e1⟩ := HB0.out.get
      go_wp2_with fail
      refine (HH.out _ HB0.out.be).mono ?_
      rintro e w1 ⟨rfl, hb1⟩
      have HB1 := Lib.hid (HB0.out.ext hb1)
      clear hb1 c0 c1 c2 c3 c4 d0 d1 d2 d3 e0 e1
      obtain ⟨⟨c0, c1, c2, c3, c4⟩, ⟨d0, d1, d2, d3⟩, e0, e1⟩ := HB1.out.get
      go_wp2_with fail
      refine (HM1.out _).mono ?_
      rintro e w2 ⟨rfl, hb2⟩
      have HB2 := Lib.hid (HB1.out.ext hb2)
      clear hb2 c0 c1 c2 c3 c4 d0 d1 d2 d3 e0 e1
      obtain ⟨⟨c0, c1, c2, c3, c4⟩, ⟨d0, d1, d2, d3⟩, e0, e1⟩ := HB2.out.get
      go_wp2_with fail
      refine (HM2.out _).mono ?_
      rintro e w3 ⟨rfl, hb3⟩
      have HB3 := Lib.hid (HB2.out.ext hb3)
      clear hb3 c0 c1 c2 c3 c4 d0 d1 d2 d3 e0 e1
      obtain ⟨⟨r0, r1, r2, r3, r4⟩, ⟨z0, z1, z2, z3, z4⟩, zl⟩ := HB3.out.res
      go_wp2_with fail
      refine bodyPost_ret (v := .tuple #[.agg #[.int .i64 0, .int .i64 0, .slice none 0 0, .slice none 0 0, .slice none 0 0], .int .i64 2]) (by simp only [results, Try.results24]; go_simp) rfl (HB3.out.leave (r := (zeroFr, 2)) FV.zero (CapsOK.mk (Nat.le_refl _) (Nat.le_refl _) (Nat.le_refl _)) ⟨_, _, _, _, _, _, _, _, _, rfl, Byt.nil, Byt.nil, Byt.nil⟩)
end Go.Proofs.Ytaedpadkpclldaa
