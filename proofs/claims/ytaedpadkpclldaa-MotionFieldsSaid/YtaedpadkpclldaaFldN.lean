/- motion.Fields: where there is no prediction. -/
import Derived.Test.YtaedpadkpclldaaFldM
namespace Go.Proofs.Ytaedpadkpclldaa
open Go.RowKit

set_option maxRecDepth 100000 in
set_option maxHeartbeats 16000000 in
theorem motion_Fields_no {p : Nat → Prop} (v : Value) (f : Fr) (mx my vx vy wx wy a b : Int) (w : World) (hf : IsFr p w v f) (hc : CapsOK v) (hno : ¬ fldOk f mx my a b) :
    Calls Try.prog 23 #[v, .int .i64 mx, .int .i64 my, .agg #[.int .i64 vx, .int .i64 vy, .int .i64 wx, .int .i64 wy], .agg #[.int .i64 a, .int .i64 b]] w (RetFc w (zeroFr, 1)) := by
  have hf0 := hf
  obtain ⟨X, rfl⟩ : ∃ X : FV, v = X.val := hf.fv
  have HV := Lib.hid (hf.mono (q := (· < w.heap.size)) (fun b h _ => h))
  have HCV := Lib.hid hc
  have hXW : X.W = f.W ∧ X.H = f.H := by
    obtain ⟨ya, yn, yc, ua, un, uc, va, vn, vc, he, _⟩ := hf
    simp only [FV.val, Value.agg.injEq, Array.mk.injEq, List.cons.injEq, Value.int.injEq, true_and] at he
    exact ⟨he.1, he.2.1⟩
  clear hf0 hf hc
  have HB0 := Lib.hid (FB.start w #[.int .i64 X.W, .int .i64 X.H, .slice X.ya X.yn X.yc, .slice X.ua X.un X.uc, .slice X.va X.vn X.vc] #[.int .i64 vx, .int .i64 vy, .int .i64 wx, .int .i64 wy] #[.int .i64 a, .int .i64 b] #[.int .i64 0, .int .i64 0, .slice none 0 0, .slice none 0 0, .slice none 0 0])
  have HXW := Lib.hid hXW
  clear hXW
  simp only [FV.val]
  have HVL : Hid (∀ w', Below w.heap.size w w' → Calls Try.prog 38 #[.agg #[.int .i64 X.W, .int .i64 X.H, .slice X.ya X.yn X.yc, .slice X.ua X.un X.uc, .slice X.va X.vn X.vc]] w' fun e w'' => e = .returned (.bool (validB f)) ∧ Below w'.heap.size w' w'') := Lib.hid (fun w' h => plane_Valid _ f w' (HV.out.below h (fun _ _ h => h)))
  cases hvb : validB f with
  | false =>
    rw [hvb] at HVL
    clear hvb hno
    go_enter Try.func23, Try.ntmps23
    go_upto_region 1 with fail
    generalize (((w.alloc _).alloc _).alloc _).alloc _ = W0 at *
    obtain ⟨⟨c0, c1, c2, c3, c4⟩, ⟨d0, d1, d2, d3⟩, e0, e1⟩ := HB0.out.get
    go_wp2_with fail
    refine (HVL.out _ HB0.out.be).mono ?_
    rintro e w1 ⟨rfl, hb1⟩
    have HB1 := Lib.hid (HB0.out.ext hb1)
    clear hb1 c0 c1 c2 c3 c4 d0 d1 d2 d3 e0 e1
    obtain ⟨⟨c0, c1, c2, c3, c4⟩, ⟨d0, d1, d2, d3⟩, e0, e1⟩ := HB1.out.get
    obtain ⟨⟨r0, r1, r2, r3, r4⟩, ⟨z0, z1, z2, z3, z4⟩, zl⟩ := HB1.out.res
    go_wp2_with fail
    refine bodyPost_ret (v := .tuple #[.agg #[.int .i64 0, .int .i64 0, .slice none 0 0, .slice none 0 0, .slice none 0 0], .int .i64 1]) (by simp only [results, Try.results23]; go_simp) rfl (HB1.out.leave (r := (zeroFr, 1)) FV.zero (CapsOK.mk (Nat.le_refl _) (Nat.le_refl _) (Nat.le_refl _)) ⟨_, _, _, _, _, _, _, _, _, rfl, Byt.nil, Byt.nil, Byt.nil⟩)
  | true =>
    rw [hvb] at HVL
    have hp : 2 ≤ X.W ∧ X.W ≤ 64 ∧ 2 ≤ X.H ∧ X.H ≤ 64 := by
      have h1 := hvb
      simp only [validB, formedB, Bool.and_eq_true] at h1
      have := sizeB_true h1.1.1.1.1.1
      have := HXW.out
      omega
    have hno2 : ¬ (0 ≤ mx ∧ mx < X.W / 16 ∧ 0 ≤ my ∧ my < X.H / 16 ∧ X.H % 32 = 0 ∧ (a = 0 ∨ a = 1) ∧ (b = 0 ∨ b = 1)) := fun ⟨h1, h2, h3, h4, h5, h6, h7⟩ => hno ⟨by
      have := HXW.out
      simp only [hasB, Bool.and_eq_true, decide_eq_true_eq]
      exact ⟨⟨⟨⟨hvb, h1⟩, by omega⟩, h3⟩, by omega⟩, by have := HXW.out; omega, h6, h7⟩
    have HNO := Lib.hid hno2
    clear hno hno2 hvb
    have t32 : X.H.tmod 32 = X.H % 32 := Int.tmod_eq_emod_of_nonneg (by omega)
    have qW : X.W.tdiv 16 = X.W / 16 := Int.tdiv_eq_ediv_of_nonneg (by omega)
    have qH : X.H.tdiv 16 = X.H / 16 := Int.tdiv_eq_ediv_of_nonneg (by omega)
    have ww : IntKind.i64.wrap (X.W / 16) = X.W / 16 := IntWalk.i64_in _ (by omega)
    have wh : IntKind.i64.wrap (X.H / 16) = X.H / 16 := IntWalk.i64_in _ (by omega)
    by_cases h32 : X.H % 32 = 0
    case neg =>
      have g32 : (X.H % 32 != 0) = true := by simpa using h32
      clear h32
      go_enter Try.func23, Try.ntmps23
      go_upto_region 1 with fail
      generalize (((w.alloc _).alloc _).alloc _).alloc _ = W0 at *
      obtain ⟨⟨c0, c1, c2, c3, c4⟩, ⟨d0, d1, d2, d3⟩, e0, e1⟩ := HB0.out.get
      go_wp2_with fail
      refine (HVL.out _ HB0.out.be).mono ?_
      rintro e w1 ⟨rfl, hb1⟩
      have HB1 := Lib.hid (HB0.out.ext hb1)
      clear hb1 c0 c1 c2 c3 c4 d0 d1 d2 d3 e0 e1
      obtain ⟨⟨c0, c1, c2, c3, c4⟩, ⟨d0, d1, d2, d3⟩, e0, e1⟩ := HB1.out.get
      obtain ⟨⟨r0, r1, r2, r3, r4⟩, ⟨z0, z1, z2, z3, z4⟩, zl⟩ := HB1.out.res
      go_wp2_with fail
      refine bodyPost_ret (v := .tuple #[.agg #[.int .i64 0, .int .i64 0, .slice none 0 0, .slice none 0 0, .slice none 0 0], .int .i64 1]) (by simp only [results, Try.results23]; go_simp) rfl (HB1.out.leave (r := (zeroFr, 1)) FV.zero (CapsOK.mk (Nat.le_refl _) (Nat.le_refl _) (Nat.le_refl _)) ⟨_, _, _, _, _, _, _, _, _, rfl, Byt.nil, Byt.nil, Byt.nil⟩)
    case pos =>
    have g32 : (X.H % 32 != 0) = false := by simpa using h32
    have H32 := Lib.hid h32
    clear h32
    by_cases m0 : 0 ≤ mx
    case neg =>
      have d1' : decide (mx < 0) = true := decide_eq_true (by omega)
      go_enter Try.func23, Try.ntmps23
      go_upto_region 1 with fail
      generalize (((w.alloc _).alloc _).alloc _).alloc _ = W0 at *
      obtain ⟨⟨c0, c1, c2, c3, c4⟩, ⟨d0, d1, d2, d3⟩, e0, e1⟩ := HB0.out.get
      go_wp2_with fail
      refine (HVL.out _ HB0.out.be).mono ?_
      rintro e w1 ⟨rfl, hb1⟩
      have HB1 := Lib.hid (HB0.out.ext hb1)
      clear hb1 c0 c1 c2 c3 c4 d0 d1 d2 d3 e0 e1
      obtain ⟨⟨c0, c1, c2, c3, c4⟩, ⟨d0, d1, d2, d3⟩, e0, e1⟩ := HB1.out.get
      obtain ⟨⟨r0, r1, r2, r3, r4⟩, ⟨z0, z1, z2, z3, z4⟩, zl⟩ := HB1.out.res
      go_wp2_with fail
      refine bodyPost_ret (v := .tuple #[.agg #[.int .i64 0, .int .i64 0, .slice none 0 0, .slice none 0 0, .slice none 0 0], .int .i64 1]) (by simp only [results, Try.results23]; go_simp) rfl (HB1.out.leave (r := (zeroFr, 1)) FV.zero (CapsOK.mk (Nat.le_refl _) (Nat.le_refl _) (Nat.le_refl _)) ⟨_, _, _, _, _, _, _, _, _, rfl, Byt.nil, Byt.nil, Byt.nil⟩)
    case pos =>
    have d1' : decide (mx < 0) = false := decide_eq_false (by omega)
    by_cases m1 : mx < X.W / 16
    case neg =>
      have d2' : decide (X.W / 16 ≤ mx) = true := decide_eq_true (by omega)
      go_enter Try.func23, Try.ntmps23
      go_upto_region 1 with fail
      generalize (((w.alloc _).alloc _).alloc _).alloc _ = W0 at *
      obtain ⟨⟨c0, c1, c2, c3, c4⟩, ⟨d0, d1, d2, d3⟩, e0, e1⟩ := HB0.out.get
      go_wp2_with fail
      refine (HVL.out _ HB0.out.be).mono ?_
      rintro e w1 ⟨rfl, hb1⟩
      have HB1 := Lib.hid (HB0.out.ext hb1)
      clear hb1 c0 c1 c2 c3 c4 d0 d1 d2 d3 e0 e1
      obtain ⟨⟨c0, c1, c2, c3, c4⟩, ⟨d0, d1, d2, d3⟩, e0, e1⟩ := HB1.out.get
      obtain ⟨⟨r0, r1, r2, r3, r4⟩, ⟨z0, z1, z2, z3, z4⟩, zl⟩ := HB1.out.res
      go_wp2_with fail
      refine bodyPost_ret (v := .tuple #[.agg #[.int .i64 0, .int .i64 0, .slice none 0 0, .slice none 0 0, .slice none 0 0], .int .i64 1]) (by simp only [results, Try.results23]; go_simp) rfl (HB1.out.leave (r := (zeroFr, 1)) FV.zero (CapsOK.mk (Nat.le_refl _) (Nat.le_refl _) (Nat.le_refl _)) ⟨_, _, _, _, _, _, _, _, _, rfl, Byt.nil, Byt.nil, Byt.nil⟩)
    case pos =>
    have d2' : decide (X.W / 16 ≤ mx) = false := decide_eq_false (by omega)
    by_cases n0 : 0 ≤ my
    case neg =>
      have d3' : decide (my < 0) = true := decide_eq_true (by omega)
      go_enter Try.func23, Try.ntmps23
      go_upto_region 1 with fail
      generalize (((w.alloc _).alloc _).alloc _).alloc _ = W0 at *
      obtain ⟨⟨c0, c1, c2, c3, c4⟩, ⟨d0, d1, d2, d3⟩, e0, e1⟩ := HB0.out.get
      go_wp2_with fail
      refine (HVL.out _ HB0.out.be).mono ?_
      rintro e w1 ⟨rfl, hb1⟩
      have HB1 := Lib.hid (HB0.out.ext hb1)
      clear hb1 c0 c1 c2 c3 c4 d0 d1 d2 d3 e0 e1
      obtain ⟨⟨c0, c1, c2, c3, c4⟩, ⟨d0, d1, d2, d3⟩, e0, e1⟩ := HB1.out.get
      obtain ⟨⟨r0, r1, r2, r3, r4⟩, ⟨z0, z1, z2, z3, z4⟩, zl⟩ := HB1.out.res
      go_wp2_with fail
      refine bodyPost_ret (v := .tuple #[.agg #[.int .i64 0, .int .i64 0, .slice none 0 0, .slice none 0 0, .slice none 0 0], .int .i64 1]) (by simp only [results, Try.results23]; go_simp) rfl (HB1.out.leave (r := (zeroFr, 1)) FV.zero (CapsOK.mk (Nat.le_refl _) (Nat.le_refl _) (Nat.le_refl _)) ⟨_, _, _, _, _, _, _, _, _, rfl, Byt.nil, Byt.nil, Byt.nil⟩)
    case pos =>
    have d3' : decide (my < 0) = false := decide_eq_false (by omega)
    by_cases n1 : my < X.H / 16
    case neg =>
      have d4' : decide (X.H / 16 ≤ my) = true := decide_eq_true (by omega)
      go_enter Try.func23, Try.ntmps23
      go_upto_region 1 with fail
      generalize (((w.alloc _).alloc _).alloc _).alloc _ = W0 at *
      obtain ⟨⟨c0, c1, c2, c3, c4⟩, ⟨d0, d1, d2, d3⟩, e0, e1⟩ := HB0.out.get
      go_wp2_with fail
      refine (HVL.out _ HB0.out.be).mono ?_
      rintro e w1 ⟨rfl, hb1⟩
      have HB1 := Lib.hid (HB0.out.ext hb1)
      clear hb1 c0 c1 c2 c3 c4 d0 d1 d2 d3 e0 e1
      obtain ⟨⟨c0, c1, c2, c3, c4⟩, ⟨d0, d1, d2, d3⟩, e0, e1⟩ := HB1.out.get
      obtain ⟨⟨r0, r1, r2, r3, r4⟩, ⟨z0, z1, z2, z3, z4⟩, zl⟩ := HB1.out.res
      go_wp2_with fail
      refine bodyPost_ret (v := .tuple #[.agg #[.int .i64 0, .int .i64 0, .slice none 0 0, .slice none 0 0, .slice none 0 0], .int .i64 1]) (by simp only [results, Try.results23]; go_simp) rfl (HB1.out.leave (r := (zeroFr, 1)) FV.zero (CapsOK.mk (Nat.le_refl _) (Nat.le_refl _) (Nat.le_refl _)) ⟨_, _, _, _, _, _, _, _, _, rfl, Byt.nil, Byt.nil, Byt.nil⟩)
    case pos =>
    have d4' : decide (X.H / 16 ≤ my) = false := decide_eq_false (by omega)
    have hix0 := fun w => (index2 a b w).1
    have hix1 := fun w => (index2 a b w).2
    by_cases ha : a = 0 ∨ a = 1
    case neg =>
      have g0 : (a != 0) = true := by simp; omega
      have g1 : (a != 1) = true := by simp; omega
      clear ha
      go_enter Try.func23, Try.ntmps23
      go_upto_region 1 with fail
      generalize (((w.alloc _).alloc _).alloc _).alloc _ = W0 at *
      obtain ⟨⟨c0, c1, c2, c3, c4⟩, ⟨d0, d1, d2, d3⟩, e0, e1⟩ := HB0.out.get
      go_wp2_with fail
      refine (HVL.out _ HB0.out.be).mono ?_
      rintro e w1 ⟨rfl, hb1⟩
      have HB1 := Lib.hid (HB0.out.ext hb1)
      clear hb1 c0 c1 c2 c3 c4 d0 d1 d2 d3 e0 e1
      obtain ⟨⟨c0, c1, c2, c3, c4⟩, ⟨d0, d1, d2, d3⟩, e0, e1⟩ := HB1.out.get
      obtain ⟨⟨r0, r1, r2, r3, r4⟩, ⟨z0, z1, z2, z3, z4⟩, zl⟩ := HB1.out.res
      go_wp2_with fail
      go_loopw [52] (fun i wr => wr = w1 ∧ i = .int .i64 0) (fun i _ => 2 - (intOf i).toNat)
      case atStart => exact ⟨rfl, rfl⟩
      case round =>
        obtain ⟨rfl, rfl⟩ := hrel
        go_wp2_with fail
        refine bodyPost_ret (v := .tuple #[.agg #[.int .i64 0, .int .i64 0, .slice none 0 0, .slice none 0 0, .slice none 0 0], .int .i64 1]) (by simp only [results, Try.results23]; go_simp) rfl (HB1.out.leave (r := (zeroFr, 1)) FV.zero (CapsOK.mk (Nat.le_refl _) (Nat.le_refl _) (Nat.le_refl _)) ⟨_, _, _, _, _, _, _, _, _, rfl, Byt.nil, Byt.nil, Byt.nil⟩)
    case pos =>
      have hb : ¬ (b = 0 ∨ b = 1) := fun h => HNO.out ⟨m0, m1, n0, n1, H32.out, ha, h⟩
      have g0 : (b != 0) = true := by simp; omega
      have g1 : (b != 1) = true := by simp; omega
      have HA := Lib.hid ha
      clear ha hb
      go_enter Try.func23, Try.ntmps23
      go_upto_region 1 with fail
      generalize (((w.alloc _).alloc _).alloc _).alloc _ = W0 at *
      obtain ⟨⟨c0, c1, c2, c3, c4⟩, ⟨d0, d1, d2, d3⟩, e0, e1⟩ := HB0.out.get
      go_wp2_with fail
      refine (HVL.out _ HB0.out.be).mono ?_
      rintro e w1 ⟨rfl, hb1⟩
      have HB1 := Lib.hid (HB0.out.ext hb1)
      clear hb1 c0 c1 c2 c3 c4 d0 d1 d2 d3 e0 e1
      obtain ⟨⟨c0, c1, c2, c3, c4⟩, ⟨d0, d1, d2, d3⟩, e0, e1⟩ := HB1.out.get
      obtain ⟨⟨r0, r1, r2, r3, r4⟩, ⟨z0, z1, z2, z3, z4⟩, zl⟩ := HB1.out.res
      go_wp2_with fail
      go_loopw [52] (fun i wr => wr = w1 ∧ (i = .int .i64 0 ∨ i = .int .i64 1)) (fun i _ => 2 - (intOf i).toNat)
      case atStart => exact ⟨rfl, .inl rfl⟩
      case round =>
        obtain ⟨rfl, hrel⟩ := hrel
        rcases hrel with rfl | rfl
        · rcases HA.out with rfl | rfl
          all_goals
            go_wp2_with fail
            go_roundw
            case rel => exact ⟨trivial, .inr (by go_num)⟩
            case measure => (simp [intOf]; try omega)
        · go_wp2_with fail
          refine bodyPost_ret (v := .tuple #[.agg #[.int .i64 0, .int .i64 0, .slice none 0 0, .slice none 0 0, .slice none 0 0], .int .i64 1]) (by simp only [results, Try.results23]; go_simp) rfl (HB1.out.leave (r := (zeroFr, 1)) FV.zero (CapsOK.mk (Nat.le_refl _) (Nat.le_refl _) (Nat.le_refl _)) ⟨_, _, _, _, _, _, _, _, _, rfl, Byt.nil, Byt.nil, Byt.nil⟩)
theorem motion_Fields {p : Nat → Prop} (v : Value) (f : Fr) (mx my vx vy wx wy a b : Int) (w : World) (hf : IsFr p w v f) (hc : CapsOK v) :
    Calls Try.prog 23 #[v, .int .i64 mx, .int .i64 my, .agg #[.int .i64 vx, .int .i64 vy, .int .i64 wx, .int .i64 wy], .agg #[.int .i64 a, .int .i64 b]] w (RetFc w (fldsF f mx my vx vy wx wy a b)) := by
  by_cases h : fldOk f mx my a b
  · exact motion_Fields_yes v f mx my vx vy wx wy a b w hf hc h
  · rw [flds_no h]
    exact motion_Fields_no v f mx my vx vy wx wy a b w hf hc h
end Go.Proofs.Ytaedpadkpclldaa
