/- Fields of the reference. -/
import Derived.Test.YtaedpadkpclldaaFldW
import Derived.Test.YtaedpadkpclldaaRPredC8
import Derived.Test.YtaedpadkpclldaaRPredRC8
import Derived.Test.YtaedpadkpclldaaRField
import Derived.Test.YtaedpadkpclldaaRWeave
namespace Go.Proofs.Ytaedpadkpclldaa
open Go.RowKit

set_option maxRecDepth 100000 in
set_option maxHeartbeats 8000000 in
theorem ref_Fields_no {p : Nat → Prop} (v : Value) (f : Fr) (mx my vx vy wx wy a b : Int) (w : World) (hf : IsFr p w v f) (hc : CapsOK v) (hno : ¬ fldOk f mx my a b) :
    Calls Try.prog 24 #[v, .int .i64 mx, .int .i64 my, .agg #[.int .i64 vx, .int .i64 vy, .int .i64 wx, .int .i64 wy], .agg #[.int .i64 a, .int .i64 b]] w (RetFc w (zeroFr, 1)) := by
  have hf0 := hf
  obtain ⟨X, rfl⟩ : ∃ X : FV, v = X.val := hf.fv
  have HV := Lib.hid (hf.mono (q := (· < w.heap.size)) (fun b h _ => h))
  have HCV := Lib.hid hc
  have hXW : X.W = f.W ∧ X.H = f.H := by
    obtain ⟨ya, yn, yc, ua, un, uc, va, vn, vc, he, _⟩ := hf
    simp only [FV.val, Value.agg.injEq, Array.mk.injEq, List.cons.injEq, Value.int.injEq, true_and] at he
    exact ⟨he.1, he.2.1⟩
  clear hf0 hf hc
  have HB0 := Lib.hid (FB.start w #[.int .i64 X.W, .int .i64 X.H, .slice X.ya X.yn X.yc, .slice X.ua X.un X.uc, .slice X.va X.vn X.vc] #[.int .i64 vx, .int .i64 vy, .int .i64 wx, .int .i64 wy] #[.int .i64 a, .int .i64 b] #[.int .i64 0, .int .i64 0, .slice none 0 0, .slice none 0 0, .slice none 0 0])
  have HXW := Lib.hid hXW
  clear hXW
  simp only [FV.val]
  have HH : Hid (∀ w', Below w.heap.size w w' → Calls Try.prog 35 #[.agg #[.int .i64 X.W, .int .i64 X.H, .slice X.ya X.yn X.yc, .slice X.ua X.un X.uc, .slice X.va X.vn X.vc], .int .i64 mx, .int .i64 my] w' fun e w'' => e = .returned (.bool (hasB f mx my)) ∧ Below w'.heap.size w' w'') := Lib.hid (fun w' h => ref_Has _ f mx my w' (HV.out.below h (fun _ _ h => h)))
  rcases Bool.eq_false_or_eq_true (hasB f mx my) with hB | hB
  · have hp : 2 ≤ f.H ∧ f.H ≤ 64 := by
      have h1 := hB
      simp only [hasB, validB, formedB, Bool.and_eq_true] at h1
      have := sizeB_true h1.1.1.1.1.1.1.1.1.1
      omega
    have HHB := Lib.hid hB
    rw [hB] at HH
    clear hB
    obtain ⟨Hh, hHh⟩ : ∃ Hh, X.H = Hh := ⟨_, rfl⟩
    have hHf : f.H = Hh := HXW.out.2.symm.trans hHh
    rw [hHf] at hp
    have t32 : Hh.tmod 32 = Hh % 32 := Int.tmod_eq_emod_of_nonneg (by omega)
    rw [hHh] at HH HB0 ⊢
    have HHF := Lib.hid hHf
    clear hHh hHf
    by_cases h32 : Hh % 32 = 0
    · have g32 : (Hh % 32 != 0) = false := by simpa using h32
      have hab : ¬ ((a = 0 ∨ a = 1) ∧ (b = 0 ∨ b = 1)) := fun h => hno ⟨HHB.out, by rw [HHF.out]; exact h32, h.1, h.2⟩
      clear hno h32
      by_cases ha : a = 0 ∨ a = 1
      · have hb : ¬ (b = 0 ∨ b = 1) := fun h => hab ⟨ha, h⟩
        have g0 : (b != 0) = true := by simp; omega
        have g1 : (b != 1) = true := by simp; omega
        clear hab hb
        rcases ha with rfl | rfl
        all_goals
          go_enter Try.func24, Try.ntmps24
          go_upto_region 1 with fail
          generalize (((w.alloc _).alloc _).alloc _).alloc _ = W0 at *
          obtain ⟨⟨c0, c1, c2, c3, c4⟩, ⟨d0, d1, d2, d3⟩, e0, e1⟩ := HB0.out.get
          go_wp2_with fail
          refine (HH.out _ HB0.out.be).mono ?_
          rintro e w1 ⟨rfl, hb1⟩
          have HB1 := Lib.hid (HB0.out.ext hb1)
          clear hb1 c0 c1 c2 c3 c4 d0 d1 d2 d3 e0 e1
          obtain ⟨⟨c0, c1, c2, c3, c4⟩, ⟨d0, d1, d2, d3⟩, e0, e1⟩ := HB1.out.get
          obtain ⟨⟨r0, r1, r2, r3, r4⟩, ⟨z0, z1, z2, z3, z4⟩, zl⟩ := HB1.out.res
          go_wp2_with fail
          refine bodyPost_ret (v := .tuple #[.agg #[.int .i64 0, .int .i64 0, .slice none 0 0, .slice none 0 0, .slice none 0 0], .int .i64 1]) (by simp only [results, Try.results24]; go_simp) rfl (HB1.out.leave (r := (zeroFr, 1)) FV.zero (CapsOK.mk (Nat.le_refl _) (Nat.le_refl _) (Nat.le_refl _)) ⟨_, _, _, _, _, _, _, _, _, rfl, Byt.nil, Byt.nil, Byt.nil⟩)
      · have g0 : (a != 0) = true := by simp; omega
        have g1 : (a != 1) = true := by simp; omega
        clear hab ha
        go_enter Try.func24, Try.ntmps24
        go_upto_region 1 with fail
        generalize (((w.alloc _).alloc _).alloc _).alloc _ = W0 at *
        obtain ⟨⟨c0, c1, c2, c3, c4⟩, ⟨d0, d1, d2, d3⟩, e0, e1⟩ := HB0.out.get
        go_wp2_with fail
        refine (HH.out _ HB0.out.be).mono ?_
        rintro e w1 ⟨rfl, hb1⟩
        have HB1 := Lib.hid (HB0.out.ext hb1)
        clear hb1 c0 c1 c2 c3 c4 d0 d1 d2 d3 e0 e1
        obtain ⟨⟨c0, c1, c2, c3, c4⟩, ⟨d0, d1, d2, d3⟩, e0, e1⟩ := HB1.out.get
        obtain ⟨⟨r0, r1, r2, r3, r4⟩, ⟨z0, z1, z2, z3, z4⟩, zl⟩ := HB1.out.res
        go_wp2_with fail
        refine bodyPost_ret (v := .tuple #[.agg #[.int .i64 0, .int .i64 0, .slice none 0 0, .slice none 0 0, .slice none 0 0], .int .i64 1]) (by simp only [results, Try.results24]; go_simp) rfl (HB1.out.leave (r := (zeroFr, 1)) FV.zero (CapsOK.mk (Nat.le_refl _) (Nat.le_refl _) (Nat.le_refl _)) ⟨_, _, _, _, _, _, _, _, _, rfl, Byt.nil, Byt.nil, Byt.nil⟩)
    · have g32 : (Hh % 32 != 0) = true := by simpa using h32
      clear hno h32
      go_enter Try.func24, Try.ntmps24
      go_upto_region 1 with fail
      generalize (((w.alloc _).alloc _).alloc _).alloc _ = W0 at *
      obtain ⟨⟨c0, c1, c2, c3, c4⟩, ⟨d0, d1, d2, d3⟩, e0, e1⟩ := HB0.out.get
      go_wp2_with fail
      refine (HH.out _ HB0.out.be).mono ?_
      rintro e w1 ⟨rfl, hb1⟩
      have HB1 := Lib.hid (HB0.out.ext hb1)
      clear hb1 c0 c1 c2 c3 c4 d0 d1 d2 d3 e0 e1
      obtain ⟨⟨c0, c1, c2, c3, c4⟩, ⟨d0, d1, d2, d3⟩, e0, e1⟩ := HB1.out.get
      obtain ⟨⟨r0, r1, r2, r3, r4⟩, ⟨z0, z1, z2, z3, z4⟩, zl⟩ := HB1.out.res
      go_wp2_with fail
      refine bodyPost_ret (v := .tuple #[.agg #[.int .i64 0, .int .i64 0, .slice none 0 0, .slice none 0 0, .slice none 0 0], .int .i64 1]) (by simp only [results, Try.results24]; go_simp) rfl (HB1.out.leave (r := (zeroFr, 1)) FV.zero (CapsOK.mk (Nat.le_refl _) (Nat.le_refl _) (Nat.le_refl _)) ⟨_, _, _, _, _, _, _, _, _, rfl, Byt.nil, Byt.nil, Byt.nil⟩)
  · rw [hB] at HH
    clear hB hno
    go_enter Try.func24, Try.ntmps24
    go_upto_region 1 with fail
    generalize (((w.alloc _).alloc _).alloc _).alloc _ = W0 at *
    obtain ⟨⟨c0, c1, c2, c3, c4⟩, ⟨d0, d1, d2, d3⟩, e0, e1⟩ := HB0.out.get
    go_wp2_with fail
    refine (HH.out _ HB0.out.be).mono ?_
    rintro e w1 ⟨rfl, hb1⟩
    have HB1 := Lib.hid (HB0.out.ext hb1)
    clear hb1 c0 c1 c2 c3 c4 d0 d1 d2 d3 e0 e1
    obtain ⟨⟨c0, c1, c2, c3, c4⟩, ⟨d0, d1, d2, d3⟩, e0, e1⟩ := HB1.out.get
    obtain ⟨⟨r0, r1, r2, r3, r4⟩, ⟨z0, z1, z2, z3, z4⟩, zl⟩ := HB1.out.res
    go_wp2_with fail
    refine bodyPost_ret (v := .tuple #[.agg #[.int .i64 0, .int .i64 0, .slice none 0 0, .slice none 0 0, .slice none 0 0], .int .i64 1]) (by simp only [results, Try.results24]; go_simp) rfl (HB1.out.leave (r := (zeroFr, 1)) FV.zero (CapsOK.mk (Nat.le_refl _) (Nat.le_refl _) (Nat.le_refl _)) ⟨_, _, _, _, _, _, _, _, _, rfl, Byt.nil, Byt.nil, Byt.nil⟩)
end Go.Proofs.Ytaedpadkpclldaa
