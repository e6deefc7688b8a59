/- The law MotionClose returns true for every two frames and part. -/
import Derived.Test.YtaedpadkpclldaaAwake
import Derived.Test.YtaedpadkpclldaaPredictAll
import Derived.Test.YtaedpadkpclldaaCloseLaw
namespace Go.Proofs.Ytaedpadkpclldaa
open Go.RowKit

set_option maxHeartbeats 4000000 in
theorem law_MotionClose {p p' : Nat → Prop} (v v' : Value) (f g : Fr) (x y pw ph vx vy : Int) (w : World) (hf : IsFr p w v f) (hg : IsFr p' w v' g) :
    Calls Try.prog 8 #[v, v', .agg #[.int .i64 x, .int .i64 y, .int .i64 pw, .int .i64 ph, .int .i64 vx, .int .i64 vy]] w fun e w' => e = .returned (.bool true) ∧ Below w.heap.size w w' := by
  have hf0 := hf
  have hg0 := hg
  have HC := Lib.hid (pred_close (f := f) (g := g) (x := x) (y := y) (pw := pw) (ph := ph) (vx := vx) (vy := vy))
  obtain ⟨fy1, fy2, fy3, fu1, fu2, fu3, fv1, fv2, fv3, rfl, _, _, _⟩ := hf
  obtain ⟨gy1, gy2, gy3, gu1, gu2, gu3, gv1, gv2, gv3, rfl, _, _, _⟩ := hg
  by_cases h1 : lightB f = true
  · by_cases h2 : lightB g = true
    · skip
      go_enter Try.func8, Try.ntmps8
      go_wp2_with fail
      refine (law_light (p := p) _ f _ (by (repeat with_reducible apply IsFr.alloc); exact hf0)).mono ?_
      rintro e w1 ⟨rfl, hb1⟩
      have hB : Below w.heap.size w w1 := ((((Below.refl _ w).alloc (by simp) _).alloc (by simp) _).alloc (by simp; omega) _).trans (hb1.mono (by simp; omega))
      have hF := IsFr.ext (((hf0.alloc _).alloc _).alloc _) hb1
      have hG := IsFr.ext (((hg0.alloc _).alloc _).alloc _) hb1
      have xf : Bx w1 w.heap.size 24 #[.int .i64 f.W, .int .i64 f.H, .slice fy1 fy2 fy3, .slice fu1 fu2 fu3, .slice fv1 fv2 fv3] := (((Bx.new w _ _).alloc _).alloc _).ext hb1
      have xg : Bx w1 (w.heap.size + 1) 24 #[.int .i64 g.W, .int .i64 g.H, .slice gy1 gy2 gy3, .slice gu1 gu2 gu3, .slice gv1 gv2 gv3] := ((Bx.new' _ _ _ _ (by simp)).alloc _).ext hb1
      have xp : Bx w1 (w.heap.size + 1 + 1) 34 #[.int .i64 x, .int .i64 y, .int .i64 pw, .int .i64 ph, .int .i64 vx, .int .i64 vy] := (Bx.new' _ _ _ _ (by simp)).ext hb1
      clear hb1
      have c_xf0 := xf.cell 0 rfl
      have c_xf1 := xf.cell 1 rfl
      have c_xf2 := xf.cell 2 rfl
      have c_xf3 := xf.cell 3 rfl
      have c_xf4 := xf.cell 4 rfl
      have l_xf := xf.lt
      have c_xg0 := xg.cell 0 rfl
      have c_xg1 := xg.cell 1 rfl
      have c_xg2 := xg.cell 2 rfl
      have c_xg3 := xg.cell 3 rfl
      have c_xg4 := xg.cell 4 rfl
      have l_xg := xg.lt
      have c_xp0 := xp.cell 0 rfl
      have c_xp1 := xp.cell 1 rfl
      have c_xp2 := xp.cell 2 rfl
      have c_xp3 := xp.cell 3 rfl
      have c_xp4 := xp.cell 4 rfl
      have c_xp5 := xp.cell 5 rfl
      have l_xp := xp.lt
      go_wp2_with fail
      refine (law_light (p := p') _ g _ hG).mono ?_
      rintro e w2 ⟨rfl, hk⟩
      replace hB := Below.trans hB (Below.mono hk hB.size)
      replace hF := IsFr.ext hF hk
      replace hG := IsFr.ext hG hk
      replace xf := Bx.ext xf hk
      replace xg := Bx.ext xg hk
      replace xp := Bx.ext xp hk
      clear c_xf0 c_xf1 c_xf2 c_xf3 c_xf4 l_xf c_xg0 c_xg1 c_xg2 c_xg3 c_xg4 l_xg c_xp0 c_xp1 c_xp2 c_xp3 c_xp4 c_xp5 l_xp
      clear hk
      have c_xf0 := xf.cell 0 rfl
      have c_xf1 := xf.cell 1 rfl
      have c_xf2 := xf.cell 2 rfl
      have c_xf3 := xf.cell 3 rfl
      have c_xf4 := xf.cell 4 rfl
      have l_xf := xf.lt
      have c_xg0 := xg.cell 0 rfl
      have c_xg1 := xg.cell 1 rfl
      have c_xg2 := xg.cell 2 rfl
      have c_xg3 := xg.cell 3 rfl
      have c_xg4 := xg.cell 4 rfl
      have l_xg := xg.lt
      have c_xp0 := xp.cell 0 rfl
      have c_xp1 := xp.cell 1 rfl
      have c_xp2 := xp.cell 2 rfl
      have c_xp3 := xp.cell 3 rfl
      have c_xp4 := xp.cell 4 rfl
      have c_xp5 := xp.cell 5 rfl
      have l_xp := xp.lt
      go_wp2_with fail
      refine (ref_Distance (p := p) (p' := p') _ _ f g _ hF hG).mono ?_
      rintro e w3 ⟨rfl, hk⟩
      replace hB := Below.trans hB (Below.mono hk hB.size)
      replace hF := IsFr.ext hF hk
      replace hG := IsFr.ext hG hk
      replace xf := Bx.ext xf hk
      replace xg := Bx.ext xg hk
      replace xp := Bx.ext xp hk
      clear c_xf0 c_xf1 c_xf2 c_xf3 c_xf4 l_xf c_xg0 c_xg1 c_xg2 c_xg3 c_xg4 l_xg c_xp0 c_xp1 c_xp2 c_xp3 c_xp4 c_xp5 l_xp
      clear hk
      have c_xf0 := xf.cell 0 rfl
      have c_xf1 := xf.cell 1 rfl
      have c_xf2 := xf.cell 2 rfl
      have c_xf3 := xf.cell 3 rfl
      have c_xf4 := xf.cell 4 rfl
      have l_xf := xf.lt
      have c_xg0 := xg.cell 0 rfl
      have c_xg1 := xg.cell 1 rfl
      have c_xg2 := xg.cell 2 rfl
      have c_xg3 := xg.cell 3 rfl
      have c_xg4 := xg.cell 4 rfl
      have l_xg := xg.lt
      have c_xp0 := xp.cell 0 rfl
      have c_xp1 := xp.cell 1 rfl
      have c_xp2 := xp.cell 2 rfl
      have c_xp3 := xp.cell 3 rfl
      have c_xp4 := xp.cell 4 rfl
      have c_xp5 := xp.cell 5 rfl
      have l_xp := xp.lt
      go_wp2_with fail
      refine (motion_Predict (p := p) _ f _ _ _ _ _ _ _ hF).mono ?_
      generalize hr : predF f x y pw ph vx vy = r at *
      have HR := Lib.hid hr
      clear hr
      obtain ⟨F, en⟩ := r
      rintro e w4 ⟨v4, rfl, hP, hk⟩
      replace hB := Below.trans hB (Below.mono hk hB.size)
      replace hF := IsFr.ext hF hk
      replace hG := IsFr.ext hG hk
      replace xf := Bx.ext xf hk
      replace xg := Bx.ext xg hk
      replace xp := Bx.ext xp hk
      clear c_xf0 c_xf1 c_xf2 c_xf3 c_xf4 l_xf c_xg0 c_xg1 c_xg2 c_xg3 c_xg4 l_xg c_xp0 c_xp1 c_xp2 c_xp3 c_xp4 c_xp5 l_xp
      clear hk
      have hP0 := hP
      obtain ⟨Fy1, Fy2, Fy3, Fu1, Fu2, Fu3, Fv1, Fv2, Fv3, rfl, _, _, _⟩ := hP
      have c_xf0 := xf.cell 0 rfl
      have c_xf1 := xf.cell 1 rfl
      have c_xf2 := xf.cell 2 rfl
      have c_xf3 := xf.cell 3 rfl
      have c_xf4 := xf.cell 4 rfl
      have l_xf := xf.lt
      have c_xg0 := xg.cell 0 rfl
      have c_xg1 := xg.cell 1 rfl
      have c_xg2 := xg.cell 2 rfl
      have c_xg3 := xg.cell 3 rfl
      have c_xg4 := xg.cell 4 rfl
      have l_xg := xg.lt
      have c_xp0 := xp.cell 0 rfl
      have c_xp1 := xp.cell 1 rfl
      have c_xp2 := xp.cell 2 rfl
      have c_xp3 := xp.cell 3 rfl
      have c_xp4 := xp.cell 4 rfl
      have c_xp5 := xp.cell 5 rfl
      have l_xp := xp.lt
      go_wp2_with fail
      clear c_xf0 c_xf1 c_xf2 c_xf3 c_xf4 l_xf c_xg0 c_xg1 c_xg2 c_xg3 c_xg4 l_xg c_xp0 c_xp1 c_xp2 c_xp3 c_xp4 c_xp5 l_xp
      replace hB := Below.alloc hB hB.size (.cells #[.int .i64 F.W, .int .i64 F.H, .slice Fy1 Fy2 Fy3, .slice Fu1 Fu2 Fu3, .slice Fv1 Fv2 Fv3] 24)
      replace hF := IsFr.alloc hF (.cells #[.int .i64 F.W, .int .i64 F.H, .slice Fy1 Fy2 Fy3, .slice Fu1 Fu2 Fu3, .slice Fv1 Fv2 Fv3] 24)
      replace hG := IsFr.alloc hG (.cells #[.int .i64 F.W, .int .i64 F.H, .slice Fy1 Fy2 Fy3, .slice Fu1 Fu2 Fu3, .slice Fv1 Fv2 Fv3] 24)
      replace hP0 := IsFr.alloc hP0 (.cells #[.int .i64 F.W, .int .i64 F.H, .slice Fy1 Fy2 Fy3, .slice Fu1 Fu2 Fu3, .slice Fv1 Fv2 Fv3] 24)
      replace xf := Bx.alloc xf (.cells #[.int .i64 F.W, .int .i64 F.H, .slice Fy1 Fy2 Fy3, .slice Fu1 Fu2 Fu3, .slice Fv1 Fv2 Fv3] 24)
      replace xg := Bx.alloc xg (.cells #[.int .i64 F.W, .int .i64 F.H, .slice Fy1 Fy2 Fy3, .slice Fu1 Fu2 Fu3, .slice Fv1 Fv2 Fv3] 24)
      replace xp := Bx.alloc xp (.cells #[.int .i64 F.W, .int .i64 F.H, .slice Fy1 Fy2 Fy3, .slice Fu1 Fu2 Fu3, .slice Fv1 Fv2 Fv3] 24)
      have xF := Bx.new w4 24 #[.int .i64 F.W, .int .i64 F.H, .slice Fy1 Fy2 Fy3, .slice Fu1 Fu2 Fu3, .slice Fv1 Fv2 Fv3]
      generalize hW : World.alloc w4 (.cells #[.int .i64 F.W, .int .i64 F.H, .slice Fy1 Fy2 Fy3, .slice Fu1 Fu2 Fu3, .slice Fv1 Fv2 Fv3] 24) = w5 at *
      clear hW
      have c_xf0 := xf.cell 0 rfl
      have c_xf1 := xf.cell 1 rfl
      have c_xf2 := xf.cell 2 rfl
      have c_xf3 := xf.cell 3 rfl
      have c_xf4 := xf.cell 4 rfl
      have l_xf := xf.lt
      have c_xg0 := xg.cell 0 rfl
      have c_xg1 := xg.cell 1 rfl
      have c_xg2 := xg.cell 2 rfl
      have c_xg3 := xg.cell 3 rfl
      have c_xg4 := xg.cell 4 rfl
      have l_xg := xg.lt
      have c_xp0 := xp.cell 0 rfl
      have c_xp1 := xp.cell 1 rfl
      have c_xp2 := xp.cell 2 rfl
      have c_xp3 := xp.cell 3 rfl
      have c_xp4 := xp.cell 4 rfl
      have c_xp5 := xp.cell 5 rfl
      have l_xp := xp.lt
      refine (motion_Predict (p := p') _ g _ _ _ _ _ _ _ hG).mono ?_
      generalize hr2 : predF g x y pw ph vx vy = r2 at *
      have HR2 := Lib.hid hr2
      clear hr2
      obtain ⟨G, en2⟩ := r2
      rintro e w6 ⟨v6, rfl, hQ, hk⟩
      replace hB := Below.trans hB (Below.mono hk hB.size)
      replace hF := IsFr.ext hF hk
      replace hG := IsFr.ext hG hk
      replace hP0 := IsFr.ext hP0 hk
      replace xf := Bx.ext xf hk
      replace xg := Bx.ext xg hk
      replace xp := Bx.ext xp hk
      replace xF := Bx.ext xF hk
      clear c_xf0 c_xf1 c_xf2 c_xf3 c_xf4 l_xf c_xg0 c_xg1 c_xg2 c_xg3 c_xg4 l_xg c_xp0 c_xp1 c_xp2 c_xp3 c_xp4 c_xp5 l_xp
      clear hk
      have hQ0 := hQ
      obtain ⟨Gy1, Gy2, Gy3, Gu1, Gu2, Gu3, Gv1, Gv2, Gv3, rfl, _, _, _⟩ := hQ
      have c_xf0 := xf.cell 0 rfl
      have c_xf1 := xf.cell 1 rfl
      have c_xf2 := xf.cell 2 rfl
      have c_xf3 := xf.cell 3 rfl
      have c_xf4 := xf.cell 4 rfl
      have l_xf := xf.lt
      have c_xg0 := xg.cell 0 rfl
      have c_xg1 := xg.cell 1 rfl
      have c_xg2 := xg.cell 2 rfl
      have c_xg3 := xg.cell 3 rfl
      have c_xg4 := xg.cell 4 rfl
      have l_xg := xg.lt
      have c_xp0 := xp.cell 0 rfl
      have c_xp1 := xp.cell 1 rfl
      have c_xp2 := xp.cell 2 rfl
      have c_xp3 := xp.cell 3 rfl
      have c_xp4 := xp.cell 4 rfl
      have c_xp5 := xp.cell 5 rfl
      have l_xp := xp.lt
      have c_xF0 := xF.cell 0 rfl
      have c_xF1 := xF.cell 1 rfl
      have c_xF2 := xF.cell 2 rfl
      have c_xF3 := xF.cell 3 rfl
      have c_xF4 := xF.cell 4 rfl
      have l_xF := xF.lt
      by_cases n1 : distF f g < 0
      · skip
        have n1' : decide (distF f g < 0) = true := by simpa using n1
        go_wp2_with fail
        clear c_xf0 c_xf1 c_xf2 c_xf3 c_xf4 l_xf c_xg0 c_xg1 c_xg2 c_xg3 c_xg4 l_xg c_xp0 c_xp1 c_xp2 c_xp3 c_xp4 c_xp5 l_xp c_xF0 c_xF1 c_xF2 c_xF3 c_xF4 l_xF
        replace hB := Below.alloc hB hB.size (.cells #[.int .i64 G.W, .int .i64 G.H, .slice Gy1 Gy2 Gy3, .slice Gu1 Gu2 Gu3, .slice Gv1 Gv2 Gv3] 24)
        replace hF := IsFr.alloc hF (.cells #[.int .i64 G.W, .int .i64 G.H, .slice Gy1 Gy2 Gy3, .slice Gu1 Gu2 Gu3, .slice Gv1 Gv2 Gv3] 24)
        replace hG := IsFr.alloc hG (.cells #[.int .i64 G.W, .int .i64 G.H, .slice Gy1 Gy2 Gy3, .slice Gu1 Gu2 Gu3, .slice Gv1 Gv2 Gv3] 24)
        replace hP0 := IsFr.alloc hP0 (.cells #[.int .i64 G.W, .int .i64 G.H, .slice Gy1 Gy2 Gy3, .slice Gu1 Gu2 Gu3, .slice Gv1 Gv2 Gv3] 24)
        replace hQ0 := IsFr.alloc hQ0 (.cells #[.int .i64 G.W, .int .i64 G.H, .slice Gy1 Gy2 Gy3, .slice Gu1 Gu2 Gu3, .slice Gv1 Gv2 Gv3] 24)
        replace xf := Bx.alloc xf (.cells #[.int .i64 G.W, .int .i64 G.H, .slice Gy1 Gy2 Gy3, .slice Gu1 Gu2 Gu3, .slice Gv1 Gv2 Gv3] 24)
        replace xg := Bx.alloc xg (.cells #[.int .i64 G.W, .int .i64 G.H, .slice Gy1 Gy2 Gy3, .slice Gu1 Gu2 Gu3, .slice Gv1 Gv2 Gv3] 24)
        replace xp := Bx.alloc xp (.cells #[.int .i64 G.W, .int .i64 G.H, .slice Gy1 Gy2 Gy3, .slice Gu1 Gu2 Gu3, .slice Gv1 Gv2 Gv3] 24)
        replace xF := Bx.alloc xF (.cells #[.int .i64 G.W, .int .i64 G.H, .slice Gy1 Gy2 Gy3, .slice Gu1 Gu2 Gu3, .slice Gv1 Gv2 Gv3] 24)
        have xG := Bx.new w6 24 #[.int .i64 G.W, .int .i64 G.H, .slice Gy1 Gy2 Gy3, .slice Gu1 Gu2 Gu3, .slice Gv1 Gv2 Gv3]
        generalize hW : World.alloc w6 (.cells #[.int .i64 G.W, .int .i64 G.H, .slice Gy1 Gy2 Gy3, .slice Gu1 Gu2 Gu3, .slice Gv1 Gv2 Gv3] 24) = w7 at *
        clear hW
        have c_xf0 := xf.cell 0 rfl
        have c_xf1 := xf.cell 1 rfl
        have c_xf2 := xf.cell 2 rfl
        have c_xf3 := xf.cell 3 rfl
        have c_xf4 := xf.cell 4 rfl
        have l_xf := xf.lt
        have c_xg0 := xg.cell 0 rfl
        have c_xg1 := xg.cell 1 rfl
        have c_xg2 := xg.cell 2 rfl
        have c_xg3 := xg.cell 3 rfl
        have c_xg4 := xg.cell 4 rfl
        have l_xg := xg.lt
        have c_xp0 := xp.cell 0 rfl
        have c_xp1 := xp.cell 1 rfl
        have c_xp2 := xp.cell 2 rfl
        have c_xp3 := xp.cell 3 rfl
        have c_xp4 := xp.cell 4 rfl
        have c_xp5 := xp.cell 5 rfl
        have l_xp := xp.lt
        have c_xF0 := xF.cell 0 rfl
        have c_xF1 := xF.cell 1 rfl
        have c_xF2 := xF.cell 2 rfl
        have c_xF3 := xF.cell 3 rfl
        have c_xF4 := xF.cell 4 rfl
        have l_xF := xF.lt
        refine (law_awake _).mono ?_
        rintro e w8 ⟨rfl, hk⟩
        replace hB := Below.trans hB (Below.mono hk hB.size)
        go_wp2_with fail
        go_ret
        exact ⟨rfl, hB⟩
      · by_cases n2 : en = 0
        · skip
          subst n2
          have n1' : decide (distF f g < 0) = false := by simpa using n1
          go_wp2_with fail
          clear c_xf0 c_xf1 c_xf2 c_xf3 c_xf4 l_xf c_xg0 c_xg1 c_xg2 c_xg3 c_xg4 l_xg c_xp0 c_xp1 c_xp2 c_xp3 c_xp4 c_xp5 l_xp c_xF0 c_xF1 c_xF2 c_xF3 c_xF4 l_xF
          replace hB := Below.alloc hB hB.size (.cells #[.int .i64 G.W, .int .i64 G.H, .slice Gy1 Gy2 Gy3, .slice Gu1 Gu2 Gu3, .slice Gv1 Gv2 Gv3] 24)
          replace hF := IsFr.alloc hF (.cells #[.int .i64 G.W, .int .i64 G.H, .slice Gy1 Gy2 Gy3, .slice Gu1 Gu2 Gu3, .slice Gv1 Gv2 Gv3] 24)
          replace hG := IsFr.alloc hG (.cells #[.int .i64 G.W, .int .i64 G.H, .slice Gy1 Gy2 Gy3, .slice Gu1 Gu2 Gu3, .slice Gv1 Gv2 Gv3] 24)
          replace hP0 := IsFr.alloc hP0 (.cells #[.int .i64 G.W, .int .i64 G.H, .slice Gy1 Gy2 Gy3, .slice Gu1 Gu2 Gu3, .slice Gv1 Gv2 Gv3] 24)
          replace hQ0 := IsFr.alloc hQ0 (.cells #[.int .i64 G.W, .int .i64 G.H, .slice Gy1 Gy2 Gy3, .slice Gu1 Gu2 Gu3, .slice Gv1 Gv2 Gv3] 24)
          replace xf := Bx.alloc xf (.cells #[.int .i64 G.W, .int .i64 G.H, .slice Gy1 Gy2 Gy3, .slice Gu1 Gu2 Gu3, .slice Gv1 Gv2 Gv3] 24)
          replace xg := Bx.alloc xg (.cells #[.int .i64 G.W, .int .i64 G.H, .slice Gy1 Gy2 Gy3, .slice Gu1 Gu2 Gu3, .slice Gv1 Gv2 Gv3] 24)
          replace xp := Bx.alloc xp (.cells #[.int .i64 G.W, .int .i64 G.H, .slice Gy1 Gy2 Gy3, .slice Gu1 Gu2 Gu3, .slice Gv1 Gv2 Gv3] 24)
          replace xF := Bx.alloc xF (.cells #[.int .i64 G.W, .int .i64 G.H, .slice Gy1 Gy2 Gy3, .slice Gu1 Gu2 Gu3, .slice Gv1 Gv2 Gv3] 24)
          have xG := Bx.new w6 24 #[.int .i64 G.W, .int .i64 G.H, .slice Gy1 Gy2 Gy3, .slice Gu1 Gu2 Gu3, .slice Gv1 Gv2 Gv3]
          generalize hW : World.alloc w6 (.cells #[.int .i64 G.W, .int .i64 G.H, .slice Gy1 Gy2 Gy3, .slice Gu1 Gu2 Gu3, .slice Gv1 Gv2 Gv3] 24) = w7 at *
          clear hW
          have c_xf0 := xf.cell 0 rfl
          have c_xf1 := xf.cell 1 rfl
          have c_xf2 := xf.cell 2 rfl
          have c_xf3 := xf.cell 3 rfl
          have c_xf4 := xf.cell 4 rfl
          have l_xf := xf.lt
          have c_xg0 := xg.cell 0 rfl
          have c_xg1 := xg.cell 1 rfl
          have c_xg2 := xg.cell 2 rfl
          have c_xg3 := xg.cell 3 rfl
          have c_xg4 := xg.cell 4 rfl
          have l_xg := xg.lt
          have c_xp0 := xp.cell 0 rfl
          have c_xp1 := xp.cell 1 rfl
          have c_xp2 := xp.cell 2 rfl
          have c_xp3 := xp.cell 3 rfl
          have c_xp4 := xp.cell 4 rfl
          have c_xp5 := xp.cell 5 rfl
          have l_xp := xp.lt
          have c_xF0 := xF.cell 0 rfl
          have c_xF1 := xF.cell 1 rfl
          have c_xF2 := xF.cell 2 rfl
          have c_xF3 := xF.cell 3 rfl
          have c_xF4 := xF.cell 4 rfl
          have l_xF := xF.lt
          have hc := HC.out (by omega) (by first | trivial | rfl)
          try dsimp only at hc
          obtain ⟨z1, z2, z3⟩ := hc
          refine (ref_Distance _ _ F G _ hP0 hQ0).mono ?_
          rintro e w8 ⟨rfl, hk⟩
          replace hB := Below.trans hB (Below.mono hk hB.size)
          replace hF := IsFr.ext hF hk
          replace hG := IsFr.ext hG hk
          replace hP0 := IsFr.ext hP0 hk
          replace hQ0 := IsFr.ext hQ0 hk
          replace xf := Bx.ext xf hk
          replace xg := Bx.ext xg hk
          replace xp := Bx.ext xp hk
          replace xF := Bx.ext xF hk
          replace xG := Bx.ext xG hk
          clear c_xf0 c_xf1 c_xf2 c_xf3 c_xf4 l_xf c_xg0 c_xg1 c_xg2 c_xg3 c_xg4 l_xg c_xp0 c_xp1 c_xp2 c_xp3 c_xp4 c_xp5 l_xp c_xF0 c_xF1 c_xF2 c_xF3 c_xF4 l_xF
          clear hk
          have c_xf0 := xf.cell 0 rfl
          have c_xf1 := xf.cell 1 rfl
          have c_xf2 := xf.cell 2 rfl
          have c_xf3 := xf.cell 3 rfl
          have c_xf4 := xf.cell 4 rfl
          have l_xf := xf.lt
          have c_xg0 := xg.cell 0 rfl
          have c_xg1 := xg.cell 1 rfl
          have c_xg2 := xg.cell 2 rfl
          have c_xg3 := xg.cell 3 rfl
          have c_xg4 := xg.cell 4 rfl
          have l_xg := xg.lt
          have c_xp0 := xp.cell 0 rfl
          have c_xp1 := xp.cell 1 rfl
          have c_xp2 := xp.cell 2 rfl
          have c_xp3 := xp.cell 3 rfl
          have c_xp4 := xp.cell 4 rfl
          have c_xp5 := xp.cell 5 rfl
          have l_xp := xp.lt
          have c_xF0 := xF.cell 0 rfl
          have c_xF1 := xF.cell 1 rfl
          have c_xF2 := xF.cell 2 rfl
          have c_xF3 := xF.cell 3 rfl
          have c_xF4 := xF.cell 4 rfl
          have l_xF := xF.lt
          have c_xG0 := xG.cell 0 rfl
          have c_xG1 := xG.cell 1 rfl
          have c_xG2 := xG.cell 2 rfl
          have c_xG3 := xG.cell 3 rfl
          have c_xG4 := xG.cell 4 rfl
          have l_xG := xG.lt
          go_wp2_with fail
          have z1' : (en2 == 0) = true := by simpa using z1
          clear z1
          refine (law_awake _).mono ?_
          rintro e w9 ⟨rfl, hk⟩
          replace hB := Below.trans hB (Below.mono hk hB.size)
          replace hF := IsFr.ext hF hk
          replace hG := IsFr.ext hG hk
          replace hP0 := IsFr.ext hP0 hk
          replace hQ0 := IsFr.ext hQ0 hk
          replace xf := Bx.ext xf hk
          replace xg := Bx.ext xg hk
          replace xp := Bx.ext xp hk
          replace xF := Bx.ext xF hk
          replace xG := Bx.ext xG hk
          clear c_xf0 c_xf1 c_xf2 c_xf3 c_xf4 l_xf c_xg0 c_xg1 c_xg2 c_xg3 c_xg4 l_xg c_xp0 c_xp1 c_xp2 c_xp3 c_xp4 c_xp5 l_xp c_xF0 c_xF1 c_xF2 c_xF3 c_xF4 l_xF c_xG0 c_xG1 c_xG2 c_xG3 c_xG4 l_xG
          clear hk
          have c_xf0 := xf.cell 0 rfl
          have c_xf1 := xf.cell 1 rfl
          have c_xf2 := xf.cell 2 rfl
          have c_xf3 := xf.cell 3 rfl
          have c_xf4 := xf.cell 4 rfl
          have l_xf := xf.lt
          have c_xg0 := xg.cell 0 rfl
          have c_xg1 := xg.cell 1 rfl
          have c_xg2 := xg.cell 2 rfl
          have c_xg3 := xg.cell 3 rfl
          have c_xg4 := xg.cell 4 rfl
          have l_xg := xg.lt
          have c_xp0 := xp.cell 0 rfl
          have c_xp1 := xp.cell 1 rfl
          have c_xp2 := xp.cell 2 rfl
          have c_xp3 := xp.cell 3 rfl
          have c_xp4 := xp.cell 4 rfl
          have c_xp5 := xp.cell 5 rfl
          have l_xp := xp.lt
          have c_xF0 := xF.cell 0 rfl
          have c_xF1 := xF.cell 1 rfl
          have c_xF2 := xF.cell 2 rfl
          have c_xF3 := xF.cell 3 rfl
          have c_xF4 := xF.cell 4 rfl
          have l_xF := xF.lt
          have c_xG0 := xG.cell 0 rfl
          have c_xG1 := xG.cell 1 rfl
          have c_xG2 := xG.cell 2 rfl
          have c_xG3 := xG.cell 3 rfl
          have c_xG4 := xG.cell 4 rfl
          have l_xG := xG.lt
          go_wp2_with fail
          go_ret
          exact ⟨ret_bool (by first | rfl | (simp; done) | exact decide_eq_true z3), hB⟩
        · skip
          have n2' : (en != 0) = true := by simpa using n2
          have n1' : decide (distF f g < 0) = false := by simpa using n1
          go_wp2_with fail
          clear c_xf0 c_xf1 c_xf2 c_xf3 c_xf4 l_xf c_xg0 c_xg1 c_xg2 c_xg3 c_xg4 l_xg c_xp0 c_xp1 c_xp2 c_xp3 c_xp4 c_xp5 l_xp c_xF0 c_xF1 c_xF2 c_xF3 c_xF4 l_xF
          replace hB := Below.alloc hB hB.size (.cells #[.int .i64 G.W, .int .i64 G.H, .slice Gy1 Gy2 Gy3, .slice Gu1 Gu2 Gu3, .slice Gv1 Gv2 Gv3] 24)
          replace hF := IsFr.alloc hF (.cells #[.int .i64 G.W, .int .i64 G.H, .slice Gy1 Gy2 Gy3, .slice Gu1 Gu2 Gu3, .slice Gv1 Gv2 Gv3] 24)
          replace hG := IsFr.alloc hG (.cells #[.int .i64 G.W, .int .i64 G.H, .slice Gy1 Gy2 Gy3, .slice Gu1 Gu2 Gu3, .slice Gv1 Gv2 Gv3] 24)
          replace hP0 := IsFr.alloc hP0 (.cells #[.int .i64 G.W, .int .i64 G.H, .slice Gy1 Gy2 Gy3, .slice Gu1 Gu2 Gu3, .slice Gv1 Gv2 Gv3] 24)
          replace hQ0 := IsFr.alloc hQ0 (.cells #[.int .i64 G.W, .int .i64 G.H, .slice Gy1 Gy2 Gy3, .slice Gu1 Gu2 Gu3, .slice Gv1 Gv2 Gv3] 24)
          replace xf := Bx.alloc xf (.cells #[.int .i64 G.W, .int .i64 G.H, .slice Gy1 Gy2 Gy3, .slice Gu1 Gu2 Gu3, .slice Gv1 Gv2 Gv3] 24)
          replace xg := Bx.alloc xg (.cells #[.int .i64 G.W, .int .i64 G.H, .slice Gy1 Gy2 Gy3, .slice Gu1 Gu2 Gu3, .slice Gv1 Gv2 Gv3] 24)
          replace xp := Bx.alloc xp (.cells #[.int .i64 G.W, .int .i64 G.H, .slice Gy1 Gy2 Gy3, .slice Gu1 Gu2 Gu3, .slice Gv1 Gv2 Gv3] 24)
          replace xF := Bx.alloc xF (.cells #[.int .i64 G.W, .int .i64 G.H, .slice Gy1 Gy2 Gy3, .slice Gu1 Gu2 Gu3, .slice Gv1 Gv2 Gv3] 24)
          have xG := Bx.new w6 24 #[.int .i64 G.W, .int .i64 G.H, .slice Gy1 Gy2 Gy3, .slice Gu1 Gu2 Gu3, .slice Gv1 Gv2 Gv3]
          generalize hW : World.alloc w6 (.cells #[.int .i64 G.W, .int .i64 G.H, .slice Gy1 Gy2 Gy3, .slice Gu1 Gu2 Gu3, .slice Gv1 Gv2 Gv3] 24) = w7 at *
          clear hW
          have c_xf0 := xf.cell 0 rfl
          have c_xf1 := xf.cell 1 rfl
          have c_xf2 := xf.cell 2 rfl
          have c_xf3 := xf.cell 3 rfl
          have c_xf4 := xf.cell 4 rfl
          have l_xf := xf.lt
          have c_xg0 := xg.cell 0 rfl
          have c_xg1 := xg.cell 1 rfl
          have c_xg2 := xg.cell 2 rfl
          have c_xg3 := xg.cell 3 rfl
          have c_xg4 := xg.cell 4 rfl
          have l_xg := xg.lt
          have c_xp0 := xp.cell 0 rfl
          have c_xp1 := xp.cell 1 rfl
          have c_xp2 := xp.cell 2 rfl
          have c_xp3 := xp.cell 3 rfl
          have c_xp4 := xp.cell 4 rfl
          have c_xp5 := xp.cell 5 rfl
          have l_xp := xp.lt
          have c_xF0 := xF.cell 0 rfl
          have c_xF1 := xF.cell 1 rfl
          have c_xF2 := xF.cell 2 rfl
          have c_xF3 := xF.cell 3 rfl
          have c_xF4 := xF.cell 4 rfl
          have l_xF := xF.lt
          refine (law_awake _).mono ?_
          rintro e w8 ⟨rfl, hk⟩
          replace hB := Below.trans hB (Below.mono hk hB.size)
          go_wp2_with fail
          go_ret
          exact ⟨rfl, hB⟩
    · skip
      have h2' : lightB g = false := by simpa using h2
      go_enter Try.func8, Try.ntmps8
      go_wp2_with fail
      refine (law_light (p := p) _ f _ (by (repeat with_reducible apply IsFr.alloc); exact hf0)).mono ?_
      rintro e w1 ⟨rfl, hb1⟩
      have hB : Below w.heap.size w w1 := ((((Below.refl _ w).alloc (by simp) _).alloc (by simp) _).alloc (by simp; omega) _).trans (hb1.mono (by simp; omega))
      have hF := IsFr.ext (((hf0.alloc _).alloc _).alloc _) hb1
      have hG := IsFr.ext (((hg0.alloc _).alloc _).alloc _) hb1
      have xf : Bx w1 w.heap.size 24 #[.int .i64 f.W, .int .i64 f.H, .slice fy1 fy2 fy3, .slice fu1 fu2 fu3, .slice fv1 fv2 fv3] := (((Bx.new w _ _).alloc _).alloc _).ext hb1
      have xg : Bx w1 (w.heap.size + 1) 24 #[.int .i64 g.W, .int .i64 g.H, .slice gy1 gy2 gy3, .slice gu1 gu2 gu3, .slice gv1 gv2 gv3] := ((Bx.new' _ _ _ _ (by simp)).alloc _).ext hb1
      have xp : Bx w1 (w.heap.size + 1 + 1) 34 #[.int .i64 x, .int .i64 y, .int .i64 pw, .int .i64 ph, .int .i64 vx, .int .i64 vy] := (Bx.new' _ _ _ _ (by simp)).ext hb1
      clear hb1
      have c_xf0 := xf.cell 0 rfl
      have c_xf1 := xf.cell 1 rfl
      have c_xf2 := xf.cell 2 rfl
      have c_xf3 := xf.cell 3 rfl
      have c_xf4 := xf.cell 4 rfl
      have l_xf := xf.lt
      have c_xg0 := xg.cell 0 rfl
      have c_xg1 := xg.cell 1 rfl
      have c_xg2 := xg.cell 2 rfl
      have c_xg3 := xg.cell 3 rfl
      have c_xg4 := xg.cell 4 rfl
      have l_xg := xg.lt
      have c_xp0 := xp.cell 0 rfl
      have c_xp1 := xp.cell 1 rfl
      have c_xp2 := xp.cell 2 rfl
      have c_xp3 := xp.cell 3 rfl
      have c_xp4 := xp.cell 4 rfl
      have c_xp5 := xp.cell 5 rfl
      have l_xp := xp.lt
      go_wp2_with fail
      refine (law_light (p := p') _ g _ hG).mono ?_
      rintro e w2 ⟨rfl, hk⟩
      replace hB := Below.trans hB (Below.mono hk hB.size)
      replace hF := IsFr.ext hF hk
      replace hG := IsFr.ext hG hk
      replace xf := Bx.ext xf hk
      replace xg := Bx.ext xg hk
      replace xp := Bx.ext xp hk
      clear c_xf0 c_xf1 c_xf2 c_xf3 c_xf4 l_xf c_xg0 c_xg1 c_xg2 c_xg3 c_xg4 l_xg c_xp0 c_xp1 c_xp2 c_xp3 c_xp4 c_xp5 l_xp
      clear hk
      have c_xf0 := xf.cell 0 rfl
      have c_xf1 := xf.cell 1 rfl
      have c_xf2 := xf.cell 2 rfl
      have c_xf3 := xf.cell 3 rfl
      have c_xf4 := xf.cell 4 rfl
      have l_xf := xf.lt
      have c_xg0 := xg.cell 0 rfl
      have c_xg1 := xg.cell 1 rfl
      have c_xg2 := xg.cell 2 rfl
      have c_xg3 := xg.cell 3 rfl
      have c_xg4 := xg.cell 4 rfl
      have l_xg := xg.lt
      have c_xp0 := xp.cell 0 rfl
      have c_xp1 := xp.cell 1 rfl
      have c_xp2 := xp.cell 2 rfl
      have c_xp3 := xp.cell 3 rfl
      have c_xp4 := xp.cell 4 rfl
      have c_xp5 := xp.cell 5 rfl
      have l_xp := xp.lt
      go_wp2_with fail
      go_ret
      exact ⟨rfl, hB⟩
  · skip
    have h1' : lightB f = false := by simpa using h1
    go_enter Try.func8, Try.ntmps8
    go_wp2_with fail
    refine (law_light (p := p) _ f _ (by (repeat with_reducible apply IsFr.alloc); exact hf0)).mono ?_
    rintro e w1 ⟨rfl, hb1⟩
    have hB : Below w.heap.size w w1 := ((((Below.refl _ w).alloc (by simp) _).alloc (by simp) _).alloc (by simp; omega) _).trans (hb1.mono (by simp; omega))
    have hF := IsFr.ext (((hf0.alloc _).alloc _).alloc _) hb1
    have hG := IsFr.ext (((hg0.alloc _).alloc _).alloc _) hb1
    have xf : Bx w1 w.heap.size 24 #[.int .i64 f.W, .int .i64 f.H, .slice fy1 fy2 fy3, .slice fu1 fu2 fu3, .slice fv1 fv2 fv3] := (((Bx.new w _ _).alloc _).alloc _).ext hb1
    have xg : Bx w1 (w.heap.size + 1) 24 #[.int .i64 g.W, .int .i64 g.H, .slice gy1 gy2 gy3, .slice gu1 gu2 gu3, .slice gv1 gv2 gv3] := ((Bx.new' _ _ _ _ (by simp)).alloc _).ext hb1
    have xp : Bx w1 (w.heap.size + 1 + 1) 34 #[.int .i64 x, .int .i64 y, .int .i64 pw, .int .i64 ph, .int .i64 vx, .int .i64 vy] := (Bx.new' _ _ _ _ (by simp)).ext hb1
    clear hb1
    have c_xf0 := xf.cell 0 rfl
    have c_xf1 := xf.cell 1 rfl
    have c_xf2 := xf.cell 2 rfl
    have c_xf3 := xf.cell 3 rfl
    have c_xf4 := xf.cell 4 rfl
    have l_xf := xf.lt
    have c_xg0 := xg.cell 0 rfl
    have c_xg1 := xg.cell 1 rfl
    have c_xg2 := xg.cell 2 rfl
    have c_xg3 := xg.cell 3 rfl
    have c_xg4 := xg.cell 4 rfl
    have l_xg := xg.lt
    have c_xp0 := xp.cell 0 rfl
    have c_xp1 := xp.cell 1 rfl
    have c_xp2 := xp.cell 2 rfl
    have c_xp3 := xp.cell 3 rfl
    have c_xp4 := xp.cell 4 rfl
    have c_xp5 := xp.cell 5 rfl
    have l_xp := xp.lt
    go_wp2_with fail
    go_ret
    exact ⟨rfl, hB⟩
end Go.Proofs.Ytaedpadkpclldaa
