/- MotionMirror in all cases. -/
import Derived.Test.YtaedpadkpclldaaLawMirror
namespace Go.Proofs.Ytaedpadkpclldaa
open Go.RowKit

set_option maxHeartbeats 4000000 in
theorem law_MotionMirror {p : Nat → Prop} (v : Value) (f : Fr) (x y pw ph vx vy : Int) (w : World) (hf : IsFr p w v f) :
    Calls Try.prog 7 #[v, .agg #[.int .i64 x, .int .i64 y, .int .i64 pw, .int .i64 ph, .int .i64 vx, .int .i64 vy]] w fun e w' => e = .returned (.bool true) ∧ Below w.heap.size w w' := by
  cases hl : lightB f with
  | false =>
    have hf0 := hf
    obtain ⟨fy1, fy2, fy3, fu1, fu2, fu3, fv1, fv2, fv3, rfl, _, _, _⟩ := hf
    go_enter Try.func7, Try.ntmps7
    go_wp2_with fail
    refine (law_light (p := p) _ f _ (by (repeat with_reducible apply IsFr.alloc); exact hf0)).mono ?_
    rintro e w1 ⟨rfl, hb1⟩
    rw [hl]
    go_wp2_with fail
    go_ret
    exact ⟨rfl, (((Below.refl _ w).alloc (by simp) _).alloc (by simp) _).trans (hb1.mono (by simp; omega))⟩
  | true =>
    by_cases he : (predF f x y pw ph vx vy).2 = 0
    · exact law_MotionMirror_ok v f x y pw ph vx vy w hf hl he
    · have hf0 := hf
      have HLI := Lib.hid hl
      have HE := Lib.hid he
      obtain ⟨fy1, fy2, fy3, fu1, fu2, fu3, fv1, fv2, fv3, rfl, _, _, _⟩ := hf
      clear hl he
      go_enter Try.func7, Try.ntmps7
      go_wp2_with fail
      refine (law_light (p := p) _ f _ (by (repeat with_reducible apply IsFr.alloc); exact hf0)).mono ?_
      rintro e w1 ⟨rfl, hb1⟩
      rw [HLI.out]
      have hB : Below w.heap.size w w1 := (((Below.refl _ w).alloc (by simp) _).alloc (by simp) _).trans (hb1.mono (by simp; omega))
      have hF := IsFr.ext ((hf0.alloc _).alloc _) hb1
      have xf : Bx w1 w.heap.size 24 #[.int .i64 f.W, .int .i64 f.H, .slice fy1 fy2 fy3, .slice fu1 fu2 fu3, .slice fv1 fv2 fv3] := ((Bx.new w _ _).alloc _).ext hb1
      have xp : Bx w1 (w.heap.size + 1) 34 #[.int .i64 x, .int .i64 y, .int .i64 pw, .int .i64 ph, .int .i64 vx, .int .i64 vy] := (Bx.new' _ _ _ _ (by simp)).ext hb1
      obtain ⟨c_xf0, c_xf1, c_xf2, c_xf3, c_xf4⟩ := xf.cells5
      have l_xf := xf.lt
      have c_xp0 := xp.cell 0 rfl
      have c_xp1 := xp.cell 1 rfl
      have c_xp2 := xp.cell 2 rfl
      have c_xp3 := xp.cell 3 rfl
      have c_xp4 := xp.cell 4 rfl
      have c_xp5 := xp.cell 5 rfl
      have l_xp := xp.lt
      clear hb1
      go_wp2_with fail
      refine (motion_Predict (p := p) _ f _ _ _ _ _ _ _ hF).mono ?_
      generalize hr : predF f x y pw ph vx vy = r at *
      clear hr
      obtain ⟨F, en⟩ := r
      rintro e w4 ⟨v4, rfl, hP, hk⟩
      have n2 : ¬ en = 0 := HE.out
      have n3 : (en != 0) = true := by simpa using n2
      obtain ⟨Fy1, Fy2, Fy3, Fu1, Fu2, Fu3, Fv1, Fv2, Fv3, rfl, _, _, _⟩ := hP
      have hB4 := hB.trans (hk.mono hB.size)
      clear n2 c_xf0 c_xf1 c_xf2 c_xf3 c_xf4 l_xf c_xp0 c_xp1 c_xp2 c_xp3 c_xp4 c_xp5 l_xp hk
      go_wp2_with fail
      refine (law_awake _).mono ?_
      rintro e w8 ⟨rfl, hk⟩
      go_wp2_with fail
      go_ret
      exact ⟨rfl, (hB4.alloc hB4.size _).trans (hk.mono (by have := hB4.size; simp; omega))⟩
end Go.Proofs.Ytaedpadkpclldaa
