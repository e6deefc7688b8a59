/- The law MotionBetween returns true for every frame and part. -/
import Derived.Test.YtaedpadkpclldaaAwake
import Derived.Test.YtaedpadkpclldaaPredictAll
import Derived.Test.YtaedpadkpclldaaBetweenLaw
namespace Go.Proofs.Ytaedpadkpclldaa
open Go.RowKit
attribute [local go_sem ↓] run_min_mm run_max_mm

set_option maxHeartbeats 4000000 in
theorem law_MotionBetween {p : Nat → Prop} (v : Value) (f : Fr) (x y pw ph vx vy : Int) (w : World) (hf : IsFr p w v f) :
    Calls Try.prog 6 #[v, .agg #[.int .i64 x, .int .i64 y, .int .i64 pw, .int .i64 ph, .int .i64 vx, .int .i64 vy]] w fun e w' => e = .returned (.bool true) ∧ Below w.heap.size w w' := by
  have hf0 := hf
  have HC := Lib.hid (pred_between (f := f) (x := x) (y := y) (pw := pw) (ph := ph) (vx := vx) (vy := vy))
  have HZ := Lib.hid (predF_zero (f := f) (x := x) (y := y) (pw := pw) (ph := ph) (vx := vx) (vy := vy))
  obtain ⟨fy1, fy2, fy3, fu1, fu2, fu3, fv1, fv2, fv3, rfl, hY, _, _⟩ := hf
  have hlen := hY.len
  have hrng := hY.rng
  have HL := Lib.hid hlen
  clear hlen
  by_cases h1 : lightB f = true
  · have hl5 : fy2 ≤ 5000 := by
      have : f.Y.length ≤ 5000 := by simp only [lightB, decide_eq_true_eq] at h1; exact h1.1
      rw [HL.out] at this; exact this
    go_enter Try.func6, Try.ntmps6
    go_wp2_with fail
    refine (law_light (p := p) _ f _ (by (repeat with_reducible apply IsFr.alloc); exact hf0)).mono ?_
    rintro e w1 ⟨rfl, hb1⟩
    have hB : Below w.heap.size w w1 := (((Below.refl _ w).alloc (by simp) _).alloc (by simp) _).trans (hb1.mono (by simp; omega))
    have hF := IsFr.ext ((hf0.alloc _).alloc _) hb1
    replace hY := Byt.ext ((hY.alloc _).alloc _) hb1
    have xf : Bx w1 w.heap.size 24 #[.int .i64 f.W, .int .i64 f.H, .slice fy1 fy2 fy3, .slice fu1 fu2 fu3, .slice fv1 fv2 fv3] := ((Bx.new w _ _).alloc _).ext hb1
    have xp : Bx w1 (w.heap.size + 1) 34 #[.int .i64 x, .int .i64 y, .int .i64 pw, .int .i64 ph, .int .i64 vx, .int .i64 vy] := (Bx.new' _ _ _ _ (by simp)).ext hb1
    clear hb1
    have c_xf0 := xf.cell 0 rfl
    have c_xf1 := xf.cell 1 rfl
    have c_xf2 := xf.cell 2 rfl
    have c_xf3 := xf.cell 3 rfl
    have c_xf4 := xf.cell 4 rfl
    have l_xf := xf.lt
    have c_xp0 := xp.cell 0 rfl
    have c_xp1 := xp.cell 1 rfl
    have c_xp2 := xp.cell 2 rfl
    have c_xp3 := xp.cell 3 rfl
    have c_xp4 := xp.cell 4 rfl
    have c_xp5 := xp.cell 5 rfl
    have l_xp := xp.lt
    go_wp2_with fail
    refine (motion_Predict (p := p) _ f _ _ _ _ _ _ _ hF).mono ?_
    generalize hr : predF f x y pw ph vx vy = r at *
    clear hr
    obtain ⟨F, en⟩ := r
    dsimp only at HC HZ
    rintro e w4 ⟨v4, rfl, hP, hk⟩
    replace hB := Below.trans hB (Below.mono hk hB.size)
    replace hF := IsFr.ext hF hk
    replace hY := Byt.ext hY hk
    replace xf := Bx.ext xf hk
    replace xp := Bx.ext xp hk
    clear c_xf0 c_xf1 c_xf2 c_xf3 c_xf4 l_xf c_xp0 c_xp1 c_xp2 c_xp3 c_xp4 c_xp5 l_xp
    clear hk
    have hP0 := hP
    obtain ⟨Fy1, Fy2, Fy3, Fu1, Fu2, Fu3, Fv1, Fv2, Fv3, rfl, hPY, _, _⟩ := hP
    have c_xf0 := xf.cell 0 rfl
    have c_xf1 := xf.cell 1 rfl
    have c_xf2 := xf.cell 2 rfl
    have c_xf3 := xf.cell 3 rfl
    have c_xf4 := xf.cell 4 rfl
    have l_xf := xf.lt
    have c_xp0 := xp.cell 0 rfl
    have c_xp1 := xp.cell 1 rfl
    have c_xp2 := xp.cell 2 rfl
    have c_xp3 := xp.cell 3 rfl
    have c_xp4 := xp.cell 4 rfl
    have c_xp5 := xp.cell 5 rfl
    have l_xp := xp.lt
    by_cases n2 : en = 0
    · subst n2
      have hc := HC.out rfl
      have hc1 := hc.1
      have hc4 := hc.2.2.2
      have hpw := hc.2.1
      have hph := hc.2.2.1
      have m16 : pw * ph = 128 ∨ pw * ph = 256 := by rcases hph with h | h <;> rw [hpw, h] <;> simp
      clear hc hpw hph
      have hFlen := hPY.len
      rw [hFlen] at hc1
      have HF1 := Lib.hid hc1
      have hne : ((Fy2 : Int) != pw * ph) = false := by simpa using hc1
      have hFb : Fy2 ≤ 256 := by omega
      clear hc1 hFlen
      go_wp2_with fail
      clear c_xf0 c_xf1 c_xf2 c_xf3 c_xf4 l_xf c_xp0 c_xp1 c_xp2 c_xp3 c_xp4 c_xp5 l_xp
      replace hB := Below.alloc hB hB.size (.cells #[.int .i64 F.W, .int .i64 F.H, .slice Fy1 Fy2 Fy3, .slice Fu1 Fu2 Fu3, .slice Fv1 Fv2 Fv3] 24)
      replace hF := IsFr.alloc hF (.cells #[.int .i64 F.W, .int .i64 F.H, .slice Fy1 Fy2 Fy3, .slice Fu1 Fu2 Fu3, .slice Fv1 Fv2 Fv3] 24)
      replace hY := Byt.alloc hY (.cells #[.int .i64 F.W, .int .i64 F.H, .slice Fy1 Fy2 Fy3, .slice Fu1 Fu2 Fu3, .slice Fv1 Fv2 Fv3] 24)
      replace hP0 := IsFr.alloc hP0 (.cells #[.int .i64 F.W, .int .i64 F.H, .slice Fy1 Fy2 Fy3, .slice Fu1 Fu2 Fu3, .slice Fv1 Fv2 Fv3] 24)
      replace hPY := Byt.alloc hPY (.cells #[.int .i64 F.W, .int .i64 F.H, .slice Fy1 Fy2 Fy3, .slice Fu1 Fu2 Fu3, .slice Fv1 Fv2 Fv3] 24)
      replace xf := Bx.alloc xf (.cells #[.int .i64 F.W, .int .i64 F.H, .slice Fy1 Fy2 Fy3, .slice Fu1 Fu2 Fu3, .slice Fv1 Fv2 Fv3] 24)
      replace xp := Bx.alloc xp (.cells #[.int .i64 F.W, .int .i64 F.H, .slice Fy1 Fy2 Fy3, .slice Fu1 Fu2 Fu3, .slice Fv1 Fv2 Fv3] 24)
      have xF := Bx.new w4 24 #[.int .i64 F.W, .int .i64 F.H, .slice Fy1 Fy2 Fy3, .slice Fu1 Fu2 Fu3, .slice Fv1 Fv2 Fv3]
      generalize hW : World.alloc w4 (.cells #[.int .i64 F.W, .int .i64 F.H, .slice Fy1 Fy2 Fy3, .slice Fu1 Fu2 Fu3, .slice Fv1 Fv2 Fv3] 24) = w5 at *
      clear hW
      have c_xf0 := xf.cell 0 rfl
      have c_xf1 := xf.cell 1 rfl
      have c_xf2 := xf.cell 2 rfl
      have c_xf3 := xf.cell 3 rfl
      have c_xf4 := xf.cell 4 rfl
      have l_xf := xf.lt
      have c_xp0 := xp.cell 0 rfl
      have c_xp1 := xp.cell 1 rfl
      have c_xp2 := xp.cell 2 rfl
      have c_xp3 := xp.cell 3 rfl
      have c_xp4 := xp.cell 4 rfl
      have c_xp5 := xp.cell 5 rfl
      have l_xp := xp.lt
      go_loopw [7, 8, 9] (fun lo hi i wr => ∃ k : Nat, k ≤ fy2 ∧ i = .int .i64 k ∧ lo = .int .i64 (lowL (f.Y.take k)) ∧ hi = .int .i64 (highL (f.Y.take k)) ∧ Below w5.heap.size w5 wr) (fun _ _ i _ => fy2 - (intOf i).toNat)
      case atStart => exact ⟨0, Nat.zero_le _, rfl, rfl, rfl, Below.refl _ _⟩
      case round =>
        clear c_xf0 c_xf1 c_xf2 c_xf3 c_xf4 l_xf c_xp0 c_xp1 c_xp2 c_xp3 c_xp4 c_xp5 l_xp
        obtain ⟨k, hk, rfl, rfl, rfl, hbel⟩ := hrel
        have c2 := (xf.ext hbel).cell 2 rfl
        have b1 := low_bd (l := f.Y.take k) (fun z hz => hrng z (List.mem_of_mem_take hz))
        have b2 := high_bd (l := f.Y.take k) (fun z hz => hrng z (List.mem_of_mem_take hz))
        by_cases hlt : k < fy2
        · obtain ⟨bb, oo, z, rfl, _, hbb, hz, hz0, hz1, hcz⟩ := (hY.ext hbel).at_ hlt
          have i0 : (0 : Int) ≤ (k : Int) := by omega
          have i1 : (k : Int) < (fy2 : Int) := by omega
          have HX := Lib.hid hz
          clear hz
          have e1 : IntKind.i64.wrap z = z := IntWalk.i64_in _ (by omega)
          go_wp2
          generalize hLo : lowL (f.Y.take k) = lo at *
          generalize hHi : highL (f.Y.take k) = hi at *
          have HLo := Lib.hid hLo
          have HHi := Lib.hid hHi
          clear hLo hHi
          go_region_held3 (fun w' => w'.cell? ⟨w.heap.size, 2, none⟩ = some (.slice (some ⟨bb, oo, none⟩) fy2 fy3) ∧ w'.cell? ⟨bb, oo + k, none⟩ = some (.int .u8 z)) (go_keep) (fail)
          all_goals
            clear e1
            go_wp2
            go_roundw
            case rel => exact ⟨k + 1, by omega, by go_num, by rw [low_snoc HX.out, HLo.out], by rw [high_snoc HX.out, HHi.out], hbel.drew⟩
            case measure => simp [intOf]; omega
        · obtain rfl : k = fy2 := by omega
          rw [List.take_of_length_le (by rw [HL.out]; exact Nat.le_refl _)] at *
          have d2 := (xF.ext hbel).cell 2 rfl
          have p2 := (xp.ext hbel).cell 2 rfl
          have p3 := (xp.ext hbel).cell 3 rfl
          generalize hLo : lowL f.Y = lo at *
          generalize hHi : highL f.Y = hi at *
          clear hLo hHi
          go_wp2
          clear c2 d2 p2 p3 hlt hk
          obtain ⟨wo, rfl⟩ : ∃ wo : World, wo = wr := ⟨_, rfl⟩
          go_loop [10] (fun i => ∃ j : Nat, j ≤ Fy2 ∧ i = .int .i64 j) (fun i => Fy2 - (intOf i).toNat)
          case atStart => exact ⟨0, Nat.zero_le _, rfl⟩
          case round =>
            obtain ⟨j, hj, rfl⟩ := hrel
            have d2 := (xF.ext hbel).cell 2 rfl
            by_cases hlt : j < Fy2
            · obtain ⟨bb, oo, z, rfl, _, hbb, hz, hz0, hz1, hcz⟩ := (hPY.ext hbel).at_ hlt
              have hzz := hc4 z (List.mem_of_getElem? hz)
              have g1 : lo ≤ z := hzz.1
              have g2 : z ≤ hi := hzz.2
              clear hz hzz hc4
              go_wp2
              go_round
              case rel => exact ⟨j + 1, by omega, by go_num⟩
              case measure => simp [intOf]; omega
            · obtain rfl : j = Fy2 := by omega
              go_wp2_with fail
              refine (law_awake _).mono ?_
              rintro e w8 ⟨rfl, hk⟩
              go_wp2_with fail
              go_ret
              exact ⟨rfl, (hB.trans (hbel.mono hB.size)).trans (hk.mono (by have := hB.size; have := hbel.size; omega))⟩
    · have hz := HZ.out n2
      have n3 : (en != 0) = true := by simpa using n2
      subst hz
      go_wp2_with fail
      clear c_xf0 c_xf1 c_xf2 c_xf3 c_xf4 l_xf c_xp0 c_xp1 c_xp2 c_xp3 c_xp4 c_xp5 l_xp
      replace hB := Below.alloc hB hB.size (.cells #[.int .i64 zeroFr.W, .int .i64 zeroFr.H, .slice Fy1 Fy2 Fy3, .slice Fu1 Fu2 Fu3, .slice Fv1 Fv2 Fv3] 24)
      replace hF := IsFr.alloc hF (.cells #[.int .i64 zeroFr.W, .int .i64 zeroFr.H, .slice Fy1 Fy2 Fy3, .slice Fu1 Fu2 Fu3, .slice Fv1 Fv2 Fv3] 24)
      replace hY := Byt.alloc hY (.cells #[.int .i64 zeroFr.W, .int .i64 zeroFr.H, .slice Fy1 Fy2 Fy3, .slice Fu1 Fu2 Fu3, .slice Fv1 Fv2 Fv3] 24)
      replace hP0 := IsFr.alloc hP0 (.cells #[.int .i64 zeroFr.W, .int .i64 zeroFr.H, .slice Fy1 Fy2 Fy3, .slice Fu1 Fu2 Fu3, .slice Fv1 Fv2 Fv3] 24)
      replace hPY := Byt.alloc hPY (.cells #[.int .i64 zeroFr.W, .int .i64 zeroFr.H, .slice Fy1 Fy2 Fy3, .slice Fu1 Fu2 Fu3, .slice Fv1 Fv2 Fv3] 24)
      replace xf := Bx.alloc xf (.cells #[.int .i64 zeroFr.W, .int .i64 zeroFr.H, .slice Fy1 Fy2 Fy3, .slice Fu1 Fu2 Fu3, .slice Fv1 Fv2 Fv3] 24)
      replace xp := Bx.alloc xp (.cells #[.int .i64 zeroFr.W, .int .i64 zeroFr.H, .slice Fy1 Fy2 Fy3, .slice Fu1 Fu2 Fu3, .slice Fv1 Fv2 Fv3] 24)
      have xF := Bx.new w4 24 #[.int .i64 zeroFr.W, .int .i64 zeroFr.H, .slice Fy1 Fy2 Fy3, .slice Fu1 Fu2 Fu3, .slice Fv1 Fv2 Fv3]
      generalize hW : World.alloc w4 (.cells #[.int .i64 zeroFr.W, .int .i64 zeroFr.H, .slice Fy1 Fy2 Fy3, .slice Fu1 Fu2 Fu3, .slice Fv1 Fv2 Fv3] 24) = w5 at *
      clear hW
      have c_xf0 := xf.cell 0 rfl
      have c_xf1 := xf.cell 1 rfl
      have c_xf2 := xf.cell 2 rfl
      have c_xf3 := xf.cell 3 rfl
      have c_xf4 := xf.cell 4 rfl
      have l_xf := xf.lt
      have c_xp0 := xp.cell 0 rfl
      have c_xp1 := xp.cell 1 rfl
      have c_xp2 := xp.cell 2 rfl
      have c_xp3 := xp.cell 3 rfl
      have c_xp4 := xp.cell 4 rfl
      have c_xp5 := xp.cell 5 rfl
      have l_xp := xp.lt
      refine (law_awake _).mono ?_
      rintro e w8 ⟨rfl, hk⟩
      have c0 := (xF.ext hk).cell 0 rfl
      have hW0 : zeroFr.W = 0 := rfl
      go_wp2_with fail
      go_ret
      exact ⟨rfl, hB.trans (hk.mono hB.size)⟩
  · skip
    have h1' : lightB f = false := by simpa using h1
    go_enter Try.func6, Try.ntmps6
    go_wp2_with fail
    refine (law_light (p := p) _ f _ (by (repeat with_reducible apply IsFr.alloc); exact hf0)).mono ?_
    rintro e w1 ⟨rfl, hb1⟩
    have hB : Below w.heap.size w w1 := (((Below.refl _ w).alloc (by simp) _).alloc (by simp) _).trans (hb1.mono (by simp; omega))
    have hF := IsFr.ext ((hf0.alloc _).alloc _) hb1
    replace hY := Byt.ext ((hY.alloc _).alloc _) hb1
    have xf : Bx w1 w.heap.size 24 #[.int .i64 f.W, .int .i64 f.H, .slice fy1 fy2 fy3, .slice fu1 fu2 fu3, .slice fv1 fv2 fv3] := ((Bx.new w _ _).alloc _).ext hb1
    have xp : Bx w1 (w.heap.size + 1) 34 #[.int .i64 x, .int .i64 y, .int .i64 pw, .int .i64 ph, .int .i64 vx, .int .i64 vy] := (Bx.new' _ _ _ _ (by simp)).ext hb1
    clear hb1
    have c_xf0 := xf.cell 0 rfl
    have c_xf1 := xf.cell 1 rfl
    have c_xf2 := xf.cell 2 rfl
    have c_xf3 := xf.cell 3 rfl
    have c_xf4 := xf.cell 4 rfl
    have l_xf := xf.lt
    have c_xp0 := xp.cell 0 rfl
    have c_xp1 := xp.cell 1 rfl
    have c_xp2 := xp.cell 2 rfl
    have c_xp3 := xp.cell 3 rfl
    have c_xp4 := xp.cell 4 rfl
    have c_xp5 := xp.cell 5 rfl
    have l_xp := xp.lt
    go_wp2_with fail
    go_ret
    exact ⟨rfl, hB⟩
end Go.Proofs.Ytaedpadkpclldaa
