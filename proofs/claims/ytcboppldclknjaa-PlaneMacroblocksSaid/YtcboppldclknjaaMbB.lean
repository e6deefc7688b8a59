/- The contract of plane.Macroblock. -/
import Derived.Test.YtcboppldclknjaaMbA
namespace Go.Proofs.Ytcboppldclknjaa
open Go.RowKit

theorem Bx.cells4 {w : World} {g : Nat} {t : TypeId} {a0 a1 a2 a3 : Value} (h : Bx w g t #[a0, a1, a2, a3]) :
    w.cell? ⟨g, 0, none⟩ = some a0 ∧ w.cell? ⟨g, 1, none⟩ = some a1 ∧ w.cell? ⟨g, 2, none⟩ = some a2 ∧ w.cell? ⟨g, 3, none⟩ = some a3 :=
  ⟨h.cell 0 rfl, h.cell 1 rfl, h.cell 2 rfl, h.cell 3 rfl⟩
set_option maxHeartbeats 8000000 in
theorem plane_Macroblock_yes {p : Nat → Prop} (v : Value) (f : Fr) (mx my a b : Nat) (w : World) (hf : IsFr p w v f) (hc : CapsOK v) (hh : hasB f mx my = true)
    (hW : f.W = ((16 * a : Nat) : Int)) (ha : a ≤ 4) (hx : mx < a) (hb : b ≤ 4) (hyb : my < b) (lY : f.Y.length = (16 * b) * (16 * a)) (lU : f.U.length = (8 * b) * (8 * a)) (lV : f.V.length = (8 * b) * (8 * a)) :
    Calls Try.prog 35 #[v, .int .i64 mx, .int .i64 my] w (RetFc w (mbF f mx my, 0)) := by
  have hf0 := hf
  obtain ⟨ya, yn, yc, ua, un, uc, va, vn, vc, rfl, hy, hu, hv⟩ := hf
  obtain ⟨hc1, hc2, hc3⟩ := hc.out
  obtain ⟨hfY, hfC⟩ := mb_fit hx hyb
  rw [← lY, hy.len] at hfY
  have hfV := hfC
  rw [← lU, hu.len] at hfC
  rw [← lV, hv.len] at hfV
  have hle := mb_le hx ha (show my < 4 by omega)
  have hWn : f.W.toNat = 16 * a := by omega
  have hmb : mbF f mx my = ⟨16, 16, cutL f.Y (mbL (16 * a) mx my) (16 * a) 16 16, cutL f.U (mbC (16 * a) mx my) (16 * a / 2) 8 8, cutL f.V (mbC (16 * a) mx my) (16 * a / 2) 8 8⟩ := by unfold mbF; rw [hWn]
  rw [hmb]
  obtain ⟨cw, hcw⟩ : ∃ cw, cw = 16 * a := ⟨_, rfl⟩
  rw [← hcw] at hfY hfC hfV hle ⊢
  have hWc : f.W = (cw : Int) := by omega
  have hcw2 : cw ≤ 64 := by omega
  obtain ⟨fl, hfl⟩ : ∃ fl, fl = mbL cw mx my := ⟨_, rfl⟩
  obtain ⟨fc, hfc⟩ : ∃ fc, fc = mbC cw mx my := ⟨_, rfl⟩
  obtain ⟨hw, hhw⟩ : ∃ hw, hw = cw / 2 := ⟨_, rfl⟩
  have hmac := fun w => plane_macroblockN cw mx my fl fc hw w hcw2 (by omega) (by omega) hfl hfc hhw
  rw [← hfl, ← hfc, ← hhw]
  rw [← hfl] at hfY hle
  rw [← hfc] at hfC hfV hle
  rw [← hhw] at hfC hfV
  rw [hWc] at hf0 ⊢
  have HMA := Lib.hid hmac
  have HFY := Lib.hid hfY
  have HFC := Lib.hid hfC
  have HFV := Lib.hid hfV
  have HF := Lib.hid hf0
  obtain ⟨hle1, hle2⟩ := hle
  have hhw2 : hw ≤ 64 := by omega
  clear lY lU lV hW hWn hcw hWc hfl hfc hhw hmac hfY hfC hfV hf0 hmb
  go_enter Try.func35, Try.ntmps35
  go_wp2_with fail
  refine (plane_has (p := p) _ f _ _ _ (by (repeat with_reducible apply IsFr.alloc); exact HF.out)).mono ?_
  rintro e w1 ⟨rfl, hb1⟩
  have B1 : Below w.heap.size w w1 := (((Below.refl _ w).alloc (by simp) _).alloc (by simp) _).trans (hb1.mono (by simp; omega))
  have x1 : Bx w1 w.heap.size 24 #[.int .i64 cw, .int .i64 f.H, .slice ya yn yc, .slice ua un uc, .slice va vn vc] := ((Bx.new w _ _).alloc _).ext hb1
  have y1 : Bx w1 (w.heap.size + 1) 24 #[.int .i64 0, .int .i64 0, .slice none 0 0, .slice none 0 0, .slice none 0 0] := (Bx.new' _ _ _ _ (by simp)).ext hb1
  clear hb1
  obtain ⟨c0, c1, c2, c3, c4⟩ := x1.cells5
  have hls := y1.lt
  go_wp2_with fail
  clear c0 c1 c2 c3 c4
  refine (HMA.out _).mono ?_
  rintro e w2 ⟨rfl, hb2⟩
  have B2 := B1.trans (hb2.mono B1.size)
  have x2 := x1.ext hb2
  have y2 := y1.ext hb2
  have zz := hb2.size
  clear hb2 x1 y1 B1
  go_upto_region 4 with fail
  have x3 := (x2.alloc (.cells #[.int .i64 fl, .int .i64 cw, .int .i64 16, .int .i64 16] 61)).alloc (.cells #[.int .i64 fc, .int .i64 hw, .int .i64 8, .int .i64 8] 61)
  have y3 := (y2.alloc (.cells #[.int .i64 fl, .int .i64 cw, .int .i64 16, .int .i64 16] 61)).alloc (.cells #[.int .i64 fc, .int .i64 hw, .int .i64 8, .int .i64 8] 61)
  have l3 := (Bx.new w2 61 #[.int .i64 fl, .int .i64 cw, .int .i64 16, .int .i64 16]).alloc (.cells #[.int .i64 fc, .int .i64 hw, .int .i64 8, .int .i64 8] 61)
  have m3 := Bx.new' (w2.alloc (.cells #[.int .i64 fl, .int .i64 cw, .int .i64 16, .int .i64 16] 61)) 61 #[.int .i64 fc, .int .i64 hw, .int .i64 8, .int .i64 8] (w2.heap.size + 1) (by simp)
  have B3 := (B2.alloc B2.size (.cells #[.int .i64 fl, .int .i64 cw, .int .i64 16, .int .i64 16] 61)).alloc (by have := B2.size; simp; omega) (.cells #[.int .i64 fc, .int .i64 hw, .int .i64 8, .int .i64 8] 61)
  generalize (w2.alloc (.cells #[.int .i64 fl, .int .i64 cw, .int .i64 16, .int .i64 16] 61)).alloc (.cells #[.int .i64 fc, .int .i64 hw, .int .i64 8, .int .i64 8] 61) = wA at *
  have lx2 := x2.lt
  have ly2 := y2.lt
  generalize w2.heap.size = ga at *
  clear x2 y2 B2
  have hyA := hy.ext B3
  have huA := hu.ext B3
  have hvA := hv.ext B3
  obtain ⟨c0, c1, c2, c3, c4⟩ := x3.cells5
  obtain ⟨d0, d1, d2, d3, d4⟩ := y3.cells5
  obtain ⟨i0, i1, i2, i3⟩ := l3.cells4
  obtain ⟨j0, j1, j2, j3⟩ := m3.cells4
  have t0 := y3.frozen 0
  have t1 := y3.frozen 1
  have t2 := y3.frozen 2
  have t3 := y3.frozen 3
  have t4 := y3.frozen 4
  have q0 := x3.lt
  have q1 := y3.lt
  have q2 := l3.lt
  have q3 := m3.lt
  go_region_held3 (fun w' => w'.cell? ⟨w.heap.size, 2, none⟩ = some (.slice ya yn yc) ∧ w'.cell? ⟨w.heap.size, 3, none⟩ = some (.slice ua un uc) ∧ w'.cell? ⟨w.heap.size, 4, none⟩ = some (.slice va vn vc) ∧ w'.cell? ⟨ga, 0, none⟩ = some (.int .i64 fl) ∧ w'.cell? ⟨ga, 1, none⟩ = some (.int .i64 cw) ∧ w'.cell? ⟨ga, 2, none⟩ = some (.int .i64 16) ∧ w'.cell? ⟨ga, 3, none⟩ = some (.int .i64 16) ∧ w'.cell? ⟨ga + 1, 0, none⟩ = some (.int .i64 fc) ∧ w'.cell? ⟨ga + 1, 1, none⟩ = some (.int .i64 hw) ∧ w'.cell? ⟨ga + 1, 2, none⟩ = some (.int .i64 8) ∧ w'.cell? ⟨ga + 1, 3, none⟩ = some (.int .i64 8))
    (first | (refine ⟨?_, ?_, ?_, ?_, ?_, ?_, ?_, ?_, ?_, ?_, ?_⟩ <;> go_simp; done) | go_keep)
    (first
     | (go_at_call 47; ((with_reducible refine (plane_cut16 (p := p) ya yn yc fl cw f.Y _ hyA.drew hc1 (by omega) (by omega) HFY.out).mono ?_); rintro e w4 ⟨A4, n4, m4, rfl, hcp4, hB4, hb4⟩; have hb4 : Below wA.heap.size wA w4 := (by first | exact undrew (undrew hb4) | exact undrew hb4); obtain ⟨c_w4, z_w4⟩ := bcell hb4; have s_w4 := hb4.size; have q_4_0 : w.heap.size < w4.heap.size := (by omega); have q_4_1 : w.heap.size + 1 < w4.heap.size := (by omega); have q_4_2 : ga < w4.heap.size := (by omega); have q_4_3 : ga + 1 < w4.heap.size := (by omega)))
     | (go_at_call 47; ((with_reducible refine (plane_cut08 (p := p) ua un uc fc hw f.U _ (huA.ext hb4) hc2 (by omega) (by omega) HFC.out).mono ?_); rintro e w5 ⟨A5, n5, m5, rfl, hcp5, hB5, hb5⟩; obtain ⟨c_w5, z_w5⟩ := bcell hb5; have s_w5 := hb5.size; have q_5_0 : w.heap.size < w5.heap.size := (by omega); have q_5_1 : w.heap.size + 1 < w5.heap.size := (by omega); have q_5_2 : ga < w5.heap.size := (by omega); have q_5_3 : ga + 1 < w5.heap.size := (by omega)))
     | (go_at_call 47; ((with_reducible refine (plane_cut08 (p := p) va vn vc fc hw f.V _ ((hvA.ext hb4).ext hb5) hc3 (by omega) (by omega) HFV.out).mono ?_); rintro e w6 ⟨A6, n6, m6, rfl, hcp6, hB6, hb6⟩; obtain ⟨c_w6, z_w6⟩ := bcell hb6; have s_w6 := hb6.size; have q_6_0 : w.heap.size < w6.heap.size := (by omega); have q_6_1 : w.heap.size + 1 < w6.heap.size := (by omega))))
  go_wp2
  have np : ¬ (wA.heap.size ≤ w.heap.size + 1) := by omega
  have uA := B3.size
  have BZ : Below w.heap.size w w6 := ((B3.trans (hb4.mono (by omega))).trans (hb5.mono (by omega))).trans (hb6.mono (by omega))
  have v4 := ((hB4.ext hb5).ext hb6).mono (q := (wA.heap.size ≤ ·)) (fun b _ h => h)
  have v5 := (hB5.mono (q := (wA.heap.size ≤ ·)) (fun b _ h => by omega)).ext hb6
  have v6 := hB6.mono (q := (wA.heap.size ≤ ·)) (fun b _ h => by omega)
  refine bodyPost_ret (v := .tuple #[.agg #[.int .i64 16, .int .i64 16, .slice A4 n4 m4, .slice A5 n5 m5, .slice A6 n6 m6], .int .i64 0]) (by simp only [results, Try.results35]; go_simp) rfl ⟨_, rfl, CapsOK.mk hcp4 hcp5 hcp6, ⟨A4, n4, m4, A5, n5, m5, A6, n6, m6, rfl, ?_, ?_, ?_⟩, ?_⟩
  · refine Byt.mono (p := (wA.heap.size ≤ ·)) ?_ (fun b _ h => by omega)
    repeat refine Byt.setCell ?_ np _
    exact v4
  · refine Byt.mono (p := (wA.heap.size ≤ ·)) ?_ (fun b _ h => by omega)
    repeat refine Byt.setCell ?_ np _
    exact v5
  · refine Byt.mono (p := (wA.heap.size ≤ ·)) ?_ (fun b _ h => by omega)
    repeat refine Byt.setCell ?_ np _
    exact v6
  ·
    repeat (first | (with_reducible exact BZ) | (with_reducible refine Below.setCell ?_ (by first | (simp; done) | (simp; omega)) _) | (with_reducible refine Below.alloc ?_ (by first | (simp; done) | (simp; omega)) _) | (with_reducible refine Below.drew ?_))
end Go.Proofs.Ytcboppldclknjaa
