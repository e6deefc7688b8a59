/- Predict where the height is 8, with room. -/
import Derived.Test.YtaedpadkpclldaaPredC
namespace Go.Proofs.Ytaedpadkpclldaa
open Go.RowKit

set_option maxHeartbeats 8000000 in
theorem motion_Predict_yes8C {p : Nat → Prop} (v : Value) (W H : Int) (Y U V : List Int) (x y vx vy : Int) (w : World) (hf : IsFr p w v ⟨W, H, Y, U, V⟩)
    (h1 : formedB ⟨W, H, Y, U, V⟩ = true) (hx0 : 0 ≤ x) (hx2 : x % 2 = 0) (hx1 : x ≤ W - 16) (hy0 : 0 ≤ y) (hy2 : y % 2 = 0) (hy1 : y ≤ H - 8) (hv : mayB vx vy = true) :
    Calls Try.prog 15 #[v, .int .i64 x, .int .i64 y, .int .i64 16, .int .i64 8, .agg #[.int .i64 vx, .int .i64 vy]] w (RetFc w (predFr ⟨W, H, Y, U, V⟩ x y 8 vx vy, 0)) := by
  have hf0 := hf
  obtain ⟨ya, yn, yc, ua, un, uc, va, vn, vc, rfl, hy, hu, hv'⟩ := hf
  obtain ⟨k1, k2, k3, k4, k5, k6, k7, k8, k9⟩ := formed_parts h1
  dsimp only at *
  rw [hy.len] at k7
  rw [hu.len] at k8
  rw [hv'.len] at k9
  have KY := Lib.hid k7
  have KU := Lib.hid k8
  have KV := Lib.hid k9
  clear k7 k8 k9
  have hvv : -63 ≤ vx ∧ vx ≤ 63 ∧ -63 ≤ vy ∧ vy ≤ 63 := by simpa [mayB] using hv
  have d1 := tdiv2_bd hvv.1 hvv.2.1
  have d2 := tdiv2_bd hvv.2.2.1 hvv.2.2.2
  go_enter Try.func15, Try.ntmps15
  go_wp2_with fail
  refine (plane_Formed (p := p) _ ⟨W, H, Y, U, V⟩ _ (by (repeat with_reducible apply IsFr.alloc); exact hf0)).mono ?_
  rintro e w1 ⟨rfl, hb1⟩
  obtain ⟨c_w1, z_w1⟩ := bcell hb1
  have s_w1 := hb1.size
  try simp at s_w1
  try simp at c_w1
  try simp at z_w1
  have q_w1_0 : w.heap.size < w1.heap.size := by omega
  have q_w1_1 : w.heap.size + 1 < w1.heap.size := by omega
  have q_w1_2 : w.heap.size + 1 + 1 < w1.heap.size := by omega
  go_wp2_with fail
  refine (motion_inRange vx vy _).mono ?_
  rintro e w2 ⟨rfl, hb2⟩
  obtain ⟨c_w2, z_w2⟩ := bcell hb2
  have s_w2 := hb2.size
  try simp at s_w2
  try simp at c_w2
  try simp at z_w2
  have q_w2_0 : w.heap.size < w2.heap.size := by omega
  have q_w2_1 : w.heap.size + 1 < w2.heap.size := by omega
  have q_w2_2 : w.heap.size + 1 + 1 < w2.heap.size := by omega
  have hby := ((((hy.alloc _).alloc _).alloc _).ext hb1).ext hb2
  have hbu := ((((hu.alloc _).alloc _).alloc _).ext hb1).ext hb2
  have hbv := ((((hv'.alloc _).alloc _).alloc _).ext hb1).ext hb2
  have B0 : Below w.heap.size w w2 := (((((Below.refl _ w).alloc (by simp) _).alloc (by simp) _).alloc (by simp; omega) _).trans (hb1.mono (by simp; omega))).trans (hb2.mono (by omega))
  go_wp2_with fail
  have e1 : IntKind.i64.wrap (W / 2) = W / 2 := IntWalk.i64_in _ (by omega)
  have e2 : IntKind.i64.wrap (H / 2) = H / 2 := IntWalk.i64_in _ (by omega)
  have e3 : W.tdiv 2 = W / 2 := Int.tdiv_eq_ediv_of_nonneg (by omega)
  have e4 : H.tdiv 2 = H / 2 := Int.tdiv_eq_ediv_of_nonneg (by omega)
  have x1 : Bx w2 w.heap.size 24 #[.int .i64 W, .int .i64 H, .slice ya yn yc, .slice ua un uc, .slice va vn vc] := ((((Bx.new _ _ _).alloc _).alloc _).ext hb1).ext hb2
  have x2 : Bx w2 (w.heap.size + 1) 32 #[.int .i64 vx, .int .i64 vy] := (((Bx.new' _ _ _ _ (by simp)).alloc _).ext hb1).ext hb2
  have x3 : Bx w2 (w.heap.size + 1 + 1) 24 #[.int .i64 0, .int .i64 0, .slice none 0 0, .slice none 0 0, .slice none 0 0] := ((Bx.new' _ _ _ _ (by simp)).ext hb1).ext hb2
  have y1 := ((x1.alloc (.cells #[.int .i64 (vx.tdiv 2), .int .i64 (vy.tdiv 2)] 32)).alloc (.cells #[.int .i64 x, .int .i64 y, .int .i64 16, .int .i64 8] 53)).alloc (.cells #[.int .i64 (x / 2), .int .i64 (y / 2), .int .i64 8, .int .i64 4] 53)
  have y2 := ((x2.alloc (.cells #[.int .i64 (vx.tdiv 2), .int .i64 (vy.tdiv 2)] 32)).alloc (.cells #[.int .i64 x, .int .i64 y, .int .i64 16, .int .i64 8] 53)).alloc (.cells #[.int .i64 (x / 2), .int .i64 (y / 2), .int .i64 8, .int .i64 4] 53)
  have y3 := ((x3.alloc (.cells #[.int .i64 (vx.tdiv 2), .int .i64 (vy.tdiv 2)] 32)).alloc (.cells #[.int .i64 x, .int .i64 y, .int .i64 16, .int .i64 8] 53)).alloc (.cells #[.int .i64 (x / 2), .int .i64 (y / 2), .int .i64 8, .int .i64 4] 53)
  have y4 := ((Bx.new w2 32 #[.int .i64 (vx.tdiv 2), .int .i64 (vy.tdiv 2)]).alloc (.cells #[.int .i64 x, .int .i64 y, .int .i64 16, .int .i64 8] 53)).alloc (.cells #[.int .i64 (x / 2), .int .i64 (y / 2), .int .i64 8, .int .i64 4] 53)
  have y5 := (Bx.new' (w2.alloc (.cells #[.int .i64 (vx.tdiv 2), .int .i64 (vy.tdiv 2)] 32)) 53 #[.int .i64 x, .int .i64 y, .int .i64 16, .int .i64 8] (w2.heap.size + 1) (by simp)).alloc (.cells #[.int .i64 (x / 2), .int .i64 (y / 2), .int .i64 8, .int .i64 4] 53)
  have y6 := Bx.new' ((w2.alloc (.cells #[.int .i64 (vx.tdiv 2), .int .i64 (vy.tdiv 2)] 32)).alloc (.cells #[.int .i64 x, .int .i64 y, .int .i64 16, .int .i64 8] 53)) 53 #[.int .i64 (x / 2), .int .i64 (y / 2), .int .i64 8, .int .i64 4] (w2.heap.size + 1 + 1) (by simp)
  have BW := ((B0.alloc (by omega) (.cells #[.int .i64 (vx.tdiv 2), .int .i64 (vy.tdiv 2)] 32)).alloc (by simp; omega) (.cells #[.int .i64 x, .int .i64 y, .int .i64 16, .int .i64 8] 53)).alloc (by simp; omega) (.cells #[.int .i64 (x / 2), .int .i64 (y / 2), .int .i64 8, .int .i64 4] 53)
  generalize hW3 : ((w2.alloc (.cells #[.int .i64 (vx.tdiv 2), .int .i64 (vy.tdiv 2)] 32)).alloc (.cells #[.int .i64 x, .int .i64 y, .int .i64 16, .int .i64 8] 53)).alloc (.cells #[.int .i64 (x / 2), .int .i64 (y / 2), .int .i64 8, .int .i64 4] 53) = wA at *
  clear hW3
  replace hby := hy.ext BW
  replace hbu := hu.ext BW
  replace hbv := hv'.ext BW
  obtain ⟨f0, f1, f2, f3, f4⟩ := y1.cells5
  have f5 := y2.cell 0 rfl
  have f6 := y2.cell 1 rfl
  have f7 := y4.cell 0 rfl
  have f8 := y4.cell 1 rfl
  have f9 := y5.cell 0 rfl
  have fa := y5.cell 1 rfl
  have fb := y5.cell 2 rfl
  have fc := y5.cell 3 rfl
  have fd := y6.cell 0 rfl
  have fe := y6.cell 1 rfl
  have ff := y6.cell 2 rfl
  have fg := y6.cell 3 rfl
  obtain ⟨r0, r1, r2, r3, r4⟩ := y3.cells5
  have t0 := y3.frozen 0
  have t1 := y3.frozen 1
  have t2 := y3.frozen 2
  have t3 := y3.frozen 3
  have t4 := y3.frozen 4
  have q_A_0 := y1.lt
  have q_A_1 := y2.lt
  have q_A_2 := y3.lt
  have q_A_3 := y4.lt
  have q_A_4 := y5.lt
  have q_A_5 := y6.lt
  go_region_held3 (fun w' => w'.cell? ⟨w.heap.size, 0, none⟩ = some (.int .i64 W) ∧ w'.cell? ⟨w.heap.size, 1, none⟩ = some (.int .i64 H) ∧ w'.cell? ⟨w.heap.size, 2, none⟩ = some (.slice ya yn yc) ∧ w'.cell? ⟨w.heap.size, 3, none⟩ = some (.slice ua un uc) ∧ w'.cell? ⟨w.heap.size, 4, none⟩ = some (.slice va vn vc) ∧ w'.cell? ⟨w.heap.size + 1, 0, none⟩ = some (.int .i64 vx) ∧ w'.cell? ⟨w.heap.size + 1, 1, none⟩ = some (.int .i64 vy) ∧ w'.cell? ⟨w2.heap.size, 0, none⟩ = some (.int .i64 (vx.tdiv 2)) ∧ w'.cell? ⟨w2.heap.size, 1, none⟩ = some (.int .i64 (vy.tdiv 2)) ∧ w'.cell? ⟨w2.heap.size + 1, 0, none⟩ = some (.int .i64 x) ∧ w'.cell? ⟨w2.heap.size + 1, 1, none⟩ = some (.int .i64 y) ∧ w'.cell? ⟨w2.heap.size + 1, 2, none⟩ = some (.int .i64 16) ∧ w'.cell? ⟨w2.heap.size + 1, 3, none⟩ = some (.int .i64 8) ∧ w'.cell? ⟨w2.heap.size + 1 + 1, 0, none⟩ = some (.int .i64 (x / 2)) ∧ w'.cell? ⟨w2.heap.size + 1 + 1, 1, none⟩ = some (.int .i64 (y / 2)) ∧ w'.cell? ⟨w2.heap.size + 1 + 1, 2, none⟩ = some (.int .i64 8) ∧ w'.cell? ⟨w2.heap.size + 1 + 1, 3, none⟩ = some (.int .i64 4))
    (first | (refine ⟨?_, ?_, ?_, ?_, ?_, ?_, ?_, ?_, ?_, ?_, ?_, ?_, ?_, ?_, ?_, ?_, ?_⟩ <;> go_simp; done) | go_keep)
    (first
     | (go_at_call 32; ((with_reducible refine (motion_predictC' (p := p) x y W H vx vy 16 8 16 8 ya yn _ Y _ hby.drew rfl rfl KY.out (by omega) (by omega) (by omega) (by omega) (by omega) (by omega) (by omega) (by omega) (by omega) (by omega) (by omega) (by omega) (by omega) (by omega)).mono ?_); rintro e w3 ⟨A3, n3, m3, rfl, hc3, hB3, hb3⟩; have hb3 := undrew hb3; obtain ⟨c_w3, z_w3⟩ := bcell hb3; have s_w3 := hb3.size; have q_3_0 : w.heap.size < w3.heap.size := (by omega); have q_3_1 : w.heap.size + 1 < w3.heap.size := (by omega); have q_3_2 : w.heap.size + 1 + 1 < w3.heap.size := (by omega); have q_3_3 : w2.heap.size < w3.heap.size := (by omega); have q_3_4 : w2.heap.size + 1 < w3.heap.size := (by omega); have q_3_5 : w2.heap.size + 1 + 1 < w3.heap.size := (by omega)))
     | (go_at_call 32; ((with_reducible refine (motion_predictC' (p := p) (x / 2) (y / 2) (W / 2) (H / 2) (vx.tdiv 2) (vy.tdiv 2) 8 4 8 4 ua un _ U _ (hbu.ext hb3) rfl rfl KU.out (by omega) (by omega) (by omega) (by omega) (by omega) (by omega) (by omega) (by omega) (by omega) (by omega) (by omega) (by omega) (by omega) (by omega)).mono ?_); rintro e w4 ⟨A4, n4, m4, rfl, hc4, hB4, hb4⟩; obtain ⟨c_w4, z_w4⟩ := bcell hb4; have q_4_0 : w.heap.size < w4.heap.size := (by have := hb4.size; omega); have q_4_1 : w.heap.size + 1 < w4.heap.size := (by have := hb4.size; omega); have q_4_2 : w.heap.size + 1 + 1 < w4.heap.size := (by have := hb4.size; omega); have q_4_3 : w2.heap.size < w4.heap.size := (by have := hb4.size; omega); have q_4_4 : w2.heap.size + 1 < w4.heap.size := (by have := hb4.size; omega); have q_4_5 : w2.heap.size + 1 + 1 < w4.heap.size := (by have := hb4.size; omega)))
     | (go_at_call 32; ((with_reducible refine (motion_predictC' (p := p) (x / 2) (y / 2) (W / 2) (H / 2) (vx.tdiv 2) (vy.tdiv 2) 8 4 8 4 va vn _ V _ ((hbv.ext hb3).ext hb4) rfl rfl KV.out (by omega) (by omega) (by omega) (by omega) (by omega) (by omega) (by omega) (by omega) (by omega) (by omega) (by omega) (by omega) (by omega) (by omega)).mono ?_); rintro e w5 ⟨A5, n5, m5, rfl, hc5, hB5, hb5⟩; obtain ⟨c_w5, z_w5⟩ := bcell hb5; have q_5_0 : w.heap.size < w5.heap.size := (by have := hb4.size; have := hb5.size; omega); have q_5_1 : w.heap.size + 1 < w5.heap.size := (by have := hb4.size; have := hb5.size; omega); have q_5_2 : w.heap.size + 1 + 1 < w5.heap.size := (by have := hb4.size; have := hb5.size; omega); have q_5_3 : w2.heap.size < w5.heap.size := (by have := hb4.size; have := hb5.size; omega); have q_5_4 : w2.heap.size + 1 < w5.heap.size := (by have := hb4.size; have := hb5.size; omega); have q_5_5 : w2.heap.size + 1 + 1 < w5.heap.size := (by have := hb4.size; have := hb5.size; omega))))
  go_wp2
  have np : ¬ (wA.heap.size ≤ w.heap.size + 1 + 1) := by omega
  have u3 := hb3.size
  have u4 := hb4.size
  have u5 := hb5.size
  have uA := BW.size
  have BZ : Below w.heap.size w w5 := ((BW.trans (hb3.mono (by omega))).trans (hb4.mono (by omega))).trans (hb5.mono (by omega))
  have v3 := ((hB3.ext hb4).ext hb5).mono (q := (wA.heap.size ≤ ·)) (fun b _ h => h)
  have v4 := (hB4.mono (q := (wA.heap.size ≤ ·)) (fun b _ h => by omega)).ext hb5
  have v5 := hB5.mono (q := (wA.heap.size ≤ ·)) (fun b _ h => by omega)
  refine bodyPost_ret (v := .tuple #[.agg #[.int .i64 16, .int .i64 8, .slice A3 n3 m3, .slice A4 n4 m4, .slice A5 n5 m5], .int .i64 0]) (by simp only [results, Try.results15]; go_simp) rfl ⟨_, rfl, CapsOK.mk hc3 hc4 hc5, ⟨A3, n3, m3, A4, n4, m4, A5, n5, m5, rfl, ?_, ?_, ?_⟩, ?_⟩
  · refine Byt.mono (p := (wA.heap.size ≤ ·)) ?_ (fun b _ h => by omega)
    repeat refine Byt.setCell ?_ np _
    exact v3
  · refine Byt.mono (p := (wA.heap.size ≤ ·)) ?_ (fun b _ h => by omega)
    repeat refine Byt.setCell ?_ np _
    exact v4
  · refine Byt.mono (p := (wA.heap.size ≤ ·)) ?_ (fun b _ h => by omega)
    repeat refine Byt.setCell ?_ np _
    exact v5
  · repeat refine Below.setCell ?_ (by simp; omega) _
    exact BZ

end Go.Proofs.Ytaedpadkpclldaa
