/- The law PlaneMetric returns true for every three frames. -/
import Derived.Test.YtcboppldclknjaaPAwake
import Derived.Test.YtcboppldclknjaaDistLaw
namespace Go.Proofs.Ytcboppldclknjaa
open Go.RowKit

theorem IsFr.rngs {p : Nat → Prop} {w : World} {v : Value} {f : Fr} (h : IsFr p w v f) : (∀ x ∈ f.Y, 0 ≤ x ∧ x ≤ 255) ∧ (∀ x ∈ f.U, 0 ≤ x ∧ x ≤ 255) ∧ (∀ x ∈ f.V, 0 ≤ x ∧ x ≤ 255) := by
  obtain ⟨_, _, _, _, _, _, _, _, _, _, hy, hu, hv⟩ := h
  exact ⟨hy.rng, hu.rng, hv.rng⟩

set_option maxHeartbeats 4000000 in
theorem law_PlaneMetric {p p' p'' : Nat → Prop} (v v' v'' : Value) (f g h : Fr) (w : World) (hf : IsFr p w v f) (hg : IsFr p' w v' g) (hh : IsFr p'' w v'' h) :
    Calls Try.prog 6 #[v, v', v''] w fun e w' => e = .returned (.bool true) ∧ Below w.heap.size w w' := by
  have hf0 := hf
  have hg0 := hg
  have hh0 := hh
  have bd1 := distF_bd f g hf.rngs.1 hf.rngs.2.1 hf.rngs.2.2 hg.rngs.1 hg.rngs.2.1 hg.rngs.2.2
  have bd2 := distF_bd g h hg.rngs.1 hg.rngs.2.1 hg.rngs.2.2 hh.rngs.1 hh.rngs.2.1 hh.rngs.2.2
  have tri := Lib.hid (distF_tri f g h)
  have sym := distF_sym g f
  obtain ⟨ya, yn, yc, ua, un, uc, va, vn, vc, rfl, _, _, _⟩ := hf
  obtain ⟨ya', yn', yc', ua', un', uc', va', vn', vc', rfl, _, _, _⟩ := hg
  obtain ⟨yb, ym, yd, ub, um, ud, vb, vm, vd, rfl, _, _, _⟩ := hh
  by_cases h1 : lightB f = true
  · by_cases h2 : lightB g = true
    · by_cases h3 : lightB h = true
      · go_enter Try.func6, Try.ntmps6
        go_wp2_with fail
        refine (law_light (p := p) _ f _ (by (repeat with_reducible apply IsFr.alloc); exact hf0)).mono ?_
        rintro e w1 ⟨rfl, hb1⟩
        have hB1 : Below w.heap.size w w1 := ((((Below.refl _ w).alloc (by simp) _).alloc (by simp) _).alloc (by simp; omega) _).trans (hb1.mono (by simp; omega))
        have xf1 : Bx w1 w.heap.size 24 #[.int .i64 f.W, .int .i64 f.H, .slice ya yn yc, .slice ua un uc, .slice va vn vc] := (((Bx.new w _ _).alloc _).alloc _).ext hb1
        have xg1 : Bx w1 (w.heap.size + 1) 24 #[.int .i64 g.W, .int .i64 g.H, .slice ya' yn' yc', .slice ua' un' uc', .slice va' vn' vc'] := ((Bx.new' _ _ _ _ (by simp)).alloc _).ext hb1
        have xh1 : Bx w1 (w.heap.size + 1 + 1) 24 #[.int .i64 h.W, .int .i64 h.H, .slice yb ym yd, .slice ub um ud, .slice vb vm vd] := (Bx.new' _ _ _ _ (by simp)).ext hb1
        have hf1 := IsFr.ext (((hf0.alloc _).alloc _).alloc _) hb1
        have hg1 := IsFr.ext (((hg0.alloc _).alloc _).alloc _) hb1
        have hh1 := IsFr.ext (((hh0.alloc _).alloc _).alloc _) hb1
        obtain ⟨f10, f11, f12, f13, f14⟩ := Bx.cells5 xf1
        obtain ⟨g10, g11, g12, g13, g14⟩ := Bx.cells5 xg1
        obtain ⟨h10, h11, h12, h13, h14⟩ := Bx.cells5 xh1
        clear hb1
        go_wp2_with fail
        refine (law_light (p := p') _ g _ hg1).mono ?_
        rintro e w2 ⟨rfl, hk⟩
        have hB2 := Below.trans hB1 (Below.mono hk hB1.size)
        have hf2 := IsFr.ext hf1 hk
        have xf2 := Bx.ext xf1 hk
        have hg2 := IsFr.ext hg1 hk
        have xg2 := Bx.ext xg1 hk
        have hh2 := IsFr.ext hh1 hk
        have xh2 := Bx.ext xh1 hk
        clear f10 f11 f12 f13 f14 g10 g11 g12 g13 g14 h10 h11 h12 h13 h14
        obtain ⟨f20, f21, f22, f23, f24⟩ := Bx.cells5 xf2
        obtain ⟨g20, g21, g22, g23, g24⟩ := Bx.cells5 xg2
        obtain ⟨h20, h21, h22, h23, h24⟩ := Bx.cells5 xh2
        clear hk
        go_wp2_with fail
        refine (law_light (p := p'') _ h _ hh2).mono ?_
        rintro e w3 ⟨rfl, hk⟩
        have hB3 := Below.trans hB2 (Below.mono hk hB2.size)
        have hf3 := IsFr.ext hf2 hk
        have xf3 := Bx.ext xf2 hk
        have hg3 := IsFr.ext hg2 hk
        have xg3 := Bx.ext xg2 hk
        have hh3 := IsFr.ext hh2 hk
        have xh3 := Bx.ext xh2 hk
        clear f20 f21 f22 f23 f24 g20 g21 g22 g23 g24 h20 h21 h22 h23 h24
        obtain ⟨f30, f31, f32, f33, f34⟩ := Bx.cells5 xf3
        obtain ⟨g30, g31, g32, g33, g34⟩ := Bx.cells5 xg3
        obtain ⟨h30, h31, h32, h33, h34⟩ := Bx.cells5 xh3
        clear hk
        go_wp2_with fail
        go_region_held3 (fun w' => w'.cell? ⟨w.heap.size, 0, none⟩ = some (.int .i64 f.W) ∧ w'.cell? ⟨w.heap.size, 1, none⟩ = some (.int .i64 f.H) ∧ w'.cell? ⟨w.heap.size, 2, none⟩ = some (.slice ya yn yc) ∧ w'.cell? ⟨w.heap.size, 3, none⟩ = some (.slice ua un uc) ∧ w'.cell? ⟨w.heap.size, 4, none⟩ = some (.slice va vn vc) ∧ w'.cell? ⟨w.heap.size + 1, 0, none⟩ = some (.int .i64 g.W) ∧ w'.cell? ⟨w.heap.size + 1, 1, none⟩ = some (.int .i64 g.H) ∧ w'.cell? ⟨w.heap.size + 1, 2, none⟩ = some (.slice ya' yn' yc') ∧ w'.cell? ⟨w.heap.size + 1, 3, none⟩ = some (.slice ua' un' uc') ∧ w'.cell? ⟨w.heap.size + 1, 4, none⟩ = some (.slice va' vn' vc') ∧ w'.cell? ⟨w.heap.size + 1 + 1, 0, none⟩ = some (.int .i64 h.W) ∧ w'.cell? ⟨w.heap.size + 1 + 1, 1, none⟩ = some (.int .i64 h.H) ∧ w'.cell? ⟨w.heap.size + 1 + 1, 2, none⟩ = some (.slice yb ym yd) ∧ w'.cell? ⟨w.heap.size + 1 + 1, 3, none⟩ = some (.slice ub um ud) ∧ w'.cell? ⟨w.heap.size + 1 + 1, 4, none⟩ = some (.slice vb vm vd))
          (go_keep)
          (first
           | (go_at_call 24; ((with_reducible refine (plane_Distance (p := p) (p' := p') _ _ f g _ (IsFr.drew hf3) (IsFr.drew hg3)).mono ?_); rintro e w4 ⟨rfl, hk⟩; have hk := undrew hk; have hB4 := Below.trans hB3 (Below.mono hk hB3.size); have hf4 := IsFr.ext hf3 hk; have xf4 := Bx.ext xf3 hk; have hg4 := IsFr.ext hg3 hk; have xg4 := Bx.ext xg3 hk; have hh4 := IsFr.ext hh3 hk; have xh4 := Bx.ext xh3 hk; obtain ⟨f40, f41, f42, f43, f44⟩ := Bx.cells5 xf4; obtain ⟨g40, g41, g42, g43, g44⟩ := Bx.cells5 xg4; obtain ⟨h40, h41, h42, h43, h44⟩ := Bx.cells5 xh4; clear hk))
           | (go_at_call 24; ((with_reducible refine (plane_Distance (p := p') (p' := p'') _ _ g h _ hg4 hh4).mono ?_); rintro e w5 ⟨rfl, hk⟩; have hB5 := Below.trans hB4 (Below.mono hk hB4.size); have hf5 := IsFr.ext hf4 hk; have xf5 := Bx.ext xf4 hk; have hg5 := IsFr.ext hg4 hk; have xg5 := Bx.ext xg4 hk; have hh5 := IsFr.ext hh4 hk; have xh5 := Bx.ext xh4 hk; obtain ⟨f50, f51, f52, f53, f54⟩ := Bx.cells5 xf5; obtain ⟨g50, g51, g52, g53, g54⟩ := Bx.cells5 xg5; obtain ⟨h50, h51, h52, h53, h54⟩ := Bx.cells5 xh5; clear hk))
           | (go_at_call 24; ((with_reducible refine (plane_Distance (p := p) (p' := p'') _ _ f h _ hf5 hh5).mono ?_); rintro e w6 ⟨rfl, hk⟩; have hB6 := Below.trans hB5 (Below.mono hk hB5.size); have hf6 := IsFr.ext hf5 hk; have xf6 := Bx.ext xf5 hk; have hg6 := IsFr.ext hg5 hk; have xg6 := Bx.ext xg5 hk; have hh6 := IsFr.ext hh5 hk; have xh6 := Bx.ext xh5 hk; obtain ⟨f60, f61, f62, f63, f64⟩ := Bx.cells5 xf6; obtain ⟨g60, g61, g62, g63, g64⟩ := Bx.cells5 xg6; obtain ⟨h60, h61, h62, h63, h64⟩ := Bx.cells5 xh6; clear hk)))
        go_wp2_with fail
        refine (plane_Distance (p := p') (p' := p) _ _ g f _ hg6 hf6).mono ?_
        rintro e w7 ⟨rfl, hk⟩
        have hB7 := Below.trans hB6 (Below.mono hk hB6.size)
        have hf7 := IsFr.ext hf6 hk
        have xf7 := Bx.ext xf6 hk
        have hg7 := IsFr.ext hg6 hk
        have xg7 := Bx.ext xg6 hk
        have hh7 := IsFr.ext hh6 hk
        have xh7 := Bx.ext xh6 hk
        clear f60 f61 f62 f63 f64 g60 g61 g62 g63 g64 h60 h61 h62 h63 h64
        obtain ⟨f70, f71, f72, f73, f74⟩ := Bx.cells5 xf7
        obtain ⟨g70, g71, g72, g73, g74⟩ := Bx.cells5 xg7
        obtain ⟨h70, h71, h72, h73, h74⟩ := Bx.cells5 xh7
        clear hk
        go_wp2_with fail
        refine (plane_Same (p := p) (p' := p') _ _ f g _ hf7 hg7).mono ?_
        rintro e w8 ⟨rfl, hk⟩
        have hB8 := Below.trans hB7 (Below.mono hk hB7.size)
        have hf8 := IsFr.ext hf7 hk
        have xf8 := Bx.ext xf7 hk
        have hg8 := IsFr.ext hg7 hk
        have xg8 := Bx.ext xg7 hk
        have hh8 := IsFr.ext hh7 hk
        have xh8 := Bx.ext xh7 hk
        clear f70 f71 f72 f73 f74 g70 g71 g72 g73 g74 h70 h71 h72 h73 h74
        obtain ⟨f80, f81, f82, f83, f84⟩ := Bx.cells5 xf8
        obtain ⟨g80, g81, g82, g83, g84⟩ := Bx.cells5 xg8
        obtain ⟨h80, h81, h82, h83, h84⟩ := Bx.cells5 xh8
        clear hk
        go_wp2_with fail
        refine (plane_awake _).mono ?_
        rintro e w9 ⟨rfl, hk⟩
        have hB9 := Below.trans hB8 (Below.mono hk hB8.size)
        by_cases n1 : distF f g < 0
        · have n1' : decide (distF f g < 0) = true := by simpa using n1
          go_wp2_with fail
          go_ret
          exact ⟨rfl, hB9⟩
        · by_cases n2 : distF g h < 0
          · have n1' : decide (distF f g < 0) = false := by simpa using n1
            have n2' : decide (distF g h < 0) = true := by simpa using n2
            go_wp2_with fail
            go_ret
            exact ⟨rfl, hB9⟩
          · have n3 := tri.out (by omega) (by omega)
            have n1' : decide (distF f g < 0) = false := by simpa using n1
            have n2' : decide (distF g h < 0) = false := by simpa using n2
            go_wp2_with fail
            all_goals
              go_ret
              exact ⟨rfl, hB9⟩
      · have h3' : lightB h = false := by simpa using h3
        go_enter Try.func6, Try.ntmps6
        go_wp2_with fail
        refine (law_light (p := p) _ f _ (by (repeat with_reducible apply IsFr.alloc); exact hf0)).mono ?_
        rintro e w1 ⟨rfl, hb1⟩
        have hB1 : Below w.heap.size w w1 := ((((Below.refl _ w).alloc (by simp) _).alloc (by simp) _).alloc (by simp; omega) _).trans (hb1.mono (by simp; omega))
        have xf1 : Bx w1 w.heap.size 24 #[.int .i64 f.W, .int .i64 f.H, .slice ya yn yc, .slice ua un uc, .slice va vn vc] := (((Bx.new w _ _).alloc _).alloc _).ext hb1
        have xg1 : Bx w1 (w.heap.size + 1) 24 #[.int .i64 g.W, .int .i64 g.H, .slice ya' yn' yc', .slice ua' un' uc', .slice va' vn' vc'] := ((Bx.new' _ _ _ _ (by simp)).alloc _).ext hb1
        have xh1 : Bx w1 (w.heap.size + 1 + 1) 24 #[.int .i64 h.W, .int .i64 h.H, .slice yb ym yd, .slice ub um ud, .slice vb vm vd] := (Bx.new' _ _ _ _ (by simp)).ext hb1
        have hf1 := IsFr.ext (((hf0.alloc _).alloc _).alloc _) hb1
        have hg1 := IsFr.ext (((hg0.alloc _).alloc _).alloc _) hb1
        have hh1 := IsFr.ext (((hh0.alloc _).alloc _).alloc _) hb1
        obtain ⟨f10, f11, f12, f13, f14⟩ := Bx.cells5 xf1
        obtain ⟨g10, g11, g12, g13, g14⟩ := Bx.cells5 xg1
        obtain ⟨h10, h11, h12, h13, h14⟩ := Bx.cells5 xh1
        clear hb1
        go_wp2_with fail
        refine (law_light (p := p') _ g _ hg1).mono ?_
        rintro e w2 ⟨rfl, hk⟩
        have hB2 := Below.trans hB1 (Below.mono hk hB1.size)
        have hf2 := IsFr.ext hf1 hk
        have xf2 := Bx.ext xf1 hk
        have hg2 := IsFr.ext hg1 hk
        have xg2 := Bx.ext xg1 hk
        have hh2 := IsFr.ext hh1 hk
        have xh2 := Bx.ext xh1 hk
        clear f10 f11 f12 f13 f14 g10 g11 g12 g13 g14 h10 h11 h12 h13 h14
        obtain ⟨f20, f21, f22, f23, f24⟩ := Bx.cells5 xf2
        obtain ⟨g20, g21, g22, g23, g24⟩ := Bx.cells5 xg2
        obtain ⟨h20, h21, h22, h23, h24⟩ := Bx.cells5 xh2
        clear hk
        go_wp2_with fail
        refine (law_light (p := p'') _ h _ hh2).mono ?_
        rintro e w3 ⟨rfl, hk⟩
        have hB3 := Below.trans hB2 (Below.mono hk hB2.size)
        have hf3 := IsFr.ext hf2 hk
        have xf3 := Bx.ext xf2 hk
        have hg3 := IsFr.ext hg2 hk
        have xg3 := Bx.ext xg2 hk
        have hh3 := IsFr.ext hh2 hk
        have xh3 := Bx.ext xh2 hk
        clear f20 f21 f22 f23 f24 g20 g21 g22 g23 g24 h20 h21 h22 h23 h24
        obtain ⟨f30, f31, f32, f33, f34⟩ := Bx.cells5 xf3
        obtain ⟨g30, g31, g32, g33, g34⟩ := Bx.cells5 xg3
        obtain ⟨h30, h31, h32, h33, h34⟩ := Bx.cells5 xh3
        clear hk
        go_wp2_with fail
        go_ret
        exact ⟨rfl, hB3⟩
    · have h2' : lightB g = false := by simpa using h2
      go_enter Try.func6, Try.ntmps6
      go_wp2_with fail
      refine (law_light (p := p) _ f _ (by (repeat with_reducible apply IsFr.alloc); exact hf0)).mono ?_
      rintro e w1 ⟨rfl, hb1⟩
      have hB1 : Below w.heap.size w w1 := ((((Below.refl _ w).alloc (by simp) _).alloc (by simp) _).alloc (by simp; omega) _).trans (hb1.mono (by simp; omega))
      have xf1 : Bx w1 w.heap.size 24 #[.int .i64 f.W, .int .i64 f.H, .slice ya yn yc, .slice ua un uc, .slice va vn vc] := (((Bx.new w _ _).alloc _).alloc _).ext hb1
      have xg1 : Bx w1 (w.heap.size + 1) 24 #[.int .i64 g.W, .int .i64 g.H, .slice ya' yn' yc', .slice ua' un' uc', .slice va' vn' vc'] := ((Bx.new' _ _ _ _ (by simp)).alloc _).ext hb1
      have xh1 : Bx w1 (w.heap.size + 1 + 1) 24 #[.int .i64 h.W, .int .i64 h.H, .slice yb ym yd, .slice ub um ud, .slice vb vm vd] := (Bx.new' _ _ _ _ (by simp)).ext hb1
      have hf1 := IsFr.ext (((hf0.alloc _).alloc _).alloc _) hb1
      have hg1 := IsFr.ext (((hg0.alloc _).alloc _).alloc _) hb1
      have hh1 := IsFr.ext (((hh0.alloc _).alloc _).alloc _) hb1
      obtain ⟨f10, f11, f12, f13, f14⟩ := Bx.cells5 xf1
      obtain ⟨g10, g11, g12, g13, g14⟩ := Bx.cells5 xg1
      obtain ⟨h10, h11, h12, h13, h14⟩ := Bx.cells5 xh1
      clear hb1
      go_wp2_with fail
      refine (law_light (p := p') _ g _ hg1).mono ?_
      rintro e w2 ⟨rfl, hk⟩
      have hB2 := Below.trans hB1 (Below.mono hk hB1.size)
      have hf2 := IsFr.ext hf1 hk
      have xf2 := Bx.ext xf1 hk
      have hg2 := IsFr.ext hg1 hk
      have xg2 := Bx.ext xg1 hk
      have hh2 := IsFr.ext hh1 hk
      have xh2 := Bx.ext xh1 hk
      clear f10 f11 f12 f13 f14 g10 g11 g12 g13 g14 h10 h11 h12 h13 h14
      obtain ⟨f20, f21, f22, f23, f24⟩ := Bx.cells5 xf2
      obtain ⟨g20, g21, g22, g23, g24⟩ := Bx.cells5 xg2
      obtain ⟨h20, h21, h22, h23, h24⟩ := Bx.cells5 xh2
      clear hk
      go_wp2_with fail
      go_ret
      exact ⟨rfl, hB2⟩
  · have h1' : lightB f = false := by simpa using h1
    go_enter Try.func6, Try.ntmps6
    go_wp2_with fail
    refine (law_light (p := p) _ f _ (by (repeat with_reducible apply IsFr.alloc); exact hf0)).mono ?_
    rintro e w1 ⟨rfl, hb1⟩
    have hB1 : Below w.heap.size w w1 := ((((Below.refl _ w).alloc (by simp) _).alloc (by simp) _).alloc (by simp; omega) _).trans (hb1.mono (by simp; omega))
    have xf1 : Bx w1 w.heap.size 24 #[.int .i64 f.W, .int .i64 f.H, .slice ya yn yc, .slice ua un uc, .slice va vn vc] := (((Bx.new w _ _).alloc _).alloc _).ext hb1
    have xg1 : Bx w1 (w.heap.size + 1) 24 #[.int .i64 g.W, .int .i64 g.H, .slice ya' yn' yc', .slice ua' un' uc', .slice va' vn' vc'] := ((Bx.new' _ _ _ _ (by simp)).alloc _).ext hb1
    have xh1 : Bx w1 (w.heap.size + 1 + 1) 24 #[.int .i64 h.W, .int .i64 h.H, .slice yb ym yd, .slice ub um ud, .slice vb vm vd] := (Bx.new' _ _ _ _ (by simp)).ext hb1
    have hf1 := IsFr.ext (((hf0.alloc _).alloc _).alloc _) hb1
    have hg1 := IsFr.ext (((hg0.alloc _).alloc _).alloc _) hb1
    have hh1 := IsFr.ext (((hh0.alloc _).alloc _).alloc _) hb1
    obtain ⟨f10, f11, f12, f13, f14⟩ := Bx.cells5 xf1
    obtain ⟨g10, g11, g12, g13, g14⟩ := Bx.cells5 xg1
    obtain ⟨h10, h11, h12, h13, h14⟩ := Bx.cells5 xh1
    clear hb1
    go_wp2_with fail
    go_ret
    exact ⟨rfl, hB1⟩
end Go.Proofs.Ytcboppldclknjaa
