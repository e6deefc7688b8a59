/- The law PlaneDistance returns true for every two frames. -/
import Derived.Test.YtcboppldclknjaaPAwake
import Derived.Test.YtcboppldclknjaaDistLaw
namespace Go.Proofs.Ytcboppldclknjaa
open Go.RowKit

set_option maxHeartbeats 4000000 in
theorem law_PlaneDistance {p p' : Nat → Prop} (v v' : Value) (f g : Fr) (w : World) (hf : IsFr p w v f) (hg : IsFr p' w v' g) :
    Calls Try.prog 5 #[v, v'] w fun e w' => e = .returned (.bool true) ∧ Below w.heap.size w w' := by
  have hf0 := hf
  have hg0 := hg
  have hz := distF_zero f g
  obtain ⟨ya, yn, yc, ua, un, uc, va, vn, vc, rfl, hy, hu, hv⟩ := hf
  obtain ⟨ya', yn', yc', ua', un', uc', va', vn', vc', rfl, hy', hu', hv'⟩ := hg
  clear hy hu hv hy' hu' hv'
  by_cases h1 : lightB f = true
  · by_cases h2 : lightB g = true
    · by_cases k1 : formedB f = true
      · by_cases k2 : formedB g = true
        · rw [k1, k2, Bool.and_self, Bool.true_and] at hz
          go_enter Try.func5, Try.ntmps5
          go_wp2_with fail
          refine (law_light (p := p) _ f _ (by (repeat with_reducible apply IsFr.alloc); exact hf0)).mono ?_
          rintro e w1 ⟨rfl, hb1⟩
          obtain ⟨c_w1, z_w1⟩ := bcell hb1
          have s_w1 := hb1.size
          try simp at s_w1
          try simp at c_w1
          try simp at z_w1
          have q_w1_0 : w.heap.size < w1.heap.size := by omega
          have q_w1_1 : w.heap.size + 1 < w1.heap.size := by omega
          go_wp2_with fail
          refine (law_light (p := p') _ g _ (IsFr.ext ((hg0.alloc _).alloc _) hb1)).mono ?_
          rintro e w2 ⟨rfl, hb2⟩
          have B2 : Below w.heap.size w w2 := ((((Below.refl _ w).alloc (by simp) _).alloc (by simp) _).trans (hb1.mono (by simp; omega))).trans (hb2.mono (by omega))
          have hf2 := IsFr.ext (IsFr.ext ((hf0.alloc _).alloc _) hb1) hb2
          have hg2 := IsFr.ext (IsFr.ext ((hg0.alloc _).alloc _) hb1) hb2
          have x2 : Bx w2 w.heap.size 24 #[.int .i64 f.W, .int .i64 f.H, .slice ya yn yc, .slice ua un uc, .slice va vn vc] := (((Bx.new w _ _).alloc _).ext hb1).ext hb2
          have y2 : Bx w2 (w.heap.size + 1) 24 #[.int .i64 g.W, .int .i64 g.H, .slice ya' yn' yc', .slice ua' un' uc', .slice va' vn' vc'] := ((Bx.new' _ _ _ _ (by simp)).ext hb1).ext hb2
          obtain ⟨c0, c1, c2, c3, c4⟩ := x2.cells5
          obtain ⟨d0, d1, d2, d3, d4⟩ := y2.cells5
          clear c_w1 z_w1
          go_wp2_with fail
          refine (ref_Formed (p := p) _ f _ hf2).mono ?_
          rintro e w3 ⟨rfl, hb3⟩
          replace B2 := B2.trans (hb3.mono B2.size)
          replace hf2 := hf2.ext hb3
          replace hg2 := hg2.ext hb3
          replace x2 := x2.ext hb3
          replace y2 := y2.ext hb3
          clear c0 c1 c2 c3 c4 d0 d1 d2 d3 d4
          obtain ⟨c0, c1, c2, c3, c4⟩ := x2.cells5
          obtain ⟨d0, d1, d2, d3, d4⟩ := y2.cells5
          go_wp2_with fail
          refine (ref_Formed (p := p') _ g _ hg2).mono ?_
          rintro e w4 ⟨rfl, hb4⟩
          replace B2 := B2.trans (hb4.mono B2.size)
          replace hf2 := hf2.ext hb4
          replace hg2 := hg2.ext hb4
          replace x2 := x2.ext hb4
          replace y2 := y2.ext hb4
          clear c0 c1 c2 c3 c4 d0 d1 d2 d3 d4
          obtain ⟨c0, c1, c2, c3, c4⟩ := x2.cells5
          obtain ⟨d0, d1, d2, d3, d4⟩ := y2.cells5
          go_wp2_with fail
          refine (ref_Equal (p := p) (p' := p') _ _ f g _ hf2 hg2).mono ?_
          rintro e w5 ⟨rfl, hb5⟩
          replace B2 := B2.trans (hb5.mono B2.size)
          replace hf2 := hf2.ext hb5
          replace hg2 := hg2.ext hb5
          replace x2 := x2.ext hb5
          replace y2 := y2.ext hb5
          clear c0 c1 c2 c3 c4 d0 d1 d2 d3 d4
          obtain ⟨c0, c1, c2, c3, c4⟩ := x2.cells5
          obtain ⟨d0, d1, d2, d3, d4⟩ := y2.cells5
          go_wp2_with fail
          have hB10 := B2
          have hf10 := hf2
          have hg10 := hg2
          have x10 := x2
          have y10 := y2
          clear hf2 hg2 x2 y2 B2
          go_region_held3 (fun w' => w'.cell? ⟨w.heap.size, 0, none⟩ = some (.int .i64 f.W) ∧ w'.cell? ⟨w.heap.size, 1, none⟩ = some (.int .i64 f.H) ∧ w'.cell? ⟨w.heap.size, 2, none⟩ = some (.slice ya yn yc) ∧ w'.cell? ⟨w.heap.size, 3, none⟩ = some (.slice ua un uc) ∧ w'.cell? ⟨w.heap.size, 4, none⟩ = some (.slice va vn vc) ∧ w'.cell? ⟨w.heap.size + 1, 0, none⟩ = some (.int .i64 g.W) ∧ w'.cell? ⟨w.heap.size + 1, 1, none⟩ = some (.int .i64 g.H) ∧ w'.cell? ⟨w.heap.size + 1, 2, none⟩ = some (.slice ya' yn' yc') ∧ w'.cell? ⟨w.heap.size + 1, 3, none⟩ = some (.slice ua' un' uc') ∧ w'.cell? ⟨w.heap.size + 1, 4, none⟩ = some (.slice va' vn' vc'))
            (go_keep)
            (first
             | (go_at_call 14; ((with_reducible refine (plane_awake _).mono ?_); rintro e w11 ⟨rfl, hk⟩; have hk := undrew hk; have hB11 := Below.trans hB10 (Below.mono hk hB10.size); have hf11 := IsFr.ext hf10 hk; have hg11 := IsFr.ext hg10 hk; have x11 := Bx.ext x10 hk; have y11 := Bx.ext y10 hk; obtain ⟨c110, c111, c112, c113, c114⟩ := Bx.cells5 x11; obtain ⟨d110, d111, d112, d113, d114⟩ := Bx.cells5 y11; clear hk))
             | (go_at_call 23; ((with_reducible refine (plane_Same (p := p) (p' := p') _ _ f g _ hf11 hg11).mono ?_); rintro e w12 ⟨rfl, hk⟩; have hB12 := Below.trans hB11 (Below.mono hk hB11.size); have hf12 := IsFr.ext hf11 hk; have hg12 := IsFr.ext hg11 hk; have x12 := Bx.ext x11 hk; have y12 := Bx.ext y11 hk; obtain ⟨c120, c121, c122, c123, c124⟩ := Bx.cells5 x12; obtain ⟨d120, d121, d122, d123, d124⟩ := Bx.cells5 y12; clear hk))
             | (go_at_call 24; ((with_reducible refine (plane_Distance (p := p) (p' := p') _ _ f g _ hf12 hg12).mono ?_); rintro e w13 ⟨rfl, hk⟩; have hB13 := Below.trans hB12 (Below.mono hk hB12.size); have hf13 := IsFr.ext hf12 hk; have hg13 := IsFr.ext hg12 hk; have x13 := Bx.ext x12 hk; have y13 := Bx.ext y12 hk; obtain ⟨c130, c131, c132, c133, c134⟩ := Bx.cells5 x13; obtain ⟨d130, d131, d132, d133, d134⟩ := Bx.cells5 y13; clear hk))
             | (go_at_call 25; ((with_reducible refine (ref_Distance (p := p) (p' := p') _ _ f g _ hf13 hg13).mono ?_); rintro e w14 ⟨rfl, hk⟩; have hB14 := Below.trans hB13 (Below.mono hk hB13.size); have hf14 := IsFr.ext hf13 hk; have hg14 := IsFr.ext hg13 hk; have x14 := Bx.ext x13 hk; have y14 := Bx.ext y13 hk; obtain ⟨c140, c141, c142, c143, c144⟩ := Bx.cells5 x14; obtain ⟨d140, d141, d142, d143, d144⟩ := Bx.cells5 y14; clear hk)))
          go_wp2
          go_ret
          exact ⟨rfl, hB14⟩
        · have k2' : formedB g = false := by simpa using k2
          rw [k1, k2', Bool.and_false, Bool.false_and] at hz
          go_enter Try.func5, Try.ntmps5
          go_wp2_with fail
          refine (law_light (p := p) _ f _ (by (repeat with_reducible apply IsFr.alloc); exact hf0)).mono ?_
          rintro e w1 ⟨rfl, hb1⟩
          obtain ⟨c_w1, z_w1⟩ := bcell hb1
          have s_w1 := hb1.size
          try simp at s_w1
          try simp at c_w1
          try simp at z_w1
          have q_w1_0 : w.heap.size < w1.heap.size := by omega
          have q_w1_1 : w.heap.size + 1 < w1.heap.size := by omega
          go_wp2_with fail
          refine (law_light (p := p') _ g _ (IsFr.ext ((hg0.alloc _).alloc _) hb1)).mono ?_
          rintro e w2 ⟨rfl, hb2⟩
          have B2 : Below w.heap.size w w2 := ((((Below.refl _ w).alloc (by simp) _).alloc (by simp) _).trans (hb1.mono (by simp; omega))).trans (hb2.mono (by omega))
          have hf2 := IsFr.ext (IsFr.ext ((hf0.alloc _).alloc _) hb1) hb2
          have hg2 := IsFr.ext (IsFr.ext ((hg0.alloc _).alloc _) hb1) hb2
          have x2 : Bx w2 w.heap.size 24 #[.int .i64 f.W, .int .i64 f.H, .slice ya yn yc, .slice ua un uc, .slice va vn vc] := (((Bx.new w _ _).alloc _).ext hb1).ext hb2
          have y2 : Bx w2 (w.heap.size + 1) 24 #[.int .i64 g.W, .int .i64 g.H, .slice ya' yn' yc', .slice ua' un' uc', .slice va' vn' vc'] := ((Bx.new' _ _ _ _ (by simp)).ext hb1).ext hb2
          obtain ⟨c0, c1, c2, c3, c4⟩ := x2.cells5
          obtain ⟨d0, d1, d2, d3, d4⟩ := y2.cells5
          clear c_w1 z_w1
          go_wp2_with fail
          refine (ref_Formed (p := p) _ f _ hf2).mono ?_
          rintro e w3 ⟨rfl, hb3⟩
          replace B2 := B2.trans (hb3.mono B2.size)
          replace hf2 := hf2.ext hb3
          replace hg2 := hg2.ext hb3
          replace x2 := x2.ext hb3
          replace y2 := y2.ext hb3
          clear c0 c1 c2 c3 c4 d0 d1 d2 d3 d4
          obtain ⟨c0, c1, c2, c3, c4⟩ := x2.cells5
          obtain ⟨d0, d1, d2, d3, d4⟩ := y2.cells5
          go_wp2_with fail
          refine (ref_Formed (p := p') _ g _ hg2).mono ?_
          rintro e w4 ⟨rfl, hb4⟩
          replace B2 := B2.trans (hb4.mono B2.size)
          replace hf2 := hf2.ext hb4
          replace hg2 := hg2.ext hb4
          replace x2 := x2.ext hb4
          replace y2 := y2.ext hb4
          clear c0 c1 c2 c3 c4 d0 d1 d2 d3 d4
          obtain ⟨c0, c1, c2, c3, c4⟩ := x2.cells5
          obtain ⟨d0, d1, d2, d3, d4⟩ := y2.cells5
          go_wp2_with fail
          have hB10 := B2
          have hf10 := hf2
          have hg10 := hg2
          have x10 := x2
          have y10 := y2
          clear hf2 hg2 x2 y2 B2
          go_region_held3 (fun w' => w'.cell? ⟨w.heap.size, 0, none⟩ = some (.int .i64 f.W) ∧ w'.cell? ⟨w.heap.size, 1, none⟩ = some (.int .i64 f.H) ∧ w'.cell? ⟨w.heap.size, 2, none⟩ = some (.slice ya yn yc) ∧ w'.cell? ⟨w.heap.size, 3, none⟩ = some (.slice ua un uc) ∧ w'.cell? ⟨w.heap.size, 4, none⟩ = some (.slice va vn vc) ∧ w'.cell? ⟨w.heap.size + 1, 0, none⟩ = some (.int .i64 g.W) ∧ w'.cell? ⟨w.heap.size + 1, 1, none⟩ = some (.int .i64 g.H) ∧ w'.cell? ⟨w.heap.size + 1, 2, none⟩ = some (.slice ya' yn' yc') ∧ w'.cell? ⟨w.heap.size + 1, 3, none⟩ = some (.slice ua' un' uc') ∧ w'.cell? ⟨w.heap.size + 1, 4, none⟩ = some (.slice va' vn' vc'))
            (go_keep)
            (first
             | (go_at_call 14; ((with_reducible refine (plane_awake _).mono ?_); rintro e w11 ⟨rfl, hk⟩; have hk := undrew hk; have hB11 := Below.trans hB10 (Below.mono hk hB10.size); have hf11 := IsFr.ext hf10 hk; have hg11 := IsFr.ext hg10 hk; have x11 := Bx.ext x10 hk; have y11 := Bx.ext y10 hk; obtain ⟨c110, c111, c112, c113, c114⟩ := Bx.cells5 x11; obtain ⟨d110, d111, d112, d113, d114⟩ := Bx.cells5 y11; clear hk))
             | (go_at_call 23; ((with_reducible refine (plane_Same (p := p) (p' := p') _ _ f g _ hf11 hg11).mono ?_); rintro e w12 ⟨rfl, hk⟩; have hB12 := Below.trans hB11 (Below.mono hk hB11.size); have hf12 := IsFr.ext hf11 hk; have hg12 := IsFr.ext hg11 hk; have x12 := Bx.ext x11 hk; have y12 := Bx.ext y11 hk; obtain ⟨c120, c121, c122, c123, c124⟩ := Bx.cells5 x12; obtain ⟨d120, d121, d122, d123, d124⟩ := Bx.cells5 y12; clear hk))
             | (go_at_call 24; ((with_reducible refine (plane_Distance (p := p) (p' := p') _ _ f g _ hf12 hg12).mono ?_); rintro e w13 ⟨rfl, hk⟩; have hB13 := Below.trans hB12 (Below.mono hk hB12.size); have hf13 := IsFr.ext hf12 hk; have hg13 := IsFr.ext hg12 hk; have x13 := Bx.ext x12 hk; have y13 := Bx.ext y12 hk; obtain ⟨c130, c131, c132, c133, c134⟩ := Bx.cells5 x13; obtain ⟨d130, d131, d132, d133, d134⟩ := Bx.cells5 y13; clear hk))
             | (go_at_call 25; ((with_reducible refine (ref_Distance (p := p) (p' := p') _ _ f g _ hf13 hg13).mono ?_); rintro e w14 ⟨rfl, hk⟩; have hB14 := Below.trans hB13 (Below.mono hk hB13.size); have hf14 := IsFr.ext hf13 hk; have hg14 := IsFr.ext hg13 hk; have x14 := Bx.ext x13 hk; have y14 := Bx.ext y13 hk; obtain ⟨c140, c141, c142, c143, c144⟩ := Bx.cells5 x14; obtain ⟨d140, d141, d142, d143, d144⟩ := Bx.cells5 y14; clear hk)))
          go_wp2
          go_ret
          exact ⟨rfl, hB14⟩
      · have k1' : formedB f = false := by simpa using k1
        rw [k1', Bool.false_and, Bool.false_and] at hz
        go_enter Try.func5, Try.ntmps5
        go_wp2_with fail
        refine (law_light (p := p) _ f _ (by (repeat with_reducible apply IsFr.alloc); exact hf0)).mono ?_
        rintro e w1 ⟨rfl, hb1⟩
        obtain ⟨c_w1, z_w1⟩ := bcell hb1
        have s_w1 := hb1.size
        try simp at s_w1
        try simp at c_w1
        try simp at z_w1
        have q_w1_0 : w.heap.size < w1.heap.size := by omega
        have q_w1_1 : w.heap.size + 1 < w1.heap.size := by omega
        go_wp2_with fail
        refine (law_light (p := p') _ g _ (IsFr.ext ((hg0.alloc _).alloc _) hb1)).mono ?_
        rintro e w2 ⟨rfl, hb2⟩
        have B2 : Below w.heap.size w w2 := ((((Below.refl _ w).alloc (by simp) _).alloc (by simp) _).trans (hb1.mono (by simp; omega))).trans (hb2.mono (by omega))
        have hf2 := IsFr.ext (IsFr.ext ((hf0.alloc _).alloc _) hb1) hb2
        have hg2 := IsFr.ext (IsFr.ext ((hg0.alloc _).alloc _) hb1) hb2
        have x2 : Bx w2 w.heap.size 24 #[.int .i64 f.W, .int .i64 f.H, .slice ya yn yc, .slice ua un uc, .slice va vn vc] := (((Bx.new w _ _).alloc _).ext hb1).ext hb2
        have y2 : Bx w2 (w.heap.size + 1) 24 #[.int .i64 g.W, .int .i64 g.H, .slice ya' yn' yc', .slice ua' un' uc', .slice va' vn' vc'] := ((Bx.new' _ _ _ _ (by simp)).ext hb1).ext hb2
        obtain ⟨c0, c1, c2, c3, c4⟩ := x2.cells5
        obtain ⟨d0, d1, d2, d3, d4⟩ := y2.cells5
        clear c_w1 z_w1
        go_wp2_with fail
        refine (ref_Formed (p := p) _ f _ hf2).mono ?_
        rintro e w3 ⟨rfl, hb3⟩
        replace B2 := B2.trans (hb3.mono B2.size)
        replace hf2 := hf2.ext hb3
        replace hg2 := hg2.ext hb3
        replace x2 := x2.ext hb3
        replace y2 := y2.ext hb3
        clear c0 c1 c2 c3 c4 d0 d1 d2 d3 d4
        obtain ⟨c0, c1, c2, c3, c4⟩ := x2.cells5
        obtain ⟨d0, d1, d2, d3, d4⟩ := y2.cells5
        go_wp2_with fail
        have hB10 := B2
        have hf10 := hf2
        have hg10 := hg2
        have x10 := x2
        have y10 := y2
        clear hf2 hg2 x2 y2 B2
        go_region_held3 (fun w' => w'.cell? ⟨w.heap.size, 0, none⟩ = some (.int .i64 f.W) ∧ w'.cell? ⟨w.heap.size, 1, none⟩ = some (.int .i64 f.H) ∧ w'.cell? ⟨w.heap.size, 2, none⟩ = some (.slice ya yn yc) ∧ w'.cell? ⟨w.heap.size, 3, none⟩ = some (.slice ua un uc) ∧ w'.cell? ⟨w.heap.size, 4, none⟩ = some (.slice va vn vc) ∧ w'.cell? ⟨w.heap.size + 1, 0, none⟩ = some (.int .i64 g.W) ∧ w'.cell? ⟨w.heap.size + 1, 1, none⟩ = some (.int .i64 g.H) ∧ w'.cell? ⟨w.heap.size + 1, 2, none⟩ = some (.slice ya' yn' yc') ∧ w'.cell? ⟨w.heap.size + 1, 3, none⟩ = some (.slice ua' un' uc') ∧ w'.cell? ⟨w.heap.size + 1, 4, none⟩ = some (.slice va' vn' vc'))
          (go_keep)
          (first
           | (go_at_call 14; ((with_reducible refine (plane_awake _).mono ?_); rintro e w11 ⟨rfl, hk⟩; have hk := undrew hk; have hB11 := Below.trans hB10 (Below.mono hk hB10.size); have hf11 := IsFr.ext hf10 hk; have hg11 := IsFr.ext hg10 hk; have x11 := Bx.ext x10 hk; have y11 := Bx.ext y10 hk; obtain ⟨c110, c111, c112, c113, c114⟩ := Bx.cells5 x11; obtain ⟨d110, d111, d112, d113, d114⟩ := Bx.cells5 y11; clear hk))
           | (go_at_call 23; ((with_reducible refine (plane_Same (p := p) (p' := p') _ _ f g _ hf11 hg11).mono ?_); rintro e w12 ⟨rfl, hk⟩; have hB12 := Below.trans hB11 (Below.mono hk hB11.size); have hf12 := IsFr.ext hf11 hk; have hg12 := IsFr.ext hg11 hk; have x12 := Bx.ext x11 hk; have y12 := Bx.ext y11 hk; obtain ⟨c120, c121, c122, c123, c124⟩ := Bx.cells5 x12; obtain ⟨d120, d121, d122, d123, d124⟩ := Bx.cells5 y12; clear hk))
           | (go_at_call 24; ((with_reducible refine (plane_Distance (p := p) (p' := p') _ _ f g _ hf12 hg12).mono ?_); rintro e w13 ⟨rfl, hk⟩; have hB13 := Below.trans hB12 (Below.mono hk hB12.size); have hf13 := IsFr.ext hf12 hk; have hg13 := IsFr.ext hg12 hk; have x13 := Bx.ext x12 hk; have y13 := Bx.ext y12 hk; obtain ⟨c130, c131, c132, c133, c134⟩ := Bx.cells5 x13; obtain ⟨d130, d131, d132, d133, d134⟩ := Bx.cells5 y13; clear hk))
           | (go_at_call 25; ((with_reducible refine (ref_Distance (p := p) (p' := p') _ _ f g _ hf13 hg13).mono ?_); rintro e w14 ⟨rfl, hk⟩; have hB14 := Below.trans hB13 (Below.mono hk hB13.size); have hf14 := IsFr.ext hf13 hk; have hg14 := IsFr.ext hg13 hk; have x14 := Bx.ext x13 hk; have y14 := Bx.ext y13 hk; obtain ⟨c140, c141, c142, c143, c144⟩ := Bx.cells5 x14; obtain ⟨d140, d141, d142, d143, d144⟩ := Bx.cells5 y14; clear hk)))
        go_wp2
        go_ret
        exact ⟨rfl, hB14⟩
    · have h2' : lightB g = false := by simpa using h2
      go_enter Try.func5, Try.ntmps5
      go_wp2_with fail
      refine (law_light (p := p) _ f _ (by (repeat with_reducible apply IsFr.alloc); exact hf0)).mono ?_
      rintro e w1 ⟨rfl, hb1⟩
      obtain ⟨c_w1, z_w1⟩ := bcell hb1
      have s_w1 := hb1.size
      try simp at s_w1
      try simp at c_w1
      try simp at z_w1
      have q_w1_0 : w.heap.size < w1.heap.size := by omega
      have q_w1_1 : w.heap.size + 1 < w1.heap.size := by omega
      go_wp2_with fail
      refine (law_light (p := p') _ g _ (IsFr.ext ((hg0.alloc _).alloc _) hb1)).mono ?_
      rintro e w2 ⟨rfl, hb2⟩
      go_wp2_with fail
      go_ret
      exact ⟨rfl, ((((Below.refl _ w).alloc (by simp) _).alloc (by simp) _).trans (hb1.mono (by simp; omega))).trans (hb2.mono (by omega))⟩
  · have h1' : lightB f = false := by simpa using h1
    go_enter Try.func5, Try.ntmps5
    go_wp2_with fail
    refine (law_light (p := p) _ f _ (by (repeat with_reducible apply IsFr.alloc); exact hf0)).mono ?_
    rintro e w1 ⟨rfl, hb1⟩
    go_wp2_with fail
    go_ret
    exact ⟨rfl, (((Below.refl _ w).alloc (by simp) _).alloc (by simp) _).trans (hb1.mono (by simp; omega))⟩
end Go.Proofs.Ytcboppldclknjaa
