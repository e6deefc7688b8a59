/- The law PlaneFormed returns true for every frame. -/
import Derived.Test.YtcboppldclknjaaPAwake
namespace Go.Proofs.Ytcboppldclknjaa
open Go.RowKit

set_option maxHeartbeats 4000000 in
theorem law_PlaneFormed {p : Nat → Prop} (v : Value) (f : Fr) (w : World) (hf : IsFr p w v f) :
    Calls Try.prog 3 #[v] w fun e w' => e = .returned (.bool true) ∧ Below w.heap.size w w' := by
  have hf0 := hf
  obtain ⟨ya, yn, yc, ua, un, uc, va, vn, vc, rfl, hy, hu, hv⟩ := hf
  clear hy hu hv
  by_cases h1 : lightB f = true
  · go_enter Try.func3, Try.ntmps3
    go_wp2_with fail
    refine (law_light (p := p) _ f _ (by (repeat with_reducible apply IsFr.alloc); exact hf0)).mono ?_
    rintro e w1 ⟨rfl, hb1⟩
    have hf1 := IsFr.ext (hf0.alloc _) hb1
    have x1 : Bx w1 w.heap.size 24 #[.int .i64 f.W, .int .i64 f.H, .slice ya yn yc, .slice ua un uc, .slice va vn vc] := (Bx.new w _ _).ext hb1
    obtain ⟨c10, c11, c12, c13, c14⟩ := x1.cells5
    have B1 : Below w.heap.size w w1 := ((Below.refl _ w).alloc (by simp) _).trans (hb1.mono (by simp))
    go_wp2_with fail
    go_region_held3 (fun w' => w'.cell? ⟨w.heap.size, 0, none⟩ = some (.int .i64 f.W) ∧ w'.cell? ⟨w.heap.size, 1, none⟩ = some (.int .i64 f.H) ∧ w'.cell? ⟨w.heap.size, 2, none⟩ = some (.slice ya yn yc) ∧ w'.cell? ⟨w.heap.size, 3, none⟩ = some (.slice ua un uc) ∧ w'.cell? ⟨w.heap.size, 4, none⟩ = some (.slice va vn vc))
      (go_keep)
      (first
       | (go_at_call 14; ((with_reducible refine (plane_awake _).mono ?_); rintro e w2 ⟨rfl, hb2⟩; have hb2 := undrew hb2; have hf2 := hf1.ext hb2; have x2 := x1.ext hb2; obtain ⟨c20, c21, c22, c23, c24⟩ := x2.cells5))
       | (go_at_call 15; ((with_reducible refine (plane_Formed (p := p) _ f _ hf2).mono ?_); rintro e w3 ⟨rfl, hb3⟩; have hf3 := hf2.ext hb3; have x3 := x2.ext hb3; obtain ⟨c30, c31, c32, c33, c34⟩ := x3.cells5))
       | (go_at_call 16; ((with_reducible refine (ref_Formed (p := p) _ f _ hf3).mono ?_); rintro e w4 ⟨rfl, hb4⟩; have hf4 := hf3.ext hb4; have x4 := x3.ext hb4; obtain ⟨c40, c41, c42, c43, c44⟩ := x4.cells5))
       | (go_at_call 17; ((with_reducible refine (plane_Valid (p := p) _ f _ hf4).mono ?_); rintro e w5 ⟨rfl, hb5⟩; have hf5 := hf4.ext hb5; have x5 := x4.ext hb5; obtain ⟨c50, c51, c52, c53, c54⟩ := x5.cells5))
       | (go_at_call 18; ((with_reducible refine (ref_Valid (p := p) _ f _ hf5).mono ?_); rintro e w6 ⟨rfl, hb6⟩; have x6 := x5.ext hb6; obtain ⟨c60, c61, c62, c63, c64⟩ := x6.cells5)))
    go_wp2
    go_ret
    have t1 := B1.size
    have t2 := hb2.size
    have t3 := hb3.size
    have t4 := hb4.size
    have t5 := hb5.size
    exact ⟨rfl, ((((B1.trans (hb2.mono (by omega))).trans (hb3.mono (by omega))).trans (hb4.mono (by omega))).trans (hb5.mono (by omega))).trans (hb6.mono (by omega))⟩
  · have h1' : lightB f = false := by simpa using h1
    go_enter Try.func3, Try.ntmps3
    go_wp2_with fail
    refine (law_light (p := p) _ f _ (by (repeat with_reducible apply IsFr.alloc); exact hf0)).mono ?_
    rintro e w1 ⟨rfl, hb1⟩
    go_wp2_with fail
    go_ret
    exact ⟨rfl, ((Below.refl _ w).alloc (by simp) _).trans (hb1.mono (by simp))⟩
end Go.Proofs.Ytcboppldclknjaa
