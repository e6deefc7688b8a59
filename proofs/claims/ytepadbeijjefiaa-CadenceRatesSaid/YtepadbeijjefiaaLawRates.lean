/- CadenceRates. -/
import Derived.Test.YtepadbeijjefiaaCadAwake
namespace Go.Proofs.Ytepadbeijjefiaa
open Go.RowKit

set_option maxHeartbeats 1000000 in
theorem law_CadenceRates (a b : Int) (w : World) (ha : I64 a) (hb : I64 b) :
    Calls Try.prog 3 #[.agg #[.int .i64 a, .int .i64 b]] w fun e w' => e = .returned (.bool true) ∧ Below w.heap.size w w' := by
  have c1 := fun w => cad_Usable a b w ha.lo ha.hi hb.lo hb.hi
  have c2 := fun w => ref_Usable a b w
  obtain ⟨B, hB⟩ : ∃ B, usableR a b = B := ⟨_, rfl⟩
  rw [hB] at c1 c2
  have C1 := Lib.hid c1
  have C2 := Lib.hid c2
  clear c1 c2 hB ha hb
  cases B
  all_goals
    go_enter Try.func3, Try.ntmps3
    go_wp2_with fail
    go_region_held3 (fun w' => w'.cell? ⟨w.heap.size, 0, none⟩ = some (.int .i64 a) ∧ w'.cell? ⟨w.heap.size, 1, none⟩ = some (.int .i64 b))
      (first | (refine ⟨?_, ?_⟩ <;> go_simp; done) | go_keep)
      (first
       | (go_at_call 14; ((with_reducible refine (C1.out _).mono ?_); rintro e w2 ⟨rfl, hb2⟩; have hb2 := undrew hb2; obtain ⟨c_w2, z_w2⟩ := bcell hb2; have s_w2 := hb2.size; try simp at s_w2; try simp at c_w2; have q_w2_0 : w.heap.size < w2.heap.size := (by omega)))
       | (go_at_call 15; ((with_reducible refine (C2.out _).mono ?_); rintro e w3 ⟨rfl, hb3⟩; obtain ⟨c_w3, z_w3⟩ := bcell hb3; have s_w3 := hb3.size; have q_w3_0 : w.heap.size < w3.heap.size := (by omega)))
       | (go_at_call 16; ((with_reducible refine (cad_awake _).mono ?_); rintro e w4 ⟨rfl, hb4⟩; obtain ⟨c_w4, z_w4⟩ := bcell hb4; have s_w4 := hb4.size; have q_w4_0 : w.heap.size < w4.heap.size := (by omega))))
    go_wp2_with fail
    go_ret
    refine ⟨rfl, ?_⟩
    have B1 : Below w.heap.size w w2 := ((Below.refl _ w).alloc (Nat.le_refl _) _).trans (hb2.mono (by simp))
    have B2 := B1.trans (hb3.mono B1.size)
    exact B2.trans (hb4.mono B2.size)
end Go.Proofs.Ytepadbeijjefiaa
