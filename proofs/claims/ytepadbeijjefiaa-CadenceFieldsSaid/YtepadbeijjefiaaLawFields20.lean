/- CadenceFields. -/
import Derived.Test.YtepadbeijjefiaaCadAwake
import Derived.Test.YtepadbeijjefiaaDivAll
import Derived.Test.YtepadbeijjefiaaCadE2
namespace Go.Proofs.Ytepadbeijjefiaa
open Go.RowKit

theorem fieldsV_two (n a b c d : Int) : ∃ x y : Int, fieldsV n a b c d = .tuple #[.int .i64 x, .int .i64 y] := by unfold fieldsV; split <;> (try split) <;> (try split) <;> exact ⟨_, _, rfl⟩

set_option maxHeartbeats 1000000 in
theorem law_CadenceFields (n a b c d : Int) (w : World) (ha : I64 a) (hb : I64 b) (hc : I64 c) (hd : I64 d) :
    Calls Try.prog 10 #[.int .i64 n, .agg #[.int .i64 a, .int .i64 b], .agg #[.int .i64 c, .int .i64 d]] w fun e w' => e = .returned (.bool true) ∧ Below w.heap.size w w' := by
  have c1 := fun w => cad_Fields n a b c d w ha hb hc hd (fun j h1 _ _ h => div64_ok h (by have := tele_bd h1; omega))
  have c2 := fun w => ref_Fields n a b c d w
  obtain ⟨x, y, hv⟩ := fieldsV_two n a b c d
  rw [hv] at c1 c2
  have C1 := Lib.hid c1
  have C2 := Lib.hid c2
  clear c1 c2 hv ha hb hc hd
  go_enter Try.func10, Try.ntmps10
  go_wp2_with fail
  refine (C1.out _).mono ?_
  rintro e w1 ⟨rfl, hb1⟩
  obtain ⟨c_w1, z_w1⟩ := bcell hb1
  have s_w1 := hb1.size
  try simp at s_w1
  try simp at c_w1
  try simp at z_w1
  have q_w1_0 : w.heap.size < w1.heap.size := by omega
  have q_w1_1 : w.heap.size + 1 < w1.heap.size := by omega
  go_wp2_with fail
  refine (C2.out _).mono ?_
  rintro e w2 ⟨rfl, hb2⟩
  go_wp2_with fail
  refine (cad_awake _).mono ?_
  rintro e w3 ⟨rfl, hb3⟩
  go_wp2_with fail
  go_ret
  refine ⟨rfl, ?_⟩
  have B1 : Below w.heap.size w w1 := (((Below.refl _ w).alloc (Nat.le_refl _) _).alloc (by simp) _).trans (hb1.mono (by simp; omega))
  have B2 := B1.trans (hb2.mono B1.size)
  exact B2.trans (hb3.mono B2.size)
end Go.Proofs.Ytepadbeijjefiaa
