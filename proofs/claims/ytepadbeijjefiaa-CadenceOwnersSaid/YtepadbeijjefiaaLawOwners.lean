/- CadenceOwners. -/
import Derived.Test.YtepadbeijjefiaaCadAwake
namespace Go.Proofs.Ytepadbeijjefiaa
open Go.RowKit

theorem ownerV_two (n a b : Int) : ∃ x y : Int, ownerV n a b = .tuple #[.int .i64 x, .int .i64 y] := by
  unfold ownerV
  split
  · split
    · exact ⟨_, _, rfl⟩
    · exact ⟨_, _, rfl⟩
  · exact ⟨_, _, rfl⟩

set_option maxHeartbeats 1000000 in
theorem law_CadenceOwners (n a b : Int) (w : World) (hn : I64 n) (ha : I64 a) (hb : I64 b) :
    Calls Try.prog 8 #[.int .i64 n, .agg #[.int .i64 a, .int .i64 b]] w fun e w' => e = .returned (.bool true) ∧ Below w.heap.size w w' := by
  have c1 := fun w => cad_Owner n a b w ha hb
  have c2 := fun w => ref_Owner n a b w
  obtain ⟨x, y, hv⟩ := ownerV_two n a b
  rw [hv] at c1 c2
  have C1 := Lib.hid c1
  have C2 := Lib.hid c2
  clear c1 c2 hv ha hb hn
  go_enter Try.func8, Try.ntmps8
  go_wp2_with fail
  refine (C1.out _).mono ?_
  rintro e w1 ⟨rfl, hb1⟩
  obtain ⟨c_w1, z_w1⟩ := bcell hb1
  have s_w1 := hb1.size
  try simp at s_w1
  try simp at c_w1
  try simp at z_w1
  have q_w1_0 : w.heap.size < w1.heap.size := by omega
  go_wp2_with fail
  refine (C2.out _).mono ?_
  rintro e w2 ⟨rfl, hb2⟩
  go_wp2_with fail
  refine (cad_awake _).mono ?_
  rintro e w3 ⟨rfl, hb3⟩
  go_wp2_with fail
  go_ret
  refine ⟨rfl, ?_⟩
  have B1 : Below w.heap.size w w1 := ((Below.refl _ w).alloc (Nat.le_refl _) _).trans (hb1.mono (by simp))
  have B2 := B1.trans (hb2.mono B1.size)
  exact B2.trans (hb3.mono B2.size)
end Go.Proofs.Ytepadbeijjefiaa
