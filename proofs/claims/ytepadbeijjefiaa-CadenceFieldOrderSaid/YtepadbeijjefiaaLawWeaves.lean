/- CadenceWeaves. -/
import Derived.Test.YtepadbeijjefiaaCadAwake
import Derived.Test.YtepadbeijjefiaaWeaveR
import Derived.Test.YtepadbeijjefiaaMixed
namespace Go.Proofs.Ytepadbeijjefiaa
open Go.RowKit

theorem weaveR_len (n a b c d : Int) : (weaveR n a b c d).1.length ≤ 256 := by
  unfold weaveR
  split
  · split
    · simp
    · split
      · simp
      · rw [pairsL_len]; omega
  · simp

set_option maxHeartbeats 1000000 in
theorem law_CadenceWeaves (n a b c d : Int) (w : World) (ha : I64 a) (hb : I64 b) (hc : I64 c) (hd : I64 d) :
    Calls Try.prog 13 #[.int .i64 n, .agg #[.int .i64 a, .int .i64 b], .agg #[.int .i64 c, .int .i64 d]] w fun e w' => e = .returned (.bool true) ∧ Below w.heap.size w w' := by
  have c1 := fun w => cad_Weave n a b c d w ha hb hc hd
  have c2 := fun w => ref_Weave n a b c d w
  have hl := weaveR_len n a b c d
  obtain ⟨l, er, hv⟩ : ∃ l er, weaveR n a b c d = (l, er) := ⟨_, _, rfl⟩
  rw [hv] at c1 c2 hl
  have C1 := Lib.hid c1
  have C2 := Lib.hid c2
  have hl' : l.length ≤ 256 := hl
  have HL := Lib.hid hl'
  clear c1 c2 hv ha hb hc hd hl hl'
  go_enter Try.func13, Try.ntmps13
  go_wp2_with fail
  refine (C1.out _).mono ?_
  rintro e w1 ⟨A1, n1, k1, rfl, hn1, hR1, hb1⟩
  obtain ⟨c_w1, z_w1⟩ := bcell hb1
  have s_w1 := hb1.size
  try simp at s_w1
  try simp at c_w1
  try simp at z_w1
  have q_w1_0 : w.heap.size < w1.heap.size := by omega
  have q_w1_1 : w.heap.size + 1 < w1.heap.size := by omega
  have hn1' : n1 = l.length := hn1
  have HN1 := Lib.hid hn1'
  clear hn1 hn1'
  go_wp2_with fail
  refine (C2.out _).mono ?_
  rintro e w2 ⟨A2, n2, k2, rfl, hn2, hR2, hb2⟩
  have hn2' : n2 = l.length := hn2
  obtain rfl : n2 = n1 := by rw [hn2', HN1.out]
  clear hn2 hn2'
  have B1 : Below w.heap.size w w1 := (((Below.refl _ w).alloc (Nat.le_refl _) _).alloc (by simp) _).trans (hb1.mono (by simp; omega))
  have B2 := B1.trans (hb2.mono B1.size)
  have hR1' := hR1.ext hb2
  have hle : n2 ≤ 256 := by rw [HN1.out]; exact HL.out
  go_wp2_with fail
  refine (ref_SameWoven A1 A2 n2 k1 k2 l _ HN1.out hR1' hR2 (by omega)).mono ?_
  rintro e w3 ⟨rfl, m, rfl⟩
  go_wp2_with fail
  refine (cad_Mixed A1 n2 k1 l _ HN1.out (hR1'.drewN m) (by omega)).mono ?_
  rintro e w4 ⟨A4, n4, k4, rfl, hn4, hR4, hb4⟩
  have HN4 := Lib.hid hn4
  clear hn4
  go_wp2_with fail
  refine (ref_Mixed A1 n2 k1 l _ HN1.out ((hR1'.drewN m).ext hb4) (by omega)).mono ?_
  rintro e w5 ⟨A5, n5, k5, rfl, hn5, hR5, hb5⟩
  obtain rfl : n5 = n4 := by rw [hn5, HN4.out]
  have hml := mixL_len l l.length
  have hn4le : n5 ≤ 256 := by rw [hn5]; have := HL.out; omega
  have hR4' := hR4.ext hb5
  clear hn5
  go_wp2_with fail
  refine (ref_SameInts A4 A5 n5 k4 k5 (mixL l l.length) _ HN4.out hR4' hR5 (by omega)).mono ?_
  rintro e w6 ⟨rfl, m', rfl⟩
  go_wp2_with fail
  refine (cad_awake _).mono ?_
  rintro e w7 ⟨rfl, hb7⟩
  go_wp2_with fail
  go_ret
  refine ⟨rfl, ?_⟩
  have B3 := below_drewN B2 m
  have B4 := B3.trans (hb4.mono B3.size)
  have B5 := B4.trans (hb5.mono B4.size)
  have B6 := below_drewN B5 m'
  exact B6.trans (hb7.mono B6.size)
end Go.Proofs.Ytepadbeijjefiaa
