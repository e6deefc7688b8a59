/- The sanity check of the laws on package cadence. -/
import Derived.Test.YtclainbjidajbaaWeaveP
namespace Go.Proofs.Ytclainbjidajbaa
open Go.RowKit

theorem I64.lit {x : Int} (h : fitsB x = true) : I64 x := by
  simp only [fitsB, decide_eq_true_eq] at h
  exact ⟨h.1, h.2⟩
theorem aw_frame : frameV 24 24 1 25 1 = .tuple #[.int .i64 25, .int .i64 0] := by kernel_rfl
theorem aw_sample : sampleV 1 30000 1001 = .tuple #[.int .i64 1602, .int .i64 0] := by kernel_rfl
theorem aw_owner : ownerV 1601 30000 1001 = .tuple #[.int .i64 0, .int .i64 0] := by kernel_rfl
theorem aw_fields : fieldsV 1 24000 1001 30000 1001 = .tuple #[.int .i64 3, .int .i64 0] := by kernel_rfl
theorem aw_weave : weaveR 4 24 1 30 1 = ([(0, 0), (1, 1), (1, 2), (2, 3), (3, 3)], 0) := by kernel_rfl

set_option maxRecDepth 4000 in
set_option maxHeartbeats 1000000 in
theorem cad_awake (w : World) :
    Calls Try.prog 12 #[] w fun e w' => e = .returned (.bool true) ∧ Below w.heap.size w w' := by
  have c1 := fun w => cad_Frame 24 24 1 25 1 w (.lit (by decide)) (.lit (by decide)) (.lit (by decide)) (.lit (by decide)) (fun _ _ _ _ => div64_low (by decide) (by decide) (by decide))
  have c2 := fun w => cad_Sample 1 30000 1001 w (.lit (by decide)) (.lit (by decide)) (.lit (by decide))
  have c3 := fun w => cad_Owner 1601 30000 1001 w (.lit (by decide)) (.lit (by decide))
  have c4 := fun w => cad_Fields 1 24000 1001 30000 1001 w (.lit (by decide)) (.lit (by decide)) (.lit (by decide)) (.lit (by decide)) (fun j _ h1 h2 _ => div64_low (by
    rcases (by omega : j = 1 ∨ j = 2) with rfl | rfl <;> decide) (by decide) (by decide))
  have c5 := fun w => cad_Weave 4 24 1 30 1 w (.lit (by decide)) (.lit (by decide)) (.lit (by decide)) (.lit (by decide))
  rw [aw_frame] at c1
  rw [aw_sample] at c2
  rw [aw_owner] at c3
  rw [aw_fields] at c4
  rw [aw_weave] at c5
  have C1 := Lib.hid c1
  have C2 := Lib.hid c2
  have C3 := Lib.hid c3
  have C4 := Lib.hid c4
  have C5 := Lib.hid c5
  clear c1 c2 c3 c4 c5
  go_enter Try.func12, Try.ntmps12
  go_wp2_with fail
  refine (C1.out _).mono ?_
  rintro e w1 ⟨rfl, hb1⟩
  obtain ⟨c_w1, z_w1⟩ := bcell hb1
  have s_w1 := hb1.size
  try simp at s_w1
  try simp at c_w1
  try simp at z_w1
  have q_w1_0 : w.heap.size < w1.heap.size := by omega
  go_wp2_with fail
  refine (C2.out _).mono ?_
  rintro e w2 ⟨rfl, hb2⟩
  obtain ⟨c_w2, z_w2⟩ := bcell hb2
  have s_w2 := hb2.size
  try simp at s_w2
  try simp at c_w2
  try simp at z_w2
  have q_w2_0 : w.heap.size < w2.heap.size := by omega
  go_wp2_with fail
  refine (C3.out _).mono ?_
  rintro e w3 ⟨rfl, hb3⟩
  obtain ⟨c_w3, z_w3⟩ := bcell hb3
  have s_w3 := hb3.size
  try simp at s_w3
  try simp at c_w3
  try simp at z_w3
  have q_w3_0 : w.heap.size < w3.heap.size := by omega
  go_wp2_with fail
  refine (C4.out _).mono ?_
  rintro e w4 ⟨rfl, hb4⟩
  go_wp2_with fail
  refine (C5.out _).mono ?_
  rintro e w5 ⟨A, n, c, rfl, hn, hR, hb5⟩
  have hn5 : n = 5 := hn
  subst hn5
  obtain ⟨b, off, rfl, _, _, hce⟩ := hR.addr (by omega)
  have e4 := hce 4 _ rfl
  have e5 := hce 5 _ rfl
  have e8 := hce 8 _ rfl
  have e9 := hce 9 _ rfl
  clear hce hn
  go_wp2_with fail
  go_ret
  refine ⟨rfl, ?_⟩
  have B1 : Below w.heap.size w w1 := ((Below.refl _ w).alloc (Nat.le_refl _) _).trans (hb1.mono (by simp))
  have B2 := B1.trans (hb2.mono B1.size)
  have B3 := B2.trans (hb3.mono B2.size)
  have B4 := B3.trans (hb4.mono B3.size)
  exact B4.trans (hb5.mono B4.size)
end Go.Proofs.Ytclainbjidajbaa
