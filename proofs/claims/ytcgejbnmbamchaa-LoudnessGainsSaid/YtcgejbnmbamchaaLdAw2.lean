/- cutroomlaw28.awake returns true. -/
import Derived.Test.YtcgejbnmbamchaaLdAw
namespace Go.Proofs.Ytcgejbnmbamchaa
open Go.RowKit
attribute [local go_sem ↓] Go.wp_at_zero Go.wp_at_succ

set_option maxRecDepth 100000 in
set_option maxHeartbeats 1000000 in
theorem law_awake (w : World) : Calls Try.prog 19 #[] w fun e w' => e = .returned (.bool true) ∧ Below w.heap.size w w' := by
  obtain ⟨N, hN⟩ : ∃ N, N = 480 := ⟨_, rfl⟩
  have hmk := run_mk16 480 N (by omega) (by omega)
  have HN := Lib.hid hN
  have hNb : N ≤ 480 := by omega
  have B0 := B16.made w N
  have C0 := (Below.refl w.heap.size w).alloc (Nat.le_refl _) (zero16 N)
  clear hN
  go_enter Try.func19, Try.ntmps19
  go_upto_region 2 with fail
  generalize w.alloc (zero16 N) = W at *
  go_wp2_with fail
  go_loopw [14] (fun v wr => ∃ i : Nat, v = .int .i64 (i : Int) ∧ i ≤ N ∧ B16 wr w.heap.size (List.replicate i 100 ++ List.replicate (N - i) 0) ∧ Below w.heap.size w wr) (fun v _ => N - (intOf v).toNat)
  case atStart => exact ⟨0, rfl, Nat.zero_le _, by simpa using B0, C0⟩
  case round =>
    obtain ⟨i, rfl, hi, hb, hB⟩ := hrel
    clear B0 C0
    by_cases hlt : i < N
    · have hc : wr.cell? ⟨w.heap.size, i, none⟩ = some (.int .i16 0) := by
        rw [hb.cell, List.getElem?_append_right (by simp), List.length_replicate, Nat.sub_self, List.getElem?_replicate, if_pos (by omega)]
        rfl
      have hf := hb.frozen i
      have hl := hb.lt
      have hb2 := hb.set_ i 100
      rw [rep_set N i hlt] at hb2
      have HB2 := Lib.hid hb2
      have hB2 := bset hB ⟨w.heap.size, i, none⟩ (Nat.le_refl _) (.int .i16 100)
      clear hb hb2
      go_wp2_with fail
      go_roundw
      case rel => exact ⟨i + 1, by go_num, by omega, HB2.out, hB2⟩
      case measure => simp [intOf]; omega
    · obtain rfl : i = N := by omega
      rw [Nat.sub_self, List.replicate_zero, List.append_nil] at hb
      have HB := Lib.hid hb
      have hs100 : Smp (List.replicate i 100) := fun x hx => by rw [List.eq_of_mem_replicate hx]; omega
      have HS := Lib.hid hs100
      have hp1 := Pcm.one (p := fun _ => True) (c := i) (hb.its (p := fun _ => True) trivial) hs100 (by simp) trivial
      rw [List.length_replicate] at hp1
      have HP1 := Lib.hid hp1
      clear hb hs100 hp1
      go_wp2_with fail
      refine (ld_Powers _ _ _ _ _ HP1.out).mono ?_
      rintro e w1 ⟨Bp, mp, kp, rfl, hits, hb1, hmk1⟩
      have hrf := rep_facts HN.out (sndOf [{ A := some ⟨w.heap.size, 0, none⟩, n := i, c := i, l := List.replicate i 100 }]) rfl
      obtain ⟨X, hX⟩ : ∃ X, X = sndOf [{ A := some ⟨w.heap.size, 0, none⟩, n := i, c := i, l := List.replicate i 100 }] := ⟨_, rfl⟩
      rw [← hX] at hrf hits ⊢
      have HX := Lib.hid hX
      have HRF := Lib.hid hrf
      rw [hrf.2.1]
      rw [hrf.2.2.1] at hits
      have hmp : mp = 1 := by have := hits.len; simpa using this.symm
      subst hmp
      have B1 : Below w.heap.size w w1 := (hB.alloc hB.size (.cells #[.slice (some ⟨w.heap.size, 0, none⟩) i i] 44)).trans (hb1.mono (by have := hB.size; simp; omega))
      have B161 := (HB.out.ext ((Below.refl _ wr).alloc (Nat.le_refl _) (.cells #[.slice (some ⟨w.heap.size, 0, none⟩) i i] 44))).ext hb1
      have hp2 := Pcm.one (p := fun _ => True) (c := i) (B161.its (p := fun _ => True) trivial) HS.out (by simp) trivial
      rw [List.length_replicate] at hp2
      have HP2 := Lib.hid hp2
      have HB1 := Lib.hid B161
      have HITS := Lib.hid hits
      clear hrf hits hX hp2 B161 hb1
      go_wp2_with fail
      refine (ld_Measure _ _ _ _ _ HP2.out).mono ?_
      rintro e w2 ⟨rfl, hb2⟩
      rw [← HX.out, HRF.out.2.1, HRF.out.2.2.2.1, HRF.out.2.2.2.2.1]
      have B2 : Below w.heap.size w w2 := (B1.alloc B1.size (.cells #[.slice (some ⟨w.heap.size, 0, none⟩) i i] 44)).trans (hb2.mono (by have := B1.size; simp; omega))
      have B162 := (HB1.out.ext ((Below.refl _ w1).alloc (Nat.le_refl _) (.cells #[.slice (some ⟨w.heap.size, 0, none⟩) i i] 44))).ext hb2
      have its2 := (HITS.out.ext ((Below.refl _ w1).alloc (Nat.le_refl _) (.cells #[.slice (some ⟨w.heap.size, 0, none⟩) i i] 44))).ext hb2
      go_upto_region 9 with fail
      have m5 := Bx.new w2 38 #[.int .i64 10000, .int .i64 1]
      have B3 := B2.alloc B2.size (.cells #[.int .i64 10000, .int .i64 1] 38)
      have B163 := B162.ext ((Below.refl _ w2).alloc (Nat.le_refl _) (.cells #[.int .i64 10000, .int .i64 1] 38))
      have its3 := its2.ext ((Below.refl _ w2).alloc (Nat.le_refl _) (.cells #[.int .i64 10000, .int .i64 1] 38))
      generalize w2.alloc (.cells #[.int .i64 10000, .int .i64 1] 38) = w3 at *
      generalize w2.heap.size = gm at *
      have hp3 := Pcm.one (p := fun _ => True) (c := i) (B163.its (p := fun _ => True) trivial) HS.out (by simp) trivial
      rw [List.length_replicate] at hp3
      have HP3 := Lib.hid hp3
      have HIT3 := Lib.hid its3
      clear hp3 B162 B163 its2 its3 B2
      go_wp2_with fail
      refine (ld_Gain_yes (p := fun _ => True) _ _ _ _ 2500 32767 _ HP3.out (by rw [← HX.out]; exact HRF.out.1) (by omega) (by omega)).mono ?_
      rintro e w4 ⟨r, hr, rfl, hb4⟩
      rw [← HX.out, HRF.out.2.2.2.2.2.1, HRF.out.2.2.2.2.2.2] at hr
      have hr := gain_100 hr
      subst hr
      have B4 : Below w.heap.size w w4 := (B3.alloc B3.size (.cells #[.slice (some ⟨w.heap.size, 0, none⟩) i i] 44)).trans (hb4.mono (by have := B3.size; simp; omega))
      have m54 := (m5.alloc (.cells #[.slice (some ⟨w.heap.size, 0, none⟩) i i] 44)).ext hb4
      have its4 := (HIT3.out.ext ((Below.refl _ w3).alloc (Nat.le_refl _) (.cells #[.slice (some ⟨w.heap.size, 0, none⟩) i i] 44))).ext hb4
      have Z := B16.made w4 i
      have hz0 : Smp (List.replicate i 0) := fun x hx => by rw [List.eq_of_mem_replicate hx]; omega
      have hp4 := Pcm.one (p := fun _ => True) (c := i) (Z.its (p := fun _ => True) trivial) hz0 (by simp) trivial
      rw [List.length_replicate, World.size_alloc] at hp4
      have HZF := Lib.hid (zero_facts HN.out (sndOf [{ A := some ⟨w4.heap.size, 0, none⟩, n := i, c := i, l := List.replicate i 0 }]) rfl)
      have HP4 := Lib.hid hp4
      have HIT4 := Lib.hid its4
      have B5 := B4.alloc B4.size (zero16 i)
      have m55 := m54.alloc (zero16 i)
      clear hp4 hz0 Z its4 m5 m54 B3
      go_wp2_with fail
      refine (ld_Gain_yes (p := fun _ => True) _ _ _ _ 1 1 _ HP4.out HZF.out.1 (by omega) (by omega)).mono ?_
      rintro e w5 ⟨r, hr, rfl, hb5⟩
      rw [HZF.out.2.1, HZF.out.2.2] at hr
      have hr := gain_0 hr
      subst hr
      have B6 : Below w.heap.size w w5 := (B5.alloc B5.size (.cells #[.slice (some ⟨w4.heap.size, 0, none⟩) i i] 44)).trans (hb5.mono (by have := B5.size; simp at this; simp; omega))
      have m56 := (m55.alloc (.cells #[.slice (some ⟨w4.heap.size, 0, none⟩) i i] 44)).ext hb5
      have its5 := (((HIT4.out.alloc (zero16 i)).alloc (.cells #[.slice (some ⟨w4.heap.size, 0, none⟩) i i] 44))).ext hb5
      obtain ⟨bp, op, hA, _, hbl, hcl⟩ := its5.addr (by omega)
      subst hA
      have hc0 := hcl 0 4800000 rfl
      have d0 := m56.cell 0 rfl
      have d1 := m56.cell 1 rfl
      have lm := m56.lt
      rw [Nat.add_zero] at hc0
      clear hcl its5 m55 hb5 hb4 hb2
      go_wp2_with fail
      go_ret
      exact ⟨rfl, B6⟩
end Go.Proofs.Ytcgejbnmbamchaa
