/- LoudnessMonotone. -/
import Derived.Test.YtcgejbnmbamchaaLdAw2
import Derived.Test.YtcgejbnmbamchaaLdV2
namespace Go.Proofs.Ytcgejbnmbamchaa
open Go.RowKit
attribute [local go_sem ↓] Go.wp_at_zero Go.wp_at_succ run_min_mm run_max_mm

theorem gainB_more {g num den T p pk T2 pk2 : Nat} (h1 : T ≤ T2) (h2 : pk ≤ pk2) (h : gainB g num den T p pk = true) : gainB g num den T2 p pk2 = true := by
  simp only [gainB, Bool.and_eq_true, decide_eq_true_eq] at h ⊢
  exact ⟨Nat.le_trans h.1 (Nat.mul_le_mul_right _ (Nat.mul_le_mul_right _ h1)), Nat.le_trans h.2 (Nat.mul_le_mul_right _ h2)⟩
theorem gain_le {l : List Int} {p T pk T2 pk2 r s : Nat} (h1 : T ≤ T2) (h2 : pk ≤ pk2) (hr : GainIs l p T pk r) (hs : GainIs l p T2 pk2 s) : r ≤ s := by
  rcases Nat.lt_or_ge s r with h | h
  · have e1 := hs.2.2 (by have := hr.1; omega)
    have e2 := gainB_more h1 h2 (gainB_mono (a := s + 1) (b := r) (by omega) hr.2.1)
    rw [e1] at e2
    cases e2
  · exact h
theorem u16_and (x : Nat) (h : x ≤ 65535) : bits .and .u16 (x : Int) 32767 = ((x % 32768 : Nat) : Int) := by
  show IntKind.u16.wrap ((BitVec.ofInt 16 (x : Int) &&& BitVec.ofInt 16 32767).toNat : Int) = _
  have h1 : (BitVec.ofInt 16 (x : Int) &&& BitVec.ofInt 16 32767).toNat = x % 32768 := by
    rw [BitVec.toNat_and, show (BitVec.ofInt 16 32767).toNat = 2 ^ 15 - 1 from rfl, Nat.and_two_pow_sub_one_eq_mod, BitVec.toNat_ofInt]
    omega
  rw [h1]
  simp [IntKind.wrap, IntKind.signed, IntKind.bits]
  omega
/-- Sound that a tape makes. -/
theorem made_ok {xs : List Ch} {L : List Int} {most : Nat} (h : sndOf xs = madeS L most) : properB (sndOf xs) = true := by rw [h]; exact madeS_proper L most

set_option maxRecDepth 100000 in
set_option maxHeartbeats 4000000 in
theorem law_LoudnessMonotone (A : Option Addr) (n c : Nat) (L : List Int) (a b p q : Int) (w : World) (h : Its .i64 (fun _ => True) w A n L) (ha : 0 ≤ a ∧ a ≤ 65535) (hb : 0 ≤ b ∧ b ≤ 65535) (hp : 0 ≤ p ∧ p ≤ 65535) (hq : 0 ≤ q ∧ q ≤ 65535) (hok : IntsOk L) :
    Calls Try.prog 5 #[.slice A n c, .int .u16 a, .int .u16 b, .int .u16 p, .int .u16 q] w fun e w' => e = .returned (.bool true) ∧ Below w.heap.size w w' := by
  obtain ⟨lo, hlo⟩ : ∃ lo : Nat, min a b = (lo : Int) := ⟨(min a b).toNat, by omega⟩
  obtain ⟨hi, hhi⟩ : ∃ hi : Nat, max a b = (hi : Int) := ⟨(max a b).toNat, by omega⟩
  obtain ⟨k, hk⟩ : ∃ k : Nat, min p q = (k : Int) := ⟨(min p q).toNat, by omega⟩
  have hand := u16_and k (by omega)
  obtain ⟨m, hm⟩ : ∃ m, m = k % 32768 := ⟨_, rfl⟩
  rw [← hm] at hand
  have hmb : m ≤ 32767 := by omega
  have hlob : lo ≤ 65535 := by omega
  have hhib : hi ≤ 65535 := by omega
  have hlh : lo ≤ hi := by omega
  have HLH := Lib.hid hlh
  have hmade := law_made A n c L 3000 w (h.mono (fun b hb _ => hb)) hok (by omega) (by omega)
  have HMD := Lib.hid hmade
  clear hm hlh hmade h
  go_enter Try.func5, Try.ntmps5
  go_wp2_with fail
  refine HMD.out.mono ?_
  rintro e w1 ⟨B, m1, k1, xs, rfl, hxs, hpc, -, -, hb1⟩
  have HPC := Lib.hid hpc
  have HPR := Lib.hid (made_ok hxs)
  clear hxs hpc
  go_wp2_with fail
  refine (ld_Gain_yes B m1 k1 xs lo m _ HPC.out HPR.out (by omega) hmb).mono ?_
  rintro e w2 ⟨r1, hr1, rfl, hb2⟩
  have HR1 := Lib.hid hr1
  have HPC2 := Lib.hid (HPC.out.ext hb2)
  have B2 := hb1.trans (hb2.mono hb1.size)
  clear hr1
  go_wp2_with fail
  refine (ld_Gain_yes B m1 k1 xs hi m _ HPC2.out HPR.out (by omega) hmb).mono ?_
  rintro e w3 ⟨r2, hr2, rfl, hb3⟩
  have HR2 := Lib.hid hr2
  have HPC3 := Lib.hid (HPC2.out.ext hb3)
  have B3 := B2.trans (hb3.mono B2.size)
  clear hr2
  go_wp2_with fail
  refine (ld_Gain_yes B m1 k1 xs lo 32767 _ HPC3.out HPR.out (by omega) (by omega)).mono ?_
  rintro e w4 ⟨r3, hr3, rfl, hb4⟩
  have B4 := B3.trans (hb4.mono B3.size)
  have j1 : r1 ≤ r2 := gain_le HLH.out (Nat.le_refl _) HR1.out HR2.out
  have j2 : r1 ≤ r3 := gain_le (Nat.le_refl _) hmb HR1.out hr3
  have j1' : decide ((r1 : Int) ≤ (r2 : Int)) = true := decide_eq_true (by omega)
  have j2' : decide ((r1 : Int) ≤ (r3 : Int)) = true := decide_eq_true (by omega)
  clear hr3 hb1 hb2 hb3 hb4 B2 B3
  go_wp2_with fail
  refine (law_awake _).mono ?_
  rintro e w5 ⟨rfl, hb5⟩
  go_wp2_with fail
  go_ret
  exact ⟨rfl, B4.trans (hb5.mono B4.size)⟩
end Go.Proofs.Ytcgejbnmbamchaa
