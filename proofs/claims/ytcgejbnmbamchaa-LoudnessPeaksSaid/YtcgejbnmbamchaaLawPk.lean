/- LoudnessPeaks. -/
import Derived.Test.YtcgejbnmbamchaaLawMono
import Derived.Test.YtcgejbnmbamchaaChanM
import Derived.Test.YtcgejbnmbamchaaLdY2
import Derived.Test.YtcgejbnmbamchaaLdSm
namespace Go.Proofs.Ytcgejbnmbamchaa
open Go.RowKit
attribute [local go_sem ↓] Go.wp_at_zero Go.wp_at_succ

theorem applV_unit {x : Int} (h : -32768 ≤ x ∧ x ≤ 32767) : applV 4096 x = x := by unfold applV; omega
theorem applS_unit {X : Snd} (h : ∀ c ∈ X, Smp c) : applS 4096 X = X := by
  unfold applS
  refine (List.map_congr_left (fun c hc => ?_)).trans (List.map_id X)
  unfold applC
  exact (List.map_congr_left (fun x hx => applV_unit (h c hc x hx))).trans (List.map_id c)
theorem applS_proper {g : Int} {X : Snd} (h : properB X = true) : properB (applS g X) = true := by
  obtain ⟨h1, h2, hw, hall⟩ := proper_spec h
  have hw2 : ((applS g X).headD []).length = wide X := by
    unfold wide applS
    cases X with
    | nil => rfl
    | cons a X => simp [applC]
  simp only [properB, Bool.and_eq_true, decide_eq_true_eq, List.all_eq_true, hw2]
  refine ⟨by simp [applS]; omega, fun c hc => ?_⟩
  obtain ⟨c', hc', rfl⟩ := List.mem_map.1 hc
  rw [applC_len, hall c' hc']
  exact ⟨rfl, hw⟩
theorem applV_peak {x : Int} {r p pk : Nat} (hx : absI x ≤ p) (h : r * p ≤ pk * 4096) (hpk : pk ≤ 32767) : absI (applV r x) ≤ pk := by
  have hb : -((pk * 4096 : Nat) : Int) ≤ x * (r : Int) ∧ x * (r : Int) ≤ ((pk * 4096 : Nat) : Int) := by
    have h1 : (x * (r : Int)).natAbs = x.natAbs * r := by rw [Int.natAbs_mul, Int.natAbs_natCast]
    have h2 : x.natAbs ≤ p := by unfold absI at hx; omega
    have h3 : x.natAbs * r ≤ r * p := by rw [Nat.mul_comm]; exact Nat.mul_le_mul_left r h2
    omega
  unfold applV absI
  omega
theorem peak_ge {X : Snd} (h : properB X = true) : ∀ c ∈ X, ∀ x ∈ c, absI x ≤ peakF X := by
  have e : peakF X = peakL X := by unfold peakF; rw [h]; rfl
  rw [e]
  exact (peakL_le.1 (Int.le_refl _)).2
theorem applS_peak {X : Snd} {r p pk : Nat} (hp : properB X = true) (hpk : pk ≤ 32767) (hpp : peakF X = (p : Int)) (h : r * p ≤ pk * 4096) : peakF (applS r X) ≤ pk := by
  have e : peakF (applS r X) = peakL (applS r X) := by unfold peakF; rw [applS_proper hp]; rfl
  rw [e, peakL_le]
  refine ⟨by omega, fun c hc x hx => ?_⟩
  obtain ⟨c', hc', rfl⟩ := List.mem_map.1 hc
  obtain ⟨y, hy, rfl⟩ := List.mem_map.1 hx
  exact applV_peak (by rw [← hpp]; exact peak_ge hp c' hc' y hy) h hpk

set_option maxRecDepth 100000 in
set_option maxHeartbeats 4000000 in
theorem law_LoudnessPeaks (A : Option Addr) (n c : Nat) (L : List Int) (t p : Int) (w : World) (h : Its .i64 (fun _ => True) w A n L) (ht : 0 ≤ t ∧ t ≤ 65535) (hp : 0 ≤ p ∧ p ≤ 65535) (hok : IntsOk L) :
    Calls Try.prog 11 #[.slice A n c, .int .u16 t, .int .u16 p] w fun e w' => e = .returned (.bool true) ∧ Below w.heap.size w w' := by
  obtain ⟨T, rfl⟩ := Int.eq_ofNat_of_zero_le ht.1
  obtain ⟨P, rfl⟩ := Int.eq_ofNat_of_zero_le hp.1
  have hand := u16_and P (by omega)
  obtain ⟨pk, hpk⟩ : ∃ pk, pk = P % 32768 := ⟨_, rfl⟩
  rw [← hpk] at hand
  have hpkb : pk ≤ 32767 := by omega
  have hTb : T ≤ 65535 := by omega
  have hmade := law_made A n c L 32767 w (h.mono (fun b hb _ => hb)) hok (by omega) (by omega)
  have HMD := Lib.hid hmade
  clear hpk hmade h ht hp
  go_enter Try.func11, Try.ntmps11
  go_wp2_with fail
  refine HMD.out.mono ?_
  rintro e w1 ⟨B, m1, k1, xs, rfl, hxs, hpc, hm1, -, hb1⟩
  have HPC := Lib.hid hpc
  have hprop := made_ok hxs
  have hsm := hpc.smp
  obtain ⟨X, hX⟩ : ∃ X, X = sndOf xs := ⟨_, rfl⟩
  rw [← hX] at hprop hsm
  have hpb := peakF_bound hsm
  obtain ⟨pp, hpp⟩ := Int.eq_ofNat_of_zero_le hpb.1
  have hm4 : m1 ≤ 4 := by have := (chans_le L).2; omega
  have hlen : ∀ x ∈ xs, x.n ≤ 1048576 := by
    intro x hx
    obtain ⟨h1, h2, h3, h4⟩ := proper_spec hprop
    have := h4 x.l (by rw [hX]; exact List.mem_map_of_mem hx)
    rw [(hpc.2 x hx).1.len] at this
    omega
  have HPR := Lib.hid hprop
  have HX := Lib.hid (And.intro hX (And.intro hsm hpp))
  have HLEN := Lib.hid hlen
  clear hxs hpc hprop hsm hX hpp hpb hlen hm1
  go_wp2_with fail
  refine (ld_Gain_yes B m1 k1 xs T pk _ HPC.out (by rw [← HX.out.1]; exact HPR.out) (by omega) hpkb).mono ?_
  rintro e w2 ⟨r, hr, rfl, hb2⟩
  rw [← HX.out.1, HX.out.2.2, Int.toNat_natCast] at hr
  have hrb := hr.1
  have hrp : r * pp ≤ pk * 4096 := by
    have := hr.2.1
    simp only [gainB, Bool.and_eq_true, decide_eq_true_eq] at this
    exact this.2
  have HAP := Lib.hid (applS_peak HPR.out hpkb HX.out.2.2 hrp)
  have HPC2 := Lib.hid (HPC.out.ext hb2)
  have B2 := hb1.trans (hb2.mono hb1.size)
  clear hr hb1 hb2 hrp
  go_wp2_with fail
  refine (ld_Apply_yes B m1 k1 r xs _ HPC2.out (by rw [← HX.out.1]; exact HPR.out) hrb).mono ?_
  rintro e w3 ⟨By, my, ky, ys, rfl, hys, hpy, -, -, hb3⟩
  rw [← HX.out.1] at hys
  have HYS := Lib.hid hys
  have HPY := Lib.hid hpy
  have HPC3 := Lib.hid (HPC2.out.ext hb3)
  have B3 := B2.trans (hb3.mono B2.size)
  clear hys hpy hb3 B2
  go_wp2_with fail
  refine (ld_Apply_yes B m1 k1 4096 xs _ HPC3.out (by rw [← HX.out.1]; exact HPR.out) (by omega)).mono ?_
  rintro e w4 ⟨Bz, mz, kz, zs, rfl, hzs, hpz, -, -, hb4⟩
  have hzx : sndOf zs = X := by
    rw [hzs, ← HX.out.1]
    exact applS_unit HX.out.2.1
  have HZX := Lib.hid hzx
  have HPZ := Lib.hid hpz
  have HPC4 := Lib.hid (HPC3.out.ext hb4)
  have HPY4 := Lib.hid (HPY.out.ext hb4)
  have B4 := B3.trans (hb4.mono B3.size)
  clear hzs hpz hzx hb4 B3
  go_wp2_with fail
  refine (ld_Peak By my ky ys _ HPY4.out).mono ?_
  rintro e w5 ⟨rfl, m5, rfl⟩
  rw [HYS.out]
  obtain ⟨q, hq⟩ : ∃ q, q = peakF (applS (r : Int) X) := ⟨_, rfl⟩
  have hqk := HAP.out
  rw [← hq] at hqk ⊢
  have hqd : decide (q ≤ (pk : Int)) = true := decide_eq_true hqk
  have B5 := bdrewN B4 m5
  have HPC5 := Lib.hid (HPC4.out.drewN m5)
  have HPZ5 := Lib.hid (HPZ.out.drewN m5)
  generalize w4.drewN m5 = w5 at *
  clear hq B4
  go_wp2_with fail
  refine (r27_Same B Bz m1 k1 mz kz xs zs _ HPC5.out HPZ5.out hm4 HLEN.out).mono ?_
  rintro e w6 ⟨rfl, m6, rfl⟩
  rw [HZX.out, ← HX.out.1, decide_eq_true rfl]
  have B6 := bdrewN B5 m6
  generalize w5.drewN m6 = w6 at *
  go_wp2_with fail
  refine (law_awake _).mono ?_
  rintro e w7 ⟨rfl, hb7⟩
  go_wp2_with fail
  go_ret
  exact ⟨rfl, B6.trans (hb7.mono B6.size)⟩
end Go.Proofs.Ytcgejbnmbamchaa
