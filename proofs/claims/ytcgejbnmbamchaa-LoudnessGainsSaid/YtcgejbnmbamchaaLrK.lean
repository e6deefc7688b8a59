/- Peak of the reference. -/
import Derived.Test.YtcgejbnmbamchaaLrA
import Derived.Test.YtcgejbnmbamchaaLdK
namespace Go.Proofs.Ytcgejbnmbamchaa
open Go.RowKit
attribute [local go_sem ↓] Go.wp_at_zero Go.wp_at_succ run_max_mm3

set_option maxRecDepth 100000 in
set_option maxHeartbeats 2000000 in
theorem lr_Peak {p : Nat → Prop} (A : Option Addr) (n c : Nat) (xs : List Ch) (w : World) (h : Pcm p w A n xs) (hn : n ≤ maxLen) :
    Calls Try.prog 18 #[.slice A n c] w fun e w' => e = .returned (.int .i64 (peakF (sndOf xs))) ∧ ∃ m, w' = w.drewN m := by
  obtain ⟨X, hX⟩ : ∃ X, X = sndOf xs := ⟨_, rfl⟩
  have HP := Lib.hid h
  have HX := Lib.hid hX
  have HSM : Hid (∀ c ∈ X, Smp c) := Lib.hid (by rw [hX]; exact h.smp)
  have HSL : Hid (X.length = n) := Lib.hid (by rw [hX]; exact h.slen)
  rw [← hX]
  clear h hX
  go_enter Try.func18, Try.ntmps18
  go_wp2_with fail
  refine (lr_Proper A n c xs _ HP.out hn).mono ?_
  rintro e w1 ⟨rfl, m, rfl⟩
  rw [← HX.out]
  cases hp : properB X with
  | false =>
    have hz : peakF X = 0 := by unfold peakF; rw [hp]; rfl
    have HZ := Lib.hid hz
    clear hz
    go_wp2_with fail
    go_ret
    exact ⟨ret_i64 HZ.out.symm, m, rfl⟩
  | true =>
    have hz : peakF X = peakL X := by unfold peakF; rw [hp]; rfl
    have HZF := Lib.hid hz
    have HPR := Lib.hid (proper_spec hp)
    clear hz hp hn
    have hn4 : n ≤ 4 := by have := HPR.out.2.1; rwa [HSL.out] at this
    obtain ⟨N, hN⟩ : ∃ N, N = wide X := ⟨_, rfl⟩
    have hNb : N ≤ 1048576 := by rw [hN]; exact HPR.out.2.2.1
    have HN := Lib.hid hN
    clear hN
    go_wp2_with fail
    go_loopw [4, 3] (fun i acc wr => PkRel w X i acc wr) (fun i _ _ => n - (intOf i).toNat)
    case atStart => exact ⟨0, m, 0, rfl, Nat.zero_le _, rfl, rfl, rfl⟩
    case round =>
      obtain ⟨k, m2, z, rfl, hk, rfl, hz, rfl⟩ := hrel
      rw [HSL.out] at hk
      have hzb := peakL_bound (X := X.take k) (fun c hc => HSM.out c (List.mem_of_mem_take hc))
      rw [← hz] at hzb
      have HZ := Lib.hid hz
      clear hz
      by_cases hkn : k < n
      · obtain ⟨b, off, x, rfl, _, hb, hx, hc, hi, hs, hxc, hxl⟩ := HP.out.at_ hkn
        have hxl' : X[k]? = some x.l := by rw [HX.out]; exact hxl
        have hxn : x.n = N := by
          have := HPR.out.2.2.2 x.l (List.mem_of_getElem? hxl')
          rw [← HN.out, hi.len] at this
          exact this
        have hxll := hi.len
        rw [hxn] at hc hxc hi hxll
        have HI := Lib.hid hi
        have HS := Lib.hid hs
        have HLL := Lib.hid hxll
        have HUP : Hid (peakL (X.take (k + 1)) = peakC z x.l) := Lib.hid (by rw [take_snoc_at hxl', peakL_snoc, HZ.out])
        have hknz : (k : Int) < (n : Int) := by omega
        have hknd : decide ((k : Int) < (n : Int)) = true := decide_eq_true hknz
        clear hx hi hs hxl hxl' hxll
        go_wp2_with fail
        go_loopw [5, 3] (fun i acc w2 => PkRel2 (w.drewN m2) z x.l i acc w2) (fun i _ _ => N - (intOf i).toNat)
        case atStart => exact ⟨0, 0, z, rfl, Nat.zero_le _, rfl, rfl, rfl⟩
        case round =>
          obtain ⟨s, m3, z3, rfl, hsN, rfl, hz3, rfl⟩ := hrel
          rw [HLL.out] at hsN
          have hz3b := peakC_bound (l := x.l.take s) (m := z) (fun y hy => HS.out y (List.mem_of_mem_take hy)) hzb
          rw [← hz3] at hz3b
          have HZ3 := Lib.hid hz3
          clear hz3
          by_cases hsl : s < N
          · obtain ⟨b1, off1, y, hA1, _, hb1, hy, hcy⟩ := HI.out.at_ hsl
            rw [hA1] at hc
            have hyb := HS.out _ (List.mem_of_getElem? hy)
            obtain ⟨hy1, hy2⟩ := hyb
            have e1 : IntKind.i64.wrap y = y := IntWalk.i64_in _ (by omega)
            have e2 : IntKind.i64.wrap (-y) = -y := IntWalk.i64_in _ (by omega)
            have hsz : (s : Int) < (N : Int) := by omega
            have hsd : decide ((s : Int) < (N : Int)) = true := decide_eq_true hsz
            have HY := Lib.hid hy
            have HA1 := Lib.hid hA1
            clear hy hA1
            go_wp2_with fail
            go_quiet (fail)
            go_wp2_with fail
            go_roundw
            case rel =>
              refine ⟨s + 1, _, max (max z3 y) (-y), by go_num, by rw [HLL.out]; omega, by go_num, ?_, by first | rfl | exact (World.drewN_drewN _ _ _).symm | (simp [World.drewN_drewN, Nat.add_assoc]; rfl)⟩
              rw [take_snoc_at HY.out, peakC_snoc, ← HZ3.out, absI]
              omega
            case measure => simp [intOf]; omega
          · obtain rfl : s = N := by omega
            have hz4 : z3 = peakL (X.take (k + 1)) := by rw [HUP.out, HZ3.out, List.take_of_length_le (by rw [HLL.out]; omega)]
            have hsd : decide ((s : Int) < (s : Int)) = false := decide_eq_false (by omega)
            go_wp2_with fail
            go_roundw
            case rel => exact ⟨k + 1, m2 + m3, z3, by go_num, by rw [HSL.out]; omega, rfl, hz4, rfl⟩
            case measure => simp [intOf]; omega
      · obtain rfl : k = n := by omega
        have hz2 : z = peakL X := by rw [HZ.out, List.take_of_length_le (by rw [HSL.out]; omega)]
        have HZ2 := Lib.hid hz2
        have hknd : decide ((k : Int) < (k : Int)) = false := decide_eq_false (by omega)
        clear hz2
        go_wp2_with fail
        go_ret
        exact ⟨ret_i64 (HZ2.out.trans HZF.out.symm), m2, rfl⟩
end Go.Proofs.Ytcgejbnmbamchaa
