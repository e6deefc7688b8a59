/- The reference's Jitter. -/
import Derived.Test.YtdnchjmopkhnaaaClkAll
namespace Go.Proofs.Ytdnchjmopkhnaaa
open Go.RowKit
attribute [local go_sem ↓] Go.wp_at_zero Go.wp_at_succ run_min_mm run_max_mm

theorem jSt_from (B : Nat) (pid : Int) (ps : List TP) : ∀ k f c, (jSt B pid ps k).1 = some (f, c) → ∃ x, ps[f]? = some x ∧ x.clk = c
  | 0, f, c, h => by simp [jSt] at h
  | k + 1, f, c, h => by
    rcases hx : ps[k]? with _ | x
    · simp only [jSt, hx] at h
      exact jSt_from B pid ps k f c h
    · rw [jSt_succ hx] at h
      unfold jStep at h
      split at h
      · simp only [Option.some.injEq] at h
        rcases hs : (jSt B pid ps k).1 with _ | ⟨f', c'⟩
        · rw [hs] at h
          simp only [Option.getD_none, Prod.mk.injEq] at h
          obtain ⟨rfl, rfl⟩ := h
          exact ⟨x, hx, rfl⟩
        · rw [hs] at h
          simp only [Option.getD_some, Prod.mk.injEq] at h
          obtain ⟨rfl, rfl⟩ := h
          exact jSt_from B pid ps k f' c' hs
      · exact jSt_from B pid ps k f c h

def JitRelR (w : World) (B : Nat) (pid : Int) (n : Nat) (ps : List TP) (a m i : Value) (wr : World) : Prop :=
  ∃ k : Nat, k ≤ n ∧ i = .int .i64 (k : Int) ∧ a = .int .i64 (firstV (jSt B pid ps k).1) ∧ m = .int .i64 (jSt B pid ps k).2 ∧ Below w.heap.size w wr

set_option maxRecDepth 100000 in
set_option maxHeartbeats 4000000 in
theorem ref_Jitter {p : Nat → Prop} (A : Option Addr) (n c : Nat) (qs : List TA) (pid : Int) (B : Nat) (w : World) (h : Rw p w A n 5 (tpCells qs)) (hl : qs.length = n) (h1 : 1 ≤ B) (h2 : B ≤ 1073741824) (hn : n ≤ 100000) :
    Calls Try.prog 31 #[.slice A n c, .int .i64 pid, .int .i64 (B : Int)] w fun e w' => e = .returned (.tuple #[.int .i64 (jSt B pid (datas qs) n).2, .int .i64 0]) ∧ Below w.heap.size w w' := by
  have H := Lib.hid h
  have HL := Lib.hid hl
  have t1 : decide ((B : Int) < 1) = false := decide_eq_false (by omega)
  have t2 : decide (1073741824 < (B : Int)) = false := decide_eq_false (by omega)
  clear h hl
  go_enter Try.func31, Try.ntmps31
  go_wp2_with fail
  go_loopw [8, 9, 10] (fun a m i wr => JitRelR w B pid n (datas qs) a m i wr) (fun _ _ i _ => n - (intOf i).toNat)
  case atStart => exact ⟨0, Nat.zero_le _, rfl, rfl, rfl, Below.refl _ _⟩
  case round =>
    obtain ⟨k, hk, rfl, rfl, rfl, hb⟩ := hrel
    by_cases hlt : k < n
    · obtain ⟨b0, off, x, rfl, hbl, hx, hc0, hc1, hc2, hc3, hc4⟩ := rw5_at (H.out.ext hb) HL.out hlt
      obtain ⟨⟨pd, cnt, st, clk, pl⟩, A1, n1, c1⟩ := x
      dsimp only at hc0 hc1 hc2 hc3 hc4
      have hxd : (datas qs)[k]? = some ⟨pd, cnt, st, clk, pl⟩ := by simp [datas, hx]
      have HX := Lib.hid hxd
      have HOK := Lib.hid (jSt_ok B pid (datas qs) k)
      have HFR := Lib.hid (jSt_from B pid (datas qs) k)
      have i0 : (0 : Int) ≤ (k : Int) := by omega
      have i1 : (k : Int) < (n : Int) := by omega
      clear hx hxd
      by_cases hin : pd = pid ∧ 0 ≤ clk ∧ clk < 2576980377600
      · obtain ⟨m, hm⟩ : ∃ m, (jSt B pid (datas qs) k).2 = m := ⟨_, rfl⟩
        have hmr : 0 ≤ m ∧ m < 2576980377600 := by rw [← hm]; exact HOK.out.2
        obtain ⟨a, ha⟩ : ∃ a, arrN k B = a := ⟨_, rfl⟩
        have har := arr_le k B 100000 (by omega) (by omega)
        rw [ha] at har
        have hca := fun w => ref_Arrival k B w ⟨by omega, by omega⟩ ⟨by omega, by omega⟩
        rw [arrE_arrN k B ⟨h1, h2⟩ (by omega), ha] at hca
        have HCA := Lib.hid hca
        have HA := Lib.hid ha
        have HM := Lib.hid hm
        clear hca ha
        rw [hm]
        rcases hfo : (jSt B pid (datas qs) k).1 with _ | ⟨f, cf⟩
        · have hnx := jit_first HX.out hin hfo
          rw [hm] at hnx
          have HN := Lib.hid hnx
          obtain ⟨rfl, hk0, hkW⟩ := hin
          have fv : firstV (none : Option (Nat × Int)) = -1 := rfl
          obtain ⟨cf, hcf⟩ : ∃ cf, cf = clk := ⟨_, rfl⟩
          obtain ⟨b, hbb⟩ : ∃ b, b = a := ⟨_, rfl⟩
          have HB : Hid (arrN k B = b) := Lib.hid (by rw [hbb]; exact HA.out)
          rw [fv]
          clear hfo hm hnx fv HOK HFR
          go_wp2_with fail
          refine (HCA.out _).mono ?_
          rintro e w1 ⟨rfl, hb1⟩
          go_wp2_with fail
          refine (HCA.out _).mono ?_
          rintro e w2 ⟨rfl, hb2⟩
          have B2 := (hb.trans (hb1.mono hb.size)).trans (hb2.mono (by have := hb.size; have := hb1.size; omega))
          have c3 : w2.cell? ⟨b0, off + k * 5 + 3, none⟩ = some (.int .i64 clk) := ((hb1.trans (hb2.mono hb1.size)).cell (p := ⟨b0, off + k * 5 + 3, none⟩) hbl).trans hc3
          have hj0 : jD B k clk k clk = 0 := by unfold jD; omega
          have HJ0 := Lib.hid hj0
          clear hj0
          go_wp2_with fail
          go_quiet (fail)
          go_wp2_with fail
          go_roundw
          case rel => exact ⟨k + 1, by omega, by go_num, by rw [HN.out]; rfl, by rw [HN.out]; simp only [jErr]; rw [HJ0.out]; rfl, bdrewN B2 _⟩
          case measure => (simp [intOf]; try omega)
        · obtain ⟨hfk, hc0f, hcWf⟩ := HOK.out.1 f cf hfo
          obtain ⟨y, hy, hyc⟩ := HFR.out f cf hfo
          have hnx := jit_later HX.out hin hfo
          rw [hm] at hnx
          have HN := Lib.hid hnx
          obtain ⟨rfl, hk0, hkW⟩ := hin
          have fv : firstV (some (f, cf)) = (f : Int) := rfl
          have hf0 : decide ((f : Int) < 0) = false := decide_eq_false (by omega)
          have f0 : (0 : Int) ≤ (f : Int) := by omega
          have f1 : (f : Int) < (n : Int) := by omega
          obtain ⟨b, hbb⟩ : ∃ b, arrN f B = b := ⟨_, rfl⟩
          have hbr := arr_le f B 100000 (by omega) (by omega)
          rw [hbb] at hbr
          have hcb := fun w => ref_Arrival f B w ⟨by omega, by omega⟩ ⟨by omega, by omega⟩
          rw [arrE_arrN f B ⟨h1, h2⟩ (by omega), hbb] at hcb
          have HCB := Lib.hid hcb
          have HB := Lib.hid hbb
          obtain ⟨b1, off1, x1, hAA, hbl1, hx1, hd0, hd1, hd2, hd3, hd4⟩ := rw5_at (H.out.ext hb) HL.out (show f < n by omega)
          injection hAA with hAA
          injection hAA with e1 e2
          subst e1 e2
          have hcf : x1.p.clk = cf := by
            rw [← hyc]
            have : (datas qs)[f]? = some x1.p := by simp [datas, hx1]
            rw [this] at hy
            injection hy with hy
            rw [hy]
          rw [hcf] at hd3
          rw [fv]
          clear hfo hm hnx fv HOK HFR hcb hbb hy hyc hx1 hd0 hd1 hd2 hd4 hcf
          go_wp2_with fail
          refine (HCA.out _).mono ?_
          rintro e w1 ⟨rfl, hb1⟩
          go_wp2_with fail
          refine (HCB.out _).mono ?_
          rintro e w2 ⟨rfl, hb2⟩
          have B2 := (hb.trans (hb1.mono hb.size)).trans (hb2.mono (by have := hb.size; have := hb1.size; omega))
          have c3 : w2.cell? ⟨b0, off + k * 5 + 3, none⟩ = some (.int .i64 clk) := ((hb1.trans (hb2.mono hb1.size)).cell (p := ⟨b0, off + k * 5 + 3, none⟩) hbl).trans hc3
          have c4 : w2.cell? ⟨b0, off + f * 5 + 3, none⟩ = some (.int .i64 cf) := ((hb1.trans (hb2.mono hb1.size)).cell (p := ⟨b0, off + f * 5 + 3, none⟩) hbl).trans hd3
          clear hc0 hc1 hc2 hc3 hc4 hd3
          have u1 : IntKind.i64.wrap (clk - cf) = clk - cf := IntWalk.i64_in _ (by omega)
          have u2 : IntKind.i64.wrap ((a : Int) - (b : Int)) = (a : Int) - (b : Int) := IntWalk.i64_in _ (by omega)
          obtain ⟨r, hr⟩ : ∃ r, ((a : Int) - (b : Int)).tmod 2576980377600 = r := ⟨_, rfl⟩
          have hrr : -2576980377600 < r ∧ r < 2576980377600 := by rw [← hr]; exact tmod_rng _
          have u3 : IntKind.i64.wrap (clk - cf - r) = clk - cf - r := IntWalk.i64_in _ (by omega)
          obtain ⟨t, ht⟩ : ∃ t, (clk - cf - r).tmod 2576980377600 = t := ⟨_, rfl⟩
          have htr : -2576980377600 < t ∧ t < 2576980377600 := by rw [← ht]; exact tmod_rng _
          have wr1 : IntKind.i64.wrap r = r := IntWalk.i64_in _ (by omega)
          have wt1 : IntKind.i64.wrap t = t := IntWalk.i64_in _ (by omega)
          have hD := jD_ref B f cf k clk r t _ (by rw [HA.out, HB.out]; exact hr) ht rfl
          have HD := Lib.hid hD
          have HR := Lib.hid hr
          have HT := Lib.hid ht
          clear hD
          go_wp2_with fail
          go_quiet (fail)
          rcases Int.lt_or_le t 0 with ht0 | ht0
          · have hd0 := HD.out
            rw [if_pos ht0] at hd0
            have u4 : IntKind.i64.wrap (t + 2576980377600) = t + 2576980377600 := IntWalk.i64_in _ (by omega)
            obtain ⟨d, hd⟩ : ∃ d, t + 2576980377600 = d := ⟨_, rfl⟩
            rw [hd] at hd0 u4
            have u5 : IntKind.i64.wrap (2576980377600 - d) = 2576980377600 - d := IntWalk.i64_in _ (by omega)
            have HD0 := Lib.hid hd0
            have HDD := Lib.hid hd
            have hdr : 0 ≤ d ∧ d < 2576980377600 := by omega
            clear hd0
            go_wp2_with fail
            go_roundw
            case rel => exact ⟨k + 1, by omega, by go_num, by rw [HN.out]; rfl, by rw [HN.out]; simp only [jErr]; rw [← HD0.out], bdrewN B2 _⟩
            case measure => (simp [intOf]; try omega)
          · have hd0 := HD.out
            rw [if_neg (by omega)] at hd0
            have u5 : IntKind.i64.wrap (2576980377600 - t) = 2576980377600 - t := IntWalk.i64_in _ (by omega)
            have HD0 := Lib.hid hd0
            clear hd0
            go_wp2_with fail
            go_roundw
            case rel => exact ⟨k + 1, by omega, by go_num, by rw [HN.out]; rfl, by rw [HN.out]; simp only [jErr]; rw [← HD0.out], bdrewN B2 _⟩
            case measure => (simp [intOf]; try omega)
      · have HN : Hid (jSt B pid (datas qs) (k + 1) = jSt B pid (datas qs) k) := Lib.hid (jit_none HX.out hin)
        rcases (by omega : pd ≠ pid ∨ pd = pid ∧ clk < 0 ∨ pd = pid ∧ 0 ≤ clk ∧ 2576980377600 ≤ clk) with hq | ⟨rfl, hq⟩ | ⟨rfl, hq, hq2⟩
        all_goals
          clear hin
          go_wp2_with fail
          go_roundw
          case rel => exact ⟨k + 1, by omega, by go_num, by rw [HN.out], by rw [HN.out], hb⟩
          case measure => (simp [intOf]; try omega)
    · have hkn : k = n := by omega
      subst hkn
      go_wp2_with fail
      go_ret2
      exact ⟨rfl, hb⟩
end Go.Proofs.Ytdnchjmopkhnaaa
