/- LoudnessGains. -/
import Derived.Test.YtcgejbnmbamchaaLawPow
import Derived.Test.YtcgejbnmbamchaaLrGn
namespace Go.Proofs.Ytcgejbnmbamchaa
open Go.RowKit
attribute [local go_sem ↓] Go.wp_at_zero Go.wp_at_succ

set_option maxRecDepth 100000 in
set_option maxHeartbeats 4000000 in
theorem law_LoudnessGains (A0 : Option Addr) (n0 c0 : Nat) (xs0 : List Ch) (A : Option Addr) (n c : Nat) (L : List Int) (T pk : Int) (w : World) (h0 : Pcm (fun _ => True) w A0 n0 xs0) (h : Its .i64 (fun _ => True) w A n L) (hm0 : n0 ≤ maxLen ∧ n0 ≤ c0) (hok : IntsOk L) :
    Calls Try.prog 12 #[.slice A0 n0 c0, .slice A n c, .int .i64 T, .int .i64 pk] w fun e w' => e = .returned (.bool true) ∧ Below w.heap.size w w' := by
  have hmade := law_made A n c L 32767 w (h.mono (fun b hb _ => hb)) hok (by omega) (by omega)
  have HMD := Lib.hid hmade
  have HI := Lib.hid h
  have HOK := Lib.hid hok
  have HS0 : Hid (SndV w (.slice A0 n0 c0)) := Lib.hid ⟨_, _, _, xs0, rfl, h0, hm0.1, hm0.2⟩
  obtain ⟨T2, hT2⟩ : ∃ T2, bits .and .i64 T 4294967295 = T2 := ⟨_, rfl⟩
  obtain ⟨T3, hT3⟩ : ∃ T3, bits .and .i64 T 65535 = T3 := ⟨_, rfl⟩
  obtain ⟨p2, hp2⟩ : ∃ p2, bits .and .i64 pk 32767 = p2 := ⟨_, rfl⟩
  clear hmade h hok h0 hm0
  go_enter Try.func12, Try.ntmps12
  go_wp2_with fail
  refine HMD.out.mono ?_
  rintro e w1 ⟨B1, m1, k1, xs1, rfl, -, hp1, hc1, hk1, hb1⟩
  have HS1 : Hid (SndV w1 (.slice B1 m1 k1)) := Lib.hid ⟨_, _, _, xs1, rfl, hp1.mono (fun _ _ _ => trivial), chans_max hc1, hk1⟩
  have HM2 := Lib.hid (law_made A n c L 300 w1 ((HI.out.ext hb1).mono (fun b hb _ => hb)) HOK.out (by omega) (by omega))
  have HS01 := Lib.hid (HS0.out.ext hb1)
  clear hp1 hc1 hk1
  go_wp2_with fail
  refine HM2.out.mono ?_
  rintro e w2 ⟨B2, m2, k2, xs2, rfl, -, hp2', hc2, hk2, hb2⟩
  have HS2 : Hid (SndV w2 (.slice B2 m2 k2)) := Lib.hid ⟨_, _, _, xs2, rfl, hp2'.mono (fun _ _ _ => trivial), chans_max hc2, hk2⟩
  have HS02 := Lib.hid (HS01.out.ext hb2)
  have HS12 := Lib.hid (HS1.out.ext hb2)
  have BB := hb1.trans (hb2.mono hb1.size)
  clear hp2' hc2 hk2 hb1 hb2
  go_upto_region 2 with fail
  have x3 := Bx.new w2 22 #[.slice A0 n0 c0, .slice B1 m1 k1, .slice B2 m2 k2]
  have B3 := BB.alloc BB.size (.cells #[.slice A0 n0 c0, .slice B1 m1 k1, .slice B2 m2 k2] 22)
  have hbw := (Below.refl w2.heap.size w2).alloc (Nat.le_refl _) (.cells #[.slice A0 n0 c0, .slice B1 m1 k1, .slice B2 m2 k2] 22)
  have hS : ∀ i, i < 3 → ∃ v, #[.slice A0 n0 c0, .slice B1 m1 k1, .slice B2 m2 k2][i]? = some v ∧ SndV (w2.alloc (.cells #[.slice A0 n0 c0, .slice B1 m1 k1, .slice B2 m2 k2] 22)) v := by
    intro i hi
    rcases (by omega : i = 0 ∨ i = 1 ∨ i = 2) with rfl | rfl | rfl
    · exact ⟨_, rfl, HS02.out.ext hbw⟩
    · exact ⟨_, rfl, HS12.out.ext hbw⟩
    · exact ⟨_, rfl, HS2.out.ext hbw⟩
  have HSS := Lib.hid hS
  have HX3 := Lib.hid x3
  have hl3 := x3.lt
  generalize w2.alloc (.cells #[.slice A0 n0 c0, .slice B1 m1 k1, .slice B2 m2 k2] 22) = W at *
  generalize w2.heap.size = gl at *
  clear hS hbw x3 BB
  go_loopw [26] (fun v wr => ∃ i : Nat, v = .int .i64 (i : Int) ∧ i ≤ 3 ∧ Below W.heap.size W wr) (fun v _ => 3 - (intOf v).toNat)
  case atStart => exact ⟨0, rfl, by omega, Below.refl _ _⟩
  case round =>
    obtain ⟨i, rfl, hi, hb⟩ := hrel
    by_cases hlt : i < 3
    · obtain ⟨v, hv, hsv⟩ := HSS.out i hlt
      obtain ⟨As, ns, cs, xs, rfl, hpc, hnm, -⟩ := hsv
      have hxx := HX3.out.ext hb
      have hce := hxx.cell i hv
      have hlx := hxx.lt
      have HPC := Lib.hid (hpc.ext hb)
      have HNM := Lib.hid hnm
      obtain ⟨X, hX⟩ : ∃ X, X = sndOf xs := ⟨_, rfl⟩
      have HX := Lib.hid hX
      have hiz : (i : Int) < 3 := by omega
      have hid : decide ((i : Int) < 3) = true := decide_eq_true hiz
      clear hv hpc hnm hxx hX
      go_upto_region 5 with fail
      have y5 := Bx.new wr 2 #[.int .i64 T, .int .i64 T2, .int .i64 T3]
      have C5 := hb.alloc hb.size (.cells #[.int .i64 T, .int .i64 T2, .int .i64 T3] 2)
      have HP5 := Lib.hid (HPC.out.alloc (.cells #[.int .i64 T, .int .i64 T2, .int .i64 T3] 2))
      have hS5 : ∀ j, j < 3 → ∃ t : Int, #[Value.int .i64 T, .int .i64 T2, .int .i64 T3][j]? = some (.int .i64 t) := by
        intro j hj
        rcases (by omega : j = 0 ∨ j = 1 ∨ j = 2) with rfl | rfl | rfl
        · exact ⟨_, rfl⟩
        · exact ⟨_, rfl⟩
        · exact ⟨_, rfl⟩
      have HS5 := Lib.hid hS5
      have HY5 := Lib.hid y5
      generalize wr.alloc (.cells #[.int .i64 T, .int .i64 T2, .int .i64 T3] 2) = W5 at *
      generalize wr.heap.size = g5 at *
      clear hce hlx HPC hS5 y5 hb
      go_loopw [37] (fun v wr => ∃ j : Nat, v = .int .i64 (j : Int) ∧ j ≤ 3 ∧ Below W5.heap.size W5 wr) (fun v _ => 3 - (intOf v).toNat)
      case atStart => exact ⟨0, rfl, by omega, Below.refl _ _⟩
      case round =>
        obtain ⟨j, rfl, hj, hb⟩ := hrel
        by_cases hjt : j < 3
        · obtain ⟨t, ht⟩ := HS5.out j hjt
          have hxx := HY5.out.ext hb
          have hce := hxx.cell j ht
          have hlx := hxx.lt
          have HP6 := Lib.hid (HP5.out.ext hb)
          have hjz : (j : Int) < 3 := by omega
          have hjd : decide ((j : Int) < 3) = true := decide_eq_true hjz
          clear ht hxx
          go_upto_region 8 with fail
          have y8 := Bx.new wr 3 #[.int .i64 pk, .int .i64 p2]
          have C8 := hb.alloc hb.size (.cells #[.int .i64 pk, .int .i64 p2] 3)
          have HP8 := Lib.hid (HP6.out.alloc (.cells #[.int .i64 pk, .int .i64 p2] 3))
          have hS8 : ∀ j, j < 2 → ∃ t : Int, #[Value.int .i64 pk, .int .i64 p2][j]? = some (.int .i64 t) := by
            intro j hj
            rcases (by omega : j = 0 ∨ j = 1) with rfl | rfl
            · exact ⟨_, rfl⟩
            · exact ⟨_, rfl⟩
          have HS8 := Lib.hid hS8
          have HY8 := Lib.hid y8
          generalize wr.alloc (.cells #[.int .i64 pk, .int .i64 p2] 3) = W8 at *
          generalize wr.heap.size = g8 at *
          clear hce hlx HP6 hS8 y8 hb
          go_loopw [46] (fun v wr => ∃ k : Nat, v = .int .i64 (k : Int) ∧ k ≤ 2 ∧ Below W8.heap.size W8 wr) (fun v _ => 2 - (intOf v).toNat)
          case atStart => exact ⟨0, rfl, by omega, Below.refl _ _⟩
          case round =>
            obtain ⟨k, rfl, hk, hb⟩ := hrel
            by_cases hkt : k < 2
            · obtain ⟨q, hq⟩ := HS8.out k hkt
              have hxx := HY8.out.ext hb
              have hce := hxx.cell k hq
              have hlx := hxx.lt
              have HP9 := Lib.hid (HP8.out.ext hb)
              have hkz : (k : Int) < 2 := by omega
              have hkd : decide ((k : Int) < 2) = true := decide_eq_true hkz
              clear hq hxx
              go_wp2_with fail
              refine (ld_Gain As ns cs xs t q _ HP9.out).mono ?_
              rintro e wa ⟨a, er, rfl, hga, hba⟩
              rw [← HX.out] at hga
              have Ba := hb.trans (hba.mono hb.size)
              have HPa := Lib.hid (HP9.out.ext hba)
              have HGA := Lib.hid hga
              clear hga hba hce hlx hb
              go_wp2_with fail
              refine (lr_Gain As ns cs xs t q _ HPa.out HNM.out).mono ?_
              rintro e wb ⟨a2, er2, rfl, hgb, hbb⟩
              rw [← HX.out] at hgb
              obtain ⟨rfl, rfl⟩ := gnV_uniq HGA.out hgb
              have Bb := Ba.trans (hbb.mono Ba.size)
              clear hgb hbb Ba
              go_wp2_with fail
              go_roundw
              case rel => exact ⟨k + 1, by go_num, by omega, Bb⟩
              case measure => simp [intOf]; omega
            · obtain rfl : k = 2 := by omega
              have B9 := C8.trans (hb.mono C8.size)
              go_wp2_with fail
              go_roundw
              case rel => exact ⟨j + 1, by go_num, by omega, B9⟩
              case measure => simp [intOf]; omega
        · obtain rfl : j = 3 := by omega
          have B9 := C5.trans (hb.mono C5.size)
          go_wp2_with fail
          go_roundw
          case rel => exact ⟨i + 1, by go_num, by omega, B9⟩
          case measure => simp [intOf]; omega
    · obtain rfl : i = 3 := by omega
      have B9 : Below w.heap.size w wr := B3.trans (hb.mono B3.size)
      go_wp2_with fail
      refine (law_awake _).mono ?_
      rintro e wf ⟨rfl, hbf⟩
      go_wp2_with fail
      go_ret
      exact ⟨rfl, B9.trans (hbf.mono B9.size)⟩
end Go.Proofs.Ytcgejbnmbamchaa
