/- LoudnessGates. -/
import Derived.Test.YtcgejbnmbamchaaLawPow
import Derived.Test.YtcgejbnmbamchaaLrN
import Derived.Test.YtcgejbnmbamchaaLdSI
namespace Go.Proofs.Ytcgejbnmbamchaa
open Go.RowKit
attribute [local go_sem ↓] Go.wp_at_zero Go.wp_at_succ

theorem gateO_len {X : Snd} (h : ∀ c ∈ X, Smp c) : (natI (gateO X)).length ≤ 8735 := by
  rw [natI_len]
  unfold gateO
  split
  · rename_i hp
    exact Nat.le_trans (gateL_len _) (powersL_bound hp h).1
  · simp
set_option maxRecDepth 100000 in
set_option maxHeartbeats 4000000 in
theorem law_LoudnessGates (A0 : Option Addr) (n0 c0 : Nat) (xs0 : List Ch) (A : Option Addr) (n c : Nat) (L : List Int) (w : World) (h0 : Pcm (fun _ => True) w A0 n0 xs0) (h : Its .i64 (fun _ => True) w A n L) (hm0 : n0 ≤ maxLen ∧ n0 ≤ c0) (hok : IntsOk L) :
    Calls Try.prog 7 #[.slice A0 n0 c0, .slice A n c] w fun e w' => e = .returned (.bool true) ∧ Below w.heap.size w w' := by
  have hmade := law_made A n c L 32767 w (h.mono (fun b hb _ => hb)) hok (by omega) (by omega)
  have HMD := Lib.hid hmade
  have HI := Lib.hid h
  have HOK := Lib.hid hok
  have HS0 : Hid (SndV w (.slice A0 n0 c0)) := Lib.hid ⟨_, _, _, xs0, rfl, h0, hm0.1, hm0.2⟩
  clear hmade h hok h0 hm0
  go_enter Try.func7, Try.ntmps7
  go_wp2_with fail
  refine HMD.out.mono ?_
  rintro e w1 ⟨B1, m1, k1, xs1, rfl, -, hp1, hc1, hk1, hb1⟩
  have HS1 : Hid (SndV w1 (.slice B1 m1 k1)) := Lib.hid ⟨_, _, _, xs1, rfl, hp1.mono (fun _ _ _ => trivial), chans_max hc1, hk1⟩
  have HI1 := Lib.hid (HI.out.ext hb1)
  have HM2 := Lib.hid (law_made A n c L 300 w1 (HI1.out.mono (fun b hb _ => hb)) HOK.out (by omega) (by omega))
  have HS01 := Lib.hid (HS0.out.ext hb1)
  clear hp1 hc1 hk1
  go_wp2_with fail
  refine HM2.out.mono ?_
  rintro e w2 ⟨B2, m2, k2, xs2, rfl, -, hp2, hc2, hk2, hb2⟩
  have HS2 : Hid (SndV w2 (.slice B2 m2 k2)) := Lib.hid ⟨_, _, _, xs2, rfl, hp2.mono (fun _ _ _ => trivial), chans_max hc2, hk2⟩
  have HS02 := Lib.hid (HS01.out.ext hb2)
  have HS12 := Lib.hid (HS1.out.ext hb2)
  have BB := hb1.trans (hb2.mono hb1.size)
  have HM3 := Lib.hid (law_made A n c L 9 w2 ((HI1.out.ext hb2).mono (fun b hb _ => hb)) HOK.out (by omega) (by omega))
  clear hp2 hc2 hk2 hb1 hb2
  go_wp2_with fail
  refine HM3.out.mono ?_
  rintro e w3 ⟨B3, m3, k3, xs3, rfl, -, hp3, hc3, hk3, hb3⟩
  have HS3 : Hid (SndV w3 (.slice B3 m3 k3)) := Lib.hid ⟨_, _, _, xs3, rfl, hp3.mono (fun _ _ _ => trivial), chans_max hc3, hk3⟩
  have HS03 := Lib.hid (HS02.out.ext hb3)
  have HS13 := Lib.hid (HS12.out.ext hb3)
  have HS23 := Lib.hid (HS2.out.ext hb3)
  have B3' := BB.trans (hb3.mono BB.size)
  clear hp3 hc3 hk3 hb3 BB
  go_upto_region 2 with fail
  have x3 := Bx.new w3 22 #[.slice A0 n0 c0, .slice B1 m1 k1, .slice B2 m2 k2, .slice B3 m3 k3]
  have B4 := B3'.alloc B3'.size (.cells #[.slice A0 n0 c0, .slice B1 m1 k1, .slice B2 m2 k2, .slice B3 m3 k3] 22)
  have hbw := (Below.refl w3.heap.size w3).alloc (Nat.le_refl _) (.cells #[.slice A0 n0 c0, .slice B1 m1 k1, .slice B2 m2 k2, .slice B3 m3 k3] 22)
  have hS : ∀ i, i < 4 → ∃ v, #[.slice A0 n0 c0, .slice B1 m1 k1, .slice B2 m2 k2, .slice B3 m3 k3][i]? = some v ∧ SndV (w3.alloc (.cells #[.slice A0 n0 c0, .slice B1 m1 k1, .slice B2 m2 k2, .slice B3 m3 k3] 22)) v := by
    intro i hi
    rcases (by omega : i = 0 ∨ i = 1 ∨ i = 2 ∨ i = 3) with rfl | rfl | rfl | rfl
    · exact ⟨_, rfl, HS03.out.ext hbw⟩
    · exact ⟨_, rfl, HS13.out.ext hbw⟩
    · exact ⟨_, rfl, HS23.out.ext hbw⟩
    · exact ⟨_, rfl, HS3.out.ext hbw⟩
  have HSS := Lib.hid hS
  have HX3 := Lib.hid x3
  have hl3 := x3.lt
  generalize w3.alloc (.cells #[.slice A0 n0 c0, .slice B1 m1 k1, .slice B2 m2 k2, .slice B3 m3 k3] 22) = W at *
  generalize w3.heap.size = gl at *
  clear hS hbw x3 B3'
  go_loopw [24] (fun v wr => ∃ i : Nat, v = .int .i64 (i : Int) ∧ i ≤ 4 ∧ Below W.heap.size W wr) (fun v _ => 4 - (intOf v).toNat)
  case atStart => exact ⟨0, rfl, by omega, Below.refl _ _⟩
  case round =>
    obtain ⟨i, rfl, hi, hb⟩ := hrel
    by_cases hlt : i < 4
    · obtain ⟨v, hv, hsv⟩ := HSS.out i hlt
      obtain ⟨As, ns, cs, xs, rfl, hpc, hnm, -⟩ := hsv
      have hxx := HX3.out.ext hb
      have hce := hxx.cell i hv
      have hlx := hxx.lt
      have HPC := Lib.hid (hpc.ext hb)
      have HNM := Lib.hid hnm
      have HGL := Lib.hid (gateO_len hpc.smp)
      obtain ⟨X, hX⟩ : ∃ X, X = sndOf xs := ⟨_, rfl⟩
      have HX := Lib.hid hX
      have hiz : (i : Int) < 4 := by omega
      have hid : decide ((i : Int) < 4) = true := decide_eq_true hiz
      clear hv hpc hnm hxx hX
      go_wp2_with fail
      refine (ld_Gated As ns cs xs _ HPC.out).mono ?_
      rintro e w4 ⟨Ba, ma, ka, rfl, hia, hb4, -⟩
      rw [← HX.out] at hia ⊢
      have B5 := hb.trans (hb4.mono hb.size)
      have HP4 := Lib.hid (HPC.out.ext hb4)
      have HIA := Lib.hid hia
      clear hia hb4 hce hlx
      go_wp2_with fail
      refine (lr_Gated As ns cs xs _ HP4.out HNM.out).mono ?_
      rintro e w5 ⟨Bb, mb, kb, rfl, hib, hb5, -⟩
      rw [← HX.out] at hib ⊢
      have B6 := B5.trans (hb5.mono B5.size)
      have HP5 := Lib.hid (HP4.out.ext hb5)
      have HIA5 := Lib.hid (HIA.out.ext hb5)
      have HIB := Lib.hid hib
      have hma : ma ≤ 8735 := by
        have h1 := HGL.out
        rwa [← HX.out, HIA5.out.len] at h1
      clear hib hb5 B5
      go_wp2_with fail
      refine (ld_Measure As ns cs xs _ HP5.out).mono ?_
      rintro e w6 ⟨rfl, hb6⟩
      rw [← HX.out]
      obtain ⟨num, hnum⟩ : ∃ num, num = measOutN X := ⟨_, rfl⟩
      obtain ⟨den, hden⟩ : ∃ den, den = measOutD X := ⟨_, rfl⟩
      rw [← hnum, ← hden]
      have HMM := Lib.hid (And.intro hnum hden)
      have B7 := B6.trans (hb6.mono B6.size)
      have HP6 := Lib.hid (HP5.out.ext hb6)
      have HIA6 := Lib.hid (HIA5.out.ext hb6)
      have HIB6 := Lib.hid (HIB.out.ext hb6)
      clear hnum hden hb6 B6
      go_upto_region 7 with fail
      have x7 := Bx.new w6 38 #[.int .i64 num, .int .i64 den]
      have B8 := B7.alloc B7.size (.cells #[.int .i64 num, .int .i64 den] 38)
      have HP7 := Lib.hid (HP6.out.alloc (.cells #[.int .i64 num, .int .i64 den] 38))
      have HIA7 := Lib.hid (HIA6.out.alloc (.cells #[.int .i64 num, .int .i64 den] 38))
      have HIB7 := Lib.hid (HIB6.out.alloc (.cells #[.int .i64 num, .int .i64 den] 38))
      generalize w6.alloc (.cells #[.int .i64 num, .int .i64 den] 38) = w7 at *
      generalize w6.heap.size = ga at *
      clear B7
      go_wp2_with fail
      refine (lr_Measure As ns cs xs _ HP7.out HNM.out).mono ?_
      rintro e w8 ⟨rfl, hb8⟩
      rw [← HX.out, ← HMM.out.1, ← HMM.out.2]
      have B9 := B8.trans (hb8.mono B8.size)
      have HIA8 := Lib.hid (HIA7.out.ext hb8)
      have HIB8 := Lib.hid (HIB7.out.ext hb8)
      have x8 := x7.ext hb8
      clear hb8 B8 x7
      go_upto_region 8 with fail
      have y9 := Bx.new w8 38 #[.int .i64 num, .int .i64 den]
      have x9 := x8.alloc (.cells #[.int .i64 num, .int .i64 den] 38)
      have BA := B9.alloc B9.size (.cells #[.int .i64 num, .int .i64 den] 38)
      have HIA9 := Lib.hid (HIA8.out.alloc (.cells #[.int .i64 num, .int .i64 den] 38))
      have HIB9 := Lib.hid (HIB8.out.alloc (.cells #[.int .i64 num, .int .i64 den] 38))
      generalize w8.alloc (.cells #[.int .i64 num, .int .i64 den] 38) = w9 at *
      generalize w8.heap.size = gb at *
      clear B9 x8
      go_wp2_with fail
      refine (r20_SameInts _ _ _ _ _ _ _ _ _ HIA9.out HIB9.out (by omega)).mono ?_
      rintro e wc ⟨rfl, mc, rfl⟩
      rw [decide_eq_true rfl]
      have xc := x9.drewN mc
      have yc := y9.drewN mc
      have BC := bdrewN BA mc
      generalize w9.drewN mc = wc at *
      have c0 := xc.cell 0 rfl
      have c1 := xc.cell 1 rfl
      have d0 := yc.cell 0 rfl
      have d1 := yc.cell 1 rfl
      have lc := xc.lt
      have ld := yc.lt
      clear x9 y9 BA
      go_wp2_with fail
      go_roundw
      case rel => exact ⟨i + 1, by go_num, by omega, BC⟩
      case measure => simp [intOf]; omega
    · obtain rfl : i = 4 := by omega
      have B9 : Below w.heap.size w wr := B4.trans (hb.mono B4.size)
      go_wp2_with fail
      refine (law_awake _).mono ?_
      rintro e wf ⟨rfl, hbf⟩
      go_wp2_with fail
      go_ret
      exact ⟨rfl, B9.trans (hbf.mono B9.size)⟩
end Go.Proofs.Ytcgejbnmbamchaa
