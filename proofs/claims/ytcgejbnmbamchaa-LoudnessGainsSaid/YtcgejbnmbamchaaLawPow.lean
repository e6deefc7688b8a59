/- LoudnessPowers. -/
import Derived.Test.YtcgejbnmbamchaaLawMono
import Derived.Test.YtcgejbnmbamchaaLdI
import Derived.Test.YtcgejbnmbamchaaLrP
import Derived.Test.YtcgejbnmbamchaaLrK
namespace Go.Proofs.Ytcgejbnmbamchaa
open Go.RowKit
attribute [local go_sem ↓] Go.wp_at_zero Go.wp_at_succ

/-- A value that is sound. -/
def SndV (w : World) (v : Value) : Prop := ∃ A n c xs, v = .slice A n c ∧ Pcm (fun _ => True) w A n xs ∧ n ≤ maxLen ∧ n ≤ c
theorem SndV.ext {w w' : World} {v : Value} (h : SndV w v) (hb : Below w.heap.size w w') : SndV w' v := by
  obtain ⟨A, n, c, xs, h1, h2, h3, h4⟩ := h
  exact ⟨A, n, c, xs, h1, h2.ext hb, h3, h4⟩
theorem chans_max {L : List Int} {m : Nat} (h : m = chans L) : m ≤ maxLen := by
  have := (chans_le L).2
  simp only [maxLen]
  omega

set_option maxRecDepth 100000 in
set_option maxHeartbeats 4000000 in
theorem law_LoudnessPowers (A0 : Option Addr) (n0 c0 : Nat) (xs0 : List Ch) (A : Option Addr) (n c : Nat) (L : List Int) (w : World) (h0 : Pcm (fun _ => True) w A0 n0 xs0) (h : Its .i64 (fun _ => True) w A n L) (hm0 : n0 ≤ maxLen ∧ n0 ≤ c0) (hok : IntsOk L) :
    Calls Try.prog 3 #[.slice A0 n0 c0, .slice A n c] w fun e w' => e = .returned (.bool true) ∧ Below w.heap.size w w' := by
  have hmade := law_made A n c L 32767 w (h.mono (fun b hb _ => hb)) hok (by omega) (by omega)
  have HMD := Lib.hid hmade
  have HI := Lib.hid h
  have HOK := Lib.hid hok
  have HS0 : Hid (SndV w (.slice A0 n0 c0)) := Lib.hid ⟨_, _, _, xs0, rfl, h0, hm0.1, hm0.2⟩
  clear hmade h hok h0 hm0
  go_enter Try.func3, Try.ntmps3
  go_wp2_with fail
  refine HMD.out.mono ?_
  rintro e w1 ⟨B1, m1, k1, xs1, rfl, -, hp1, hc1, hk1, hb1⟩
  have HS1 : Hid (SndV w1 (.slice B1 m1 k1)) := Lib.hid ⟨_, _, _, xs1, rfl, hp1.mono (fun _ _ _ => trivial), chans_max hc1, hk1⟩
  have HM2 := Lib.hid (law_made A n c L 300 w1 ((HI.out.ext hb1).mono (fun b hb _ => hb)) HOK.out (by omega) (by omega))
  have HS01 := Lib.hid (HS0.out.ext hb1)
  clear hp1 hc1 hk1
  go_wp2_with fail
  refine HM2.out.mono ?_
  rintro e w2 ⟨B2, m2, k2, xs2, rfl, -, hp2, hc2, hk2, hb2⟩
  have HS2 : Hid (SndV w2 (.slice B2 m2 k2)) := Lib.hid ⟨_, _, _, xs2, rfl, hp2.mono (fun _ _ _ => trivial), chans_max hc2, hk2⟩
  have HS02 := Lib.hid (HS01.out.ext hb2)
  have HS12 := Lib.hid (HS1.out.ext hb2)
  have BB := hb1.trans (hb2.mono hb1.size)
  clear hp2 hc2 hk2 hb1 hb2
  go_upto_region 2 with fail
  have x3 := Bx.new w2 22 #[.slice A0 n0 c0, .slice B1 m1 k1, .slice B2 m2 k2]
  have B3 := BB.alloc BB.size (.cells #[.slice A0 n0 c0, .slice B1 m1 k1, .slice B2 m2 k2] 22)
  have hbw := (Below.refl w2.heap.size w2).alloc (Nat.le_refl _) (.cells #[.slice A0 n0 c0, .slice B1 m1 k1, .slice B2 m2 k2] 22)
  have hS : ∀ i, i < 3 → ∃ v, #[.slice A0 n0 c0, .slice B1 m1 k1, .slice B2 m2 k2][i]? = some v ∧ SndV (w2.alloc (.cells #[.slice A0 n0 c0, .slice B1 m1 k1, .slice B2 m2 k2] 22)) v := by
    intro i hi
    rcases (by omega : i = 0 ∨ i = 1 ∨ i = 2) with rfl | rfl | rfl
    · exact ⟨_, rfl, HS02.out.ext hbw⟩
    · exact ⟨_, rfl, HS12.out.ext hbw⟩
    · exact ⟨_, rfl, HS2.out.ext hbw⟩
  have HSS := Lib.hid hS
  have HX3 := Lib.hid x3
  have hl3 := x3.lt
  generalize w2.alloc (.cells #[.slice A0 n0 c0, .slice B1 m1 k1, .slice B2 m2 k2] 22) = W at *
  generalize w2.heap.size = gl at *
  clear hS hbw x3 BB
  go_loopw [18] (fun v wr => ∃ i : Nat, v = .int .i64 (i : Int) ∧ i ≤ 3 ∧ Below W.heap.size W wr) (fun v _ => 3 - (intOf v).toNat)
  case atStart => exact ⟨0, rfl, by omega, Below.refl _ _⟩
  case round =>
    obtain ⟨i, rfl, hi, hb⟩ := hrel
    by_cases hlt : i < 3
    · obtain ⟨v, hv, hsv⟩ := HSS.out i hlt
      obtain ⟨As, ns, cs, xs, rfl, hpc, hnm, -⟩ := hsv
      have hxx := HX3.out.ext hb
      have hce := hxx.cell i hv
      have hlx := hxx.lt
      have HPC := Lib.hid (hpc.ext hb)
      have HNM := Lib.hid hnm
      have HPW := Lib.hid (powOut_pws hpc.smp)
      obtain ⟨X, hX⟩ : ∃ X, X = sndOf xs := ⟨_, rfl⟩
      have HX := Lib.hid hX
      have hiz : (i : Int) < 3 := by omega
      have hid : decide ((i : Int) < 3) = true := decide_eq_true hiz
      clear hv hpc hnm hxx hX
      go_wp2_with fail
      refine (ld_Powers As ns cs xs _ HPC.out).mono ?_
      rintro e w4 ⟨Ba, ma, ka, rfl, hia, hb4, -⟩
      rw [← HX.out] at hia ⊢
      have B4 := hb.trans (hb4.mono hb.size)
      have HP4 := Lib.hid (HPC.out.ext hb4)
      have HIA := Lib.hid hia
      clear hia hb4 hce hlx
      go_wp2_with fail
      refine (lr_Powers As ns cs xs _ HP4.out HNM.out).mono ?_
      rintro e w5 ⟨Bb, mb, kb, rfl, hib, hb5, -⟩
      rw [← HX.out] at hib ⊢
      have B5 := B4.trans (hb5.mono B4.size)
      have HP5 := Lib.hid (HP4.out.ext hb5)
      have HIA5 := Lib.hid (HIA.out.ext hb5)
      have HIB := Lib.hid hib
      have hma : ma ≤ 8735 := by
        have h1 := HPW.out.1
        rwa [← HX.out, HIA5.out.len] at h1
      clear hib hb5 B4
      go_wp2_with fail
      refine (law_ints _ _ _ _ _ _ _ _ _ HIA5.out HIB.out (by omega)).mono ?_
      rintro e w6 ⟨rfl, mc, rfl⟩
      rw [decide_eq_true rfl]
      have B6 := bdrewN B5 mc
      have HP6 := Lib.hid (HP5.out.drewN mc)
      generalize w5.drewN mc = w6 at *
      go_wp2_with fail
      refine (ld_Peak As ns cs xs _ HP6.out).mono ?_
      rintro e w7 ⟨rfl, m7, rfl⟩
      rw [← HX.out]
      have B7 := bdrewN B6 m7
      have HP7 := Lib.hid (HP6.out.drewN m7)
      generalize w6.drewN m7 = w7 at *
      go_wp2_with fail
      refine (lr_Peak As ns cs xs _ HP7.out HNM.out).mono ?_
      rintro e w8 ⟨rfl, m8, rfl⟩
      rw [← HX.out]
      have B8 := bdrewN B7 m8
      generalize w7.drewN m8 = w8 at *
      go_wp2_with fail
      go_roundw
      case rel => exact ⟨i + 1, by go_num, by omega, B8⟩
      case measure => simp [intOf]; omega
    · obtain rfl : i = 3 := by omega
      have B9 : Below w.heap.size w wr := B3.trans (hb.mono B3.size)
      go_wp2_with fail
      refine (law_awake _).mono ?_
      rintro e wf ⟨rfl, hbf⟩
      go_wp2_with fail
      go_ret
      exact ⟨rfl, B9.trans (hbf.mono B9.size)⟩
end Go.Proofs.Ytcgejbnmbamchaa
