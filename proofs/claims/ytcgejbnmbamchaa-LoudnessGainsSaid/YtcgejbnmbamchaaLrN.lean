/- Gated and Measure of the reference. -/
import Derived.Test.YtcgejbnmbamchaaLrG
import Derived.Test.YtcgejbnmbamchaaLrM
import Derived.Test.YtcgejbnmbamchaaLdGt
namespace Go.Proofs.Ytcgejbnmbamchaa
open Go.RowKit
attribute [local go_sem ↓] Go.wp_at_zero Go.wp_at_succ

set_option maxRecDepth 100000 in
set_option maxHeartbeats 4000000 in
theorem lr_Gated {p : Nat → Prop} (A : Option Addr) (n c : Nat) (xs : List Ch) (w : World) (h : Pcm p w A n xs) (hn : n ≤ maxLen) :
    Calls Try.prog 24 #[.slice A n c] w (RetPw w (natI (gateO (sndOf xs))) (powE (sndOf xs))) := by
  obtain ⟨X, hX⟩ : ∃ X, X = sndOf xs := ⟨_, rfl⟩
  have HP := Lib.hid h
  have HX := Lib.hid hX
  have HSM : Hid (∀ c ∈ X, Smp c) := Lib.hid (by rw [hX]; exact h.smp)
  rw [← hX]
  clear h hX
  go_enter Try.func24, Try.ntmps24
  go_wp2_with fail
  refine (lr_Powers A n c xs _ HP.out hn).mono ?_
  rintro e w1 ⟨B, m, k, rfl, hits, hb1, hmk⟩
  rw [← HX.out] at hits ⊢
  cases hp : properB X with
  | false =>
    have e1 : powE X = 1 := by unfold powE; rw [hp]; rfl
    have e2 : gateO X = [] := by unfold gateO; rw [hp]; rfl
    have HE := Lib.hid (And.intro e1 e2)
    rw [e1]
    clear e1 e2 hp hits
    go_wp2_with fail
    refine bodyPost_ret (v := .tuple #[.slice none 0 0, .int .i64 1]) (by simp only [results, Try.results24]; go_simp) rfl ⟨none, 0, 0, by rw [HE.out.1], by rw [HE.out.2]; exact Its.nil, hb1, Nat.le_refl _⟩
  | true =>
    have e1 : powE X = 0 := by unfold powE; rw [hp]; rfl
    have e4 : powOut X = powersL X := by unfold powOut; rw [hp]; rfl
    have hpw := powOut_pws HSM.out
    rw [e4] at hpw hits
    have e2 : gateO X = gateL (powersL X) := by unfold gateO; rw [hp]; rfl
    have HE := Lib.hid (And.intro e1 e2)
    have HI := Lib.hid hits
    have HPW := Lib.hid hpw
    rw [e1]
    clear e1 e2 e4 hp hits hpw
    go_wp2_with fail
    refine (lr_gated B m k (powersL X) _ HI.out HPW.out).mono ?_
    rintro e w3 ⟨B3, m3, k3, rfl, hg3, hb3, hmk3⟩
    have HG := Lib.hid (hg3.mono (q := (w.heap.size ≤ ·)) (fun b _ h => by have := hb1.size; omega))
    have b3 := hb1.trans (hb3.mono hb1.size)
    obtain ⟨S, hS⟩ : ∃ S, S = gateSum (powersL X) := ⟨_, rfl⟩
    rw [← hS]
    clear hg3 hS
    go_wp2_with fail
    refine bodyPost_ret (v := .tuple #[.slice B3 m3 k3, .int .i64 0]) (by simp only [results, Try.results24]; go_simp) rfl ⟨B3, m3, k3, by rw [HE.out.1], by rw [HE.out.2]; exact HG.out, b3, hmk3⟩
theorem gateSum_pos {l : List Int} (h : Pws l) (hz : (gateL l).length ≠ 0) : 0 < gateSum l := by
  have key : ∀ g : List Nat, (∀ i ∈ g, 30720 ≤ l.getD i 0) → g.length ≠ 0 → 0 < sumAt l g := by
    intro g hg hne
    cases g with
    | nil => exact absurd rfl hne
    | cons i g =>
      have h1 := hg i (by simp)
      have h2 := sumAt_bound h.2 g
      show 0 < l.getD i 0 + sumAt l g
      omega
  exact key (gateL l) (fun i hi => by
    have := (gateL_mem hi).2
    unfold passes at this
    rw [Bool.and_eq_true] at this
    exact of_decide_eq_true this.1) hz
set_option maxRecDepth 100000 in
set_option maxHeartbeats 4000000 in
theorem lr_Measure {p : Nat → Prop} (A : Option Addr) (n c : Nat) (xs : List Ch) (w : World) (h : Pcm p w A n xs) (hn : n ≤ maxLen) :
    Calls Try.prog 25 #[.slice A n c] w (RetMs w (measOutN (sndOf xs)) (measOutD (sndOf xs)) (powE (sndOf xs))) := by
  obtain ⟨X, hX⟩ : ∃ X, X = sndOf xs := ⟨_, rfl⟩
  have HP := Lib.hid h
  have HX := Lib.hid hX
  have HSM : Hid (∀ c ∈ X, Smp c) := Lib.hid (by rw [hX]; exact h.smp)
  rw [← hX]
  have x0 := Bx.new w 38 #[.int .i64 0, .int .i64 0]
  have B0 := (Below.refl w.heap.size w).alloc (Nat.le_refl _) (.cells #[.int .i64 0, .int .i64 0] 38)
  clear h hX
  go_enter Try.func25, Try.ntmps25
  go_upto_region 1 with fail
  have HP1 := Lib.hid (HP.out.ext (B0.mono (Nat.le_refl _)))
  generalize w.alloc (.cells #[.int .i64 0, .int .i64 0] 38) = W at *
  go_wp2_with fail
  refine (lr_Powers A n c xs _ HP1.out hn).mono ?_
  rintro e w1 ⟨B, m, k, rfl, hits, hb1, hmk⟩
  rw [← HX.out] at hits ⊢
  have x1 := x0.ext hb1
  have B1 := B0.trans (hb1.mono B0.size)
  have l1 := x1.lt
  have c0 := x1.cell 0 rfl
  have c1 := x1.cell 1 rfl
  have f0 := x1.frozen 0
  have f1 := x1.frozen 1
  cases hp : properB X with
  | false =>
    have e1 : powE X = 1 := by unfold powE; rw [hp]; rfl
    have e2 : measOutN X = 0 := by unfold measOutN; rw [hp]; rfl
    have e3 : measOutD X = 0 := by unfold measOutD; rw [hp]; rfl
    have HE := Lib.hid (And.intro e1 (And.intro e2 e3))
    have BZ := bset (bset B1 ⟨w.heap.size, 0, none⟩ (Nat.le_refl _) (.int .i64 0)) ⟨w.heap.size, 1, none⟩ (Nat.le_refl _) (.int .i64 0)
    rw [e1]
    clear e1 e2 e3 hp hits
    go_wp2_with fail
    refine bodyPost_ret (v := .tuple #[.agg #[.int .i64 0, .int .i64 0], .int .i64 1]) (by simp only [results, Try.results25]; go_simp) rfl ⟨by rw [HE.out.1, HE.out.2.1, HE.out.2.2], BZ⟩
  | true =>
    have e1 : powE X = 0 := by unfold powE; rw [hp]; rfl
    have e4 : powOut X = powersL X := by unfold powOut; rw [hp]; rfl
    have hpw := powOut_pws HSM.out
    rw [e4] at hpw hits
    obtain ⟨l, hl⟩ : ∃ l, l = powersL X := ⟨_, rfl⟩
    rw [← hl] at hpw hits
    have e2 : measOutN X = measN l := by unfold measOutN; rw [hp, hl]; rfl
    have e3 : measOutD X = measD l := by unfold measOutD; rw [hp, hl]; rfl
    have HE := Lib.hid (And.intro e1 (And.intro e2 e3))
    have HI := Lib.hid hits
    have HPW := Lib.hid hpw
    rw [e1]
    clear e1 e2 e3 e4 hp hits hpw hl c0 c1 f0 f1
    go_wp2_with fail
    refine (lr_gated B m k l _ HI.out HPW.out).mono ?_
    rintro e w3 ⟨B3, m3, k3, rfl, hg3, hb3, hmk3⟩
    have hm3 : m3 = (gateL l).length := by rw [← hg3.len, natI_len]
    have hm38 : m3 ≤ 8735 := by have := gateL_len l; have := HPW.out.1; omega
    have x3 := x1.ext hb3
    have b3 := B1.trans (hb3.mono B1.size)
    have HM3 := Lib.hid hm3
    have hsb := sumAt_bound HPW.out.2 (gateL l)
    have hs0 : gateSum l = sumAt l (gateL l) := rfl
    rw [← hs0, ← hm3] at hsb
    obtain ⟨S, hS⟩ := Int.eq_ofNat_of_zero_le hsb.1
    rw [hS] at hsb ⊢
    have hSb : S ≤ 18007938878668800 := by omega
    have HS := Lib.hid hS
    have l3 := x3.lt
    have c0 := x3.cell 0 rfl
    have c1 := x3.cell 1 rfl
    have f0 := x3.frozen 0
    have f1 := x3.frozen 1
    clear hg3 hb3 B1 x1 l1 hm3 hs0 hS hsb
    by_cases hz : m3 = 0
    · have k1 : measN l = 0 := by unfold measN; rw [if_pos (by rw [← HM3.out]; exact hz)]
      have k2 : measD l = 1 := by unfold measD; rw [if_pos (by rw [← HM3.out]; exact hz)]
      have HK := Lib.hid (And.intro k1 k2)
      have BZ := bset (bset b3 ⟨w.heap.size, 0, none⟩ (Nat.le_refl _) (.int .i64 0)) ⟨w.heap.size, 1, none⟩ (Nat.le_refl _) (.int .i64 1)
      clear k1 k2
      subst hz
      go_wp2_with fail
      refine bodyPost_ret (v := .tuple #[.agg #[.int .i64 0, .int .i64 1], .int .i64 0]) (by simp only [results, Try.results25]; go_simp) rfl ⟨by rw [HE.out.1, HE.out.2.1, HE.out.2.2, HK.out.1, HK.out.2], BZ⟩
    · have hzd : ¬ (m3 : Int) = 0 := by omega
      have hSp : 0 < S := by
        have := gateSum_pos HPW.out (by rw [← HM3.out]; exact hz)
        rw [HS.out] at this
        omega
      have k1 : measN l = lowN S (480 * m3) := by unfold measN; rw [if_neg (by rw [← HM3.out]; exact hz), HS.out, Int.toNat_natCast, ← HM3.out]
      have k2 : measD l = lowD S (480 * m3) := by unfold measD; rw [if_neg (by rw [← HM3.out]; exact hz), HS.out, Int.toNat_natCast, ← HM3.out]
      have HK := Lib.hid (And.intro k1 k2)
      have e480 : Hid (480 * (m3 : Int) = ((480 * m3 : Nat) : Int)) := Lib.hid (by omega)
      clear k1 k2
      go_wp2_with fail
      rw [e480.out]
      refine (r1_Of S (480 * m3) _ hSp (by omega) (by omega) (by omega)).mono ?_
      rintro e w5 ⟨rfl, hb5⟩
      obtain ⟨nn, hnn⟩ : ∃ nn, nn = lowN S (480 * m3) := ⟨_, rfl⟩
      obtain ⟨dd, hdd⟩ : ∃ dd, dd = lowD S (480 * m3) := ⟨_, rfl⟩
      rw [← hnn, ← hdd] at HK ⊢
      have x5 := x3.ext hb5
      have b5 := b3.trans (hb5.mono b3.size)
      clear c0 c1 f0 f1 hnn hdd hb5 x3 b3 l3
      go_upto_region 8 with fail
      have y6 := Bx.new w5 38 #[.int .i64 nn, .int .i64 dd]
      have x6 := x5.alloc (.cells #[.int .i64 nn, .int .i64 dd] 38)
      have b6 := b5.alloc b5.size (.cells #[.int .i64 nn, .int .i64 dd] 38)
      generalize w5.alloc (.cells #[.int .i64 nn, .int .i64 dd] 38) = w6 at *
      generalize w5.heap.size = gy at *
      have l6 := x6.lt
      have c0 := x6.cell 0 rfl
      have c1 := x6.cell 1 rfl
      have f0 := x6.frozen 0
      have f1 := x6.frozen 1
      have d0 := y6.cell 0 rfl
      have d1 := y6.cell 1 rfl
      have BZ := bset (bset b6 ⟨w.heap.size, 0, none⟩ (Nat.le_refl _) (.int .i64 nn)) ⟨w.heap.size, 1, none⟩ (Nat.le_refl _) (.int .i64 dd)
      go_wp2_with fail
      refine bodyPost_ret (v := .tuple #[.agg #[.int .i64 nn, .int .i64 dd], .int .i64 0]) (by simp only [results, Try.results25]; go_simp) rfl ⟨by rw [HE.out.1, HE.out.2.1, HE.out.2.2, HK.out.1, HK.out.2], BZ⟩
end Go.Proofs.Ytcgejbnmbamchaa
