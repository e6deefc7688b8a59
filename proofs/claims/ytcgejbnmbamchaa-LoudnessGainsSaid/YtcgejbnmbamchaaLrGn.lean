/- The reference's Gain of any sound and limits. -/
import Derived.Test.YtcgejbnmbamchaaLdNo
import Derived.Test.YtcgejbnmbamchaaLrN
import Derived.Test.YtcgejbnmbamchaaLrK
import Derived.Test.YtcgejbnmbamchaaLrD
namespace Go.Proofs.Ytcgejbnmbamchaa
open Go.RowKit
attribute [local go_sem ↓] Go.wp_at_zero Go.wp_at_succ

set_option maxHeartbeats 1000000 in
theorem lr_quiet (g num den T : Nat) (w : World) (hg : g ≤ 65536) (hn : num ≤ 9223372036854775807) (hd : den ≤ 4192800) (hT : T ≤ 4294967296) :
    Calls Try.prog 51 #[.int .i64 (g : Int), .agg #[.int .i64 (num : Int), .int .i64 (den : Int)], .int .i64 (T : Int)] w fun e w' => e = .returned (.bool (decide (g * g * num ≤ T * (den * 16777216)))) ∧ Below w.heap.size w w' := by
  have x1 := Bx.new w 38 #[.int .i64 (num : Int), .int .i64 (den : Int)]
  have B1 := (Below.refl w.heap.size w).alloc (Nat.le_refl _) (.cells #[.int .i64 (num : Int), .int .i64 (den : Int)] 38)
  rcases Nat.eq_zero_or_pos num with h0 | h0
  · subst h0
    rw [decide_eq_true (show g * g * 0 ≤ T * (den * 16777216) by omega)]
    go_enter Try.func51, Try.ntmps51
    go_upto_region 1 with fail
    generalize w.alloc (.cells #[.int .i64 ((0 : Nat) : Int), .int .i64 (den : Int)] 38) = W at *
    have c0 := x1.cell 0 rfl
    have l1 := x1.lt
    go_wp2_with fail
    go_ret
    exact ⟨rfl, B1⟩
  · obtain ⟨D, hD⟩ : ∃ D, D = den * 16777216 := ⟨_, rfl⟩
    have hDb : D ≤ 9223372036854775807 := by omega
    have HM := Lib.hid (fun w => r01_MulDivN T D num w (by omega) hDb h0 hn)
    obtain ⟨G, hG⟩ : ∃ G, G = g * g := ⟨_, rfl⟩
    have hGb : G ≤ 4294967296 := by rw [hG]; exact Nat.mul_le_mul hg hg
    have hnz : ((num : Int) == 0) = false := by simp; omega
    have hnz2 : ¬ (num : Int) = 0 := by omega
    have e1 : (den : Int) * 16777216 = (D : Int) := by omega
    have e2 : (g : Int) * (g : Int) = (G : Int) := by rw [hG, Int.natCast_mul]
    rw [← hD, ← hG]
    have hq := mdvV_two (T * D) num
    have hle := Nat.le_div_iff_mul_le (x := G) (y := T * D) h0
    generalize hVV : mdvV (T * D) num = VV at *
    generalize hKK : decide (G * num ≤ T * D) = KK at *
    generalize T * D = V at *
    have HQ := Lib.hid (And.intro hq (And.intro hle hKK))
    clear hD hG hq hle hVV hKK
    go_enter Try.func51, Try.ntmps51
    go_upto_region 1 with fail
    generalize w.alloc (.cells #[.int .i64 (num : Int), .int .i64 (den : Int)] 38) = W at *
    have c0 := x1.cell 0 rfl
    have c1 := x1.cell 1 rfl
    have l1 := x1.lt
    go_wp2_with fail
    refine (HM.out _).mono ?_
    rintro e w1 ⟨rfl, hb1⟩
    have B2 := B1.trans (hb1.mono B1.size)
    obtain ⟨hq, hle, hKK⟩ := HQ.out
    generalize V % num = rr at *
    generalize V / num = q at *
    clear HQ HM
    rcases hq with ⟨h1, h2⟩ | ⟨h1, h2⟩
    · rw [h2]
      have HK := Lib.hid (show decide (G ≤ q) = KK by rw [← hKK]; exact decide_eq_decide.2 hle)
      have k1 : decide ((G : Int) ≤ (q : Int)) = KK := by rw [← HK.out]; exact decide_eq_decide.2 (by omega)
      have k2 := HK.out
      clear hle hKK h2
      go_wp2_with fail
      go_ret
      exact ⟨rfl, B2⟩
    · rw [h2]
      have hKT : KK = true := by rw [← hKK]; exact decide_eq_true (hle.1 (by omega))
      subst hKT
      clear hle hKK h2
      go_wp2_with fail
      go_ret
      exact ⟨rfl, B2⟩

def GnRel (w4 : World) (num den t p q : Nat) (a b : Value) (wr : World) : Prop :=
  ∃ lo hi : Nat, a = .int .i64 (lo : Int) ∧ b = .int .i64 (hi : Int) ∧ lo ≤ hi ∧ hi ≤ 65536 ∧ gainB lo num den t p q = true ∧ (hi < 65536 → gainB (hi + 1) num den t p q = false) ∧ Below w4.heap.size w4 wr
theorem gainB_quiet (g num den t p q : Nat) : gainB g num den t p q = (decide (g * g * num ≤ t * (den * 16777216)) && decide (g * p ≤ q * 4096)) := by
  unfold gainB
  rw [show t * 16777216 * den = t * (den * 16777216) by rw [Nat.mul_assoc, Nat.mul_comm 16777216 den]]
set_option maxRecDepth 100000 in
set_option maxHeartbeats 4000000 in
theorem lr_Gain {p : Nat → Prop} (A : Option Addr) (n c : Nat) (xs : List Ch) (T pk : Int) (w : World) (h : Pcm p w A n xs) (hn : n ≤ maxLen) :
    Calls Try.prog 30 #[.slice A n c, .int .i64 T, .int .i64 pk] w (RetGn w (sndOf xs) T pk) := by
  obtain ⟨X, hX⟩ : ∃ X, X = sndOf xs := ⟨_, rfl⟩
  have HP := Lib.hid (h.mono (q := (· < w.heap.size)) (fun b hb _ => hb))
  have HX := Lib.hid hX
  have HSM : Hid (∀ c ∈ X, Smp c) := Lib.hid (by rw [hX]; exact h.smp)
  rw [← hX]
  clear h hX
  by_cases hok : gnOk X T pk
  · obtain ⟨hp, h2, h3, h4, h5⟩ := id hok
    obtain ⟨t, rfl⟩ := Int.eq_ofNat_of_zero_le h2
    obtain ⟨q, rfl⟩ := Int.eq_ofNat_of_zero_le h4
    have k1 : decide ((t : Int) < 0) = false := decide_eq_false (by omega)
    have k2 : decide (4294967296 < (t : Int)) = false := decide_eq_false (by omega)
    have k3 : decide ((q : Int) < 0) = false := decide_eq_false (by omega)
    have k4 : decide (32767 < (q : Int)) = false := decide_eq_false (by omega)
    have e1 : powE X = 0 := by unfold powE; rw [hp]; rfl
    have e2 : measOutN X = (measNn (powersL X) : Int) := by unfold measOutN; rw [hp]; exact measN_nat _
    have e3 : measOutD X = (measDn (powersL X) : Int) := by unfold measOutD; rw [hp]; exact measD_nat _
    have hpw := powOut_pws HSM.out
    have e0 : powOut X = powersL X := by unfold powOut; rw [hp]; rfl
    rw [e0] at hpw
    have hnb := measN_bound hpw
    have hdb := measD_bound hpw
    have hpb := peakF_bound HSM.out
    obtain ⟨pp, hpp⟩ := Int.eq_ofNat_of_zero_le hpb.1
    rw [hpp] at hpb
    obtain ⟨num, hnum⟩ : ∃ num, num = measNn (powersL X) := ⟨_, rfl⟩
    obtain ⟨den, hden⟩ : ∃ den, den = measDn (powersL X) := ⟨_, rfl⟩
    rw [← hnum] at e2 hnb
    rw [← hden] at e3 hdb
    have HE := Lib.hid (And.intro e1 (And.intro e2 e3))
    have HND := Lib.hid (And.intro hnum (And.intro hden hpp))
    have HOK := Lib.hid hok
    clear hok hp h2 h4 e0 e1 e2 e3 hpw hnum hden hpp HSM
    go_enter Try.func30, Try.ntmps30
    go_wp2_with fail
    refine (lr_Measure A n c xs _ HP.out hn).mono ?_
    rintro e w1 ⟨rfl, hb1⟩
    rw [← HX.out, HE.out.1, HE.out.2.1, HE.out.2.2]
    have HP1 := Lib.hid (HP.out.ext hb1)
    clear HP
    go_upto_region 2 with fail
    have x2 := Bx.new w1 38 #[.int .i64 (num : Int), .int .i64 (den : Int)]
    have B2 := hb1.alloc hb1.size (.cells #[.int .i64 (num : Int), .int .i64 (den : Int)] 38)
    have HP2 := Lib.hid (HP1.out.alloc (.cells #[.int .i64 (num : Int), .int .i64 (den : Int)] 38))
    generalize w1.alloc (.cells #[.int .i64 (num : Int), .int .i64 (den : Int)] 38) = w2 at *
    generalize w1.heap.size = gm at *
    clear hb1 HP1
    go_wp2_with fail
    refine (lr_Peak A n c xs _ HP2.out hn).mono ?_
    rintro e w3 ⟨rfl, m, rfl⟩
    rw [← HX.out, HND.out.2.2]
    have x3 := x2.drewN m
    have B3 := bdrewN B2 m
    generalize w2.drewN m = w3 at *
    clear x2 B2 HP2
    have X3 := Lib.hid x3
    clear x3
    go_wp2_with fail
    go_loopw [11, 12] (fun a b wr => GnRel w3 num den t pp q a b wr) (fun a b _ => (intOf b).toNat - (intOf a).toNat)
    case atStart => exact ⟨0, 65536, rfl, rfl, by omega, Nat.le_refl _, gainB_zero _ _ _ _ _, fun hh => absurd hh (by omega), Below.refl _ _⟩
    case round =>
      obtain ⟨lo, hi, rfl, rfl, hlh, hh, hlo, hhi, hb⟩ := hrel
      have HL := Lib.hid (And.intro hlo hhi)
      clear hlo hhi
      by_cases hlt : lo < hi
      · have hld : decide ((lo : Int) < (hi : Int)) = true := decide_eq_true (by omega)
        obtain ⟨g, hg⟩ : ∃ g, g = (lo + hi + 1) / 2 := ⟨_, rfl⟩
        have hgb : lo < g ∧ g ≤ hi := by omega
        have e1 : ((lo : Int) + (hi : Int) + 1) / 2 = (g : Int) := by omega
        have HQ := Lib.hid (fun w => lr_quiet g num den t w (by omega) (by omega) (by omega) (by omega))
        have hgq := gainB_quiet g num den t pp q
        generalize decide (g * g * num ≤ t * (den * 16777216)) = k at *
        obtain ⟨gp, hgp⟩ : ∃ gp, gp = g * pp := ⟨_, rfl⟩
        have hgpb : gp ≤ 65536 * 32768 := by rw [hgp]; exact Nat.mul_le_mul (by omega) (by omega)
        have e2 : (g : Int) * (pp : Int) = (gp : Int) := by rw [hgp, Int.natCast_mul]
        rw [← hgp] at hgq
        have HGQ := Lib.hid hgq
        have x4 := X3.out.ext hb
        have c0 := x4.cell 0 rfl
        have c1 := x4.cell 1 rfl
        have l4 := x4.lt
        clear hg hgp hgq x4
        go_wp2_with fail
        refine (HQ.out _).mono ?_
        rintro e w5 ⟨rfl, hb5⟩
        have B5 := hb.trans (hb5.mono hb.size)
        have HGQ2 := HGQ.out
        clear HQ hb5 HGQ
        cases k with
        | false =>
          have HF : Hid (gainB g num den t pp q = false) := Lib.hid (by rw [HGQ2]; rfl)
          clear HGQ2 c0 c1 l4 hb
          go_wp2_with fail
          go_roundw
          case rel => exact ⟨lo, g - 1, rfl, by go_num, by omega, by omega, HL.out.1, fun _ => by rw [show g - 1 + 1 = g by omega]; exact HF.out, B5⟩
          case measure => simp [intOf]; omega
        | true =>
          rw [Bool.true_and] at HGQ2
          by_cases hgo : gp ≤ q * 4096
          · have HF : Hid (gainB g num den t pp q = true) := Lib.hid (by rw [HGQ2]; exact decide_eq_true hgo)
            have d2 : decide ((gp : Int) ≤ (q : Int) * 4096) = true := decide_eq_true (by omega)
            clear HGQ2 c0 c1 l4 hb
            go_wp2_with fail
            go_roundw
            case rel => exact ⟨g, hi, rfl, rfl, by omega, by omega, HF.out, HL.out.2, B5⟩
            case measure => simp [intOf]; omega
          · have HF : Hid (gainB g num den t pp q = false) := Lib.hid (by rw [HGQ2]; exact decide_eq_false hgo)
            have d2 : decide ((gp : Int) ≤ (q : Int) * 4096) = false := decide_eq_false (by omega)
            clear HGQ2 c0 c1 l4 hb
            go_wp2_with fail
            go_roundw
            case rel => exact ⟨lo, g - 1, rfl, by go_num, by omega, by omega, HL.out.1, fun _ => by rw [show g - 1 + 1 = g by omega]; exact HF.out, B5⟩
            case measure => simp [intOf]; omega
      · obtain rfl : lo = hi := by omega
        have hld : decide ((lo : Int) < (lo : Int)) = false := decide_eq_false (by omega)
        have B9 := B3.trans (hb.mono B3.size)
        go_wp2_with fail
        go_ret2
        refine ⟨_, _, rfl, .inl ⟨HOK.out, rfl, lo, rfl, ?_⟩, B9⟩
        rw [HND.out.2.2]
        refine ⟨hh, ?_, ?_⟩
        · rw [← HND.out.1, ← HND.out.2.1]; exact HL.out.1
        · rw [← HND.out.1, ← HND.out.2.1]; exact HL.out.2
  · have HNO := Lib.hid hok
    have hkey : properB X = false ∨ properB X = true ∧ (T < 0 ∨ ¬ T < 0 ∧ (4294967296 < T ∨ ¬ 4294967296 < T ∧ (pk < 0 ∨ ¬ pk < 0 ∧ 32767 < pk))) := by
      have := HNO.out
      unfold gnOk at this
      cases hp : properB X with
      | false => exact .inl rfl
      | true =>
        have h2 : ¬ (0 ≤ T ∧ T ≤ 4294967296 ∧ 0 ≤ pk ∧ pk ≤ 32767) := fun hh => this ⟨hp, hh⟩
        exact .inr ⟨rfl, by omega⟩
    have hpe : powE X = if properB X = true then 0 else 1 := rfl
    obtain ⟨er, her⟩ : ∃ er, er = powE X := ⟨_, rfl⟩
    obtain ⟨num, hnum⟩ : ∃ num, num = measOutN X := ⟨_, rfl⟩
    obtain ⟨den, hden⟩ : ∃ den, den = measOutD X := ⟨_, rfl⟩
    have HND := Lib.hid (And.intro her (And.intro hnum hden))
    rw [← her] at hpe
    have HK := Lib.hid (And.intro hkey hpe)
    clear hok her hnum hden hkey hpe
    go_enter Try.func30, Try.ntmps30
    go_wp2_with fail
    refine (lr_Measure A n c xs _ HP.out hn).mono ?_
    rintro e w1 ⟨rfl, hb1⟩
    rw [← HX.out, ← HND.out.1, ← HND.out.2.1, ← HND.out.2.2]
    go_upto_region 2 with fail
    have B2 := hb1.alloc hb1.size (.cells #[.int .i64 num, .int .i64 den] 38)
    generalize w1.alloc (.cells #[.int .i64 num, .int .i64 den] 38) = w2 at *
    generalize w1.heap.size = gm at *
    clear hb1 HP HND
    obtain ⟨hkey, hpe⟩ := HK.out
    rcases hkey with hp | ⟨hp, hkey⟩
    · rw [hp] at hpe
      have her : er = 1 := hpe
      clear hp hpe HK
      subst her
      go_wp2_with fail
      go_ret2
      exact ⟨_, _, rfl, .inr ⟨HNO.out, rfl, rfl⟩, B2⟩
    · rw [hp] at hpe
      have her : er = 0 := hpe
      clear hp hpe HK
      subst her
      rcases hkey with h1 | ⟨h1, hkey⟩
      · have k1 : decide (T < 0) = true := decide_eq_true h1
        go_wp2_with fail
        go_ret2
        exact ⟨_, _, rfl, .inr ⟨HNO.out, rfl, rfl⟩, B2⟩
      · have k1 : decide (T < 0) = false := decide_eq_false (by omega)
        rcases hkey with h2 | ⟨h2, hkey⟩
        · have k2 : decide (4294967296 < T) = true := decide_eq_true h2
          go_wp2_with fail
          go_ret2
          exact ⟨_, _, rfl, .inr ⟨HNO.out, rfl, rfl⟩, B2⟩
        · have k2 : decide (4294967296 < T) = false := decide_eq_false (by omega)
          rcases hkey with h3 | ⟨h3, h4⟩
          · have k3 : decide (pk < 0) = true := decide_eq_true h3
            go_wp2_with fail
            go_ret2
            exact ⟨_, _, rfl, .inr ⟨HNO.out, rfl, rfl⟩, B2⟩
          · have k3 : decide (pk < 0) = false := decide_eq_false (by omega)
            have k4 : decide (32767 < pk) = true := decide_eq_true h4
            go_wp2_with fail
            go_ret2
            exact ⟨_, _, rfl, .inr ⟨HNO.out, rfl, rfl⟩, B2⟩
end Go.Proofs.Ytcgejbnmbamchaa
