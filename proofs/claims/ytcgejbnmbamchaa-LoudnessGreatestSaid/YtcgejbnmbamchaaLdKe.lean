/- cutroomlaw28.keeps. -/
import Derived.Test.YtcgejbnmbamchaaLawMono
namespace Go.Proofs.Ytcgejbnmbamchaa
open Go.RowKit
attribute [local go_sem ↓] Go.wp_at_zero Go.wp_at_succ

/-- Rounded up, a product of parts is at most a limit just when the whole product is. -/
theorem up_le (G num den M : Nat) (hd : 0 < den) :
    (G * (num / den) + (G / den * (num % den) + (G % den * (num % den) + den - 1) / den) ≤ M) ↔ G * num ≤ M * den := by
  obtain ⟨wh, hwh⟩ : ∃ wh, wh = num / den := ⟨_, rfl⟩
  obtain ⟨rs, hrs⟩ : ∃ rs, rs = num % den := ⟨_, rfl⟩
  obtain ⟨q, hq⟩ : ∃ q, q = G / den := ⟨_, rfl⟩
  obtain ⟨r, hr⟩ : ∃ r, r = G % den := ⟨_, rfl⟩
  have e1 : num = den * wh + rs := by rw [hwh, hrs]; exact (Nat.div_add_mod num den).symm
  have e2 : G = den * q + r := by rw [hq, hr]; exact (Nat.div_add_mod G den).symm
  rw [← hwh, ← hrs, ← hq, ← hr]
  -- G * num = den * (G * wh + q * rs) + r * rs
  have e3 : G * num = den * (G * wh + q * rs) + r * rs := by
    rw [Nat.mul_add den, e1, Nat.mul_add]
    have : G * rs = den * (q * rs) + r * rs := by rw [e2, Nat.add_mul, Nat.mul_assoc]
    rw [this, show G * (den * wh) = den * (G * wh) by rw [← Nat.mul_assoc, Nat.mul_comm G den, Nat.mul_assoc]]
    omega
  obtain ⟨t, ht⟩ : ∃ t, t = G * wh + q * rs := ⟨_, rfl⟩
  obtain ⟨s, hs⟩ : ∃ s, s = r * rs := ⟨_, rfl⟩
  rw [e3, ← ht, ← hs, ← Nat.add_assoc, ← ht]
  have h1 := Nat.div_add_mod (s + den - 1) den
  have h2 := Nat.mod_lt (s + den - 1) hd
  obtain ⟨u, hu⟩ : ∃ u, u = (s + den - 1) / den := ⟨_, rfl⟩
  rw [← hu] at h1 ⊢
  -- s ≤ den * u < s + den
  have h3 : s ≤ den * u := by omega
  have h4 : den * u ≤ s + den - 1 := by omega
  constructor
  · intro h
    have h5 : (t + u) * den ≤ M * den := Nat.mul_le_mul_right den h
    rw [Nat.add_mul, Nat.mul_comm t den, Nat.mul_comm u den] at h5
    omega
  · intro h
    apply Nat.le_of_not_lt
    intro hlt
    have h5 : (M + 1) * den ≤ (t + u) * den := Nat.mul_le_mul_right den hlt
    rw [Nat.add_mul, Nat.add_mul, Nat.one_mul, Nat.mul_comm t den, Nat.mul_comm u den] at h5
    omega
set_option maxRecDepth 100000 in
set_option maxHeartbeats 4000000 in
theorem law_keeps (g num den T p pk : Nat) (w : World) (b1 : g ≤ 65537) (b2 : num ≤ 1099511627776) (b3 : 1 ≤ den ∧ den ≤ 4194304) (b4 : T ≤ 65535) (b5 : p ≤ 32768) (b6 : pk ≤ 32767) (b7 : num ≤ 268435456 * den) :
    Calls Try.prog 22 #[.int .i64 (g : Int), .agg #[.int .i64 (num : Int), .int .i64 (den : Int)], .int .i64 (T : Int), .int .i64 (p : Int), .int .i64 (pk : Int)] w fun e w' => e = .returned (.bool (gainB g num den T p pk)) ∧ Below w.heap.size w w' := by
  obtain ⟨b31, b32⟩ := b3
  obtain ⟨wh, hwh⟩ : ∃ wh, wh = num / den := ⟨_, rfl⟩
  obtain ⟨rs, hrs⟩ : ∃ rs, rs = num % den := ⟨_, rfl⟩
  obtain ⟨G, hG⟩ : ∃ G, G = g * g := ⟨_, rfl⟩
  obtain ⟨q, hq⟩ : ∃ q, q = G / den := ⟨_, rfl⟩
  obtain ⟨r, hr⟩ : ∃ r, r = G % den := ⟨_, rfl⟩
  obtain ⟨u1, hu1⟩ : ∃ u1, u1 = q * rs := ⟨_, rfl⟩
  obtain ⟨u2, hu2⟩ : ∃ u2, u2 = r * rs := ⟨_, rfl⟩
  obtain ⟨u3, hu3⟩ : ∃ u3, u3 = (u2 + den - 1) / den := ⟨_, rfl⟩
  obtain ⟨u4, hu4⟩ : ∃ u4, u4 = G * wh := ⟨_, rfl⟩
  obtain ⟨GP, hGP⟩ : ∃ GP, GP = g * p := ⟨_, rfl⟩
  have hGb : G ≤ 65537 * 65537 := by rw [hG]; exact Nat.mul_le_mul b1 b1
  have hwb : wh ≤ 268435456 := by rw [hwh]; exact Nat.div_le_of_le_mul (by rw [Nat.mul_comm]; exact b7)
  have hrb : rs < den := by rw [hrs]; exact Nat.mod_lt _ (by omega)
  have hqb : q ≤ G := by rw [hq]; exact Nat.div_le_self _ _
  have hrb2 : r < den := by rw [hr]; exact Nat.mod_lt _ (by omega)
  have hu1b : u1 ≤ G := by
    rw [hu1, hq]
    exact Nat.le_trans (Nat.mul_le_mul_left _ (by omega : rs ≤ den)) (Nat.div_mul_le_self G den)
  have hu2b : u2 ≤ 4194304 * 4194304 := by rw [hu2]; exact Nat.mul_le_mul (by omega) (by omega)
  have hu3b : u3 ≤ u2 + den := by rw [hu3]; exact Nat.le_trans (Nat.div_le_self _ _) (by omega)
  have hu4b : u4 ≤ 65537 * 65537 * 268435456 := by rw [hu4]; exact Nat.mul_le_mul hGb hwb
  have hGPb : GP ≤ 65537 * 32768 := by rw [hGP]; exact Nat.mul_le_mul b1 b5
  have hkey : gainB g num den T p pk = (decide (u4 + (u1 + u3) ≤ T * 4096 * 4096) && decide (GP ≤ pk * 4096)) := by
    unfold gainB
    congr 1
    · rw [Bool.eq_iff_iff, decide_eq_true_eq, decide_eq_true_eq]
      have h := up_le G num den (T * 16777216) (by omega)
      rw [← hwh, ← hrs, ← hq, ← hr, ← hu1, ← hu2, ← hu3, ← hu4] at h
      rw [← hG, ← h, show T * 4096 * 4096 = T * 16777216 by omega]
    · rw [hGP]
  rw [hkey]
  have d1 : ((num : Int)) / (den : Int) = (wh : Int) := by rw [hwh]; exact_mod_cast rfl
  have d2 : ((num : Int)) % (den : Int) = (rs : Int) := by rw [hrs]; exact_mod_cast rfl
  have t1 : ((num : Int)).tdiv (den : Int) = (wh : Int) := by rw [Int.tdiv_eq_ediv_of_nonneg (by omega)]; exact d1
  have t2 : ((num : Int)).tmod (den : Int) = (rs : Int) := by rw [Int.tmod_eq_emod_of_nonneg (by omega)]; exact d2
  have t3 : ((G : Int)).tdiv (den : Int) = (q : Int) := by rw [Int.tdiv_eq_ediv_of_nonneg (by omega), hq]; exact_mod_cast rfl
  have t4 : ((G : Int)).tmod (den : Int) = (r : Int) := by rw [Int.tmod_eq_emod_of_nonneg (by omega), hr]; exact_mod_cast rfl
  have t5 : ((u2 : Int) + (den : Int) - 1).tdiv (den : Int) = (u3 : Int) := by
    rw [Int.tdiv_eq_ediv_of_nonneg (by omega), hu3, show (u2 : Int) + (den : Int) - 1 = ((u2 + den - 1 : Nat) : Int) by omega]
    exact_mod_cast rfl
  have m1 : (g : Int) * (g : Int) = (G : Int) := by rw [hG, Int.natCast_mul]
  have m2 : (q : Int) * (rs : Int) = (u1 : Int) := by rw [hu1, Int.natCast_mul]
  have m3 : (r : Int) * (rs : Int) = (u2 : Int) := by rw [hu2, Int.natCast_mul]
  have m4 : (G : Int) * (wh : Int) = (u4 : Int) := by rw [hu4, Int.natCast_mul]
  have m5 : (g : Int) * (p : Int) = (GP : Int) := by rw [hGP, Int.natCast_mul]
  have hz1 : ((den : Int) == 0) = false := by simp; omega
  have hz2 : ¬ (den : Int) = 0 := by omega
  have hz3 : ¬ den = 0 := by omega
  have x1 := Bx.new w 38 #[.int .i64 (num : Int), .int .i64 (den : Int)]
  have c0 := x1.cell 0 rfl
  have c1 := x1.cell 1 rfl
  have l1 := x1.lt
  have hB := (Below.refl w.heap.size w).alloc (Nat.le_refl _) (.cells #[.int .i64 (num : Int), .int .i64 (den : Int)] 38)
  clear hwh hrs hq hr hu1 hu2 hu3 hu4 hGP hG hkey d1 d2
  go_enter Try.func22, Try.ntmps22
  go_upto_region 1 with fail
  generalize w.alloc (.cells #[.int .i64 (num : Int), .int .i64 (den : Int)] 38) = W at *
  go_quiet (fail)
  cases hb : decide (u4 + (u1 + u3) ≤ T * 4096 * 4096) with
  | false =>
    have hb' : decide ((u4 : Int) + ((u1 : Int) + (u3 : Int)) ≤ (T : Int) * 4096 * 4096) = false := decide_eq_false (by have := of_decide_eq_false hb; omega)
    have HB := Lib.hid hb
    clear hb
    go_wp2_with fail
    go_ret
    exact ⟨ret_bool (by rw [HB.out]; rfl), bdrewN hB _⟩
  | true =>
    have hb' : decide ((u4 : Int) + ((u1 : Int) + (u3 : Int)) ≤ (T : Int) * 4096 * 4096) = true := decide_eq_true (by have := of_decide_eq_true hb; omega)
    have hd : decide ((GP : Int) ≤ (pk : Int) * 4096) = decide (GP ≤ pk * 4096) := by rw [Bool.eq_iff_iff, decide_eq_true_eq, decide_eq_true_eq]; omega
    have HD := Lib.hid hd
    have HB := Lib.hid hb
    clear hb hd
    go_wp2_with fail
    go_ret
    exact ⟨ret_bool (by rw [HB.out, Bool.true_and, ← HD.out]), bdrewN hB _⟩
end Go.Proofs.Ytcgejbnmbamchaa
