/- Plain: bits put into bytes, as the reference's Payload does it. No condition. -/
import Derived.Test.YtdnchjmopkhnaaaBitsR
namespace Go.Proofs.Ytdnchjmopkhnaaa
open Go.RowKit

def bitB (l : List Int) (k : Nat) : Bool := decide (k = l.length) || decide (l[k]? = some 1)
def bitN (l : List Int) (k : Nat) : Int := if bitB l k then 1 else 0
theorem bitN_rng (l : List Int) (k : Nat) : 0 ≤ bitN l k ∧ bitN l k ≤ 1 := by unfold bitN; split <;> omega
def upB (l : List Int) (k i : Nat) : Int := if i < k then bitN l i else 0
theorem upB_rng (l : List Int) (k i : Nat) : 0 ≤ upB l k i ∧ upB l k i ≤ 1 := by
  unfold upB
  split
  · exact bitN_rng l i
  · omega
def byteV (l : List Int) (k j : Nat) : Int :=
  upB l k (8 * j) * 128 + upB l k (8 * j + 1) * 64 + upB l k (8 * j + 2) * 32 + upB l k (8 * j + 3) * 16 + upB l k (8 * j + 4) * 8 + upB l k (8 * j + 5) * 4 + upB l k (8 * j + 6) * 2 + upB l k (8 * j + 7)
theorem byteV_rng (l : List Int) (k j : Nat) : 0 ≤ byteV l k j ∧ byteV l k j ≤ 255 := by
  have h0 := upB_rng l k (8 * j)
  have h1 := upB_rng l k (8 * j + 1)
  have h2 := upB_rng l k (8 * j + 2)
  have h3 := upB_rng l k (8 * j + 3)
  have h4 := upB_rng l k (8 * j + 4)
  have h5 := upB_rng l k (8 * j + 5)
  have h6 := upB_rng l k (8 * j + 6)
  have h7 := upB_rng l k (8 * j + 7)
  unfold byteV
  omega
theorem byteV_far (l : List Int) (k j : Nat) (h : j ≠ k / 8) : byteV l (k + 1) j = byteV l k j := by
  have e : ∀ i, i < 8 → upB l (k + 1) (8 * j + i) = upB l k (8 * j + i) := by
    intro i hi
    unfold upB
    by_cases c : 8 * j + i < k
    · rw [if_pos c, if_pos (by omega)]
    · rw [if_neg c, if_neg (by omega)]
  unfold byteV
  have := e 0 (by omega)
  simp only [Nat.add_zero] at this
  rw [this, e 1 (by omega), e 2 (by omega), e 3 (by omega), e 4 (by omega), e 5 (by omega), e 6 (by omega), e 7 (by omega)]
theorem byteV_off (l : List Int) (k : Nat) (h : bitB l k = false) (j : Nat) : byteV l (k + 1) j = byteV l k j := by
  have e : ∀ i, upB l (k + 1) i = upB l k i := by
    intro i
    unfold upB
    by_cases c : i < k
    · rw [if_pos c, if_pos (by omega)]
    · rw [if_neg c]
      by_cases c2 : i = k
      · subst c2; rw [if_pos (by omega)]; simp [bitN, h]
      · rw [if_neg (by omega)]
  unfold byteV
  simp only [e]
theorem upB_step (l : List Int) (k i : Nat) (h : bitB l k = true) : upB l (k + 1) i = upB l k i + if i = k then 1 else 0 := by
  unfold upB
  by_cases c : i < k
  · rw [if_pos c, if_pos (by omega), if_neg (by omega)]; omega
  · rw [if_neg c]
    by_cases c2 : i = k
    · subst c2; rw [if_pos (by omega), if_pos rfl]; simp [bitN, h]
    · rw [if_neg (by omega), if_neg c2]; omega
theorem upB_zero (l : List Int) (k i : Nat) (h : k ≤ i) : upB l k i = 0 := by unfold upB; rw [if_neg (by omega)]
theorem byteV_on (l : List Int) (k : Nat) (h : bitB l k = true) : byteV l (k + 1) (k / 8) = byteV l k (k / 8) + 128 / 2 ^ (k % 8) ∧ bits .or .u8 (byteV l k (k / 8)) (128 / 2 ^ (k % 8)) = byteV l k (k / 8) + 128 / 2 ^ (k % 8) := by
  obtain ⟨j, r, hr, rfl⟩ : ∃ j r, r < 8 ∧ k = 8 * j + r := ⟨k / 8, k % 8, by omega, by omega⟩
  rw [show (8 * j + r) / 8 = j by omega, show (8 * j + r) % 8 = r by omega]
  have h0 := upB_rng l (8 * j + r) (8 * j)
  have h1 := upB_rng l (8 * j + r) (8 * j + 1)
  have h2 := upB_rng l (8 * j + r) (8 * j + 2)
  have h3 := upB_rng l (8 * j + r) (8 * j + 3)
  have h4 := upB_rng l (8 * j + r) (8 * j + 4)
  have h5 := upB_rng l (8 * j + r) (8 * j + 5)
  have h6 := upB_rng l (8 * j + r) (8 * j + 6)
  refine ⟨?_, ?_⟩
  · unfold byteV
    rw [upB_step l _ _ h, upB_step l _ _ h, upB_step l _ _ h, upB_step l _ _ h, upB_step l _ _ h, upB_step l _ _ h, upB_step l _ _ h, upB_step l _ _ h]
    rcases (by omega : r = 0 ∨ r = 1 ∨ r = 2 ∨ r = 3 ∨ r = 4 ∨ r = 5 ∨ r = 6 ∨ r = 7) with rfl | rfl | rfl | rfl | rfl | rfl | rfl | rfl <;> simp <;> omega
  · have key : ∀ (i : Nat) (n b : Int), n = ((2 ^ i : Nat) : Int) → 0 ≤ b → b < n → n ≤ 256 → byteV l (8 * j + r) j % n = 0 → bits .or .u8 (byteV l (8 * j + r) j) b = byteV l (8 * j + r) j + b := by
      intro i n b hn hb0 hb1 hn2 hm
      have hr := byteV_rng l (8 * j + r) j
      have e : byteV l (8 * j + r) j / n * n = byteV l (8 * j + r) j := by
        have := Int.mul_ediv_add_emod (byteV l (8 * j + r) j) n
        rw [hm, Int.mul_comm] at this
        omega
      have q0 : 0 ≤ byteV l (8 * j + r) j / n := Int.ediv_nonneg hr.1 (by omega)
      have := u8_or_low i (byteV l (8 * j + r) j / n) b n hn q0 hb0 hb1 (by rw [e]; omega) hn2
      rwa [e] at this
    rcases (by omega : r = 0 ∨ r = 1 ∨ r = 2 ∨ r = 3 ∨ r = 4 ∨ r = 5 ∨ r = 6 ∨ r = 7) with rfl | rfl | rfl | rfl | rfl | rfl | rfl | rfl
    · refine key 8 256 _ rfl (by decide) (by decide) (by omega) ?_
      unfold byteV
      rw [upB_zero l _ (8 * j) (by omega), upB_zero l _ (8 * j + 1) (by omega), upB_zero l _ (8 * j + 2) (by omega), upB_zero l _ (8 * j + 3) (by omega), upB_zero l _ (8 * j + 4) (by omega), upB_zero l _ (8 * j + 5) (by omega), upB_zero l _ (8 * j + 6) (by omega), upB_zero l _ (8 * j + 7) (by omega)]
      rfl
    · refine key 7 128 _ rfl (by decide) (by decide) (by omega) ?_
      unfold byteV
      rw [upB_zero l _ (8 * j + 1) (by omega), upB_zero l _ (8 * j + 2) (by omega), upB_zero l _ (8 * j + 3) (by omega), upB_zero l _ (8 * j + 4) (by omega), upB_zero l _ (8 * j + 5) (by omega), upB_zero l _ (8 * j + 6) (by omega), upB_zero l _ (8 * j + 7) (by omega)]
      omega
    · refine key 6 64 _ rfl (by decide) (by decide) (by omega) ?_
      unfold byteV
      rw [upB_zero l _ (8 * j + 2) (by omega), upB_zero l _ (8 * j + 3) (by omega), upB_zero l _ (8 * j + 4) (by omega), upB_zero l _ (8 * j + 5) (by omega), upB_zero l _ (8 * j + 6) (by omega), upB_zero l _ (8 * j + 7) (by omega)]
      omega
    · refine key 5 32 _ rfl (by decide) (by decide) (by omega) ?_
      unfold byteV
      rw [upB_zero l _ (8 * j + 3) (by omega), upB_zero l _ (8 * j + 4) (by omega), upB_zero l _ (8 * j + 5) (by omega), upB_zero l _ (8 * j + 6) (by omega), upB_zero l _ (8 * j + 7) (by omega)]
      omega
    · refine key 4 16 _ rfl (by decide) (by decide) (by omega) ?_
      unfold byteV
      rw [upB_zero l _ (8 * j + 4) (by omega), upB_zero l _ (8 * j + 5) (by omega), upB_zero l _ (8 * j + 6) (by omega), upB_zero l _ (8 * j + 7) (by omega)]
      omega
    · refine key 3 8 _ rfl (by decide) (by decide) (by omega) ?_
      unfold byteV
      rw [upB_zero l _ (8 * j + 5) (by omega), upB_zero l _ (8 * j + 6) (by omega), upB_zero l _ (8 * j + 7) (by omega)]
      omega
    · refine key 2 4 _ rfl (by decide) (by decide) (by omega) ?_
      unfold byteV
      rw [upB_zero l _ (8 * j + 6) (by omega), upB_zero l _ (8 * j + 7) (by omega)]
      omega
    · refine key 1 2 _ rfl (by decide) (by decide) (by omega) ?_
      unfold byteV
      rw [upB_zero l _ (8 * j + 7) (by omega)]
      omega

/-- The bytes after k bits. -/
def payS (l : List Int) (k : Nat) : List Int := (List.range (l.length / 8 + 1)).map (byteV l k)
theorem payS_len (l : List Int) (k : Nat) : (payS l k).length = l.length / 8 + 1 := by simp [payS]
theorem payS_rng (l : List Int) (k : Nat) : ∀ x ∈ payS l k, 0 ≤ x ∧ x ≤ 255 := by
  intro x hx
  obtain ⟨j, _, rfl⟩ := List.mem_map.1 hx
  exact byteV_rng l k j
theorem payS_at (l : List Int) (k j : Nat) (hj : j < l.length / 8 + 1) : (payS l k)[j]? = some (byteV l k j) := by
  unfold payS
  rw [List.getElem?_map, List.getElem?_range hj]
  rfl
theorem payS_zero (l : List Int) : payS l 0 = List.replicate (l.length / 8 + 1) 0 := by
  apply List.ext_getElem?
  intro j
  by_cases hj : j < l.length / 8 + 1
  · rw [payS_at l 0 j hj, List.getElem?_replicate, if_pos hj]
    simp [byteV, upB]
  · rw [List.getElem?_eq_none (by rw [payS_len]; omega), List.getElem?_eq_none (by simp; omega)]
theorem payS_off (l : List Int) (k : Nat) (h : bitB l k = false) : payS l (k + 1) = payS l k := by
  unfold payS
  exact List.map_congr_left fun j _ => byteV_off l k h j
theorem payS_on (l : List Int) (k : Nat) (h : bitB l k = true) : payS l (k + 1) = (payS l k).set (k / 8) (byteV l k (k / 8) + 128 / 2 ^ (k % 8)) := by
  apply List.ext_getElem?
  intro j
  rw [List.getElem?_set]
  by_cases hj : j < l.length / 8 + 1
  · by_cases he : k / 8 = j
    · rw [if_pos he, if_pos (by rw [payS_len]; omega), payS_at l _ j hj, ← he, (byteV_on l k h).1]
    · rw [if_neg he, payS_at l _ j hj, payS_at l _ j hj, byteV_far l k j (by omega)]
  · rw [List.getElem?_eq_none (by rw [payS_len]; omega)]
    by_cases he : k / 8 = j
    · rw [if_pos he, if_neg (by rw [payS_len]; omega)]
    · rw [if_neg he, List.getElem?_eq_none (by rw [payS_len]; omega)]
def payL (l : List Int) : List Int := payS l (l.length + 1)
/-- A byte whose bits are all there. -/
theorem payL_full (l : List Int) (j : Nat) (b0 b1 b2 b3 b4 b5 b6 b7 : Int) (hl : 8 * j + 8 ≤ l.length)
    (e0 : l[8 * j]? = some b0) (e1 : l[8 * j + 1]? = some b1) (e2 : l[8 * j + 2]? = some b2) (e3 : l[8 * j + 3]? = some b3) (e4 : l[8 * j + 4]? = some b4) (e5 : l[8 * j + 5]? = some b5) (e6 : l[8 * j + 6]? = some b6) (e7 : l[8 * j + 7]? = some b7)
    (hb : ∀ x ∈ l, 0 ≤ x ∧ x ≤ 1) : (payL l)[j]? = some (b0 * 128 + b1 * 64 + b2 * 32 + b3 * 16 + b4 * 8 + b5 * 4 + b6 * 2 + b7) := by
  unfold payL
  rw [payS_at l _ j (by omega)]
  have key : ∀ (i : Nat) (b : Int), i < l.length → l[i]? = some b → upB l (l.length + 1) i = b := by
    intro i b hi hb'
    have hm := hb b (List.mem_of_getElem? hb')
    unfold upB bitN bitB
    rw [if_pos (by omega), hb']
    rcases (by omega : b = 0 ∨ b = 1) with rfl | rfl
    · rw [if_neg]
      simp; omega
    · simp
  unfold byteV
  rw [key _ _ (by omega) e0, key _ _ (by omega) e1, key _ _ (by omega) e2, key _ _ (by omega) e3, key _ _ (by omega) e4, key _ _ (by omega) e5, key _ _ (by omega) e6, key _ _ (by omega) e7]

end Go.Proofs.Ytdnchjmopkhnaaa
