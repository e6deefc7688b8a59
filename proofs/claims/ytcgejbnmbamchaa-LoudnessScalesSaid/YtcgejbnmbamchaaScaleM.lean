/- Doubled sound: its powers are four times as great. Plain numbers. -/
import Derived.Test.YtcgejbnmbamchaaLdN
import Derived.Test.YtcgejbnmbamchaaLdU
namespace Go.Proofs.Ytcgejbnmbamchaa
open Go.RowKit

def dbl (l : List Int) : List Int := l.map (2 * ·)
def dblS (X : Snd) : Snd := X.map dbl
theorem dbl_len (l : List Int) : (dbl l).length = l.length := by simp [dbl]
theorem sqs_dbl : ∀ (l : List Int), sqs (dbl l) = 4 * sqs l
  | [] => by simp [dbl, sqs]
  | x :: l => by
    have ih := sqs_dbl l
    have e : dbl (x :: l) = 2 * x :: dbl l := rfl
    rw [e, sqs_cons, sqs_cons, ih]
    have : 2 * x * (2 * x) = 4 * (x * x) := by rw [Int.mul_assoc, Int.mul_left_comm x 2 x, ← Int.mul_assoc]; rfl
    omega
theorem powC_dbl (a : Nat) (c : List Int) : powC a (dbl c) = 4 * powC a c := by
  unfold powC
  rw [← sqs_dbl]
  unfold dbl
  rw [List.map_take, List.map_drop]
theorem powAt_dbl (a : Nat) : ∀ (X : Snd), powAt (dblS X) a = 4 * powAt X a
  | [] => by simp [dblS, powAt]
  | c :: X => by
    have ih := powAt_dbl a X
    simp only [dblS, powAt, List.map_cons, List.sum_cons] at ih ⊢
    rw [ih, powC_dbl]
    omega
theorem wide_dbl (X : Snd) : wide (dblS X) = wide X := by
  cases X with
  | nil => rfl
  | cons c X => exact dbl_len c
theorem powersL_dbl (X : Snd) : powersL (dblS X) = (powersL X).map (4 * ·) := by
  unfold powersL
  rw [wide_dbl, List.map_map]
  exact List.map_congr_left (fun k _ => powAt_dbl _ X)
theorem proper_dbl {X : Snd} (h : properB X = true) : properB (dblS X) = true := by
  obtain ⟨h1, h2, h3, h4⟩ := proper_spec h
  have hw := wide_dbl X
  unfold wide at hw
  simp only [properB, Bool.and_eq_true, decide_eq_true_eq, List.all_eq_true]
  refine ⟨⟨by simpa [dblS] using h1, by simpa [dblS] using h2⟩, fun c hc => ?_⟩
  obtain ⟨d, hd, rfl⟩ := List.mem_map.1 hc
  have := h4 d hd
  rw [dbl_len, hw]
  unfold wide at this h3
  omega
/-! The bounds. -/
theorem sqs_abs {m : Nat} : ∀ {l : List Int}, Abs m l → sqs l ≤ l.length * (m * m)
  | [], _ => by simp [sqs]
  | x :: l, h => by
    have h1 := h x (by simp)
    have h2 := sqs_abs (l := l) (fun y hy => h y (by simp [hy]))
    have e : x * x = ((x.natAbs * x.natAbs : Nat) : Int) := by rw [Int.natCast_mul]; exact (Int.natAbs_mul_self' x).symm
    have h3 : x.natAbs * x.natAbs ≤ m * m := Nat.mul_le_mul (by omega) (by omega)
    have h4 : ((m * m : Nat) : Int) = (m : Int) * m := Int.natCast_mul m m
    rw [sqs_cons, List.length_cons]
    have h5 : ((l.length + 1 : Nat) : Int) * ((m : Int) * m) = (l.length : Int) * ((m : Int) * m) + (m : Int) * m := by
      rw [Int.natCast_add, Int.add_mul]; simp
    omega
theorem powC_abs {m : Nat} {c : List Int} (h : Abs m c) (a : Nat) : powC a c ≤ 480 * (m * m) := by
  have h1 := sqs_abs (l := (c.drop a).take 480) (fun x hx => h x (List.mem_of_mem_drop (List.mem_of_mem_take hx)))
  have h2 : ((c.drop a).take 480).length ≤ 480 := by rw [List.length_take]; omega
  unfold powC
  have h3 : (((c.drop a).take 480).length : Int) * ((m : Int) * m) ≤ 480 * ((m : Int) * m) := Int.mul_le_mul_of_nonneg_right (by omega) (Int.mul_nonneg (by omega) (by omega))
  omega
theorem powAt_abs {m : Nat} : ∀ {X : Snd}, (∀ c ∈ X, Abs m c) → (a : Nat) → powAt X a ≤ X.length * (480 * (m * m))
  | [], _, a => by simp [powAt]
  | c :: X, h, a => by
    have h1 := powC_abs (h c (by simp)) a
    have h2 := powAt_abs (X := X) (fun d hd => h d (by simp [hd])) a
    simp only [powAt, List.map_cons, List.sum_cons, List.length_cons] at h2 ⊢
    have h5 : ((X.length + 1 : Nat) : Int) * (480 * ((m : Int) * m)) = (X.length : Int) * (480 * ((m : Int) * m)) + 480 * ((m : Int) * m) := by
      rw [Int.natCast_add, Int.add_mul]; simp
    omega
theorem sumAt_le {l : List Int} {M : Int} (hM : 0 ≤ M) (h : ∀ x ∈ l, 0 ≤ x ∧ x ≤ M) : ∀ (g : List Nat), 0 ≤ sumAt l g ∧ sumAt l g ≤ g.length * M
  | [] => by simp [sumAt]
  | i :: g => by
    have h1 : 0 ≤ l.getD i 0 ∧ l.getD i 0 ≤ M := by
      rw [List.getD_eq_getElem?_getD]
      cases hi : l[i]? with
      | none => simpa using hM
      | some x => simpa using h x (List.mem_of_getElem? hi)
    have h2 := sumAt_le hM h g
    simp only [sumAt, List.map_cons, List.sum_cons, List.length_cons] at h2 ⊢
    have h5 : ((g.length + 1 : Nat) : Int) * M = (g.length : Int) * M + M := by rw [Int.natCast_add, Int.add_mul]; simp
    omega
theorem sumAt_pos {l : List Int} (h : ∀ x ∈ l, 0 ≤ x) : ∀ (g : List Nat), 0 ≤ sumAt l g
  | [] => by simp [sumAt]
  | i :: g => by
    have h1 : 0 ≤ l.getD i 0 := by
      rw [List.getD_eq_getElem?_getD]
      cases hi : l[i]? with
      | none => simp
      | some x => simpa using h x (List.mem_of_getElem? hi)
    have h2 := sumAt_pos h g
    simp only [sumAt, List.map_cons, List.sum_cons] at h2 ⊢
    omega
theorem measNn_le {l : List Int} {M K : Nat} (h : ∀ x ∈ l, 0 ≤ x ∧ x ≤ (M : Int)) (hk : l.length ≤ K) : measNn l ≤ K * M := by
  unfold measNn
  split
  · omega
  · refine Nat.le_trans (Nat.div_le_self _ _) ?_
    have h1 := sumAt_le (Int.natCast_nonneg M) h (gateL l)
    have h2 := gateL_len l
    have h4 : gateSum l = sumAt l (gateL l) := rfl
    have h5 : (gateL l).length * M ≤ K * M := Nat.mul_le_mul_right M (by omega)
    have h6 : (((gateL l).length * M : Nat) : Int) = ((gateL l).length : Int) * (M : Int) := Int.natCast_mul _ _
    rw [h4]
    omega
theorem measDn_le {l : List Int} {K : Nat} (hk : l.length ≤ K) (hK : 1 ≤ K) : 1 ≤ measDn l ∧ measDn l ≤ 480 * K := by
  unfold measDn
  split
  · omega
  · rename_i hz
    have h2 := gateL_len l
    have hg : 0 < Nat.gcd (gateSum l).toNat (480 * (gateL l).length) := Nat.gcd_pos_of_pos_right _ (by omega)
    refine ⟨Nat.div_pos (Nat.le_of_dvd (by omega) (Nat.gcd_dvd_right _ _)) hg, Nat.le_trans (Nat.div_le_self _ _) (by omega)⟩
/-! Fourfold powers. -/
def four (l : List Int) : List Int := l.map (4 * ·)
theorem four_getD (l : List Int) (i : Nat) : (four l).getD i 0 = 4 * l.getD i 0 := by
  rw [List.getD_eq_getElem?_getD, List.getD_eq_getElem?_getD, four, List.getElem?_map]
  cases l[i]? <;> simp
theorem sumAt_four (l : List Int) : ∀ (g : List Nat), sumAt (four l) g = 4 * sumAt l g
  | [] => by simp [sumAt]
  | i :: g => by
    have ih := sumAt_four l g
    simp only [sumAt, List.map_cons, List.sum_cons] at ih ⊢
    rw [ih, four_getD]
    omega
theorem scale_law {l : List Int} (hP : ∀ x ∈ l, 0 ≤ x) (hg : gateL (four l) = gateL l) : 4 * measNn l * measDn (four l) = measNn (four l) * measDn l := by
  unfold measNn measDn
  rw [hg]
  split
  · omega
  · rename_i hz
    have h0 : 0 ≤ gateSum l := by
      exact sumAt_pos hP (gateL l)
    have hs : gateSum (four l) = 4 * gateSum l := by
      show sumAt (four l) (gateL (four l)) = 4 * sumAt l (gateL l)
      rw [hg]
      exact sumAt_four l _
    obtain ⟨S, hS⟩ := Int.eq_ofNat_of_zero_le h0
    have hs2 : (gateSum (four l)).toNat = 4 * S := by rw [hs, hS]; omega
    have hs1 : (gateSum l).toNat = S := by rw [hS]; omega
    rw [hs1, hs2]
    obtain ⟨q, hq⟩ : ∃ q, q = 480 * (gateL l).length := ⟨_, rfl⟩
    rw [← hq]
    have hq0 : 0 < q := by omega
    have a1 := Nat.div_mul_cancel (Nat.gcd_dvd_left S q)
    have a2 := Nat.div_mul_cancel (Nat.gcd_dvd_right S q)
    have b1 := Nat.div_mul_cancel (Nat.gcd_dvd_left (4 * S) q)
    have b2 := Nat.div_mul_cancel (Nat.gcd_dvd_right (4 * S) q)
    have g1 : 0 < Nat.gcd S q := Nat.gcd_pos_of_pos_right _ hq0
    have g2 : 0 < Nat.gcd (4 * S) q := Nat.gcd_pos_of_pos_right _ hq0
    generalize S / Nat.gcd S q = N at *
    generalize q / Nat.gcd S q = D at *
    generalize 4 * S / Nat.gcd (4 * S) q = N' at *
    generalize q / Nat.gcd (4 * S) q = D' at *
    generalize Nat.gcd S q = G at *
    generalize Nat.gcd (4 * S) q = G' at *
    refine Nat.eq_of_mul_eq_mul_right (Nat.mul_pos g1 g2) ?_
    have e1 : 4 * N * D' * (G * G') = 4 * (N * G) * (D' * G') := by
      rw [Nat.mul_mul_mul_comm, Nat.mul_assoc 4 N G]
    have e2 : N' * D * (G * G') = (N' * G') * (D * G) := by
      rw [Nat.mul_comm G G', Nat.mul_mul_mul_comm]
    rw [e1, e2, a1, b2, b1, a2]
/-! The doubling as it goes. -/
def dbK (c : List Int) (k : Nat) : List Int := dbl (c.take k) ++ c.drop k
def dbCh (c : Nat → List Int) (ci i d : Nat) : List Int := if d < ci then dbl (c d) else if d = ci then dbK (c d) i else c d
theorem dbK_len (c : List Int) (k : Nat) : (dbK c k).length = c.length := by simp [dbK, dbl, List.length_take, List.length_drop]; omega
theorem dbK_zero (c : List Int) : dbK c 0 = c := by simp [dbK, dbl]
theorem dbK_all {c : List Int} {k : Nat} (h : c.length ≤ k) : dbK c k = dbl c := by
  unfold dbK
  rw [List.take_of_length_le h, List.drop_eq_nil_of_le h, List.append_nil]
theorem dbK_at {c : List Int} {k : Nat} (h : k < c.length) : (dbK c k)[k]? = c[k]? := by
  unfold dbK
  have hl : (dbl (c.take k)).length = k := by rw [dbl_len, List.length_take]; omega
  rw [List.getElem?_append_right (by omega), hl, Nat.sub_self, List.getElem?_drop, Nat.add_zero]
theorem dbK_set {c : List Int} {k : Nat} {x : Int} (hx : c[k]? = some x) : (dbK c k).set k (2 * x) = dbK c (k + 1) := by
  have hk : k < c.length := (List.getElem?_eq_some_iff.1 hx).1
  have hl : (dbl (c.take k)).length = k := by rw [dbl_len, List.length_take]; omega
  have hd : c.drop k = x :: c.drop (k + 1) := by
    rw [List.drop_eq_getElem_cons hk]
    congr 1
    have := List.getElem?_eq_getElem hk
    rw [hx] at this
    injection this with this
    exact this.symm
  have ht : c.take (k + 1) = c.take k ++ [x] := by rw [List.take_add_one, hx]; rfl
  unfold dbK
  rw [hd, ht, List.set_append_right _ _ (by omega), hl, Nat.sub_self, List.set_cons_zero]
  simp [dbl]
theorem dbCh_zero (c : Nat → List Int) (d : Nat) : dbCh c 0 0 d = c d := by
  unfold dbCh
  rw [if_neg (by omega)]
  split
  · exact dbK_zero _
  · rfl
theorem dbCh_next {c : Nat → List Int} {ci n : Nat} (h : (c ci).length ≤ n) (d : Nat) : dbCh c ci n d = dbCh c (ci + 1) 0 d := by
  unfold dbCh
  by_cases h1 : d < ci
  · rw [if_pos h1, if_pos (by omega)]
  · rw [if_neg h1]
    by_cases h2 : d = ci
    · subst h2
      rw [if_pos rfl, if_pos (by omega), dbK_all h]
    · rw [if_neg h2, if_neg (show ¬ d < ci + 1 by omega)]
      by_cases h3 : d = ci + 1
      · rw [if_pos h3, dbK_zero]
      · rw [if_neg h3]
theorem dbCh_self (c : Nat → List Int) (ci i : Nat) : dbCh c ci i ci = dbK (c ci) i := by
  unfold dbCh
  rw [if_neg (by omega), if_pos rfl]
theorem dbCh_other {c : Nat → List Int} {ci i j d : Nat} (h : d ≠ ci) : dbCh c ci i d = dbCh c ci j d := by
  simp only [dbCh, if_neg h]
theorem dbCh_end {c : Nat → List Int} {C d : Nat} (h : d < C) : dbCh c C 0 d = dbl (c d) := by
  unfold dbCh
  rw [if_pos h]
end Go.Proofs.Ytcgejbnmbamchaa
