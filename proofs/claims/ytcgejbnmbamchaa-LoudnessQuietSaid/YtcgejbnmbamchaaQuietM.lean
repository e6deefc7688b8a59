/- The gated windows: the loudest is among them, the measure lies between the least and the greatest. Plain numbers. -/
import Derived.Test.YtcgejbnmbamchaaLdN
namespace Go.Proofs.Ytcgejbnmbamchaa
open Go.RowKit

def topL (l : List Int) : Int := l.foldl max 0
def leastV (l : List Int) : Int := l.foldl min 4611686018427387904
theorem foldmax_ge : ∀ {l : List Int} {m : Int}, m ≤ l.foldl max m ∧ ∀ x ∈ l, x ≤ l.foldl max m
  | [], m => by simp
  | a :: l, m => by
    have h := foldmax_ge (l := l) (m := max m a)
    rw [List.foldl_cons]
    refine ⟨by omega, fun x hx => ?_⟩
    rcases List.mem_cons.1 hx with rfl | hx
    · omega
    · exact h.2 x hx
theorem foldmax_in : ∀ {l : List Int} {m : Int}, l.foldl max m = m ∨ l.foldl max m ∈ l
  | [], m => .inl rfl
  | a :: l, m => by
    rw [List.foldl_cons]
    rcases foldmax_in (l := l) (m := max m a) with h | h
    · rw [h]
      rcases Int.le_total m a with h1 | h1
      · right; rw [Int.max_eq_right h1]; simp
      · left; rw [Int.max_eq_left h1]
    · right; exact List.mem_cons_of_mem _ h
theorem foldmin_le : ∀ {l : List Int} {m : Int}, l.foldl min m ≤ m ∧ ∀ x ∈ l, l.foldl min m ≤ x
  | [], m => by simp
  | a :: l, m => by
    have h := foldmin_le (l := l) (m := min m a)
    rw [List.foldl_cons]
    refine ⟨by omega, fun x hx => ?_⟩
    rcases List.mem_cons.1 hx with rfl | hx
    · omega
    · exact h.2 x hx
theorem foldmin_ge {k : Int} : ∀ {l : List Int} {m : Int}, k ≤ m → (∀ x ∈ l, k ≤ x) → k ≤ l.foldl min m
  | [], m, hm, _ => hm
  | a :: l, m, hm, h => by
    rw [List.foldl_cons]
    exact foldmin_ge (by have := h a (by simp); omega) (fun x hx => h x (by simp [hx]))
theorem foldmax_le {k : Int} : ∀ {l : List Int} {m : Int}, m ≤ k → (∀ x ∈ l, x ≤ k) → l.foldl max m ≤ k
  | [], m, hm, _ => hm
  | a :: l, m, hm, h => by
    rw [List.foldl_cons]
    exact foldmax_le (by have := h a (by simp); omega) (fun x hx => h x (by simp [hx]))
def gateV (l : List Int) : List Int := (gateL l).map fun i => l.getD i 0
theorem gateV_len (l : List Int) : (gateV l).length = (gateL l).length := by simp [gateV]
theorem loudSum_le {x : Int} (hx : 0 ≤ x) : ∀ {l : List Int}, (∀ y ∈ l, y ≤ x) → loudSum l ≤ loudMany l * x
  | [], _ => by simp [loudSum, loudMany]
  | a :: l, h => by
    have ih := loudSum_le hx (l := l) (fun y hy => h y (by simp [hy]))
    have ha := h a (by simp)
    unfold loudSum loudMany at ih ⊢
    rw [List.filter_cons]
    split
    · rw [List.sum_cons, List.length_cons]
      push_cast
      rw [Int.add_mul, Int.one_mul]
      omega
    · exact ih
/-- The loudest window, if it is loud, is gated. -/
theorem top_gated {l : List Int} (h : 30720 ≤ topL l) : topL l ∈ gateV l := by
  have hin : topL l ∈ l := by
    rcases foldmax_in (l := l) (m := 0) with h1 | h1
    · unfold topL at h; omega
    · exact h1
  have hge : ∀ y ∈ l, y ≤ topL l := (foldmax_ge (l := l) (m := 0)).2
  obtain ⟨j, hj, hjx⟩ := List.getElem_of_mem hin
  have hgd : l.getD j 0 = topL l := by rw [List.getD_eq_getElem?_getD, List.getElem?_eq_getElem hj, hjx]; rfl
  have hs := loudSum_le (x := topL l) (by omega) hge
  have hp : passes l (l.getD j 0) = true := by
    rw [hgd]
    unfold passes
    rw [Bool.and_eq_true]
    refine ⟨decide_eq_true h, decide_eq_true ?_⟩
    have h1 : (loudMany l : Int) * topL l ≤ 10 * topL l * (loudMany l : Int) := by
      have h2 : 0 ≤ (loudMany l : Int) * topL l := Int.mul_nonneg (by omega) (by omega)
      rw [Int.mul_assoc, Int.mul_comm (topL l)]
      omega
    omega
  have hm : j ∈ gateL l := by
    unfold gateL
    exact List.mem_filter.2 ⟨List.mem_range.2 hj, hp⟩
  rw [← hgd]
  exact List.mem_map_of_mem hm
theorem quiet_top {l : List Int} (h : (gateL l).length = 0) : topL l < 30720 := by
  rcases Int.lt_or_le (topL l) 30720 with h1 | h1
  · exact h1
  · have := top_gated h1
    have hl : (gateV l).length = 0 := by rw [gateV_len, h]
    rw [List.eq_nil_of_length_eq_zero hl] at this
    cases this
theorem gateV_in {l : List Int} : ∀ x ∈ gateV l, x ∈ l ∧ 30720 ≤ x := by
  intro x hx
  obtain ⟨i, hi, rfl⟩ := List.mem_map.1 hx
  obtain ⟨h1, h2⟩ := gateL_mem hi
  unfold passes at h2
  rw [Bool.and_eq_true] at h2
  refine ⟨?_, of_decide_eq_true h2.1⟩
  rw [List.getD_eq_getElem?_getD, List.getElem?_eq_getElem h1]
  exact List.getElem_mem h1
theorem gated_top {l : List Int} (h : (gateL l).length ≠ 0) : topL (gateV l) = topL l := by
  obtain ⟨x, hx⟩ : ∃ x, x ∈ gateV l := by
    cases hv : gateV l with
    | nil => rw [← gateV_len, hv] at h; exact absurd rfl h
    | cons a t => exact ⟨a, by simp⟩
  have h1 := gateV_in x hx
  have h2 := (foldmax_ge (l := l) (m := 0)).2 x h1.1
  have h3 := top_gated (l := l) (by unfold topL; omega)
  have h4 := (foldmax_ge (l := gateV l) (m := 0)).2 _ h3
  have h5 : topL (gateV l) ≤ topL l := foldmax_le (foldmax_ge (l := l) (m := 0)).1 (fun y hy => (foldmax_ge (l := l) (m := 0)).2 y (gateV_in y hy).1)
  unfold topL at *
  omega
theorem sum_between {a b : Int} : ∀ {l : List Int}, (∀ x ∈ l, a ≤ x ∧ x ≤ b) → l.length * a ≤ l.sum ∧ l.sum ≤ l.length * b
  | [], _ => by simp
  | x :: l, h => by
    have h1 := h x (by simp)
    have h2 := sum_between (l := l) (fun y hy => h y (by simp [hy]))
    rw [List.sum_cons, List.length_cons]
    push_cast
    rw [Int.add_mul, Int.add_mul, Int.one_mul, Int.one_mul]
    omega
/-- The measure lies between. -/
theorem meas_between {l : List Int} (hP : Pws l) (h : (gateL l).length ≠ 0) :
    leastV (gateV l) * (measDn l : Int) ≤ (measNn l : Int) * 480 ∧ (measNn l : Int) * 480 ≤ topL (gateV l) * (measDn l : Int) := by
  have h0 := sum_between (l := gateV l) (a := leastV (gateV l)) (b := topL (gateV l)) (fun x hx => ⟨(foldmin_le (l := gateV l)).2 x hx, (foldmax_ge (l := gateV l) (m := 0)).2 x hx⟩)
  have hs : (gateV l).sum = gateSum l := rfl
  rw [hs, gateV_len] at h0
  have hsb := sumAt_bound hP.2 (gateL l)
  have hs2 : gateSum l = sumAt l (gateL l) := rfl
  rw [← hs2] at hsb
  obtain ⟨S, hS⟩ := Int.eq_ofNat_of_zero_le hsb.1
  obtain ⟨c, hc⟩ : ∃ c, c = (gateL l).length := ⟨_, rfl⟩
  rw [hS, ← hc] at h0
  have hg : 0 < Nat.gcd S (480 * c) := Nat.gcd_pos_of_pos_right _ (by omega)
  have hn : measNn l = S / Nat.gcd S (480 * c) := by unfold measNn; rw [if_neg h, hS, Int.toNat_natCast, ← hc]
  have hd : measDn l = (480 * c) / Nat.gcd S (480 * c) := by unfold measDn; rw [if_neg h, hS, Int.toNat_natCast, ← hc]
  have e1 : measNn l * Nat.gcd S (480 * c) = S := by rw [hn]; exact Nat.div_mul_cancel (Nat.gcd_dvd_left _ _)
  have e2 : measDn l * Nat.gcd S (480 * c) = 480 * c := by rw [hd]; exact Nat.div_mul_cancel (Nat.gcd_dvd_right _ _)
  obtain ⟨G, hG⟩ : ∃ G, G = Nat.gcd S (480 * c) := ⟨_, rfl⟩
  rw [← hG] at hg e1 e2
  obtain ⟨u, hu⟩ : ∃ u, u = measNn l := ⟨_, rfl⟩
  obtain ⟨v, hv⟩ : ∃ v, v = measDn l := ⟨_, rfl⟩
  rw [← hu] at e1 ⊢
  rw [← hv] at e2 ⊢
  have e1' : (u : Int) * (G : Int) = (S : Int) := by rw [← Int.natCast_mul, e1]
  have e2' : (v : Int) * (G : Int) = 480 * (c : Int) := by rw [← Int.natCast_mul, e2, Int.natCast_mul]; rfl
  have hGi : (0 : Int) < (G : Int) := by omega
  obtain ⟨lo, hlo⟩ : ∃ lo, lo = leastV (gateV l) := ⟨_, rfl⟩
  obtain ⟨hi, hhi⟩ : ∃ hi, hi = topL (gateV l) := ⟨_, rfl⟩
  rw [← hlo, ← hhi] at h0 ⊢
  have f1 : lo * (v : Int) * (G : Int) = 480 * ((c : Int) * lo) := by rw [Int.mul_assoc, e2', Int.mul_left_comm, Int.mul_comm lo]
  have f2 : hi * (v : Int) * (G : Int) = 480 * ((c : Int) * hi) := by rw [Int.mul_assoc, e2', Int.mul_left_comm, Int.mul_comm hi]
  have f3 : (u : Int) * 480 * (G : Int) = 480 * (S : Int) := by rw [Int.mul_right_comm, e1', Int.mul_comm]
  constructor
  · refine Int.le_of_mul_le_mul_right (a := (G : Int)) ?_ hGi
    rw [f1, f3]
    have := h0.1
    omega
  · refine Int.le_of_mul_le_mul_right (a := (G : Int)) ?_ hGi
    rw [f2, f3]
    have := h0.2
    omega
theorem fold_snoc_max (l : List Int) (x : Int) : topL (l ++ [x]) = max (topL l) x := by simp [topL]
theorem fold_snoc_min (l : List Int) (x : Int) : leastV (l ++ [x]) = min (leastV l) x := by simp [leastV]
end Go.Proofs.Ytcgejbnmbamchaa
