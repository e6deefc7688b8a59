/- Plain lists under CadenceFieldOrder: runs of film frames. -/
import Derived.Test.YtclainbjidajbaaWeaveM
namespace Go.Proofs.Ytclainbjidajbaa
open Go.RowKit

/-- For how many fields film frame k is shown, the last one with the field that makes the number even. -/
def runF (g : Nat → Nat) (n : Nat) (k : Nat) : Nat := if k + 1 = n ∧ (ownL g n).length % 2 = 1 then g k + 1 else g k

theorem ownL_congr {g h : Nat → Nat} : ∀ (n : Nat), (∀ k, k < n → g k = h k) → ownL g n = ownL h n
  | 0, _ => rfl
  | n + 1, hh => by rw [ownL_succ, ownL_succ, ownL_congr n (fun k hk => hh k (by omega)), hh n (by omega)]

theorem weave_runs (g : Nat → Nat) (n : Nat) : evenL n (ownL g n) = ownL (runF g n) n := by
  unfold evenL
  cases n with
  | zero => simp [ownL]
  | succ n =>
    have e : ownL (runF g (n + 1)) n = ownL g n := ownL_congr n (fun k hk => by unfold runF; rw [if_neg (by omega)])
    rw [ownL_succ (runF g (n + 1)), e]
    split
    · rename_i h
      rw [ownL_succ]
      unfold runF
      rw [if_neg (by omega)]
    · rename_i h
      unfold runF
      rw [if_pos ⟨rfl, by omega⟩, List.replicate_succ', ← List.append_assoc, ← ownL_succ]
      congr 2
      simp

theorem ownL_pre (h : Nat → Nat) (n : Nat) : ∀ (k : Nat), k ≤ n → ∃ t, ownL h n = ownL h k ++ t := by
  intro k hk
  obtain ⟨m, rfl⟩ : ∃ m, n = k + m := ⟨n - k, by omega⟩
  induction m with
  | zero => exact ⟨[], by simp⟩
  | succ m ih =>
    obtain ⟨t, ht⟩ := ih (by omega)
    refine ⟨t ++ List.replicate (h (k + m)) ((k + m : Nat) : Int), ?_⟩
    rw [← Nat.add_assoc, ownL_succ, ht, List.append_assoc]

/-- Inside the run of k the list holds k. -/
theorem ownL_at (h : Nat → Nat) {n k j : Nat} (hk : k < n) (hj : j < h k) : (ownL h n)[(ownL h k).length + j]? = some (k : Int) := by
  obtain ⟨t, ht⟩ := ownL_pre h n (k + 1) (by omega)
  rw [ht, ownL_succ, List.append_assoc, List.getElem?_append_right (by omega), Nat.add_sub_cancel_left, List.getElem?_append_left (by simpa using hj)]
  simp [hj]
theorem ownL_lt (h : Nat → Nat) {n k j : Nat} (hk : k < n) (hj : j < h k) : (ownL h k).length + j < (ownL h n).length :=
  (List.getElem?_eq_some_iff.1 (ownL_at h hk hj)).1
theorem ownL_len_succ (h : Nat → Nat) (k : Nat) : (ownL h (k + 1)).length = (ownL h k).length + h k := by rw [ownL_succ]; simp
/-- Behind the run of k there is another frame, or the end. -/
theorem ownL_next (h : Nat → Nat) {n k : Nat} (hk : k < n) (hp : ∀ i, i < n → 0 < h i) : (ownL h n).length = (ownL h k).length + h k ∨ (ownL h n)[(ownL h k).length + h k]? = some ((k + 1 : Nat) : Int) := by
  rw [← ownL_len_succ]
  rcases (by omega : k + 1 = n ∨ k + 1 < n) with e | e
  · left; rw [e]
  · right
    have := ownL_at h (n := n) (k := k + 1) (j := 0) e (hp _ e)
    simpa using this

/-- Each film frame is shown for two or three fields. -/
theorem cnt_23 {a b c d : Int} (h : teleB a b c d = true) (k : Nat) : cntF a b c d k = 2 ∨ cntF a b c d k = 3 := by
  obtain ⟨⟨v1, v2⟩, ⟨f1, f2⟩, h3, h4, _⟩ := tele_bd h
  unfold cntF beforeF
  generalize c * b = V at *
  generalize a * d = F at *
  have e1 : 2 * ((k : Int) + 1) * V = 2 * (k : Int) * V + 2 * V := by rw [Int.mul_add, Int.add_mul, Int.mul_one]
  rw [e1]
  generalize 2 * (k : Int) * V = Z
  have q1 := Int.mul_ediv_add_emod Z F
  have r1 := Int.emod_nonneg Z (show F ≠ 0 by omega)
  have r2 := Int.emod_lt_of_pos Z (show 0 < F by omega)
  generalize Z / F = q at *
  generalize Z % F = r at *
  have hlo : q + 2 ≤ (Z + 2 * V) / F := by
    apply Int.le_ediv_of_mul_le (by omega)
    rw [Int.add_mul, Int.mul_comm q F]; omega
  have hhi : (Z + 2 * V) / F < q + 4 := by
    apply Int.ediv_lt_of_lt_mul (by omega)
    rw [Int.add_mul, Int.mul_comm q F]; omega
  omega
theorem run_bd {a b c d : Int} (h : teleB a b c d = true) (n k : Nat) : 2 ≤ runF (cntF a b c d) n k ∧ runF (cntF a b c d) n k ≤ 4 ∧ (k + 1 < n → runF (cntF a b c d) n k ≤ 3) := by
  unfold runF
  rcases cnt_23 h k with e | e <;> rw [e] <;> split <;> omega

theorem pairs_flat (l : List Int) (he : l.length % 2 = 0) : (pairsL l (l.length / 2)).flatMap (fun p => [p.1, p.2]) = l := by
  apply List.ext_getElem?
  intro i
  have key : ∀ m, 2 * m ≤ l.length → (pairsL l m).flatMap (fun p => [p.1, p.2]) = l.take (2 * m) := by
    intro m
    induction m with
    | zero => intro _; simp [pairsL]
    | succ m ih =>
      intro hm
      rw [pairsL_succ, List.flatMap_append, ih (by omega)]
      have e1 : l.take (2 * (m + 1)) = l.take (2 * m) ++ [l.getD (2 * m) 0, l.getD (2 * m + 1) 0] := by
        rw [show 2 * (m + 1) = 2 * m + 1 + 1 by omega, List.take_succ_eq_append_getElem (show 2 * m + 1 < l.length by omega), List.take_succ_eq_append_getElem (show 2 * m < l.length by omega), List.append_assoc]
        simp [List.getD_eq_getElem?_getD, show 2 * m < l.length by omega, show 2 * m + 1 < l.length by omega]
      rw [e1]
      simp
  rw [key _ (by omega), show 2 * (l.length / 2) = l.length by omega, List.take_length]
end Go.Proofs.Ytclainbjidajbaa
