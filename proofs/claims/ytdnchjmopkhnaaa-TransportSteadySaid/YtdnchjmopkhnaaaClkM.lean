/- Clocks in plain numbers: when packets arrive, and how far their clocks are from it. -/
import Derived.Test.YtdnchjmopkhnaaaClkA
namespace Go.Proofs.Ytdnchjmopkhnaaa
open Go.RowKit

/-- When packet n arrives. -/
def arrN (n B : Nat) : Nat := n * 40608000000 / B
theorem arr_split (N B : Nat) (hB : 0 < B) : arrN N B = N / B * 40608000000 + N % B * 40608000000 / B := by
  have h := Nat.div_add_mod N B
  unfold arrN
  conv => lhs; rw [← h]
  rw [Nat.add_mul, Nat.mul_assoc, Nat.mul_add_div hB]
theorem arr_part (N B : Nat) (hB : 0 < B) : N % B * 40608000000 / B < 40608000000 := by
  rw [Nat.div_lt_iff_lt_mul hB, Nat.mul_comm]
  exact Nat.mul_lt_mul_of_pos_left (Nat.mod_lt _ hB) (by omega)
theorem arr_le (N B m : Nat) (hB : 0 < B) (h : N ≤ m) : arrN N B ≤ m * 40608000000 := by
  unfold arrN
  exact Nat.le_trans (Nat.div_le_self _ _) (Nat.mul_le_mul_right _ h)
theorem arr_mono {N M B : Nat} (h : N ≤ M) : arrN N B ≤ arrN M B := by
  unfold arrN
  exact Nat.div_le_div_right (Nat.mul_le_mul_right _ h)
theorem arrE_arrN (n B : Nat) (h : 1 ≤ B ∧ B ≤ 1073741824) (hn : n ≤ 100000) : arrE n B = ((arrN n B : Int), 0) := by
  rw [arrE_nat n B h, if_pos]
  · rfl
  · have := arr_le n B 100000 (by omega) hn
    unfold arrN at this
    omega

/-- How far the clock ci of packet i is from the clock cf of packet f. -/
def jD (B f : Nat) (cf : Int) (i : Nat) (ci : Int) : Int := (ci - cf - ((arrN i B : Int) - (arrN f B : Int))) % 2576980377600
def jErr (d : Int) : Int := min d (2576980377600 - d)
def jStep (B : Nat) (pid : Int) (i : Nat) (s : Option (Nat × Int) × Int) (x : TP) : Option (Nat × Int) × Int :=
  if x.pid = pid ∧ 0 ≤ x.clk ∧ x.clk < 2576980377600 then (some (s.1.getD (i, x.clk)), max s.2 (jErr (jD B (s.1.getD (i, x.clk)).1 (s.1.getD (i, x.clk)).2 i x.clk))) else s
def jSt (B : Nat) (pid : Int) (ps : List TP) : Nat → Option (Nat × Int) × Int
  | 0 => (none, 0)
  | k + 1 => match ps[k]? with
    | none => jSt B pid ps k
    | some x => jStep B pid k (jSt B pid ps k) x
theorem jSt_succ {B : Nat} {pid : Int} {ps : List TP} {k : Nat} {x : TP} (h : ps[k]? = some x) : jSt B pid ps (k + 1) = jStep B pid k (jSt B pid ps k) x := by
  simp only [jSt, h]
theorem jD_rng (B f : Nat) (cf : Int) (i : Nat) (ci : Int) : 0 ≤ jD B f cf i ci ∧ jD B f cf i ci < 2576980377600 := by
  unfold jD; omega
/-- What is known of a state. -/
def jOk (k : Nat) (s : Option (Nat × Int) × Int) : Prop := (∀ f c, s.1 = some (f, c) → f < k ∧ 0 ≤ c ∧ c < 2576980377600) ∧ 0 ≤ s.2 ∧ s.2 < 2576980377600
theorem jSt_ok (B : Nat) (pid : Int) (ps : List TP) : ∀ k, jOk k (jSt B pid ps k)
  | 0 => ⟨by simp [jSt], by simp [jSt]⟩
  | k + 1 => by
    have ih := jSt_ok B pid ps k
    rcases hx : ps[k]? with _ | x
    · simp only [jSt, hx]
      exact ⟨fun f c h => ⟨by have := (ih.1 f c h).1; omega, (ih.1 f c h).2⟩, ih.2⟩
    · rw [jSt_succ hx]
      unfold jStep
      split
      · rename_i hc
        have hd := jD_rng B ((jSt B pid ps k).1.getD (k, x.clk)).1 ((jSt B pid ps k).1.getD (k, x.clk)).2 k x.clk
        refine ⟨fun f c h => ?_, ?_, ?_⟩
        · simp only [Option.some.injEq] at h
          rcases hs : (jSt B pid ps k).1 with _ | ⟨f', c'⟩
          · rw [hs] at h
            simp only [Option.getD_none, Prod.mk.injEq] at h
            obtain ⟨rfl, rfl⟩ := h
            exact ⟨by omega, hc.2⟩
          · have h2 := ih.1 f' c' hs
            rw [hs] at h
            simp only [Option.getD_some, Prod.mk.injEq] at h
            obtain ⟨rfl, rfl⟩ := h
            exact ⟨by omega, h2.2⟩
        · have := ih.2; unfold jErr; simp only; omega
        · have := ih.2; unfold jErr; simp only; omega
      · exact ⟨fun f c h => ⟨by have := (ih.1 f c h).1; omega, (ih.1 f c h).2⟩, ih.2⟩

theorem tmod_mod (x t d : Int) (ht : x.tmod 2576980377600 = t) (hd : d = if t < 0 then t + 2576980377600 else t) : d = x % 2576980377600 := by
  rw [hd, ← ht]
  rcases Int.lt_or_le x 0 with h | h
  · have e : x.tmod 2576980377600 = -((-x) % 2576980377600) := by
      rw [← Int.neg_neg x, Int.neg_tmod, Int.tmod_eq_emod_of_nonneg (by omega), Int.neg_neg]
    rw [e]
    split <;> omega
  · rw [Int.tmod_eq_emod_of_nonneg h]
    rw [if_neg (by omega)]
/-- The program's difference is the same. -/
theorem jD_prog (B f : Nat) (cf : Int) (i : Nat) (ci t d : Int) (ht : (ci - (cf - ((arrN f B % 2576980377600 : Nat) : Int)) - ((arrN i B % 2576980377600 : Nat) : Int)).tmod 2576980377600 = t) (hd : d = if t < 0 then t + 2576980377600 else t) : d = jD B f cf i ci := by
  rw [tmod_mod _ t d ht hd]
  unfold jD
  omega
/-- The reference's difference is the same. -/
theorem jD_ref (B f : Nat) (cf : Int) (i : Nat) (ci r t d : Int) (hr : ((arrN i B : Int) - (arrN f B : Int)).tmod 2576980377600 = r) (ht : (ci - cf - r).tmod 2576980377600 = t) (hd : d = if t < 0 then t + 2576980377600 else t) : d = jD B f cf i ci := by
  rw [tmod_mod _ t d ht hd]
  have h := tmod_mod _ r _ hr rfl
  unfold jD
  split at h <;> omega
end Go.Proofs.Ytdnchjmopkhnaaa
