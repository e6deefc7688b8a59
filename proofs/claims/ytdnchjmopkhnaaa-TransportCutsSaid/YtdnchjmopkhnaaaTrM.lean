/- Plain: the bytes of a packet, written out. -/
import Derived.Test.YtdnchjmopkhnaaaTrC
namespace Go.Proofs.Ytdnchjmopkhnaaa
open Go.RowKit

def clkB (v : Int) : List Int := [v / 2 ^ 40 % 256, v / 2 ^ 32 % 256, v / 2 ^ 24 % 256, v / 2 ^ 16 % 256, v / 2 ^ 8 % 256, v / 2 ^ 0 % 256]
def headT (pid cnt : Int) (st : Bool) (n : Nat) : List Int := [71, pid / 256 + (if st then 64 else 0), pid % 256, ctlT n * 16 + cnt]
def midT (clk : Int) (n : Nat) : List Int :=
  if n = 184 then [] else ((183 - n : Nat) : Int) :: (if n = 183 then [] else if clk = -1 then 0 :: List.replicate (182 - n) 255 else 16 :: (clkB (clkV clk) ++ List.replicate (176 - n) 255))
def pktL (pid cnt : Int) (st : Bool) (clk : Int) (l : List Int) (n : Nat) : List Int := headT pid cnt st n ++ midT clk n ++ l

theorem enc4_form (pid cnt : Int) (st : Bool) (n : Nat) : enc4 pid cnt st n = headT pid cnt st n ++ List.replicate 184 0 := by
  unfold enc4 enc3 z188 headT
  rw [show (188 : Nat) = 184 + 1 + 1 + 1 + 1 from rfl, List.replicate_succ, List.replicate_succ, List.replicate_succ, List.replicate_succ]
  generalize List.replicate 184 (0 : Int) = r
  rfl
theorem enc5_form (pid cnt : Int) (st : Bool) (l : List Int) (n : Nat) (hl : l.length = n) (hn : n ≤ 184) : enc5 pid cnt st l n = headT pid cnt st n ++ List.replicate (184 - n) 0 ++ l := by
  unfold enc5 spl
  rw [List.drop_of_length_le (by rw [enc4_len]; omega), List.append_nil, enc4_form, List.take_append]
  have : (headT pid cnt st n).length = 4 := rfl
  rw [List.take_of_length_le (by omega), this, List.take_replicate]
  congr 3
  omega
theorem fillL_form (h : List Int) (hh : h.length = 5) (t : List Int) : ∀ (j k : Nat), j ≤ k → fillL (h ++ (List.replicate k 0 ++ t)) j = h ++ (List.replicate j 255 ++ (List.replicate (k - j) 0 ++ t))
  | 0, k, _ => by simp [fillL]
  | j + 1, k, hj => by
    unfold fillL
    rw [fillL_form h hh t j k (by omega), List.set_append, if_neg (by omega), hh, show 5 + j - 5 = j by omega, List.set_append, if_neg (by simp), List.length_replicate, Nat.sub_self,
      show k - j = (k - (j + 1)) + 1 by omega, List.replicate_succ, List.cons_append, List.set_cons_zero, List.replicate_succ' (n := j)]
    simp
theorem clkL_form (h0 h1 h2 h3 h4 h5 c0 c1 c2 c3 c4 c5 : Int) (t : List Int) (v : Int) : clkL (h0 :: h1 :: h2 :: h3 :: h4 :: h5 :: c0 :: c1 :: c2 :: c3 :: c4 :: c5 :: t) v 6 = h0 :: h1 :: h2 :: h3 :: h4 :: h5 :: (clkB v ++ t) := rfl
theorem encL_form (pid cnt : Int) (st : Bool) (clk : Int) (l : List Int) (n : Nat) (hl : l.length = n) (hn : n ≤ 184) (hrm : clk = -1 ∨ n ≤ 176) : encL pid cnt st clk l n = pktL pid cnt st clk l n := by
  unfold encL pktL midT
  rw [enc5_form pid cnt st l n hl hn]
  by_cases h1 : n = 184
  · rw [if_pos h1, if_pos h1, h1]
    simp
  · rw [if_neg h1, if_neg h1]
    dsimp only
    have e1 : (headT pid cnt st n ++ List.replicate (184 - n) 0 ++ l).set 4 ((183 - n : Nat) : Int) = (headT pid cnt st n ++ [((183 - n : Nat) : Int)]) ++ (List.replicate (183 - n) 0 ++ l) := by
      rw [show 184 - n = (183 - n) + 1 by omega, List.replicate_succ]
      simp [headT]
    rw [e1]
    have hh : (headT pid cnt st n ++ [((183 - n : Nat) : Int)]).length = 5 := rfl
    have e2 := fillL_form _ hh l (183 - n) (183 - n) (Nat.le_refl _)
    rw [Nat.sub_self, List.replicate_zero, List.nil_append] at e2
    unfold enc8
    rw [e2]
    by_cases h2 : n = 183
    · have hc : clk = -1 := by omega
      rw [if_neg (show ¬ 0 < 183 - n by omega), if_pos h2, if_pos hc, h2]
      simp
    · rw [if_pos (show 0 < 183 - n by omega), if_neg h2]
      obtain ⟨k, hk⟩ : ∃ k, k = 182 - n := ⟨_, rfl⟩
      rw [show 183 - n = k + 1 by omega, ← hk]
      by_cases h3 : clk = -1
      · rw [if_pos h3, if_pos h3]
        simp only [List.replicate_succ, headT, List.cons_append, List.nil_append, List.set_cons_succ, List.set_cons_zero, List.append_assoc]
      · rw [if_neg h3, if_neg h3]
        have h4 := hrm.resolve_left h3
        obtain ⟨m, hm⟩ : ∃ m, m = 176 - n := ⟨_, rfl⟩
        rw [← hm, show k = m + 1 + 1 + 1 + 1 + 1 + 1 by omega]
        simp only [List.replicate_succ, headT, List.cons_append, List.nil_append, List.set_cons_succ, List.set_cons_zero, List.append_assoc]
        rw [clkL_form]
theorem midT_len (clk : Int) (n : Nat) (hn : n ≤ 184) (hrm : clk = -1 ∨ n ≤ 176) : (midT clk n).length = 184 - n := by
  unfold midT
  by_cases h1 : n = 184
  · rw [if_pos h1]; simp; omega
  · rw [if_neg h1]
    by_cases h2 : n = 183
    · rw [if_pos h2]; simp; omega
    · rw [if_neg h2]
      by_cases h3 : clk = -1
      · rw [if_pos h3]; simp; omega
      · rw [if_neg h3]
        have h4 := hrm.resolve_left h3
        simp [clkB]; omega
/-- A packet as data. -/
structure TP where
  pid : Int
  cnt : Int
  st : Bool
  clk : Int
  l : List Int
deriving DecidableEq
def TP.ok (p : TP) : Bool := validT p.pid p.cnt p.st p.clk p.l.length
def TP.bytes (p : TP) : List Int := pktL p.pid p.cnt p.st p.clk p.l p.l.length
end Go.Proofs.Ytdnchjmopkhnaaa
