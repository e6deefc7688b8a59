/- Blocks of a macroblock: plain numbers. -/
import Derived.Test.YtaedpadkpclldaaCut
import Derived.Test.YtaedpadkpclldaaFieldW
import Derived.Test.YtaedpadkpclldaaWeaveW
import Derived.Test.YtaedpadkpclldaaValid
namespace Go.Proofs.Ytaedpadkpclldaa
open Go.RowKit

def hasB (f : Fr) (mx my : Int) : Bool := validB f && decide (0 ≤ mx) && decide (mx < f.W / 16) && decide (0 ≤ my) && decide (my < f.H / 16)
def fromN (w mx my n : Nat) (fd : Bool) : Nat :=
  if 4 ≤ n then 8 * my * (w / 2) + 8 * mx else if fd then 16 * my * w + 16 * mx + n % 2 * 8 + n / 2 * w else 16 * my * w + 16 * mx + n % 2 * 8 + n / 2 * 8 * w
def stepN (w n : Nat) (fd : Bool) : Nat := if 4 ≤ n then w / 2 else if fd then 2 * w else w
/-- The index of sample k of block n within its component. -/
def placeN (w mx my n : Nat) (fd : Bool) (k : Nat) : Nat :=
  if 4 ≤ n then (8 * my + k / 8) * (w / 2) + 8 * mx + k % 8
  else if fd then (16 * my + (2 * (k / 8) + n / 2)) * w + 16 * mx + 8 * (n % 2) + k % 8
  else (16 * my + (8 * (n / 2) + k / 8)) * w + 16 * mx + 8 * (n % 2) + k % 8
theorem place_eq (w mx my n : Nat) (fd : Bool) (k : Nat) : fromN w mx my n fd + k / 8 * stepN w n fd + k % 8 = placeN w mx my n fd k := by
  unfold fromN stepN placeN
  by_cases h : 4 ≤ n
  · rw [if_pos h, if_pos h, if_pos h, Nat.add_mul]; omega
  · rw [if_neg h, if_neg h, if_neg h]
    cases fd
    · rw [if_neg (by decide), if_neg (by decide), if_neg (by decide), Nat.add_mul, Nat.add_mul, Nat.mul_comm (n / 2) 8]; omega
    · rw [if_pos rfl, if_pos rfl, if_pos rfl, Nat.add_mul, Nat.add_mul, ← Nat.mul_assoc (k / 8) 2 w, Nat.mul_comm (k / 8) 2]; omega
def compL (f : Fr) (n : Nat) : List Int := if n = 4 then f.U else if n = 5 then f.V else f.Y
def blockL (f : Fr) (mx my n : Nat) (fd : Bool) : List Int := cutL (compL f n) (fromN f.W.toNat mx my n fd) (stepN f.W.toNat n fd) 8 8
theorem blockL_len (f : Fr) (mx my n : Nat) (fd : Bool) : (blockL f mx my n fd).length = 64 := by unfold blockL; rw [cutL_len]
theorem blockL_at {f : Fr} {mx my n : Nat} {fd : Bool} {k : Nat} (h : k < 64) : (blockL f mx my n fd)[k]? = some ((compL f n).getD (placeN f.W.toNat mx my n fd k) 0) := by
  unfold blockL
  rw [cutL_at (by omega)]
  unfold cutAt
  rw [place_eq]
/-- The sizes of a valid frame. -/
theorem valid_sizes {f : Fr} (h : validB f = true) : ∃ a b : Nat, f.W = ((16 * a : Nat) : Int) ∧ f.H = ((16 * b : Nat) : Int) ∧ 1 ≤ a ∧ a ≤ 4 ∧ 1 ≤ b ∧ b ≤ 4 ∧ f.Y.length = (16 * b) * (16 * a) ∧ f.U.length = (8 * b) * (8 * a) ∧ f.V.length = (8 * b) * (8 * a) := by
  obtain ⟨W, H, Y, U, V⟩ := f
  simp only [validB, Bool.and_eq_true, decide_eq_true_eq] at h
  obtain ⟨⟨h1, h2⟩, h3⟩ := h
  obtain ⟨a, q, rfl, rfl, b1, b2, b3, b4, lY, lU, lV⟩ := formed_sizes h1
  dsimp only at *
  obtain ⟨a', rfl⟩ : ∃ a', a = 8 * a' := ⟨a / 8, by omega⟩
  obtain ⟨q', rfl⟩ : ∃ q', q = 8 * q' := ⟨q / 8, by omega⟩
  refine ⟨a', q', by omega, by omega, by omega, by omega, by omega, by omega, ?_, lU, lV⟩
  rw [lY, show 2 * (8 * q') = 16 * q' by omega, show 2 * (8 * a') = 16 * a' by omega]
theorem has_nats {f : Fr} {mx my : Int} (h : hasB f mx my = true) : validB f = true ∧ ∃ x y : Nat, mx = (x : Int) ∧ my = (y : Int) ∧ x < (f.W / 16).toNat ∧ y < (f.H / 16).toNat := by
  simp only [hasB, Bool.and_eq_true, decide_eq_true_eq] at h
  obtain ⟨⟨⟨⟨h1, h2⟩, h3⟩, h4⟩, h5⟩ := h
  exact ⟨h1, mx.toNat, my.toNat, by omega, by omega, by omega, by omega⟩
theorem lin_lt {r R w c : Nat} (hr : r < R) (hc : c < w) : r * w + c < R * w := by
  have : (r + 1) * w ≤ R * w := Nat.mul_le_mul_right _ hr
  rw [Nat.add_mul] at this
  omega
theorem place_lt {a b mx my n k : Nat} {fd : Bool} {f : Fr} (hW : f.W = ((16 * a : Nat) : Int)) (hx : mx < a) (hy : my < b) (hn : n ≤ 5) (hk : k < 64)
    (lY : f.Y.length = (16 * b) * (16 * a)) (lU : f.U.length = (8 * b) * (8 * a)) (lV : f.V.length = (8 * b) * (8 * a)) : placeN f.W.toNat mx my n fd k < (compL f n).length := by
  have eW : f.W.toNat = 16 * a := by omega
  rw [eW]
  unfold placeN compL
  by_cases h : 4 ≤ n
  · rw [if_pos h]
    have e : (8 * my + k / 8) * (16 * a / 2) + 8 * mx + k % 8 < (8 * b) * (8 * a) := by
      rw [show 16 * a / 2 = 8 * a by omega, Nat.add_assoc]
      exact lin_lt (by omega) (by omega)
    rcases (show n = 4 ∨ n = 5 by omega) with rfl | rfl
    · rw [if_pos rfl, lU]; exact e
    · rw [if_neg (by omega), if_pos rfl, lV]; exact e
  · rw [if_neg h, if_neg (show ¬ n = 4 by omega), if_neg (show ¬ n = 5 by omega), lY]
    cases fd
    · rw [if_neg (by decide)]
      have := lin_lt (r := 16 * my + (8 * (n / 2) + k / 8)) (R := 16 * b) (w := 16 * a) (c := 16 * mx + 8 * (n % 2) + k % 8) (by omega) (by omega)
      omega
    · rw [if_pos rfl]
      have := lin_lt (r := 16 * my + (2 * (k / 8) + n / 2)) (R := 16 * b) (w := 16 * a) (c := 16 * mx + 8 * (n % 2) + k % 8) (by omega) (by omega)
      omega
theorem block_fit {a b mx my n : Nat} {fd : Bool} {f : Fr} (hW : f.W = ((16 * a : Nat) : Int)) (hx : mx < a) (hy : my < b) (hn : n ≤ 5)
    (lY : f.Y.length = (16 * b) * (16 * a)) (lU : f.U.length = (8 * b) * (8 * a)) (lV : f.V.length = (8 * b) * (8 * a)) : ∀ r, r < 8 → fromN f.W.toNat mx my n fd + r * stepN f.W.toNat n fd + 8 ≤ (compL f n).length := by
  intro r hr
  have h := place_lt (fd := fd) (k := 8 * r + 7) hW hx hy hn (by omega) lY lU lV
  rw [← place_eq, show (8 * r + 7) / 8 = r by omega, show (8 * r + 7) % 8 = 7 by omega] at h
  omega
theorem from_le {a mx my n : Nat} {fd : Bool} (hx : mx < a) (ha : a ≤ 4) (hy : my < 4) (hn : n ≤ 5) : fromN (16 * a) mx my n fd ≤ 10000 ∧ stepN (16 * a) n fd ≤ 128 := by
  have h1 : 16 * my * (16 * a) ≤ 48 * 64 := Nat.mul_le_mul (by omega) (by omega)
  have h2 : 8 * my * (16 * a / 2) ≤ 24 * 32 := Nat.mul_le_mul (by omega) (by omega)
  have h3 : n / 2 * (16 * a) ≤ 2 * 64 := Nat.mul_le_mul (by omega) (by omega)
  have h4 : n / 2 * 8 * (16 * a) ≤ 16 * 64 := Nat.mul_le_mul (by omega) (by omega)
  unfold fromN stepN
  constructor <;> (repeat' split) <;> omega
end Go.Proofs.Ytaedpadkpclldaa
