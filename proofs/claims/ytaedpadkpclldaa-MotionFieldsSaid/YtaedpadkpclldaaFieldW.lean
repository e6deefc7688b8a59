/- Fields: the plain function, and lemmas on sizes. -/
import Derived.Test.YtaedpadkpclldaaLines
namespace Go.Proofs.Ytaedpadkpclldaa
open Go.RowKit

def fieldOk (f : Fr) (par : Int) : Prop := formedB f = true ∧ f.H % 4 = 0 ∧ (par = 0 ∨ par = 1)
instance (f : Fr) (par : Int) : Decidable (fieldOk f par) := by unfold fieldOk; infer_instance
def fieldFr (f : Fr) (par : Nat) : Fr :=
  ⟨f.W, f.H / 2, cutL f.Y (par * f.W.toNat) (2 * f.W.toNat) f.W.toNat (f.H / 2).toNat, cutL f.U (par * (f.W / 2).toNat) (2 * (f.W / 2).toNat) (f.W / 2).toNat (f.H / 4).toNat, cutL f.V (par * (f.W / 2).toNat) (2 * (f.W / 2).toNat) (f.W / 2).toNat (f.H / 4).toNat⟩
def fieldF (f : Fr) (par : Int) : Fr × Int := if fieldOk f par then (fieldFr f par.toNat, 0) else (zeroFr, 1)
theorem fit_rows {s a r h n : Nat} (hs : s ≤ a) (hn : n = h * (2 * a)) (hr : r < h) : s + r * (2 * a) + a ≤ n := by
  have : (r + 1) * (2 * a) ≤ h * (2 * a) := Nat.mul_le_mul_right _ (by omega)
  have e : (r + 1) * (2 * a) = r * (2 * a) + 2 * a := Nat.succ_mul _ _
  omega
/-- The sizes of a formed frame whose height is a multiple of four, as numbers. -/
theorem field_sizes {W H : Int} {Y U V : List Int} (h : formedB ⟨W, H, Y, U, V⟩ = true) (h4 : H % 4 = 0) :
    ∃ a q : Nat, W = ((2 * a : Nat) : Int) ∧ H = ((4 * q : Nat) : Int) ∧ 1 ≤ a ∧ a ≤ 32 ∧ 1 ≤ q ∧ q ≤ 16 ∧ Y.length = (2 * q) * (2 * (2 * a)) ∧ U.length = q * (2 * a) ∧ V.length = q * (2 * a) := by
  simp only [formedB, Bool.and_eq_true, decide_eq_true_eq] at h
  obtain ⟨⟨⟨hs, a1⟩, a2⟩, a3⟩ := h
  obtain ⟨g1, g2, g3, g4, g5, g6⟩ := sizeB_true hs
  refine ⟨(W / 2).toNat, (H / 4).toNat, by omega, by omega, by omega, by omega, by omega, by omega, ?_, ?_, ?_⟩
  · obtain ⟨a, rfl⟩ : ∃ a : Nat, W = ((2 * a : Nat) : Int) := ⟨(W / 2).toNat, by omega⟩
    obtain ⟨q, rfl⟩ : ∃ q : Nat, H = ((4 * q : Nat) : Int) := ⟨(H / 4).toNat, by omega⟩
    have e1 : (((2 * a : Nat) : Int) / 2).toNat = a := by omega
    have e2 : (((4 * q : Nat) : Int) / 4).toNat = q := by omega
    rw [e1, e2]
    rw [← Int.natCast_mul] at a1
    have a1' : Y.length = 2 * a * (4 * q) := by exact_mod_cast a1
    rw [a1', show 4 * q = 2 * (2 * q) by omega, Nat.mul_comm (2 * a), Nat.mul_assoc 2, Nat.mul_comm 2, Nat.mul_assoc]
    congr 1
    omega
  · obtain ⟨a, rfl⟩ : ∃ a : Nat, W = ((2 * a : Nat) : Int) := ⟨(W / 2).toNat, by omega⟩
    obtain ⟨q, rfl⟩ : ∃ q : Nat, H = ((4 * q : Nat) : Int) := ⟨(H / 4).toNat, by omega⟩
    have e1 : (((2 * a : Nat) : Int) / 2) = a := by omega
    have e2 : (((4 * q : Nat) : Int) / 4).toNat = q := by omega
    have e3 : (((4 * q : Nat) : Int) / 2) = ((2 * q : Nat) : Int) := by omega
    rw [e1, e3, ← Int.natCast_mul] at a2
    have a2' : U.length = a * (2 * q) := by exact_mod_cast a2
    rw [a2', e1, e2]
    simp only [Int.toNat_natCast]
    rw [Nat.mul_comm a, Nat.mul_comm 2 q, Nat.mul_assoc]
  · obtain ⟨a, rfl⟩ : ∃ a : Nat, W = ((2 * a : Nat) : Int) := ⟨(W / 2).toNat, by omega⟩
    obtain ⟨q, rfl⟩ : ∃ q : Nat, H = ((4 * q : Nat) : Int) := ⟨(H / 4).toNat, by omega⟩
    have e1 : (((2 * a : Nat) : Int) / 2) = a := by omega
    have e2 : (((4 * q : Nat) : Int) / 4).toNat = q := by omega
    have e3 : (((4 * q : Nat) : Int) / 2) = ((2 * q : Nat) : Int) := by omega
    rw [e1, e3, ← Int.natCast_mul] at a3
    have a3' : V.length = a * (2 * q) := by exact_mod_cast a3
    rw [a3', e1, e2]
    simp only [Int.toNat_natCast]
    rw [Nat.mul_comm a, Nat.mul_comm 2 q, Nat.mul_assoc]
theorem fieldFr_of {a q par : Nat} {Y U V : List Int} : fieldFr ⟨((2 * a : Nat) : Int), ((4 * q : Nat) : Int), Y, U, V⟩ par =
    ⟨((2 * a : Nat) : Int), ((2 * q : Nat) : Int), cutL Y (par * (2 * a)) (2 * (2 * a)) (2 * a) (2 * q), cutL U (par * a) (2 * a) a q, cutL V (par * a) (2 * a) a q⟩ := by
  unfold fieldFr
  have e1 : (((2 * a : Nat) : Int) / 2).toNat = a := by omega
  have e2 : (((4 * q : Nat) : Int) / 4).toNat = q := by omega
  have e3 : (((4 * q : Nat) : Int) / 2) = ((2 * q : Nat) : Int) := by omega
  simp only [e1, e2, e3, Int.toNat_natCast]
end Go.Proofs.Ytaedpadkpclldaa
