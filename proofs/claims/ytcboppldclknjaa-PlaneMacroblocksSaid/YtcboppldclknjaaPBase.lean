/- Frames of new memory: shared words. -/
import Derived.Test.YtcboppldclknjaaFlat
import Derived.Test.YtcboppldclknjaaValid
import Derived.Test.YtcboppldclknjaaCopyW
namespace Go.Proofs.Ytcboppldclknjaa
open Go.RowKit
def zeroFr : Fr := ⟨0, 0, [], [], []⟩
/-- What a call returns that gives a frame of new memory and an error number. -/
def RetFr (w : World) (r : Fr × Int) (e : Ending) (w' : World) : Prop :=
  ∃ v, e = .returned (.tuple #[v, .int .i64 r.2]) ∧ IsFr (w.heap.size ≤ ·) w' v r.1 ∧ Below w.heap.size w w'

theorem Own3.isFr {p : Nat → Prop} {w : World} {base : Nat} {v : Value} {x y : Int} {Y U V : List Int} (h : Own3 w base v x y Y U V) (hp : ∀ b, base ≤ b → p b)
    (hY : ∀ x ∈ Y, 0 ≤ x ∧ x ≤ 255) (hU : ∀ x ∈ U, 0 ≤ x ∧ x ≤ 255) (hV : ∀ x ∈ V, 0 ≤ x ∧ x ≤ 255) : IsFr p w v ⟨x, y, Y, U, V⟩ := by
  obtain ⟨g1, g2, g3, rfl, k1, k2, k3, l1, l2, l3, _⟩ := h
  exact ⟨_, _, _, _, _, _, _, _, _, rfl, k1.byt (hp _ l1) hY, k2.byt (hp _ l2) hU, k3.byt (hp _ l3) hV⟩
theorem rep_rng {n : Nat} {a : Int} (h : 0 ≤ a ∧ a ≤ 255) : ∀ x ∈ List.replicate n a, 0 ≤ x ∧ x ≤ 255 := by
  intro x hx
  obtain rfl := List.eq_of_mem_replicate hx
  exact h

def flatF (x y : Int) (a b c : Int) : Fr := ⟨x, y, List.replicate (x * y).toNat a, List.replicate (x / 2 * (y / 2)).toNat b, List.replicate (x / 2 * (y / 2)).toNat c⟩
theorem formed_flat {x y a b c : Int} (h : sizeB x y = true) : formedB (flatF x y a b c) = true := by
  obtain ⟨h1, h2, h3, h4, h5, h6⟩ := sizeB_true h
  have m1 := mul_bd (x := x) (y := y) (m := 64) (by omega) h2 (by omega) h5
  have m2 := mul_bd (x := x / 2) (y := y / 2) (m := 64) (by omega) (by omega) (by omega) (by omega)
  simp only [formedB, flatF, h, List.length_replicate, Int.toNat_of_nonneg m1.1, Int.toNat_of_nonneg m2.1, decide_true, Bool.and_self]

theorem formed_parts {W H : Int} {Y U V : List Int} (h : formedB ⟨W, H, Y, U, V⟩ = true) :
    2 ≤ W ∧ W ≤ 64 ∧ W % 2 = 0 ∧ 2 ≤ H ∧ H ≤ 64 ∧ H % 2 = 0 ∧ (Y.length : Int) = W * H ∧ (U.length : Int) = W / 2 * (H / 2) ∧ (V.length : Int) = W / 2 * (H / 2) := by
  simp only [formedB, Bool.and_eq_true, decide_eq_true_eq] at h
  obtain ⟨⟨⟨hs, a1⟩, a2⟩, a3⟩ := h
  obtain ⟨g1, g2, g3, g4, g5, g6⟩ := sizeB_true hs
  exact ⟨g1, g2, g3, g4, g5, g6, a1, a2, a3⟩

/-- The zero frame and an error number. -/
theorem retFr_zero {e : Ending} {w w' : World} {B : Nat} (hB : Below w.heap.size w w') (he : e = .returned (.tuple #[.agg #[.int .i64 0, .int .i64 0, .slice none 0 0, .slice none 0 0, .slice none 0 0], .int .i64 B])) : RetFr w (zeroFr, (B : Int)) e w' :=
  ⟨_, he, ⟨_, _, _, _, _, _, _, _, _, rfl, Byt.nil, Byt.nil, Byt.nil⟩, hB⟩
end Go.Proofs.Ytcboppldclknjaa
