/- The contract of plane.SetBlock. -/
import Derived.Test.YtaedpadkpclldaaSetNo
import Derived.Test.YtaedpadkpclldaaClone
import Derived.Test.YtaedpadkpclldaaBlkC
namespace Go.Proofs.Ytaedpadkpclldaa
open Go.RowKit
attribute [local go_sem ↓] run_min_mm run_max_mm

theorem OwnF.ext {base : Nat} {w w' : World} {v : Value} {f : Fr} {g1 g2 g3 : Nat} (h : OwnF base w v f g1 g2 g3) (hb : Below w.heap.size w w') : OwnF base w' v f g1 g2 g3 :=
  ⟨h.val, h.b1, h.b2, h.b3, h.n12, h.n13, h.n23, h.k1.ext hb, h.k2.ext hb, h.k3.ext hb⟩
theorem OwnF.far {base : Nat} {w : World} {v : Value} {f : Fr} {g1 g2 g3 : Nat} (h : OwnF base w v f g1 g2 g3) {a : Addr} (ha : a.block < base) (u : Value) : OwnF base (w.setCell a u) v f g1 g2 g3 :=
  ⟨h.val, h.b1, h.b2, h.b3, h.n12, h.n13, h.n23, h.k1.far (by have := h.b1; omega) u, h.k2.far (by have := h.b2; omega) u, h.k3.far (by have := h.b3; omega) u⟩
theorem OwnF.low {base base' : Nat} {w : World} {v : Value} {f : Fr} {g1 g2 g3 : Nat} (h : OwnF base w v f g1 g2 g3) (hb : base' ≤ base) : OwnF base' w v f g1 g2 g3 :=
  ⟨h.val, Nat.le_trans hb h.b1, Nat.le_trans hb h.b2, Nat.le_trans hb h.b3, h.n12, h.n13, h.n23, h.k1, h.k2, h.k3⟩
/-- The plane of block n of a frame of its own, and the frame when that plane is written. -/
theorem OwnF.pick {base : Nat} {w : World} {v : Value} {f : Fr} {g1 g2 g3 : Nat} (h : OwnF base w v f g1 g2 g3) (n : Nat) (rY : ∀ x ∈ f.Y, 0 ≤ x ∧ x ≤ 255) (rU : ∀ x ∈ f.U, 0 ≤ x ∧ x ≤ 255) (rV : ∀ x ∈ f.V, 0 ≤ x ∧ x ≤ 255) :
    ∃ gc, compS n (.slice (some ⟨g1, 0, none⟩) f.Y.length f.Y.length) (.slice (some ⟨g2, 0, none⟩) f.U.length f.U.length) (.slice (some ⟨g3, 0, none⟩) f.V.length f.V.length) = .slice (some ⟨gc, 0, none⟩) (compL f n).length (compL f n).length ∧ base ≤ gc ∧
      Bk w 5 gc (compL f n) ∧ ∀ w' l, l.length = (compL f n).length → (∀ x ∈ l, 0 ≤ x ∧ x ≤ 255) → Bk w' 5 gc l → w.grownBy w' (some gc) → IsFr (base ≤ ·) w' v (setComp f n l) := by
  have hv := h.val
  subst hv
  unfold compS compL setComp
  by_cases h4 : n = 4
  · simp only [if_pos h4]
    refine ⟨g2, rfl, h.b2, h.k2, fun w' l hl hr hk hg => ⟨_, _, _, _, _, _, _, _, _, rfl, (h.k1.grown hg (by simp [h.n12])).byt h.b1 rY, ?_, (h.k3.grown hg (by simp [Ne.symm h.n23])).byt h.b3 rV⟩⟩
    rw [← hl]; exact hk.byt h.b2 hr
  · simp only [if_neg h4]
    by_cases h5 : n = 5
    · simp only [if_pos h5]
      refine ⟨g3, rfl, h.b3, h.k3, fun w' l hl hr hk hg => ⟨_, _, _, _, _, _, _, _, _, rfl, (h.k1.grown hg (by simp [h.n13])).byt h.b1 rY, (h.k2.grown hg (by simp [h.n23])).byt h.b2 rU, ?_⟩⟩
      rw [← hl]; exact hk.byt h.b3 hr
    · simp only [if_neg h5]
      refine ⟨g1, rfl, h.b1, h.k1, fun w' l hl hr hk hg => ⟨_, _, _, _, _, _, _, _, _, rfl, ?_, (h.k2.grown hg (by simp [Ne.symm h.n12])).byt h.b2 rU, (h.k3.grown hg (by simp [Ne.symm h.n13])).byt h.b3 rV⟩⟩
      rw [← hl]; exact hk.byt h.b1 hr

theorem plane_paste8 {p : Nat → Prop} (g dn dc fr st : Nat) (A : Option Addr) (c : Nat) (m l : List Int) (w : World) (hk : Bk w 5 g m) (hm : m.length = dn) (hdc : dn ≤ dc) (hl : Byt p w A 64 l) (hnp : ¬ p g) (hn : 64 ≤ c) (hfr : fr ≤ 100000) (hst : st ≤ 1000) (hdn : dn ≤ 100000)
    (hfit : ∀ r, r < 8 → fr + r * st + 8 ≤ dn) :
    Calls Try.prog 48 #[.slice (some ⟨g, 0, none⟩) dn dc, .agg #[.int .i64 fr, .int .i64 st, .int .i64 8, .int .i64 8], .slice A 64 c] w (fun e w' => e = .returned (.tuple #[]) ∧ Bk w' 5 g (pasteL m l fr st 8 8) ∧ w.grownBy w' (some g)) :=
  plane_paste g dn dc fr st 8 8 A 64 c m l w hk hm hdc hl hnp hn (by omega) (by omega) (by omega) hfr hst hdn (by omega) hfit
end Go.Proofs.Ytaedpadkpclldaa
