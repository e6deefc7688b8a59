/- Has of the reference; the prediction from fields: as data. -/
import Derived.Test.YtaedpadkpclldaaBlkM
import Derived.Test.YtaedpadkpclldaaValid
import Derived.Test.YtaedpadkpclldaaPredC
import Derived.Test.YtaedpadkpclldaaFieldW
import Derived.Test.YtaedpadkpclldaaWeaveW
namespace Go.Proofs.Ytaedpadkpclldaa
open Go.RowKit

set_option maxHeartbeats 1000000 in
theorem ref_Has {p : Nat → Prop} (v : Value) (f : Fr) (mx my : Int) (w : World) (h : IsFr p w v f) :
    Calls Try.prog 35 #[v, .int .i64 mx, .int .i64 my] w fun e w' => e = .returned (.bool (hasB f mx my)) ∧ Below w.heap.size w w' := by
  have h0 := h
  obtain ⟨ya, yn, yc, ua, un, uc, va, vn, vc, rfl, hy, hu, hv⟩ := h
  clear hy hu hv
  by_cases hs : validB f = true
  · have hp : 2 ≤ f.W ∧ f.W ≤ 64 ∧ 2 ≤ f.H ∧ f.H ≤ 64 := by
      simp only [validB, formedB, Bool.and_eq_true] at hs
      have := sizeB_true hs.1.1.1.1.1
      omega
    have q1 : f.W.tdiv 16 = f.W / 16 := Int.tdiv_eq_ediv_of_nonneg (by omega)
    have q2 : f.H.tdiv 16 = f.H / 16 := Int.tdiv_eq_ediv_of_nonneg (by omega)
    have w1' : IntKind.i64.wrap (f.W / 16) = f.W / 16 := IntWalk.i64_in _ (by omega)
    have w2' : IntKind.i64.wrap (f.H / 16) = f.H / 16 := IntWalk.i64_in _ (by omega)
    go_enter Try.func35, Try.ntmps35
    go_wp2_with fail
    refine (ref_Valid (p := p) _ f _ (by (repeat with_reducible apply IsFr.alloc); exact h0)).mono ?_
    rintro e w1 ⟨rfl, hb1⟩
    obtain ⟨c_w1, z_w1⟩ := bcell hb1
    have s_w1 := hb1.size
    try simp at s_w1
    try simp at c_w1
    try simp at z_w1
    have q_w1_0 : w.heap.size < w1.heap.size := by omega
    go_wp2_with fail
    all_goals
      go_ret
      refine ⟨ret_bool ?_, ((Below.refl _ w).alloc (by simp) _).trans (hb1.mono (by simp))⟩
      rw [Bool.eq_iff_iff]
      simp [hasB, *]
      try omega
  · have hs' : validB f = false := by simpa using hs
    go_enter Try.func35, Try.ntmps35
    go_wp2_with fail
    refine (ref_Valid (p := p) _ f _ (by (repeat with_reducible apply IsFr.alloc); exact h0)).mono ?_
    rintro e w1 ⟨rfl, hb1⟩
    go_wp2_with fail
    go_ret
    exact ⟨ret_bool (by simp [hasB, hs']), ((Below.refl _ w).alloc (by simp) _).trans (hb1.mono (by simp))⟩

/-- The frame, the place and the fields are such that there is a prediction. -/
def fldOk (f : Fr) (mx my a b : Int) : Prop := hasB f mx my = true ∧ f.H % 32 = 0 ∧ (a = 0 ∨ a = 1) ∧ (b = 0 ∨ b = 1)
instance (f : Fr) (mx my a b : Int) : Decidable (fldOk f mx my a b) := by unfold fldOk; infer_instance
def fpF (f : Fr) (mx my vx vy a : Int) : Fr := predFr (fieldFr f a.toNat) (16 * mx) (8 * my) 8 vx vy
def fldsF (f : Fr) (mx my vx vy wx wy a b : Int) : Fr × Int :=
  if fldOk f mx my a b then (if mayB vx vy = true then (if mayB wx wy = true then (weaveFr (fpF f mx my vx vy a) (fpF f mx my wx wy b), 0) else (zeroFr, 2)) else (zeroFr, 2)) else (zeroFr, 1)
theorem flds_no {f : Fr} {mx my vx vy wx wy a b : Int} (h : ¬ fldOk f mx my a b) : fldsF f mx my vx vy wx wy a b = (zeroFr, 1) := by unfold fldsF; rw [if_neg h]
theorem flds_r1 {f : Fr} {mx my vx vy wx wy a b : Int} (h : fldOk f mx my a b) (h1 : mayB vx vy = false) : fldsF f mx my vx vy wx wy a b = (zeroFr, 2) := by unfold fldsF; rw [if_pos h, if_neg (by simp [h1])]
theorem flds_r2 {f : Fr} {mx my vx vy wx wy a b : Int} (h : fldOk f mx my a b) (h1 : mayB wx wy = false) : fldsF f mx my vx vy wx wy a b = (zeroFr, 2) := by
  unfold fldsF
  rw [if_pos h]
  split
  · rw [if_neg (by simp [h1])]
  · rfl
theorem flds_ok {f : Fr} {mx my vx vy wx wy a b : Int} (h : fldOk f mx my a b) (h1 : mayB vx vy = true) (h2 : mayB wx wy = true) : fldsF f mx my vx vy wx wy a b = (weaveFr (fpF f mx my vx vy a) (fpF f mx my wx wy b), 0) := by unfold fldsF; rw [if_pos h, if_pos h1, if_pos h2]
/-- What is known of the fields of a frame that is at hand. -/
theorem fld_parts {f : Fr} {mx my a b : Int} (h : fldOk f mx my a b) : formedB f = true ∧ f.H % 4 = 0 ∧ 2 ≤ f.W ∧ f.W ≤ 64 ∧ 2 ≤ f.H ∧ f.H ≤ 64 ∧ f.W % 16 = 0 ∧ 0 ≤ mx ∧ mx < f.W / 16 ∧ 0 ≤ my ∧ my < f.H / 16 ∧ f.H % 32 = 0 := by
  obtain ⟨h1, h2, _, _⟩ := h
  simp only [hasB, validB, Bool.and_eq_true, decide_eq_true_eq] at h1
  obtain ⟨⟨⟨⟨⟨⟨hf, hw⟩, _⟩, m0⟩, m1⟩, n0⟩, n1⟩ := h1
  have hf0 := hf
  simp only [formedB, Bool.and_eq_true] at hf0
  have := sizeB_true hf0.1.1.1
  exact ⟨hf, by omega, by omega, by omega, by omega, by omega, hw, m0, m1, n0, n1, h2⟩
theorem cutL_length (l : List Int) (s st a n : Nat) : (cutL l s st a n).length = n * a := by simp [cutL]
theorem field_formed {f : Fr} {mx my a b : Int} (h : fldOk f mx my a b) (k : Nat) : formedB (fieldFr f k) = true := by
  obtain ⟨_, _, w0, w1, h0, h1, hw, _, _, _, _, h32⟩ := fld_parts h
  unfold formedB fieldFr sizeB
  simp only [cutL_length, Bool.and_eq_true, decide_eq_true_eq]
  obtain ⟨A, hA⟩ : ∃ A : Nat, f.W = ((16 * A : Nat) : Int) := ⟨(f.W / 16).toNat, by omega⟩
  obtain ⟨B, hB⟩ : ∃ B : Nat, f.H = ((32 * B : Nat) : Int) := ⟨(f.H / 32).toNat, by omega⟩
  have e1 : f.W.toNat = 16 * A := by omega
  have e2 : (f.H / 2).toNat = 16 * B := by omega
  have e3 : (f.W / 2).toNat = 8 * A := by omega
  have e4 : (f.H / 4).toNat = 8 * B := by omega
  have e5 : f.H / 2 = ((16 * B : Nat) : Int) := by omega
  have e6 : f.W / 2 = ((8 * A : Nat) : Int) := by omega
  have e7 : f.H / 2 / 2 = ((8 * B : Nat) : Int) := by omega
  rw [e1, e2, e3, e4, e7, e5, e6, hA, ← Int.natCast_mul, ← Int.natCast_mul]
  refine ⟨⟨⟨⟨by omega, by omega, by omega, by omega, by omega, by omega⟩, ?_⟩, ?_⟩, ?_⟩
  · rw [Nat.mul_comm (16 * B)]
  · rw [Nat.mul_comm (8 * B)]
  · rw [Nat.mul_comm (8 * B)]
theorem pred8_formed (f : Fr) (x y vx vy : Int) : formedB (predFr f x y 8 vx vy) = true ∧ (predFr f x y 8 vx vy).W = ((2 * 8 : Nat) : Int) ∧ (predFr f x y 8 vx vy).H = ((2 * 4 : Nat) : Int) ∧ (predFr f x y 8 vx vy).Y.length = (2 * 4) * (2 * 8) ∧ (predFr f x y 8 vx vy).U.length = 4 * 8 ∧ (predFr f x y 8 vx vy).V.length = 4 * 8 := by
  have e : ∀ (l : List Int) (cols rows x y : Int) (pw ph : Nat) (vx vy : Int), (predL l cols rows x y pw ph vx vy).length = ph * pw := fun l cols rows x y pw ph vx vy => by simp [predL]
  refine ⟨?_, rfl, rfl, ?_, ?_, ?_⟩
  · unfold formedB predFr sizeB
    simp only [e]
    rfl
  · show (predL _ _ _ _ _ _ _ _ _).length = _
    rw [e]; rfl
  · show (predL _ _ _ _ _ _ _ _ _).length = _
    rw [e]; rfl
  · show (predL _ _ _ _ _ _ _ _ _).length = _
    rw [e]; rfl
end Go.Proofs.Ytaedpadkpclldaa
