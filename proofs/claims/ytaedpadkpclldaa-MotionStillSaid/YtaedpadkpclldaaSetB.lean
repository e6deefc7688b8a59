/- The contract of SetBlock of the reference. -/
import Derived.Test.YtaedpadkpclldaaSetA
import Derived.Test.YtaedpadkpclldaaBlkE
import Derived.Test.YtaedpadkpclldaaCopyR
namespace Go.Proofs.Ytaedpadkpclldaa
open Go.RowKit

section
attribute [local go_sem ↓] run_min_mm run_max_mm
end
/-- The planes are rows of the call's own, each apart from the others. -/
structure Rows3 (B : Nat) (w : World) (f : Fr) (sy su sv : Value) : Prop where
  o1 : OwB w B 5 sy f.Y
  o2 : OwB w B 5 su f.U
  o3 : OwB w B 5 sv f.V
  s1 : SepV sy su
  s2 : SepV sy sv
  s3 : SepV su sv
theorem SepV.symm {a b : Value} (h : SepV a b) : SepV b a := fun k hk he => h k he hk
theorem Rows3.ext {B : Nat} {w w' : World} {f : Fr} {sy su sv : Value} (h : Rows3 B w f sy su sv) (hb : Below w.heap.size w w') : Rows3 B w' f sy su sv :=
  ⟨h.o1.ext hb, h.o2.ext hb, h.o3.ext hb, h.s1, h.s2, h.s3⟩
theorem Rows3.low {B : Nat} {w : World} {f : Fr} {sy su sv : Value} (h : Rows3 B w f sy su sv) {a : Addr} (ha : a.block < B) (u : Value) : Rows3 B (w.setCell a u) f sy su sv :=
  ⟨h.o1.low ha u, h.o2.low ha u, h.o3.low ha u, h.s1, h.s2, h.s3⟩
theorem compL_set (f : Fr) (n : Nat) (l : List Int) : compL (setComp f n l) n = l := by
  unfold compL setComp
  by_cases h4 : n = 4
  · simp only [if_pos h4]
  · simp only [if_neg h4]
    by_cases h5 : n = 5
    · simp only [if_pos h5]
    · simp only [if_neg h5]
theorem setComp_set (f : Fr) (n : Nat) (l l' : List Int) : setComp (setComp f n l) n l' = setComp f n l' := by
  unfold setComp
  by_cases h4 : n = 4
  · simp only [if_pos h4]
  · simp only [if_neg h4]
    by_cases h5 : n = 5
    · simp only [if_pos h5]
    · simp only [if_neg h5]
theorem setComp_self (f : Fr) (n : Nat) : setComp f n (compL f n) = f := by
  unfold setComp compL
  by_cases h4 : n = 4
  · simp only [if_pos h4]
  · simp only [if_neg h4]
    by_cases h5 : n = 5
    · simp only [if_pos h5]
    · simp only [if_neg h5]
theorem setComp_WH (f : Fr) (n : Nat) (l : List Int) : (setComp f n l).W = f.W ∧ (setComp f n l).H = f.H := by
  unfold setComp
  split
  · exact ⟨rfl, rfl⟩
  · split <;> exact ⟨rfl, rfl⟩
theorem Rows3.pick {B : Nat} {w : World} {f : Fr} {sy su sv : Value} (h : Rows3 B w f sy su sv) (n : Nat) (hp : 0 < (compL f n).length) :
    ∃ gc cap, compS n sy su sv = .slice (some ⟨gc, 0, none⟩) (compL f n).length cap ∧ B ≤ gc ∧ gc < w.heap.size ∧ (compL f n).length ≤ cap ∧ (∀ j x, (compL f n)[j]? = some x → w.cell? ⟨gc, j, none⟩ = some (.int .u8 x)) ∧ (∀ j, w.frozen? ⟨gc, j, none⟩ = false) ∧
      ∀ k x, k < (compL f n).length → Rows3 B (w.setCell ⟨gc, k, none⟩ (.int .u8 x)) (setComp f n ((compL f n).set k x)) sy su sv := by
  unfold compS compL setComp at *
  by_cases h4 : n = 4
  · simp only [if_pos h4] at *
    obtain ⟨g, cap, rfl, h1, h2, h3, h5, h6⟩ := h.o2.form hp
    exact ⟨g, cap, rfl, h1, h2, h3, h5, h6, fun k x hk => ⟨OwB.far (a := ⟨g, k, none⟩) h.o1 (fun e => h.s1 g e rfl) _, h.o2.set_ k hk x, OwB.far (a := ⟨g, k, none⟩) h.o3 (fun e => h.s3 g rfl e) _, h.s1, h.s2, h.s3⟩⟩
  · simp only [if_neg h4] at *
    by_cases h5 : n = 5
    · simp only [if_pos h5] at *
      obtain ⟨g, cap, rfl, h1, h2, h3, h5, h6⟩ := h.o3.form hp
      exact ⟨g, cap, rfl, h1, h2, h3, h5, h6, fun k x hk => ⟨OwB.far (a := ⟨g, k, none⟩) h.o1 (fun e => h.s2 g e rfl) _, OwB.far (a := ⟨g, k, none⟩) h.o2 (fun e => h.s3 g e rfl) _, h.o3.set_ k hk x, h.s1, h.s2, h.s3⟩⟩
    · simp only [if_neg h5] at *
      obtain ⟨g, cap, rfl, h1, h2, h3, h5, h6⟩ := h.o1.form hp
      exact ⟨g, cap, rfl, h1, h2, h3, h5, h6, fun k x hk => ⟨h.o1.set_ k hk x, OwB.far (a := ⟨g, k, none⟩) h.o2 (fun e => h.s1 g rfl e) _, OwB.far (a := ⟨g, k, none⟩) h.o3 (fun e => h.s2 g rfl e) _, h.s1, h.s2, h.s3⟩⟩
end Go.Proofs.Ytaedpadkpclldaa
