/- The contract of SetBlock of the reference. -/
import Derived.Test.YtaedpadkpclldaaSetB
namespace Go.Proofs.Ytaedpadkpclldaa
open Go.RowKit

theorem Bx.put5 {w : World} {g : Nat} {t : TypeId} {a0 a1 a2 a3 a4 : Value} (h : Bx w g t #[a0, a1, a2, a3, a4]) (v0 v1 v2 v3 v4 : Value) :
    Bx (((((w.setCell ⟨g, 0, none⟩ v0).setCell ⟨g, 1, none⟩ v1).setCell ⟨g, 2, none⟩ v2).setCell ⟨g, 3, none⟩ v3).setCell ⟨g, 4, none⟩ v4) g t #[v0, v1, v2, v3, v4] :=
  ((((h.set_ 0 v0).set_ 1 v1).set_ 2 v2).set_ 3 v3).set_ 4 v4
theorem comp_pos {f : Fr} {n : Nat} (h1 : 0 < f.Y.length) (h2 : 0 < f.U.length) (h3 : 0 < f.V.length) : 0 < (compL f n).length := by
  unfold compL
  split
  · exact h2
  · split
    · exact h3
    · exact h1
theorem rows_isFr {B : Nat} {w : World} {f : Fr} {ya ua va : Option Addr} {yn yc un uc vn vc : Nat} (h : Rows3 B w f (.slice ya yn yc) (.slice ua un uc) (.slice va vn vc)) (rY : ∀ x ∈ f.Y, 0 ≤ x ∧ x ≤ 255) (rU : ∀ x ∈ f.U, 0 ≤ x ∧ x ≤ 255) (rV : ∀ x ∈ f.V, 0 ≤ x ∧ x ≤ 255) :
    IsFr (B ≤ ·) w (.agg #[.int .i64 f.W, .int .i64 f.H, .slice ya yn yc, .slice ua un uc, .slice va vn vc]) f := by
  obtain ⟨A1, c1, e1, _, b1⟩ := h.o1.retC (p := (B ≤ ·)) (fun _ h => h) rY
  obtain ⟨A2, c2, e2, _, b2⟩ := h.o2.retC (p := (B ≤ ·)) (fun _ h => h) rU
  obtain ⟨A3, c3, e3, _, b3⟩ := h.o3.retC (p := (B ≤ ·)) (fun _ h => h) rV
  injection e1 with p1 p2 p3
  injection e2 with q1 q2 q3
  injection e3 with r1 r2 r3
  subst p1 p2 p3 q1 q2 q3 r1 r2 r3
  exact ⟨_, _, _, _, _, _, _, _, _, rfl, b1, b2, b3⟩
theorem setComp_rng {f : Fr} {n : Nat} {l : List Int} (rY : ∀ x ∈ f.Y, 0 ≤ x ∧ x ≤ 255) (rU : ∀ x ∈ f.U, 0 ≤ x ∧ x ≤ 255) (rV : ∀ x ∈ f.V, 0 ≤ x ∧ x ≤ 255) (rl : ∀ x ∈ l, 0 ≤ x ∧ x ≤ 255) :
    (∀ x ∈ (setComp f n l).Y, 0 ≤ x ∧ x ≤ 255) ∧ (∀ x ∈ (setComp f n l).U, 0 ≤ x ∧ x ≤ 255) ∧ (∀ x ∈ (setComp f n l).V, 0 ≤ x ∧ x ≤ 255) := by
  unfold setComp
  split
  · exact ⟨rY, rl, rV⟩
  · split
    · exact ⟨rY, rU, rl⟩
    · exact ⟨rl, rU, rV⟩
theorem setBlkF_N {f : Fr} {mx my n N cw : Nat} {fd : Bool} {x : List Int} (hN : N = 64) (hc : f.W.toNat = cw) : setBlkF f mx my n fd x = setComp f n (setsL (compL f n) (placeN cw mx my n fd) (clipL x) N) := by
  subst hN hc; rfl

end Go.Proofs.Ytaedpadkpclldaa
