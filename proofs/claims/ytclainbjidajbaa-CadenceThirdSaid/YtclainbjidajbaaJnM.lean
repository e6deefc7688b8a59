/- The frame with the top field of one and the bottom field of another frame: as data. -/
import Derived.Test.YtclainbjidajbaaLn
namespace Go.Proofs.Ytclainbjidajbaa
open Go.RowKit

/-- A frame of 2W by 2H samples. -/
structure SzF (f : Fr) (W H : Nat) : Prop where
  w0 : 0 < W
  wm : W ≤ 32
  hm : H ≤ 32
  w : f.W = ((2 * W : Nat) : Int)
  h : f.H = ((2 * H : Nat) : Int)
  y : f.Y.length = 2 * H * (2 * W)
  u : f.U.length = H * W
  v : f.V.length = H * W
theorem m4N (H W : Nat) : 2 * H * (2 * W) = 4 * (H * W) := by rw [Nat.mul_assoc, Nat.mul_left_comm H 2 W, ← Nat.mul_assoc]
theorem m4I (W H : Int) : 2 * W * (2 * H) = 4 * (H * W) := by rw [Int.mul_assoc, Int.mul_left_comm W 2 H, ← Int.mul_assoc, Int.mul_comm W H]; rfl
theorem SzF.of {f : Fr} (h : validF f = true) : ∃ W H, SzF f W H := by
  unfold validF at h
  rw [decide_eq_true_eq] at h
  obtain ⟨⟨h1, h2, h3, h4, h5, h6⟩, hy, hu, hv⟩ := h
  obtain ⟨W, hW⟩ := Int.eq_ofNat_of_zero_le (show 0 ≤ f.W / 2 by omega)
  obtain ⟨H, hH⟩ := Int.eq_ofNat_of_zero_le (show 0 ≤ f.H / 2 by omega)
  have eW : f.W = 2 * (W : Int) := by omega
  have eH : f.H = 2 * (H : Int) := by omega
  have em : f.W * f.H = 4 * ((H * W : Nat) : Int) := by rw [eW, eH, Int.natCast_mul, m4I]
  have em2 := m4N H W
  rw [em] at hy hu hv
  exact ⟨W, H, by omega, by omega, by omega, by omega, by omega, by rw [em2]; omega, by omega, by omega⟩
theorem SzF.same {f g : Fr} {W H : Nat} (h : SzF f W H) (hg : validF g = true) (hw : g.W = f.W) (hh : g.H = f.H) : SzF g W H := by
  obtain ⟨W', H', h'⟩ := SzF.of hg
  have e1 := h.w; have e2 := h.h; have e3 := h'.w; have e4 := h'.h
  have : W' = W := by omega
  have : H' = H := by omega
  subst_vars
  exact h'
def joinF (f g : Fr) : Fr := ⟨f.W, f.H, linesL f.Y g.Y f.W.toNat, linesL f.U g.U (f.W / 2).toNat, linesL f.V g.V (f.W / 2).toNat⟩
theorem SzF.join {f g : Fr} {W H : Nat} (h : SzF f W H) : SzF (joinF f g) W H :=
  ⟨h.w0, h.wm, h.hm, h.w, h.h, by simp only [joinF, linesL_len]; exact h.y, by simp only [joinF, linesL_len]; exact h.u, by simp only [joinF, linesL_len]; exact h.v⟩
theorem SzF.valid {f : Fr} {W H : Nat} (h : SzF f W H) (h1 : 8 ≤ W) (h2 : W % 8 = 0) (h3 : 8 ≤ H) (h4 : H % 8 = 0) : validF f = true := by
  unfold validF
  rw [decide_eq_true_eq]
  have e1 := h.w; have e2 := h.h
  have := h.wm; have := h.hm
  have em : f.W * f.H = 4 * ((H * W : Nat) : Int) := by
    rw [e1, e2, Int.natCast_mul, Int.natCast_mul, Int.natCast_mul]; exact m4I _ _
  have em2 := m4N H W
  rw [em, h.y, h.u, h.v, em2]
  refine ⟨⟨?_, ?_, ?_, ?_, ?_, ?_⟩, ?_, ?_, ?_⟩ <;> omega
def set5 (w : World) (g : Nat) (v0 v1 v2 v3 v4 : Value) : World := ((((w.setCell ⟨g, 0, none⟩ v0).setCell ⟨g, 1, none⟩ v1).setCell ⟨g, 2, none⟩ v2).setCell ⟨g, 3, none⟩ v3).setCell ⟨g, 4, none⟩ v4
theorem set5_far {w : World} {g b o : Nat} {x v0 v1 v2 v3 v4 : Value} (hne : ¬ b = g) (h : w.cell? ⟨b, o, none⟩ = some x) : (set5 w g v0 v1 v2 v3 v4).cell? ⟨b, o, none⟩ = some x := by
  have e : ∀ (w : World) (a : Addr) (v : Value), a.block = g → (w.setCell a v).cell? ⟨b, o, none⟩ = w.cell? ⟨b, o, none⟩ := fun w a v ha => World.cell?_of_block (Below.heap_setCell w a v b (by rw [ha]; exact hne))
  unfold set5
  rw [e _ _ _ rfl, e _ _ _ rfl, e _ _ _ rfl, e _ _ _ rfl, e _ _ _ rfl]
  exact h
theorem set5_below {B : Nat} {w W : World} {g : Nat} (h : Below B w W) (hg : B ≤ g) (v0 v1 v2 v3 v4 : Value) : Below B w (set5 W g v0 v1 v2 v3 v4) :=
  bset (bset (bset (bset (bset h ⟨g, 0, none⟩ hg v0) ⟨g, 1, none⟩ hg v1) ⟨g, 2, none⟩ hg v2) ⟨g, 3, none⟩ hg v3) ⟨g, 4, none⟩ hg v4
theorem Bx.set5 {w : World} {g : Nat} {t : TypeId} {a0 a1 a2 a3 a4 : Value} (h : Bx w g t #[a0, a1, a2, a3, a4]) (v0 v1 v2 v3 v4 : Value) : Bx (set5 w g v0 v1 v2 v3 v4) g t #[v0, v1, v2, v3, v4] := by
  have := ((((h.set_ 0 v0).set_ 1 v1).set_ 2 v2).set_ 3 v3).set_ 4 v4
  simpa [Go.Proofs.Ytclainbjidajbaa.set5] using this
theorem Byt.set5 {p : Nat → Prop} {w : World} {A : Option Addr} {n g : Nat} {l : List Int} (h : Byt p w A n l) (hg : ¬ p g) (v0 v1 v2 v3 v4 : Value) : Byt p (set5 w g v0 v1 v2 v3 v4) A n l :=
  ((((h.setCell (a := ⟨g, 0, none⟩) hg v0).setCell (a := ⟨g, 1, none⟩) hg v1).setCell (a := ⟨g, 2, none⟩) hg v2).setCell (a := ⟨g, 3, none⟩) hg v3).setCell (a := ⟨g, 4, none⟩) hg v4
/-- What a function that makes a frame hands back. -/
def RetFr (w : World) (f : Fr) (e : Ending) (w' : World) : Prop := ∃ z : FA, e = .returned z.val ∧ z.f = f ∧ FrmOk (w.heap.size ≤ ·) w' z ∧ Below w.heap.size w w'
end Go.Proofs.Ytclainbjidajbaa
