/- Macroblock of the program. -/
import Derived.Test.YtaedpadkpclldaaBlkA
import Derived.Test.YtaedpadkpclldaaPasteM
import Derived.Test.YtaedpadkpclldaaClone
namespace Go.Proofs.Ytaedpadkpclldaa
open Go.RowKit
theorem plane_cut16 {p : Nat → Prop} (A : Option Addr) (n c fr st : Nat) (l : List Int) (w : World) (hl : Byt p w A n l) (hn : n ≤ c) (hfr : fr ≤ 100000) (hst : st ≤ 1000) (hfit : ∀ r, r < 16 → fr + r * st + 16 ≤ n) :
    Calls Try.prog 47 #[.slice A n c, .agg #[.int .i64 fr, .int .i64 st, .int .i64 16, .int .i64 16]] w (RetC w (cutL l fr st 16 16)) :=
  plane_cut A n c fr st 16 16 l w hl hn (by omega) (by omega) (by omega) hfr hst hfit
theorem plane_cut08 {p : Nat → Prop} (A : Option Addr) (n c fr st : Nat) (l : List Int) (w : World) (hl : Byt p w A n l) (hn : n ≤ c) (hfr : fr ≤ 100000) (hst : st ≤ 1000) (hfit : ∀ r, r < 8 → fr + r * st + 8 ≤ n) :
    Calls Try.prog 47 #[.slice A n c, .agg #[.int .i64 fr, .int .i64 st, .int .i64 8, .int .i64 8]] w (RetC w (cutL l fr st 8 8)) :=
  plane_cut A n c fr st 8 8 l w hl hn (by omega) (by omega) (by omega) hfr hst hfit
def mbL (W mx my : Nat) : Nat := 16 * my * W + 16 * mx
def mbC (W mx my : Nat) : Nat := 8 * my * (W / 2) + 8 * mx
/-- A macroblock as a frame. -/
def mbF (f : Fr) (mx my : Nat) : Fr := ⟨16, 16, cutL f.Y (mbL f.W.toNat mx my) f.W.toNat 16 16, cutL f.U (mbC f.W.toNat mx my) (f.W.toNat / 2) 8 8, cutL f.V (mbC f.W.toNat mx my) (f.W.toNat / 2) 8 8⟩
theorem mb_fit {a b mx my : Nat} (hx : mx < a) (hy : my < b) : (∀ r, r < 16 → mbL (16 * a) mx my + r * (16 * a) + 16 ≤ (16 * b) * (16 * a)) ∧ (∀ r, r < 8 → mbC (16 * a) mx my + r * (16 * a / 2) + 8 ≤ (8 * b) * (8 * a)) := by
  constructor
  · intro r hr
    have := lin_lt (r := 16 * my + r) (R := 16 * b) (w := 16 * a) (c := 16 * mx + 15) (by omega) (by omega)
    unfold mbL
    rw [Nat.add_mul] at this
    omega
  · intro r hr
    rw [show 16 * a / 2 = 8 * a by omega]
    have := lin_lt (r := 8 * my + r) (R := 8 * b) (w := 8 * a) (c := 8 * mx + 7) (by omega) (by omega)
    unfold mbC
    rw [show 16 * a / 2 = 8 * a by omega]
    rw [Nat.add_mul] at this
    omega
theorem mb_le {a mx my : Nat} (hx : mx < a) (ha : a ≤ 4) (hy : my < 4) : mbL (16 * a) mx my ≤ 10000 ∧ mbC (16 * a) mx my ≤ 10000 := by
  have h1 : 16 * my * (16 * a) ≤ 48 * 64 := Nat.mul_le_mul (by omega) (by omega)
  have h2 : 8 * my * (16 * a / 2) ≤ 24 * 32 := Nat.mul_le_mul (by omega) (by omega)
  unfold mbL mbC
  omega


set_option maxHeartbeats 2000000 in
theorem ref_Macroblock_no {p : Nat → Prop} (v : Value) (f : Fr) (mx my : Int) (w : World) (hf : IsFr p w v f) (hno : hasB f mx my = false) :
    Calls Try.prog 18 #[v, .int .i64 mx, .int .i64 my] w (RetFc w (zeroFr, 1)) := by
  have hf0 := hf
  obtain ⟨ya, yn, yc, ua, un, uc, va, vn, vc, rfl, hy, hu, hv⟩ := hf
  clear hy hu hv
  go_enter Try.func18, Try.ntmps18
  go_wp2_with fail
  refine (ref_Has (p := p) _ f _ _ _ (by (repeat with_reducible apply IsFr.alloc); exact hf0)).mono ?_
  rintro e w1 ⟨rfl, hb1⟩
  have B1 : Below w.heap.size w w1 := (((Below.refl _ w).alloc (by simp) _).alloc (by simp) _).trans (hb1.mono (by simp; omega))
  have y1 : Bx w1 (w.heap.size + 1) 24 #[.int .i64 0, .int .i64 0, .slice none 0 0, .slice none 0 0, .slice none 0 0] := (Bx.new' _ _ _ _ (by simp)).ext hb1
  clear hb1
  obtain ⟨c0, c1, c2, c3, c4⟩ := y1.cells5
  have t0 := y1.frozen 0
  have t1 := y1.frozen 1
  have t2 := y1.frozen 2
  have t3 := y1.frozen 3
  have t4 := y1.frozen 4
  have hls := y1.lt
  go_wp2_with fail
  refine bodyPost_ret (v := .tuple #[.agg #[.int .i64 0, .int .i64 0, .slice none 0 0, .slice none 0 0, .slice none 0 0], .int .i64 1]) (by simp only [results, Try.results18]; go_simp) rfl (retFc_zero (B := 1) ?_ rfl)
  repeat (first | (with_reducible exact B1) | (with_reducible refine Below.setCell ?_ (by first | (simp; done) | (simp; omega)) _) | (with_reducible refine Below.alloc ?_ (by first | (simp; done) | (simp; omega)) _) | (with_reducible refine Below.drew ?_))
end Go.Proofs.Ytaedpadkpclldaa
namespace Go.Proofs.Ytaedpadkpclldaa
open Go.RowKit

theorem Bx.cells4 {w : World} {g : Nat} {t : TypeId} {a0 a1 a2 a3 : Value} (h : Bx w g t #[a0, a1, a2, a3]) :
    w.cell? ⟨g, 0, none⟩ = some a0 ∧ w.cell? ⟨g, 1, none⟩ = some a1 ∧ w.cell? ⟨g, 2, none⟩ = some a2 ∧ w.cell? ⟨g, 3, none⟩ = some a3 :=
  ⟨h.cell 0 rfl, h.cell 1 rfl, h.cell 2 rfl, h.cell 3 rfl⟩
end Go.Proofs.Ytaedpadkpclldaa
