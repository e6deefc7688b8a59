/- Macroblock of the program. -/
import Derived.Test.YtcboppldclknjaaBlkB
import Derived.Test.YtcboppldclknjaaPasteM
import Derived.Test.YtcboppldclknjaaClone
namespace Go.Proofs.Ytcboppldclknjaa
open Go.RowKit
theorem plane_macroblockN (cw mx my fl fc hw : Nat) (w : World) (w2 : cw ≤ 64) (x2 : mx ≤ 3) (y2 : my ≤ 3) (h1 : fl = 16 * my * cw + 16 * mx) (h2 : fc = 8 * my * (cw / 2) + 8 * mx) (h3 : hw = cw / 2) :
    Calls Try.prog 59 #[.int .i64 cw, .int .i64 mx, .int .i64 my] w fun e w' => e = .returned (.tuple #[.agg #[.int .i64 fl, .int .i64 cw, .int .i64 16, .int .i64 16], .agg #[.int .i64 fc, .int .i64 hw, .int .i64 8, .int .i64 8]]) ∧ Below w.heap.size w w' := by
  have := plane_macroblock cw mx my w (by omega) (by omega) (by omega) (by omega) (by omega) (by omega)
  have e1 : (16 * (my : Int) * (cw : Int) + 16 * (mx : Int)) = (fl : Int) := by rw [h1]; push_cast; rfl
  have e2 : (8 * (my : Int) * ((cw : Int) / 2) + 8 * (mx : Int)) = (fc : Int) := by rw [h2]; push_cast; rfl
  have e3 : ((cw : Int) / 2) = (hw : Int) := by rw [h3]; push_cast; rfl
  rw [e2, e1, e3] at this
  exact this
theorem plane_cut16 {p : Nat → Prop} (A : Option Addr) (n c fr st : Nat) (l : List Int) (w : World) (hl : Byt p w A n l) (hn : n ≤ c) (hfr : fr ≤ 100000) (hst : st ≤ 1000) (hfit : ∀ r, r < 16 → fr + r * st + 16 ≤ n) :
    Calls Try.prog 47 #[.slice A n c, .agg #[.int .i64 fr, .int .i64 st, .int .i64 16, .int .i64 16]] w (RetC w (cutL l fr st 16 16)) :=
  plane_cut A n c fr st 16 16 l w hl hn (by omega) (by omega) (by omega) hfr hst hfit
theorem plane_cut08 {p : Nat → Prop} (A : Option Addr) (n c fr st : Nat) (l : List Int) (w : World) (hl : Byt p w A n l) (hn : n ≤ c) (hfr : fr ≤ 100000) (hst : st ≤ 1000) (hfit : ∀ r, r < 8 → fr + r * st + 8 ≤ n) :
    Calls Try.prog 47 #[.slice A n c, .agg #[.int .i64 fr, .int .i64 st, .int .i64 8, .int .i64 8]] w (RetC w (cutL l fr st 8 8)) :=
  plane_cut A n c fr st 8 8 l w hl hn (by omega) (by omega) (by omega) hfr hst hfit
def mbL (W mx my : Nat) : Nat := 16 * my * W + 16 * mx
def mbC (W mx my : Nat) : Nat := 8 * my * (W / 2) + 8 * mx
/-- A macroblock as a frame. -/
def mbF (f : Fr) (mx my : Nat) : Fr := ⟨16, 16, cutL f.Y (mbL f.W.toNat mx my) f.W.toNat 16 16, cutL f.U (mbC f.W.toNat mx my) (f.W.toNat / 2) 8 8, cutL f.V (mbC f.W.toNat mx my) (f.W.toNat / 2) 8 8⟩
theorem mb_fit {a b mx my : Nat} (hx : mx < a) (hy : my < b) : (∀ r, r < 16 → mbL (16 * a) mx my + r * (16 * a) + 16 ≤ (16 * b) * (16 * a)) ∧ (∀ r, r < 8 → mbC (16 * a) mx my + r * (16 * a / 2) + 8 ≤ (8 * b) * (8 * a)) := by
  constructor
  · intro r hr
    have := lin_lt (r := 16 * my + r) (R := 16 * b) (w := 16 * a) (c := 16 * mx + 15) (by omega) (by omega)
    unfold mbL
    rw [Nat.add_mul] at this
    omega
  · intro r hr
    rw [show 16 * a / 2 = 8 * a by omega]
    have := lin_lt (r := 8 * my + r) (R := 8 * b) (w := 8 * a) (c := 8 * mx + 7) (by omega) (by omega)
    unfold mbC
    rw [show 16 * a / 2 = 8 * a by omega]
    rw [Nat.add_mul] at this
    omega
theorem mb_le {a mx my : Nat} (hx : mx < a) (ha : a ≤ 4) (hy : my < 4) : mbL (16 * a) mx my ≤ 10000 ∧ mbC (16 * a) mx my ≤ 10000 := by
  have h1 : 16 * my * (16 * a) ≤ 48 * 64 := Nat.mul_le_mul (by omega) (by omega)
  have h2 : 8 * my * (16 * a / 2) ≤ 24 * 32 := Nat.mul_le_mul (by omega) (by omega)
  unfold mbL mbC
  omega

set_option maxHeartbeats 2000000 in
theorem plane_Macroblock_no {p : Nat → Prop} (v : Value) (f : Fr) (mx my : Int) (w : World) (hf : IsFr p w v f) (hno : hasB f mx my = false) :
    Calls Try.prog 35 #[v, .int .i64 mx, .int .i64 my] w (RetFc w (zeroFr, 1)) := by
  have hf0 := hf
  obtain ⟨ya, yn, yc, ua, un, uc, va, vn, vc, rfl, hy, hu, hv⟩ := hf
  clear hy hu hv
  go_enter Try.func35, Try.ntmps35
  go_wp2_with fail
  refine (plane_has (p := p) _ f _ _ _ (by (repeat with_reducible apply IsFr.alloc); exact hf0)).mono ?_
  rintro e w1 ⟨rfl, hb1⟩
  have B1 : Below w.heap.size w w1 := (((Below.refl _ w).alloc (by simp) _).alloc (by simp) _).trans (hb1.mono (by simp; omega))
  have y1 : Bx w1 (w.heap.size + 1) 24 #[.int .i64 0, .int .i64 0, .slice none 0 0, .slice none 0 0, .slice none 0 0] := (Bx.new' _ _ _ _ (by simp)).ext hb1
  clear hb1
  obtain ⟨c0, c1, c2, c3, c4⟩ := y1.cells5
  have t0 := y1.frozen 0
  have t1 := y1.frozen 1
  have t2 := y1.frozen 2
  have t3 := y1.frozen 3
  have t4 := y1.frozen 4
  have hls := y1.lt
  go_wp2_with fail
  refine bodyPost_ret (v := .tuple #[.agg #[.int .i64 0, .int .i64 0, .slice none 0 0, .slice none 0 0, .slice none 0 0], .int .i64 1]) (by simp only [results, Try.results35]; go_simp) rfl (retFc_zero (B := 1) ?_ rfl)
  repeat (first | (with_reducible exact B1) | (with_reducible refine Below.setCell ?_ (by first | (simp; done) | (simp; omega)) _) | (with_reducible refine Below.alloc ?_ (by first | (simp; done) | (simp; omega)) _) | (with_reducible refine Below.drew ?_))

set_option maxHeartbeats 2000000 in
theorem ref_Macroblock_no {p : Nat → Prop} (v : Value) (f : Fr) (mx my : Int) (w : World) (hf : IsFr p w v f) (hno : hasB f mx my = false) :
    Calls Try.prog 36 #[v, .int .i64 mx, .int .i64 my] w (RetFc w (zeroFr, 1)) := by
  have hf0 := hf
  obtain ⟨ya, yn, yc, ua, un, uc, va, vn, vc, rfl, hy, hu, hv⟩ := hf
  clear hy hu hv
  go_enter Try.func36, Try.ntmps36
  go_wp2_with fail
  refine (ref_Has (p := p) _ f _ _ _ (by (repeat with_reducible apply IsFr.alloc); exact hf0)).mono ?_
  rintro e w1 ⟨rfl, hb1⟩
  have B1 : Below w.heap.size w w1 := (((Below.refl _ w).alloc (by simp) _).alloc (by simp) _).trans (hb1.mono (by simp; omega))
  have y1 : Bx w1 (w.heap.size + 1) 24 #[.int .i64 0, .int .i64 0, .slice none 0 0, .slice none 0 0, .slice none 0 0] := (Bx.new' _ _ _ _ (by simp)).ext hb1
  clear hb1
  obtain ⟨c0, c1, c2, c3, c4⟩ := y1.cells5
  have t0 := y1.frozen 0
  have t1 := y1.frozen 1
  have t2 := y1.frozen 2
  have t3 := y1.frozen 3
  have t4 := y1.frozen 4
  have hls := y1.lt
  go_wp2_with fail
  refine bodyPost_ret (v := .tuple #[.agg #[.int .i64 0, .int .i64 0, .slice none 0 0, .slice none 0 0, .slice none 0 0], .int .i64 1]) (by simp only [results, Try.results36]; go_simp) rfl (retFc_zero (B := 1) ?_ rfl)
  repeat (first | (with_reducible exact B1) | (with_reducible refine Below.setCell ?_ (by first | (simp; done) | (simp; omega)) _) | (with_reducible refine Below.alloc ?_ (by first | (simp; done) | (simp; omega)) _) | (with_reducible refine Below.drew ?_))
end Go.Proofs.Ytcboppldclknjaa
