/- SetMacroblock of the program. -/
import Derived.Test.YtcboppldclknjaaMbC
namespace Go.Proofs.Ytcboppldclknjaa
open Go.RowKit

def smOk (f m : Fr) (mx my : Int) : Prop := hasB f mx my = true ∧ formedB m = true ∧ m.W = 16 ∧ m.H = 16
instance (f m : Fr) (mx my : Int) : Decidable (smOk f m mx my) := by unfold smOk; infer_instance
/-- The frame with another macroblock. -/
def smF (f m : Fr) (mx my : Nat) : Fr := ⟨f.W, f.H, pasteL f.Y m.Y (mbL f.W.toNat mx my) f.W.toNat 16 16, pasteL f.U m.U (mbC f.W.toNat mx my) (f.W.toNat / 2) 8 8, pasteL f.V m.V (mbC f.W.toNat mx my) (f.W.toNat / 2) 8 8⟩
theorem mb_sizes {m : Fr} (h : formedB m = true) (hW : m.W = 16) (hH : m.H = 16) : m.Y.length = 16 * 16 ∧ m.U.length = 8 * 8 ∧ m.V.length = 8 * 8 := by
  simp only [formedB, Bool.and_eq_true, decide_eq_true_eq] at h
  obtain ⟨⟨⟨_, h1⟩, h2⟩, h3⟩ := h
  rw [hW, hH] at h1 h2 h3
  refine ⟨by omega, by omega, by omega⟩
theorem plane_paste16 {p : Nat → Prop} (g dn dc fr st : Nat) (A : Option Addr) (n c : Nat) (m l : List Int) (w : World) (hk : Bk w 5 g m) (hm : m.length = dn) (hdc : dn ≤ dc) (hl : Byt p w A n l) (hnp : ¬ p g) (hn : n ≤ c) (hfr : fr ≤ 100000) (hst : st ≤ 1000) (hdn : dn ≤ 100000)
    (hlen : n = 16 * 16) (hfit : ∀ r, r < 16 → fr + r * st + 16 ≤ dn) :
    Calls Try.prog 49 #[.slice (some ⟨g, 0, none⟩) dn dc, .agg #[.int .i64 fr, .int .i64 st, .int .i64 16, .int .i64 16], .slice A n c] w (fun e w' => e = .returned (.tuple #[]) ∧ Bk w' 5 g (pasteL m l fr st 16 16) ∧ w.grownBy w' (some g)) :=
  plane_paste g dn dc fr st 16 16 A n c m l w hk hm hdc hl hnp hn (by omega) (by omega) (by omega) hfr hst hdn hlen hfit
theorem plane_paste08 {p : Nat → Prop} (g dn dc fr st : Nat) (A : Option Addr) (n c : Nat) (m l : List Int) (w : World) (hk : Bk w 5 g m) (hm : m.length = dn) (hdc : dn ≤ dc) (hl : Byt p w A n l) (hnp : ¬ p g) (hn : n ≤ c) (hfr : fr ≤ 100000) (hst : st ≤ 1000) (hdn : dn ≤ 100000)
    (hlen : n = 8 * 8) (hfit : ∀ r, r < 8 → fr + r * st + 8 ≤ dn) :
    Calls Try.prog 49 #[.slice (some ⟨g, 0, none⟩) dn dc, .agg #[.int .i64 fr, .int .i64 st, .int .i64 8, .int .i64 8], .slice A n c] w (fun e w' => e = .returned (.tuple #[]) ∧ Bk w' 5 g (pasteL m l fr st 8 8) ∧ w.grownBy w' (some g)) :=
  plane_paste g dn dc fr st 8 8 A n c m l w hk hm hdc hl hnp hn (by omega) (by omega) (by omega) hfr hst hdn hlen hfit

set_option maxHeartbeats 8000000 in
theorem plane_SetMacroblock_yes {p p' : Nat → Prop} (v u : Value) (f m : Fr) (mx my a b : Nat) (w : World) (hf : IsFr p w v f) (hm : IsFr p' w u m) (hcm : CapsOK u) (hh : hasB f mx my = true) (hfm : formedB m = true) (hmW : m.W = 16) (hmH : m.H = 16)
    (hW : f.W = ((16 * a : Nat) : Int)) (ha : a ≤ 4) (hx : mx < a) (hb : b ≤ 4) (hyb : my < b) (lY : f.Y.length = (16 * b) * (16 * a)) (lU : f.U.length = (8 * b) * (8 * a)) (lV : f.V.length = (8 * b) * (8 * a)) :
    Calls Try.prog 37 #[v, .int .i64 mx, .int .i64 my, u] w (RetFc w (smF f m mx my, 0)) := by
  have hf0 := hf
  have hm0 := hm
  obtain ⟨sY, sU, sV⟩ := mb_sizes hfm hmW hmH
  have bY : f.Y.length ≤ 4096 := by rw [lY]; exact Nat.le_trans (Nat.mul_le_mul (show 16 * b ≤ 64 by omega) (show 16 * a ≤ 64 by omega)) (by omega)
  have bU : f.U.length ≤ 1024 := by rw [lU]; exact Nat.le_trans (Nat.mul_le_mul (show 8 * b ≤ 32 by omega) (show 8 * a ≤ 32 by omega)) (by omega)
  have bV : f.V.length ≤ 1024 := by rw [lV]; exact Nat.le_trans (Nat.mul_le_mul (show 8 * b ≤ 32 by omega) (show 8 * a ≤ 32 by omega)) (by omega)
  obtain ⟨ya, yn, yc, ua, un, uc, va, vn, vc, rfl, hy, hu, hv⟩ := hf
  obtain ⟨za, zn, zc, ta, tn, tc, qa, qn, qc, rfl, hz, ht, hq⟩ := hm
  obtain ⟨hc1, hc2, hc3⟩ := hcm.out
  rw [hz.len] at sY
  rw [ht.len] at sU
  rw [hq.len] at sV
  obtain ⟨hfY, hfC⟩ := mb_fit hx hyb
  have hfV := hfC
  rw [← lY] at hfY
  rw [← lU] at hfC
  rw [← lV] at hfV
  have hle := mb_le hx ha (show my < 4 by omega)
  have RY := Lib.hid hy.rng
  have RU := Lib.hid hu.rng
  have RV := Lib.hid hv.rng
  have SY := Lib.hid hz.rng
  have SU := Lib.hid ht.rng
  have SV := Lib.hid hq.rng
  have hWn : f.W.toNat = 16 * a := by omega
  have hsm : smF f m mx my = ⟨f.W, f.H, pasteL f.Y m.Y (mbL (16 * a) mx my) (16 * a) 16 16, pasteL f.U m.U (mbC (16 * a) mx my) (16 * a / 2) 8 8, pasteL f.V m.V (mbC (16 * a) mx my) (16 * a / 2) 8 8⟩ := by unfold smF; rw [hWn]
  rw [hsm]
  obtain ⟨cw, hcw⟩ : ∃ cw, cw = 16 * a := ⟨_, rfl⟩
  rw [← hcw] at hfY hfC hfV hle ⊢
  have hWc : f.W = (cw : Int) := by omega
  have hcw2 : cw ≤ 64 := by omega
  obtain ⟨fl, hfl⟩ : ∃ fl, fl = mbL cw mx my := ⟨_, rfl⟩
  obtain ⟨fc, hfc⟩ : ∃ fc, fc = mbC cw mx my := ⟨_, rfl⟩
  obtain ⟨hw, hhw⟩ : ∃ hw, hw = cw / 2 := ⟨_, rfl⟩
  have hmac := fun w => plane_macroblockN cw mx my fl fc hw w hcw2 (by omega) (by omega) hfl hfc hhw
  rw [← hfl, ← hfc, ← hhw]
  rw [← hfl] at hfY hle
  rw [← hfc] at hfC hfV hle
  rw [← hhw] at hfC hfV
  have hlY := pasteL_len (l := m.Y) (m := f.Y) (wd := 16) 16 hfY
  have hlU := pasteL_len (l := m.U) (m := f.U) (wd := 8) 8 hfC
  have hlV := pasteL_len (l := m.V) (m := f.V) (wd := 8) 8 hfV
  have rY := pasteL_rng (fr := fl) (st := cw) (wd := 16) RY.out SY.out 16
  have rU := pasteL_rng (fr := fc) (st := hw) (wd := 8) RU.out SU.out 8
  have rV := pasteL_rng (fr := fc) (st := hw) (wd := 8) RV.out SV.out 8
  obtain ⟨PY, hPY⟩ : ∃ x, x = pasteL f.Y m.Y fl cw 16 16 := ⟨_, rfl⟩
  obtain ⟨PU, hPU⟩ : ∃ x, x = pasteL f.U m.U fc hw 8 8 := ⟨_, rfl⟩
  obtain ⟨PV, hPV⟩ : ∃ x, x = pasteL f.V m.V fc hw 8 8 := ⟨_, rfl⟩
  rw [← hPY] at hlY rY ⊢
  rw [← hPU] at hlU rU ⊢
  rw [← hPV] at hlV rV ⊢
  rw [hWc] at hf0 ⊢
  rw [hmW, hmH] at hm0 ⊢
  have HMA := Lib.hid hmac
  have HFY := Lib.hid hfY
  have HFC := Lib.hid hfC
  have HFV := Lib.hid hfV
  have HF := Lib.hid hf0
  have HM := Lib.hid hm0
  have HWC := Lib.hid hWc
  have HPY := Lib.hid hPY
  have HPU := Lib.hid hPU
  have HPV := Lib.hid hPV
  have HLY := Lib.hid hlY
  have HLU := Lib.hid hlU
  have HLV := Lib.hid hlV
  have RPY := Lib.hid rY
  have RPU := Lib.hid rU
  have RPV := Lib.hid rV
  have HSY := Lib.hid sY
  have HSU := Lib.hid sU
  have HSV := Lib.hid sV
  have HHZ := Lib.hid (hz.mono (q := (· < w.heap.size)) (fun _ h _ => h))
  have HHT := Lib.hid (ht.mono (q := (· < w.heap.size)) (fun _ h _ => h))
  have HHQ := Lib.hid (hq.mono (q := (· < w.heap.size)) (fun _ h _ => h))
  obtain ⟨hle1, hle2⟩ := hle
  have hhw2 : hw ≤ 64 := by omega
  clear lY lU lV hW hWn hcw hWc hfl hfc hhw hmac hfY hfC hfV hf0 hm0 hsm hy hu hv hz ht hq hPY hPU hPV hlY hlU hlV rY rU rV sY sU sV hmW hmH
  go_enter Try.func37, Try.ntmps37
  go_wp2_with fail
  refine (plane_has (p := p) _ f _ _ _ (by (repeat with_reducible apply IsFr.alloc); exact HF.out)).mono ?_
  rintro e w1 ⟨rfl, hb1⟩
  have B1 : Below w.heap.size w w1 := ((((Below.refl _ w).alloc (by simp) _).alloc (by simp) _).alloc (by simp; omega) _).trans (hb1.mono (by simp; omega))
  have x1 : Bx w1 w.heap.size 24 #[.int .i64 cw, .int .i64 f.H, .slice ya yn yc, .slice ua un uc, .slice va vn vc] := (((Bx.new w _ _).alloc _).alloc _).ext hb1
  have m1 : Bx w1 (w.heap.size + 1) 24 #[.int .i64 16, .int .i64 16, .slice za zn zc, .slice ta tn tc, .slice qa qn qc] := ((Bx.new' _ _ _ _ (by simp)).alloc _).ext hb1
  have y1 : Bx w1 (w.heap.size + 1 + 1) 24 #[.int .i64 0, .int .i64 0, .slice none 0 0, .slice none 0 0, .slice none 0 0] := (Bx.new' _ _ _ _ (by simp)).ext hb1
  clear hb1
  obtain ⟨d0, d1, d2, d3, d4⟩ := m1.cells5
  have lm1 := m1.lt
  go_wp2_with fail
  clear d0 d1 d2 d3 d4
  refine (plane_Formed _ m _ (HM.out.ext B1)).mono ?_
  rintro e w2 ⟨rfl, hb2⟩
  have B2 := B1.trans (hb2.mono B1.size)
  have x2 := x1.ext hb2
  have m2 := m1.ext hb2
  have y2 := y1.ext hb2
  clear hb2 x1 m1 y1 B1
  obtain ⟨c0, c1, c2, c3, c4⟩ := x2.cells5
  obtain ⟨d0, d1, d2, d3, d4⟩ := m2.cells5
  have lx2 := x2.lt
  have lm2 := m2.lt
  have ly2 := y2.lt
  go_wp2_with fail
  clear c0 c1 c2 c3 c4 d0 d1 d2 d3 d4
  refine (plane_clone (p := p) _ f _ (HF.out.ext B2) (by omega) (by omega) (by omega)).mono ?_
  rintro e w3 ⟨v3, g1, g2, g3, rfl, hO, hb3⟩
  have hv3 := hO.val
  subst hv3
  rw [HWC.out]
  have B3 := B2.trans (hb3.mono B2.size)
  have x3 := x2.ext hb3
  have m3 := m2.ext hb3
  have y3 := y2.ext hb3
  have z3 := hb3.size
  have bg1 := hO.b1
  have bg2 := hO.b2
  have bg3 := hO.b3
  have n12 := hO.n12
  have n13 := hO.n13
  have n23 := hO.n23
  clear hb3 x2 m2 y2 B2
  go_upto_region 4 with fail
  have x4 := x3.alloc (.cells #[.int .i64 cw, .int .i64 f.H, .slice (some ⟨g1, 0, none⟩) f.Y.length f.Y.length, .slice (some ⟨g2, 0, none⟩) f.U.length f.U.length, .slice (some ⟨g3, 0, none⟩) f.V.length f.V.length] 24)
  have m4 := m3.alloc (.cells #[.int .i64 cw, .int .i64 f.H, .slice (some ⟨g1, 0, none⟩) f.Y.length f.Y.length, .slice (some ⟨g2, 0, none⟩) f.U.length f.U.length, .slice (some ⟨g3, 0, none⟩) f.V.length f.V.length] 24)
  have y4 := y3.alloc (.cells #[.int .i64 cw, .int .i64 f.H, .slice (some ⟨g1, 0, none⟩) f.Y.length f.Y.length, .slice (some ⟨g2, 0, none⟩) f.U.length f.U.length, .slice (some ⟨g3, 0, none⟩) f.V.length f.V.length] 24)
  have o4 := Bx.new w3 24 #[.int .i64 cw, .int .i64 f.H, .slice (some ⟨g1, 0, none⟩) f.Y.length f.Y.length, .slice (some ⟨g2, 0, none⟩) f.U.length f.U.length, .slice (some ⟨g3, 0, none⟩) f.V.length f.V.length]
  have k1 := hO.k1.alloc (.cells #[.int .i64 cw, .int .i64 f.H, .slice (some ⟨g1, 0, none⟩) f.Y.length f.Y.length, .slice (some ⟨g2, 0, none⟩) f.U.length f.U.length, .slice (some ⟨g3, 0, none⟩) f.V.length f.V.length] 24)
  have k2 := hO.k2.alloc (.cells #[.int .i64 cw, .int .i64 f.H, .slice (some ⟨g1, 0, none⟩) f.Y.length f.Y.length, .slice (some ⟨g2, 0, none⟩) f.U.length f.U.length, .slice (some ⟨g3, 0, none⟩) f.V.length f.V.length] 24)
  have k3 := hO.k3.alloc (.cells #[.int .i64 cw, .int .i64 f.H, .slice (some ⟨g1, 0, none⟩) f.Y.length f.Y.length, .slice (some ⟨g2, 0, none⟩) f.U.length f.U.length, .slice (some ⟨g3, 0, none⟩) f.V.length f.V.length] 24)
  have B4 := B3.alloc B3.size (.cells #[.int .i64 cw, .int .i64 f.H, .slice (some ⟨g1, 0, none⟩) f.Y.length f.Y.length, .slice (some ⟨g2, 0, none⟩) f.U.length f.U.length, .slice (some ⟨g3, 0, none⟩) f.V.length f.V.length] 24)
  generalize w3.alloc (.cells #[.int .i64 cw, .int .i64 f.H, .slice (some ⟨g1, 0, none⟩) f.Y.length f.Y.length, .slice (some ⟨g2, 0, none⟩) f.U.length f.U.length, .slice (some ⟨g3, 0, none⟩) f.V.length f.V.length] 24) = w4 at *
  have l1 := hO.k1.lt
  have l2 := hO.k2.lt
  have l3 := hO.k3.lt
  have lo4 := o4.lt
  generalize w3.heap.size = go at *
  clear x3 m3 y3 B3 hO
  obtain ⟨c0, c1, c2, c3, c4⟩ := x4.cells5
  have lx4 := x4.lt
  have lm4 := m4.lt
  have ly4 := y4.lt
  go_wp2_with fail
  clear c0 c1 c2 c3 c4
  refine (HMA.out _).mono ?_
  rintro e w5 ⟨rfl, hb5⟩
  have z5 := hb5.size
  have x5 := x4.ext hb5
  have m5 := m4.ext hb5
  have y5 := y4.ext hb5
  have o5 := o4.ext hb5
  replace k1 := k1.ext hb5
  replace k2 := k2.ext hb5
  replace k3 := k3.ext hb5
  have B5 := B4.trans (hb5.mono B4.size)
  clear hb5 x4 m4 y4 o4 B4
  go_upto_region 5 with fail
  have m6 := (m5.alloc (.cells #[.int .i64 fl, .int .i64 cw, .int .i64 16, .int .i64 16] 61)).alloc (.cells #[.int .i64 fc, .int .i64 hw, .int .i64 8, .int .i64 8] 61)
  have y6 := (y5.alloc (.cells #[.int .i64 fl, .int .i64 cw, .int .i64 16, .int .i64 16] 61)).alloc (.cells #[.int .i64 fc, .int .i64 hw, .int .i64 8, .int .i64 8] 61)
  have o6 := (o5.alloc (.cells #[.int .i64 fl, .int .i64 cw, .int .i64 16, .int .i64 16] 61)).alloc (.cells #[.int .i64 fc, .int .i64 hw, .int .i64 8, .int .i64 8] 61)
  have k16 := (k1.alloc (.cells #[.int .i64 fl, .int .i64 cw, .int .i64 16, .int .i64 16] 61)).alloc (.cells #[.int .i64 fc, .int .i64 hw, .int .i64 8, .int .i64 8] 61)
  have k26 := (k2.alloc (.cells #[.int .i64 fl, .int .i64 cw, .int .i64 16, .int .i64 16] 61)).alloc (.cells #[.int .i64 fc, .int .i64 hw, .int .i64 8, .int .i64 8] 61)
  have k36 := (k3.alloc (.cells #[.int .i64 fl, .int .i64 cw, .int .i64 16, .int .i64 16] 61)).alloc (.cells #[.int .i64 fc, .int .i64 hw, .int .i64 8, .int .i64 8] 61)
  have i6 := (Bx.new w5 61 #[.int .i64 fl, .int .i64 cw, .int .i64 16, .int .i64 16]).alloc (.cells #[.int .i64 fc, .int .i64 hw, .int .i64 8, .int .i64 8] 61)
  have j6 := Bx.new' (w5.alloc (.cells #[.int .i64 fl, .int .i64 cw, .int .i64 16, .int .i64 16] 61)) 61 #[.int .i64 fc, .int .i64 hw, .int .i64 8, .int .i64 8] (w5.heap.size + 1) (by simp)
  have B6 := (B5.alloc B5.size (.cells #[.int .i64 fl, .int .i64 cw, .int .i64 16, .int .i64 16] 61)).alloc (by have := B5.size; simp; omega) (.cells #[.int .i64 fc, .int .i64 hw, .int .i64 8, .int .i64 8] 61)
  generalize (w5.alloc (.cells #[.int .i64 fl, .int .i64 cw, .int .i64 16, .int .i64 16] 61)).alloc (.cells #[.int .i64 fc, .int .i64 hw, .int .i64 8, .int .i64 8] 61) = w6 at *
  have lo5 := o5.lt
  have li6 := i6.lt
  have lj6 := j6.lt
  generalize w5.heap.size = ga at *
  clear x5 m5 y5 o5 k1 k2 k3 B5
  have hz6 := HHZ.out.ext B6
  have ht6 := HHT.out.ext B6
  have hq6 := HHQ.out.ext B6
  obtain ⟨c0, c1, c2, c3, c4⟩ := o6.cells5
  obtain ⟨d0, d1, d2, d3, d4⟩ := m6.cells5
  obtain ⟨i0, i1, i2, i3⟩ := i6.cells4
  go_wp2_with fail
  clear c0 c1 c2 c3 c4 d0 d1 d2 d3 d4 i0 i1 i2 i3
  refine (plane_paste16 (p := (· < w.heap.size)) g1 f.Y.length f.Y.length fl cw za zn zc f.Y m.Y _ k16 rfl (Nat.le_refl _) hz6 (by omega) hc1 (by omega) (by omega) (by omega) HSY.out HFY.out).mono ?_
  rintro e w7 ⟨rfl, k17, hg7⟩
  have z7 := hg7.size
  have m7 := m6.grown hg7 (by simp; omega)
  have y7 := y6.grown hg7 (by simp; omega)
  have o7 := o6.grown hg7 (by simp; omega)
  have j7 := j6.grown hg7 (by simp; omega)
  have k27 := k26.grown hg7 (by simp; omega)
  have k37 := k36.grown hg7 (by simp; omega)
  have ht7 := ht6.grown hg7 (fun b hb _ => by simp; omega)
  have hq7 := hq6.grown hg7 (fun b hb _ => by simp; omega)
  have B7 := B6.grown hg7 (by omega) (fun k hk => by cases hk; omega)
  clear hg7 m6 y6 o6 i6 j6 k16 k26 k36 hz6 ht6 hq6 B6
  rw [← HPY.out] at k17
  obtain ⟨c0, c1, c2, c3, c4⟩ := o7.cells5
  obtain ⟨d0, d1, d2, d3, d4⟩ := m7.cells5
  obtain ⟨i0, i1, i2, i3⟩ := j7.cells4
  go_wp2_with fail
  clear c0 c1 c2 c3 c4 d0 d1 d2 d3 d4 i0 i1 i2 i3
  refine (plane_paste08 (p := (· < w.heap.size)) g2 f.U.length f.U.length fc hw ta tn tc f.U m.U _ k27 rfl (Nat.le_refl _) ht7 (by omega) hc2 (by omega) (by omega) (by omega) HSU.out HFC.out).mono ?_
  rintro e w8 ⟨rfl, k28, hg8⟩
  have z8 := hg8.size
  have m8 := m7.grown hg8 (by simp; omega)
  have y8 := y7.grown hg8 (by simp; omega)
  have o8 := o7.grown hg8 (by simp; omega)
  have j8 := j7.grown hg8 (by simp; omega)
  have k18 := k17.grown hg8 (by simp; omega)
  have k38 := k37.grown hg8 (by simp; omega)
  have hq8 := hq7.grown hg8 (fun b hb _ => by simp; omega)
  have B8 := B7.grown hg8 (by omega) (fun k hk => by cases hk; omega)
  clear hg8 m7 y7 o7 j7 k17 k27 k37 ht7 hq7 B7
  rw [← HPU.out] at k28
  obtain ⟨c0, c1, c2, c3, c4⟩ := o8.cells5
  obtain ⟨d0, d1, d2, d3, d4⟩ := m8.cells5
  obtain ⟨i0, i1, i2, i3⟩ := j8.cells4
  go_wp2_with fail
  clear c0 c1 c2 c3 c4 d0 d1 d2 d3 d4 i0 i1 i2 i3
  refine (plane_paste08 (p := (· < w.heap.size)) g3 f.V.length f.V.length fc hw qa qn qc f.V m.V _ k38 rfl (Nat.le_refl _) hq8 (by omega) hc3 (by omega) (by omega) (by omega) HSV.out HFV.out).mono ?_
  rintro e w9 ⟨rfl, k39, hg9⟩
  have z9 := hg9.size
  have y9 := y8.grown hg9 (by simp; omega)
  have o9 := o8.grown hg9 (by simp; omega)
  have k19 := k18.grown hg9 (by simp; omega)
  have k29 := k28.grown hg9 (by simp; omega)
  have B9 := B8.grown hg9 (by omega) (fun k hk => by cases hk; omega)
  clear hg9 m8 y8 o8 j8 k18 k28 k38 hq8 B8
  rw [← HPV.out] at k39
  obtain ⟨c0, c1, c2, c3, c4⟩ := o9.cells5
  obtain ⟨d0, d1, d2, d3, d4⟩ := y9.cells5
  have t0 := y9.frozen 0
  have t1 := y9.frozen 1
  have t2 := y9.frozen 2
  have t3 := y9.frozen 3
  have t4 := y9.frozen 4
  have lo9 := o9.lt
  have ly9 := y9.lt
  go_wp2_with fail
  have np : ¬ (w2.heap.size ≤ w.heap.size + 1 + 1) := by omega
  have v1 := k19.byt (p := (w2.heap.size ≤ ·)) bg1 RPY.out
  have v2 := k29.byt (p := (w2.heap.size ≤ ·)) bg2 RPU.out
  have v3 := k39.byt (p := (w2.heap.size ≤ ·)) bg3 RPV.out
  rw [HLY.out] at v1
  rw [HLU.out] at v2
  rw [HLV.out] at v3
  refine bodyPost_ret (v := .tuple #[.agg #[.int .i64 cw, .int .i64 f.H, .slice (some ⟨g1, 0, none⟩) f.Y.length f.Y.length, .slice (some ⟨g2, 0, none⟩) f.U.length f.U.length, .slice (some ⟨g3, 0, none⟩) f.V.length f.V.length], .int .i64 0]) (by simp only [results, Try.results37]; go_simp) rfl ⟨_, rfl, CapsOK.mk (Nat.le_refl _) (Nat.le_refl _) (Nat.le_refl _), ⟨_, _, _, _, _, _, _, _, _, rfl, ?_, ?_, ?_⟩, ?_⟩
  · refine Byt.mono (p := (w2.heap.size ≤ ·)) ?_ (fun b _ h => by omega)
    repeat refine Byt.setCell ?_ np _
    exact v1
  · refine Byt.mono (p := (w2.heap.size ≤ ·)) ?_ (fun b _ h => by omega)
    repeat refine Byt.setCell ?_ np _
    exact v2
  · refine Byt.mono (p := (w2.heap.size ≤ ·)) ?_ (fun b _ h => by omega)
    repeat refine Byt.setCell ?_ np _
    exact v3
  ·
    repeat (first | (with_reducible exact B9) | (with_reducible refine Below.setCell ?_ (by first | (simp; done) | (simp; omega)) _) | (with_reducible refine Below.alloc ?_ (by first | (simp; done) | (simp; omega)) _) | (with_reducible refine Below.drew ?_))
end Go.Proofs.Ytcboppldclknjaa
