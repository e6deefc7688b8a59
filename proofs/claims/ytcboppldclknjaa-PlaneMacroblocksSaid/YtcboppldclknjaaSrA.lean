/- SetRow of the reference. -/
import Derived.Test.YtcboppldclknjaaSmC
namespace Go.Proofs.Ytcboppldclknjaa
open Go.RowKit

/-- The frame with a row of macroblocks of another one. -/
def rowF (f m : Fr) (my : Nat) : Fr := ⟨f.W, f.H, spl f.Y (16 * my * f.W.toNat) ((m.Y.drop (16 * my * f.W.toNat)).take (16 * f.W.toNat)), spl f.U (8 * my * (f.W.toNat / 2)) ((m.U.drop (8 * my * (f.W.toNat / 2))).take (8 * (f.W.toNat / 2))), spl f.V (8 * my * (f.W.toNat / 2)) ((m.V.drop (8 * my * (f.W.toNat / 2))).take (8 * (f.W.toNat / 2)))⟩
theorem row_sizes {f m : Fr} {a b : Nat} (h : sizedB m f.W f.H = true) (hW : f.W = ((16 * a : Nat) : Int)) (hH : f.H = ((16 * b : Nat) : Int)) : m.W = f.W ∧ m.H = f.H ∧ m.Y.length = (16 * b) * (16 * a) ∧ m.U.length = (8 * b) * (8 * a) ∧ m.V.length = (8 * b) * (8 * a) := by
  simp only [sizedB, formedB, Bool.and_eq_true, decide_eq_true_eq] at h
  obtain ⟨⟨⟨⟨⟨_, h1⟩, h2⟩, h3⟩, h4⟩, h5⟩ := h
  rw [h4, h5, hW, hH] at h1 h2 h3
  have q1 : ((16 * a : Nat) : Int) / 2 = ((8 * a : Nat) : Int) := by omega
  have q2 : ((16 * b : Nat) : Int) / 2 = ((8 * b : Nat) : Int) := by omega
  rw [q1, q2, ← Int.natCast_mul, Nat.mul_comm] at h2 h3
  rw [← Int.natCast_mul, Nat.mul_comm] at h1
  exact ⟨h4, h5, by omega, by omega, by omega⟩
theorem row_fit {a b my : Nat} (hy : my < b) : (∀ r, r < 16 → 16 * my * (16 * a) + 0 + r * (16 * a) + 16 * a ≤ (16 * b) * (16 * a)) ∧ (∀ r, r < 16 / 2 → 16 * my / 2 * (16 * a / 2) + 0 / 2 + r * (16 * a / 2) + 16 * a / 2 ≤ (8 * b) * (8 * a)) := by
  constructor
  · intro r hr
    have : (16 * my + r + 1) * (16 * a) ≤ (16 * b) * (16 * a) := Nat.mul_le_mul_right _ (by omega)
    rw [Nat.add_mul, Nat.add_mul] at this
    omega
  · intro r hr
    rw [show 16 * a / 2 = 8 * a by omega, show 16 * my / 2 = 8 * my by omega]
    have : (8 * my + r + 1) * (8 * a) ≤ (8 * b) * (8 * a) := Nat.mul_le_mul_right _ (by omega)
    rw [Nat.add_mul, Nat.add_mul] at this
    omega
theorem row_paste {f m : Fr} {a b cw ty my : Nat} (hW : f.W = ((16 * a : Nat) : Int)) (hc : f.W.toNat = cw) (ha : 1 ≤ a) (hy : ty = 16 * my) (hyb : my < b)
    (lY : f.Y.length = (16 * b) * (16 * a)) (lU : f.U.length = (8 * b) * (8 * a)) (lV : f.V.length = (8 * b) * (8 * a)) (sY : m.Y.length = (16 * b) * (16 * a)) (sU : m.U.length = (8 * b) * (8 * a)) (sV : m.V.length = (8 * b) * (8 * a)) :
    pasteFr f m cw 0 ty cw 0 ty cw 16 = rowF f m my := by
  have hcw : cw = 16 * a := by omega
  subst hc hy
  unfold pasteFr rowF
  rw [hcw, show 16 * my / 2 = 8 * my by omega, show 16 * a / 2 = 8 * a by omega]
  simp only [Nat.reduceDiv, Nat.zero_div, Nat.add_zero]
  have f1 : 16 * my * (16 * a) + 16 * (16 * a) ≤ (16 * b) * (16 * a) := by
    have : (16 * my + 16) * (16 * a) ≤ (16 * b) * (16 * a) := Nat.mul_le_mul_right _ (by omega)
    rwa [Nat.add_mul] at this
  have f2 : 8 * my * (8 * a) + 8 * (8 * a) ≤ (8 * b) * (8 * a) := by
    have : (8 * my + 8) * (8 * a) ≤ (8 * b) * (8 * a) := Nat.mul_le_mul_right _ (by omega)
    rwa [Nat.add_mul] at this
  rw [paste_contig 16 (cutL_len _ _ _ _ _) (by rw [lY]; exact f1), paste_contig 8 (cutL_len _ _ _ _ _) (by rw [lU]; exact f2), paste_contig 8 (cutL_len _ _ _ _ _) (by rw [lV]; exact f2),
    cut_contig (by omega) (by rw [sY]; exact f1), cut_contig (by omega) (by rw [sU]; exact f2), cut_contig (by omega) (by rw [sV]; exact f2)]

set_option maxHeartbeats 8000000 in
theorem ref_SetRow_yes {p p' : Nat → Prop} (v u : Value) (f m : Fr) (my a b : Nat) (w : World) (hf : IsFr p w v f) (hm : IsFr p' w u m) (hh : hasB f 0 my = true) (hsz : sizedB m f.W f.H = true)
    (hW : f.W = ((16 * a : Nat) : Int)) (ha : a ≤ 4) (ha1 : 1 ≤ a) (hH : f.H = ((16 * b : Nat) : Int)) (hb : b ≤ 4) (hyb : my < b) (lY : f.Y.length = (16 * b) * (16 * a)) (lU : f.U.length = (8 * b) * (8 * a)) (lV : f.V.length = (8 * b) * (8 * a)) :
    Calls Try.prog 40 #[v, .int .i64 my, u] w (RetFc w (rowF f m my, 0)) := by
  have hf0 := hf
  have hm0 := hm
  obtain ⟨hmW, hmH, sY, sU, sV⟩ := row_sizes hsz hW hH
  have bY : f.Y.length ≤ 4096 := by rw [lY]; exact Nat.le_trans (Nat.mul_le_mul (show 16 * b ≤ 64 by omega) (show 16 * a ≤ 64 by omega)) (by omega)
  have bU : f.U.length ≤ 1024 := by rw [lU]; exact Nat.le_trans (Nat.mul_le_mul (show 8 * b ≤ 32 by omega) (show 8 * a ≤ 32 by omega)) (by omega)
  have bV : f.V.length ≤ 1024 := by rw [lV]; exact Nat.le_trans (Nat.mul_le_mul (show 8 * b ≤ 32 by omega) (show 8 * a ≤ 32 by omega)) (by omega)
  have pY : 0 < f.Y.length := by rw [lY]; exact Nat.mul_pos (by omega) (by omega)
  have pU : 0 < f.U.length := by rw [lU]; exact Nat.mul_pos (by omega) (by omega)
  have pV : 0 < f.V.length := by rw [lV]; exact Nat.mul_pos (by omega) (by omega)
  obtain ⟨ya, yn, yc, ua, un, uc, va, vn, vc, rfl, hy, hu, hv⟩ := hf
  obtain ⟨za, zn, zc, ta, tn, tc, qa, qn, qc, rfl, hz, ht, hq⟩ := hm
  obtain ⟨hfY, hfC⟩ := row_fit (a := a) hyb
  have RY := Lib.hid hy.rng
  have RU := Lib.hid hu.rng
  have RV := Lib.hid hv.rng
  have SY := Lib.hid hz.rng
  have SU := Lib.hid ht.rng
  have SV := Lib.hid hq.rng
  obtain ⟨cw, hcw⟩ : ∃ cw, cw = 16 * a := ⟨_, rfl⟩
  obtain ⟨ty, hty⟩ : ∃ fy, fy = 16 * my := ⟨_, rfl⟩
  have hWc : f.W = (cw : Int) := by omega
  rw [← row_paste (cw := cw) hW (by omega) (by omega) hty hyb lY lU lV sY sU sV]
  have hpaste : ∀ (w1 : World) (B g1 c1 g2 c2 g3 c3 : Nat), Rows3 B w1 f (.slice (some ⟨g1, 0, none⟩) f.Y.length c1) (.slice (some ⟨g2, 0, none⟩) f.U.length c2) (.slice (some ⟨g3, 0, none⟩) f.V.length c3) → IsFr (· < w.heap.size) w1 (.agg #[.int .i64 cw, .int .i64 f.H, .slice za zn zc, .slice ta tn tc, .slice qa qn qc]) m → w.heap.size ≤ B → B ≤ w1.heap.size →
      Calls Try.prog 60 #[.agg #[.int .i64 cw, .int .i64 f.H, .slice (some ⟨g1, 0, none⟩) f.Y.length c1, .slice (some ⟨g2, 0, none⟩) f.U.length c2, .slice (some ⟨g3, 0, none⟩) f.V.length c3], .int .i64 0, .int .i64 ty, .agg #[.int .i64 cw, .int .i64 f.H, .slice za zn zc, .slice ta tn tc, .slice qa qn qc], .int .i64 0, .int .i64 ty, .int .i64 cw, .int .i64 16] w1
        (fun e w' => e = .returned (.tuple #[]) ∧ Rows3 B w' (pasteFr f m cw 0 ty cw 0 ty cw 16) (.slice (some ⟨g1, 0, none⟩) f.Y.length c1) (.slice (some ⟨g2, 0, none⟩) f.U.length c2) (.slice (some ⟨g3, 0, none⟩) f.V.length c3) ∧ Below B w1 w' ∧ ∀ k, k < w1.heap.size → k ≠ g1 → k ≠ g2 → k ≠ g3 → w'.heap[k]? = w1.heap[k]?) := by
    intro w1 B g1 c1 g2 c2 g3 c3 hr hg hB hB2
    refine ref_Paste (p := (· < w.heap.size)) _ f m B g1 _ c1 g2 _ c2 g3 _ c3 cw 0 ty cw 0 ty cw 16 f.H w1 hr hg (fun b hb => Nat.lt_of_lt_of_le hb hB) (hmW.trans hWc) hB2 (by omega) (by omega) (by omega) (by omega) (by omega) (by omega) (by omega) (by omega) ?_ ?_ ?_ ?_ ?_ ?_
    · intro r hr; rw [lY, hty, hcw]; exact hfY r hr
    · intro r hr; rw [sY, hty, hcw]; exact hfY r hr
    · intro r hr; rw [lU, hty, hcw]; exact hfC r hr
    · intro r hr; rw [sU, hty, hcw]; exact hfC r hr
    · intro r hr; rw [lV, hty, hcw]; exact hfC r hr
    · intro r hr; rw [sV, hty, hcw]; exact hfC r hr
  have hR1 : ∀ z ∈ (pasteFr f m cw 0 ty cw 0 ty cw 16).Y, 0 ≤ z ∧ z ≤ 255 := pasteL_rng RY.out (cutL_rng SY.out _ _ _ _) _
  have hR2 : ∀ z ∈ (pasteFr f m cw 0 ty cw 0 ty cw 16).U, 0 ≤ z ∧ z ≤ 255 := pasteL_rng RU.out (cutL_rng SU.out _ _ _ _) _
  have hR3 : ∀ z ∈ (pasteFr f m cw 0 ty cw 0 ty cw 16).V, 0 ≤ z ∧ z ≤ 255 := pasteL_rng RV.out (cutL_rng SV.out _ _ _ _) _
  have hWH : (pasteFr f m cw 0 ty cw 0 ty cw 16).W = f.W ∧ (pasteFr f m cw 0 ty cw 0 ty cw 16).H = f.H := ⟨rfl, rfl⟩
  generalize pasteFr f m cw 0 ty cw 0 ty cw 16 = R at *
  have hsz' := hsz
  rw [hWc] at hf0 hsz' ⊢
  rw [hmW, hmH, hWc] at hm0 ⊢
  clear hsz
  have e6 : 16 * (my : Int) = (ty : Int) := by omega
  have HE6 := Lib.hid e6
  have HF := Lib.hid hf0
  have HM := Lib.hid hm0
  have HP := Lib.hid hpaste
  have HR1 := Lib.hid hR1
  have HR2 := Lib.hid hR2
  have HR3 := Lib.hid hR3
  have HWH := Lib.hid hWH
  have HWC := Lib.hid hWc
  have bfy : ty ≤ 64 := by omega
  clear lY lU lV hW hcw hWc hpaste hf0 hm0 hfY hfC hy hu hv hz ht hq e6 hR1 hR2 hR3 hWH hty sY sU sV hmW hmH hH
  go_enter Try.func40, Try.ntmps40
  go_wp2_with fail
  refine (ref_Has (p := p) _ f _ _ _ (by (repeat with_reducible apply IsFr.alloc); exact HF.out)).mono ?_
  rintro e w1 ⟨rfl, hb1⟩
  have B1 : Below w.heap.size w w1 := ((((Below.refl _ w).alloc (by simp) _).alloc (by simp) _).alloc (by simp; omega) _).trans (hb1.mono (by simp; omega))
  have x1 : Bx w1 w.heap.size 24 #[.int .i64 cw, .int .i64 f.H, .slice ya yn yc, .slice ua un uc, .slice va vn vc] := (((Bx.new w _ _).alloc _).alloc _).ext hb1
  have m1 : Bx w1 (w.heap.size + 1) 24 #[.int .i64 cw, .int .i64 f.H, .slice za zn zc, .slice ta tn tc, .slice qa qn qc] := ((Bx.new' _ _ _ _ (by simp)).alloc _).ext hb1
  have y1 : Bx w1 (w.heap.size + 1 + 1) 24 #[.int .i64 0, .int .i64 0, .slice none 0 0, .slice none 0 0, .slice none 0 0] := (Bx.new' _ _ _ _ (by simp)).ext hb1
  clear hb1
  obtain ⟨d0, d1, d2, d3, d4⟩ := m1.cells5
  obtain ⟨c0, c1, c2, c3, c4⟩ := x1.cells5
  have lx1 := x1.lt
  have lm1 := m1.lt
  go_wp2_with fail
  clear d0 d1 d2 d3 d4 c0 c1 c2 c3 c4
  refine (ref_Sized _ m cw f.H _ (HM.out.ext B1)).mono ?_
  rintro e w2 ⟨rfl, hb2⟩
  have B2 := B1.trans (hb2.mono B1.size)
  have x2 := x1.ext hb2
  have m2 := m1.ext hb2
  have y2 := y1.ext hb2
  clear hb2 x1 m1 y1 B1
  obtain ⟨c0, c1, c2, c3, c4⟩ := x2.cells5
  have lx2 := x2.lt
  have lm2 := m2.lt
  have ly2 := y2.lt
  go_wp2_with fail
  clear c0 c1 c2 c3 c4
  refine (ref_Copy (p := p) _ f _ (HF.out.ext B2) (by omega) (by omega) (by omega)).mono ?_
  rintro e w3 ⟨v3, rfl, hc3, hf3, hor, hb3⟩
  obtain ⟨ya2, yn2, yc2, ua2, un2, uc2, va2, vn2, vc2, rfl, _, _, _⟩ := hf3
  obtain ⟨sy, su, sv, hveq, o1, o2, o3, s1, s2, s3⟩ := hor pY pU pV
  simp only [Value.agg.injEq, Array.mk.injEq, List.cons.injEq, and_true, true_and] at hveq
  obtain ⟨rfl, rfl, rfl⟩ := hveq
  obtain ⟨g1, cp1, e1, bg1, lg1, hcp1, _, _⟩ := o1.form pY
  obtain ⟨g2, cp2, e2, bg2, lg2, hcp2, _, _⟩ := o2.form pU
  obtain ⟨g3, cp3, e3, bg3, lg3, hcp3, _, _⟩ := o3.form pV
  injection e1 with p1 p2 p3
  injection e2 with p4 p5 p6
  injection e3 with p7 p8 p9
  subst p1 p2 p3 p4 p5 p6 p7 p8 p9
  have RW : Rows3 w2.heap.size w3 f (.slice (some ⟨g1, 0, none⟩) f.Y.length yc2) (.slice (some ⟨g2, 0, none⟩) f.U.length uc2) (.slice (some ⟨g3, 0, none⟩) f.V.length vc2) := ⟨o1, o2, o3, s1, s2, s3⟩
  clear o1 o2 o3 s1 s2 s3 hor hc3
  rw [HWC.out]
  have B3 := B2.trans (hb3.mono B2.size)
  have x3 := x2.ext hb3
  have m3 := m2.ext hb3
  have y3 := y2.ext hb3
  have zz := hb3.size
  clear hb3 x2 m2 y2 B2
  obtain ⟨c0, c1, c2, c3, c4⟩ := x3.cells5
  have t0 := x3.frozen 0
  have t1 := x3.frozen 1
  have t2 := x3.frozen 2
  have t3 := x3.frozen 3
  have t4 := x3.frozen 4
  have lx := x3.lt
  generalize hBB : w2.heap.size = B at *
  clear hBB
  go_upto_region 4 with fail
  clear c0 c1 c2 c3 c4 t0 t1 t2 t3 t4
  have x4 := x3.put5 (.int .i64 cw) (.int .i64 f.H) (.slice (some ⟨g1, 0, none⟩) f.Y.length yc2) (.slice (some ⟨g2, 0, none⟩) f.U.length uc2) (.slice (some ⟨g3, 0, none⟩) f.V.length vc2)
  have m4 : Bx (((((w3.setCell ⟨w.heap.size, 0, none⟩ (.int .i64 cw)).setCell ⟨w.heap.size, 1, none⟩ (.int .i64 f.H)).setCell ⟨w.heap.size, 2, none⟩ (.slice (some ⟨g1, 0, none⟩) f.Y.length yc2)).setCell ⟨w.heap.size, 3, none⟩ (.slice (some ⟨g2, 0, none⟩) f.U.length uc2)).setCell ⟨w.heap.size, 4, none⟩ (.slice (some ⟨g3, 0, none⟩) f.V.length vc2)) (w.heap.size + 1) 24 _ := ((((m3.far (by simp) _).far (by simp) _).far (by simp) _).far (by simp) _).far (by simp) _
  have y4 : Bx (((((w3.setCell ⟨w.heap.size, 0, none⟩ (.int .i64 cw)).setCell ⟨w.heap.size, 1, none⟩ (.int .i64 f.H)).setCell ⟨w.heap.size, 2, none⟩ (.slice (some ⟨g1, 0, none⟩) f.Y.length yc2)).setCell ⟨w.heap.size, 3, none⟩ (.slice (some ⟨g2, 0, none⟩) f.U.length uc2)).setCell ⟨w.heap.size, 4, none⟩ (.slice (some ⟨g3, 0, none⟩) f.V.length vc2)) (w.heap.size + 1 + 1) 24 _ := ((((y3.far (by simp; omega) _).far (by simp; omega) _).far (by simp; omega) _).far (by simp; omega) _).far (by simp; omega) _
  have r4 : Rows3 B (((((w3.setCell ⟨w.heap.size, 0, none⟩ (.int .i64 cw)).setCell ⟨w.heap.size, 1, none⟩ (.int .i64 f.H)).setCell ⟨w.heap.size, 2, none⟩ (.slice (some ⟨g1, 0, none⟩) f.Y.length yc2)).setCell ⟨w.heap.size, 3, none⟩ (.slice (some ⟨g2, 0, none⟩) f.U.length uc2)).setCell ⟨w.heap.size, 4, none⟩ (.slice (some ⟨g3, 0, none⟩) f.V.length vc2)) f (.slice (some ⟨g1, 0, none⟩) f.Y.length yc2) (.slice (some ⟨g2, 0, none⟩) f.U.length uc2) (.slice (some ⟨g3, 0, none⟩) f.V.length vc2) := ((((RW.low (by simp; omega) _).low (by simp; omega) _).low (by simp; omega) _).low (by simp; omega) _).low (by simp; omega) _
  have B4 : Below w.heap.size w (((((w3.setCell ⟨w.heap.size, 0, none⟩ (.int .i64 cw)).setCell ⟨w.heap.size, 1, none⟩ (.int .i64 f.H)).setCell ⟨w.heap.size, 2, none⟩ (.slice (some ⟨g1, 0, none⟩) f.Y.length yc2)).setCell ⟨w.heap.size, 3, none⟩ (.slice (some ⟨g2, 0, none⟩) f.U.length uc2)).setCell ⟨w.heap.size, 4, none⟩ (.slice (some ⟨g3, 0, none⟩) f.V.length vc2)) := ((((B3.setCell (by simp) _).setCell (by simp) _).setCell (by simp) _).setCell (by simp) _).setCell (by simp) _
  have z4 : B ≤ (((((w3.setCell ⟨w.heap.size, 0, none⟩ (.int .i64 cw)).setCell ⟨w.heap.size, 1, none⟩ (.int .i64 f.H)).setCell ⟨w.heap.size, 2, none⟩ (.slice (some ⟨g1, 0, none⟩) f.Y.length yc2)).setCell ⟨w.heap.size, 3, none⟩ (.slice (some ⟨g2, 0, none⟩) f.U.length uc2)).setCell ⟨w.heap.size, 4, none⟩ (.slice (some ⟨g3, 0, none⟩) f.V.length vc2)).heap.size := by simp; omega
  generalize ((((w3.setCell ⟨w.heap.size, 0, none⟩ (.int .i64 cw)).setCell ⟨w.heap.size, 1, none⟩ (.int .i64 f.H)).setCell ⟨w.heap.size, 2, none⟩ (.slice (some ⟨g1, 0, none⟩) f.Y.length yc2)).setCell ⟨w.heap.size, 3, none⟩ (.slice (some ⟨g2, 0, none⟩) f.U.length uc2)).setCell ⟨w.heap.size, 4, none⟩ (.slice (some ⟨g3, 0, none⟩) f.V.length vc2) = w4 at *
  clear x3 m3 y3 RW B3
  obtain ⟨c0, c1, c2, c3, c4⟩ := x4.cells5
  obtain ⟨d0, d1, d2, d3, d4⟩ := m4.cells5
  have lx4 := x4.lt
  have ly4 := y4.lt
  have e6 := HE6.out
  go_wp2_with fail
  clear c0 c1 c2 c3 c4 d0 d1 d2 d3 d4 e6
  refine (HP.out w4 B g1 yc2 g2 uc2 g3 vc2 r4 ((HM.out.mono (q := (· < w.heap.size)) (fun _ h _ => h)).ext B4) (by omega) z4).mono ?_
  rintro e w5 ⟨rfl, r5, hb5, _⟩
  have z5 := hb5.size
  have y5 := y4.below hb5 (by omega)
  have x5 := x4.below hb5 (by omega)
  have B5 := B4.trans (hb5.mono (by omega))
  clear hb5 y4 x4 r4 B4 m4
  obtain ⟨d0, d1, d2, d3, d4⟩ := x5.cells5
  obtain ⟨c0, c1, c2, c3, c4⟩ := y5.cells5
  have t0 := y5.frozen 0
  have t1 := y5.frozen 1
  have t2 := y5.frozen 2
  have t3 := y5.frozen 3
  have t4 := y5.frozen 4
  have lx5 := x5.lt
  have ly5 := y5.lt
  go_wp2_with fail
  have hfin := rows_isFr r5 HR1.out HR2.out HR3.out
  rw [HWH.out.1, HWH.out.2, HWC.out] at hfin
  have np : ¬ (B ≤ w.heap.size + 1 + 1) := by omega
  refine bodyPost_ret (v := .tuple #[.agg #[.int .i64 cw, .int .i64 f.H, .slice (some ⟨g1, 0, none⟩) f.Y.length yc2, .slice (some ⟨g2, 0, none⟩) f.U.length uc2, .slice (some ⟨g3, 0, none⟩) f.V.length vc2], .int .i64 0]) (by simp only [results, Try.results40]; go_simp) rfl ⟨_, rfl, CapsOK.mk hcp1 hcp2 hcp3, ?_, ?_⟩
  · refine IsFr.mono (p := (B ≤ ·)) ?_ (fun b _ h => by omega)
    repeat refine IsFr.setCell ?_ np _
    exact hfin
  ·
    repeat (first | (with_reducible exact B5) | (with_reducible refine Below.setCell ?_ (by first | (simp; done) | (simp; omega)) _) | (with_reducible refine Below.alloc ?_ (by first | (simp; done) | (simp; omega)) _) | (with_reducible refine Below.drew ?_))
end Go.Proofs.Ytcboppldclknjaa
