/- SetRow and SetMacroblock of both. -/
import Derived.Test.YtcboppldclknjaaSrB
namespace Go.Proofs.Ytcboppldclknjaa
open Go.RowKit

def srOk (f m : Fr) (my : Int) : Prop := hasB f 0 my = true ∧ validB m = true ∧ m.W = f.W ∧ m.H = f.H
instance (f m : Fr) (my : Int) : Decidable (srOk f m my) := by unfold srOk; infer_instance
theorem sr_iff {f m : Fr} {my : Int} (h : hasB f 0 my = true) : srOk f m my ↔ sizedB m f.W f.H = true := by
  obtain ⟨hv, _⟩ := has_nats h
  obtain ⟨a, b, hW, hH, _⟩ := valid_sizes hv
  constructor
  · rintro ⟨_, h2, h3, h4⟩
    simp only [validB, Bool.and_eq_true] at h2
    simp [sizedB, h2.1.1, h3, h4]
  · intro h2
    simp only [sizedB, Bool.and_eq_true, decide_eq_true_eq] at h2
    obtain ⟨⟨h3, h4⟩, h5⟩ := h2
    refine ⟨h, ?_, h4, h5⟩
    simp only [validB, Bool.and_eq_true, decide_eq_true_eq]
    rw [h4, h5, hW, hH]
    exact ⟨⟨h3, by omega⟩, by omega⟩

set_option maxHeartbeats 4000000 in
theorem plane_SetRow_no {p p' : Nat → Prop} (v u : Value) (f m : Fr) (my : Int) (w : World) (hf : IsFr p w v f) (hm : IsFr p' w u m) (hno : ¬ srOk f m my) :
    Calls Try.prog 39 #[v, .int .i64 my, u] w (RetFc w (zeroFr, 1)) := by
  have hf0 := hf
  have hm0 := hm
  obtain ⟨ya, yn, yc, ua, un, uc, va, vn, vc, rfl, hy, hu, hv⟩ := hf
  obtain ⟨za, zn, zc, ta, tn, tc, qa, qn, qc, rfl, hz, ht, hq⟩ := hm
  clear hy hu hv hz ht hq
  have key : hasB f 0 my = false ∨ (hasB f 0 my = true ∧ validB m = false) ∨ (hasB f 0 my = true ∧ validB m = true ∧ (m.W != f.W) = true) ∨ (hasB f 0 my = true ∧ validB m = true ∧ (m.W != f.W) = false ∧ (m.H != f.H) = true) := by
    unfold srOk at hno
    cases h1 : hasB f 0 my
    · exact .inl rfl
    · cases h2 : validB m
      · exact .inr (.inl ⟨rfl, rfl⟩)
      · by_cases h3 : m.W = f.W
        · refine .inr (.inr (.inr ⟨rfl, rfl, by simpa using h3, ?_⟩))
          simp
          intro h4
          exact hno ⟨h1, h2, h3, h4⟩
        · exact .inr (.inr (.inl ⟨rfl, rfl, by simpa using h3⟩))
  clear hno
  rcases key with h1 | ⟨h1, h2⟩ | ⟨h1, h2, h3⟩ | ⟨h1, h2, h3, h4⟩
  · go_enter Try.func39, Try.ntmps39
    go_wp2_with fail
    refine (plane_has (p := p) _ f _ _ _ (by (repeat with_reducible apply IsFr.alloc); exact hf0)).mono ?_
    rintro e w1 ⟨rfl, hb1⟩
    have B1 : Below w.heap.size w w1 := ((((Below.refl _ w).alloc (by simp) _).alloc (by simp) _).alloc (by simp; omega) _).trans (hb1.mono (by simp; omega))
    have y1 : Bx w1 (w.heap.size + 1 + 1) 24 #[.int .i64 0, .int .i64 0, .slice none 0 0, .slice none 0 0, .slice none 0 0] := (Bx.new' _ _ _ _ (by simp)).ext hb1
    clear hb1
    obtain ⟨c0, c1, c2, c3, c4⟩ := y1.cells5
    have t0 := y1.frozen 0
    have t1 := y1.frozen 1
    have t2 := y1.frozen 2
    have t3 := y1.frozen 3
    have t4 := y1.frozen 4
    have hls := y1.lt
    go_wp2_with fail
    refine bodyPost_ret (v := .tuple #[.agg #[.int .i64 0, .int .i64 0, .slice none 0 0, .slice none 0 0, .slice none 0 0], .int .i64 1]) (by simp only [results, Try.results39]; go_simp) rfl (retFc_zero (B := 1) ?_ rfl)
    repeat (first | (with_reducible exact B1) | (with_reducible refine Below.setCell ?_ (by first | (simp; done) | (simp; omega)) _) | (with_reducible refine Below.alloc ?_ (by first | (simp; done) | (simp; omega)) _) | (with_reducible refine Below.drew ?_))
  all_goals
    go_enter Try.func39, Try.ntmps39
    go_wp2_with fail
    refine (plane_has (p := p) _ f _ _ _ (by (repeat with_reducible apply IsFr.alloc); exact hf0)).mono ?_
    rintro e w1 ⟨rfl, hb1⟩
    have B1 : Below w.heap.size w w1 := ((((Below.refl _ w).alloc (by simp) _).alloc (by simp) _).alloc (by simp; omega) _).trans (hb1.mono (by simp; omega))
    have x1 : Bx w1 w.heap.size 24 #[.int .i64 f.W, .int .i64 f.H, .slice ya yn yc, .slice ua un uc, .slice va vn vc] := (((Bx.new w _ _).alloc _).alloc _).ext hb1
    have m1 : Bx w1 (w.heap.size + 1) 24 #[.int .i64 m.W, .int .i64 m.H, .slice za zn zc, .slice ta tn tc, .slice qa qn qc] := ((Bx.new' _ _ _ _ (by simp)).alloc _).ext hb1
    have y1 : Bx w1 (w.heap.size + 1 + 1) 24 #[.int .i64 0, .int .i64 0, .slice none 0 0, .slice none 0 0, .slice none 0 0] := (Bx.new' _ _ _ _ (by simp)).ext hb1
    clear hb1
    obtain ⟨d0, d1, d2, d3, d4⟩ := m1.cells5
    have lm1 := m1.lt
    go_wp2_with fail
    clear d0 d1 d2 d3 d4
    refine (plane_Valid _ m _ (hm0.ext B1)).mono ?_
    rintro e w2 ⟨rfl, hb2⟩
    have B2 := B1.trans (hb2.mono B1.size)
    have m2 := m1.ext hb2
    have y2 := y1.ext hb2
    have x2 := x1.ext hb2
    clear hb2
    obtain ⟨d0, d1, d2, d3, d4⟩ := m2.cells5
    obtain ⟨f0, f1, f2, f3, f4⟩ := x2.cells5
    have lm2 := m2.lt
    have lx2 := x2.lt
    obtain ⟨c0, c1, c2, c3, c4⟩ := y2.cells5
    have t0 := y2.frozen 0
    have t1 := y2.frozen 1
    have t2 := y2.frozen 2
    have t3 := y2.frozen 3
    have t4 := y2.frozen 4
    have hls := y2.lt
    go_wp2_with fail
    refine bodyPost_ret (v := .tuple #[.agg #[.int .i64 0, .int .i64 0, .slice none 0 0, .slice none 0 0, .slice none 0 0], .int .i64 1]) (by simp only [results, Try.results39]; go_simp) rfl (retFc_zero (B := 1) ?_ rfl)
    repeat (first | (with_reducible exact B2) | (with_reducible refine Below.setCell ?_ (by first | (simp; done) | (simp; omega)) _) | (with_reducible refine Below.alloc ?_ (by first | (simp; done) | (simp; omega)) _) | (with_reducible refine Below.drew ?_))
set_option maxHeartbeats 4000000 in
theorem ref_SetRow_no {p p' : Nat → Prop} (v u : Value) (f m : Fr) (my : Int) (w : World) (hf : IsFr p w v f) (hm : IsFr p' w u m) (hno : ¬ srOk f m my) :
    Calls Try.prog 40 #[v, .int .i64 my, u] w (RetFc w (zeroFr, 1)) := by
  have hf0 := hf
  have hm0 := hm
  obtain ⟨ya, yn, yc, ua, un, uc, va, vn, vc, rfl, hy, hu, hv⟩ := hf
  obtain ⟨za, zn, zc, ta, tn, tc, qa, qn, qc, rfl, hz, ht, hq⟩ := hm
  clear hy hu hv hz ht hq
  have key : hasB f 0 my = false ∨ (hasB f 0 my = true ∧ sizedB m f.W f.H = false) := by
    cases h1 : hasB f 0 my
    · exact .inl rfl
    · cases h2 : sizedB m f.W f.H
      · exact .inr ⟨rfl, rfl⟩
      · exact absurd ((sr_iff h1).2 h2) hno
  clear hno
  rcases key with h1 | ⟨h1, h2⟩
  · go_enter Try.func40, Try.ntmps40
    go_wp2_with fail
    refine (ref_Has (p := p) _ f _ _ _ (by (repeat with_reducible apply IsFr.alloc); exact hf0)).mono ?_
    rintro e w1 ⟨rfl, hb1⟩
    have B1 : Below w.heap.size w w1 := ((((Below.refl _ w).alloc (by simp) _).alloc (by simp) _).alloc (by simp; omega) _).trans (hb1.mono (by simp; omega))
    have y1 : Bx w1 (w.heap.size + 1 + 1) 24 #[.int .i64 0, .int .i64 0, .slice none 0 0, .slice none 0 0, .slice none 0 0] := (Bx.new' _ _ _ _ (by simp)).ext hb1
    clear hb1
    obtain ⟨c0, c1, c2, c3, c4⟩ := y1.cells5
    have t0 := y1.frozen 0
    have t1 := y1.frozen 1
    have t2 := y1.frozen 2
    have t3 := y1.frozen 3
    have t4 := y1.frozen 4
    have hls := y1.lt
    go_wp2_with fail
    refine bodyPost_ret (v := .tuple #[.agg #[.int .i64 0, .int .i64 0, .slice none 0 0, .slice none 0 0, .slice none 0 0], .int .i64 1]) (by simp only [results, Try.results40]; go_simp) rfl (retFc_zero (B := 1) ?_ rfl)
    repeat (first | (with_reducible exact B1) | (with_reducible refine Below.setCell ?_ (by first | (simp; done) | (simp; omega)) _) | (with_reducible refine Below.alloc ?_ (by first | (simp; done) | (simp; omega)) _) | (with_reducible refine Below.drew ?_))
  · go_enter Try.func40, Try.ntmps40
    go_wp2_with fail
    refine (ref_Has (p := p) _ f _ _ _ (by (repeat with_reducible apply IsFr.alloc); exact hf0)).mono ?_
    rintro e w1 ⟨rfl, hb1⟩
    have B1 : Below w.heap.size w w1 := ((((Below.refl _ w).alloc (by simp) _).alloc (by simp) _).alloc (by simp; omega) _).trans (hb1.mono (by simp; omega))
    have x1 : Bx w1 w.heap.size 24 #[.int .i64 f.W, .int .i64 f.H, .slice ya yn yc, .slice ua un uc, .slice va vn vc] := (((Bx.new w _ _).alloc _).alloc _).ext hb1
    have m1 : Bx w1 (w.heap.size + 1) 24 #[.int .i64 m.W, .int .i64 m.H, .slice za zn zc, .slice ta tn tc, .slice qa qn qc] := ((Bx.new' _ _ _ _ (by simp)).alloc _).ext hb1
    have y1 : Bx w1 (w.heap.size + 1 + 1) 24 #[.int .i64 0, .int .i64 0, .slice none 0 0, .slice none 0 0, .slice none 0 0] := (Bx.new' _ _ _ _ (by simp)).ext hb1
    clear hb1
    obtain ⟨d0, d1, d2, d3, d4⟩ := m1.cells5
    obtain ⟨f0, f1, f2, f3, f4⟩ := x1.cells5
    have lm1 := m1.lt
    have lx1 := x1.lt
    go_wp2_with fail
    clear d0 d1 d2 d3 d4
    refine (ref_Sized _ m f.W f.H _ (hm0.ext B1)).mono ?_
    rintro e w2 ⟨rfl, hb2⟩
    have B2 := B1.trans (hb2.mono B1.size)
    have y2 := y1.ext hb2
    clear hb2
    obtain ⟨c0, c1, c2, c3, c4⟩ := y2.cells5
    have t0 := y2.frozen 0
    have t1 := y2.frozen 1
    have t2 := y2.frozen 2
    have t3 := y2.frozen 3
    have t4 := y2.frozen 4
    have hls := y2.lt
    go_wp2_with fail
    refine bodyPost_ret (v := .tuple #[.agg #[.int .i64 0, .int .i64 0, .slice none 0 0, .slice none 0 0, .slice none 0 0], .int .i64 1]) (by simp only [results, Try.results40]; go_simp) rfl (retFc_zero (B := 1) ?_ rfl)
    repeat (first | (with_reducible exact B2) | (with_reducible refine Below.setCell ?_ (by first | (simp; done) | (simp; omega)) _) | (with_reducible refine Below.alloc ?_ (by first | (simp; done) | (simp; omega)) _) | (with_reducible refine Below.drew ?_))

def setMbF (f m : Fr) (mx my : Int) : Fr × Int := if smOk f m mx my then (smF f m mx.toNat my.toNat, 0) else (zeroFr, 1)
def setRowF (f m : Fr) (my : Int) : Fr × Int := if srOk f m my then (rowF f m my.toNat, 0) else (zeroFr, 1)
theorem plane_SetMacroblock {p p' : Nat → Prop} (v u : Value) (f m : Fr) (mx my : Int) (w : World) (hf : IsFr p w v f) (hm : IsFr p' w u m) (hcm : CapsOK u) : Calls Try.prog 37 #[v, .int .i64 mx, .int .i64 my, u] w (RetFc w (setMbF f m mx my)) := by
  unfold setMbF
  by_cases h : smOk f m mx my
  · rw [if_pos h]
    obtain ⟨h1, h2, h3, h4⟩ := h
    obtain ⟨hv, i, j, rfl, rfl, hi, hj⟩ := has_nats h1
    obtain ⟨a, b, hW, hH, a1, a2, b1, b2, lY, lU, lV⟩ := valid_sizes hv
    exact plane_SetMacroblock_yes v u f m i j a b w hf hm hcm h1 h2 h3 h4 hW a2 (by omega) b2 (by omega) lY lU lV
  · rw [if_neg h]
    exact plane_SetMacroblock_no v u f m mx my w hf hm h
theorem ref_SetMacroblock {p p' : Nat → Prop} (v u : Value) (f m : Fr) (mx my : Int) (w : World) (hf : IsFr p w v f) (hm : IsFr p' w u m) : Calls Try.prog 38 #[v, .int .i64 mx, .int .i64 my, u] w (RetFc w (setMbF f m mx my)) := by
  unfold setMbF
  by_cases h : smOk f m mx my
  · rw [if_pos h]
    obtain ⟨h1, h2, h3, h4⟩ := h
    obtain ⟨hv, i, j, rfl, rfl, hi, hj⟩ := has_nats h1
    obtain ⟨a, b, hW, hH, a1, a2, b1, b2, lY, lU, lV⟩ := valid_sizes hv
    exact ref_SetMacroblock_yes v u f m i j a b w hf hm h1 h2 h3 h4 hW a2 (by omega) b2 (by omega) lY lU lV
  · rw [if_neg h]
    exact ref_SetMacroblock_no v u f m mx my w hf hm h
theorem plane_SetRow {p p' : Nat → Prop} (v u : Value) (f m : Fr) (my : Int) (w : World) (hf : IsFr p w v f) (hm : IsFr p' w u m) (hcm : CapsOK u) : Calls Try.prog 39 #[v, .int .i64 my, u] w (RetFc w (setRowF f m my)) := by
  unfold setRowF
  by_cases h : srOk f m my
  · rw [if_pos h]
    have hs := (sr_iff h.1).1 h
    obtain ⟨h1, h2, h3, h4⟩ := h
    obtain ⟨hv, i, j, hi0, rfl, hi, hj⟩ := has_nats h1
    obtain ⟨a, b, hW, hH, a1, a2, b1, b2, lY, lU, lV⟩ := valid_sizes hv
    obtain ⟨_, _, sY, sU, sV⟩ := row_sizes hs hW hH
    exact plane_SetRow_yes v u f m j a b w hf hm hcm h1 h2 h3 h4 hW a2 a1 hH b2 (by omega) lY lU lV sY sU sV
  · rw [if_neg h]
    exact plane_SetRow_no v u f m my w hf hm h
theorem ref_SetRow {p p' : Nat → Prop} (v u : Value) (f m : Fr) (my : Int) (w : World) (hf : IsFr p w v f) (hm : IsFr p' w u m) : Calls Try.prog 40 #[v, .int .i64 my, u] w (RetFc w (setRowF f m my)) := by
  unfold setRowF
  by_cases h : srOk f m my
  · rw [if_pos h]
    have hs := (sr_iff h.1).1 h
    obtain ⟨h1, h2, h3, h4⟩ := h
    obtain ⟨hv, i, j, hi0, rfl, hi, hj⟩ := has_nats h1
    obtain ⟨a, b, hW, hH, a1, a2, b1, b2, lY, lU, lV⟩ := valid_sizes hv
    exact ref_SetRow_yes v u f m j a b w hf hm h1 hs hW a2 a1 hH b2 (by omega) lY lU lV
  · rw [if_neg h]
    exact ref_SetRow_no v u f m my w hf hm h
end Go.Proofs.Ytcboppldclknjaa
