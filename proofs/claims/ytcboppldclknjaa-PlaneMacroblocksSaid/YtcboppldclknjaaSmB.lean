/- SetMacroblock of the reference, and of both. -/
import Derived.Test.YtcboppldclknjaaSmA
namespace Go.Proofs.Ytcboppldclknjaa
open Go.RowKit

def sizedB (f : Fr) (x y : Int) : Bool := formedB f && decide (f.W = x) && decide (f.H = y)
set_option maxHeartbeats 1000000 in
theorem ref_Sized {p : Nat → Prop} (v : Value) (f : Fr) (x y : Int) (w : World) (h : IsFr p w v f) :
    Calls Try.prog 61 #[v, .int .i64 x, .int .i64 y] w fun e w' => e = .returned (.bool (sizedB f x y)) ∧ Below w.heap.size w w' := by
  have h0 := h
  obtain ⟨ya, yn, yc, ua, un, uc, va, vn, vc, rfl, hy, hu, hv⟩ := h
  clear hy hu hv
  by_cases hs : formedB f = true
  · go_enter Try.func61, Try.ntmps61
    go_wp2_with fail
    refine (ref_Formed (p := p) _ f _ (by (repeat with_reducible apply IsFr.alloc); exact h0)).mono ?_
    rintro e w1 ⟨rfl, hb1⟩
    obtain ⟨c_w1, z_w1⟩ := bcell hb1
    have s_w1 := hb1.size
    try simp at s_w1
    try simp at c_w1
    try simp at z_w1
    have q_w1_0 : w.heap.size < w1.heap.size := by omega
    go_wp2_with fail
    all_goals
      go_ret
      refine ⟨ret_bool ?_, ((Below.refl _ w).alloc (by simp) _).trans (hb1.mono (by simp))⟩
      rw [Bool.eq_iff_iff]
      simp [sizedB, *]
  · have hs' : formedB f = false := by simpa using hs
    go_enter Try.func61, Try.ntmps61
    go_wp2_with fail
    refine (ref_Formed (p := p) _ f _ (by (repeat with_reducible apply IsFr.alloc); exact h0)).mono ?_
    rintro e w1 ⟨rfl, hb1⟩
    go_wp2_with fail
    go_ret
    exact ⟨ret_bool (by simp [sizedB, hs']), ((Below.refl _ w).alloc (by simp) _).trans (hb1.mono (by simp))⟩
theorem sm_paste {f m : Fr} {cw tx ty mx my : Nat} (hc : f.W.toNat = cw) (hx : tx = 16 * mx) (hy : ty = 16 * my) (sY : m.Y.length = 16 * 16) (sU : m.U.length = 8 * 8) (sV : m.V.length = 8 * 8) : pasteFr f m cw tx ty 16 0 0 16 16 = smF f m mx my := by
  subst hc hx hy
  unfold pasteFr smF mbL mbC
  have e1 : 16 * my / 2 = 8 * my := by omega
  have e2 : 16 * mx / 2 = 8 * mx := by omega
  rw [e1, e2]
  simp only [Nat.reduceDiv, Nat.zero_div, Nat.zero_mul, Nat.add_zero]
  rw [cut_whole (by omega) sY, cut_whole (by omega) sU, cut_whole (by omega) sV]

set_option maxHeartbeats 4000000 in
theorem plane_SetMacroblock_no {p p' : Nat → Prop} (v u : Value) (f m : Fr) (mx my : Int) (w : World) (hf : IsFr p w v f) (hm : IsFr p' w u m) (hno : ¬ smOk f m mx my) :
    Calls Try.prog 37 #[v, .int .i64 mx, .int .i64 my, u] w (RetFc w (zeroFr, 1)) := by
  have hf0 := hf
  have hm0 := hm
  obtain ⟨ya, yn, yc, ua, un, uc, va, vn, vc, rfl, hy, hu, hv⟩ := hf
  obtain ⟨za, zn, zc, ta, tn, tc, qa, qn, qc, rfl, hz, ht, hq⟩ := hm
  clear hy hu hv hz ht hq
  have key : hasB f mx my = false ∨ (hasB f mx my = true ∧ formedB m = false) ∨ (hasB f mx my = true ∧ formedB m = true ∧ (m.W != 16) = true) ∨ (hasB f mx my = true ∧ formedB m = true ∧ (m.W != 16) = false ∧ (m.H != 16) = true) := by
    unfold smOk at hno
    cases h1 : hasB f mx my
    · exact .inl rfl
    · cases h2 : formedB m
      · exact .inr (.inl ⟨rfl, rfl⟩)
      · by_cases h3 : m.W = 16
        · refine .inr (.inr (.inr ⟨rfl, rfl, by simpa using h3, ?_⟩))
          simp
          intro h4
          exact hno ⟨h1, h2, h3, h4⟩
        · exact .inr (.inr (.inl ⟨rfl, rfl, by simpa using h3⟩))
  clear hno
  rcases key with h1 | ⟨h1, h2⟩ | ⟨h1, h2, h3⟩ | ⟨h1, h2, h3, h4⟩
  · go_enter Try.func37, Try.ntmps37
    go_wp2_with fail
    refine (plane_has (p := p) _ f _ _ _ (by (repeat with_reducible apply IsFr.alloc); exact hf0)).mono ?_
    rintro e w1 ⟨rfl, hb1⟩
    have B1 : Below w.heap.size w w1 := ((((Below.refl _ w).alloc (by simp) _).alloc (by simp) _).alloc (by simp; omega) _).trans (hb1.mono (by simp; omega))
    have y1 : Bx w1 (w.heap.size + 1 + 1) 24 #[.int .i64 0, .int .i64 0, .slice none 0 0, .slice none 0 0, .slice none 0 0] := (Bx.new' _ _ _ _ (by simp)).ext hb1
    clear hb1
    obtain ⟨c0, c1, c2, c3, c4⟩ := y1.cells5
    have t0 := y1.frozen 0
    have t1 := y1.frozen 1
    have t2 := y1.frozen 2
    have t3 := y1.frozen 3
    have t4 := y1.frozen 4
    have hls := y1.lt
    go_wp2_with fail
    refine bodyPost_ret (v := .tuple #[.agg #[.int .i64 0, .int .i64 0, .slice none 0 0, .slice none 0 0, .slice none 0 0], .int .i64 1]) (by simp only [results, Try.results37]; go_simp) rfl (retFc_zero (B := 1) ?_ rfl)
    repeat (first | (with_reducible exact B1) | (with_reducible refine Below.setCell ?_ (by first | (simp; done) | (simp; omega)) _) | (with_reducible refine Below.alloc ?_ (by first | (simp; done) | (simp; omega)) _) | (with_reducible refine Below.drew ?_))
  all_goals
    go_enter Try.func37, Try.ntmps37
    go_wp2_with fail
    refine (plane_has (p := p) _ f _ _ _ (by (repeat with_reducible apply IsFr.alloc); exact hf0)).mono ?_
    rintro e w1 ⟨rfl, hb1⟩
    have B1 : Below w.heap.size w w1 := ((((Below.refl _ w).alloc (by simp) _).alloc (by simp) _).alloc (by simp; omega) _).trans (hb1.mono (by simp; omega))
    have m1 : Bx w1 (w.heap.size + 1) 24 #[.int .i64 m.W, .int .i64 m.H, .slice za zn zc, .slice ta tn tc, .slice qa qn qc] := ((Bx.new' _ _ _ _ (by simp)).alloc _).ext hb1
    have y1 : Bx w1 (w.heap.size + 1 + 1) 24 #[.int .i64 0, .int .i64 0, .slice none 0 0, .slice none 0 0, .slice none 0 0] := (Bx.new' _ _ _ _ (by simp)).ext hb1
    clear hb1
    obtain ⟨d0, d1, d2, d3, d4⟩ := m1.cells5
    have lm1 := m1.lt
    go_wp2_with fail
    clear d0 d1 d2 d3 d4
    refine (plane_Formed _ m _ (hm0.ext B1)).mono ?_
    rintro e w2 ⟨rfl, hb2⟩
    have B2 := B1.trans (hb2.mono B1.size)
    have m2 := m1.ext hb2
    have y2 := y1.ext hb2
    clear hb2
    obtain ⟨d0, d1, d2, d3, d4⟩ := m2.cells5
    have lm2 := m2.lt
    obtain ⟨c0, c1, c2, c3, c4⟩ := y2.cells5
    have t0 := y2.frozen 0
    have t1 := y2.frozen 1
    have t2 := y2.frozen 2
    have t3 := y2.frozen 3
    have t4 := y2.frozen 4
    have hls := y2.lt
    go_wp2_with fail
    refine bodyPost_ret (v := .tuple #[.agg #[.int .i64 0, .int .i64 0, .slice none 0 0, .slice none 0 0, .slice none 0 0], .int .i64 1]) (by simp only [results, Try.results37]; go_simp) rfl (retFc_zero (B := 1) ?_ rfl)
    repeat (first | (with_reducible exact B2) | (with_reducible refine Below.setCell ?_ (by first | (simp; done) | (simp; omega)) _) | (with_reducible refine Below.alloc ?_ (by first | (simp; done) | (simp; omega)) _) | (with_reducible refine Below.drew ?_))
theorem sized_mb (m : Fr) : (sizedB m 16 16 = true ↔ formedB m = true ∧ m.W = 16 ∧ m.H = 16) := by simp [sizedB, and_assoc]
set_option maxHeartbeats 4000000 in
theorem ref_SetMacroblock_no {p p' : Nat → Prop} (v u : Value) (f m : Fr) (mx my : Int) (w : World) (hf : IsFr p w v f) (hm : IsFr p' w u m) (hno : ¬ smOk f m mx my) :
    Calls Try.prog 38 #[v, .int .i64 mx, .int .i64 my, u] w (RetFc w (zeroFr, 1)) := by
  have hf0 := hf
  have hm0 := hm
  obtain ⟨ya, yn, yc, ua, un, uc, va, vn, vc, rfl, hy, hu, hv⟩ := hf
  obtain ⟨za, zn, zc, ta, tn, tc, qa, qn, qc, rfl, hz, ht, hq⟩ := hm
  clear hy hu hv hz ht hq
  have key : hasB f mx my = false ∨ (hasB f mx my = true ∧ sizedB m 16 16 = false) := by
    cases h1 : hasB f mx my
    · exact .inl rfl
    · cases h2 : sizedB m 16 16
      · exact .inr ⟨rfl, rfl⟩
      · exact absurd ⟨h1, (sized_mb m).1 h2⟩ hno
  clear hno
  rcases key with h1 | ⟨h1, h2⟩
  · go_enter Try.func38, Try.ntmps38
    go_wp2_with fail
    refine (ref_Has (p := p) _ f _ _ _ (by (repeat with_reducible apply IsFr.alloc); exact hf0)).mono ?_
    rintro e w1 ⟨rfl, hb1⟩
    have B1 : Below w.heap.size w w1 := ((((Below.refl _ w).alloc (by simp) _).alloc (by simp) _).alloc (by simp; omega) _).trans (hb1.mono (by simp; omega))
    have y1 : Bx w1 (w.heap.size + 1 + 1) 24 #[.int .i64 0, .int .i64 0, .slice none 0 0, .slice none 0 0, .slice none 0 0] := (Bx.new' _ _ _ _ (by simp)).ext hb1
    clear hb1
    obtain ⟨c0, c1, c2, c3, c4⟩ := y1.cells5
    have t0 := y1.frozen 0
    have t1 := y1.frozen 1
    have t2 := y1.frozen 2
    have t3 := y1.frozen 3
    have t4 := y1.frozen 4
    have hls := y1.lt
    go_wp2_with fail
    refine bodyPost_ret (v := .tuple #[.agg #[.int .i64 0, .int .i64 0, .slice none 0 0, .slice none 0 0, .slice none 0 0], .int .i64 1]) (by simp only [results, Try.results38]; go_simp) rfl (retFc_zero (B := 1) ?_ rfl)
    repeat (first | (with_reducible exact B1) | (with_reducible refine Below.setCell ?_ (by first | (simp; done) | (simp; omega)) _) | (with_reducible refine Below.alloc ?_ (by first | (simp; done) | (simp; omega)) _) | (with_reducible refine Below.drew ?_))
  · go_enter Try.func38, Try.ntmps38
    go_wp2_with fail
    refine (ref_Has (p := p) _ f _ _ _ (by (repeat with_reducible apply IsFr.alloc); exact hf0)).mono ?_
    rintro e w1 ⟨rfl, hb1⟩
    have B1 : Below w.heap.size w w1 := ((((Below.refl _ w).alloc (by simp) _).alloc (by simp) _).alloc (by simp; omega) _).trans (hb1.mono (by simp; omega))
    have m1 : Bx w1 (w.heap.size + 1) 24 #[.int .i64 m.W, .int .i64 m.H, .slice za zn zc, .slice ta tn tc, .slice qa qn qc] := ((Bx.new' _ _ _ _ (by simp)).alloc _).ext hb1
    have y1 : Bx w1 (w.heap.size + 1 + 1) 24 #[.int .i64 0, .int .i64 0, .slice none 0 0, .slice none 0 0, .slice none 0 0] := (Bx.new' _ _ _ _ (by simp)).ext hb1
    clear hb1
    obtain ⟨d0, d1, d2, d3, d4⟩ := m1.cells5
    have lm1 := m1.lt
    go_wp2_with fail
    clear d0 d1 d2 d3 d4
    refine (ref_Sized _ m 16 16 _ (hm0.ext B1)).mono ?_
    rintro e w2 ⟨rfl, hb2⟩
    have B2 := B1.trans (hb2.mono B1.size)
    have y2 := y1.ext hb2
    clear hb2
    obtain ⟨c0, c1, c2, c3, c4⟩ := y2.cells5
    have t0 := y2.frozen 0
    have t1 := y2.frozen 1
    have t2 := y2.frozen 2
    have t3 := y2.frozen 3
    have t4 := y2.frozen 4
    have hls := y2.lt
    go_wp2_with fail
    refine bodyPost_ret (v := .tuple #[.agg #[.int .i64 0, .int .i64 0, .slice none 0 0, .slice none 0 0, .slice none 0 0], .int .i64 1]) (by simp only [results, Try.results38]; go_simp) rfl (retFc_zero (B := 1) ?_ rfl)
    repeat (first | (with_reducible exact B2) | (with_reducible refine Below.setCell ?_ (by first | (simp; done) | (simp; omega)) _) | (with_reducible refine Below.alloc ?_ (by first | (simp; done) | (simp; omega)) _) | (with_reducible refine Below.drew ?_))

end Go.Proofs.Ytcboppldclknjaa
