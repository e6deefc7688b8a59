/- SetBlock where its arguments do not fit. -/
import Derived.Test.YtcboppldclknjaaBlkC
import Derived.Test.YtcboppldclknjaaSetM
namespace Go.Proofs.Ytcboppldclknjaa
open Go.RowKit

set_option maxRecDepth 4000 in
set_option maxHeartbeats 2000000 in
theorem plane_SetBlock_no {p : Nat → Prop} (v : Value) (f : Fr) (mx my n : Int) (fd : Bool) (x : List Int) (w : World) (hf : IsFr p w v f) (hno : ¬ blockOk f mx my n) :
    Calls Try.prog 33 #[v, .int .i64 mx, .int .i64 my, .int .i64 n, .bool fd, .agg (rowN .i64 x)] w (RetFc w (zeroFr, 1)) := by
  have hf0 := hf
  obtain ⟨ya, yn, yc, ua, un, uc, va, vn, vc, rfl, hy, hu, hv⟩ := hf
  clear hy hu hv
  have hno' : hasB f mx my = true → n < 0 ∨ 5 < n := by
    intro h
    rcases Int.lt_or_le n 0 with h1 | h1
    · exact .inl h1
    · rcases Int.lt_or_le 5 n with h2 | h2
      · exact .inr h2
      · exact absurd ⟨h, h1, h2⟩ hno
  clear hno
  have hcs : ∃ c : Bool, hasB f mx my = c ∧ (c = true → n < 0 ∨ 5 < n) := ⟨_, rfl, hno'⟩
  clear hno'
  obtain ⟨c, hc, hd⟩ := hcs
  have key : c = false ∨ (c = true ∧ n < 0) ∨ (c = true ∧ 5 < n) := by cases c <;> simp at hd ⊢; exact hd
  clear hd
  rcases key with rfl | ⟨rfl, h2⟩ | ⟨rfl, h2⟩
  all_goals
    go_enter Try.func33, Try.ntmps33
    go_wp2_with fail
    refine (plane_has (p := p) _ f _ _ _ (by (repeat with_reducible apply IsFr.alloc); exact hf0)).mono ?_
    rintro e w1 ⟨rfl, hb1⟩
    have B1 : Below w.heap.size w w1 := ((((Below.refl _ w).alloc (by simp) _).alloc (by simp) _).alloc (by simp; omega) _).trans (hb1.mono (by simp; omega))
    have y1 : Bx w1 (w.heap.size + 1 + 1) 24 #[.int .i64 0, .int .i64 0, .slice none 0 0, .slice none 0 0, .slice none 0 0] := (Bx.new' _ _ _ _ (by simp)).ext hb1
    clear hb1
    obtain ⟨c0, c1, c2, c3, c4⟩ := y1.cells5
    have t0 := y1.frozen 0
    have t1 := y1.frozen 1
    have t2 := y1.frozen 2
    have t3 := y1.frozen 3
    have t4 := y1.frozen 4
    have hls := y1.lt
    go_wp2_with fail
    all_goals (try (exfalso; omega))
    all_goals
      refine bodyPost_ret (v := .tuple #[.agg #[.int .i64 0, .int .i64 0, .slice none 0 0, .slice none 0 0, .slice none 0 0], .int .i64 1]) (by simp only [results, Try.results33]; go_simp) rfl (retFc_zero (B := 1) ?_ rfl)
      repeat (first | (with_reducible exact B1) | (with_reducible refine Below.setCell ?_ (by first | (simp; done) | (simp; omega)) _) | (with_reducible refine Below.alloc ?_ (by first | (simp; done) | (simp; omega)) _) | (with_reducible refine Below.drew ?_))

set_option maxRecDepth 4000 in
set_option maxHeartbeats 2000000 in
theorem ref_SetBlock_no {p : Nat → Prop} (v : Value) (f : Fr) (mx my n : Int) (fd : Bool) (x : List Int) (w : World) (hf : IsFr p w v f) (hno : ¬ blockOk f mx my n) :
    Calls Try.prog 34 #[v, .int .i64 mx, .int .i64 my, .int .i64 n, .bool fd, .agg (rowN .i64 x)] w (RetFc w (zeroFr, 1)) := by
  have hf0 := hf
  obtain ⟨ya, yn, yc, ua, un, uc, va, vn, vc, rfl, hy, hu, hv⟩ := hf
  clear hy hu hv
  have hno' : hasB f mx my = true → n < 0 ∨ 5 < n := by
    intro h
    rcases Int.lt_or_le n 0 with h1 | h1
    · exact .inl h1
    · rcases Int.lt_or_le 5 n with h2 | h2
      · exact .inr h2
      · exact absurd ⟨h, h1, h2⟩ hno
  clear hno
  have hcs : ∃ c : Bool, hasB f mx my = c ∧ (c = true → n < 0 ∨ 5 < n) := ⟨_, rfl, hno'⟩
  clear hno'
  obtain ⟨c, hc, hd⟩ := hcs
  have key : c = false ∨ (c = true ∧ n < 0) ∨ (c = true ∧ 5 < n) := by cases c <;> simp at hd ⊢; exact hd
  clear hd
  rcases key with rfl | ⟨rfl, h2⟩ | ⟨rfl, h2⟩
  all_goals
    go_enter Try.func34, Try.ntmps34
    go_wp2_with fail
    refine (ref_Has (p := p) _ f _ _ _ (by (repeat with_reducible apply IsFr.alloc); exact hf0)).mono ?_
    rintro e w1 ⟨rfl, hb1⟩
    have B1 : Below w.heap.size w w1 := ((((Below.refl _ w).alloc (by simp) _).alloc (by simp) _).alloc (by simp; omega) _).trans (hb1.mono (by simp; omega))
    have y1 : Bx w1 (w.heap.size + 1 + 1) 24 #[.int .i64 0, .int .i64 0, .slice none 0 0, .slice none 0 0, .slice none 0 0] := (Bx.new' _ _ _ _ (by simp)).ext hb1
    clear hb1
    obtain ⟨c0, c1, c2, c3, c4⟩ := y1.cells5
    have t0 := y1.frozen 0
    have t1 := y1.frozen 1
    have t2 := y1.frozen 2
    have t3 := y1.frozen 3
    have t4 := y1.frozen 4
    have hls := y1.lt
    go_wp2_with fail
    all_goals (try (exfalso; omega))
    all_goals
      refine bodyPost_ret (v := .tuple #[.agg #[.int .i64 0, .int .i64 0, .slice none 0 0, .slice none 0 0, .slice none 0 0], .int .i64 1]) (by simp only [results, Try.results34]; go_simp) rfl (retFc_zero (B := 1) ?_ rfl)
      repeat (first | (with_reducible exact B1) | (with_reducible refine Below.setCell ?_ (by first | (simp; done) | (simp; omega)) _) | (with_reducible refine Below.alloc ?_ (by first | (simp; done) | (simp; omega)) _) | (with_reducible refine Below.drew ?_))
end Go.Proofs.Ytcboppldclknjaa
