/- Plain: the prediction with a whole vector within the picture is the piece that lies there. -/
import Derived.Test.YtaedpadkpclldaaPredictAll
import Derived.Test.YtaedpadkpclldaaMbC
import Derived.Test.YtaedpadkpclldaaAwake
namespace Go.Proofs.Ytaedpadkpclldaa
open Go.RowKit

theorem clampI_in {i n : Int} (h0 : 0 ≤ i) (h1 : i < n) : clampI i n = i := by unfold clampI; omega
theorem four_same (p : Int) : (p + p + p + p + 2) / 4 = p := by omega
/-- A whole vector (2a, 2b) in half samples. -/
theorem predAt_whole {l : List Int} {cols rows x y : Int} {pw k : Nat} {a b vx vy : Int} (hx : vx = 2 * a) (hy : vy = 2 * b) (hi0 : 0 ≤ x + a) (hj0 : 0 ≤ y + b) (hi1 : x + a + ((k % pw : Nat) : Int) < cols) (hj1 : y + b + ((k / pw : Nat) : Int) < rows) :
    predAt l cols rows x y pw vx vy k = l.getD ((y + b + ((k / pw : Nat) : Int)) * cols + (x + a + ((k % pw : Nat) : Int))).toNat 0 := by
  subst hx hy
  obtain ⟨i, hi⟩ : ∃ i : Nat, i = k % pw := ⟨_, rfl⟩
  obtain ⟨j, hj⟩ : ∃ j : Nat, j = k / pw := ⟨_, rfl⟩
  unfold predAt halfS
  rw [← hi] at hi1 ⊢
  rw [← hj] at hj1 ⊢
  clear hi hj
  have e1 : (2 * (x + (i : Int)) + 2 * a) / 2 = x + a + (i : Int) := by omega
  have e2 : (2 * (x + (i : Int)) + 2 * a) % 2 = 0 := by omega
  have e3 : (2 * (y + (j : Int)) + 2 * b) / 2 = y + b + (j : Int) := by omega
  have e4 : (2 * (y + (j : Int)) + 2 * b) % 2 = 0 := by omega
  rw [e1, e2, e3, e4, Int.add_zero, Int.add_zero, four_same]
  unfold pix
  rw [clampI_in (by omega) hi1, clampI_in (by omega) hj1]
theorem predL_whole {l : List Int} {cols rows x y a b vx vy : Int} {pw ph st fx fy : Nat} (hx : vx = 2 * a) (hy : vy = 2 * b) (hfx : x + a = fx) (hfy : y + b = fy) (hst : cols = st) (h1 : fx + pw ≤ st) (h2 : (fy : Int) + ph ≤ rows) :
    predL l cols rows x y pw ph vx vy = cutL l (fy * st + fx) st pw ph := by
  subst hst
  unfold predL cutL
  refine List.map_congr_left fun k hk => ?_
  have hk := List.mem_range.1 hk
  have hpw : 0 < pw := by
    rcases Nat.eq_zero_or_pos pw with h | h
    · subst h; simp at hk
    · exact h
  have hm := Nat.mod_lt k hpw
  have hd : k / pw < ph := Nat.div_lt_of_lt_mul (by rw [Nat.mul_comm]; exact hk)
  rw [predAt_whole hx hy (by omega) (by omega) (by omega) (by omega)]
  unfold cutAt
  congr 1
  rw [hfx, hfy]
  have e : ((fy : Int) + ((k / pw : Nat) : Int)) * (st : Int) + ((fx : Int) + ((k % pw : Nat) : Int)) = ((fy * st + fx + k / pw * st + k % pw : Nat) : Int) := by
    push_cast
    rw [Int.add_mul]
    omega
  rw [e, Int.toNat_natCast]
/-- The piece of 16 by 16 at (fx, fy). -/
def pieceF (f : Fr) (fx fy : Nat) : Fr := ⟨16, 16, cutL f.Y (fy * f.W.toNat + fx) f.W.toNat 16 16, cutL f.U (fy / 2 * (f.W.toNat / 2) + fx / 2) (f.W.toNat / 2) 8 8, cutL f.V (fy / 2 * (f.W.toNat / 2) + fx / 2) (f.W.toNat / 2) 8 8⟩
theorem piece_paste {f : Fr} {N M cw fx fy : Nat} (hN : N = 256) (hM : M = 64) (hc : f.W.toNat = cw) : pasteFr (blankF N M) f 16 0 0 cw fx fy 16 16 = pieceF f fx fy := by
  subst hN hM hc
  unfold pasteFr pieceF blankF
  dsimp only
  simp only [Nat.reduceDiv, Nat.zero_div, Nat.zero_mul, Nat.add_zero]
  rw [paste_whole (cutL_len _ _ _ _ _) (by rw [List.length_replicate]), paste_whole (cutL_len _ _ _ _ _) (by rw [List.length_replicate]), paste_whole (cutL_len _ _ _ _ _) (by rw [List.length_replicate])]
theorem tdiv2_even (d : Int) : (4 * d).tdiv 2 = 2 * d := by
  rw [show 4 * d = 2 * (2 * d) by omega, Int.mul_tdiv_cancel_left _ (by omega)]
/-- The prediction of macroblock (mx, my) with the vector (4 dx, 4 dy). -/
theorem predF_whole {f : Fr} {mx my fx fy : Nat} {dx dy : Int} (hf : formedB f = true) (hx : 16 * (mx : Int) + 2 * dx = fx) (hy : 16 * (my : Int) + 2 * dy = fy) (h1 : (fx : Int) + 16 ≤ f.W) (h2 : (fy : Int) + 16 ≤ f.H)
    (h3 : 16 * (mx : Int) + 16 ≤ f.W) (h4 : 16 * (my : Int) + 16 ≤ f.H) (d1 : -15 ≤ dx ∧ dx ≤ 15) (d2 : -15 ≤ dy ∧ dy ≤ 15) :
    predF f (16 * mx) (16 * my) 16 16 (4 * dx) (4 * dy) = (pieceF f fx fy, 0) := by
  have hW : f.W = ((f.W.toNat : Nat) : Int) := by omega
  have hWe : f.W % 2 = 0 ∧ f.H % 2 = 0 := by
    have h := hf
    simp only [formedB, sizeB, Bool.and_eq_true, decide_eq_true_eq] at h
    omega
  have hok : predOk f (16 * mx) (16 * my) 16 16 := ⟨hf, rfl, .inr rfl, by omega, by omega, by omega, by omega, by omega, by omega⟩
  have hm : mayB (4 * dx) (4 * dy) = true := by simp only [mayB, decide_eq_true_eq]; omega
  unfold predF
  rw [if_pos hok, if_pos hm]
  unfold predFr pieceF
  rw [tdiv2_even, tdiv2_even]
  have eY := predL_whole (l := f.Y) (cols := f.W) (rows := f.H) (x := 16 * mx) (y := 16 * my) (a := 2 * dx) (b := 2 * dy) (vx := 4 * dx) (vy := 4 * dy) (pw := 16) (ph := 16) (st := f.W.toNat) (fx := fx) (fy := fy) (by omega) (by omega) hx hy hW (by omega) (by omega)
  have eC : ∀ l : List Int, predL l (f.W / 2) (f.H / 2) (16 * (mx : Int) / 2) (16 * (my : Int) / 2) 8 8 (2 * dx) (2 * dy) = cutL l (fy / 2 * (f.W.toNat / 2) + fx / 2) (f.W.toNat / 2) 8 8 := fun l =>
    predL_whole (a := dx) (b := dy) (by omega) (by omega) (by omega) (by omega) (by omega) (by omega) (by omega)
  have e16 : (16 : Int).toNat = 16 := rfl
  rw [e16, eY, eC, eC]
end Go.Proofs.Ytaedpadkpclldaa
namespace Go.Proofs.Ytaedpadkpclldaa
open Go.RowKit

set_option maxRecDepth 100000 in
set_option maxHeartbeats 2000000 in
/-- The reference does not serve, or the macroblock is not in it. -/
theorem law_Still_no {p : Nat → Prop} (v : Value) (f : Fr) (x y dx dy : Int) (w : World) (hf : IsFr p w v f)
    (h : ¬ (lightB f = true ∧ validB f = true ∧ 0 ≤ x ∧ 0 ≤ y ∧ x ≤ 3 ∧ y ≤ 3 ∧ 16 * x + 16 ≤ f.W ∧ 16 * y + 16 ≤ f.H)) :
    Calls Try.prog 5 #[v, .int .i64 x, .int .i64 y, .int .i64 dx, .int .i64 dy] w fun e w' => e = .returned (.bool true) ∧ Below w.heap.size w w' := by
  have hf0 := hf
  obtain ⟨ya, yn, yc, ua, un, uc, va, vn, vc, rfl, hy, hu, hv⟩ := hf
  clear hy hu hv
  have HF := Lib.hid hf0
  clear hf0
  go_enter Try.func5, Try.ntmps5
  go_wp2_with fail
  refine (law_light (p := p) _ f _ (by (repeat with_reducible apply IsFr.alloc); exact HF.out)).mono ?_
  rintro e w1 ⟨rfl, hb1⟩
  have B1 : Below w.heap.size w w1 := ((Below.refl _ w).alloc (by simp) _).trans (hb1.mono (by simp))
  have f1 := HF.out.ext B1
  cases h1 : lightB f with
  | false =>
    clear h h1
    go_wp2_with fail
    all_goals
      refine (law_awake _).mono ?_
      rintro e w5 ⟨rfl, hb5⟩
      go_wp2_with fail
      go_ret
      exact ⟨rfl, B1.trans (hb5.mono B1.size)⟩
  | true =>
    have H := Lib.hid h
    have H1 := Lib.hid h1
    clear h h1
    have x1 : Bx w1 w.heap.size 24 #[.int .i64 f.W, .int .i64 f.H, .slice ya yn yc, .slice ua un uc, .slice va vn vc] := (Bx.new w _ _).ext hb1
    obtain ⟨g0, g1, g2, g3, g4⟩ := x1.cells5
    have lx1 := x1.lt
    go_wp2_with fail
    refine (ref_Valid (p := p) _ f _ f1).mono ?_
    rintro e w2 ⟨rfl, hb2⟩
    have B2 := B1.trans (hb2.mono B1.size)
    have f2 := HF.out.ext B2
    have x2 := x1.ext hb2
    clear g0 g1 g2 g3 g4
    obtain ⟨g0, g1, g2, g3, g4⟩ := x2.cells5
    have lx2 := x2.lt
    cases h2 : validB f with
    | false =>
      clear h2
      go_wp2_with fail
      all_goals
        refine (law_awake _).mono ?_
        rintro e w5 ⟨rfl, hb5⟩
        go_wp2_with fail
        go_ret
        exact ⟨rfl, B2.trans (hb5.mono B2.size)⟩
    | true =>
      have H2 := Lib.hid h2
      clear h2
      have hn : ¬ (0 ≤ x ∧ 0 ≤ y ∧ x ≤ 3 ∧ y ≤ 3 ∧ 16 * x + 16 ≤ f.W ∧ 16 * y + 16 ≤ f.H) := fun h => H.out ⟨H1.out, H2.out, h⟩
      have hsz : f.W ≤ 64 ∧ f.H ≤ 64 ∧ 2 ≤ f.W ∧ 2 ≤ f.H := by
        have h := H2.out
        simp only [validB, formedB, sizeB, Bool.and_eq_true, decide_eq_true_eq] at h
        omega
      obtain ⟨w1', w2', w3', w4'⟩ := hsz
      by_cases c1 : x < 0
      · go_wp2_with fail
        all_goals
          refine (law_awake _).mono ?_
          rintro e w5 ⟨rfl, hb5⟩
          go_wp2_with fail
          go_ret
          exact ⟨rfl, B2.trans (hb5.mono B2.size)⟩
      by_cases c2 : y < 0
      · go_wp2_with fail
        all_goals
          refine (law_awake _).mono ?_
          rintro e w5 ⟨rfl, hb5⟩
          go_wp2_with fail
          go_ret
          exact ⟨rfl, B2.trans (hb5.mono B2.size)⟩
      by_cases c3 : 3 < x
      · go_wp2_with fail
        all_goals
          refine (law_awake _).mono ?_
          rintro e w5 ⟨rfl, hb5⟩
          go_wp2_with fail
          go_ret
          exact ⟨rfl, B2.trans (hb5.mono B2.size)⟩
      by_cases c4 : 3 < y
      · go_wp2_with fail
        all_goals
          refine (law_awake _).mono ?_
          rintro e w5 ⟨rfl, hb5⟩
          go_wp2_with fail
          go_ret
          exact ⟨rfl, B2.trans (hb5.mono B2.size)⟩
      by_cases c5 : f.W < 16 * x + 16
      · go_wp2_with fail
        all_goals
          refine (law_awake _).mono ?_
          rintro e w5 ⟨rfl, hb5⟩
          go_wp2_with fail
          go_ret
          exact ⟨rfl, B2.trans (hb5.mono B2.size)⟩
      have c6 : f.H < 16 * y + 16 := by omega
      go_wp2_with fail
      all_goals
        refine (law_awake _).mono ?_
        rintro e w5 ⟨rfl, hb5⟩
        go_wp2_with fail
        go_ret
        exact ⟨rfl, B2.trans (hb5.mono B2.size)⟩
end Go.Proofs.Ytaedpadkpclldaa
