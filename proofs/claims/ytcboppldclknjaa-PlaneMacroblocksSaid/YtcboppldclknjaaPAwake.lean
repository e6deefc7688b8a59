/- The contract of the sanity check of the laws on package plane. -/
import Derived.Test.YtcboppldclknjaaPFlat
namespace Go.Proofs.Ytcboppldclknjaa
open Go.RowKit

theorem foldl_max_rep (m : Int) (n : Nat) (s : Int) : (List.replicate (n + 1) m).foldl max s = max s m := by
  induction n generalizing s with
  | zero => rfl
  | succ n ih => rw [List.replicate_succ, List.foldl_cons, ih]; omega
theorem distL_rep (n : Nat) (a b : Int) (hn : 0 < n) : distL (List.replicate n a) (List.replicate n b) = max 0 (max (a - b) (b - a)) := by
  obtain ⟨m, rfl⟩ : ∃ m, n = m + 1 := ⟨n - 1, by omega⟩
  unfold distL dl
  rw [List.zipWith_replicate', foldl_max_rep]
theorem dist_flat {x y a b c a' b' c' : Int} (h : sizeB x y = true) : distF (flatF x y a b c) (flatF x y a' b' c') = max (max 0 (max (a - a') (a' - a))) (max (max 0 (max (b - b') (b' - b))) (max 0 (max (c - c') (c' - c)))) := by
  obtain ⟨h1, h2, h3, h4, h5, h6⟩ := sizeB_true h
  have m1 : 0 < x * y := Int.mul_pos (by omega) (by omega)
  have m2 : 0 < x / 2 * (y / 2) := Int.mul_pos (by omega) (by omega)
  unfold distF
  rw [formed_flat h, formed_flat h]
  simp only [flatF, decide_true, Bool.and_self, if_true]
  rw [distL_rep _ _ _ (by omega), distL_rep _ _ _ (by omega), distL_rep _ _ _ (by omega)]
theorem valid_flat16 {a b c : Int} : validB (flatF 16 16 a b c) = true := by
  unfold validB
  rw [formed_flat (by decide)]
  rfl
theorem flatR16 {a b c : Int} : flatR 16 16 a b c = (flatF 16 16 a b c, 0) := by
  unfold flatR
  rw [if_pos (by decide)]

set_option maxHeartbeats 2000000 in
theorem plane_awake (w : World) :
    Calls Try.prog 14 #[] w fun e w' => e = .returned (.bool true) ∧ Below w.heap.size w w' := by
  have hv : validB (flatF 16 16 1 2 3) = true := valid_flat16
  have hd : (distF (flatF 16 16 1 2 3) (flatF 16 16 4 2 1) == 3) = true := by rw [dist_flat (by decide)]; decide
  generalize hF : flatF 16 16 1 2 3 = F at *
  generalize hG : flatF 16 16 4 2 1 = G at *
  have HF := Lib.hid hF
  have HG := Lib.hid hG
  clear hF hG
  go_enter Try.func14, Try.ntmps14
  go_wp2_with fail
  refine (plane_Flat 16 16 1 2 3 _ (by omega) (by omega) (by omega)).mono ?_
  rw [flatR16, HF.out]
  rintro e w1 ⟨v1, rfl, hf1, hb1⟩
  have hf1' := hf1
  obtain ⟨a1, a2, a3, a4, a5, a6, a7, a8, a9, rfl, _, _, _⟩ := hf1
  go_wp2_with fail
  refine (plane_Flat 16 16 4 2 1 _ (by omega) (by omega) (by omega)).mono ?_
  rw [flatR16, HG.out]
  rintro e w2 ⟨v2, rfl, hf2, hb2⟩
  have hf2' := hf2
  obtain ⟨b1, b2, b3, b4, b5, b6, b7, b8, b9, rfl, _, _, _⟩ := hf2
  have x1 := (Bx.new w1 24 #[.int .i64 F.W, .int .i64 F.H, .slice a1 a2 a3, .slice a4 a5 a6, .slice a7 a8 a9]).ext hb2
  obtain ⟨f0, f1, f2, f3, f4⟩ := x1.cells5
  have s1 := x1.lt
  go_wp2_with fail
  refine (plane_Valid _ F _ (IsFr.alloc (IsFr.ext (hf1'.alloc _) hb2) _)).mono ?_
  rintro e w3 ⟨rfl, hb3⟩
  obtain ⟨g0, g1, g2, g3, g4⟩ := ((x1.alloc _).ext hb3).cells5
  obtain ⟨i0, i1, i2, i3, i4⟩ := ((Bx.new w2 24 #[.int .i64 G.W, .int .i64 G.H, .slice b1 b2 b3, .slice b4 b5 b6, .slice b7 b8 b9]).ext hb3).cells5
  go_wp2_with fail
  refine (plane_Distance _ _ F G _ (IsFr.ext (IsFr.alloc (IsFr.ext (hf1'.alloc _) hb2) _) hb3) (IsFr.ext (hf2'.alloc _) hb3)).mono ?_
  rintro e w4 ⟨rfl, hb4⟩
  have t1 := hb1.size
  have t2 := hb2.size
  have t3 := hb3.size
  simp at t2 t3
  go_wp2_with fail
  go_ret
  refine ⟨rfl, ?_⟩
  exact ((((hb1.alloc t1 _).trans (hb2.mono (by simp; omega))).alloc (by omega) _).trans (hb3.mono (by simp; omega))).trans (hb4.mono (by omega))
end Go.Proofs.Ytcboppldclknjaa
