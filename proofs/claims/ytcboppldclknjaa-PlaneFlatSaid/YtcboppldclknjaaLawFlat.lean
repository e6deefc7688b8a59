/- The law PlaneFlat returns true for every size and value. -/
import Derived.Test.YtcboppldclknjaaPAwake
namespace Go.Proofs.Ytcboppldclknjaa
open Go.RowKit

theorem ref_FlatF (x y a b c : Int) (hx0 : 0 ≤ x) (hx : x ≤ 64) (hy0 : 0 ≤ y) (hy : y ≤ 64) (ha : 0 ≤ a ∧ a ≤ 255) (hb : 0 ≤ b ∧ b ≤ 255) (hc : 0 ≤ c ∧ c ≤ 255) (w : World) :
    Calls Try.prog 22 #[.int .i64 x, .int .i64 y, .int .u8 a, .int .u8 b, .int .u8 c] w fun e w' =>
      ∃ v, e = .returned v ∧ IsFr (w.heap.size ≤ ·) w' v (flatF x y a b c) ∧ Below w.heap.size w w' :=
  (ref_Flat x y a b c hx0 hx hy0 hy w).mono fun _ _ ⟨v, he, ho, hb'⟩ => ⟨v, he, ho.isFr (fun _ h => h) (rep_rng ha) (rep_rng hb) (rep_rng hc), hb'⟩
theorem u8_bd {a : Int} (h : (Lit.int .u8 a).wf = true) : 0 ≤ a ∧ a ≤ 255 := by
  simpa [Lit.wf, IntKind.min, IntKind.max, IntKind.signed, IntKind.bits] using h

set_option maxHeartbeats 4000000 in
theorem law_PlaneFlat (x y a b c : Int) (w : World) (_ : (Lit.int .i64 x).wf = true) (_ : (Lit.int .i64 y).wf = true) (wa : (Lit.int .u8 a).wf = true) (wb : (Lit.int .u8 b).wf = true) (wc : (Lit.int .u8 c).wf = true) :
    Calls Try.prog 4 #[.int .i64 x, .int .i64 y, .int .u8 a, .int .u8 b, .int .u8 c] w fun e w' => e = .returned (.bool true) ∧ Below w.heap.size w w' := by
  have ha := u8_bd wa
  have hb := u8_bd wb
  have hc := u8_bd wc
  clear wa wb wc
  by_cases hs : sizeB x y = true
  · obtain ⟨h1, h2, h3, h4, h5, h6⟩ := sizeB_true hs
    have HR := Lib.hid (show flatR x y a b c = (flatF x y a b c, 0) by unfold flatR; rw [if_pos hs])
    generalize hF : flatF x y a b c = F at *
    have HF := Lib.hid hF
    clear hF
    go_enter Try.func4, Try.ntmps4
    go_wp2_with fail
    refine (plane_Flat x y a b c _ ha hb hc).mono ?_
    rw [HR.out]
    rintro e w1 ⟨v1, rfl, hf1, hb1⟩
    have hf1' := hf1
    obtain ⟨a1, a2, a3, a4, a5, a6, a7, a8, a9, rfl, _, _, _⟩ := hf1
    go_wp2_with fail
    refine (ref_Size x y _).mono ?_
    rintro e w2 ⟨rfl, rfl⟩
    have x1 := Bx.new w1 24 #[.int .i64 F.W, .int .i64 F.H, .slice a1 a2 a3, .slice a4 a5 a6, .slice a7 a8 a9]
    have hfA := hf1'.alloc (.cells #[.int .i64 F.W, .int .i64 F.H, .slice a1 a2 a3, .slice a4 a5 a6, .slice a7 a8 a9] 24)
    have BA := hb1.alloc hb1.size (.cells #[.int .i64 F.W, .int .i64 F.H, .slice a1 a2 a3, .slice a4 a5 a6, .slice a7 a8 a9] 24)
    go_wp2_with fail
    generalize hWA : w1.alloc (.cells #[.int .i64 F.W, .int .i64 F.H, .slice a1 a2 a3, .slice a4 a5 a6, .slice a7 a8 a9] 24) = wA at *
    clear hWA
    obtain ⟨c10, c11, c12, c13, c14⟩ := x1.cells5
    go_region_held3 (fun w' => w'.cell? ⟨w1.heap.size, 0, none⟩ = some (.int .i64 F.W) ∧ w'.cell? ⟨w1.heap.size, 1, none⟩ = some (.int .i64 F.H) ∧ w'.cell? ⟨w1.heap.size, 2, none⟩ = some (.slice a1 a2 a3) ∧ w'.cell? ⟨w1.heap.size, 3, none⟩ = some (.slice a4 a5 a6) ∧ w'.cell? ⟨w1.heap.size, 4, none⟩ = some (.slice a7 a8 a9))
      (go_keep)
      (first
       | (go_at_call 14; ((with_reducible refine (plane_awake _).mono ?_); rintro e w2 ⟨rfl, hb2⟩; have hb2 := undrew hb2; have hf2 := hfA.ext hb2; have x2 := x1.ext hb2; obtain ⟨c20, c21, c22, c23, c24⟩ := x2.cells5))
       | (go_at_call 22; ((with_reducible refine (ref_FlatF x y a b c (by omega) (by omega) (by omega) (by omega) ha hb hc _).mono ?_); rintro e w3 ⟨v3, rfl, hg3, hb3⟩; have hf3 := hf2.ext hb3; have x3 := x2.ext hb3; obtain ⟨c30, c31, c32, c33, c34⟩ := x3.cells5))
       | (go_at_call 21; ((with_reducible refine (ref_Equal _ _ F _ _ hf3 hg3).mono ?_); rintro e w4 ⟨rfl, hb4⟩; have x4 := x3.ext hb4; obtain ⟨c40, c41, c42, c43, c44⟩ := x4.cells5)))
    go_wp2
    go_ret
    have t1 := BA.size
    have t2 := hb2.size
    have t3 := hb3.size
    refine ⟨ret_bool ?_, ((BA.trans (hb2.mono (by omega))).trans (hb3.mono (by omega))).trans (hb4.mono (by omega))⟩
    rw [HF.out]
    exact eqB_self F
  · have hs' : sizeB x y = false := by simpa using hs
    have HR := Lib.hid (show flatR x y a b c = (zeroFr, 1) by unfold flatR; rw [if_neg hs])
    go_enter Try.func4, Try.ntmps4
    go_wp2_with fail
    refine (plane_Flat x y a b c _ ha hb hc).mono ?_
    rw [HR.out]
    rintro e w1 ⟨v1, rfl, hf1, hb1⟩
    obtain ⟨a1, a2, a3, a4, a5, a6, a7, a8, a9, rfl, _, _, _⟩ := hf1
    go_wp2_with fail
    refine (ref_Size x y _).mono ?_
    rintro e w2 ⟨rfl, rfl⟩
    go_wp2_with fail
    refine (plane_awake _).mono ?_
    rintro e w3 ⟨rfl, hb3⟩
    go_wp2_with fail
    go_ret
    exact ⟨rfl, (hb1.alloc hb1.size _).trans (hb3.mono (by have := hb1.size; simp; omega))⟩
end Go.Proofs.Ytcboppldclknjaa
