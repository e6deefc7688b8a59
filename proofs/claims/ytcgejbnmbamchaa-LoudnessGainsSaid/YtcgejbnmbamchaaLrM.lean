/- The reference's fraction in lowest terms. -/
import Derived.Test.YtcgejbnmbamchaaLdO
import Derived.Deep.DrawnRows
import Derived.Test.YtcgejbnmbamchaaOrdFG
namespace Go.Proofs.Ytcgejbnmbamchaa
open Go.RowKit
attribute [local go_sem ↓] Go.wp_at_zero Go.wp_at_succ

theorem r1_mag (x : Nat) (w : World) (hx : x ≤ 9223372036854775807) :
    Calls Try.prog 56 #[.int .i64 (x : Int)] w fun e w' => e = .returned (.int .u64 (x : Int)) ∧ w' = w := by
  have h0 : decide ((x : Int) < 0) = false := decide_eq_false (by omega)
  go_enter Try.func56, Try.ntmps56
  go_wp2_with fail
  go_ret
  exact ⟨rfl, rfl⟩
set_option maxHeartbeats 400000 in
theorem r1_gcd (x y : Nat) (w : World) (hx : x < 18446744073709551616) (hy : y < 18446744073709551616) :
    Calls Try.prog 55 #[.int .u64 x, .int .u64 y] w fun e w' => e = .returned (.int .u64 (Nat.gcd x y : Nat)) ∧ ∃ m, w' = w.drewN m := by
  go_enter Try.func55, Try.ntmps55
  go_wp2
  go_loopw [0, 1] (fun a b wr => GcdRel x y w a b wr) (fun _ b _ => (intOf b).toNat)
  case atStart => exact ⟨x, y, 0, hx, hy, rfl, rfl, rfl, rfl⟩
  case round =>
    obtain ⟨i, j, m, hi, hj, hg, rfl, rfl, rfl⟩ := hrel
    have HG := Lib.hid hg
    clear hg
    by_cases hz : j = 0
    · subst hz
      go_wp2
      go_ret
      refine ⟨ret_u64 ?_, m, rfl⟩
      rw [← HG.out, Nat.gcd_zero_right]
    · have hz1 : ((j : Int) != 0) = true := by simp; exact hz
      have hz2 : ((j : Int) == 0) = false := by simp; exact hz
      go_wp2
      go_quiet (fail)
      go_wp2
      go_roundw
      case rel => exact ⟨j, i % j, _, by omega, by have := Nat.mod_lt i (by omega : j > 0); omega, by rw [← HG.out, Nat.gcd_comm i j, Nat.gcd_rec j i, Nat.gcd_comm], rfl, by simp, World.drewN_drewN _ _ _⟩
      case measure => simp [intOf]; have := Nat.mod_lt i (by omega : j > 0); omega
set_option maxRecDepth 100000 in
set_option maxHeartbeats 1000000 in
theorem r1_made (a b : Nat) (w : World) (ha : a ≤ 9223372036854775807) (hb : b ≤ 9223372036854775807) :
    Calls Try.prog 57 #[.bool false, .int .u64 (a : Int), .int .u64 (b : Int)] w fun e w' => e = .returned (.tuple #[.agg #[.int .i64 (a : Int), .int .i64 (b : Int)], .int .i64 0]) ∧ Below w.heap.size w w' := by
  have h1 : decide (9223372036854775807 < (a : Int)) = false := decide_eq_false (by omega)
  have h2 : decide (9223372036854775807 < (b : Int)) = false := decide_eq_false (by omega)
  have x1 := Bx.new w 38 #[.int .i64 0, .int .i64 0]
  have B1 := (Below.refl w.heap.size w).alloc (Nat.le_refl _) (.cells #[.int .i64 0, .int .i64 0] 38)
  go_enter Try.func57, Try.ntmps57
  go_upto_region 1 with fail
  generalize w.alloc (.cells #[.int .i64 0, .int .i64 0] 38) = W at *
  have c0 := x1.cell 0 rfl
  have c1 := x1.cell 1 rfl
  have f0 := x1.frozen 0
  have f1 := x1.frozen 1
  have l1 := x1.lt
  have BZ := bset (bset B1 ⟨w.heap.size, 0, none⟩ (Nat.le_refl _) (.int .i64 (a : Int))) ⟨w.heap.size, 1, none⟩ (Nat.le_refl _) (.int .i64 (b : Int))
  have HBZ := Lib.hid BZ
  clear BZ B1
  go_wp2_with fail
  refine bodyPost_ret (v := .tuple #[.agg #[.int .i64 (a : Int), .int .i64 (b : Int)], .int .i64 0]) (by simp only [results, Try.results57]; go_simp) rfl ⟨rfl, HBZ.out⟩
/-- What the operations yield. -/
def ofVal (num den g a b : Nat) : Nat → Value
  | 0 => .int .i64 (num : Int)
  | 1 => .bool true
  | 2 => .bool true
  | 3 => .int .i64 (num : Int)
  | 4 => .bool false
  | 5 => .int .i64 (den : Int)
  | 6 => .bool false
  | 7 => .bool false
  | 8 => .bool false
  | 9 => .int .i64 (num : Int)
  | 10 => .int .u64 (num : Int)
  | 11 => .int .u64 (g : Int)
  | 12 => .int .u64 (a : Int)
  | 13 => .int .i64 (den : Int)
  | 14 => .int .u64 (den : Int)
  | 15 => .int .u64 (g : Int)
  | 16 => .int .u64 (b : Int)
  | 17 => .tuple #[.agg #[.int .i64 (a : Int), .int .i64 (b : Int)], .int .i64 0]
  | 18 => .agg #[.int .i64 (a : Int), .int .i64 (b : Int)]
  | 19 => .int .i64 0
  | 20 => undef
  | _ => .int .i64 0
def ofG (w : World) (a b : Nat) (d20 : Bool) (w' : World) : Prop := Below w.heap.size w w' ∧ Bx w' w.heap.size 38 (if d20 = true then #[.int .i64 (a : Int), .int .i64 (b : Int)] else #[.int .i64 0, .int .i64 0])
set_option maxRecDepth 100000 in
set_option maxHeartbeats 4000000 in
theorem r1_Of (num den : Nat) (w : World) (h0 : 0 < num) (h1 : num ≤ 9223372036854775807) (h2 : 0 < den) (h3 : den ≤ 9223372036854775807) :
    Calls Try.prog 48 #[.int .i64 (num : Int), .int .i64 (den : Int)] w fun e w' => e = .returned (.tuple #[.agg #[.int .i64 (lowN num den), .int .i64 (lowD num den)], .int .i64 0]) ∧ Below w.heap.size w w' := by
  have hg : 0 < Nat.gcd num den := Nat.gcd_pos_of_pos_right _ h2
  obtain ⟨g, hgg⟩ : ∃ g, g = Nat.gcd num den := ⟨_, rfl⟩
  obtain ⟨a, ha⟩ : ∃ a, a = num / g := ⟨_, rfl⟩
  obtain ⟨b, hb⟩ : ∃ b, b = den / g := ⟨_, rfl⟩
  have hln : lowN num den = a := by rw [ha, hgg]; rfl
  have hld : lowD num den = b := by rw [hb, hgg]; rfl
  have hab : a ≤ num := by rw [ha]; exact Nat.div_le_self _ _
  have hbb : b ≤ den := by rw [hb]; exact Nat.div_le_self _ _
  rw [← hgg] at hg
  rw [hln, hld]
  have q1 : ((num : Int)) / (g : Int) = (a : Int) := by rw [ha]; exact_mod_cast rfl
  have q2 : ((den : Int)) / (g : Int) = (b : Int) := by rw [hb]; exact_mod_cast rfl
  have hz2 : ((g : Int) == 0) = false := by simp; omega
  have hz3 : ¬ g = 0 := by omega
  have hz4 : ¬ (g : Int) = 0 := by omega
  have hdz : ((den : Int) == 0) = false := by simp; omega
  have hnz : ((num : Int) != 0) = true := by simp; omega
  have hnz2 : ¬ (num : Int) = 0 := by omega
  have hnz3 : ¬ num = 0 := by omega
  have hn0 : decide ((num : Int) < 0) = false := decide_eq_false (by omega)
  have hd0 : decide ((den : Int) < 0) = false := decide_eq_false (by omega)
  have HG := Lib.hid hgg
  have x1 := Bx.new w 38 #[.int .i64 0, .int .i64 0]
  have B1 := (Below.refl w.heap.size w).alloc (Nat.le_refl _) (.cells #[.int .i64 0, .int .i64 0] 38)
  clear ha hb hln hld hgg
  go_enter Try.func48, Try.ntmps48
  go_upto_region 1 with fail
  generalize w.alloc (.cells #[.int .i64 0, .int .i64 0] 38) = W at *
  go_wp2_with fail
  refine (r1_mag num _ (by omega)).mono ?_
  rintro e w1 ⟨rfl, rfl⟩
  go_wp2_with fail
  refine (r1_mag den _ (by omega)).mono ?_
  rintro e w1 ⟨rfl, rfl⟩
  go_wp2_with fail
  refine (r1_gcd num den _ (by omega) (by omega)).mono ?_
  rintro e w3 ⟨rfl, m, rfl⟩
  rw [← HG.out]
  have x1 := x1.drewN m
  have B1 := bdrewN B1 m
  rename_i W0
  generalize World.drewN _ m = W at *
  have HM := Lib.hid (fun w => r1_made a b w (by omega) (by omega))
  have HM1 := Lib.hid (fun w => r1_mag num w (by omega))
  have HM2 := Lib.hid (fun w => r1_mag den w (by omega))
  have ea : IntKind.u64.wrap (a : Int) = (a : Int) := by rw [IntKind.wrap_u64]; omega
  have eb : IntKind.u64.wrap (b : Int) = (b : Int) := by rw [IntKind.wrap_u64]; omega
  go_upto_region 4 with fail
  refine wp_region_fixedG (ofVal num den g a b) (fun D w' => ofG w a b (D 20) w') (by kernel_rfl) (by kernel_rfl) (by kernel_rfl) ?h0 ?hstep ?hend
  case h0 => exact ⟨B1.drew, x1.drew⟩
  case hstep =>
    intro k o ho D ac wx fr hG hcl hDi hpre
    have o0 : ac.tmps[0]?.getD undef = .int .i64 (num : Int) := fr.oldT 0 rfl
    have o1 : ac.tmps[1]?.getD undef = .int .i64 (den : Int) := fr.oldT 1 rfl
    have o4 : ac.tmps[4]?.getD undef = .pointer (some ⟨w.heap.size, 0, none⟩) := fr.oldT 4 rfl
    have o6 : ac.tmps[6]?.getD undef = .int .u64 (g : Int) := fr.oldT 6 rfl
    have hk22 : k < 22 := (List.getElem?_eq_some_iff.1 ho).1
    rcases (show k = 0 ∨ k = 1 ∨ k = 2 ∨ k = 3 ∨ k = 4 ∨ k = 5 ∨ k = 6 ∨ k = 7 ∨ k = 8 ∨ k = 9 ∨ k = 10 ∨ k = 11 ∨ k = 12 ∨ k = 13 ∨ k = 14 ∨ k = 15 ∨ k = 16 ∨ k = 17 ∨ k = 18 ∨ k = 19 ∨ k = 20 ∨ k = 21 by omega) with rfl | rfl | rfl | rfl | rfl | rfl | rfl | rfl | rfl | rfl | rfl | rfl | rfl | rfl | rfl | rfl | rfl | rfl | rfl | rfl | rfl | rfl
    all_goals (simp only [List.getElem?_cons_zero, List.getElem?_cons_succ, Option.some.injEq] at ho; subst ho)
    · refine ⟨rfl, wp_value (w' := wx) ?_ ⟨rfl, hG⟩⟩
      simp [execOp, o0, ofVal, go_sem]
    · have f0 := fr.atT 0 (hpre ⟨0, .data⟩ (by simp) rfl) rfl
      refine ⟨rfl, wp_value (w' := wx) ?_ ⟨rfl, hG⟩⟩
      simp [execOp, f0, ofVal, go_sem, hnz3]
    · have f0 := fr.atT 1 (hpre ⟨1, .data⟩ (by simp) rfl) rfl
      refine ⟨rfl, wp_value (w' := wx) ?_ ⟨rfl, hG⟩⟩
      simp [execOp, f0, ofVal, go_sem]
    · have d2 : D 2 = true := hpre ⟨2, .guard⟩ (by simp) rfl
      refine ⟨(wanted_of (x := true) (want := true) (j := 2) fr rfl d2 rfl rfl).trans rfl, wp_value (w' := wx) ?_ ⟨rfl, hG⟩⟩
      simp [execOp, o0, ofVal, go_sem]
    · have d2 : D 2 = true := hpre ⟨2, .guard⟩ (by simp) rfl
      have f0 := fr.atT 3 (hpre ⟨3, .data⟩ (by simp) rfl) rfl
      refine ⟨(wanted_of (x := true) (want := true) (j := 2) fr rfl d2 rfl rfl).trans rfl, wp_value (w' := wx) ?_ ⟨rfl, hG⟩⟩
      have hnn : ¬ (num : Int) < 0 := by omega
      simp [execOp, f0, ofVal, go_sem, hnn]
    · have d2 : D 2 = true := hpre ⟨2, .guard⟩ (by simp) rfl
      refine ⟨(wanted_of (x := true) (want := true) (j := 2) fr rfl d2 rfl rfl).trans rfl, wp_value (w' := wx) ?_ ⟨rfl, hG⟩⟩
      simp [execOp, o1, ofVal, go_sem]
    · have d2 : D 2 = true := hpre ⟨2, .guard⟩ (by simp) rfl
      have f0 := fr.atT 5 (hpre ⟨5, .data⟩ (by simp) rfl) rfl
      refine ⟨(wanted_of (x := true) (want := true) (j := 2) fr rfl d2 rfl rfl).trans rfl, wp_value (w' := wx) ?_ ⟨rfl, hG⟩⟩
      have hnn : ¬ (den : Int) < 0 := by omega
      simp [execOp, f0, ofVal, go_sem, hnn]
    · have d2 : D 2 = true := hpre ⟨2, .guard⟩ (by simp) rfl
      have f0 := fr.atT 4 (hpre ⟨4, .data⟩ (by simp) rfl) rfl
      have f1 := fr.atT 6 (hpre ⟨6, .data⟩ (by simp) rfl) rfl
      refine ⟨(wanted_of (x := true) (want := true) (j := 2) fr rfl d2 rfl rfl).trans rfl, wp_value (w' := wx) ?_ ⟨rfl, hG⟩⟩
      simp [execOp, f0, f1, ofVal, go_sem]
    · have f0 := fr.atT 2 (hpre ⟨2, .data⟩ (by simp) rfl) rfl
      have f1 := fr.atT 7 (hpre ⟨7, .data⟩ (by simp) rfl) rfl
      refine ⟨rfl, wp_value (w' := wx) ?_ ⟨rfl, hG⟩⟩
      simp [execOp, f0, f1, ofVal, go_sem]
    · refine ⟨rfl, wp_value (w' := wx) ?_ ⟨rfl, hG⟩⟩
      simp [execOp, o0, ofVal, go_sem]
    · have f0 := fr.atT 9 (hpre ⟨9, .data⟩ (by simp) rfl) rfl
      have f0' := fr.at_ 9 (hpre ⟨9, .data⟩ (by simp) rfl) rfl
      refine ⟨rfl, wp_called (f := 56) (args := #[.int .i64 (num : Int)]) ?_ (HM1.out _) ?_⟩
      · simp [execOp, resolve, invoke, f0, f0', ofVal, go_sem]
      · rintro e w' ⟨rfl, rfl⟩
        exact ⟨_, rfl, rfl, hG⟩
    · refine ⟨rfl, wp_value (w' := wx) ?_ ⟨rfl, hG⟩⟩
      simp [execOp, o6, ofVal, go_sem]
    · have f0 := fr.atT 10 (hpre ⟨10, .data⟩ (by simp) rfl) rfl
      have f1 := fr.atT 11 (hpre ⟨11, .data⟩ (by simp) rfl) rfl
      refine ⟨rfl, wp_value (w' := wx) ?_ ⟨rfl, hG⟩⟩
      simp [execOp, f0, f1, ofVal, go_sem, hz3, q1, ea]
    · refine ⟨rfl, wp_value (w' := wx) ?_ ⟨rfl, hG⟩⟩
      simp [execOp, o1, ofVal, go_sem]
    · have f0 := fr.atT 13 (hpre ⟨13, .data⟩ (by simp) rfl) rfl
      have f0' := fr.at_ 13 (hpre ⟨13, .data⟩ (by simp) rfl) rfl
      refine ⟨rfl, wp_called (f := 56) (args := #[.int .i64 (den : Int)]) ?_ (HM2.out _) ?_⟩
      · simp [execOp, resolve, invoke, f0, f0', ofVal, go_sem]
      · rintro e w' ⟨rfl, rfl⟩
        exact ⟨_, rfl, rfl, hG⟩
    · refine ⟨rfl, wp_value (w' := wx) ?_ ⟨rfl, hG⟩⟩
      simp [execOp, o6, ofVal, go_sem]
    · have f0 := fr.atT 14 (hpre ⟨14, .data⟩ (by simp) rfl) rfl
      have f1 := fr.atT 15 (hpre ⟨15, .data⟩ (by simp) rfl) rfl
      refine ⟨rfl, wp_value (w' := wx) ?_ ⟨rfl, hG⟩⟩
      simp [execOp, f0, f1, ofVal, go_sem, hz3, q2, eb]
    · have f0 := fr.atT 8 (hpre ⟨8, .data⟩ (by simp) rfl) rfl
      have f1 := fr.atT 12 (hpre ⟨12, .data⟩ (by simp) rfl) rfl
      have f2 := fr.atT 16 (hpre ⟨16, .data⟩ (by simp) rfl) rfl
      have f0' := fr.at_ 8 (hpre ⟨8, .data⟩ (by simp) rfl) rfl
      have f1' := fr.at_ 12 (hpre ⟨12, .data⟩ (by simp) rfl) rfl
      have f2' := fr.at_ 16 (hpre ⟨16, .data⟩ (by simp) rfl) rfl
      refine ⟨rfl, wp_called (f := 57) (args := #[.bool false, .int .u64 (a : Int), .int .u64 (b : Int)]) ?_ (HM.out _) ?_⟩
      · simp [execOp, resolve, invoke, f0, f1, f2, f0', f1', f2', ofVal, go_sem]
      · rintro e w' ⟨rfl, hb⟩
        exact ⟨_, rfl, rfl, hG.1.trans (hb.mono hG.1.size), hG.2.ext hb⟩
    · have f0 := fr.atT 17 (hpre ⟨17, .data⟩ (by simp) rfl) rfl
      refine ⟨rfl, wp_value (w' := wx) ?_ ⟨rfl, hG⟩⟩
      simp [execOp, f0, ofVal, go_sem]
    · have f0 := fr.atT 17 (hpre ⟨17, .data⟩ (by simp) rfl) rfl
      refine ⟨rfl, wp_value (w' := wx) ?_ ⟨rfl, hG⟩⟩
      simp [execOp, f0, ofVal, go_sem]
    · have f0 := fr.atT 18 (hpre ⟨18, .data⟩ (by simp) rfl) rfl
      rw [hDi] at hG
      have c0 : wx.cell? ⟨w.heap.size, 0, none⟩ = some (.int .i64 0) := hG.2.cell 0 rfl
      have c1 : wx.cell? ⟨w.heap.size, 1, none⟩ = some (.int .i64 0) := hG.2.cell 1 rfl
      have g0 := hG.2.frozen 0
      have g1 := hG.2.frozen 1
      refine ⟨rfl, wp_skipF (w' := (wx.setCell ⟨w.heap.size, 0, none⟩ (.int .i64 (a : Int))).setCell ⟨w.heap.size, 1, none⟩ (.int .i64 (b : Int))) ?_ ⟨rfl, bset (bset hG.1 _ (Nat.le_refl _) _) _ (Nat.le_refl _) _, (hG.2.set_ 0 _).set_ 1 _⟩⟩
      simp [execOp, f0, o4, ofVal, go_sem, c0, c1, g0, g1]
    · have f0 := fr.atT 19 (hpre ⟨19, .data⟩ (by simp) rfl) rfl
      refine ⟨rfl, wp_value (w' := wx) ?_ ⟨rfl, hG⟩⟩
      simp [execOp, f0, ofVal, go_sem]
  case hend =>
    intro D w7 hG hall
    rw [hall 20 (by decide)] at hG
    have HZ := Lib.hid hG
    have c0 : w7.cell? ⟨w.heap.size, 0, none⟩ = some (.int .i64 (a : Int)) := hG.2.cell 0 rfl
    have c1 : w7.cell? ⟨w.heap.size, 1, none⟩ = some (.int .i64 (b : Int)) := hG.2.cell 1 rfl
    simp only [putsU, Act.put, List.setIfInBounds_toArray, List.set_cons_succ, List.set_cons_zero, Nat.zero_add, Nat.reduceAdd, ofVal]
    clear hG
    go_wp2_with fail
    refine bodyPost_ret (v := .tuple #[.agg #[.int .i64 (a : Int), .int .i64 (b : Int)], .int .i64 0]) (by simp only [results, Try.results48]; go_simp) rfl ⟨rfl, HZ.out.1⟩
end Go.Proofs.Ytcgejbnmbamchaa
