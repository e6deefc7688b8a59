/- The law PlaneBlocks returns true for every frame and place. -/
import Derived.Test.YtcboppldclknjaaBlkE
import Derived.Test.YtcboppldclknjaaPAwake
import Derived.Laws.StructEq
namespace Go.Proofs.Ytcboppldclknjaa
open Go.RowKit

theorem eql64 (w : World) (l : List Int) (hl : l.length = 64) : (binOp .eql 41 (.agg (rowN .i64 l)) (.agg (rowN .i64 l))).run Try.prog w = .ok (.bool true) w := by
  have hsz : ∀ w, (sizeOf 3).run Try.prog w = .ok 1 w := fun _ => by kernel_rfl
  have he := Try.underlying3
  have e1 : (Op.equalIn 10000 41 (.agg (rowN .i64 l)) (.agg (rowN .i64 l))).run Try.prog w = .ok true w := by
    rw [Op.equalIn]
    simp only [Sem.run_bind, run_underlying Try.underlying41, Result.andThen_ok, hsz, Std.Legacy.Range.forIn_eq_forIn_range', Std.Legacy.Range.size, Nat.sub_zero, Nat.add_sub_cancel, Nat.div_one]
    have hr : ∀ i ∈ List.range' 0 64 1, i < 64 := fun i hi => by simpa using (List.mem_range'_1.1 hi).2
    generalize List.range' 0 64 1 = r at hr ⊢
    induction r with
    | nil => simp
    | cons i r ih =>
      have hi : i < 64 := hr i (by simp)
      have px : (part 3 (rowN .i64 l) (i * 1)).run Try.prog w = .ok (.int .i64 (l.getD i 0)) w := by
        simp [part, isAgg, run_underlying he, rowN, List.getD, List.getElem?_eq_getElem (show i < l.length by omega)]
      have pe : (Op.equalIn 9999 3 (.int .i64 (l.getD i 0)) (.int .i64 (l.getD i 0))).run Try.prog w = .ok true w := by
        rw [run_equalIn_int w 9998 3 .i64 .i64 _ _ he]
        simp
      simp only [List.forIn_cons, Sem.run_bind, px, pe, Result.andThen_ok]
      simp only [Bool.not_true, Bool.false_eq_true, if_false, Sem.run_pure, Result.andThen_ok]
      exact ih fun j hj => hr j (by simp [hj])
  rw [run_eql_struct, e1]
  rfl
theorem blockF_pair (f : Fr) (mx my n : Int) (fd : Bool) : ∃ l e, blockF f mx my n fd = (l, e) ∧ l.length = 64 := ⟨_, _, rfl, blockF_len f mx my n fd⟩

set_option maxRecDepth 4000 in
set_option maxHeartbeats 4000000 in
theorem law_PlaneBlocks {p : Nat → Prop} (v : Value) (f : Fr) (x y n : Int) (fd : Bool) (w : World) (hf : IsFr p w v f) (hc : CapsOK v) :
    Calls Try.prog 9 #[v, .agg #[.int .i64 x, .int .i64 y, .int .i64 n, .bool fd]] w fun e w' => e = .returned (.bool true) ∧ Below w.heap.size w w' := by
  have hf0 := hf
  obtain ⟨ya, yn, yc, ua, un, uc, va, vn, vc, rfl, hy, hu, hv⟩ := hf
  clear hy hu hv
  have BB : Below w.heap.size w w := Below.refl _ w
  by_cases hl : lightB f = true
  · obtain ⟨l, er, hR, hlen⟩ := blockF_pair f x y n fd
    have HR := Lib.hid hR
    have HLE := Lib.hid hlen
    clear hR hlen
    go_enter Try.func9, Try.ntmps9
    go_wp2_with fail
    refine (law_light _ f _ (by (repeat with_reducible apply IsFr.alloc); exact hf0)).mono ?_
    rintro e w1 ⟨rfl, hb1⟩
    have B1 : Below w.heap.size w w1 := (((Below.refl _ w).alloc (by simp) _).alloc (by simp) _).trans (hb1.mono (by simp; omega))
    have x1 : Bx w1 w.heap.size 24 #[.int .i64 f.W, .int .i64 f.H, .slice ya yn yc, .slice ua un uc, .slice va vn vc] := ((Bx.new w _ _).alloc _).ext hb1
    have y1 : Bx w1 (w.heap.size + 1) 40 #[.int .i64 x, .int .i64 y, .int .i64 n, .bool fd] := (Bx.new' _ _ _ _ (by simp)).ext hb1
    clear hb1
    obtain ⟨c0, c1, c2, c3, c4⟩ := x1.cells5
    have d0 := y1.cell 0 rfl
    have d1 := y1.cell 1 rfl
    have d2 := y1.cell 2 rfl
    have d3 := y1.cell 3 rfl
    have l1 := y1.lt
    have l0 := x1.lt
    go_wp2_with fail
    clear c0 c1 c2 c3 c4 d0 d1 d2 d3
    refine (plane_Block _ f x y n fd _ (hf0.ext B1) hc).mono ?_
    rw [HR.out]
    rintro e w2 ⟨rfl, hb2⟩
    have B2 := B1.trans (hb2.mono B1.size)
    have x2 := x1.ext hb2
    have y2 := y1.ext hb2
    clear hb2 x1 y1
    go_upto_region 4 with (refine wpList_st64new rfl (.tmp 5) (.tmp 23) rfl l rfl rfl rfl HLE.out ?_; intro w3 k3 hb3)
    have B3 := B2.trans (hb3.mono B2.size)
    have x3 := x2.ext hb3
    have y3 := y2.ext hb3
    have hg := x2.lt
    have hg' := y2.lt
    clear hb3 x2 y2
    generalize w2.heap.size = g5 at *
    obtain ⟨c0, c1, c2, c3, c4⟩ := x3.cells5
    have d0 := y3.cell 0 rfl
    have d1 := y3.cell 1 rfl
    have d2 := y3.cell 2 rfl
    have d3 := y3.cell 3 rfl
    have l12 := y3.lt
    have l02 := x3.lt
    go_wp2_with fail
    clear c0 c1 c2 c3 c4 d0 d1 d2 d3
    refine (ref_Block _ f x y n fd _ (hf0.ext B3) hc).mono ?_
    rw [HR.out]
    rintro e w4 ⟨rfl, hb4⟩
    have B4 := B3.trans (hb4.mono B3.size)
    have k4 := k3.ext hb4
    clear hb4 k3 x3 y3
    go_upto_region 5 with (refine wpList_st64new rfl (.tmp 7) (.tmp 36) rfl l rfl rfl rfl HLE.out ?_; intro w5 k5 hb5)
    have B5 := B4.trans (hb5.mono B4.size)
    have k5' := k4.ext hb5
    clear hb5 k4
    generalize w4.heap.size = g7 at *
    go_wp2_with fail
    refine (plane_awake _).mono ?_
    rintro e w6 ⟨rfl, hb6⟩
    have B6 := B5.trans (hb6.mono B5.size)
    have k6 := k5.ext hb6
    have k6' := k5'.ext hb6
    clear hb6 k5 k5'
    have heq := fun w => eql64 w l HLE.out
    have ger : (er == er) = true := by simp
    go_wp2_with (first | (refine wpList_ld64g (by first | rfl | (simp [Region.wanted, yielded]; done)) (.tmp 5) rfl g5 rfl k6' HLE.out ?_) | (refine wpList_ld64g (by first | rfl | (simp [Region.wanted, yielded]; done)) (.tmp 7) rfl g7 rfl k6 HLE.out ?_))
    go_ret
    exact ⟨rfl, B6⟩
  · have hl' : lightB f = false := by simpa using hl
    go_enter Try.func9, Try.ntmps9
    go_wp2_with fail
    refine (law_light _ f _ (by (repeat with_reducible apply IsFr.alloc); exact hf0)).mono ?_
    rintro e w1 ⟨rfl, hb1⟩
    have B1 : Below w.heap.size w w1 := (((Below.refl _ w).alloc (by simp) _).alloc (by simp) _).trans (hb1.mono (by simp; omega))
    go_wp2_with fail
    go_ret
    exact ⟨rfl, B1⟩
end Go.Proofs.Ytcboppldclknjaa
