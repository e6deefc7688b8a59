/- The law PlaneSets returns true for every frame, place and numbers. -/
import Derived.Test.YtcboppldclknjaaSetC
import Derived.Test.YtcboppldclknjaaPAwake
import Derived.Test.YtcboppldclknjaaIts
namespace Go.Proofs.Ytcboppldclknjaa
open Go.RowKit

def setF (f : Fr) (mx my n : Int) (fd : Bool) (x : List Int) : Fr × Int := if blockOk f mx my n then (setBlkF f mx.toNat my.toNat n.toNat fd x, 0) else (zeroFr, 1)

theorem plane_SetBlock {p : Nat → Prop} (v : Value) (f : Fr) (mx my n : Int) (fd : Bool) (x : List Int) (w : World) (hf : IsFr p w v f) (hx : x.length = 64) :
    Calls Try.prog 33 #[v, .int .i64 mx, .int .i64 my, .int .i64 n, .bool fd, .agg (rowN .i64 x)] w (RetFc w (setF f mx my n fd x)) := by
  unfold setF
  by_cases h : blockOk f mx my n
  · rw [if_pos h]
    obtain ⟨h1, h2, h3⟩ := h
    obtain ⟨hv, i, j, rfl, rfl, hi, hj⟩ := has_nats h1
    obtain ⟨k, rfl⟩ : ∃ k : Nat, n = (k : Int) := ⟨n.toNat, by omega⟩
    obtain ⟨a, b, hW, hH, a1, a2, b1, b2, lY, lU, lV⟩ := valid_sizes hv
    exact plane_SetBlock_yes v f i j k a b fd x w hf hx h1 (by omega) hW a2 (by omega) b2 (by omega) lY lU lV
  · rw [if_neg h]
    exact plane_SetBlock_no v f mx my n fd x w hf h

theorem ref_SetBlock {p : Nat → Prop} (v : Value) (f : Fr) (mx my n : Int) (fd : Bool) (x : List Int) (w : World) (hf : IsFr p w v f) (hx : x.length = 64) :
    Calls Try.prog 34 #[v, .int .i64 mx, .int .i64 my, .int .i64 n, .bool fd, .agg (rowN .i64 x)] w (RetFc w (setF f mx my n fd x)) := by
  unfold setF
  by_cases h : blockOk f mx my n
  · rw [if_pos h]
    obtain ⟨h1, h2, h3⟩ := h
    obtain ⟨hv, i, j, rfl, rfl, hi, hj⟩ := has_nats h1
    obtain ⟨k, rfl⟩ : ∃ k : Nat, n = (k : Int) := ⟨n.toNat, by omega⟩
    obtain ⟨a, b, hW, hH, a1, a2, b1, b2, lY, lU, lV⟩ := valid_sizes hv
    exact ref_SetBlock_yes v f i j k a b fd x w hf hx h1 (by omega) hW a2 (by omega) b2 (by omega) lY lU lV
  · rw [if_neg h]
    exact ref_SetBlock_no v f mx my n fd x w hf h
theorem light_le {f : Fr} (h : lightB f = true) : f.Y.length ≤ 5000 ∧ f.U.length ≤ 2000 ∧ f.V.length ≤ 2000 := by simpa [lightB] using h

set_option maxRecDepth 8000 in
set_option maxHeartbeats 8000000 in
theorem law_PlaneSets {p : Nat → Prop} (v : Value) (f : Fr) (x y n : Int) (fd : Bool) (A : Option Addr) (m c : Nat) (l : List Int) (w : World) (hf : IsFr p w v f) (hl : Its .i64 p w A m l) (hm : m ≤ maxLen) :
    Calls Try.prog 10 #[v, .agg #[.int .i64 x, .int .i64 y, .int .i64 n, .bool fd], .slice A m c] w fun e w' => e = .returned (.bool true) ∧ Below w.heap.size w w' := by
  have hf0 := hf
  unfold maxLen at hm
  obtain ⟨a1, a2, a3, a4, a5, a6, a7, a8, a9, rfl, hy, hu, hv⟩ := hf
  clear hy hu hv
  have hlw := hl.mono (q := (· < w.heap.size)) (fun _ h _ => h)
  clear hl
  by_cases hlt : lightB f = true
  · obtain ⟨bY, bU, bV⟩ := light_le hlt
    go_enter Try.func10, Try.ntmps10
    go_wp2_with fail
    refine (law_light _ f _ (by (repeat with_reducible apply IsFr.alloc); exact hf0)).mono ?_
    rintro e w1 ⟨rfl, hb1⟩
    have B1 : Below w.heap.size w w1 := (((Below.refl _ w).alloc (by simp) _).alloc (by simp) _).trans (hb1.mono (by simp; omega))
    have x1 : Bx w1 w.heap.size 24 #[.int .i64 f.W, .int .i64 f.H, .slice a1 a2 a3, .slice a4 a5 a6, .slice a7 a8 a9] := ((Bx.new w _ _).alloc _).ext hb1
    have y1 : Bx w1 (w.heap.size + 1) 40 #[.int .i64 x, .int .i64 y, .int .i64 n, .bool fd] := (Bx.new' _ _ _ _ (by simp)).ext hb1
    clear hb1
    have ly := y1.lt
    go_wp2_with fail
    change Code.wp _ _ _ _ (w1.alloc (.cells (rowN .i64 zeros64) 41))
    have xA := x1.alloc (.cells (rowN .i64 zeros64) 41)
    have yA := y1.alloc (.cells (rowN .i64 zeros64) 41)
    have kA := Bn.new' w1 .i64 41 zeros64 w1.heap.size rfl
    have BA := B1.alloc B1.size (.cells (rowN .i64 zeros64) 41)
    generalize w1.alloc (.cells (rowN .i64 zeros64) 41) = wA at *
    generalize w1.heap.size = g at *
    clear x1 y1 B1
    clear w1
    go_loopw [8] (fun i wr => ∃ (j : Nat) (xs : List Int), j ≤ 64 ∧ i = .int .i64 j ∧ Below w.heap.size w wr ∧ Bx wr w.heap.size 24 #[.int .i64 f.W, .int .i64 f.H, .slice a1 a2 a3, .slice a4 a5 a6, .slice a7 a8 a9] ∧ Bx wr (w.heap.size + 1) 40 #[.int .i64 x, .int .i64 y, .int .i64 n, .bool fd] ∧ Bn .i64 wr 41 g xs ∧ xs.length = 64) (fun i _ => 64 - (intOf i).toNat)
    case atStart => exact ⟨0, _, Nat.zero_le _, rfl, BA, xA, yA, kA, rfl⟩
    case round =>
      clear BA xA yA kA
      obtain ⟨j, xs, hj, rfl, BA, xA, yA, kA, hxs⟩ := hrel
      have HXS := Lib.hid hxs
      clear hxs
      have hlr := hlw.ext BA
      by_cases hr : j < 64 ∧ j < m
      · obtain ⟨h1, h2⟩ := hr
        obtain ⟨b, off, z, rfl, hpb, hbl, hz, hcz⟩ := hlr.at_ h2
        obtain ⟨z', hz', hcz'⟩ := kA.cell_some (i := j) (by rw [HXS.out]; exact h1)
        have hfz := kA.frozen j
        have hgl := kA.lt
        clear hz hz'
        have h1' : (j : Int) < 64 := by omega
        have h2' : (j : Int) < (m : Int) := by omega
        go_wp2_with fail
        go_roundw
        case rel => exact ⟨j + 1, xs.set j z, by omega, by go_num, BA.setCell (by simp; omega) _, xA.far (by simp; omega) _, yA.far (by simp; omega) _, kA.set_ j z, by rw [List.length_set]; exact HXS.out⟩
        case measure => simp [intOf]; omega
      · clear hlw hlr
        have hh : ((j : Int) < 64 ∧ ¬ (j : Int) < (m : Int)) ∨ ¬ (j : Int) < 64 := by omega
        clear hr
        obtain ⟨R, er, hR⟩ : ∃ R er, setF f x y n fd xs = (R, er) := ⟨_, _, rfl⟩
        have HR := Lib.hid hR
        clear hR
        have ger : (er == er) = true := by simp
        have gR : eqB R R = true := eqB_self R
        have gf : eqB f f = true := eqB_self f
        rcases hh with ⟨h1, h2⟩ | h1
        all_goals
          have hfA := hf0.ext BA
          obtain ⟨xA0, xA1, xA2, xA3, xA4⟩ := xA.cells5
          have xAl := xA.lt
          have yA0 := yA.cell 0 rfl
          have yA1 := yA.cell 1 rfl
          have yA2 := yA.cell 2 rfl
          have yA3 := yA.cell 3 rfl
          have yAl := yA.lt
          go_wp2_with fail
          clear xA0 xA1 xA2 xA3 xA4 xAl
          clear yA0 yA1 yA2 yA3 yAl
          refine (ref_Copy _ f _ hfA (by omega) (by omega) (by omega)).mono ?_
          rintro e w2 ⟨v2, rfl, hc2, hf2, _, hb2⟩
          replace xA := xA.ext hb2
          replace yA := yA.ext hb2
          replace kA := kA.ext hb2
          replace hfA := hfA.ext hb2
          replace BA := BA.trans (hb2.mono BA.size)
          clear hb2
          have hf20 := hf2
          obtain ⟨b1, b2, b3, b4, b5, b6, b7, b8, b9, rfl, _, _, _⟩ := hf20
          obtain ⟨xA0, xA1, xA2, xA3, xA4⟩ := xA.cells5
          have xAl := xA.lt
          have yA0 := yA.cell 0 rfl
          have yA1 := yA.cell 1 rfl
          have yA2 := yA.cell 2 rfl
          have yA3 := yA.cell 3 rfl
          have yAl := yA.lt
          go_upto_region 9 with fail
          clear xA0 xA1 xA2 xA3 xA4 xAl
          clear yA0 yA1 yA2 yA3 yAl
          replace xA := xA.alloc (.cells #[.int .i64 f.W, .int .i64 f.H, .slice b1 b2 b3, .slice b4 b5 b6, .slice b7 b8 b9] 24)
          replace yA := yA.alloc (.cells #[.int .i64 f.W, .int .i64 f.H, .slice b1 b2 b3, .slice b4 b5 b6, .slice b7 b8 b9] 24)
          replace kA := kA.alloc (.cells #[.int .i64 f.W, .int .i64 f.H, .slice b1 b2 b3, .slice b4 b5 b6, .slice b7 b8 b9] 24)
          replace hfA := hfA.alloc (.cells #[.int .i64 f.W, .int .i64 f.H, .slice b1 b2 b3, .slice b4 b5 b6, .slice b7 b8 b9] 24)
          replace hf2 := hf2.alloc (.cells #[.int .i64 f.W, .int .i64 f.H, .slice b1 b2 b3, .slice b4 b5 b6, .slice b7 b8 b9] 24)
          have zB := Bx.new w2 24 #[.int .i64 f.W, .int .i64 f.H, .slice b1 b2 b3, .slice b4 b5 b6, .slice b7 b8 b9]
          replace BA := BA.alloc BA.size (.cells #[.int .i64 f.W, .int .i64 f.H, .slice b1 b2 b3, .slice b4 b5 b6, .slice b7 b8 b9] 24)
          generalize w2.alloc (.cells #[.int .i64 f.W, .int .i64 f.H, .slice b1 b2 b3, .slice b4 b5 b6, .slice b7 b8 b9] 24) = w3 at *
          generalize w2.heap.size = zBg at *
          obtain ⟨xA0, xA1, xA2, xA3, xA4⟩ := xA.cells5
          have xAl := xA.lt
          have yA0 := yA.cell 0 rfl
          have yA1 := yA.cell 1 rfl
          have yA2 := yA.cell 2 rfl
          have yA3 := yA.cell 3 rfl
          have yAl := yA.lt
          obtain ⟨zB0, zB1, zB2, zB3, zB4⟩ := zB.cells5
          have zBl := zB.lt
          go_wp2_with (refine wpList_ld64 rfl (.tmp 7) rfl g rfl kA HXS.out ?_)
          clear xA0 xA1 xA2 xA3 xA4 xAl
          clear yA0 yA1 yA2 yA3 yAl
          clear zB0 zB1 zB2 zB3 zB4 zBl
          refine (plane_SetBlock _ f x y n fd xs _ hfA HXS.out).mono ?_
          rw [HR.out]
          rintro e w4 ⟨v4, rfl, hc4, hf4, hb4⟩
          replace xA := xA.ext hb4
          replace yA := yA.ext hb4
          replace zB := zB.ext hb4
          replace kA := kA.ext hb4
          replace hfA := hfA.ext hb4
          replace hf2 := hf2.ext hb4
          replace BA := BA.trans (hb4.mono BA.size)
          clear hb4
          have hf40 := hf4
          obtain ⟨d1, d2, d3, d4, d5, d6, d7, d8, d9, rfl, _, _, _⟩ := hf40
          obtain ⟨xA0, xA1, xA2, xA3, xA4⟩ := xA.cells5
          have xAl := xA.lt
          have yA0 := yA.cell 0 rfl
          have yA1 := yA.cell 1 rfl
          have yA2 := yA.cell 2 rfl
          have yA3 := yA.cell 3 rfl
          have yAl := yA.lt
          obtain ⟨zB0, zB1, zB2, zB3, zB4⟩ := zB.cells5
          have zBl := zB.lt
          go_upto_region 10 with fail
          clear xA0 xA1 xA2 xA3 xA4 xAl
          clear yA0 yA1 yA2 yA3 yAl
          clear zB0 zB1 zB2 zB3 zB4 zBl
          replace xA := xA.alloc (.cells #[.int .i64 R.W, .int .i64 R.H, .slice d1 d2 d3, .slice d4 d5 d6, .slice d7 d8 d9] 24)
          replace yA := yA.alloc (.cells #[.int .i64 R.W, .int .i64 R.H, .slice d1 d2 d3, .slice d4 d5 d6, .slice d7 d8 d9] 24)
          replace zB := zB.alloc (.cells #[.int .i64 R.W, .int .i64 R.H, .slice d1 d2 d3, .slice d4 d5 d6, .slice d7 d8 d9] 24)
          replace kA := kA.alloc (.cells #[.int .i64 R.W, .int .i64 R.H, .slice d1 d2 d3, .slice d4 d5 d6, .slice d7 d8 d9] 24)
          replace hfA := hfA.alloc (.cells #[.int .i64 R.W, .int .i64 R.H, .slice d1 d2 d3, .slice d4 d5 d6, .slice d7 d8 d9] 24)
          replace hf2 := hf2.alloc (.cells #[.int .i64 R.W, .int .i64 R.H, .slice d1 d2 d3, .slice d4 d5 d6, .slice d7 d8 d9] 24)
          replace hf4 := hf4.alloc (.cells #[.int .i64 R.W, .int .i64 R.H, .slice d1 d2 d3, .slice d4 d5 d6, .slice d7 d8 d9] 24)
          have zD := Bx.new w4 24 #[.int .i64 R.W, .int .i64 R.H, .slice d1 d2 d3, .slice d4 d5 d6, .slice d7 d8 d9]
          replace BA := BA.alloc BA.size (.cells #[.int .i64 R.W, .int .i64 R.H, .slice d1 d2 d3, .slice d4 d5 d6, .slice d7 d8 d9] 24)
          generalize w4.alloc (.cells #[.int .i64 R.W, .int .i64 R.H, .slice d1 d2 d3, .slice d4 d5 d6, .slice d7 d8 d9] 24) = w5 at *
          generalize w4.heap.size = zDg at *
          obtain ⟨xA0, xA1, xA2, xA3, xA4⟩ := xA.cells5
          have xAl := xA.lt
          have yA0 := yA.cell 0 rfl
          have yA1 := yA.cell 1 rfl
          have yA2 := yA.cell 2 rfl
          have yA3 := yA.cell 3 rfl
          have yAl := yA.lt
          obtain ⟨zB0, zB1, zB2, zB3, zB4⟩ := zB.cells5
          have zBl := zB.lt
          obtain ⟨zD0, zD1, zD2, zD3, zD4⟩ := zD.cells5
          have zDl := zD.lt
          go_wp2_with (refine wpList_ld64 rfl (.tmp 7) rfl g rfl kA HXS.out ?_)
          clear xA0 xA1 xA2 xA3 xA4 xAl
          clear yA0 yA1 yA2 yA3 yAl
          clear zB0 zB1 zB2 zB3 zB4 zBl
          clear zD0 zD1 zD2 zD3 zD4 zDl
          refine (ref_SetBlock _ f x y n fd xs _ hf2 HXS.out).mono ?_
          rw [HR.out]
          rintro e w6 ⟨v6, rfl, hc6, hf6, hb6⟩
          replace xA := xA.ext hb6
          replace yA := yA.ext hb6
          replace zB := zB.ext hb6
          replace zD := zD.ext hb6
          replace kA := kA.ext hb6
          replace hfA := hfA.ext hb6
          replace hf2 := hf2.ext hb6
          replace hf4 := hf4.ext hb6
          replace BA := BA.trans (hb6.mono BA.size)
          clear hb6
          have hf60 := hf6
          obtain ⟨e1, e2, e3, e4, e5, e6, e7, e8, e9, rfl, _, _, _⟩ := hf60
          obtain ⟨xA0, xA1, xA2, xA3, xA4⟩ := xA.cells5
          have xAl := xA.lt
          have yA0 := yA.cell 0 rfl
          have yA1 := yA.cell 1 rfl
          have yA2 := yA.cell 2 rfl
          have yA3 := yA.cell 3 rfl
          have yAl := yA.lt
          obtain ⟨zB0, zB1, zB2, zB3, zB4⟩ := zB.cells5
          have zBl := zB.lt
          obtain ⟨zD0, zD1, zD2, zD3, zD4⟩ := zD.cells5
          have zDl := zD.lt
          go_upto_region 11 with fail
          clear xA0 xA1 xA2 xA3 xA4 xAl
          clear yA0 yA1 yA2 yA3 yAl
          clear zB0 zB1 zB2 zB3 zB4 zBl
          clear zD0 zD1 zD2 zD3 zD4 zDl
          replace xA := xA.alloc (.cells #[.int .i64 R.W, .int .i64 R.H, .slice e1 e2 e3, .slice e4 e5 e6, .slice e7 e8 e9] 24)
          replace yA := yA.alloc (.cells #[.int .i64 R.W, .int .i64 R.H, .slice e1 e2 e3, .slice e4 e5 e6, .slice e7 e8 e9] 24)
          replace zB := zB.alloc (.cells #[.int .i64 R.W, .int .i64 R.H, .slice e1 e2 e3, .slice e4 e5 e6, .slice e7 e8 e9] 24)
          replace zD := zD.alloc (.cells #[.int .i64 R.W, .int .i64 R.H, .slice e1 e2 e3, .slice e4 e5 e6, .slice e7 e8 e9] 24)
          replace kA := kA.alloc (.cells #[.int .i64 R.W, .int .i64 R.H, .slice e1 e2 e3, .slice e4 e5 e6, .slice e7 e8 e9] 24)
          replace hfA := hfA.alloc (.cells #[.int .i64 R.W, .int .i64 R.H, .slice e1 e2 e3, .slice e4 e5 e6, .slice e7 e8 e9] 24)
          replace hf2 := hf2.alloc (.cells #[.int .i64 R.W, .int .i64 R.H, .slice e1 e2 e3, .slice e4 e5 e6, .slice e7 e8 e9] 24)
          replace hf4 := hf4.alloc (.cells #[.int .i64 R.W, .int .i64 R.H, .slice e1 e2 e3, .slice e4 e5 e6, .slice e7 e8 e9] 24)
          replace hf6 := hf6.alloc (.cells #[.int .i64 R.W, .int .i64 R.H, .slice e1 e2 e3, .slice e4 e5 e6, .slice e7 e8 e9] 24)
          have zE := Bx.new w6 24 #[.int .i64 R.W, .int .i64 R.H, .slice e1 e2 e3, .slice e4 e5 e6, .slice e7 e8 e9]
          replace BA := BA.alloc BA.size (.cells #[.int .i64 R.W, .int .i64 R.H, .slice e1 e2 e3, .slice e4 e5 e6, .slice e7 e8 e9] 24)
          generalize w6.alloc (.cells #[.int .i64 R.W, .int .i64 R.H, .slice e1 e2 e3, .slice e4 e5 e6, .slice e7 e8 e9] 24) = w7 at *
          generalize w6.heap.size = zEg at *
          obtain ⟨xA0, xA1, xA2, xA3, xA4⟩ := xA.cells5
          have xAl := xA.lt
          have yA0 := yA.cell 0 rfl
          have yA1 := yA.cell 1 rfl
          have yA2 := yA.cell 2 rfl
          have yA3 := yA.cell 3 rfl
          have yAl := yA.lt
          obtain ⟨zB0, zB1, zB2, zB3, zB4⟩ := zB.cells5
          have zBl := zB.lt
          obtain ⟨zD0, zD1, zD2, zD3, zD4⟩ := zD.cells5
          have zDl := zD.lt
          obtain ⟨zE0, zE1, zE2, zE3, zE4⟩ := zE.cells5
          have zEl := zE.lt
          go_wp2_with fail
          clear xA0 xA1 xA2 xA3 xA4 xAl
          clear yA0 yA1 yA2 yA3 yAl
          clear zB0 zB1 zB2 zB3 zB4 zBl
          clear zD0 zD1 zD2 zD3 zD4 zDl
          clear zE0 zE1 zE2 zE3 zE4 zEl
          refine (plane_awake _).mono ?_
          rintro e w8 ⟨rfl, hb8⟩
          replace xA := xA.ext hb8
          replace yA := yA.ext hb8
          replace zB := zB.ext hb8
          replace zD := zD.ext hb8
          replace zE := zE.ext hb8
          replace kA := kA.ext hb8
          replace hfA := hfA.ext hb8
          replace hf2 := hf2.ext hb8
          replace hf4 := hf4.ext hb8
          replace hf6 := hf6.ext hb8
          replace BA := BA.trans (hb8.mono BA.size)
          clear hb8
          obtain ⟨xA0, xA1, xA2, xA3, xA4⟩ := xA.cells5
          have xAl := xA.lt
          have yA0 := yA.cell 0 rfl
          have yA1 := yA.cell 1 rfl
          have yA2 := yA.cell 2 rfl
          have yA3 := yA.cell 3 rfl
          have yAl := yA.lt
          obtain ⟨zB0, zB1, zB2, zB3, zB4⟩ := zB.cells5
          have zBl := zB.lt
          obtain ⟨zD0, zD1, zD2, zD3, zD4⟩ := zD.cells5
          have zDl := zD.lt
          obtain ⟨zE0, zE1, zE2, zE3, zE4⟩ := zE.cells5
          have zEl := zE.lt
          go_wp2_with fail
          clear xA0 xA1 xA2 xA3 xA4 xAl
          clear yA0 yA1 yA2 yA3 yAl
          clear zB0 zB1 zB2 zB3 zB4 zBl
          clear zD0 zD1 zD2 zD3 zD4 zDl
          clear zE0 zE1 zE2 zE3 zE4 zEl
          refine (ref_Equal _ _ R R _ hf4 hf6).mono ?_
          rintro e w9 ⟨rfl, hb9⟩
          replace xA := xA.ext hb9
          replace yA := yA.ext hb9
          replace zB := zB.ext hb9
          replace zD := zD.ext hb9
          replace zE := zE.ext hb9
          replace kA := kA.ext hb9
          replace hfA := hfA.ext hb9
          replace hf2 := hf2.ext hb9
          replace hf4 := hf4.ext hb9
          replace hf6 := hf6.ext hb9
          replace BA := BA.trans (hb9.mono BA.size)
          clear hb9
          obtain ⟨xA0, xA1, xA2, xA3, xA4⟩ := xA.cells5
          have xAl := xA.lt
          have yA0 := yA.cell 0 rfl
          have yA1 := yA.cell 1 rfl
          have yA2 := yA.cell 2 rfl
          have yA3 := yA.cell 3 rfl
          have yAl := yA.lt
          obtain ⟨zB0, zB1, zB2, zB3, zB4⟩ := zB.cells5
          have zBl := zB.lt
          obtain ⟨zD0, zD1, zD2, zD3, zD4⟩ := zD.cells5
          have zDl := zD.lt
          obtain ⟨zE0, zE1, zE2, zE3, zE4⟩ := zE.cells5
          have zEl := zE.lt
          go_wp2_with fail
          clear xA0 xA1 xA2 xA3 xA4 xAl
          clear yA0 yA1 yA2 yA3 yAl
          clear zB0 zB1 zB2 zB3 zB4 zBl
          clear zD0 zD1 zD2 zD3 zD4 zDl
          clear zE0 zE1 zE2 zE3 zE4 zEl
          refine (ref_Equal _ _ f f _ hfA hf2).mono ?_
          rintro e wq ⟨rfl, hbq⟩
          replace xA := xA.ext hbq
          replace yA := yA.ext hbq
          replace zB := zB.ext hbq
          replace zD := zD.ext hbq
          replace zE := zE.ext hbq
          replace kA := kA.ext hbq
          replace hfA := hfA.ext hbq
          replace hf2 := hf2.ext hbq
          replace hf4 := hf4.ext hbq
          replace hf6 := hf6.ext hbq
          replace BA := BA.trans (hbq.mono BA.size)
          clear hbq
          obtain ⟨xA0, xA1, xA2, xA3, xA4⟩ := xA.cells5
          have xAl := xA.lt
          have yA0 := yA.cell 0 rfl
          have yA1 := yA.cell 1 rfl
          have yA2 := yA.cell 2 rfl
          have yA3 := yA.cell 3 rfl
          have yAl := yA.lt
          obtain ⟨zB0, zB1, zB2, zB3, zB4⟩ := zB.cells5
          have zBl := zB.lt
          obtain ⟨zD0, zD1, zD2, zD3, zD4⟩ := zD.cells5
          have zDl := zD.lt
          obtain ⟨zE0, zE1, zE2, zE3, zE4⟩ := zE.cells5
          have zEl := zE.lt
          go_wp2_with fail
          clear xA0 xA1 xA2 xA3 xA4 xAl
          clear yA0 yA1 yA2 yA3 yAl
          clear zB0 zB1 zB2 zB3 zB4 zBl
          clear zD0 zD1 zD2 zD3 zD4 zDl
          clear zE0 zE1 zE2 zE3 zE4 zEl
          go_ret
          exact ⟨rfl, BA⟩
  · have hl' : lightB f = false := by simpa using hlt
    go_enter Try.func10, Try.ntmps10
    go_wp2_with fail
    refine (law_light _ f _ (by (repeat with_reducible apply IsFr.alloc); exact hf0)).mono ?_
    rintro e w1 ⟨rfl, hb1⟩
    have B1 : Below w.heap.size w w1 := (((Below.refl _ w).alloc (by simp) _).alloc (by simp) _).trans (hb1.mono (by simp; omega))
    go_wp2_with fail
    go_ret
    exact ⟨rfl, B1⟩
end Go.Proofs.Ytcboppldclknjaa
