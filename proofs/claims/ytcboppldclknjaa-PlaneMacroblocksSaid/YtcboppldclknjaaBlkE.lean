/- The contract of Block of the reference. -/
import Derived.Test.YtcboppldclknjaaBlkD
namespace Go.Proofs.Ytcboppldclknjaa
open Go.RowKit
attribute [local go_sem ↓] Try.alloc64 Try.build64

theorem ref_Plane_of {x y : Int} {ya ua va : Option Addr} {yn yc un uc vn vc n : Nat} {A : Option Addr} {m c : Nat} (h : compS n (.slice ya yn yc) (.slice ua un uc) (.slice va vn vc) = .slice A m c) (w : World) :
    Calls Try.prog 55 #[.agg #[.int .i64 x, .int .i64 y, .slice ya yn yc, .slice ua un uc, .slice va vn vc], .int .i64 n] w fun e w' => e = .returned (.slice A m c) ∧ Below w.heap.size w w' := by
  rw [← h]; exact ref_Plane x y ya ua va yn yc un uc vn vc n w

set_option maxRecDepth 4000 in
set_option maxHeartbeats 4000000 in
theorem ref_Block_yes {p : Nat → Prop} (v : Value) (f : Fr) (mx my n a b : Nat) (fd : Bool) (w : World) (hf : IsFr p w v f) (hc : CapsOK v) (hh : hasB f mx my = true) (hn : n ≤ 5)
    (hW : f.W = ((16 * a : Nat) : Int)) (ha : a ≤ 4) (hx : mx < a) (hb : b ≤ 4) (hyb : my < b) (lY : f.Y.length = (16 * b) * (16 * a)) (lU : f.U.length = (8 * b) * (8 * a)) (lV : f.V.length = (8 * b) * (8 * a)) :
    Calls Try.prog 31 #[v, .int .i64 mx, .int .i64 my, .int .i64 n, .bool fd] w (RetA w (blockL f mx my n fd, 0)) := by
  have hf0 := hf
  obtain ⟨ya, yn, yc, ua, un, uc, va, vn, vc, rfl, hy, hu, hv⟩ := hf
  obtain ⟨hc1, hc2, hc3⟩ := hc.out
  obtain ⟨A, m, c, hcomp, hmc, hby0⟩ := comp_pick n hy hu hv hc1 hc2 hc3
  have hby := hby0.mono (q := (· < w.heap.size)) (fun _ h _ => h)
  clear hby0
  have HPT := Lib.hid (fun k (hk : k < 64) => place_lt (fd := fd) (k := k) hW hx hyb hn hk lY lU lV)
  have HAT := Lib.hid (fun k (hk : k < 64) => blockL_at (f := f) (mx := mx) (my := my) (n := n) (fd := fd) hk)
  have hl64 := Lib.hid (blockL_len f mx my n fd)
  have hWn : f.W.toNat = 16 * a := by omega
  rw [hWn] at HPT HAT
  obtain ⟨cw, hcw⟩ : ∃ cw, cw = 16 * a := ⟨_, rfl⟩
  rw [← hcw] at HPT HAT
  have hWc : f.W = (cw : Int) := by omega
  have HCP := Lib.hid hcomp
  have hcw2 : cw ≤ 64 := by omega
  generalize hbl : blockL f mx my n fd = bl at *
  rw [hWc] at hf0 ⊢
  have HWC := Lib.hid hWc
  have hmx : mx ≤ 3 := by omega
  have hmy : my ≤ 3 := by omega
  clear hcomp hbl lY lU lV hWn hW hcw hy hu hv hWc
  have hn6 : decide ((5 : Int) < (n : Int)) = false := decide_eq_false (by omega)
  go_enter Try.func31, Try.ntmps31
  go_wp2_with fail
  refine (ref_Has (p := p) _ f _ _ _ (by (repeat with_reducible apply IsFr.alloc); exact hf0)).mono ?_
  rintro e w1 ⟨rfl, hb1⟩
  have B1 : Below w.heap.size w w1 := (((Below.refl _ w).alloc (by simp) _).alloc (by simp) _).trans (hb1.mono (by simp; omega))
  have x1 : Bx w1 w.heap.size 24 #[.int .i64 cw, .int .i64 f.H, .slice ya yn yc, .slice ua un uc, .slice va vn vc] := ((Bx.new w _ _).alloc _).ext hb1
  have k1 : Bn .i64 w1 41 (w.heap.size + 1) zeros64 := (Bn.new' _ _ _ _ _ (by simp)).ext hb1
  have hby1 := hby.ext B1
  clear hb1
  obtain ⟨c0, c1, c2, c3, c4⟩ := x1.cells5
  have hls := k1.lt
  have hls0 := x1.lt
  go_wp2_with fail
  clear c0 c1 c2 c3 c4
  change Code.wp _ _ _ _ (w1.alloc (.cells (rowN .i64 zeros64) 41))
  have xA := x1.alloc (.cells (rowN .i64 zeros64) 41)
  have kA := k1.alloc (.cells (rowN .i64 zeros64) 41)
  have k2A := Bn.new' w1 .i64 41 zeros64 w1.heap.size rfl
  have hbyA := hby1.alloc (.cells (rowN .i64 zeros64) 41)
  have BA := B1.alloc B1.size (.cells (rowN .i64 zeros64) 41)
  generalize w1.alloc (.cells (rowN .i64 zeros64) 41) = wA at *
  have hg2 : w.heap.size + 1 < w1.heap.size := hls
  have hz := k2A.lt
  generalize w1.heap.size = g2 at *
  clear x1 k1 hby1 B1 hls
  clear w1
  go_loopw [13] (fun i wr => ∃ (j : Nat) (l : List Int), j ≤ 64 ∧ i = .int .i64 j ∧ Below w.heap.size w wr ∧ Bx wr w.heap.size 24 #[.int .i64 cw, .int .i64 f.H, .slice ya yn yc, .slice ua un uc, .slice va vn vc] ∧ Bn .i64 wr 41 (w.heap.size + 1) zeros64 ∧ Bn .i64 wr 41 g2 l ∧ Byt (· < w.heap.size) wr A m (compL f n) ∧ l.length = 64 ∧ (∀ q, q < j → l[q]? = bl[q]?)) (fun i _ => 64 - (intOf i).toNat)
  case atStart => exact ⟨0, _, Nat.zero_le _, rfl, BA, xA, kA, k2A, hbyA, rfl, fun q hq => absurd hq (by omega)⟩
  case round =>
    clear BA xA kA k2A hbyA
    obtain ⟨j, l, hj, rfl, BA, xA, kA, k2A, hbyA, hl, hd⟩ := hrel
    have HL := Lib.hid hl
    have HD := Lib.hid hd
    clear hl hd
    by_cases hlt : j < 64
    · have hpt := HPT.out j hlt
      have hat := HAT.out j hlt
      obtain ⟨pl, hpl⟩ : ∃ pl, pl = placeN cw mx my n fd j := ⟨_, rfl⟩
      have hplc := ref_Place cw mx my n j fd
      rw [← hpl] at hpt hat hplc
      rw [hbyA.len] at hpt
      obtain ⟨b5, o5, x, rfl, hp5, hlb5, hx, hx0, hx1, hcx⟩ := hbyA.at_ hpt
      obtain ⟨y, hy', hcy⟩ := k2A.cell_some (i := j) (by rw [HL.out]; exact hlt)
      have hval : bl[j]? = some x := by rw [hat, List.getD_eq_getElem?_getD, hx]; rfl
      have hfz := k2A.frozen j
      have hgl := k2A.lt
      have HX := Lib.hid hval
      have HPC := Lib.hid hplc
      clear hx hy' hat hval hpl hplc
      have hj1 : (j : Int) < 64 := by omega
      have i1 : (0 : Int) ≤ (pl : Int) := by omega
      have i2 : (pl : Int) < (m : Int) := by omega
      have i3 : (0 : Int) ≤ (j : Int) := by omega
      obtain ⟨c0, c1, c2, c3, c4⟩ := xA.cells5
      have q0 := xA.lt
      have ne1 : w.heap.size ≠ g2 := by omega
      have ne2 : b5 ≠ g2 := by omega
      have hwx : IntKind.i64.wrap x = x := IntWalk.i64_in _ (by omega)
      go_wp2_with fail
      go_region_held3 (fun w' => w'.cell? ⟨w.heap.size, 0, none⟩ = some (.int .i64 cw) ∧ w'.cell? ⟨w.heap.size, 1, none⟩ = some (.int .i64 f.H) ∧ w'.cell? ⟨w.heap.size, 2, none⟩ = some (.slice ya yn yc) ∧ w'.cell? ⟨w.heap.size, 3, none⟩ = some (.slice ua un uc) ∧ w'.cell? ⟨w.heap.size, 4, none⟩ = some (.slice va vn vc) ∧ w'.cell? ⟨b5, o5 + pl, none⟩ = some (.int .u8 x))
        (first | (refine ⟨?_, ?_, ?_, ?_, ?_, ?_⟩ <;> go_simp; done) | go_keep)
        (first
         | (go_at_call 55; ((with_reducible refine (ref_Plane_of HCP.out _).mono ?_); rintro e w3 ⟨rfl, hb3⟩; have hb3 : Below wr.heap.size wr w3 := (by first | exact undrew (undrew hb3) | exact undrew hb3); obtain ⟨c_w3, z_w3⟩ := bcell hb3; have s_w3 := hb3.size; have q_3_0 : w.heap.size < w3.heap.size := (by omega); have q_3_1 : g2 < w3.heap.size := (by omega)))
         | (go_at_call 56; ((with_reducible refine (HPC.out _ hcw2 hmx hmy hn hlt).mono ?_); rintro e w4 ⟨rfl, rfl⟩)))
      go_wp2_with fail
      clear hwx
      go_roundw
      case rel => exact ⟨j + 1, l.set j x, by omega, by go_num, (BA.trans (hb3.mono BA.size)).setCell (by simp; omega) _, (xA.ext hb3).far (by simp; omega) _, (kA.ext hb3).far (by simp; omega) _, (k2A.ext hb3).set_ j x, (hbyA.ext hb3).setCell (by simp; omega) _, by rw [List.length_set]; exact HL.out, fun q hq => set_upto HL.out hlt HD.out HX.out hq⟩
      case measure => simp [intOf]; omega
    · obtain rfl : j = 64 := by omega
      have hlb : l = bl := all_upto HL.out (by rw [hl64.out]) HD.out
      have hgl := k2A.lt
      go_wp2_with (first | (refine wpList_ld64 rfl (.tmp 12) rfl g2 rfl k2A HL.out ?_) | (refine wpList_st64 rfl (.tmp 10) (.tmp 48) rfl (w.heap.size + 1) l rfl rfl kA rfl HL.out ?_))
      have hld := Try.load64 (kA.row l) HL.out
      subst hlb
      exact bodyPost_ret (v := .tuple #[.agg (rowN .i64 l), .int .i64 0]) (results_row_tmp Try.results31 _ _ (w.heap.size + 1) _ _ rfl rfl hld) rfl ⟨rfl, below_row BA (by omega)⟩

def blockF (f : Fr) (mx my n : Int) (fd : Bool) : List Int × Int := if blockOk f mx my n then (blockL f mx.toNat my.toNat n.toNat fd, 0) else (zeros64, 1)
theorem blockF_len (f : Fr) (mx my n : Int) (fd : Bool) : (blockF f mx my n fd).1.length = 64 := by
  unfold blockF
  split
  · exact blockL_len _ _ _ _ _
  · rfl

theorem plane_Block {p : Nat → Prop} (v : Value) (f : Fr) (mx my n : Int) (fd : Bool) (w : World) (hf : IsFr p w v f) (hc : CapsOK v) :
    Calls Try.prog 30 #[v, .int .i64 mx, .int .i64 my, .int .i64 n, .bool fd] w (RetA w (blockF f mx my n fd)) := by
  unfold blockF
  by_cases h : blockOk f mx my n
  · rw [if_pos h]
    obtain ⟨h1, h2, h3⟩ := h
    obtain ⟨hv, x, y, rfl, rfl, hx, hy⟩ := has_nats h1
    obtain ⟨k, rfl⟩ : ∃ k : Nat, n = (k : Int) := ⟨n.toNat, by omega⟩
    obtain ⟨a, b, hW, hH, a1, a2, b1, b2, lY, lU, lV⟩ := valid_sizes hv
    exact plane_Block_yes v f x y k a b fd w hf hc h1 (by omega) hW a2 (by omega) b2 (by omega) lY lU lV
  · rw [if_neg h]
    exact plane_Block_no v f mx my n fd w hf h

theorem ref_Block {p : Nat → Prop} (v : Value) (f : Fr) (mx my n : Int) (fd : Bool) (w : World) (hf : IsFr p w v f) (hc : CapsOK v) :
    Calls Try.prog 31 #[v, .int .i64 mx, .int .i64 my, .int .i64 n, .bool fd] w (RetA w (blockF f mx my n fd)) := by
  unfold blockF
  by_cases h : blockOk f mx my n
  · rw [if_pos h]
    obtain ⟨h1, h2, h3⟩ := h
    obtain ⟨hv, x, y, rfl, rfl, hx, hy⟩ := has_nats h1
    obtain ⟨k, rfl⟩ : ∃ k : Nat, n = (k : Int) := ⟨n.toNat, by omega⟩
    obtain ⟨a, b, hW, hH, a1, a2, b1, b2, lY, lU, lV⟩ := valid_sizes hv
    exact ref_Block_yes v f x y k a b fd w hf hc h1 (by omega) hW a2 (by omega) b2 (by omega) lY lU lV
  · rw [if_neg h]
    exact ref_Block_no v f mx my n fd w hf h
end Go.Proofs.Ytcboppldclknjaa
