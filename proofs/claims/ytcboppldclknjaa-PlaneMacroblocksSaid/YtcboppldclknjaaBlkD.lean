/- The contract of plane.Block. -/
import Derived.Test.YtcboppldclknjaaBlkC
namespace Go.Proofs.Ytcboppldclknjaa
open Go.RowKit
attribute [local go_sem ↓] Try.alloc64 Try.build64

theorem comp_pick {p : Nat → Prop} {w : World} {f : Fr} {ya ua va : Option Addr} {yn yc un uc vn vc : Nat} (n : Nat) (hy : Byt p w ya yn f.Y) (hu : Byt p w ua un f.U) (hv : Byt p w va vn f.V) (h1 : yn ≤ yc) (h2 : un ≤ uc) (h3 : vn ≤ vc) :
    ∃ A m c, compS n (.slice ya yn yc) (.slice ua un uc) (.slice va vn vc) = .slice A m c ∧ m ≤ c ∧ Byt p w A m (compL f n) := by
  unfold compS compL
  by_cases h4 : n = 4
  · rw [if_pos h4, if_pos h4]; exact ⟨_, _, _, rfl, h2, hu⟩
  · rw [if_neg h4, if_neg h4]
    by_cases h5 : n = 5
    · rw [if_pos h5, if_pos h5]; exact ⟨_, _, _, rfl, h3, hv⟩
    · rw [if_neg h5, if_neg h5]; exact ⟨_, _, _, rfl, h1, hy⟩
theorem plane_component_of {x y : Int} {ya ua va : Option Addr} {yn yc un uc vn vc n : Nat} {A : Option Addr} {m c : Nat} (h : compS n (.slice ya yn yc) (.slice ua un uc) (.slice va vn vc) = .slice A m c) (w : World) :
    Calls Try.prog 52 #[.agg #[.int .i64 x, .int .i64 y, .slice ya yn yc, .slice ua un uc, .slice va vn vc], .int .i64 n] w fun e w' => e = .returned (.slice A m c) ∧ Below w.heap.size w w' := by
  rw [← h]; exact plane_component x y ya ua va yn yc un uc vn vc n w

theorem plane_cut8 {p : Nat → Prop} (A : Option Addr) (n c fr st : Nat) (l : List Int) (w : World) (hl : Byt p w A n l) (hn : n ≤ c) (hfr : fr ≤ 100000) (hst : st ≤ 1000) (hfit : ∀ r, r < 8 → fr + r * st + 8 ≤ n) :
    Calls Try.prog 47 #[.slice A n c, .agg #[.int .i64 fr, .int .i64 st, .int .i64 8, .int .i64 8]] w (RetC w (cutL l fr st 8 8)) :=
  plane_cut A n c fr st 8 8 l w hl hn (by omega) (by omega) (by omega) hfr hst hfit
set_option maxRecDepth 4000 in
set_option maxHeartbeats 4000000 in
theorem plane_Block_yes {p : Nat → Prop} (v : Value) (f : Fr) (mx my n a b : Nat) (fd : Bool) (w : World) (hf : IsFr p w v f) (hc : CapsOK v) (hh : hasB f mx my = true) (hn : n ≤ 5)
    (hW : f.W = ((16 * a : Nat) : Int)) (ha : a ≤ 4) (hx : mx < a) (hb : b ≤ 4) (hyb : my < b) (lY : f.Y.length = (16 * b) * (16 * a)) (lU : f.U.length = (8 * b) * (8 * a)) (lV : f.V.length = (8 * b) * (8 * a)) :
    Calls Try.prog 30 #[v, .int .i64 mx, .int .i64 my, .int .i64 n, .bool fd] w (RetA w (blockL f mx my n fd, 0)) := by
  have hf0 := hf
  obtain ⟨ya, yn, yc, ua, un, uc, va, vn, vc, rfl, hy, hu, hv⟩ := hf
  obtain ⟨hc1, hc2, hc3⟩ := hc.out
  obtain ⟨A, m, c, hcomp, hmc, hby⟩ := comp_pick n hy hu hv hc1 hc2 hc3
  have hfit := block_fit (fd := fd) hW hx hyb hn lY lU lV
  rw [hby.len] at hfit
  have hfl := from_le (fd := fd) (n := n) hx ha (show my < 4 by omega) hn
  have HB : Hid (blockL f mx my n fd = cutL (compL f n) (fromN f.W.toNat mx my n fd) (stepN f.W.toNat n fd) 8 8) := Lib.hid rfl
  have hl64 := Lib.hid (blockL_len f mx my n fd)
  have hWn : f.W.toNat = 16 * a := by omega
  rw [hWn] at hfit HB
  obtain ⟨cw, hcw⟩ : ∃ cw, cw = 16 * a := ⟨_, rfl⟩
  rw [← hcw] at hfit HB hfl
  have hWc : f.W = (cw : Int) := by omega
  generalize hfr : fromN cw mx my n fd = fr at *
  generalize hst : stepN cw n fd = st at *
  have hpl : ∀ w, Calls Try.prog 53 #[.int .i64 cw, .int .i64 mx, .int .i64 my, .int .i64 n, .bool fd] w fun e w' => e = .returned (.agg #[.int .i64 fr, .int .i64 st, .int .i64 ((8 : Nat) : Int), .int .i64 ((8 : Nat) : Int)]) ∧ Below w.heap.size w w' := by
    intro w
    have := plane_place cw mx my n fd w (by omega) (by omega) (by omega) hn
    rw [hfr, hst] at this
    exact this
  have HFIT := Lib.hid hfit
  have HPL := Lib.hid hpl
  have HCP := Lib.hid hcomp
  obtain ⟨hfl1, hfl2⟩ := hfl
  have hcw2 : cw ≤ 64 := by omega
  generalize hbl : blockL f mx my n fd = bl at *
  rw [hWc] at hf0 ⊢
  have HWC := Lib.hid hWc
  clear hfit hpl hcomp hfr hst hbl lY lU lV hWn hW hcw hy hu hv hWc
  have hn6 : decide ((6 : Int) ≤ (n : Int)) = false := decide_eq_false (by omega)
  go_enter Try.func30, Try.ntmps30
  go_wp2_with fail
  refine (plane_has (p := p) _ f _ _ _ (by (repeat with_reducible apply IsFr.alloc); exact hf0)).mono ?_
  rintro e w1 ⟨rfl, hb1⟩
  have B1 : Below w.heap.size w w1 := (((Below.refl _ w).alloc (by simp) _).alloc (by simp) _).trans (hb1.mono (by simp; omega))
  have x1 : Bx w1 w.heap.size 24 #[.int .i64 cw, .int .i64 f.H, .slice ya yn yc, .slice ua un uc, .slice va vn vc] := ((Bx.new w _ _).alloc _).ext hb1
  have k1 : Bn .i64 w1 41 (w.heap.size + 1) zeros64 := (Bn.new' _ _ _ _ _ (by simp)).ext hb1
  have hby1 := hby.ext B1
  clear hb1
  obtain ⟨c0, c1, c2, c3, c4⟩ := x1.cells5
  have hls := k1.lt
  have hls0 := x1.lt
  go_wp2_with fail
  clear c0 c1 c2 c3 c4
  change Code.wp _ _ _ _ (w1.alloc (.cells (rowN .i64 zeros64) 41))
  have xA := x1.alloc (.cells (rowN .i64 zeros64) 41)
  have kA := k1.alloc (.cells (rowN .i64 zeros64) 41)
  have k2A := Bn.new' w1 .i64 41 zeros64 w1.heap.size rfl
  have hbyA := hby1.alloc (.cells (rowN .i64 zeros64) 41)
  have BA := B1.alloc B1.size (.cells (rowN .i64 zeros64) 41)
  generalize w1.alloc (.cells (rowN .i64 zeros64) 41) = wA at *
  have hg2 : w.heap.size + 1 < w1.heap.size := hls
  have hz := k2A.lt
  generalize w1.heap.size = g2 at *
  clear x1 k1 hby1 B1 hls
  clear w1
  obtain ⟨c0, c1, c2, c3, c4⟩ := xA.cells5
  have q0 : w.heap.size < wA.heap.size := xA.lt
  have HB1 := Lib.hid hby
  go_region_held3 (fun w' => w'.cell? ⟨w.heap.size, 0, none⟩ = some (.int .i64 cw) ∧ w'.cell? ⟨w.heap.size, 1, none⟩ = some (.int .i64 f.H) ∧ w'.cell? ⟨w.heap.size, 2, none⟩ = some (.slice ya yn yc) ∧ w'.cell? ⟨w.heap.size, 3, none⟩ = some (.slice ua un uc) ∧ w'.cell? ⟨w.heap.size, 4, none⟩ = some (.slice va vn vc))
    (first | (refine ⟨?_, ?_, ?_, ?_, ?_⟩ <;> go_simp; done) | go_keep)
    (first
     | (go_at_call 52; ((with_reducible refine (plane_component_of HCP.out _).mono ?_); rintro e w3 ⟨rfl, hb3⟩; have hb3 : Below wA.heap.size wA w3 := (by first | exact undrew (undrew hb3) | exact undrew hb3); obtain ⟨c_w3, z_w3⟩ := bcell hb3; have s_w3 := hb3.size; have q_3_0 : w.heap.size < w3.heap.size := (by omega)))
     | (go_at_call 53; ((with_reducible refine (HPL.out _).mono ?_); rintro e w4 ⟨rfl, hb4⟩; obtain ⟨c_w4, z_w4⟩ := bcell hb4; have q_4_0 : w.heap.size < w4.heap.size := (by have := hb4.size; omega)))
     | (go_at_call 47; ((with_reducible refine (plane_cut8 (p := p) A m c fr st (compL f n) _ ((hbyA.ext hb3).ext hb4) hmc (by omega) (by omega) HFIT.out).mono ?_); rintro e w5 ⟨A5, n5, m5, rfl, hcp5, hB5, hb5⟩; obtain ⟨c_w5, z_w5⟩ := bcell hb5; have q_5_0 : w.heap.size < w5.heap.size := (by have := hb4.size; have := hb5.size; omega))))
  have u5 := hb5.size
  have u4 := hb4.size
  have u3 := hb3.size
  have hn5 : n5 = 64 := by rw [← hB5.len, ← HB.out]; exact hl64.out
  subst hn5
  have B5 : Below w.heap.size w w5 := ((BA.trans (hb3.mono BA.size)).trans (hb4.mono (by have := BA.size; omega))).trans (hb5.mono (by have := BA.size; omega))
  have kA5 := ((kA.ext hb3).ext hb4).ext hb5
  have kB5 := ((k2A.ext hb3).ext hb4).ext hb5
  have hbl5 := hB5.mono (q := (w4.heap.size ≤ ·)) (fun b _ h => h)
  rw [← HB.out] at hbl5
  have hg2w : g2 < w4.heap.size := by omega
  clear hB5 hb3 hb4 hb5 c_w3 c_w4 c_w5 z_w3 z_w4 z_w5 kA k2A xA c0 c1 c2 c3 c4 hby hbyA HB HB1 HPL HCP HFIT
  go_wp2_with fail
  go_loopw [41] (fun i wr => ∃ (j : Nat) (l : List Int), j ≤ 64 ∧ i = .int .i64 j ∧ Below w.heap.size w wr ∧ Bn .i64 wr 41 (w.heap.size + 1) zeros64 ∧ Bn .i64 wr 41 g2 l ∧ Byt (w4.heap.size ≤ ·) wr A5 64 bl ∧ l.length = 64 ∧ (∀ q, q < j → l[q]? = bl[q]?)) (fun i _ => 64 - (intOf i).toNat)
  case atStart => exact ⟨0, _, Nat.zero_le _, rfl, B5, kA5, kB5, hbl5, rfl, fun q hq => absurd hq (by omega)⟩
  case round =>
    clear B5 kA5 kB5 hbl5
    obtain ⟨j, l, hj, rfl, B5, kA5, kB5, hbl5, hl, hd⟩ := hrel
    have HL := Lib.hid hl
    have HD := Lib.hid hd
    clear hl hd
    by_cases hlt : j < 64
    · obtain ⟨b5, o5, x, rfl, hp5, hlb5, hx, hx0, hx1, hcx⟩ := hbl5.at_ hlt
      obtain ⟨y, hy', hcy⟩ := kB5.cell_some (i := j) (by rw [HL.out]; exact hlt)
      have hfz := kB5.frozen j
      have hgl := kB5.lt
      have HX := Lib.hid hx
      have HY := Lib.hid hy'
      clear hx hy'
      have hj1 : (j : Int) < 64 := by omega
      go_wp2_with fail
      have ne1 : ¬ (w4.heap.size ≤ g2) := by omega
      go_roundw
      case rel => exact ⟨j + 1, l.set j x, by omega, by go_num, B5.setCell (by simp; omega) _, kA5.far (by simp; omega) _, kB5.set_ j x, hbl5.setCell ne1 _, by rw [List.length_set]; exact HL.out, fun q hq => set_upto HL.out hlt HD.out HX.out hq⟩
      case measure => simp [intOf]; omega
    · obtain rfl : j = 64 := by omega
      have hlb : l = bl := all_upto HL.out (by rw [hl64.out]) HD.out
      have hgl := kB5.lt
      go_wp2_with (first | (refine wpList_ld64 rfl (.tmp 12) rfl g2 rfl kB5 HL.out ?_) | (refine wpList_st64 rfl (.tmp 10) (.tmp 51) rfl (w.heap.size + 1) l rfl rfl kA5 rfl HL.out ?_))
      have hld := Try.load64 (kA5.row l) HL.out
      subst hlb
      exact bodyPost_ret (v := .tuple #[.agg (rowN .i64 l), .int .i64 0]) (results_row_tmp Try.results30 _ _ (w.heap.size + 1) _ _ rfl rfl hld) rfl ⟨rfl, below_row B5 (by omega)⟩
end Go.Proofs.Ytcboppldclknjaa
