/- The contract of plane.SetBlock. -/
import Derived.Test.YtcboppldclknjaaSetNo
import Derived.Test.YtcboppldclknjaaClone
import Derived.Test.YtcboppldclknjaaBlkD
namespace Go.Proofs.Ytcboppldclknjaa
open Go.RowKit
attribute [local go_sem ↓] run_min_mm run_max_mm

theorem index64 {x : List Int} {j : Nat} {y : Int} (hx : x.length = 64) (hj : x[j]? = some y) (w : World) : (Instr.index 41 (.agg (rowN .i64 x)) (.int .i64 (j : Int))).run Try.prog w = .ok (.int .i64 y) w := by
  have hlt : j < 64 := by have := (List.getElem?_eq_some_iff.1 hj).1; omega
  have hsz : ∀ w, (sizeOf 3).run Try.prog w = .ok 1 w := fun _ => by kernel_rfl
  have hag : ∀ w, (isAgg 3).run Try.prog w = .ok false w := fun _ => by kernel_rfl
  simp [Instr.index, run_underlying Try.underlying41, part, hsz, hag, rowN, go_sem, hlt, hj]
theorem OwnF.ext {base : Nat} {w w' : World} {v : Value} {f : Fr} {g1 g2 g3 : Nat} (h : OwnF base w v f g1 g2 g3) (hb : Below w.heap.size w w') : OwnF base w' v f g1 g2 g3 :=
  ⟨h.val, h.b1, h.b2, h.b3, h.n12, h.n13, h.n23, h.k1.ext hb, h.k2.ext hb, h.k3.ext hb⟩
theorem OwnF.far {base : Nat} {w : World} {v : Value} {f : Fr} {g1 g2 g3 : Nat} (h : OwnF base w v f g1 g2 g3) {a : Addr} (ha : a.block < base) (u : Value) : OwnF base (w.setCell a u) v f g1 g2 g3 :=
  ⟨h.val, h.b1, h.b2, h.b3, h.n12, h.n13, h.n23, h.k1.far (by have := h.b1; omega) u, h.k2.far (by have := h.b2; omega) u, h.k3.far (by have := h.b3; omega) u⟩
theorem OwnF.low {base base' : Nat} {w : World} {v : Value} {f : Fr} {g1 g2 g3 : Nat} (h : OwnF base w v f g1 g2 g3) (hb : base' ≤ base) : OwnF base' w v f g1 g2 g3 :=
  ⟨h.val, Nat.le_trans hb h.b1, Nat.le_trans hb h.b2, Nat.le_trans hb h.b3, h.n12, h.n13, h.n23, h.k1, h.k2, h.k3⟩
/-- The plane of block n of a frame of its own, and the frame when that plane is written. -/
theorem OwnF.pick {base : Nat} {w : World} {v : Value} {f : Fr} {g1 g2 g3 : Nat} (h : OwnF base w v f g1 g2 g3) (n : Nat) (rY : ∀ x ∈ f.Y, 0 ≤ x ∧ x ≤ 255) (rU : ∀ x ∈ f.U, 0 ≤ x ∧ x ≤ 255) (rV : ∀ x ∈ f.V, 0 ≤ x ∧ x ≤ 255) :
    ∃ gc, compS n (.slice (some ⟨g1, 0, none⟩) f.Y.length f.Y.length) (.slice (some ⟨g2, 0, none⟩) f.U.length f.U.length) (.slice (some ⟨g3, 0, none⟩) f.V.length f.V.length) = .slice (some ⟨gc, 0, none⟩) (compL f n).length (compL f n).length ∧ base ≤ gc ∧
      Bk w 5 gc (compL f n) ∧ ∀ w' l, l.length = (compL f n).length → (∀ x ∈ l, 0 ≤ x ∧ x ≤ 255) → Bk w' 5 gc l → w.grownBy w' (some gc) → IsFr (base ≤ ·) w' v (setComp f n l) := by
  have hv := h.val
  subst hv
  unfold compS compL setComp
  by_cases h4 : n = 4
  · simp only [if_pos h4]
    refine ⟨g2, rfl, h.b2, h.k2, fun w' l hl hr hk hg => ⟨_, _, _, _, _, _, _, _, _, rfl, (h.k1.grown hg (by simp [h.n12])).byt h.b1 rY, ?_, (h.k3.grown hg (by simp [Ne.symm h.n23])).byt h.b3 rV⟩⟩
    rw [← hl]; exact hk.byt h.b2 hr
  · simp only [if_neg h4]
    by_cases h5 : n = 5
    · simp only [if_pos h5]
      refine ⟨g3, rfl, h.b3, h.k3, fun w' l hl hr hk hg => ⟨_, _, _, _, _, _, _, _, _, rfl, (h.k1.grown hg (by simp [h.n13])).byt h.b1 rY, (h.k2.grown hg (by simp [h.n23])).byt h.b2 rU, ?_⟩⟩
      rw [← hl]; exact hk.byt h.b3 hr
    · simp only [if_neg h5]
      refine ⟨g1, rfl, h.b1, h.k1, fun w' l hl hr hk hg => ⟨_, _, _, _, _, _, _, _, _, rfl, ?_, (h.k2.grown hg (by simp [Ne.symm h.n12])).byt h.b2 rU, (h.k3.grown hg (by simp [Ne.symm h.n13])).byt h.b3 rV⟩⟩
      rw [← hl]; exact hk.byt h.b1 hr

theorem plane_paste8 {p : Nat → Prop} (g dn dc fr st : Nat) (A : Option Addr) (c : Nat) (m l : List Int) (w : World) (hk : Bk w 5 g m) (hm : m.length = dn) (hdc : dn ≤ dc) (hl : Byt p w A 64 l) (hnp : ¬ p g) (hn : 64 ≤ c) (hfr : fr ≤ 100000) (hst : st ≤ 1000) (hdn : dn ≤ 100000)
    (hfit : ∀ r, r < 8 → fr + r * st + 8 ≤ dn) :
    Calls Try.prog 49 #[.slice (some ⟨g, 0, none⟩) dn dc, .agg #[.int .i64 fr, .int .i64 st, .int .i64 8, .int .i64 8], .slice A 64 c] w (fun e w' => e = .returned (.tuple #[]) ∧ Bk w' 5 g (pasteL m l fr st 8 8) ∧ w.grownBy w' (some g)) :=
  plane_paste g dn dc fr st 8 8 A 64 c m l w hk hm hdc hl hnp hn (by omega) (by omega) (by omega) hfr hst hdn (by omega) hfit
set_option maxRecDepth 4000 in
set_option maxHeartbeats 8000000 in
theorem plane_SetBlock_yes {p : Nat → Prop} (v : Value) (f : Fr) (mx my n a b : Nat) (fd : Bool) (x : List Int) (w : World) (hf : IsFr p w v f) (hxl : x.length = 64) (hh : hasB f mx my = true) (hn : n ≤ 5)
    (hW : f.W = ((16 * a : Nat) : Int)) (ha : a ≤ 4) (hx : mx < a) (hb : b ≤ 4) (hyb : my < b) (lY : f.Y.length = (16 * b) * (16 * a)) (lU : f.U.length = (8 * b) * (8 * a)) (lV : f.V.length = (8 * b) * (8 * a)) :
    Calls Try.prog 33 #[v, .int .i64 mx, .int .i64 my, .int .i64 n, .bool fd, .agg (rowN .i64 x)] w (RetFc w (setBlkF f mx my n fd x, 0)) := by
  have hf0 := hf
  have hsp := setBlk_paste (fd := fd) hxl hW hx hyb hn lY lU lV
  have hfit := block_fit (fd := fd) hW hx hyb hn lY lU lV
  have hfl := from_le (fd := fd) (n := n) hx ha (show my < 4 by omega) hn
  have bY : f.Y.length ≤ 4096 := by rw [lY]; exact Nat.le_trans (Nat.mul_le_mul (show 16 * b ≤ 64 by omega) (show 16 * a ≤ 64 by omega)) (by omega)
  have bU : f.U.length ≤ 1024 := by rw [lU]; exact Nat.le_trans (Nat.mul_le_mul (show 8 * b ≤ 32 by omega) (show 8 * a ≤ 32 by omega)) (by omega)
  have bV : f.V.length ≤ 1024 := by rw [lV]; exact Nat.le_trans (Nat.mul_le_mul (show 8 * b ≤ 32 by omega) (show 8 * a ≤ 32 by omega)) (by omega)
  have bC : (compL f n).length ≤ 4096 := by unfold compL; split <;> (try split) <;> omega
  obtain ⟨ya, yn, yc, ua, un, uc, va, vn, vc, rfl, hy, hu, hv⟩ := hf
  have RY := Lib.hid hy.rng
  have RU := Lib.hid hu.rng
  have RV := Lib.hid hv.rng
  have hWn : f.W.toNat = 16 * a := by omega
  rw [hWn] at hfit hsp
  obtain ⟨cw, hcw⟩ : ∃ cw, cw = 16 * a := ⟨_, rfl⟩
  rw [← hcw] at hfit hsp hfl
  have hWc : f.W = (cw : Int) := by omega
  have hpn : setBlkF f mx my n fd x = setComp f n (pasteL (compL f n) (clipL x) (fromN cw mx my n fd) (stepN cw n fd) 8 8) := by unfold setBlkF; rw [hWn, ← hcw, hsp]
  clear hsp
  generalize hfr : fromN cw mx my n fd = fr at *
  generalize hst : stepN cw n fd = st at *
  have hpl : ∀ w, Calls Try.prog 53 #[.int .i64 cw, .int .i64 mx, .int .i64 my, .int .i64 n, .bool fd] w fun e w' => e = .returned (.agg #[.int .i64 fr, .int .i64 st, .int .i64 8, .int .i64 8]) ∧ Below w.heap.size w w' := by
    intro w
    have := plane_place cw mx my n fd w (by omega) (by omega) (by omega) hn
    rw [hfr, hst] at this
    exact this
  obtain ⟨PL, hPL⟩ : ∃ PL, PL = pasteL (compL f n) (clipL x) fr st 8 8 := ⟨_, rfl⟩
  rw [← hPL] at hpn
  rw [hpn]
  have HPP := Lib.hid hPL
  clear hPL hpn
  have HFIT := Lib.hid hfit
  have HPL := Lib.hid hpl
  obtain ⟨hfl1, hfl2⟩ := hfl
  have hcw2 : cw ≤ 64 := by omega
  rw [hWc] at hf0 ⊢
  have HWC := Lib.hid hWc
  have HF := Lib.hid hf0
  have HX := Lib.hid hxl
  have hmk : ∀ w : World, (Instr.makeSlice 22 (.int .i64 64) (.int .i64 64)).run Try.prog w = .ok (.slice (some ⟨w.heap.size, 0, none⟩) 64 64) (w.alloc (zeroB 5 64)) := fun w => run_mkBn (P := Try.prog) (t := 22) Try.underlying22 Try.infoB 64 64 (Nat.le_refl _) (by omega) w
  obtain ⟨S, hS⟩ : ∃ S, S = zeroB 5 64 := ⟨_, rfl⟩
  rw [← hS] at hmk
  have HS := Lib.hid hS
  clear hfit hpl hfr hst lY lU lV hWn hW hcw hy hu hv hWc hf0 hxl hS
  have hn6 : decide ((6 : Int) ≤ (n : Int)) = false := decide_eq_false (by omega)
  go_enter Try.func33, Try.ntmps33
  go_wp2_with fail
  refine (plane_has (p := p) _ f _ _ _ (by (repeat with_reducible apply IsFr.alloc); exact HF.out)).mono ?_
  rintro e w1 ⟨rfl, hb1⟩
  have B1 : Below w.heap.size w w1 := ((((Below.refl _ w).alloc (by simp) _).alloc (by simp) _).alloc (by simp; omega) _).trans (hb1.mono (by simp; omega))
  have x1 : Bx w1 w.heap.size 24 #[.int .i64 cw, .int .i64 f.H, .slice ya yn yc, .slice ua un uc, .slice va vn vc] := (((Bx.new w _ _).alloc _).alloc _).ext hb1
  have k1 : Bn .i64 w1 41 (w.heap.size + 1) x := ((Bn.new' _ _ _ _ _ (by simp)).alloc _).ext hb1
  have y1 : Bx w1 (w.heap.size + 1 + 1) 24 #[.int .i64 0, .int .i64 0, .slice none 0 0, .slice none 0 0, .slice none 0 0] := (Bx.new' _ _ _ _ (by simp)).ext hb1
  clear hb1
  obtain ⟨c0, c1, c2, c3, c4⟩ := x1.cells5
  have hls := y1.lt
  go_upto_region 4 with fail
  clear c0 c1 c2 c3 c4 hmk
  have xA := x1.alloc S
  have kA := k1.alloc S
  have yA := y1.alloc S
  have sA : Bk (w1.alloc S) 5 w1.heap.size (List.replicate 64 0) := by rw [HS.out]; exact Bk.made w1 5 64
  have BA := B1.alloc B1.size S
  generalize w1.alloc S = wA at *
  generalize w1.heap.size = gs at *
  clear x1 k1 y1 B1
  clear w1
  go_wp2_with (refine wpList_ld64 rfl (.tmp 11) rfl (w.heap.size + 1) rfl kA HX.out ?_)
  go_loopw [34] (fun i wr => ∃ (j : Nat) (l : List Int), j ≤ 64 ∧ i = .int .i64 j ∧ Below w.heap.size w wr ∧ Bx wr w.heap.size 24 #[.int .i64 cw, .int .i64 f.H, .slice ya yn yc, .slice ua un uc, .slice va vn vc] ∧ Bx wr (w.heap.size + 1 + 1) 24 #[.int .i64 0, .int .i64 0, .slice none 0 0, .slice none 0 0, .slice none 0 0] ∧ Bk wr 5 gs l ∧ l.length = 64 ∧ (∀ q, q < j → l[q]? = (clipL x)[q]?)) (fun i _ => 64 - (intOf i).toNat)
  case atStart => exact ⟨0, _, Nat.zero_le _, rfl, BA, xA, yA, sA, by simp, fun q hq => absurd hq (by omega)⟩
  case round =>
    clear BA xA kA yA sA
    obtain ⟨j, l, hj, rfl, BA, xA, yA, sA, hl, hd⟩ := hrel
    have HL := Lib.hid hl
    have HD := Lib.hid hd
    clear hl hd
    by_cases hlt : j < 64
    · have hxj : x[j]? = some (x[j]'(by rw [HX.out]; exact hlt)) := List.getElem?_eq_getElem _
      generalize x[j]'(by rw [HX.out]; exact hlt) = y at hxj
      have hix := fun w => index64 HX.out hxj w
      have hcl : (clipL x)[j]? = some (clipI y) := by unfold clipL; rw [List.getElem?_map, hxj]; rfl
      obtain ⟨cy, hcy⟩ : ∃ c, c = clipI y := ⟨_, rfl⟩
      have hcr := clipI_rng y
      have hwu : IntKind.u8.wrap (min (max y 0) 255) = cy := by rw [hcy]; exact u8_in hcr.1 hcr.2
      rw [← hcy] at hcl hcr
      obtain ⟨z, hz', hcz⟩ := sA.cell_some (i := j) (by rw [HL.out]; exact hlt)
      have hfz := sA.frozen j
      have hgl := sA.lt
      have HCL := Lib.hid hcl
      have HCY := Lib.hid hcy
      clear hxj hcl hcy hz'
      have hj1 : (j : Int) < 64 := by omega
      go_wp2_with fail
      go_roundw
      case rel => exact ⟨j + 1, l.set j cy, by omega, by go_num, BA.setCell (by simp; omega) _, xA.far (by simp; omega) _, yA.far (by simp; omega) _, sA.set_ j cy, by rw [List.length_set]; exact HL.out, fun q hq => set_upto HL.out hlt HD.out HCL.out hq⟩
      case measure => simp [intOf]; omega
    · obtain rfl : j = 64 := by omega
      have hlb : l = clipL x := all_upto HL.out (by rw [clipL_len, HX.out]) HD.out
      subst hlb
      obtain ⟨c0, c1, c2, c3, c4⟩ := xA.cells5
      have hgl := sA.lt
      go_wp2_with fail
      clear c0 c1 c2 c3 c4
      refine (plane_clone (p := p) _ f _ (HF.out.ext BA) (by omega) (by omega) (by omega)).mono ?_
      rintro e w2 ⟨v2, g1, g2, g3, rfl, hO, hb2⟩
      have hv2 := hO.val
      subst hv2
      rw [HWC.out]
      have B2 := BA.trans (hb2.mono BA.size)
      have x2 := xA.ext hb2
      have y2 := yA.ext hb2
      have s2 := sA.ext hb2
      have hO1 := hO.b1
      have hO2 := hO.b2
      have hO3 := hO.b3
      have zr : wr.heap.size ≤ w2.heap.size := hb2.size
      have lx := xA.lt
      have ly := yA.lt
      clear hb2 xA yA sA BA
      go_upto_region 10 with fail
      have x3 := x2.alloc (.cells #[.int .i64 cw, .int .i64 f.H, .slice (some ⟨g1, 0, none⟩) f.Y.length f.Y.length, .slice (some ⟨g2, 0, none⟩) f.U.length f.U.length, .slice (some ⟨g3, 0, none⟩) f.V.length f.V.length] 24)
      have y3 := y2.alloc (.cells #[.int .i64 cw, .int .i64 f.H, .slice (some ⟨g1, 0, none⟩) f.Y.length f.Y.length, .slice (some ⟨g2, 0, none⟩) f.U.length f.U.length, .slice (some ⟨g3, 0, none⟩) f.V.length f.V.length] 24)
      have s3 := s2.alloc (.cells #[.int .i64 cw, .int .i64 f.H, .slice (some ⟨g1, 0, none⟩) f.Y.length f.Y.length, .slice (some ⟨g2, 0, none⟩) f.U.length f.U.length, .slice (some ⟨g3, 0, none⟩) f.V.length f.V.length] 24)
      have o3 := hO.ext ((Below.refl _ w2).alloc (Nat.le_refl _) (.cells #[.int .i64 cw, .int .i64 f.H, .slice (some ⟨g1, 0, none⟩) f.Y.length f.Y.length, .slice (some ⟨g2, 0, none⟩) f.U.length f.U.length, .slice (some ⟨g3, 0, none⟩) f.V.length f.V.length] 24))
      have t3 := Bx.new w2 24 #[.int .i64 cw, .int .i64 f.H, .slice (some ⟨g1, 0, none⟩) f.Y.length f.Y.length, .slice (some ⟨g2, 0, none⟩) f.U.length f.U.length, .slice (some ⟨g3, 0, none⟩) f.V.length f.V.length]
      have B3 := B2.alloc B2.size (.cells #[.int .i64 cw, .int .i64 f.H, .slice (some ⟨g1, 0, none⟩) f.Y.length f.Y.length, .slice (some ⟨g2, 0, none⟩) f.U.length f.U.length, .slice (some ⟨g3, 0, none⟩) f.V.length f.V.length] 24)
      generalize w2.alloc (.cells #[.int .i64 cw, .int .i64 f.H, .slice (some ⟨g1, 0, none⟩) f.Y.length f.Y.length, .slice (some ⟨g2, 0, none⟩) f.U.length f.U.length, .slice (some ⟨g3, 0, none⟩) f.V.length f.V.length] 24) = w3 at *
      have lg1 := hO.k1.lt
      have lg2 := hO.k2.lt
      have lg3 := hO.k3.lt
      generalize w2.heap.size = gt at *
      clear x2 y2 s2 B2 hO
      obtain ⟨c0, c1, c2, c3, c4⟩ := t3.cells5
      have d0 := x3.cell 0 rfl
      have q0 := x3.lt
      have q1 := y3.lt
      have q2 := t3.lt
      have q3 := s3.lt
      obtain ⟨gc, hcomp, hgc, kc, hfin⟩ := o3.pick n RY.out RU.out RV.out
      have HCP := Lib.hid hcomp
      have HFI := Lib.hid hfin
      have hgcl := kc.lt
      have ne1 : gs ≠ gc := by omega
      have ne2 : gt ≠ gc := by
        intro e
        have := t3
        have := kc
        rcases o3.pick n RY.out RU.out RV.out with ⟨gc', h1, _⟩
        unfold compS at h1 hcomp
        split at hcomp <;> (try split at hcomp) <;> (injection hcomp with h2; injection h2 with h2; injection h2 with h2; omega)
      clear hcomp hfin
      have hnp : ¬ ((· = gs) gc) := fun h => ne1 h.symm
      have hsb : Byt (· = gs) w3 (some ⟨gs, 0, none⟩) 64 (clipL x) := by
        have := s3.byt (p := (· = gs)) rfl (clipL_rng x)
        rwa [clipL_len, HX.out] at this
      go_region_held3 (fun w' => w'.cell? ⟨gt, 0, none⟩ = some (.int .i64 cw) ∧ w'.cell? ⟨gt, 1, none⟩ = some (.int .i64 f.H) ∧ w'.cell? ⟨gt, 2, none⟩ = some (.slice (some ⟨g1, 0, none⟩) f.Y.length f.Y.length) ∧ w'.cell? ⟨gt, 3, none⟩ = some (.slice (some ⟨g2, 0, none⟩) f.U.length f.U.length) ∧ w'.cell? ⟨gt, 4, none⟩ = some (.slice (some ⟨g3, 0, none⟩) f.V.length f.V.length) ∧ w'.cell? ⟨w.heap.size, 0, none⟩ = some (.int .i64 cw))
        (first | (refine ⟨?_, ?_, ?_, ?_, ?_, ?_⟩ <;> go_simp; done) | go_keep)
        (first
         | (go_at_call 52; ((with_reducible refine (plane_component_of HCP.out _).mono ?_); rintro e w4 ⟨rfl, hb4⟩; have hb4 : Below w3.heap.size w3 w4 := (by first | exact undrew (undrew hb4) | exact undrew hb4); obtain ⟨c_w4, z_w4⟩ := bcell hb4; have s_w4 := hb4.size; have q_4_0 : w.heap.size < w4.heap.size := (by omega); have q_4_1 : gt < w4.heap.size := (by omega)))
         | (go_at_call 53; ((with_reducible refine (HPL.out _).mono ?_); rintro e w5 ⟨rfl, hb5⟩; obtain ⟨c_w5, z_w5⟩ := bcell hb5; have q_5_0 : w.heap.size < w5.heap.size := (by have := hb5.size; omega); have q_5_1 : gt < w5.heap.size := (by have := hb5.size; omega)))
         | (go_at_call 49; ((with_reducible refine (plane_paste8 (p := (· = gs)) gc _ _ fr st (some ⟨gs, 0, none⟩) 64 (compL f n) (clipL x) _ ((kc.ext hb4).ext hb5) rfl (Nat.le_refl _) ((hsb.ext hb4).ext hb5) hnp (Nat.le_refl _) (by omega) (by omega) (by omega) HFIT.out).mono ?_); rintro e w6 ⟨rfl, k6, hg6⟩; have t6 := ((t3.ext hb4).ext hb5).grown hg6 (by simp [ne2]); have x6 := ((x3.ext hb4).ext hb5).grown hg6 (by simp; omega); obtain ⟨m0, m1, m2, m3, m4⟩ := t6.cells5; have m5 := x6.cell 0 rfl)))
      have u4 := hb4.size
      have u5 := hb5.size
      have u6 := hg6.size
      have y6 := ((y3.ext hb4).ext hb5).grown hg6 (by simp; omega)
      have B5 := (B3.trans (hb4.mono B3.size)).trans (hb5.mono (by have := B3.size; omega))
      have B6 := B5.grown hg6 (by omega) (fun k hk => by cases hk; omega)
      have hcl : PL.length = (compL f n).length := by rw [HPP.out]; exact pasteL_len 8 HFIT.out
      have hrg : ∀ z ∈ PL, 0 ≤ z ∧ z ≤ 255 := by
        rw [HPP.out]
        refine pasteL_rng ?_ (clipL_rng x) 8
        unfold compL
        split
        · exact RU.out
        · split
          · exact RV.out
          · exact RY.out
      rw [← HPP.out] at k6
      have o5 := (o3.ext hb4).ext hb5
      obtain ⟨gc', hcomp', _, _, hfin⟩ := o5.pick n RY.out RU.out RV.out
      have hgg : gc' = gc := by
        have := HCP.out.symm.trans hcomp'
        injection this with h2
        injection h2 with h2
        injection h2 with h2
        exact h2.symm
      subst hgg
      have hfr := hfin w6 PL hcl hrg k6 hg6
      obtain ⟨r0, r1, r2, r3, r4⟩ := y6.cells5
      have t0 := y6.frozen 0
      have t1 := y6.frozen 1
      have t2 := y6.frozen 2
      have t4 := y6.frozen 3
      have t5 := y6.frozen 4
      have lq := y6.lt
      have HFR := Lib.hid hfr
      clear hfin hcomp' hcl hrg o5 hfr
      go_wp2
      have np : ¬ (wr.heap.size ≤ w.heap.size + 1 + 1) := by omega
      rw [HWC.out] at HFR
      refine bodyPost_ret (v := .tuple #[.agg #[.int .i64 cw, .int .i64 f.H, .slice (some ⟨g1, 0, none⟩) f.Y.length f.Y.length, .slice (some ⟨g2, 0, none⟩) f.U.length f.U.length, .slice (some ⟨g3, 0, none⟩) f.V.length f.V.length], .int .i64 0]) (by simp only [results, Try.results33]; go_simp) rfl ⟨_, rfl, CapsOK.mk (Nat.le_refl _) (Nat.le_refl _) (Nat.le_refl _), ?_, ?_⟩
      · refine IsFr.mono (p := (wr.heap.size ≤ ·)) ?_ (fun b _ h => by omega)
        repeat refine IsFr.setCell ?_ np _
        exact HFR.out
      ·
        repeat (first | (with_reducible exact B6) | (with_reducible refine Below.setCell ?_ (by first | (simp; done) | (simp; omega)) _) | (with_reducible refine Below.alloc ?_ (by first | (simp; done) | (simp; omega)) _) | (with_reducible refine Below.drew ?_))
end Go.Proofs.Ytcboppldclknjaa
