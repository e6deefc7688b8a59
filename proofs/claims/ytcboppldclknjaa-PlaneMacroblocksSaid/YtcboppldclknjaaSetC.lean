/- The contract of SetBlock of the reference. -/
import Derived.Test.YtcboppldclknjaaSetB
namespace Go.Proofs.Ytcboppldclknjaa
open Go.RowKit

theorem Bx.put5 {w : World} {g : Nat} {t : TypeId} {a0 a1 a2 a3 a4 : Value} (h : Bx w g t #[a0, a1, a2, a3, a4]) (v0 v1 v2 v3 v4 : Value) :
    Bx (((((w.setCell ⟨g, 0, none⟩ v0).setCell ⟨g, 1, none⟩ v1).setCell ⟨g, 2, none⟩ v2).setCell ⟨g, 3, none⟩ v3).setCell ⟨g, 4, none⟩ v4) g t #[v0, v1, v2, v3, v4] :=
  ((((h.set_ 0 v0).set_ 1 v1).set_ 2 v2).set_ 3 v3).set_ 4 v4
theorem comp_pos {f : Fr} {n : Nat} (h1 : 0 < f.Y.length) (h2 : 0 < f.U.length) (h3 : 0 < f.V.length) : 0 < (compL f n).length := by
  unfold compL
  split
  · exact h2
  · split
    · exact h3
    · exact h1
theorem rows_isFr {B : Nat} {w : World} {f : Fr} {ya ua va : Option Addr} {yn yc un uc vn vc : Nat} (h : Rows3 B w f (.slice ya yn yc) (.slice ua un uc) (.slice va vn vc)) (rY : ∀ x ∈ f.Y, 0 ≤ x ∧ x ≤ 255) (rU : ∀ x ∈ f.U, 0 ≤ x ∧ x ≤ 255) (rV : ∀ x ∈ f.V, 0 ≤ x ∧ x ≤ 255) :
    IsFr (B ≤ ·) w (.agg #[.int .i64 f.W, .int .i64 f.H, .slice ya yn yc, .slice ua un uc, .slice va vn vc]) f := by
  obtain ⟨A1, c1, e1, _, b1⟩ := h.o1.retC (p := (B ≤ ·)) (fun _ h => h) rY
  obtain ⟨A2, c2, e2, _, b2⟩ := h.o2.retC (p := (B ≤ ·)) (fun _ h => h) rU
  obtain ⟨A3, c3, e3, _, b3⟩ := h.o3.retC (p := (B ≤ ·)) (fun _ h => h) rV
  injection e1 with p1 p2 p3
  injection e2 with q1 q2 q3
  injection e3 with r1 r2 r3
  subst p1 p2 p3 q1 q2 q3 r1 r2 r3
  exact ⟨_, _, _, _, _, _, _, _, _, rfl, b1, b2, b3⟩
theorem setComp_rng {f : Fr} {n : Nat} {l : List Int} (rY : ∀ x ∈ f.Y, 0 ≤ x ∧ x ≤ 255) (rU : ∀ x ∈ f.U, 0 ≤ x ∧ x ≤ 255) (rV : ∀ x ∈ f.V, 0 ≤ x ∧ x ≤ 255) (rl : ∀ x ∈ l, 0 ≤ x ∧ x ≤ 255) :
    (∀ x ∈ (setComp f n l).Y, 0 ≤ x ∧ x ≤ 255) ∧ (∀ x ∈ (setComp f n l).U, 0 ≤ x ∧ x ≤ 255) ∧ (∀ x ∈ (setComp f n l).V, 0 ≤ x ∧ x ≤ 255) := by
  unfold setComp
  split
  · exact ⟨rY, rl, rV⟩
  · split
    · exact ⟨rY, rU, rl⟩
    · exact ⟨rl, rU, rV⟩
theorem setBlkF_N {f : Fr} {mx my n N cw : Nat} {fd : Bool} {x : List Int} (hN : N = 64) (hc : f.W.toNat = cw) : setBlkF f mx my n fd x = setComp f n (setsL (compL f n) (placeN cw mx my n fd) (clipL x) N) := by
  subst hN hc; rfl

set_option maxRecDepth 4000 in
set_option maxHeartbeats 8000000 in
theorem ref_SetBlock_yes {p : Nat → Prop} (v : Value) (f : Fr) (mx my n a b : Nat) (fd : Bool) (x : List Int) (w : World) (hf : IsFr p w v f) (hxl : x.length = 64) (hh : hasB f mx my = true) (hn : n ≤ 5)
    (hW : f.W = ((16 * a : Nat) : Int)) (ha : a ≤ 4) (hx : mx < a) (hb : b ≤ 4) (hyb : my < b) (lY : f.Y.length = (16 * b) * (16 * a)) (lU : f.U.length = (8 * b) * (8 * a)) (lV : f.V.length = (8 * b) * (8 * a)) :
    Calls Try.prog 34 #[v, .int .i64 mx, .int .i64 my, .int .i64 n, .bool fd, .agg (rowN .i64 x)] w (RetFc w (setBlkF f mx my n fd x, 0)) := by
  have hf0 := hf
  have bY : f.Y.length ≤ 4096 := by rw [lY]; exact Nat.le_trans (Nat.mul_le_mul (show 16 * b ≤ 64 by omega) (show 16 * a ≤ 64 by omega)) (by omega)
  have bU : f.U.length ≤ 1024 := by rw [lU]; exact Nat.le_trans (Nat.mul_le_mul (show 8 * b ≤ 32 by omega) (show 8 * a ≤ 32 by omega)) (by omega)
  have bV : f.V.length ≤ 1024 := by rw [lV]; exact Nat.le_trans (Nat.mul_le_mul (show 8 * b ≤ 32 by omega) (show 8 * a ≤ 32 by omega)) (by omega)
  have pY : 0 < f.Y.length := by rw [lY]; exact Nat.mul_pos (by omega) (by omega)
  have pU : 0 < f.U.length := by rw [lU]; exact Nat.mul_pos (by omega) (by omega)
  have pV : 0 < f.V.length := by rw [lV]; exact Nat.mul_pos (by omega) (by omega)
  have HPT := Lib.hid (fun k (hk : k < 64) => place_lt (fd := fd) (k := k) hW hx hyb hn hk lY lU lV)
  obtain ⟨ya, yn, yc, ua, un, uc, va, vn, vc, rfl, hy, hu, hv⟩ := hf
  have RY := Lib.hid hy.rng
  have RU := Lib.hid hu.rng
  have RV := Lib.hid hv.rng
  have hWn : f.W.toNat = 16 * a := by omega
  rw [hWn] at HPT
  obtain ⟨cw, hcw⟩ : ∃ cw, cw = 16 * a := ⟨_, rfl⟩
  rw [← hcw] at HPT
  obtain ⟨N, hN⟩ : ∃ N, N = 64 := ⟨_, rfl⟩
  rw [setBlkF_N (cw := cw) hN (by omega)]
  have hWc : f.W = (cw : Int) := by omega
  have hcw2 : cw ≤ 64 := by omega
  rw [hWc] at hf0 ⊢
  have HWC := Lib.hid hWc
  have HF := Lib.hid hf0
  have HX := Lib.hid hxl
  have HN := Lib.hid hN
  have hmx : mx ≤ 3 := by omega
  have hmy : my ≤ 3 := by omega
  have hNn : ¬ ((N : Int) < 64) := by omega
  clear lY lU lV hWn hW hcw hy hu hv hWc hf0 hxl hN
  have hn6 : decide ((5 : Int) < (n : Int)) = false := decide_eq_false (by omega)
  go_enter Try.func34, Try.ntmps34
  go_wp2_with fail
  refine (ref_Has (p := p) _ f _ _ _ (by (repeat with_reducible apply IsFr.alloc); exact HF.out)).mono ?_
  rintro e w1 ⟨rfl, hb1⟩
  have B1 : Below w.heap.size w w1 := ((((Below.refl _ w).alloc (by simp) _).alloc (by simp) _).alloc (by simp; omega) _).trans (hb1.mono (by simp; omega))
  have x1 : Bx w1 w.heap.size 24 #[.int .i64 cw, .int .i64 f.H, .slice ya yn yc, .slice ua un uc, .slice va vn vc] := (((Bx.new w _ _).alloc _).alloc _).ext hb1
  have k1 : Bn .i64 w1 41 (w.heap.size + 1) x := ((Bn.new' _ _ _ _ _ (by simp)).alloc _).ext hb1
  have y1 : Bx w1 (w.heap.size + 1 + 1) 24 #[.int .i64 0, .int .i64 0, .slice none 0 0, .slice none 0 0, .slice none 0 0] := (Bx.new' _ _ _ _ (by simp)).ext hb1
  clear hb1
  obtain ⟨c0, c1, c2, c3, c4⟩ := x1.cells5
  have hls := y1.lt
  go_wp2_with fail
  clear c0 c1 c2 c3 c4
  refine (ref_Copy (p := p) _ f _ (HF.out.ext B1) (by omega) (by omega) (by omega)).mono ?_
  rintro e w2 ⟨v2, rfl, hc2, hf2, hor, hb2⟩
  obtain ⟨ya2, yn2, yc2, ua2, un2, uc2, va2, vn2, vc2, rfl, _, _, _⟩ := hf2
  obtain ⟨sy, su, sv, hveq, o1, o2, o3, s1, s2, s3⟩ := hor pY pU pV
  simp only [Value.agg.injEq, Array.mk.injEq, List.cons.injEq, and_true, true_and] at hveq
  obtain ⟨rfl, rfl, rfl⟩ := hveq
  have RW : Rows3 w1.heap.size w2 f (.slice ya2 yn2 yc2) (.slice ua2 un2 uc2) (.slice va2 vn2 vc2) := ⟨o1, o2, o3, s1, s2, s3⟩
  have hcap := hc2.out
  clear o1 o2 o3 s1 s2 s3 hor hc2
  rw [HWC.out]
  have B2 := B1.trans (hb2.mono B1.size)
  have x2 := x1.ext hb2
  have k2 := k1.ext hb2
  have y2 := y1.ext hb2
  have zz := hb2.size
  clear hb2 x1 k1 y1 B1
  obtain ⟨c0, c1, c2, c3, c4⟩ := x2.cells5
  have t0 := x2.frozen 0
  have t1 := x2.frozen 1
  have t2 := x2.frozen 2
  have t3 := x2.frozen 3
  have t4 := x2.frozen 4
  have lx := x2.lt
  generalize hBB : w1.heap.size = B at *
  clear hBB
  go_upto_region 4 with fail
  clear c0 c1 c2 c3 c4 t0 t1 t2 t3 t4
  have x3 := x2.put5 (.int .i64 cw) (.int .i64 f.H) (.slice ya2 yn2 yc2) (.slice ua2 un2 uc2) (.slice va2 vn2 vc2)
  have k3 : Bn .i64 (((((w2.setCell ⟨w.heap.size, 0, none⟩ (.int .i64 cw)).setCell ⟨w.heap.size, 1, none⟩ (.int .i64 f.H)).setCell ⟨w.heap.size, 2, none⟩ (.slice ya2 yn2 yc2)).setCell ⟨w.heap.size, 3, none⟩ (.slice ua2 un2 uc2)).setCell ⟨w.heap.size, 4, none⟩ (.slice va2 vn2 vc2)) 41 (w.heap.size + 1) x := ((((k2.far (by simp) _).far (by simp) _).far (by simp) _).far (by simp) _).far (by simp) _
  have y3 : Bx (((((w2.setCell ⟨w.heap.size, 0, none⟩ (.int .i64 cw)).setCell ⟨w.heap.size, 1, none⟩ (.int .i64 f.H)).setCell ⟨w.heap.size, 2, none⟩ (.slice ya2 yn2 yc2)).setCell ⟨w.heap.size, 3, none⟩ (.slice ua2 un2 uc2)).setCell ⟨w.heap.size, 4, none⟩ (.slice va2 vn2 vc2)) (w.heap.size + 1 + 1) 24 _ := ((((y2.far (by simp; omega) _).far (by simp; omega) _).far (by simp; omega) _).far (by simp; omega) _).far (by simp; omega) _
  have r3 : Rows3 B (((((w2.setCell ⟨w.heap.size, 0, none⟩ (.int .i64 cw)).setCell ⟨w.heap.size, 1, none⟩ (.int .i64 f.H)).setCell ⟨w.heap.size, 2, none⟩ (.slice ya2 yn2 yc2)).setCell ⟨w.heap.size, 3, none⟩ (.slice ua2 un2 uc2)).setCell ⟨w.heap.size, 4, none⟩ (.slice va2 vn2 vc2)) f (.slice ya2 yn2 yc2) (.slice ua2 un2 uc2) (.slice va2 vn2 vc2) := ((((RW.low (by simp; omega) _).low (by simp; omega) _).low (by simp; omega) _).low (by simp; omega) _).low (by simp; omega) _
  have B3 : Below w.heap.size w (((((w2.setCell ⟨w.heap.size, 0, none⟩ (.int .i64 cw)).setCell ⟨w.heap.size, 1, none⟩ (.int .i64 f.H)).setCell ⟨w.heap.size, 2, none⟩ (.slice ya2 yn2 yc2)).setCell ⟨w.heap.size, 3, none⟩ (.slice ua2 un2 uc2)).setCell ⟨w.heap.size, 4, none⟩ (.slice va2 vn2 vc2)) := ((((B2.setCell (by simp) _).setCell (by simp) _).setCell (by simp) _).setCell (by simp) _).setCell (by simp) _
  generalize ((((w2.setCell ⟨w.heap.size, 0, none⟩ (.int .i64 cw)).setCell ⟨w.heap.size, 1, none⟩ (.int .i64 f.H)).setCell ⟨w.heap.size, 2, none⟩ (.slice ya2 yn2 yc2)).setCell ⟨w.heap.size, 3, none⟩ (.slice ua2 un2 uc2)).setCell ⟨w.heap.size, 4, none⟩ (.slice va2 vn2 vc2) = w3 at *
  clear x2 k2 y2 RW B2
  have r3 : Rows3 B w3 (setComp f n (setsL (compL f n) (placeN cw mx my n fd) (clipL x) 0)) (.slice ya2 yn2 yc2) (.slice ua2 un2 uc2) (.slice va2 vn2 vc2) := by
    show Rows3 B w3 (setComp f n (compL f n)) _ _ _
    rw [setComp_self]
    exact r3
  go_wp2_with fail
  go_loopw [14] (fun i wr => ∃ j : Nat, j ≤ 64 ∧ i = .int .i64 j ∧ Below w.heap.size w wr ∧ Bx wr w.heap.size 24 #[.int .i64 cw, .int .i64 f.H, .slice ya2 yn2 yc2, .slice ua2 un2 uc2, .slice va2 vn2 vc2] ∧ Bn .i64 wr 41 (w.heap.size + 1) x ∧ Bx wr (w.heap.size + 1 + 1) 24 #[.int .i64 0, .int .i64 0, .slice none 0 0, .slice none 0 0, .slice none 0 0] ∧ Rows3 B wr (setComp f n (setsL (compL f n) (placeN cw mx my n fd) (clipL x) j)) (.slice ya2 yn2 yc2) (.slice ua2 un2 uc2) (.slice va2 vn2 vc2)) (fun i _ => 64 - (intOf i).toNat)
  case atStart => exact ⟨0, Nat.zero_le _, rfl, B3, x3, k3, y3, r3⟩
  case round =>
    clear B3 x3 k3 y3 r3
    obtain ⟨j, hj, rfl, BA, xA, kA, yA, rA⟩ := hrel
    by_cases hlt : j < 64
    · have hpt := HPT.out j hlt
      obtain ⟨pl, hpl⟩ : ∃ pl, pl = placeN cw mx my n fd j := ⟨_, rfl⟩
      obtain ⟨cl, hcl⟩ : ∃ l, l = setsL (compL f n) (placeN cw mx my n fd) (clipL x) j := ⟨_, rfl⟩
      have hclen : cl.length = (compL f n).length := by rw [hcl]; exact setsL_len _ _ _ _
      have hplc := ref_Place cw mx my n j fd
      rw [← hpl] at hpt hplc
      rw [← hclen] at hpt
      rw [← hcl] at rA
      obtain ⟨gc, cap, hcomp, hgc, hgl, hcp, hcells, hfz, hput⟩ := rA.pick n (by rw [compL_set, hclen]; exact comp_pos pY pU pV)
      rw [compL_set] at hcomp hcp hcells hput
      obtain ⟨y, hy', hcy⟩ := kA.cell_some (i := j) (by rw [HX.out]; exact hlt)
      obtain ⟨z, hz⟩ : ∃ z, cl[pl]? = some z := ⟨_, List.getElem?_eq_getElem hpt⟩
      have hcz := hcells pl z hz
      have hfz := hfz pl
      have hcl2 : (clipL x).getD j 0 = clipI y := by unfold clipL; rw [List.getD_eq_getElem?_getD, List.getElem?_map, hy']; rfl
      have hnext : setsL (compL f n) (placeN cw mx my n fd) (clipL x) (j + 1) = cl.set pl (clipI y) := by rw [setsL, ← hcl, ← hpl, hcl2]
      have hP := hput pl (clipI y) hpt
      rw [setComp_set, ← hnext] at hP
      obtain ⟨m, hm⟩ : ∃ m, m = cl.length := ⟨_, rfl⟩
      rw [← hm] at hcomp hcp hpt
      have HCM := Lib.hid hcomp
      have HPC := Lib.hid hplc
      have HPU := Lib.hid (fun (w' : World) (hb : Below wr.heap.size wr w') => (rA.ext hb).pick n (by rw [compL_set, hclen]; exact comp_pos pY pU pV))
      have HNX := Lib.hid hnext
      have HZ := Lib.hid hz
      have HCE := Lib.hid hclen
      have HM := Lib.hid hm
      have ccr := clipI_rng y
      have HPLD := Lib.hid hpl
      clear hcomp hplc hput hnext hP hz hclen hm hcells hy' hcl2 hcl hpl
      have hj1 : (j : Int) < 64 := by omega
      have i1 : (0 : Int) ≤ (pl : Int) := by omega
      have i2 : (pl : Int) < (m : Int) := by omega
      have i3 : (0 : Int) ≤ (j : Int) := by omega
      obtain ⟨c0, c1, c2, c3, c4⟩ := xA.cells5
      have q0 := xA.lt
      have q1 := kA.lt
      have q2 := yA.lt
      have ne1 : w.heap.size ≠ gc := by omega
      have ne2 : w.heap.size + 1 ≠ gc := by omega
      go_wp2_with fail
      go_region_held3 (fun w' => w'.cell? ⟨w.heap.size, 0, none⟩ = some (.int .i64 cw) ∧ w'.cell? ⟨w.heap.size, 1, none⟩ = some (.int .i64 f.H) ∧ w'.cell? ⟨w.heap.size, 2, none⟩ = some (.slice ya2 yn2 yc2) ∧ w'.cell? ⟨w.heap.size, 3, none⟩ = some (.slice ua2 un2 uc2) ∧ w'.cell? ⟨w.heap.size, 4, none⟩ = some (.slice va2 vn2 vc2) ∧ w'.cell? ⟨w.heap.size + 1, j, none⟩ = some (.int .i64 y))
        (first | (refine ⟨?_, ?_, ?_, ?_, ?_, ?_⟩ <;> go_simp; done) | go_keep)
        (first
         | (go_at_call 55; ((with_reducible refine (ref_Plane_of HCM.out _).mono ?_); rintro e w4 ⟨rfl, hb4⟩; have hb4 : Below wr.heap.size wr w4 := (by first | exact undrew (undrew hb4) | exact undrew hb4); obtain ⟨c_w4, z_w4⟩ := bcell hb4; have s_w4 := hb4.size; have q_4_0 : w.heap.size < w4.heap.size := (by omega); have q_4_1 : gc < w4.heap.size := (by omega)))
         | (go_at_call 56; ((with_reducible refine (HPC.out _ hcw2 hmx hmy hn hlt).mono ?_); rintro e w5 ⟨rfl, rfl⟩))
         | (go_at_call 58; ((with_reducible refine (ref_Clip y _).mono ?_); rintro e w6 ⟨rfl, rfl⟩)))
      go_wp2_with fail
      obtain ⟨gc', cap', hcomp', _, _, _, _, _, hput'⟩ := HPU.out w4 hb4
      rw [compL_set] at hcomp' hput'
      have hgg : gc' = gc := by
        have := HCM.out.symm.trans hcomp'
        injection this with h2
        injection h2 with h2
        injection h2 with h2
        exact h2.symm
      subst hgg
      have hP := hput' pl (clipI y) (by rw [← HM.out]; exact hpt)
      rw [setComp_set, ← HNX.out] at hP
      have HP := Lib.hid hP
      clear hput' hcomp' hP
      go_roundw
      case rel => exact ⟨j + 1, by omega, by go_num, (BA.trans (hb4.mono BA.size)).setCell (by simp; omega) _, (xA.ext hb4).far (by simp; omega) _, (kA.ext hb4).far (by simp; omega) _, (yA.ext hb4).far (by simp; omega) _, HP.out⟩
      case measure => simp [intOf]; omega
    · obtain rfl : j = N := by have := HN.out; omega
      obtain ⟨c0, c1, c2, c3, c4⟩ := xA.cells5
      obtain ⟨r0, r1, r2, r3, r4⟩ := yA.cells5
      have t0 := yA.frozen 0
      have t1 := yA.frozen 1
      have t2 := yA.frozen 2
      have t3 := yA.frozen 3
      have t4 := yA.frozen 4
      have lq := yA.lt
      have lx2 := xA.lt
      go_wp2_with fail
      have hrl : ∀ z ∈ setsL (compL f n) (placeN cw mx my n fd) (clipL x) j, 0 ≤ z ∧ z ≤ 255 := by
        refine setsL_rng ?_ (clipL_rng x) j
        unfold compL
        split
        · exact RU.out
        · split
          · exact RV.out
          · exact RY.out
      obtain ⟨g1, g2, g3⟩ := setComp_rng (n := n) RY.out RU.out RV.out hrl
      have hfin := rows_isFr rA g1 g2 g3
      rw [(setComp_WH f n _).1, (setComp_WH f n _).2, HWC.out] at hfin
      have np : ¬ (B ≤ w.heap.size + 1 + 1) := by omega
      refine bodyPost_ret (v := .tuple #[.agg #[.int .i64 cw, .int .i64 f.H, .slice ya2 yn2 yc2, .slice ua2 un2 uc2, .slice va2 vn2 vc2], .int .i64 0]) (by simp only [results, Try.results34]; go_simp) rfl ⟨_, rfl, CapsOK.mk hcap.1 hcap.2.1 hcap.2.2, ?_, ?_⟩
      · refine IsFr.mono (p := (B ≤ ·)) ?_ (fun b _ h => by omega)
        repeat refine IsFr.setCell ?_ np _
        exact hfin
      ·
        repeat (first | (with_reducible exact BA) | (with_reducible refine Below.setCell ?_ (by first | (simp; done) | (simp; omega)) _) | (with_reducible refine Below.alloc ?_ (by first | (simp; done) | (simp; omega)) _) | (with_reducible refine Below.drew ?_))
end Go.Proofs.Ytcboppldclknjaa
