/- cadence.alike. -/
import Derived.Test.YtclainbjidajbaaVal
namespace Go.Proofs.Ytclainbjidajbaa
open Go.RowKit

def hdF (fs : List Fr) : Fr := fs.headD ⟨0, 0, [], [], []⟩
def okF (fs : List Fr) (f : Fr) : Bool := validF f && (decide (f.W = (hdF fs).W) && decide (f.H = (hdF fs).H))
def alikeF (fs : List Fr) : Bool := fs.all (okF fs)
theorem alikeF_true {fs : List Fr} {n : Nat} (hl : fs.length = n) (h : ∀ j f, j < n → fs[j]? = some f → okF fs f = true) : alikeF fs = true := by
  unfold alikeF
  rw [List.all_eq_true]
  intro f hf
  obtain ⟨j, hj⟩ := List.mem_iff_getElem?.1 hf
  exact h j f (by have := (List.getElem?_eq_some_iff.1 hj).1; omega) hj
theorem alikeF_false {fs : List Fr} {j : Nat} {f : Fr} (hj : fs[j]? = some f) (h : okF fs f = false) : alikeF fs = false := by
  unfold alikeF
  rw [List.all_eq_false]
  exact ⟨f, List.mem_of_getElem? hj, by simp [h]⟩
theorem frs_at {xs : List FA} {k : Nat} {x : FA} (h : xs[k]? = some x) : (frs xs)[k]? = some x.f := by simp [frs, h]
theorem hdF_at {xs : List FA} {x : FA} (h : xs[0]? = some x) : hdF (frs xs) = x.f := by
  cases xs with
  | nil => simp at h
  | cons a xs => simp at h; subst h; rfl

def cad_alikeVV (W H W0 H0 : Int) (b off g n c k : Nat) (xv : Value) : Nat → Value
  | 0 => xv
  | 1 => .bool false
  | 2 => .bool true
  | 3 => .bool true
  | 4 => undef
  | 5 => undef
  | 6 => undef
  | 7 => undef
  | 8 => undef
  | 9 => undef
  | 10 => undef
  | 11 => .bool true
  | 12 => .bool true
  | 13 => undef
  | 14 => undef
  | 15 => undef
  | 16 => undef
  | 17 => undef
  | 18 => undef
  | 19 => undef
  | _ => .bool true
def cad_alikeVW (W H W0 H0 : Int) (b off g n c k : Nat) (xv : Value) : Nat → Value
  | 0 => xv
  | 1 => .bool true
  | 2 => .bool false
  | 3 => .bool false
  | 4 => .pointer (some ⟨g, 0, none⟩)
  | 5 => .int .i64 W
  | 6 => .slice (some ⟨b, off, none⟩) n c
  | 7 => .pointer (some ⟨b, off, none⟩)
  | 8 => .pointer (some ⟨b, off, none⟩)
  | 9 => .int .i64 W0
  | 10 => .bool true
  | 11 => .bool true
  | 12 => .bool true
  | 13 => undef
  | 14 => undef
  | 15 => undef
  | 16 => undef
  | 17 => undef
  | 18 => undef
  | 19 => undef
  | _ => .bool true
def cad_alikeVE (W H W0 H0 : Int) (b off g n c k : Nat) (xv : Value) : Nat → Value
  | 0 => xv
  | 1 => .bool true
  | 2 => .bool false
  | 3 => .bool false
  | 4 => .pointer (some ⟨g, 0, none⟩)
  | 5 => .int .i64 W
  | 6 => .slice (some ⟨b, off, none⟩) n c
  | 7 => .pointer (some ⟨b, off, none⟩)
  | 8 => .pointer (some ⟨b, off, none⟩)
  | 9 => .int .i64 W0
  | 10 => .bool false
  | 11 => .bool false
  | 12 => .bool false
  | 13 => .pointer (some ⟨g, 1, none⟩)
  | 14 => .int .i64 H
  | 15 => .slice (some ⟨b, off, none⟩) n c
  | 16 => .pointer (some ⟨b, off, none⟩)
  | 17 => .pointer (some ⟨b, off + 1, none⟩)
  | 18 => .int .i64 H0
  | 19 => .bool (H != H0)
  | _ => .bool (H != H0)

set_option maxRecDepth 100000 in
set_option maxHeartbeats 4000000 in
theorem cad_alike {p q : Nat → Prop} (A : Option Addr) (n c : Nat) (xs : List FA) (w : World) (h : Frs p q w A n xs) (hn : n ≤ 100000000000000) :
    Calls Try.prog 24 #[.slice A n c] w fun e w' => e = .returned (.bool (alikeF (frs xs))) ∧ Below w.heap.size w w' := by
  have H := Lib.hid h
  have HL : Hid ((frs xs).length = n) := Lib.hid (by simp [frs, h.1])
  clear h
  go_enter Try.func24, Try.ntmps24
  go_wp2_with fail
  go_loopw [7] (fun i wr => ∃ k : Nat, k ≤ n ∧ i = .int .i64 (k : Int) ∧ (∀ j f, j < k → (frs xs)[j]? = some f → okF (frs xs) f = true) ∧ Below w.heap.size w wr) (fun i _ => n - (intOf i).toNat)
  case atStart => exact ⟨0, Nat.zero_le _, rfl, fun j f hj => absurd hj (Nat.not_lt_zero _), Below.refl _ _⟩
  case round =>
    obtain ⟨k, hk, rfl, hok, hb⟩ := hrel
    have HOK := Lib.hid hok
    clear hok
    by_cases hlt : k < n
    · obtain ⟨b, off, x, rfl, hbl, hx, hox, hc0, hc1, hc2, hc3, hc4⟩ := (H.out.ext hb).at_ hlt
      obtain ⟨b', off', y, hA', hbl', hy, hoy, hd0, hd1, hd2, hd3, hd4⟩ := (H.out.ext hb).at_ (show 0 < n by omega)
      injection hA' with hA'
      injection hA' with e1 e2
      subst e1 e2
      simp only [Nat.zero_mul, Nat.add_zero, Nat.zero_add] at hd0 hd1
      have HXX := Lib.hid (frs_at hx)
      have HHD := Lib.hid (hdF_at hy)
      have i0 : (0 : Int) ≤ (k : Int) := by omega
      have i1 : (k : Int) < (n : Int) := by omega
      have i2 : (0 : Int) < (n : Int) := by omega
      have i3 : 0 < n := by omega
      obtain ⟨W, hW⟩ : ∃ W, x.f.W = W := ⟨_, rfl⟩
      obtain ⟨Hh, hH⟩ : ∃ W, x.f.H = W := ⟨_, rfl⟩
      obtain ⟨W0, hW0⟩ : ∃ W, y.f.W = W := ⟨_, rfl⟩
      obtain ⟨H0, hH0⟩ : ∃ W, y.f.H = W := ⟨_, rfl⟩
      have HV := Lib.hid (fun w h => cad_valid (q := q) x w h)
      rw [hW0] at hd0
      rw [hH0] at hd1
      rw [hW] at hc0
      rw [hH] at hc1
      have HWW := Lib.hid hW
      have HHH := Lib.hid hH
      have HW0 := Lib.hid hW0
      have HH0 := Lib.hid hH0
      clear hx hy hd2 hd3 hd4 hoy hW hH hW0 hH0
      have xb := Bx.new wr 27 #[.int .i64 x.f.W, .int .i64 x.f.H, .slice x.ya x.yn x.yc, .slice x.ua x.un x.uc, .slice x.va x.vn x.vc]
      rw [HWW.out, HHH.out] at xb
      have B0 := hb.alloc hb.size (.cells #[.int .i64 W, .int .i64 Hh, .slice x.ya x.yn x.yc, .slice x.ua x.un x.uc, .slice x.va x.vn x.vc] 27)
      have HX := Lib.hid (hox.alloc (.cells #[.int .i64 W, .int .i64 Hh, .slice x.ya x.yn x.yc, .slice x.ua x.un x.uc, .slice x.va x.vn x.vc] 27))
      have BA := (Below.refl wr.heap.size wr).alloc (Nat.le_refl _) (.cells #[.int .i64 W, .int .i64 Hh, .slice x.ya x.yn x.yc, .slice x.ua x.un x.uc, .slice x.va x.vn x.vc] 27)
      have ed0 := (BA.cell (p := ⟨b, off, none⟩) hbl).trans hd0
      have ed1 := (BA.cell (p := ⟨b, off + 1, none⟩) hbl).trans hd1
      go_upto_region 4 with fail
      generalize wr.alloc (.cells #[.int .i64 W, .int .i64 Hh, .slice x.ya x.yn x.yc, .slice x.ua x.un x.uc, .slice x.va x.vn x.vc] 27) = Wx at *
      have hblx : b < Wx.heap.size := by have := BA.size; omega
      have HXB := Lib.hid xb
      have HE0 := Lib.hid ed0
      have HE1 := Lib.hid ed1
      clear xb ed0 ed1 BA hox hc0 hc1 hc2 hc3 hc4 hd0 hd1
      have HB0 := Lib.hid B0
      clear B0
      have hokF : okF (frs xs) x.f = (validF x.f && (decide (W = W0) && decide (Hh = H0))) := by unfold okF; rw [HHD.out, HWW.out, HHH.out, HW0.out, HH0.out]
      have HOF := Lib.hid hokF
      clear hokF
      cases hv : validF x.f with
      | false =>
        have HVV := Lib.hid hv
        clear hv
        refine wp_region_fixedW (cad_alikeVV W Hh W0 H0 b off wr.heap.size n c k x.val) (fun _ w' => Below Wx.heap.size Wx w') (by kernel_rfl) (by kernel_rfl) (by kernel_rfl) ?h0 ?hstep ?hend
        case h0 => exact (Below.refl _ _).drew
        case hstep =>
          intro k o ho D ac wx fr hG hcl hDi hpre
          have x0 : wx.cell? ⟨wr.heap.size, 0, none⟩ = some (.int .i64 W) := (HXB.out.ext hG).cell 0 rfl
          have x1 : wx.cell? ⟨wr.heap.size, 1, none⟩ = some (.int .i64 Hh) := (HXB.out.ext hG).cell 1 rfl
          have x2 : wx.cell? ⟨wr.heap.size, 2, none⟩ = some (.slice x.ya x.yn x.yc) := (HXB.out.ext hG).cell 2 rfl
          have x3 : wx.cell? ⟨wr.heap.size, 3, none⟩ = some (.slice x.ua x.un x.uc) := (HXB.out.ext hG).cell 3 rfl
          have x4 : wx.cell? ⟨wr.heap.size, 4, none⟩ = some (.slice x.va x.vn x.vc) := (HXB.out.ext hG).cell 4 rfl
          have ed0 : wx.cell? ⟨b, off, none⟩ = some (.int .i64 W0) := (hG.cell (p := ⟨b, off, none⟩) hblx).trans HE0.out
          have ed1 : wx.cell? ⟨b, off + 1, none⟩ = some (.int .i64 H0) := (hG.cell (p := ⟨b, off + 1, none⟩) hblx).trans HE1.out
          have o0 : ac.tmps[0]?.getD undef = .slice (some ⟨b, off, none⟩) n c := fr.oldT 0 rfl
          have o4 : ac.tmps[4]?.getD undef = .pointer (some ⟨wr.heap.size, 0, none⟩) := fr.oldT 4 rfl
          have hkn : k < 21 := (List.getElem?_eq_some_iff.1 ho).1
          rcases (show k = 0 ∨ k = 1 ∨ k = 2 ∨ k = 3 ∨ k = 4 ∨ k = 5 ∨ k = 6 ∨ k = 7 ∨ k = 8 ∨ k = 9 ∨ k = 10 ∨ k = 11 ∨ k = 12 ∨ k = 13 ∨ k = 14 ∨ k = 15 ∨ k = 16 ∨ k = 17 ∨ k = 18 ∨ k = 19 ∨ k = 20 by omega) with rfl | rfl | rfl | rfl | rfl | rfl | rfl | rfl | rfl | rfl | rfl | rfl | rfl | rfl | rfl | rfl | rfl | rfl | rfl | rfl | rfl
          all_goals (simp only [List.getElem?_cons_zero, List.getElem?_cons_succ, Option.some.injEq] at ho; subst ho)
          · refine ⟨true, rfl, fun _ => wp_value (w' := wx) ?_ ⟨rfl, hG⟩, (fun h => by cases h)⟩
            simp [execOp, o4, cad_alikeVV, go_sem, x0, x1, x2, x3, x4, FA.val, HWW.out, HHH.out]
          · have f0 := fr.atT 0 (hpre ⟨0, .data⟩ (by simp) rfl) rfl
            have e0 := fr.at_ 0 (hpre ⟨0, .data⟩ (by simp) rfl) rfl
            refine ⟨true, rfl, fun _ => ?_, (fun h => by cases h)⟩
            refine wp_called (f := 39) (args := #[x.val]) ?_ (HV.out _ (HX.out.ext hG)) ?_
            · simp [execOp, resolve, invoke, f0, e0, cad_alikeVV, go_sem]
            · rintro e w' ⟨rfl, hb9⟩
              rw [HVV.out]
              exact ⟨_, rfl, rfl, hG.trans (hb9.mono hG.size)⟩
          · have f1 := fr.atT 1 (hpre ⟨1, .data⟩ (by simp) rfl) rfl
            refine ⟨true, rfl, fun _ => wp_value (w' := wx) ?_ ⟨rfl, hG⟩, (fun h => by cases h)⟩
            simp [execOp, f1, cad_alikeVV, go_sem]
          · have f2 := fr.atT 2 (hpre ⟨2, .data⟩ (by simp) rfl) rfl
            refine ⟨true, rfl, fun _ => wp_value (w' := wx) ?_ ⟨rfl, hG⟩, (fun h => by cases h)⟩
            simp [execOp, f2, cad_alikeVV, go_sem]
          · have dg : D 3 = true := hpre ⟨3, .guard⟩ (by simp) rfl
            exact ⟨false, (wanted_of (x := true) (want := false) (j := 3) fr rfl dg rfl rfl).trans rfl, (fun h => by cases h), fun _ => ⟨rfl, hG⟩⟩
          · have dg : D 3 = true := hpre ⟨3, .guard⟩ (by simp) rfl
            exact ⟨false, (wanted_of (x := true) (want := false) (j := 3) fr rfl dg rfl rfl).trans rfl, (fun h => by cases h), fun _ => ⟨rfl, hG⟩⟩
          · have dg : D 3 = true := hpre ⟨3, .guard⟩ (by simp) rfl
            exact ⟨false, (wanted_of (x := true) (want := false) (j := 3) fr rfl dg rfl rfl).trans rfl, (fun h => by cases h), fun _ => ⟨rfl, hG⟩⟩
          · have dg : D 3 = true := hpre ⟨3, .guard⟩ (by simp) rfl
            exact ⟨false, (wanted_of (x := true) (want := false) (j := 3) fr rfl dg rfl rfl).trans rfl, (fun h => by cases h), fun _ => ⟨rfl, hG⟩⟩
          · have dg : D 3 = true := hpre ⟨3, .guard⟩ (by simp) rfl
            exact ⟨false, (wanted_of (x := true) (want := false) (j := 3) fr rfl dg rfl rfl).trans rfl, (fun h => by cases h), fun _ => ⟨rfl, hG⟩⟩
          · have dg : D 3 = true := hpre ⟨3, .guard⟩ (by simp) rfl
            exact ⟨false, (wanted_of (x := true) (want := false) (j := 3) fr rfl dg rfl rfl).trans rfl, (fun h => by cases h), fun _ => ⟨rfl, hG⟩⟩
          · have dg : D 3 = true := hpre ⟨3, .guard⟩ (by simp) rfl
            exact ⟨false, (wanted_of (x := true) (want := false) (j := 3) fr rfl dg rfl rfl).trans rfl, (fun h => by cases h), fun _ => ⟨rfl, hG⟩⟩
          · have f3 := fr.atT 3 (hpre ⟨3, .data⟩ (by simp) rfl) rfl
            have f10 := fr.atT 10 (hpre ⟨10, .data⟩ (by simp) rfl) rfl
            refine ⟨true, rfl, fun _ => wp_value (w' := wx) ?_ ⟨rfl, hG⟩, (fun h => by cases h)⟩
            simp [execOp, f3, f10, cad_alikeVV, go_sem]
          · have f11 := fr.atT 11 (hpre ⟨11, .data⟩ (by simp) rfl) rfl
            refine ⟨true, rfl, fun _ => wp_value (w' := wx) ?_ ⟨rfl, hG⟩, (fun h => by cases h)⟩
            simp [execOp, f11, cad_alikeVV, go_sem]
          · have dg : D 12 = true := hpre ⟨12, .guard⟩ (by simp) rfl
            exact ⟨false, (wanted_of (x := true) (want := false) (j := 12) fr rfl dg rfl rfl).trans rfl, (fun h => by cases h), fun _ => ⟨rfl, hG⟩⟩
          · have dg : D 12 = true := hpre ⟨12, .guard⟩ (by simp) rfl
            exact ⟨false, (wanted_of (x := true) (want := false) (j := 12) fr rfl dg rfl rfl).trans rfl, (fun h => by cases h), fun _ => ⟨rfl, hG⟩⟩
          · have dg : D 12 = true := hpre ⟨12, .guard⟩ (by simp) rfl
            exact ⟨false, (wanted_of (x := true) (want := false) (j := 12) fr rfl dg rfl rfl).trans rfl, (fun h => by cases h), fun _ => ⟨rfl, hG⟩⟩
          · have dg : D 12 = true := hpre ⟨12, .guard⟩ (by simp) rfl
            exact ⟨false, (wanted_of (x := true) (want := false) (j := 12) fr rfl dg rfl rfl).trans rfl, (fun h => by cases h), fun _ => ⟨rfl, hG⟩⟩
          · have dg : D 12 = true := hpre ⟨12, .guard⟩ (by simp) rfl
            exact ⟨false, (wanted_of (x := true) (want := false) (j := 12) fr rfl dg rfl rfl).trans rfl, (fun h => by cases h), fun _ => ⟨rfl, hG⟩⟩
          · have dg : D 12 = true := hpre ⟨12, .guard⟩ (by simp) rfl
            exact ⟨false, (wanted_of (x := true) (want := false) (j := 12) fr rfl dg rfl rfl).trans rfl, (fun h => by cases h), fun _ => ⟨rfl, hG⟩⟩
          · have dg : D 12 = true := hpre ⟨12, .guard⟩ (by simp) rfl
            exact ⟨false, (wanted_of (x := true) (want := false) (j := 12) fr rfl dg rfl rfl).trans rfl, (fun h => by cases h), fun _ => ⟨rfl, hG⟩⟩
          · have f12 := fr.atT 12 (hpre ⟨12, .data⟩ (by simp) rfl) rfl
            have f19 := fr.atT 19 (hpre ⟨19, .data⟩ (by simp) rfl) rfl
            refine ⟨true, rfl, fun _ => wp_value (w' := wx) ?_ ⟨rfl, hG⟩, (fun h => by cases h)⟩
            simp [execOp, f12, f19, cad_alikeVV, go_sem]
        case hend =>
          intro D w7 hG hall
          have B7 := HB0.out.trans (hG.mono HB0.out.size)
          simp only [putsU, Act.put, List.setIfInBounds_toArray, List.set_cons_succ, List.set_cons_zero, Nat.zero_add, Nat.reduceAdd, cad_alikeVV]
          clear hG hall
          go_wp2_with fail
          go_ret
          exact ⟨ret_bool (alikeF_false HXX.out (by rw [HOF.out, HVV.out]; rfl)).symm, B7⟩
      | true =>
        have HVV := Lib.hid hv
        clear hv
        by_cases hw : W = W0
        · refine wp_region_fixedW (cad_alikeVE W Hh W0 H0 b off wr.heap.size n c k x.val) (fun _ w' => Below Wx.heap.size Wx w') (by kernel_rfl) (by kernel_rfl) (by kernel_rfl) ?h0 ?hstep ?hend
          case h0 => exact (Below.refl _ _).drew
          case hstep =>
            intro k o ho D ac wx fr hG hcl hDi hpre
            have x0 : wx.cell? ⟨wr.heap.size, 0, none⟩ = some (.int .i64 W) := (HXB.out.ext hG).cell 0 rfl
            have x1 : wx.cell? ⟨wr.heap.size, 1, none⟩ = some (.int .i64 Hh) := (HXB.out.ext hG).cell 1 rfl
            have x2 : wx.cell? ⟨wr.heap.size, 2, none⟩ = some (.slice x.ya x.yn x.yc) := (HXB.out.ext hG).cell 2 rfl
            have x3 : wx.cell? ⟨wr.heap.size, 3, none⟩ = some (.slice x.ua x.un x.uc) := (HXB.out.ext hG).cell 3 rfl
            have x4 : wx.cell? ⟨wr.heap.size, 4, none⟩ = some (.slice x.va x.vn x.vc) := (HXB.out.ext hG).cell 4 rfl
            have ed0 : wx.cell? ⟨b, off, none⟩ = some (.int .i64 W0) := (hG.cell (p := ⟨b, off, none⟩) hblx).trans HE0.out
            have ed1 : wx.cell? ⟨b, off + 1, none⟩ = some (.int .i64 H0) := (hG.cell (p := ⟨b, off + 1, none⟩) hblx).trans HE1.out
            have o0 : ac.tmps[0]?.getD undef = .slice (some ⟨b, off, none⟩) n c := fr.oldT 0 rfl
            have o4 : ac.tmps[4]?.getD undef = .pointer (some ⟨wr.heap.size, 0, none⟩) := fr.oldT 4 rfl
            have hkn : k < 21 := (List.getElem?_eq_some_iff.1 ho).1
            rcases (show k = 0 ∨ k = 1 ∨ k = 2 ∨ k = 3 ∨ k = 4 ∨ k = 5 ∨ k = 6 ∨ k = 7 ∨ k = 8 ∨ k = 9 ∨ k = 10 ∨ k = 11 ∨ k = 12 ∨ k = 13 ∨ k = 14 ∨ k = 15 ∨ k = 16 ∨ k = 17 ∨ k = 18 ∨ k = 19 ∨ k = 20 by omega) with rfl | rfl | rfl | rfl | rfl | rfl | rfl | rfl | rfl | rfl | rfl | rfl | rfl | rfl | rfl | rfl | rfl | rfl | rfl | rfl | rfl
            all_goals (simp only [List.getElem?_cons_zero, List.getElem?_cons_succ, Option.some.injEq] at ho; subst ho)
            · refine ⟨true, rfl, fun _ => wp_value (w' := wx) ?_ ⟨rfl, hG⟩, (fun h => by cases h)⟩
              simp [execOp, o4, cad_alikeVE, go_sem, x0, x1, x2, x3, x4, FA.val, HWW.out, HHH.out]
            · have f0 := fr.atT 0 (hpre ⟨0, .data⟩ (by simp) rfl) rfl
              have e0 := fr.at_ 0 (hpre ⟨0, .data⟩ (by simp) rfl) rfl
              refine ⟨true, rfl, fun _ => ?_, (fun h => by cases h)⟩
              refine wp_called (f := 39) (args := #[x.val]) ?_ (HV.out _ (HX.out.ext hG)) ?_
              · simp [execOp, resolve, invoke, f0, e0, cad_alikeVE, go_sem]
              · rintro e w' ⟨rfl, hb9⟩
                rw [HVV.out]
                exact ⟨_, rfl, rfl, hG.trans (hb9.mono hG.size)⟩
            · have f1 := fr.atT 1 (hpre ⟨1, .data⟩ (by simp) rfl) rfl
              refine ⟨true, rfl, fun _ => wp_value (w' := wx) ?_ ⟨rfl, hG⟩, (fun h => by cases h)⟩
              simp [execOp, f1, cad_alikeVE, go_sem]
            · have f2 := fr.atT 2 (hpre ⟨2, .data⟩ (by simp) rfl) rfl
              refine ⟨true, rfl, fun _ => wp_value (w' := wx) ?_ ⟨rfl, hG⟩, (fun h => by cases h)⟩
              simp [execOp, f2, cad_alikeVE, go_sem]
            · have dg : D 3 = true := hpre ⟨3, .guard⟩ (by simp) rfl
              refine ⟨true, (wanted_of (x := false) (want := false) (j := 3) fr rfl dg rfl rfl).trans rfl, fun _ => wp_value (w' := wx) ?_ ⟨rfl, hG⟩, (fun h => by cases h)⟩
              simp [execOp, o4, cad_alikeVE, go_sem]
            · have dg : D 3 = true := hpre ⟨3, .guard⟩ (by simp) rfl
              have f4 := fr.atT 4 (hpre ⟨4, .data⟩ (by simp) rfl) rfl
              refine ⟨true, (wanted_of (x := false) (want := false) (j := 3) fr rfl dg rfl rfl).trans rfl, fun _ => wp_value (w' := wx) ?_ ⟨rfl, hG⟩, (fun h => by cases h)⟩
              simp [execOp, f4, cad_alikeVE, go_sem, x0]
            · have dg : D 3 = true := hpre ⟨3, .guard⟩ (by simp) rfl
              refine ⟨true, (wanted_of (x := false) (want := false) (j := 3) fr rfl dg rfl rfl).trans rfl, fun _ => wp_value (w' := wx) ?_ ⟨rfl, hG⟩, (fun h => by cases h)⟩
              simp [execOp, o0, cad_alikeVE, go_sem]
            · have dg : D 3 = true := hpre ⟨3, .guard⟩ (by simp) rfl
              have f6 := fr.atT 6 (hpre ⟨6, .data⟩ (by simp) rfl) rfl
              refine ⟨true, (wanted_of (x := false) (want := false) (j := 3) fr rfl dg rfl rfl).trans rfl, fun _ => wp_value (w' := wx) ?_ ⟨rfl, hG⟩, (fun h => by cases h)⟩
              simp [execOp, f6, cad_alikeVE, go_sem, i2, i3]
            · have dg : D 3 = true := hpre ⟨3, .guard⟩ (by simp) rfl
              have f7 := fr.atT 7 (hpre ⟨7, .data⟩ (by simp) rfl) rfl
              refine ⟨true, (wanted_of (x := false) (want := false) (j := 3) fr rfl dg rfl rfl).trans rfl, fun _ => wp_value (w' := wx) ?_ ⟨rfl, hG⟩, (fun h => by cases h)⟩
              simp [execOp, f7, cad_alikeVE, go_sem]
            · have dg : D 3 = true := hpre ⟨3, .guard⟩ (by simp) rfl
              have f8 := fr.atT 8 (hpre ⟨8, .data⟩ (by simp) rfl) rfl
              refine ⟨true, (wanted_of (x := false) (want := false) (j := 3) fr rfl dg rfl rfl).trans rfl, fun _ => wp_value (w' := wx) ?_ ⟨rfl, hG⟩, (fun h => by cases h)⟩
              simp [execOp, f8, cad_alikeVE, go_sem, ed0]
            · have dg : D 3 = true := hpre ⟨3, .guard⟩ (by simp) rfl
              have f5 := fr.atT 5 (hpre ⟨5, .data⟩ (by simp) rfl) rfl
              have f9 := fr.atT 9 (hpre ⟨9, .data⟩ (by simp) rfl) rfl
              refine ⟨true, (wanted_of (x := false) (want := false) (j := 3) fr rfl dg rfl rfl).trans rfl, fun _ => wp_value (w' := wx) ?_ ⟨rfl, hG⟩, (fun h => by cases h)⟩
              simp [execOp, f5, f9, cad_alikeVE, go_sem, hw]
            · have f3 := fr.atT 3 (hpre ⟨3, .data⟩ (by simp) rfl) rfl
              have f10 := fr.atT 10 (hpre ⟨10, .data⟩ (by simp) rfl) rfl
              refine ⟨true, rfl, fun _ => wp_value (w' := wx) ?_ ⟨rfl, hG⟩, (fun h => by cases h)⟩
              simp [execOp, f3, f10, cad_alikeVE, go_sem]
            · have f11 := fr.atT 11 (hpre ⟨11, .data⟩ (by simp) rfl) rfl
              refine ⟨true, rfl, fun _ => wp_value (w' := wx) ?_ ⟨rfl, hG⟩, (fun h => by cases h)⟩
              simp [execOp, f11, cad_alikeVE, go_sem]
            · have dg : D 12 = true := hpre ⟨12, .guard⟩ (by simp) rfl
              refine ⟨true, (wanted_of (x := false) (want := false) (j := 12) fr rfl dg rfl rfl).trans rfl, fun _ => wp_value (w' := wx) ?_ ⟨rfl, hG⟩, (fun h => by cases h)⟩
              simp [execOp, o4, cad_alikeVE, go_sem]
            · have dg : D 12 = true := hpre ⟨12, .guard⟩ (by simp) rfl
              have f13 := fr.atT 13 (hpre ⟨13, .data⟩ (by simp) rfl) rfl
              refine ⟨true, (wanted_of (x := false) (want := false) (j := 12) fr rfl dg rfl rfl).trans rfl, fun _ => wp_value (w' := wx) ?_ ⟨rfl, hG⟩, (fun h => by cases h)⟩
              simp [execOp, f13, cad_alikeVE, go_sem, x1]
            · have dg : D 12 = true := hpre ⟨12, .guard⟩ (by simp) rfl
              refine ⟨true, (wanted_of (x := false) (want := false) (j := 12) fr rfl dg rfl rfl).trans rfl, fun _ => wp_value (w' := wx) ?_ ⟨rfl, hG⟩, (fun h => by cases h)⟩
              simp [execOp, o0, cad_alikeVE, go_sem]
            · have dg : D 12 = true := hpre ⟨12, .guard⟩ (by simp) rfl
              have f15 := fr.atT 15 (hpre ⟨15, .data⟩ (by simp) rfl) rfl
              refine ⟨true, (wanted_of (x := false) (want := false) (j := 12) fr rfl dg rfl rfl).trans rfl, fun _ => wp_value (w' := wx) ?_ ⟨rfl, hG⟩, (fun h => by cases h)⟩
              simp [execOp, f15, cad_alikeVE, go_sem, i2, i3]
            · have dg : D 12 = true := hpre ⟨12, .guard⟩ (by simp) rfl
              have f16 := fr.atT 16 (hpre ⟨16, .data⟩ (by simp) rfl) rfl
              refine ⟨true, (wanted_of (x := false) (want := false) (j := 12) fr rfl dg rfl rfl).trans rfl, fun _ => wp_value (w' := wx) ?_ ⟨rfl, hG⟩, (fun h => by cases h)⟩
              simp [execOp, f16, cad_alikeVE, go_sem]
            · have dg : D 12 = true := hpre ⟨12, .guard⟩ (by simp) rfl
              have f17 := fr.atT 17 (hpre ⟨17, .data⟩ (by simp) rfl) rfl
              refine ⟨true, (wanted_of (x := false) (want := false) (j := 12) fr rfl dg rfl rfl).trans rfl, fun _ => wp_value (w' := wx) ?_ ⟨rfl, hG⟩, (fun h => by cases h)⟩
              simp [execOp, f17, cad_alikeVE, go_sem, ed1]
            · have dg : D 12 = true := hpre ⟨12, .guard⟩ (by simp) rfl
              have f14 := fr.atT 14 (hpre ⟨14, .data⟩ (by simp) rfl) rfl
              have f18 := fr.atT 18 (hpre ⟨18, .data⟩ (by simp) rfl) rfl
              refine ⟨true, (wanted_of (x := false) (want := false) (j := 12) fr rfl dg rfl rfl).trans rfl, fun _ => wp_value (w' := wx) ?_ ⟨rfl, hG⟩, (fun h => by cases h)⟩
              simp [execOp, f14, f18, cad_alikeVE, go_sem]
            · have f12 := fr.atT 12 (hpre ⟨12, .data⟩ (by simp) rfl) rfl
              have f19 := fr.atT 19 (hpre ⟨19, .data⟩ (by simp) rfl) rfl
              refine ⟨true, rfl, fun _ => wp_value (w' := wx) ?_ ⟨rfl, hG⟩, (fun h => by cases h)⟩
              simp [execOp, f12, f19, cad_alikeVE, go_sem]
          case hend =>
            intro D w7 hG hall
            have B7 := HB0.out.trans (hG.mono HB0.out.size)
            simp only [putsU, Act.put, List.setIfInBounds_toArray, List.set_cons_succ, List.set_cons_zero, Nat.zero_add, Nat.reduceAdd, cad_alikeVE]
            clear hG hall
            by_cases hh : Hh = H0
            · have hhd : (Hh != H0) = false := by simp [hh]
              go_wp2_with fail
              go_roundw
              case rel =>
                refine ⟨k + 1, by omega, by go_num, fun j f hj hf => ?_, B7⟩
                rcases Nat.lt_succ_iff_lt_or_eq.1 hj with h | rfl
                · exact HOK.out j f h hf
                · rw [HXX.out] at hf
                  injection hf with hf
                  rw [← hf, HOF.out, HVV.out]
                  simp [hw, hh]
              case measure => (simp [intOf]; try omega)
            · have hhd : (Hh != H0) = true := by simp [hh]
              go_wp2_with fail
              go_ret
              exact ⟨ret_bool (alikeF_false HXX.out (by rw [HOF.out]; simp [hh])).symm, B7⟩
        · refine wp_region_fixedW (cad_alikeVW W Hh W0 H0 b off wr.heap.size n c k x.val) (fun _ w' => Below Wx.heap.size Wx w') (by kernel_rfl) (by kernel_rfl) (by kernel_rfl) ?h0 ?hstep ?hend
          case h0 => exact (Below.refl _ _).drew
          case hstep =>
            intro k o ho D ac wx fr hG hcl hDi hpre
            have x0 : wx.cell? ⟨wr.heap.size, 0, none⟩ = some (.int .i64 W) := (HXB.out.ext hG).cell 0 rfl
            have x1 : wx.cell? ⟨wr.heap.size, 1, none⟩ = some (.int .i64 Hh) := (HXB.out.ext hG).cell 1 rfl
            have x2 : wx.cell? ⟨wr.heap.size, 2, none⟩ = some (.slice x.ya x.yn x.yc) := (HXB.out.ext hG).cell 2 rfl
            have x3 : wx.cell? ⟨wr.heap.size, 3, none⟩ = some (.slice x.ua x.un x.uc) := (HXB.out.ext hG).cell 3 rfl
            have x4 : wx.cell? ⟨wr.heap.size, 4, none⟩ = some (.slice x.va x.vn x.vc) := (HXB.out.ext hG).cell 4 rfl
            have ed0 : wx.cell? ⟨b, off, none⟩ = some (.int .i64 W0) := (hG.cell (p := ⟨b, off, none⟩) hblx).trans HE0.out
            have ed1 : wx.cell? ⟨b, off + 1, none⟩ = some (.int .i64 H0) := (hG.cell (p := ⟨b, off + 1, none⟩) hblx).trans HE1.out
            have o0 : ac.tmps[0]?.getD undef = .slice (some ⟨b, off, none⟩) n c := fr.oldT 0 rfl
            have o4 : ac.tmps[4]?.getD undef = .pointer (some ⟨wr.heap.size, 0, none⟩) := fr.oldT 4 rfl
            have hkn : k < 21 := (List.getElem?_eq_some_iff.1 ho).1
            rcases (show k = 0 ∨ k = 1 ∨ k = 2 ∨ k = 3 ∨ k = 4 ∨ k = 5 ∨ k = 6 ∨ k = 7 ∨ k = 8 ∨ k = 9 ∨ k = 10 ∨ k = 11 ∨ k = 12 ∨ k = 13 ∨ k = 14 ∨ k = 15 ∨ k = 16 ∨ k = 17 ∨ k = 18 ∨ k = 19 ∨ k = 20 by omega) with rfl | rfl | rfl | rfl | rfl | rfl | rfl | rfl | rfl | rfl | rfl | rfl | rfl | rfl | rfl | rfl | rfl | rfl | rfl | rfl | rfl
            all_goals (simp only [List.getElem?_cons_zero, List.getElem?_cons_succ, Option.some.injEq] at ho; subst ho)
            · refine ⟨true, rfl, fun _ => wp_value (w' := wx) ?_ ⟨rfl, hG⟩, (fun h => by cases h)⟩
              simp [execOp, o4, cad_alikeVW, go_sem, x0, x1, x2, x3, x4, FA.val, HWW.out, HHH.out]
            · have f0 := fr.atT 0 (hpre ⟨0, .data⟩ (by simp) rfl) rfl
              have e0 := fr.at_ 0 (hpre ⟨0, .data⟩ (by simp) rfl) rfl
              refine ⟨true, rfl, fun _ => ?_, (fun h => by cases h)⟩
              refine wp_called (f := 39) (args := #[x.val]) ?_ (HV.out _ (HX.out.ext hG)) ?_
              · simp [execOp, resolve, invoke, f0, e0, cad_alikeVW, go_sem]
              · rintro e w' ⟨rfl, hb9⟩
                rw [HVV.out]
                exact ⟨_, rfl, rfl, hG.trans (hb9.mono hG.size)⟩
            · have f1 := fr.atT 1 (hpre ⟨1, .data⟩ (by simp) rfl) rfl
              refine ⟨true, rfl, fun _ => wp_value (w' := wx) ?_ ⟨rfl, hG⟩, (fun h => by cases h)⟩
              simp [execOp, f1, cad_alikeVW, go_sem]
            · have f2 := fr.atT 2 (hpre ⟨2, .data⟩ (by simp) rfl) rfl
              refine ⟨true, rfl, fun _ => wp_value (w' := wx) ?_ ⟨rfl, hG⟩, (fun h => by cases h)⟩
              simp [execOp, f2, cad_alikeVW, go_sem]
            · have dg : D 3 = true := hpre ⟨3, .guard⟩ (by simp) rfl
              refine ⟨true, (wanted_of (x := false) (want := false) (j := 3) fr rfl dg rfl rfl).trans rfl, fun _ => wp_value (w' := wx) ?_ ⟨rfl, hG⟩, (fun h => by cases h)⟩
              simp [execOp, o4, cad_alikeVW, go_sem]
            · have dg : D 3 = true := hpre ⟨3, .guard⟩ (by simp) rfl
              have f4 := fr.atT 4 (hpre ⟨4, .data⟩ (by simp) rfl) rfl
              refine ⟨true, (wanted_of (x := false) (want := false) (j := 3) fr rfl dg rfl rfl).trans rfl, fun _ => wp_value (w' := wx) ?_ ⟨rfl, hG⟩, (fun h => by cases h)⟩
              simp [execOp, f4, cad_alikeVW, go_sem, x0]
            · have dg : D 3 = true := hpre ⟨3, .guard⟩ (by simp) rfl
              refine ⟨true, (wanted_of (x := false) (want := false) (j := 3) fr rfl dg rfl rfl).trans rfl, fun _ => wp_value (w' := wx) ?_ ⟨rfl, hG⟩, (fun h => by cases h)⟩
              simp [execOp, o0, cad_alikeVW, go_sem]
            · have dg : D 3 = true := hpre ⟨3, .guard⟩ (by simp) rfl
              have f6 := fr.atT 6 (hpre ⟨6, .data⟩ (by simp) rfl) rfl
              refine ⟨true, (wanted_of (x := false) (want := false) (j := 3) fr rfl dg rfl rfl).trans rfl, fun _ => wp_value (w' := wx) ?_ ⟨rfl, hG⟩, (fun h => by cases h)⟩
              simp [execOp, f6, cad_alikeVW, go_sem, i2, i3]
            · have dg : D 3 = true := hpre ⟨3, .guard⟩ (by simp) rfl
              have f7 := fr.atT 7 (hpre ⟨7, .data⟩ (by simp) rfl) rfl
              refine ⟨true, (wanted_of (x := false) (want := false) (j := 3) fr rfl dg rfl rfl).trans rfl, fun _ => wp_value (w' := wx) ?_ ⟨rfl, hG⟩, (fun h => by cases h)⟩
              simp [execOp, f7, cad_alikeVW, go_sem]
            · have dg : D 3 = true := hpre ⟨3, .guard⟩ (by simp) rfl
              have f8 := fr.atT 8 (hpre ⟨8, .data⟩ (by simp) rfl) rfl
              refine ⟨true, (wanted_of (x := false) (want := false) (j := 3) fr rfl dg rfl rfl).trans rfl, fun _ => wp_value (w' := wx) ?_ ⟨rfl, hG⟩, (fun h => by cases h)⟩
              simp [execOp, f8, cad_alikeVW, go_sem, ed0]
            · have dg : D 3 = true := hpre ⟨3, .guard⟩ (by simp) rfl
              have f5 := fr.atT 5 (hpre ⟨5, .data⟩ (by simp) rfl) rfl
              have f9 := fr.atT 9 (hpre ⟨9, .data⟩ (by simp) rfl) rfl
              refine ⟨true, (wanted_of (x := false) (want := false) (j := 3) fr rfl dg rfl rfl).trans rfl, fun _ => wp_value (w' := wx) ?_ ⟨rfl, hG⟩, (fun h => by cases h)⟩
              simp [execOp, f5, f9, cad_alikeVW, go_sem, hw]
            · have f3 := fr.atT 3 (hpre ⟨3, .data⟩ (by simp) rfl) rfl
              have f10 := fr.atT 10 (hpre ⟨10, .data⟩ (by simp) rfl) rfl
              refine ⟨true, rfl, fun _ => wp_value (w' := wx) ?_ ⟨rfl, hG⟩, (fun h => by cases h)⟩
              simp [execOp, f3, f10, cad_alikeVW, go_sem]
            · have f11 := fr.atT 11 (hpre ⟨11, .data⟩ (by simp) rfl) rfl
              refine ⟨true, rfl, fun _ => wp_value (w' := wx) ?_ ⟨rfl, hG⟩, (fun h => by cases h)⟩
              simp [execOp, f11, cad_alikeVW, go_sem]
            · have dg : D 12 = true := hpre ⟨12, .guard⟩ (by simp) rfl
              exact ⟨false, (wanted_of (x := true) (want := false) (j := 12) fr rfl dg rfl rfl).trans rfl, (fun h => by cases h), fun _ => ⟨rfl, hG⟩⟩
            · have dg : D 12 = true := hpre ⟨12, .guard⟩ (by simp) rfl
              exact ⟨false, (wanted_of (x := true) (want := false) (j := 12) fr rfl dg rfl rfl).trans rfl, (fun h => by cases h), fun _ => ⟨rfl, hG⟩⟩
            · have dg : D 12 = true := hpre ⟨12, .guard⟩ (by simp) rfl
              exact ⟨false, (wanted_of (x := true) (want := false) (j := 12) fr rfl dg rfl rfl).trans rfl, (fun h => by cases h), fun _ => ⟨rfl, hG⟩⟩
            · have dg : D 12 = true := hpre ⟨12, .guard⟩ (by simp) rfl
              exact ⟨false, (wanted_of (x := true) (want := false) (j := 12) fr rfl dg rfl rfl).trans rfl, (fun h => by cases h), fun _ => ⟨rfl, hG⟩⟩
            · have dg : D 12 = true := hpre ⟨12, .guard⟩ (by simp) rfl
              exact ⟨false, (wanted_of (x := true) (want := false) (j := 12) fr rfl dg rfl rfl).trans rfl, (fun h => by cases h), fun _ => ⟨rfl, hG⟩⟩
            · have dg : D 12 = true := hpre ⟨12, .guard⟩ (by simp) rfl
              exact ⟨false, (wanted_of (x := true) (want := false) (j := 12) fr rfl dg rfl rfl).trans rfl, (fun h => by cases h), fun _ => ⟨rfl, hG⟩⟩
            · have dg : D 12 = true := hpre ⟨12, .guard⟩ (by simp) rfl
              exact ⟨false, (wanted_of (x := true) (want := false) (j := 12) fr rfl dg rfl rfl).trans rfl, (fun h => by cases h), fun _ => ⟨rfl, hG⟩⟩
            · have f12 := fr.atT 12 (hpre ⟨12, .data⟩ (by simp) rfl) rfl
              have f19 := fr.atT 19 (hpre ⟨19, .data⟩ (by simp) rfl) rfl
              refine ⟨true, rfl, fun _ => wp_value (w' := wx) ?_ ⟨rfl, hG⟩, (fun h => by cases h)⟩
              simp [execOp, f12, f19, cad_alikeVW, go_sem]
          case hend =>
            intro D w7 hG hall
            have B7 := HB0.out.trans (hG.mono HB0.out.size)
            simp only [putsU, Act.put, List.setIfInBounds_toArray, List.set_cons_succ, List.set_cons_zero, Nat.zero_add, Nat.reduceAdd, cad_alikeVW]
            clear hG hall
            go_wp2_with fail
            go_ret
            exact ⟨ret_bool (alikeF_false HXX.out (by rw [HOF.out]; simp [hw])).symm, B7⟩
    · have hkn : k = n := by omega
      subst hkn
      go_wp2_with fail
      go_ret
      exact ⟨ret_bool (alikeF_true HL.out HOK.out).symm, hb⟩
end Go.Proofs.Ytclainbjidajbaa
