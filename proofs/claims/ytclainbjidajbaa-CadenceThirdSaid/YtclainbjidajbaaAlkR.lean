/- The reference's Alike. -/
import Derived.Test.YtclainbjidajbaaAlkP
namespace Go.Proofs.Ytclainbjidajbaa
open Go.RowKit

def ref_AlikeVV (W H W0 H0 : Int) (b off g n c kk : Nat) (xv : Value) : Nat → Value
  | 0 => .slice (some ⟨b, off, none⟩) n c
  | 1 => .int .i64 (kk : Int)
  | 2 => .pointer (some ⟨b, off + kk * 5, none⟩)
  | 3 => xv
  | 4 => .bool false
  | 5 => .bool true
  | 6 => .bool true
  | 7 => undef
  | 8 => undef
  | 9 => undef
  | 10 => undef
  | 11 => undef
  | 12 => undef
  | 13 => undef
  | 14 => undef
  | 15 => undef
  | 16 => undef
  | 17 => .bool true
  | 18 => .bool true
  | 19 => undef
  | 20 => undef
  | 21 => undef
  | 22 => undef
  | 23 => undef
  | 24 => undef
  | 25 => undef
  | 26 => undef
  | 27 => undef
  | 28 => undef
  | _ => .bool true
def ref_AlikeVW (W H W0 H0 : Int) (b off g n c kk : Nat) (xv : Value) : Nat → Value
  | 0 => .slice (some ⟨b, off, none⟩) n c
  | 1 => .int .i64 (kk : Int)
  | 2 => .pointer (some ⟨b, off + kk * 5, none⟩)
  | 3 => xv
  | 4 => .bool true
  | 5 => .bool false
  | 6 => .bool false
  | 7 => .slice (some ⟨b, off, none⟩) n c
  | 8 => .int .i64 (kk : Int)
  | 9 => .pointer (some ⟨b, off + kk * 5, none⟩)
  | 10 => .pointer (some ⟨b, off + kk * 5, none⟩)
  | 11 => .int .i64 W
  | 12 => .slice (some ⟨b, off, none⟩) n c
  | 13 => .pointer (some ⟨b, off, none⟩)
  | 14 => .pointer (some ⟨b, off, none⟩)
  | 15 => .int .i64 W0
  | 16 => .bool true
  | 17 => .bool true
  | 18 => .bool true
  | 19 => undef
  | 20 => undef
  | 21 => undef
  | 22 => undef
  | 23 => undef
  | 24 => undef
  | 25 => undef
  | 26 => undef
  | 27 => undef
  | 28 => undef
  | _ => .bool true
def ref_AlikeVE (W H W0 H0 : Int) (b off g n c kk : Nat) (xv : Value) : Nat → Value
  | 0 => .slice (some ⟨b, off, none⟩) n c
  | 1 => .int .i64 (kk : Int)
  | 2 => .pointer (some ⟨b, off + kk * 5, none⟩)
  | 3 => xv
  | 4 => .bool true
  | 5 => .bool false
  | 6 => .bool false
  | 7 => .slice (some ⟨b, off, none⟩) n c
  | 8 => .int .i64 (kk : Int)
  | 9 => .pointer (some ⟨b, off + kk * 5, none⟩)
  | 10 => .pointer (some ⟨b, off + kk * 5, none⟩)
  | 11 => .int .i64 W
  | 12 => .slice (some ⟨b, off, none⟩) n c
  | 13 => .pointer (some ⟨b, off, none⟩)
  | 14 => .pointer (some ⟨b, off, none⟩)
  | 15 => .int .i64 W0
  | 16 => .bool false
  | 17 => .bool false
  | 18 => .bool false
  | 19 => .slice (some ⟨b, off, none⟩) n c
  | 20 => .int .i64 (kk : Int)
  | 21 => .pointer (some ⟨b, off + kk * 5, none⟩)
  | 22 => .pointer (some ⟨b, off + kk * 5 + 1, none⟩)
  | 23 => .int .i64 H
  | 24 => .slice (some ⟨b, off, none⟩) n c
  | 25 => .pointer (some ⟨b, off, none⟩)
  | 26 => .pointer (some ⟨b, off + 1, none⟩)
  | 27 => .int .i64 H0
  | 28 => .bool (H != H0)
  | _ => .bool (H != H0)

set_option maxRecDepth 100000 in
set_option maxHeartbeats 4000000 in
theorem ref_Alike {p q : Nat → Prop} (A : Option Addr) (n c : Nat) (xs : List FA) (w : World) (h : Frs p q w A n xs) (hn : n ≤ 100000000000000) :
    Calls Try.prog 26 #[.slice A n c] w fun e w' => e = .returned (.bool (alikeF (frs xs))) ∧ Below w.heap.size w w' := by
  have H := Lib.hid h
  have HL : Hid ((frs xs).length = n) := Lib.hid (by simp [frs, h.1])
  clear h
  go_enter Try.func26, Try.ntmps26
  go_wp2_with fail
  go_loopw [3] (fun i wr => ∃ k : Nat, k ≤ n ∧ i = .int .i64 (k : Int) ∧ (∀ j f, j < k → (frs xs)[j]? = some f → okF (frs xs) f = true) ∧ Below w.heap.size w wr) (fun i _ => n - (intOf i).toNat)
  case atStart => exact ⟨0, Nat.zero_le _, rfl, fun j f hj => absurd hj (Nat.not_lt_zero _), Below.refl _ _⟩
  case round =>
    obtain ⟨kk, hk, rfl, hok, hb⟩ := hrel
    have HOK := Lib.hid hok
    clear hok
    by_cases hlt : kk < n
    · obtain ⟨b, off, x, rfl, hbl, hx, hox, hc0, hc1, hc2, hc3, hc4⟩ := (H.out.ext hb).at_ hlt
      obtain ⟨b', off', y, hA', hbl', hy, hoy, hd0, hd1, hd2, hd3, hd4⟩ := (H.out.ext hb).at_ (show 0 < n by omega)
      injection hA' with hA'
      injection hA' with e1 e2
      subst e1 e2
      simp only [Nat.zero_mul, Nat.add_zero, Nat.zero_add] at hd0 hd1
      have HXX := Lib.hid (frs_at hx)
      have HHD := Lib.hid (hdF_at hy)
      have i0 : (0 : Int) ≤ (kk : Int) := by omega
      have i1 : (kk : Int) < (n : Int) := by omega
      have i2 : (0 : Int) < (n : Int) := by omega
      have i3 : 0 < n := by omega
      obtain ⟨W, hW⟩ : ∃ W, x.f.W = W := ⟨_, rfl⟩
      obtain ⟨Hh, hH⟩ : ∃ W, x.f.H = W := ⟨_, rfl⟩
      obtain ⟨W0, hW0⟩ : ∃ W, y.f.W = W := ⟨_, rfl⟩
      obtain ⟨H0, hH0⟩ : ∃ W, y.f.H = W := ⟨_, rfl⟩
      have HV := Lib.hid (fun w h => ref_Valid (q := q) x w h)
      rw [hW0] at hd0
      rw [hH0] at hd1
      rw [hW] at hc0
      rw [hH] at hc1
      have HWW := Lib.hid hW
      have HHH := Lib.hid hH
      have HW0 := Lib.hid hW0
      have HH0 := Lib.hid hH0
      clear hx hy hd2 hd3 hd4 hoy hW hH hW0 hH0
      have B0 := hb
      have HX := Lib.hid hox
      have hwx : ∃ Wx, Wx = wr := ⟨_, rfl⟩
      go_upto_region 4 with fail
      obtain ⟨Wx, hwx⟩ := hwx
      subst hwx
      have hblx : b < Wx.heap.size := hbl
      have HE0 := Lib.hid hd0
      have HE1 := Lib.hid hd1
      have HC0 := Lib.hid hc0
      have HC1 := Lib.hid hc1
      have HC2 := Lib.hid hc2
      have HC3 := Lib.hid hc3
      have HC4 := Lib.hid hc4
      clear hox hc0 hc1 hc2 hc3 hc4 hd0 hd1
      have HB0 := Lib.hid B0
      clear B0
      have hokF : okF (frs xs) x.f = (validF x.f && (decide (W = W0) && decide (Hh = H0))) := by unfold okF; rw [HHD.out, HWW.out, HHH.out, HW0.out, HH0.out]
      have HOF := Lib.hid hokF
      clear hokF
      cases hv : validF x.f with
      | false =>
        have HVV := Lib.hid hv
        clear hv
        refine wp_region_fixedW (ref_AlikeVV W Hh W0 H0 b off 0 n c kk x.val) (fun _ w' => Below Wx.heap.size Wx w') (by kernel_rfl) (by kernel_rfl) (by kernel_rfl) ?h0 ?hstep ?hend
        case h0 => exact (Below.refl _ _).drew
        case hstep =>
          intro k o ho D ac wx fr hG hcl hDi hpre
          have x0 : wx.cell? ⟨b, off + kk * 5, none⟩ = some (.int .i64 W) := (hG.cell (p := ⟨b, off + kk * 5, none⟩) hblx).trans HC0.out
          have x1 : wx.cell? ⟨b, off + kk * 5 + 1, none⟩ = some (.int .i64 Hh) := (hG.cell (p := ⟨b, off + kk * 5 + 1, none⟩) hblx).trans HC1.out
          have x2 : wx.cell? ⟨b, off + kk * 5 + 2, none⟩ = some (.slice x.ya x.yn x.yc) := (hG.cell (p := ⟨b, off + kk * 5 + 2, none⟩) hblx).trans HC2.out
          have x3 : wx.cell? ⟨b, off + kk * 5 + 3, none⟩ = some (.slice x.ua x.un x.uc) := (hG.cell (p := ⟨b, off + kk * 5 + 3, none⟩) hblx).trans HC3.out
          have x4 : wx.cell? ⟨b, off + kk * 5 + 4, none⟩ = some (.slice x.va x.vn x.vc) := (hG.cell (p := ⟨b, off + kk * 5 + 4, none⟩) hblx).trans HC4.out
          have ed0 : wx.cell? ⟨b, off, none⟩ = some (.int .i64 W0) := (hG.cell (p := ⟨b, off, none⟩) hblx).trans HE0.out
          have ed1 : wx.cell? ⟨b, off + 1, none⟩ = some (.int .i64 H0) := (hG.cell (p := ⟨b, off + 1, none⟩) hblx).trans HE1.out
          have o0 : ac.tmps[0]?.getD undef = .slice (some ⟨b, off, none⟩) n c := fr.oldT 0 rfl
          have o3 : ac.tmps[3]?.getD undef = .int .i64 (kk : Int) := fr.oldT 3 rfl
          have hkn : k < 30 := (List.getElem?_eq_some_iff.1 ho).1
          rcases (show k = 0 ∨ k = 1 ∨ k = 2 ∨ k = 3 ∨ k = 4 ∨ k = 5 ∨ k = 6 ∨ k = 7 ∨ k = 8 ∨ k = 9 ∨ k = 10 ∨ k = 11 ∨ k = 12 ∨ k = 13 ∨ k = 14 ∨ k = 15 ∨ k = 16 ∨ k = 17 ∨ k = 18 ∨ k = 19 ∨ k = 20 ∨ k = 21 ∨ k = 22 ∨ k = 23 ∨ k = 24 ∨ k = 25 ∨ k = 26 ∨ k = 27 ∨ k = 28 ∨ k = 29 by omega) with rfl | rfl | rfl | rfl | rfl | rfl | rfl | rfl | rfl | rfl | rfl | rfl | rfl | rfl | rfl | rfl | rfl | rfl | rfl | rfl | rfl | rfl | rfl | rfl | rfl | rfl | rfl | rfl | rfl | rfl
          all_goals (simp only [List.getElem?_cons_zero, List.getElem?_cons_succ, Option.some.injEq] at ho; subst ho)
          · refine ⟨true, rfl, fun _ => wp_value (w' := wx) ?_ ⟨rfl, hG⟩, (fun h => by cases h)⟩
            simp [execOp, o0, ref_AlikeVV, go_sem]
          · refine ⟨true, rfl, fun _ => wp_value (w' := wx) ?_ ⟨rfl, hG⟩, (fun h => by cases h)⟩
            simp [execOp, o3, ref_AlikeVV, go_sem]
          · have f0 := fr.atT 0 (hpre ⟨0, .data⟩ (by simp) rfl) rfl
            have f1 := fr.atT 1 (hpre ⟨1, .data⟩ (by simp) rfl) rfl
            refine ⟨true, rfl, fun _ => wp_value (w' := wx) ?_ ⟨rfl, hG⟩, (fun h => by cases h)⟩
            simp [execOp, f0, f1, ref_AlikeVV, go_sem, i1, i0, hlt]
          · have f2 := fr.atT 2 (hpre ⟨2, .data⟩ (by simp) rfl) rfl
            refine ⟨true, rfl, fun _ => wp_value (w' := wx) ?_ ⟨rfl, hG⟩, (fun h => by cases h)⟩
            simp [execOp, f2, ref_AlikeVV, go_sem, x0, x1, x2, x3, x4, FA.val, HWW.out, HHH.out]
          · have f3 := fr.atT 3 (hpre ⟨3, .data⟩ (by simp) rfl) rfl
            have e3 := fr.at_ 3 (hpre ⟨3, .data⟩ (by simp) rfl) rfl
            refine ⟨true, rfl, fun _ => ?_, (fun h => by cases h)⟩
            refine wp_called (f := 41) (args := #[x.val]) ?_ (HV.out _ (HX.out.ext hG)) ?_
            · simp [execOp, resolve, invoke, f3, e3, ref_AlikeVV, go_sem]
            · rintro e w' ⟨rfl, hb9⟩
              rw [HVV.out]
              exact ⟨_, rfl, rfl, hG.trans (hb9.mono hG.size)⟩
          · have f4 := fr.atT 4 (hpre ⟨4, .data⟩ (by simp) rfl) rfl
            refine ⟨true, rfl, fun _ => wp_value (w' := wx) ?_ ⟨rfl, hG⟩, (fun h => by cases h)⟩
            simp [execOp, f4, ref_AlikeVV, go_sem]
          · have f5 := fr.atT 5 (hpre ⟨5, .data⟩ (by simp) rfl) rfl
            refine ⟨true, rfl, fun _ => wp_value (w' := wx) ?_ ⟨rfl, hG⟩, (fun h => by cases h)⟩
            simp [execOp, f5, ref_AlikeVV, go_sem]
          · have dg : D 6 = true := hpre ⟨6, .guard⟩ (by simp) rfl
            exact ⟨false, (wanted_of (x := true) (want := false) (j := 6) fr rfl dg rfl rfl).trans rfl, (fun h => by cases h), fun _ => ⟨rfl, hG⟩⟩
          · have dg : D 6 = true := hpre ⟨6, .guard⟩ (by simp) rfl
            exact ⟨false, (wanted_of (x := true) (want := false) (j := 6) fr rfl dg rfl rfl).trans rfl, (fun h => by cases h), fun _ => ⟨rfl, hG⟩⟩
          · have dg : D 6 = true := hpre ⟨6, .guard⟩ (by simp) rfl
            exact ⟨false, (wanted_of (x := true) (want := false) (j := 6) fr rfl dg rfl rfl).trans rfl, (fun h => by cases h), fun _ => ⟨rfl, hG⟩⟩
          · have dg : D 6 = true := hpre ⟨6, .guard⟩ (by simp) rfl
            exact ⟨false, (wanted_of (x := true) (want := false) (j := 6) fr rfl dg rfl rfl).trans rfl, (fun h => by cases h), fun _ => ⟨rfl, hG⟩⟩
          · have dg : D 6 = true := hpre ⟨6, .guard⟩ (by simp) rfl
            exact ⟨false, (wanted_of (x := true) (want := false) (j := 6) fr rfl dg rfl rfl).trans rfl, (fun h => by cases h), fun _ => ⟨rfl, hG⟩⟩
          · have dg : D 6 = true := hpre ⟨6, .guard⟩ (by simp) rfl
            exact ⟨false, (wanted_of (x := true) (want := false) (j := 6) fr rfl dg rfl rfl).trans rfl, (fun h => by cases h), fun _ => ⟨rfl, hG⟩⟩
          · have dg : D 6 = true := hpre ⟨6, .guard⟩ (by simp) rfl
            exact ⟨false, (wanted_of (x := true) (want := false) (j := 6) fr rfl dg rfl rfl).trans rfl, (fun h => by cases h), fun _ => ⟨rfl, hG⟩⟩
          · have dg : D 6 = true := hpre ⟨6, .guard⟩ (by simp) rfl
            exact ⟨false, (wanted_of (x := true) (want := false) (j := 6) fr rfl dg rfl rfl).trans rfl, (fun h => by cases h), fun _ => ⟨rfl, hG⟩⟩
          · have dg : D 6 = true := hpre ⟨6, .guard⟩ (by simp) rfl
            exact ⟨false, (wanted_of (x := true) (want := false) (j := 6) fr rfl dg rfl rfl).trans rfl, (fun h => by cases h), fun _ => ⟨rfl, hG⟩⟩
          · have dg : D 6 = true := hpre ⟨6, .guard⟩ (by simp) rfl
            exact ⟨false, (wanted_of (x := true) (want := false) (j := 6) fr rfl dg rfl rfl).trans rfl, (fun h => by cases h), fun _ => ⟨rfl, hG⟩⟩
          · have f6 := fr.atT 6 (hpre ⟨6, .data⟩ (by simp) rfl) rfl
            have f16 := fr.atT 16 (hpre ⟨16, .data⟩ (by simp) rfl) rfl
            refine ⟨true, rfl, fun _ => wp_value (w' := wx) ?_ ⟨rfl, hG⟩, (fun h => by cases h)⟩
            simp [execOp, f6, f16, ref_AlikeVV, go_sem]
          · have f17 := fr.atT 17 (hpre ⟨17, .data⟩ (by simp) rfl) rfl
            refine ⟨true, rfl, fun _ => wp_value (w' := wx) ?_ ⟨rfl, hG⟩, (fun h => by cases h)⟩
            simp [execOp, f17, ref_AlikeVV, go_sem]
          · have dg : D 18 = true := hpre ⟨18, .guard⟩ (by simp) rfl
            exact ⟨false, (wanted_of (x := true) (want := false) (j := 18) fr rfl dg rfl rfl).trans rfl, (fun h => by cases h), fun _ => ⟨rfl, hG⟩⟩
          · have dg : D 18 = true := hpre ⟨18, .guard⟩ (by simp) rfl
            exact ⟨false, (wanted_of (x := true) (want := false) (j := 18) fr rfl dg rfl rfl).trans rfl, (fun h => by cases h), fun _ => ⟨rfl, hG⟩⟩
          · have dg : D 18 = true := hpre ⟨18, .guard⟩ (by simp) rfl
            exact ⟨false, (wanted_of (x := true) (want := false) (j := 18) fr rfl dg rfl rfl).trans rfl, (fun h => by cases h), fun _ => ⟨rfl, hG⟩⟩
          · have dg : D 18 = true := hpre ⟨18, .guard⟩ (by simp) rfl
            exact ⟨false, (wanted_of (x := true) (want := false) (j := 18) fr rfl dg rfl rfl).trans rfl, (fun h => by cases h), fun _ => ⟨rfl, hG⟩⟩
          · have dg : D 18 = true := hpre ⟨18, .guard⟩ (by simp) rfl
            exact ⟨false, (wanted_of (x := true) (want := false) (j := 18) fr rfl dg rfl rfl).trans rfl, (fun h => by cases h), fun _ => ⟨rfl, hG⟩⟩
          · have dg : D 18 = true := hpre ⟨18, .guard⟩ (by simp) rfl
            exact ⟨false, (wanted_of (x := true) (want := false) (j := 18) fr rfl dg rfl rfl).trans rfl, (fun h => by cases h), fun _ => ⟨rfl, hG⟩⟩
          · have dg : D 18 = true := hpre ⟨18, .guard⟩ (by simp) rfl
            exact ⟨false, (wanted_of (x := true) (want := false) (j := 18) fr rfl dg rfl rfl).trans rfl, (fun h => by cases h), fun _ => ⟨rfl, hG⟩⟩
          · have dg : D 18 = true := hpre ⟨18, .guard⟩ (by simp) rfl
            exact ⟨false, (wanted_of (x := true) (want := false) (j := 18) fr rfl dg rfl rfl).trans rfl, (fun h => by cases h), fun _ => ⟨rfl, hG⟩⟩
          · have dg : D 18 = true := hpre ⟨18, .guard⟩ (by simp) rfl
            exact ⟨false, (wanted_of (x := true) (want := false) (j := 18) fr rfl dg rfl rfl).trans rfl, (fun h => by cases h), fun _ => ⟨rfl, hG⟩⟩
          · have dg : D 18 = true := hpre ⟨18, .guard⟩ (by simp) rfl
            exact ⟨false, (wanted_of (x := true) (want := false) (j := 18) fr rfl dg rfl rfl).trans rfl, (fun h => by cases h), fun _ => ⟨rfl, hG⟩⟩
          · have f18 := fr.atT 18 (hpre ⟨18, .data⟩ (by simp) rfl) rfl
            have f28 := fr.atT 28 (hpre ⟨28, .data⟩ (by simp) rfl) rfl
            refine ⟨true, rfl, fun _ => wp_value (w' := wx) ?_ ⟨rfl, hG⟩, (fun h => by cases h)⟩
            simp [execOp, f18, f28, ref_AlikeVV, go_sem]
        case hend =>
          intro D w7 hG hall
          have B7 := HB0.out.trans (hG.mono HB0.out.size)
          simp only [putsU, Act.put, List.setIfInBounds_toArray, List.set_cons_succ, List.set_cons_zero, Nat.zero_add, Nat.reduceAdd, ref_AlikeVV]
          clear hG hall
          go_wp2_with fail
          go_ret
          exact ⟨ret_bool (alikeF_false HXX.out (by rw [HOF.out, HVV.out]; rfl)).symm, B7⟩
      | true =>
        have HVV := Lib.hid hv
        clear hv
        by_cases hw : W = W0
        · refine wp_region_fixedW (ref_AlikeVE W Hh W0 H0 b off 0 n c kk x.val) (fun _ w' => Below Wx.heap.size Wx w') (by kernel_rfl) (by kernel_rfl) (by kernel_rfl) ?h0 ?hstep ?hend
          case h0 => exact (Below.refl _ _).drew
          case hstep =>
            intro k o ho D ac wx fr hG hcl hDi hpre
            have x0 : wx.cell? ⟨b, off + kk * 5, none⟩ = some (.int .i64 W) := (hG.cell (p := ⟨b, off + kk * 5, none⟩) hblx).trans HC0.out
            have x1 : wx.cell? ⟨b, off + kk * 5 + 1, none⟩ = some (.int .i64 Hh) := (hG.cell (p := ⟨b, off + kk * 5 + 1, none⟩) hblx).trans HC1.out
            have x2 : wx.cell? ⟨b, off + kk * 5 + 2, none⟩ = some (.slice x.ya x.yn x.yc) := (hG.cell (p := ⟨b, off + kk * 5 + 2, none⟩) hblx).trans HC2.out
            have x3 : wx.cell? ⟨b, off + kk * 5 + 3, none⟩ = some (.slice x.ua x.un x.uc) := (hG.cell (p := ⟨b, off + kk * 5 + 3, none⟩) hblx).trans HC3.out
            have x4 : wx.cell? ⟨b, off + kk * 5 + 4, none⟩ = some (.slice x.va x.vn x.vc) := (hG.cell (p := ⟨b, off + kk * 5 + 4, none⟩) hblx).trans HC4.out
            have ed0 : wx.cell? ⟨b, off, none⟩ = some (.int .i64 W0) := (hG.cell (p := ⟨b, off, none⟩) hblx).trans HE0.out
            have ed1 : wx.cell? ⟨b, off + 1, none⟩ = some (.int .i64 H0) := (hG.cell (p := ⟨b, off + 1, none⟩) hblx).trans HE1.out
            have o0 : ac.tmps[0]?.getD undef = .slice (some ⟨b, off, none⟩) n c := fr.oldT 0 rfl
            have o3 : ac.tmps[3]?.getD undef = .int .i64 (kk : Int) := fr.oldT 3 rfl
            have hkn : k < 30 := (List.getElem?_eq_some_iff.1 ho).1
            rcases (show k = 0 ∨ k = 1 ∨ k = 2 ∨ k = 3 ∨ k = 4 ∨ k = 5 ∨ k = 6 ∨ k = 7 ∨ k = 8 ∨ k = 9 ∨ k = 10 ∨ k = 11 ∨ k = 12 ∨ k = 13 ∨ k = 14 ∨ k = 15 ∨ k = 16 ∨ k = 17 ∨ k = 18 ∨ k = 19 ∨ k = 20 ∨ k = 21 ∨ k = 22 ∨ k = 23 ∨ k = 24 ∨ k = 25 ∨ k = 26 ∨ k = 27 ∨ k = 28 ∨ k = 29 by omega) with rfl | rfl | rfl | rfl | rfl | rfl | rfl | rfl | rfl | rfl | rfl | rfl | rfl | rfl | rfl | rfl | rfl | rfl | rfl | rfl | rfl | rfl | rfl | rfl | rfl | rfl | rfl | rfl | rfl | rfl
            all_goals (simp only [List.getElem?_cons_zero, List.getElem?_cons_succ, Option.some.injEq] at ho; subst ho)
            · refine ⟨true, rfl, fun _ => wp_value (w' := wx) ?_ ⟨rfl, hG⟩, (fun h => by cases h)⟩
              simp [execOp, o0, ref_AlikeVE, go_sem]
            · refine ⟨true, rfl, fun _ => wp_value (w' := wx) ?_ ⟨rfl, hG⟩, (fun h => by cases h)⟩
              simp [execOp, o3, ref_AlikeVE, go_sem]
            · have f0 := fr.atT 0 (hpre ⟨0, .data⟩ (by simp) rfl) rfl
              have f1 := fr.atT 1 (hpre ⟨1, .data⟩ (by simp) rfl) rfl
              refine ⟨true, rfl, fun _ => wp_value (w' := wx) ?_ ⟨rfl, hG⟩, (fun h => by cases h)⟩
              simp [execOp, f0, f1, ref_AlikeVE, go_sem, i1, i0, hlt]
            · have f2 := fr.atT 2 (hpre ⟨2, .data⟩ (by simp) rfl) rfl
              refine ⟨true, rfl, fun _ => wp_value (w' := wx) ?_ ⟨rfl, hG⟩, (fun h => by cases h)⟩
              simp [execOp, f2, ref_AlikeVE, go_sem, x0, x1, x2, x3, x4, FA.val, HWW.out, HHH.out]
            · have f3 := fr.atT 3 (hpre ⟨3, .data⟩ (by simp) rfl) rfl
              have e3 := fr.at_ 3 (hpre ⟨3, .data⟩ (by simp) rfl) rfl
              refine ⟨true, rfl, fun _ => ?_, (fun h => by cases h)⟩
              refine wp_called (f := 41) (args := #[x.val]) ?_ (HV.out _ (HX.out.ext hG)) ?_
              · simp [execOp, resolve, invoke, f3, e3, ref_AlikeVE, go_sem]
              · rintro e w' ⟨rfl, hb9⟩
                rw [HVV.out]
                exact ⟨_, rfl, rfl, hG.trans (hb9.mono hG.size)⟩
            · have f4 := fr.atT 4 (hpre ⟨4, .data⟩ (by simp) rfl) rfl
              refine ⟨true, rfl, fun _ => wp_value (w' := wx) ?_ ⟨rfl, hG⟩, (fun h => by cases h)⟩
              simp [execOp, f4, ref_AlikeVE, go_sem]
            · have f5 := fr.atT 5 (hpre ⟨5, .data⟩ (by simp) rfl) rfl
              refine ⟨true, rfl, fun _ => wp_value (w' := wx) ?_ ⟨rfl, hG⟩, (fun h => by cases h)⟩
              simp [execOp, f5, ref_AlikeVE, go_sem]
            · have dg : D 6 = true := hpre ⟨6, .guard⟩ (by simp) rfl
              refine ⟨true, (wanted_of (x := false) (want := false) (j := 6) fr rfl dg rfl rfl).trans rfl, fun _ => wp_value (w' := wx) ?_ ⟨rfl, hG⟩, (fun h => by cases h)⟩
              simp [execOp, o0, ref_AlikeVE, go_sem]
            · have dg : D 6 = true := hpre ⟨6, .guard⟩ (by simp) rfl
              refine ⟨true, (wanted_of (x := false) (want := false) (j := 6) fr rfl dg rfl rfl).trans rfl, fun _ => wp_value (w' := wx) ?_ ⟨rfl, hG⟩, (fun h => by cases h)⟩
              simp [execOp, o3, ref_AlikeVE, go_sem]
            · have dg : D 6 = true := hpre ⟨6, .guard⟩ (by simp) rfl
              have f7 := fr.atT 7 (hpre ⟨7, .data⟩ (by simp) rfl) rfl
              have f8 := fr.atT 8 (hpre ⟨8, .data⟩ (by simp) rfl) rfl
              refine ⟨true, (wanted_of (x := false) (want := false) (j := 6) fr rfl dg rfl rfl).trans rfl, fun _ => wp_value (w' := wx) ?_ ⟨rfl, hG⟩, (fun h => by cases h)⟩
              simp [execOp, f7, f8, ref_AlikeVE, go_sem, i1, i0, hlt]
            · have dg : D 6 = true := hpre ⟨6, .guard⟩ (by simp) rfl
              have f9 := fr.atT 9 (hpre ⟨9, .data⟩ (by simp) rfl) rfl
              refine ⟨true, (wanted_of (x := false) (want := false) (j := 6) fr rfl dg rfl rfl).trans rfl, fun _ => wp_value (w' := wx) ?_ ⟨rfl, hG⟩, (fun h => by cases h)⟩
              simp [execOp, f9, ref_AlikeVE, go_sem]
            · have dg : D 6 = true := hpre ⟨6, .guard⟩ (by simp) rfl
              have f10 := fr.atT 10 (hpre ⟨10, .data⟩ (by simp) rfl) rfl
              refine ⟨true, (wanted_of (x := false) (want := false) (j := 6) fr rfl dg rfl rfl).trans rfl, fun _ => wp_value (w' := wx) ?_ ⟨rfl, hG⟩, (fun h => by cases h)⟩
              simp [execOp, f10, ref_AlikeVE, go_sem, x0]
            · have dg : D 6 = true := hpre ⟨6, .guard⟩ (by simp) rfl
              refine ⟨true, (wanted_of (x := false) (want := false) (j := 6) fr rfl dg rfl rfl).trans rfl, fun _ => wp_value (w' := wx) ?_ ⟨rfl, hG⟩, (fun h => by cases h)⟩
              simp [execOp, o0, ref_AlikeVE, go_sem]
            · have dg : D 6 = true := hpre ⟨6, .guard⟩ (by simp) rfl
              have f12 := fr.atT 12 (hpre ⟨12, .data⟩ (by simp) rfl) rfl
              refine ⟨true, (wanted_of (x := false) (want := false) (j := 6) fr rfl dg rfl rfl).trans rfl, fun _ => wp_value (w' := wx) ?_ ⟨rfl, hG⟩, (fun h => by cases h)⟩
              simp [execOp, f12, ref_AlikeVE, go_sem, i2, i3]
            · have dg : D 6 = true := hpre ⟨6, .guard⟩ (by simp) rfl
              have f13 := fr.atT 13 (hpre ⟨13, .data⟩ (by simp) rfl) rfl
              refine ⟨true, (wanted_of (x := false) (want := false) (j := 6) fr rfl dg rfl rfl).trans rfl, fun _ => wp_value (w' := wx) ?_ ⟨rfl, hG⟩, (fun h => by cases h)⟩
              simp [execOp, f13, ref_AlikeVE, go_sem]
            · have dg : D 6 = true := hpre ⟨6, .guard⟩ (by simp) rfl
              have f14 := fr.atT 14 (hpre ⟨14, .data⟩ (by simp) rfl) rfl
              refine ⟨true, (wanted_of (x := false) (want := false) (j := 6) fr rfl dg rfl rfl).trans rfl, fun _ => wp_value (w' := wx) ?_ ⟨rfl, hG⟩, (fun h => by cases h)⟩
              simp [execOp, f14, ref_AlikeVE, go_sem, ed0]
            · have dg : D 6 = true := hpre ⟨6, .guard⟩ (by simp) rfl
              have f11 := fr.atT 11 (hpre ⟨11, .data⟩ (by simp) rfl) rfl
              have f15 := fr.atT 15 (hpre ⟨15, .data⟩ (by simp) rfl) rfl
              refine ⟨true, (wanted_of (x := false) (want := false) (j := 6) fr rfl dg rfl rfl).trans rfl, fun _ => wp_value (w' := wx) ?_ ⟨rfl, hG⟩, (fun h => by cases h)⟩
              simp [execOp, f11, f15, ref_AlikeVE, go_sem, hw]
            · have f6 := fr.atT 6 (hpre ⟨6, .data⟩ (by simp) rfl) rfl
              have f16 := fr.atT 16 (hpre ⟨16, .data⟩ (by simp) rfl) rfl
              refine ⟨true, rfl, fun _ => wp_value (w' := wx) ?_ ⟨rfl, hG⟩, (fun h => by cases h)⟩
              simp [execOp, f6, f16, ref_AlikeVE, go_sem]
            · have f17 := fr.atT 17 (hpre ⟨17, .data⟩ (by simp) rfl) rfl
              refine ⟨true, rfl, fun _ => wp_value (w' := wx) ?_ ⟨rfl, hG⟩, (fun h => by cases h)⟩
              simp [execOp, f17, ref_AlikeVE, go_sem]
            · have dg : D 18 = true := hpre ⟨18, .guard⟩ (by simp) rfl
              refine ⟨true, (wanted_of (x := false) (want := false) (j := 18) fr rfl dg rfl rfl).trans rfl, fun _ => wp_value (w' := wx) ?_ ⟨rfl, hG⟩, (fun h => by cases h)⟩
              simp [execOp, o0, ref_AlikeVE, go_sem]
            · have dg : D 18 = true := hpre ⟨18, .guard⟩ (by simp) rfl
              refine ⟨true, (wanted_of (x := false) (want := false) (j := 18) fr rfl dg rfl rfl).trans rfl, fun _ => wp_value (w' := wx) ?_ ⟨rfl, hG⟩, (fun h => by cases h)⟩
              simp [execOp, o3, ref_AlikeVE, go_sem]
            · have dg : D 18 = true := hpre ⟨18, .guard⟩ (by simp) rfl
              have f19 := fr.atT 19 (hpre ⟨19, .data⟩ (by simp) rfl) rfl
              have f20 := fr.atT 20 (hpre ⟨20, .data⟩ (by simp) rfl) rfl
              refine ⟨true, (wanted_of (x := false) (want := false) (j := 18) fr rfl dg rfl rfl).trans rfl, fun _ => wp_value (w' := wx) ?_ ⟨rfl, hG⟩, (fun h => by cases h)⟩
              simp [execOp, f19, f20, ref_AlikeVE, go_sem, i1, i0, hlt]
            · have dg : D 18 = true := hpre ⟨18, .guard⟩ (by simp) rfl
              have f21 := fr.atT 21 (hpre ⟨21, .data⟩ (by simp) rfl) rfl
              refine ⟨true, (wanted_of (x := false) (want := false) (j := 18) fr rfl dg rfl rfl).trans rfl, fun _ => wp_value (w' := wx) ?_ ⟨rfl, hG⟩, (fun h => by cases h)⟩
              simp [execOp, f21, ref_AlikeVE, go_sem]
            · have dg : D 18 = true := hpre ⟨18, .guard⟩ (by simp) rfl
              have f22 := fr.atT 22 (hpre ⟨22, .data⟩ (by simp) rfl) rfl
              refine ⟨true, (wanted_of (x := false) (want := false) (j := 18) fr rfl dg rfl rfl).trans rfl, fun _ => wp_value (w' := wx) ?_ ⟨rfl, hG⟩, (fun h => by cases h)⟩
              simp [execOp, f22, ref_AlikeVE, go_sem, x1]
            · have dg : D 18 = true := hpre ⟨18, .guard⟩ (by simp) rfl
              refine ⟨true, (wanted_of (x := false) (want := false) (j := 18) fr rfl dg rfl rfl).trans rfl, fun _ => wp_value (w' := wx) ?_ ⟨rfl, hG⟩, (fun h => by cases h)⟩
              simp [execOp, o0, ref_AlikeVE, go_sem]
            · have dg : D 18 = true := hpre ⟨18, .guard⟩ (by simp) rfl
              have f24 := fr.atT 24 (hpre ⟨24, .data⟩ (by simp) rfl) rfl
              refine ⟨true, (wanted_of (x := false) (want := false) (j := 18) fr rfl dg rfl rfl).trans rfl, fun _ => wp_value (w' := wx) ?_ ⟨rfl, hG⟩, (fun h => by cases h)⟩
              simp [execOp, f24, ref_AlikeVE, go_sem, i2, i3]
            · have dg : D 18 = true := hpre ⟨18, .guard⟩ (by simp) rfl
              have f25 := fr.atT 25 (hpre ⟨25, .data⟩ (by simp) rfl) rfl
              refine ⟨true, (wanted_of (x := false) (want := false) (j := 18) fr rfl dg rfl rfl).trans rfl, fun _ => wp_value (w' := wx) ?_ ⟨rfl, hG⟩, (fun h => by cases h)⟩
              simp [execOp, f25, ref_AlikeVE, go_sem]
            · have dg : D 18 = true := hpre ⟨18, .guard⟩ (by simp) rfl
              have f26 := fr.atT 26 (hpre ⟨26, .data⟩ (by simp) rfl) rfl
              refine ⟨true, (wanted_of (x := false) (want := false) (j := 18) fr rfl dg rfl rfl).trans rfl, fun _ => wp_value (w' := wx) ?_ ⟨rfl, hG⟩, (fun h => by cases h)⟩
              simp [execOp, f26, ref_AlikeVE, go_sem, ed1]
            · have dg : D 18 = true := hpre ⟨18, .guard⟩ (by simp) rfl
              have f23 := fr.atT 23 (hpre ⟨23, .data⟩ (by simp) rfl) rfl
              have f27 := fr.atT 27 (hpre ⟨27, .data⟩ (by simp) rfl) rfl
              refine ⟨true, (wanted_of (x := false) (want := false) (j := 18) fr rfl dg rfl rfl).trans rfl, fun _ => wp_value (w' := wx) ?_ ⟨rfl, hG⟩, (fun h => by cases h)⟩
              simp [execOp, f23, f27, ref_AlikeVE, go_sem]
            · have f18 := fr.atT 18 (hpre ⟨18, .data⟩ (by simp) rfl) rfl
              have f28 := fr.atT 28 (hpre ⟨28, .data⟩ (by simp) rfl) rfl
              refine ⟨true, rfl, fun _ => wp_value (w' := wx) ?_ ⟨rfl, hG⟩, (fun h => by cases h)⟩
              simp [execOp, f18, f28, ref_AlikeVE, go_sem]
          case hend =>
            intro D w7 hG hall
            have B7 := HB0.out.trans (hG.mono HB0.out.size)
            simp only [putsU, Act.put, List.setIfInBounds_toArray, List.set_cons_succ, List.set_cons_zero, Nat.zero_add, Nat.reduceAdd, ref_AlikeVE]
            clear hG hall
            by_cases hh : Hh = H0
            · have hhd : (Hh != H0) = false := by simp [hh]
              go_wp2_with fail
              go_roundw
              case rel =>
                refine ⟨kk + 1, by omega, by go_num, fun j f hj hf => ?_, B7⟩
                rcases Nat.lt_succ_iff_lt_or_eq.1 hj with h | rfl
                · exact HOK.out j f h hf
                · rw [HXX.out] at hf
                  injection hf with hf
                  rw [← hf, HOF.out, HVV.out]
                  simp [hw, hh]
              case measure => (simp [intOf]; try omega)
            · have hhd : (Hh != H0) = true := by simp [hh]
              go_wp2_with fail
              go_ret
              exact ⟨ret_bool (alikeF_false HXX.out (by rw [HOF.out]; simp [hh])).symm, B7⟩
        · refine wp_region_fixedW (ref_AlikeVW W Hh W0 H0 b off 0 n c kk x.val) (fun _ w' => Below Wx.heap.size Wx w') (by kernel_rfl) (by kernel_rfl) (by kernel_rfl) ?h0 ?hstep ?hend
          case h0 => exact (Below.refl _ _).drew
          case hstep =>
            intro k o ho D ac wx fr hG hcl hDi hpre
            have x0 : wx.cell? ⟨b, off + kk * 5, none⟩ = some (.int .i64 W) := (hG.cell (p := ⟨b, off + kk * 5, none⟩) hblx).trans HC0.out
            have x1 : wx.cell? ⟨b, off + kk * 5 + 1, none⟩ = some (.int .i64 Hh) := (hG.cell (p := ⟨b, off + kk * 5 + 1, none⟩) hblx).trans HC1.out
            have x2 : wx.cell? ⟨b, off + kk * 5 + 2, none⟩ = some (.slice x.ya x.yn x.yc) := (hG.cell (p := ⟨b, off + kk * 5 + 2, none⟩) hblx).trans HC2.out
            have x3 : wx.cell? ⟨b, off + kk * 5 + 3, none⟩ = some (.slice x.ua x.un x.uc) := (hG.cell (p := ⟨b, off + kk * 5 + 3, none⟩) hblx).trans HC3.out
            have x4 : wx.cell? ⟨b, off + kk * 5 + 4, none⟩ = some (.slice x.va x.vn x.vc) := (hG.cell (p := ⟨b, off + kk * 5 + 4, none⟩) hblx).trans HC4.out
            have ed0 : wx.cell? ⟨b, off, none⟩ = some (.int .i64 W0) := (hG.cell (p := ⟨b, off, none⟩) hblx).trans HE0.out
            have ed1 : wx.cell? ⟨b, off + 1, none⟩ = some (.int .i64 H0) := (hG.cell (p := ⟨b, off + 1, none⟩) hblx).trans HE1.out
            have o0 : ac.tmps[0]?.getD undef = .slice (some ⟨b, off, none⟩) n c := fr.oldT 0 rfl
            have o3 : ac.tmps[3]?.getD undef = .int .i64 (kk : Int) := fr.oldT 3 rfl
            have hkn : k < 30 := (List.getElem?_eq_some_iff.1 ho).1
            rcases (show k = 0 ∨ k = 1 ∨ k = 2 ∨ k = 3 ∨ k = 4 ∨ k = 5 ∨ k = 6 ∨ k = 7 ∨ k = 8 ∨ k = 9 ∨ k = 10 ∨ k = 11 ∨ k = 12 ∨ k = 13 ∨ k = 14 ∨ k = 15 ∨ k = 16 ∨ k = 17 ∨ k = 18 ∨ k = 19 ∨ k = 20 ∨ k = 21 ∨ k = 22 ∨ k = 23 ∨ k = 24 ∨ k = 25 ∨ k = 26 ∨ k = 27 ∨ k = 28 ∨ k = 29 by omega) with rfl | rfl | rfl | rfl | rfl | rfl | rfl | rfl | rfl | rfl | rfl | rfl | rfl | rfl | rfl | rfl | rfl | rfl | rfl | rfl | rfl | rfl | rfl | rfl | rfl | rfl | rfl | rfl | rfl | rfl
            all_goals (simp only [List.getElem?_cons_zero, List.getElem?_cons_succ, Option.some.injEq] at ho; subst ho)
            · refine ⟨true, rfl, fun _ => wp_value (w' := wx) ?_ ⟨rfl, hG⟩, (fun h => by cases h)⟩
              simp [execOp, o0, ref_AlikeVW, go_sem]
            · refine ⟨true, rfl, fun _ => wp_value (w' := wx) ?_ ⟨rfl, hG⟩, (fun h => by cases h)⟩
              simp [execOp, o3, ref_AlikeVW, go_sem]
            · have f0 := fr.atT 0 (hpre ⟨0, .data⟩ (by simp) rfl) rfl
              have f1 := fr.atT 1 (hpre ⟨1, .data⟩ (by simp) rfl) rfl
              refine ⟨true, rfl, fun _ => wp_value (w' := wx) ?_ ⟨rfl, hG⟩, (fun h => by cases h)⟩
              simp [execOp, f0, f1, ref_AlikeVW, go_sem, i1, i0, hlt]
            · have f2 := fr.atT 2 (hpre ⟨2, .data⟩ (by simp) rfl) rfl
              refine ⟨true, rfl, fun _ => wp_value (w' := wx) ?_ ⟨rfl, hG⟩, (fun h => by cases h)⟩
              simp [execOp, f2, ref_AlikeVW, go_sem, x0, x1, x2, x3, x4, FA.val, HWW.out, HHH.out]
            · have f3 := fr.atT 3 (hpre ⟨3, .data⟩ (by simp) rfl) rfl
              have e3 := fr.at_ 3 (hpre ⟨3, .data⟩ (by simp) rfl) rfl
              refine ⟨true, rfl, fun _ => ?_, (fun h => by cases h)⟩
              refine wp_called (f := 41) (args := #[x.val]) ?_ (HV.out _ (HX.out.ext hG)) ?_
              · simp [execOp, resolve, invoke, f3, e3, ref_AlikeVW, go_sem]
              · rintro e w' ⟨rfl, hb9⟩
                rw [HVV.out]
                exact ⟨_, rfl, rfl, hG.trans (hb9.mono hG.size)⟩
            · have f4 := fr.atT 4 (hpre ⟨4, .data⟩ (by simp) rfl) rfl
              refine ⟨true, rfl, fun _ => wp_value (w' := wx) ?_ ⟨rfl, hG⟩, (fun h => by cases h)⟩
              simp [execOp, f4, ref_AlikeVW, go_sem]
            · have f5 := fr.atT 5 (hpre ⟨5, .data⟩ (by simp) rfl) rfl
              refine ⟨true, rfl, fun _ => wp_value (w' := wx) ?_ ⟨rfl, hG⟩, (fun h => by cases h)⟩
              simp [execOp, f5, ref_AlikeVW, go_sem]
            · have dg : D 6 = true := hpre ⟨6, .guard⟩ (by simp) rfl
              refine ⟨true, (wanted_of (x := false) (want := false) (j := 6) fr rfl dg rfl rfl).trans rfl, fun _ => wp_value (w' := wx) ?_ ⟨rfl, hG⟩, (fun h => by cases h)⟩
              simp [execOp, o0, ref_AlikeVW, go_sem]
            · have dg : D 6 = true := hpre ⟨6, .guard⟩ (by simp) rfl
              refine ⟨true, (wanted_of (x := false) (want := false) (j := 6) fr rfl dg rfl rfl).trans rfl, fun _ => wp_value (w' := wx) ?_ ⟨rfl, hG⟩, (fun h => by cases h)⟩
              simp [execOp, o3, ref_AlikeVW, go_sem]
            · have dg : D 6 = true := hpre ⟨6, .guard⟩ (by simp) rfl
              have f7 := fr.atT 7 (hpre ⟨7, .data⟩ (by simp) rfl) rfl
              have f8 := fr.atT 8 (hpre ⟨8, .data⟩ (by simp) rfl) rfl
              refine ⟨true, (wanted_of (x := false) (want := false) (j := 6) fr rfl dg rfl rfl).trans rfl, fun _ => wp_value (w' := wx) ?_ ⟨rfl, hG⟩, (fun h => by cases h)⟩
              simp [execOp, f7, f8, ref_AlikeVW, go_sem, i1, i0, hlt]
            · have dg : D 6 = true := hpre ⟨6, .guard⟩ (by simp) rfl
              have f9 := fr.atT 9 (hpre ⟨9, .data⟩ (by simp) rfl) rfl
              refine ⟨true, (wanted_of (x := false) (want := false) (j := 6) fr rfl dg rfl rfl).trans rfl, fun _ => wp_value (w' := wx) ?_ ⟨rfl, hG⟩, (fun h => by cases h)⟩
              simp [execOp, f9, ref_AlikeVW, go_sem]
            · have dg : D 6 = true := hpre ⟨6, .guard⟩ (by simp) rfl
              have f10 := fr.atT 10 (hpre ⟨10, .data⟩ (by simp) rfl) rfl
              refine ⟨true, (wanted_of (x := false) (want := false) (j := 6) fr rfl dg rfl rfl).trans rfl, fun _ => wp_value (w' := wx) ?_ ⟨rfl, hG⟩, (fun h => by cases h)⟩
              simp [execOp, f10, ref_AlikeVW, go_sem, x0]
            · have dg : D 6 = true := hpre ⟨6, .guard⟩ (by simp) rfl
              refine ⟨true, (wanted_of (x := false) (want := false) (j := 6) fr rfl dg rfl rfl).trans rfl, fun _ => wp_value (w' := wx) ?_ ⟨rfl, hG⟩, (fun h => by cases h)⟩
              simp [execOp, o0, ref_AlikeVW, go_sem]
            · have dg : D 6 = true := hpre ⟨6, .guard⟩ (by simp) rfl
              have f12 := fr.atT 12 (hpre ⟨12, .data⟩ (by simp) rfl) rfl
              refine ⟨true, (wanted_of (x := false) (want := false) (j := 6) fr rfl dg rfl rfl).trans rfl, fun _ => wp_value (w' := wx) ?_ ⟨rfl, hG⟩, (fun h => by cases h)⟩
              simp [execOp, f12, ref_AlikeVW, go_sem, i2, i3]
            · have dg : D 6 = true := hpre ⟨6, .guard⟩ (by simp) rfl
              have f13 := fr.atT 13 (hpre ⟨13, .data⟩ (by simp) rfl) rfl
              refine ⟨true, (wanted_of (x := false) (want := false) (j := 6) fr rfl dg rfl rfl).trans rfl, fun _ => wp_value (w' := wx) ?_ ⟨rfl, hG⟩, (fun h => by cases h)⟩
              simp [execOp, f13, ref_AlikeVW, go_sem]
            · have dg : D 6 = true := hpre ⟨6, .guard⟩ (by simp) rfl
              have f14 := fr.atT 14 (hpre ⟨14, .data⟩ (by simp) rfl) rfl
              refine ⟨true, (wanted_of (x := false) (want := false) (j := 6) fr rfl dg rfl rfl).trans rfl, fun _ => wp_value (w' := wx) ?_ ⟨rfl, hG⟩, (fun h => by cases h)⟩
              simp [execOp, f14, ref_AlikeVW, go_sem, ed0]
            · have dg : D 6 = true := hpre ⟨6, .guard⟩ (by simp) rfl
              have f11 := fr.atT 11 (hpre ⟨11, .data⟩ (by simp) rfl) rfl
              have f15 := fr.atT 15 (hpre ⟨15, .data⟩ (by simp) rfl) rfl
              refine ⟨true, (wanted_of (x := false) (want := false) (j := 6) fr rfl dg rfl rfl).trans rfl, fun _ => wp_value (w' := wx) ?_ ⟨rfl, hG⟩, (fun h => by cases h)⟩
              simp [execOp, f11, f15, ref_AlikeVW, go_sem, hw]
            · have f6 := fr.atT 6 (hpre ⟨6, .data⟩ (by simp) rfl) rfl
              have f16 := fr.atT 16 (hpre ⟨16, .data⟩ (by simp) rfl) rfl
              refine ⟨true, rfl, fun _ => wp_value (w' := wx) ?_ ⟨rfl, hG⟩, (fun h => by cases h)⟩
              simp [execOp, f6, f16, ref_AlikeVW, go_sem]
            · have f17 := fr.atT 17 (hpre ⟨17, .data⟩ (by simp) rfl) rfl
              refine ⟨true, rfl, fun _ => wp_value (w' := wx) ?_ ⟨rfl, hG⟩, (fun h => by cases h)⟩
              simp [execOp, f17, ref_AlikeVW, go_sem]
            · have dg : D 18 = true := hpre ⟨18, .guard⟩ (by simp) rfl
              exact ⟨false, (wanted_of (x := true) (want := false) (j := 18) fr rfl dg rfl rfl).trans rfl, (fun h => by cases h), fun _ => ⟨rfl, hG⟩⟩
            · have dg : D 18 = true := hpre ⟨18, .guard⟩ (by simp) rfl
              exact ⟨false, (wanted_of (x := true) (want := false) (j := 18) fr rfl dg rfl rfl).trans rfl, (fun h => by cases h), fun _ => ⟨rfl, hG⟩⟩
            · have dg : D 18 = true := hpre ⟨18, .guard⟩ (by simp) rfl
              exact ⟨false, (wanted_of (x := true) (want := false) (j := 18) fr rfl dg rfl rfl).trans rfl, (fun h => by cases h), fun _ => ⟨rfl, hG⟩⟩
            · have dg : D 18 = true := hpre ⟨18, .guard⟩ (by simp) rfl
              exact ⟨false, (wanted_of (x := true) (want := false) (j := 18) fr rfl dg rfl rfl).trans rfl, (fun h => by cases h), fun _ => ⟨rfl, hG⟩⟩
            · have dg : D 18 = true := hpre ⟨18, .guard⟩ (by simp) rfl
              exact ⟨false, (wanted_of (x := true) (want := false) (j := 18) fr rfl dg rfl rfl).trans rfl, (fun h => by cases h), fun _ => ⟨rfl, hG⟩⟩
            · have dg : D 18 = true := hpre ⟨18, .guard⟩ (by simp) rfl
              exact ⟨false, (wanted_of (x := true) (want := false) (j := 18) fr rfl dg rfl rfl).trans rfl, (fun h => by cases h), fun _ => ⟨rfl, hG⟩⟩
            · have dg : D 18 = true := hpre ⟨18, .guard⟩ (by simp) rfl
              exact ⟨false, (wanted_of (x := true) (want := false) (j := 18) fr rfl dg rfl rfl).trans rfl, (fun h => by cases h), fun _ => ⟨rfl, hG⟩⟩
            · have dg : D 18 = true := hpre ⟨18, .guard⟩ (by simp) rfl
              exact ⟨false, (wanted_of (x := true) (want := false) (j := 18) fr rfl dg rfl rfl).trans rfl, (fun h => by cases h), fun _ => ⟨rfl, hG⟩⟩
            · have dg : D 18 = true := hpre ⟨18, .guard⟩ (by simp) rfl
              exact ⟨false, (wanted_of (x := true) (want := false) (j := 18) fr rfl dg rfl rfl).trans rfl, (fun h => by cases h), fun _ => ⟨rfl, hG⟩⟩
            · have dg : D 18 = true := hpre ⟨18, .guard⟩ (by simp) rfl
              exact ⟨false, (wanted_of (x := true) (want := false) (j := 18) fr rfl dg rfl rfl).trans rfl, (fun h => by cases h), fun _ => ⟨rfl, hG⟩⟩
            · have f18 := fr.atT 18 (hpre ⟨18, .data⟩ (by simp) rfl) rfl
              have f28 := fr.atT 28 (hpre ⟨28, .data⟩ (by simp) rfl) rfl
              refine ⟨true, rfl, fun _ => wp_value (w' := wx) ?_ ⟨rfl, hG⟩, (fun h => by cases h)⟩
              simp [execOp, f18, f28, ref_AlikeVW, go_sem]
          case hend =>
            intro D w7 hG hall
            have B7 := HB0.out.trans (hG.mono HB0.out.size)
            simp only [putsU, Act.put, List.setIfInBounds_toArray, List.set_cons_succ, List.set_cons_zero, Nat.zero_add, Nat.reduceAdd, ref_AlikeVW]
            clear hG hall
            go_wp2_with fail
            go_ret
            exact ⟨ret_bool (alikeF_false HXX.out (by rw [HOF.out]; simp [hw])).symm, B7⟩
    · have hkn : kk = n := by omega
      subst hkn
      go_wp2_with fail
      go_ret
      exact ⟨ret_bool (alikeF_true HL.out HOK.out).symm, hb⟩
end Go.Proofs.Ytclainbjidajbaa
