/- The contract of Weave of the program. -/
import Derived.Test.YtaedpadkpclldaaPWeaveNo
import Derived.Test.YtaedpadkpclldaaPField
namespace Go.Proofs.Ytaedpadkpclldaa
open Go.RowKit

theorem Bx.set5 {w : World} {g : Nat} {t : TypeId} {a0 a1 a2 a3 a4 : Value} (h : Bx w g t #[a0, a1, a2, a3, a4]) (v0 v1 v2 v3 v4 : Value) :
    Bx (((((w.setCell ⟨g, 0, none⟩ v0).setCell ⟨g, 1, none⟩ v1).setCell ⟨g, 2, none⟩ v2).setCell ⟨g, 3, none⟩ v3).setCell ⟨g, 4, none⟩ v4) g t #[v0, v1, v2, v3, v4] :=
  ((((h.set_ 0 v0).set_ 1 v1).set_ 2 v2).set_ 3 v3).set_ 4 v4
def wvL (m a b : List Int) (wd h : Nat) : Nat → List Int
  | 0 => m
  | 1 => pasteL m a 0 (2 * wd) wd h
  | _ => pasteL (pasteL m a 0 (2 * wd) wd h) b wd (2 * wd) wd h
theorem wvL_len {m a b : List Int} {wd h : Nat} (hw : 0 < wd) (hm : m.length = h * (2 * wd)) (k : Nat) : (wvL m a b wd h k).length = m.length := by
  have f1 : ∀ i, i < h → 0 + i * (2 * wd) + wd ≤ m.length := fun i hi => by have := row_lt (q := i) (r := h) (st := 2 * wd) (j := wd) hi (by omega); omega
  have l1 := pasteL_len (l := a) h f1
  have f2 : ∀ i, i < h → wd + i * (2 * wd) + wd ≤ (pasteL m a 0 (2 * wd) wd h).length := fun i hi => by have := row_lt (q := i) (r := h) (st := 2 * wd) (j := 2 * wd - 1) hi (by omega); omega
  have l2 := pasteL_len (l := b) h f2
  match k with
  | 0 => rfl
  | 1 => exact l1
  | _ + 2 => exact l2.trans l1
theorem fit_rows0 {wd h n : Nat} (hw : 0 < wd) (hn : n = h * (2 * wd)) : ∀ r, r < h → 0 + r * (2 * wd) + wd ≤ n := fun r hr => by have := row_lt (q := r) (r := h) (st := 2 * wd) (j := wd) hr (by omega); omega
theorem fit_rows1 {wd h n : Nat} (hw : 0 < wd) (hn : n = h * (2 * wd)) : ∀ r, r < h → wd + r * (2 * wd) + wd ≤ n := fun r hr => by have := row_lt (q := r) (r := h) (st := 2 * wd) (j := 2 * wd - 1) hr (by omega); omega
theorem rng_zeros (n : Nat) : ∀ x ∈ List.replicate n (0 : Int), 0 ≤ x ∧ x ≤ 255 := by intro x hx; rw [List.eq_of_mem_replicate hx]; omega

theorem madeW_mk {w2 wx : World} {t e : TypeId} {go g1 g2 g3 L K : Nat} {x y : Value} (hx : Bx wx.drew go t #[x, y, .slice (some ⟨g1, 0, none⟩) L L, .slice (some ⟨g2, 0, none⟩) K K, .slice (some ⟨g3, 0, none⟩) K K])
    (k1 : Bk wx.drew e g1 (List.replicate L 0)) (k2 : Bk wx.drew e g2 (List.replicate K 0)) (k3 : Bk wx.drew e g3 (List.replicate K 0))
    (b1 : w2.heap.size ≤ g1) (b2 : w2.heap.size ≤ g2) (b3 : w2.heap.size ≤ g3) (b4 : w2.heap.size ≤ go) (n1 : g1 ≠ g2) (n2 : g1 ≠ g3) (n3 : g2 ≠ g3) (n4 : go ≠ g1) (n5 : go ≠ g2) (n6 : go ≠ g3) (hb : Below w2.heap.size w2 wx.drew) :
    ∃ go' g1' g2' g3' : Nat, (Value.pointer (some ⟨go, 0, none⟩) = .pointer (some ⟨go', 0, none⟩)) ∧ Bx wx.drew go' t #[x, y, .slice (some ⟨g1', 0, none⟩) L L, .slice (some ⟨g2', 0, none⟩) K K, .slice (some ⟨g3', 0, none⟩) K K] ∧ Bk wx.drew e g1' (List.replicate L 0) ∧ Bk wx.drew e g2' (List.replicate K 0) ∧ Bk wx.drew e g3' (List.replicate K 0) ∧
    w2.heap.size ≤ g1' ∧ w2.heap.size ≤ g2' ∧ w2.heap.size ≤ g3' ∧ w2.heap.size ≤ go' ∧ g1' ≠ g2' ∧ g1' ≠ g3' ∧ g2' ≠ g3' ∧ go' ≠ g1' ∧ go' ≠ g2' ∧ go' ≠ g3' ∧ Below w2.heap.size w2 wx.drew :=
  ⟨go, g1, g2, g3, rfl, hx, k1, k2, k3, b1, b2, b3, b4, n1, n2, n3, n4, n5, n6, hb⟩

set_option maxRecDepth 100000 in
set_option maxHeartbeats 16000000 in
theorem plane_Weave_yes {p : Nat → Prop} (v u : Value) (a q : Nat) (Y U V Y2 U2 V2 : List Int) (w : World) (hf : IsFr p w v ⟨((2 * a : Nat) : Int), ((2 * q : Nat) : Int), Y, U, V⟩) (hg : IsFr p w u ⟨((2 * a : Nat) : Int), ((2 * q : Nat) : Int), Y2, U2, V2⟩) (hc : CapsOK v) (hd : CapsOK u)
    (h1 : formedB ⟨((2 * a : Nat) : Int), ((2 * q : Nat) : Int), Y, U, V⟩ = true) (h2 : formedB ⟨((2 * a : Nat) : Int), ((2 * q : Nat) : Int), Y2, U2, V2⟩ = true)
    (ha1 : 1 ≤ a) (ha2 : a ≤ 32) (hq1 : 1 ≤ q) (hq2 : q ≤ 16) (lY : Y.length = (2 * q) * (2 * a)) (lU : U.length = q * a) (lV : V.length = q * a) (lY2 : Y2.length = (2 * q) * (2 * a)) (lU2 : U2.length = q * a) (lV2 : V2.length = q * a) :
    Calls Try.prog 40 #[v, u] w (RetFc w (⟨((2 * a : Nat) : Int), ((4 * q : Nat) : Int), wovenL Y Y2 (2 * a) (2 * q), wovenL U U2 a q, wovenL V V2 a q⟩, 0)) := by
  have hfx := IsFr.mono (q := fun b => b < w.heap.size) hf (fun b h _ => h)
  have hgx := IsFr.mono (q := fun b => b < w.heap.size) hg (fun b h _ => h)
  clear hf hg
  have hf := hfx
  have hg := hgx
  clear hfx hgx
  have hf0 := hf
  have hg0 := hg
  obtain ⟨ya, yn, yc, ua, un, uc, va, vn, vc, rfl, hy, hu, hv⟩ := hf
  obtain ⟨yb, yn2, yc2, ub, un2, uc2, vb, vn2, vc2, rfl, hy2, hu2, hv2⟩ := hg
  obtain ⟨hc1, hc2, hc3⟩ := hc.out
  obtain ⟨hd1, hd2, hd3⟩ := hd.out
  dsimp only at *
  obtain ⟨nw, hnw⟩ : ∃ n, n = 2 * a := ⟨_, rfl⟩
  obtain ⟨nh, hnh⟩ : ∃ n, n = 2 * q := ⟨_, rfl⟩
  obtain ⟨nH, hnH⟩ : ∃ n, n = 4 * q := ⟨_, rfl⟩
  rw [hy.len, ← hnw, ← hnh] at lY
  rw [hu.len] at lU
  rw [hv.len] at lV
  rw [hy2.len, ← hnw, ← hnh] at lY2
  rw [hu2.len] at lU2
  rw [hv2.len] at lV2
  obtain rfl : yn2 = yn := by rw [lY, lY2]
  obtain rfl : un2 = un := by rw [lU, lU2]
  obtain rfl : vn2 = vn := by rw [lV, lV2]
  rw [← hnw, ← hnh] at h1 h2 hf0 hg0
  rw [← hnw, ← hnh, ← hnH]
  clear lY2 lU2 lV2
  have f2 : IntKind.i64.wrap (2 * (nh : Int)) = (nH : Int) := by rw [show 2 * (nh : Int) = ((nH : Nat) : Int) by omega]; exact IntWalk.i64_in _ (by omega)
  have f4 : ((nw : Nat) : Int).tdiv 2 = (a : Int) := by rw [Int.tdiv_eq_ediv_of_nonneg (by omega)]; omega
  have f5 : ((nh : Nat) : Int).tdiv 2 = (q : Int) := by rw [Int.tdiv_eq_ediv_of_nonneg (by omega)]; omega
  have f8 : IntKind.i64.wrap (a : Int) = (a : Int) := IntWalk.i64_in _ (by omega)
  have f9 : IntKind.i64.wrap (q : Int) = (q : Int) := IntWalk.i64_in _ (by omega)
  have g1 : ((nw : Int) != (nw : Int)) = false := by simp
  have g2 : ((nh : Int) != (nh : Int)) = false := by simp
  have g3 : decide ((nH : Int) > 64) = false := decide_eq_false (by omega)
  have bnw : nw ≤ 64 := by omega
  have bnh : nh ≤ 32 := by omega
  have bnH : nH ≤ 64 := by omega
  have bn1 : 1 ≤ nw := by omega
  have Hnw := Lib.hid hnw
  have Hnh := Lib.hid hnh
  have HnH := Lib.hid hnH
  have KY := Lib.hid lY
  have KU := Lib.hid lU
  have KV := Lib.hid lV
  clear hnw hnh hnH lY lU lV
  obtain ⟨nw2, hnw2⟩ : ∃ n, n = 2 * nw := ⟨_, rfl⟩
  obtain ⟨L, hL⟩ : ∃ n, n = nh * (2 * nw) := ⟨_, rfl⟩
  obtain ⟨K, hK⟩ : ∃ n, n = q * (2 * a) := ⟨_, rfl⟩
  have bL : L ≤ 4096 := by rw [hL]; exact Nat.le_trans (Nat.mul_le_mul bnh (Nat.mul_le_mul_left 2 bnw)) (by omega)
  have bK : K ≤ 1024 := by rw [hK]; exact Nat.le_trans (Nat.mul_le_mul hq2 (Nat.mul_le_mul_left 2 ha2)) (by omega)
  have eM : nw * nh = 2 * K := by rw [hK, Hnw.out, Hnh.out, Nat.mul_comm (2 * a), Nat.mul_assoc]
  have eL : nw2 * nh = L := by rw [hL, hnw2, Nat.mul_comm]
  have f6 : IntKind.i64.wrap (2 * (nw : Int)) = (nw2 : Int) := by rw [show 2 * (nw : Int) = ((nw2 : Nat) : Int) by omega]; exact IntWalk.i64_in _ (by omega)
  have f7 : IntKind.i64.wrap (nw : Int) = (nw : Int) := IntWalk.i64_in _ (by omega)
  have fa : IntKind.i64.wrap ((nw2 : Int) * (nh : Int)) = (L : Int) := by rw [← Int.natCast_mul, eL]; exact IntWalk.i64_in _ (by omega)
  obtain ⟨M, hM⟩ : ∃ n, n = nw * nh := ⟨_, rfl⟩
  have fb : IntKind.i64.wrap ((nw : Int) * (nh : Int)) = (M : Int) := by rw [← Int.natCast_mul, ← hM]; exact IntWalk.i64_in _ (by omega)
  have fc : ((M : Nat) : Int).tdiv 2 = (K : Int) := by rw [Int.tdiv_eq_ediv_of_nonneg (by omega)]; omega
  have fd : IntKind.i64.wrap (K : Int) = (K : Int) := IntWalk.i64_in _ (by omega)
  have mk1 := run_mkBn (P := Try.prog) (t := 22) Try.underlying22 Try.infoB L L (Nat.le_refl _) (by omega)
  have mk2 := run_mkBn (P := Try.prog) (t := 22) Try.underlying22 Try.infoB K K (Nat.le_refl _) (by omega)
  have bnw2 : nw2 ≤ 128 := by omega
  have Hnw2 := Lib.hid hnw2
  have HL := Lib.hid hL
  have HK := Lib.hid hK
  clear hnw2 hL hK eM eL hM
  have MK1 := Lib.hid mk1
  have MK2 := Lib.hid mk2
  clear mk1 mk2
  go_enter Try.func40, Try.ntmps40
  go_wp2_with fail
  refine (plane_Formed _ ⟨(nw : Int), (nh : Int), Y, U, V⟩ _ (by (repeat with_reducible apply IsFr.alloc); exact hf0)).mono ?_
  rintro e w1 ⟨rfl, hb1⟩
  have B0 : Below w.heap.size w w1 := ((((Below.refl _ w).alloc (by simp) _).alloc (by simp) _).alloc (by simp; omega) _).trans (hb1.mono (by simp; omega))
  have xx1 : Bx w1 w.heap.size 24 #[.int .i64 nw, .int .i64 nh, .slice ya yn2 yc, .slice ua un2 uc, .slice va vn2 vc] := (((Bx.new w _ _).alloc _).alloc _).ext hb1
  have xx2 : Bx w1 (w.heap.size + 1) 24 #[.int .i64 nw, .int .i64 nh, .slice yb yn2 yc2, .slice ub un2 uc2, .slice vb vn2 vc2] := ((Bx.new' _ _ _ _ (by simp)).alloc _).ext hb1
  have xx3 : Bx w1 (w.heap.size + 1 + 1) 24 #[.int .i64 0, .int .i64 0, .slice none 0 0, .slice none 0 0, .slice none 0 0] := (Bx.new' _ _ _ _ (by simp)).ext hb1
  have XX1 := Lib.hid xx1
  have XX2 := Lib.hid xx2
  have XX3 := Lib.hid xx3
  clear xx1 xx2 xx3
  obtain ⟨y0, y1, y2, y3, y4⟩ := XX2.out.cells5
  go_wp2_with fail
  refine (plane_Formed _ ⟨(nw : Int), (nh : Int), Y2, U2, V2⟩ _ (hg0.ext B0)).mono ?_
  rintro e w2 ⟨rfl, hb2⟩
  clear y0 y1 y2 y3 y4
  have BW : Below w.heap.size w w2 := B0.trans (hb2.mono B0.size)
  have yy1 := XX1.out.ext hb2
  have yy2 := XX2.out.ext hb2
  have yy3 := XX3.out.ext hb2
  clear hb1 hb2 B0 XX1 XX2 XX3
  obtain ⟨x0, x1, x2, x3, x4⟩ := yy1.cells5
  obtain ⟨y0, y1, y2, y3, y4⟩ := yy2.cells5
  have q_2_2 := yy3.lt
  go_upto_region 3 with fail
  go_quiet (fail)
  have BWq : Below w.heap.size w (w2.drewN nq) := ⟨BW.os, BW.tape, BW.output, BW.size, BW.block⟩
  have yq1 : Bx (w2.drewN nq) w.heap.size 24 _ := yy1
  have yq2 : Bx (w2.drewN nq) (w.heap.size + 1) 24 _ := yy2
  have yq3 : Bx (w2.drewN nq) (w.heap.size + 1 + 1) 24 _ := yy3
  clear x0 x1 x2 x3 x4 y0 y1 y2 y3 y4 yy1 yy2 yy3 BW q_2_2
  generalize w2.drewN nq = wq at *
  clear w2
  obtain ⟨w2, rfl⟩ : ∃ w2 : World, w2 = wq := ⟨_, rfl⟩
  go_upto_region 4 with fail
  go_cut [8] (fun s8 wx => ∃ go g1 g2 g3 : Nat, s8 = .pointer (some ⟨go, 0, none⟩) ∧ Bx wx go 24 #[.int .i64 nw, .int .i64 nH, .slice (some ⟨g1, 0, none⟩) L L, .slice (some ⟨g2, 0, none⟩) K K, .slice (some ⟨g3, 0, none⟩) K K] ∧ Bk wx 5 g1 (List.replicate L 0) ∧ Bk wx 5 g2 (List.replicate K 0) ∧ Bk wx 5 g3 (List.replicate K 0) ∧
    w2.heap.size ≤ g1 ∧ w2.heap.size ≤ g2 ∧ w2.heap.size ≤ g3 ∧ w2.heap.size ≤ go ∧ g1 ≠ g2 ∧ g1 ≠ g3 ∧ g2 ≠ g3 ∧ go ≠ g1 ∧ go ≠ g2 ∧ go ≠ g3 ∧ Below w2.heap.size w2 wx)
  case first =>
    rename_i J K2 hJ hK2
    have mk1 := MK1.out
    have mk2 := MK2.out
    clear MK1 MK2 hf0 hg0 hy hu hv hy2 hu2 hv2 hc hd hc1 hc2 hc3 hd1 hd2 hd3 h1 h2 Hnw Hnh HnH KY KU KV Hnw2 HL HK g1 g2 g3 BWq yq1 yq2 yq3 f4 f5 f7 f8 f9
    go_region
    all_goals clear f2 f6 fa fb fc fd mk1 mk2
    all_goals
      refine hK2 _ _ (hJ _ _ ?_)
      clear hK2 hJ
      (repeat apply Exists.intro)
      refine ⟨?_, rfl⟩
      apply madeW_mk
      case hx => ((refine Bx.drew ?_); (repeat (first | (with_reducible refine Bx.new' _ _ _ _ ?_; (simp; done)) | (with_reducible refine Bx.alloc ?_ _))))
      case k1 => ((refine Bk.drew ?_); (repeat (first | (with_reducible refine Bk.made' _ _ _ _ ?_; (simp; done)) | (with_reducible refine Bk.alloc ?_ _))))
      case k2 => ((refine Bk.drew ?_); (repeat (first | (with_reducible refine Bk.made' _ _ _ _ ?_; (simp; done)) | (with_reducible refine Bk.alloc ?_ _))))
      case k3 => ((refine Bk.drew ?_); (repeat (first | (with_reducible refine Bk.made' _ _ _ _ ?_; (simp; done)) | (with_reducible refine Bk.alloc ?_ _))))
      case hb => ((refine Below.drew ?_); (repeat (first | exact Below.refl _ _ | (with_reducible refine Below.alloc ?_ (by first | (simp; done) | (simp; omega)) _))))
      all_goals omega
  case rest =>
    obtain ⟨go, g1, g2, g3, rfl, xO, kY, kU, kV, b1, b2, b3, b4, n12, n13, n23, no1, no2, no3, hbC⟩ := hcut
    have z1 := yq1.ext hbC
    have z2 := yq2.ext hbC
    have z3 := yq3.ext hbC
    have BC : Below w.heap.size w wc := BWq.trans (hbC.mono BWq.size)
    have sBq := BWq.size
    have l3 := yq3.lt
    clear yq1 yq2 yq3 BWq MK1 MK2 hbC fa fb fc fd
    obtain ⟨x0, x1, x2, x3, x4⟩ := z1.cells5
    obtain ⟨y0, y1, y2, y3, y4⟩ := z2.cells5
    go_wp2_with fail
    have lC0 := z3.lt
    have lg1 := kY.lt
    have lg2 := kU.lt
    have lg3 := kV.lt
    have lgo := xO.lt
    clear x0 x1 x2 x3 x4 y0 y1 y2 y3 y4
    have xS : Bx (wc.alloc (.cells #[.int .i64 nw, .int .i64 nh, .slice ya yn2 yc, .slice ua un2 uc, .slice va vn2 vc, .int .i64 nw, .int .i64 nh, .slice yb yn2 yc2, .slice ub un2 uc2, .slice vb vn2 vc2] 24)) wc.heap.size 24 #[.int .i64 nw, .int .i64 nh, .slice ya yn2 yc, .slice ua un2 uc, .slice va vn2 vc, .int .i64 nw, .int .i64 nh, .slice yb yn2 yc2, .slice ub un2 uc2, .slice vb vn2 vc2] := Bx.new wc _ _
    have xO := xO.alloc (.cells #[.int .i64 nw, .int .i64 nh, .slice ya yn2 yc, .slice ua un2 uc, .slice va vn2 vc, .int .i64 nw, .int .i64 nh, .slice yb yn2 yc2, .slice ub un2 uc2, .slice vb vn2 vc2] 24)
    have xR := z3.alloc (.cells #[.int .i64 nw, .int .i64 nh, .slice ya yn2 yc, .slice ua un2 uc, .slice va vn2 vc, .int .i64 nw, .int .i64 nh, .slice yb yn2 yc2, .slice ub un2 uc2, .slice vb vn2 vc2] 24)
    have kY := kY.alloc (.cells #[.int .i64 nw, .int .i64 nh, .slice ya yn2 yc, .slice ua un2 uc, .slice va vn2 vc, .int .i64 nw, .int .i64 nh, .slice yb yn2 yc2, .slice ub un2 uc2, .slice vb vn2 vc2] 24)
    have kU := kU.alloc (.cells #[.int .i64 nw, .int .i64 nh, .slice ya yn2 yc, .slice ua un2 uc, .slice va vn2 vc, .int .i64 nw, .int .i64 nh, .slice yb yn2 yc2, .slice ub un2 uc2, .slice vb vn2 vc2] 24)
    have kV := kV.alloc (.cells #[.int .i64 nw, .int .i64 nh, .slice ya yn2 yc, .slice ua un2 uc, .slice va vn2 vc, .int .i64 nw, .int .i64 nh, .slice yb yn2 yc2, .slice ub un2 uc2, .slice vb vn2 vc2] 24)
    have BC := BC.alloc (by have := BC.size; omega) (.cells #[.int .i64 nw, .int .i64 nh, .slice ya yn2 yc, .slice ua un2 uc, .slice va vn2 vc, .int .i64 nw, .int .i64 nh, .slice yb yn2 yc2, .slice ub un2 uc2, .slice vb vn2 vc2] 24)
    clear z1 z2 z3
    have lC : w.heap.size + 1 + 1 < wc.heap.size := by assumption
    generalize wc.alloc (.cells #[.int .i64 nw, .int .i64 nh, .slice ya yn2 yc, .slice ua un2 uc, .slice va vn2 vc, .int .i64 nw, .int .i64 nh, .slice yb yn2 yc2, .slice ub un2 uc2, .slice vb vn2 vc2] 24) = wA at *
    generalize wc.heap.size = gs at *
    go_loopw [67] (fun i wr => ∃ k : Nat, k ≤ 2 ∧ i = .int .i64 k ∧ Bx wr go 24 #[.int .i64 nw, .int .i64 nH, .slice (some ⟨g1, 0, none⟩) L L, .slice (some ⟨g2, 0, none⟩) K K, .slice (some ⟨g3, 0, none⟩) K K] ∧ Bx wr gs 24 #[.int .i64 nw, .int .i64 nh, .slice ya yn2 yc, .slice ua un2 uc, .slice va vn2 vc, .int .i64 nw, .int .i64 nh, .slice yb yn2 yc2, .slice ub un2 uc2, .slice vb vn2 vc2] ∧ Bx wr (w.heap.size + 1 + 1) 24 #[.int .i64 0, .int .i64 0, .slice none 0 0, .slice none 0 0, .slice none 0 0] ∧ Bk wr 5 g1 (wvL (List.replicate L 0) Y Y2 nw nh k) ∧ Bk wr 5 g2 (wvL (List.replicate K 0) U U2 a q k) ∧ Bk wr 5 g3 (wvL (List.replicate K 0) V V2 a q k) ∧ Below w.heap.size w wr) (fun i _ => 2 - (intOf i).toNat)
    case atStart => exact ⟨0, by omega, rfl, xO, xS, xR, kY, kU, kV, BC⟩
    case round =>
      clear xO xS xR kY kU kV BC
      obtain ⟨k, hk, rfl, xO, xS, xR, kY, kU, kV, BC⟩ := hrel
      rcases (show k = 0 ∨ k = 1 ∨ k = 2 by omega) with rfl | rfl | rfl
      ·
        have z0 := xS.cell 0 rfl
        have z1 := xS.cell 1 rfl
        have z2 := xS.cell 2 rfl
        have z3 := xS.cell 3 rfl
        have z4 := xS.cell 4 rfl
        obtain ⟨x0, x1, x2, x3, x4⟩ := xO.cells5
        have lO := xO.lt
        have lS := xS.lt
        have lR := xR.lt
        have lk1 := kY.lt
        have lk2 := kU.lt
        have lk3 := kV.lt
        have zB := BC.size
        go_wp2_with fail
        clear x0 x1 x2 x3 x4 z0 z1 z2 z3 z4
        have BCn := BC.alloc zB (.cells #[.int .i64 nw, .int .i64 nh, .slice ya yn2 yc, .slice ua un2 uc, .slice va vn2 vc] 24)
        have xN : Bx (wr.alloc (.cells #[.int .i64 nw, .int .i64 nh, .slice ya yn2 yc, .slice ua un2 uc, .slice va vn2 vc] 24)) wr.heap.size 24 _ := Bx.new wr _ _
        refine (plane_paste (p := fun b => b < w.heap.size) g1 L L 0 nw2 nw nh ya yn2 yc _ Y _ (kY.alloc _) (by rw [wvL_len bn1 (by rw [List.length_replicate]; exact HL.out), List.length_replicate]) (Nat.le_refl _) (hy.ext BCn) (by omega) hc1 (by omega) (by omega) (by omega) (by omega) (by omega) (by omega) KY.out (by rw [Hnw2.out]; exact fit_rows0 bn1 HL.out)).mono ?_
        rintro e w3 ⟨rfl, kY3, hg3⟩
        have sg3 := hg3.size
        simp at sg3
        have xO3 := (xO.alloc _).grown hg3 (by simp; omega)
        have xS3 := (xS.alloc _).grown hg3 (by simp; omega)
        have xR3 := (xR.alloc _).grown hg3 (by simp; omega)
        have xN3 := xN.grown hg3 (by simp; omega)
        have kU3 := (kU.alloc _).grown hg3 (by simp; omega)
        have kV3 := (kV.alloc _).grown hg3 (by simp; omega)
        have BC3 := BCn.grown hg3 (by simp; omega) (fun k hk => by cases hk; omega)
        clear xO xS xR xN kY kU kV BCn hg3
        obtain ⟨x0, x1, x2, x3, x4⟩ := xO3.cells5
        obtain ⟨z0, z1, z2, z3, z4⟩ := xN3.cells5
        have lN := xN3.lt
        go_wp2_with fail
        clear x0 x1 x2 x3 x4 z0 z1 z2 z3 z4
        refine (plane_paste (p := fun b => b < w.heap.size) g2 K K 0 nw a q ua un2 uc _ U _ kU3 (by rw [wvL_len ha1 (by rw [List.length_replicate]; exact HK.out), List.length_replicate]) (Nat.le_refl _) (hu.ext BC3) (by omega) hc2 (by omega) (by omega) (by omega) (by omega) (by omega) (by omega) KU.out (by rw [Hnw.out]; exact fit_rows0 ha1 HK.out)).mono ?_
        rintro e w4 ⟨rfl, kU4, hg4⟩
        have sg4 := hg4.size
        have xO4 := xO3.grown hg4 (by simp; omega)
        have xS4 := xS3.grown hg4 (by simp; omega)
        have xR4 := xR3.grown hg4 (by simp; omega)
        have xN4 := xN3.grown hg4 (by simp; omega)
        have kY4 := kY3.grown hg4 (by simp; omega)
        have kV4 := kV3.grown hg4 (by simp; omega)
        have BC4 := BC3.grown hg4 (by omega) (fun k hk => by cases hk; omega)
        clear xO3 xS3 xR3 xN3 kY3 kU3 kV3 BC3 hg4
        obtain ⟨x0, x1, x2, x3, x4⟩ := xO4.cells5
        obtain ⟨z0, z1, z2, z3, z4⟩ := xN4.cells5
        go_wp2_with fail
        clear x0 x1 x2 x3 x4 z0 z1 z2 z3 z4
        refine (plane_paste (p := fun b => b < w.heap.size) g3 K K 0 nw a q va vn2 vc _ V _ kV4 (by rw [wvL_len ha1 (by rw [List.length_replicate]; exact HK.out), List.length_replicate]) (Nat.le_refl _) (hv.ext BC4) (by omega) hc3 (by omega) (by omega) (by omega) (by omega) (by omega) (by omega) KV.out (by rw [Hnw.out]; exact fit_rows0 ha1 HK.out)).mono ?_
        rintro e w5 ⟨rfl, kV5, hg5⟩
        have sg5 := hg5.size
        have xO5 := xO4.grown hg5 (by simp; omega)
        have xS5 := xS4.grown hg5 (by simp; omega)
        have xR5 := xR4.grown hg5 (by simp; omega)
        have kY5 := kY4.grown hg5 (by simp; omega)
        have kU5 := kU4.grown hg5 (by simp; omega)
        have BC5 := BC4.grown hg5 (by omega) (fun k hk => by cases hk; omega)
        clear xO4 xS4 xR4 xN4 kY4 kU4 kV4 BC4 hg5
        rw [Hnw2.out] at kY5
        rw [Hnw.out] at kU5 kV5
        go_wp2_with fail
        go_roundw
        case rel => exact ⟨1, by omega, by go_num, xO5, xS5, xR5, kY5, kU5, kV5, BC5⟩
        case measure => simp [intOf]
      ·
        have z0 := xS.cell 5 rfl
        have z1 := xS.cell 6 rfl
        have z2 := xS.cell 7 rfl
        have z3 := xS.cell 8 rfl
        have z4 := xS.cell 9 rfl
        obtain ⟨x0, x1, x2, x3, x4⟩ := xO.cells5
        have lO := xO.lt
        have lS := xS.lt
        have lR := xR.lt
        have lk1 := kY.lt
        have lk2 := kU.lt
        have lk3 := kV.lt
        have zB := BC.size
        go_wp2_with fail
        clear x0 x1 x2 x3 x4 z0 z1 z2 z3 z4
        have BCn := BC.alloc zB (.cells #[.int .i64 nw, .int .i64 nh, .slice yb yn2 yc2, .slice ub un2 uc2, .slice vb vn2 vc2] 24)
        have xN : Bx (wr.alloc (.cells #[.int .i64 nw, .int .i64 nh, .slice yb yn2 yc2, .slice ub un2 uc2, .slice vb vn2 vc2] 24)) wr.heap.size 24 _ := Bx.new wr _ _
        refine (plane_paste (p := fun b => b < w.heap.size) g1 L L nw nw2 nw nh yb yn2 yc2 _ Y2 _ (kY.alloc _) (by rw [wvL_len bn1 (by rw [List.length_replicate]; exact HL.out), List.length_replicate]) (Nat.le_refl _) (hy2.ext BCn) (by omega) hd1 (by omega) (by omega) (by omega) (by omega) (by omega) (by omega) KY.out (by rw [Hnw2.out]; exact fit_rows1 bn1 HL.out)).mono ?_
        rintro e w3 ⟨rfl, kY3, hg3⟩
        have sg3 := hg3.size
        simp at sg3
        have xO3 := (xO.alloc _).grown hg3 (by simp; omega)
        have xS3 := (xS.alloc _).grown hg3 (by simp; omega)
        have xR3 := (xR.alloc _).grown hg3 (by simp; omega)
        have xN3 := xN.grown hg3 (by simp; omega)
        have kU3 := (kU.alloc _).grown hg3 (by simp; omega)
        have kV3 := (kV.alloc _).grown hg3 (by simp; omega)
        have BC3 := BCn.grown hg3 (by simp; omega) (fun k hk => by cases hk; omega)
        clear xO xS xR xN kY kU kV BCn hg3
        obtain ⟨x0, x1, x2, x3, x4⟩ := xO3.cells5
        obtain ⟨z0, z1, z2, z3, z4⟩ := xN3.cells5
        have lN := xN3.lt
        go_wp2_with fail
        clear x0 x1 x2 x3 x4 z0 z1 z2 z3 z4
        refine (plane_paste (p := fun b => b < w.heap.size) g2 K K a nw a q ub un2 uc2 _ U2 _ kU3 (by rw [wvL_len ha1 (by rw [List.length_replicate]; exact HK.out), List.length_replicate]) (Nat.le_refl _) (hu2.ext BC3) (by omega) hd2 (by omega) (by omega) (by omega) (by omega) (by omega) (by omega) KU.out (by rw [Hnw.out]; exact fit_rows1 ha1 HK.out)).mono ?_
        rintro e w4 ⟨rfl, kU4, hg4⟩
        have sg4 := hg4.size
        have xO4 := xO3.grown hg4 (by simp; omega)
        have xS4 := xS3.grown hg4 (by simp; omega)
        have xR4 := xR3.grown hg4 (by simp; omega)
        have xN4 := xN3.grown hg4 (by simp; omega)
        have kY4 := kY3.grown hg4 (by simp; omega)
        have kV4 := kV3.grown hg4 (by simp; omega)
        have BC4 := BC3.grown hg4 (by omega) (fun k hk => by cases hk; omega)
        clear xO3 xS3 xR3 xN3 kY3 kU3 kV3 BC3 hg4
        obtain ⟨x0, x1, x2, x3, x4⟩ := xO4.cells5
        obtain ⟨z0, z1, z2, z3, z4⟩ := xN4.cells5
        go_wp2_with fail
        clear x0 x1 x2 x3 x4 z0 z1 z2 z3 z4
        refine (plane_paste (p := fun b => b < w.heap.size) g3 K K a nw a q vb vn2 vc2 _ V2 _ kV4 (by rw [wvL_len ha1 (by rw [List.length_replicate]; exact HK.out), List.length_replicate]) (Nat.le_refl _) (hv2.ext BC4) (by omega) hd3 (by omega) (by omega) (by omega) (by omega) (by omega) (by omega) KV.out (by rw [Hnw.out]; exact fit_rows1 ha1 HK.out)).mono ?_
        rintro e w5 ⟨rfl, kV5, hg5⟩
        have sg5 := hg5.size
        have xO5 := xO4.grown hg5 (by simp; omega)
        have xS5 := xS4.grown hg5 (by simp; omega)
        have xR5 := xR4.grown hg5 (by simp; omega)
        have kY5 := kY4.grown hg5 (by simp; omega)
        have kU5 := kU4.grown hg5 (by simp; omega)
        have BC5 := BC4.grown hg5 (by omega) (fun k hk => by cases hk; omega)
        clear xO4 xS4 xR4 xN4 kY4 kU4 kV4 BC4 hg5
        rw [Hnw2.out] at kY5
        rw [Hnw.out] at kU5 kV5
        go_wp2_with fail
        go_roundw
        case rel => exact ⟨2, by omega, by go_num, xO5, xS5, xR5, kY5, kU5, kV5, BC5⟩
        case measure => simp [intOf]
      · obtain ⟨x0, x1, x2, x3, x4⟩ := xO.cells5
        obtain ⟨r0, r1, r2, r3, r4⟩ := xR.cells5
        have t0 := xR.frozen 0
        have t1 := xR.frozen 1
        have t2 := xR.frozen 2
        have t3 := xR.frozen 3
        have t4 := xR.frozen 4
        have lR := xR.lt
        go_wp2_with fail
        have pY : wvL (List.replicate L 0) Y Y2 nw nh 2 = wovenL Y Y2 nw nh := paste_woven bn1 (by rw [List.length_replicate]; exact HL.out) (by rw [hy.len]; exact KY.out) (by rw [hy2.len]; exact KY.out)
        have pU : wvL (List.replicate K 0) U U2 a q 2 = wovenL U U2 a q := paste_woven ha1 (by rw [List.length_replicate]; exact HK.out) (by rw [hu.len]; exact KU.out) (by rw [hu2.len]; exact KU.out)
        have pV : wvL (List.replicate K 0) V V2 a q 2 = wovenL V V2 a q := paste_woven ha1 (by rw [List.length_replicate]; exact HK.out) (by rw [hv.len]; exact KV.out) (by rw [hv2.len]; exact KV.out)
        rw [pY] at kY
        rw [pU] at kU
        rw [pV] at kV
        have eY : (wovenL Y Y2 nw nh).length = L := by rw [← pY, wvL_len bn1 (by rw [List.length_replicate]; exact HL.out), List.length_replicate]
        have eU : (wovenL U U2 a q).length = K := by rw [← pU, wvL_len ha1 (by rw [List.length_replicate]; exact HK.out), List.length_replicate]
        have eV : (wovenL V V2 a q).length = K := by rw [← pV, wvL_len ha1 (by rw [List.length_replicate]; exact HK.out), List.length_replicate]
        have v3 := kY.byt (p := (w2.heap.size ≤ ·)) b1 (wovenL_rng hy.rng hy2.rng nh)
        have v4 := kU.byt (p := (w2.heap.size ≤ ·)) b2 (wovenL_rng hu.rng hu2.rng q)
        have v5 := kV.byt (p := (w2.heap.size ≤ ·)) b3 (wovenL_rng hv.rng hv2.rng q)
        rw [eY] at v3
        rw [eU] at v4
        rw [eV] at v5
        have np : ¬ (w2.heap.size ≤ w.heap.size + 1 + 1) := by omega
        refine bodyPost_ret (v := .tuple #[.agg #[.int .i64 nw, .int .i64 nH, .slice (some ⟨g1, 0, none⟩) L L, .slice (some ⟨g2, 0, none⟩) K K, .slice (some ⟨g3, 0, none⟩) K K], .int .i64 0]) (by simp only [results, Try.results40]; go_simp) rfl ⟨_, rfl, CapsOK.mk (Nat.le_refl _) (Nat.le_refl _) (Nat.le_refl _), ⟨_, _, _, _, _, _, _, _, _, rfl, ?_, ?_, ?_⟩, ?_⟩
        · refine Byt.mono (p := (w2.heap.size ≤ ·)) ?_ (fun b _ h => by omega)
          repeat refine Byt.setCell ?_ np _
          exact v3
        · refine Byt.mono (p := (w2.heap.size ≤ ·)) ?_ (fun b _ h => by omega)
          repeat refine Byt.setCell ?_ np _
          exact v4
        · refine Byt.mono (p := (w2.heap.size ≤ ·)) ?_ (fun b _ h => by omega)
          repeat refine Byt.setCell ?_ np _
          exact v5
        · repeat refine Below.setCell ?_ (by first | (simp; done) | (simp; omega)) _
          exact BC

theorem plane_Weave {p : Nat → Prop} (v u : Value) (f g : Fr) (w : World) (hf : IsFr p w v f) (hg : IsFr p w u g) (hc : CapsOK v) (hd : CapsOK u) :
    Calls Try.prog 40 #[v, u] w (RetFc w (weaveF f g)) := by
  unfold weaveF
  by_cases h : weaveOk f g
  · rw [if_pos h]
    obtain ⟨W, H, Y, U, V⟩ := f
    obtain ⟨W2, H2, Y2, U2, V2⟩ := g
    obtain ⟨h1, h2, h3, h4, h5⟩ := h
    dsimp only at h3 h4 h5
    subst h3 h4
    obtain ⟨a, q, rfl, rfl, b1, b2, b3, b4, b5, b6, b7⟩ := formed_sizes h1
    obtain ⟨a', q', e1, e2, _, _, _, _, c5, c6, c7⟩ := formed_sizes h2
    obtain rfl : a = a' := by omega
    obtain rfl : q = q' := by omega
    rw [weaveFr_of]
    exact plane_Weave_yes v u a q Y U V Y2 U2 V2 w hf hg hc hd h1 h2 b1 b2 b3 (by omega) b5 b6 b7 c5 c6 c7
  · rw [if_neg h]
    exact plane_Weave_no v u f g w hf hg h
end Go.Proofs.Ytaedpadkpclldaa
