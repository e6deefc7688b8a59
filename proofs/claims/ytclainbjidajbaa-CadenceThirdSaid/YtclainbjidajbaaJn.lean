/- cadence.weave. -/
import Derived.Test.YtclainbjidajbaaJnM
namespace Go.Proofs.Ytclainbjidajbaa
open Go.RowKit

set_option maxRecDepth 100000 in
set_option maxHeartbeats 4000000 in
theorem cad_weave {p q : Nat → Prop} (x y : FA) (W H : Nat) (w : World) (hx : FrmOk p w x) (hy : FrmOk q w y) (sx : SzF x.f W H) (sy : SzF y.f W H) :
    Calls Try.prog 32 #[x.val, y.val] w (RetFr w (joinF x.f y.f)) := by
  have hmul : H * W ≤ 1024 := Nat.le_trans (Nat.mul_le_mul sx.hm sx.wm) (by omega)
  have em2 := m4N H W
  have hw0 := sx.w0
  have hwm := sx.wm
  have ly : y.yn = x.yn := by rw [← hx.y.len, ← hy.y.len, sx.y, sy.y]
  have lu : y.un = x.un := by rw [← hx.u.len, ← hy.u.len, sx.u, sy.u]
  have lv : y.vn = x.vn := by rw [← hx.v.len, ← hy.v.len, sx.v, sy.v]
  have ny : x.yn = 2 * H * (2 * W) := by rw [← hx.y.len, sx.y]
  have nu : x.un = H * W := by rw [← hx.u.len, sx.u]
  have nv : x.vn = H * W := by rw [← hx.v.len, sx.v]
  have eW : x.f.W.toNat = 2 * W := by rw [sx.w]; omega
  have eW2 : (x.f.W / 2).toNat = W := by rw [sx.w]; omega
  obtain ⟨⟨xW, xH, xY, xU, xV⟩, ya, yn, yc, ua, un, uc, va, vn, vc⟩ := x
  obtain ⟨⟨yW, yH, yY, yU, yV⟩, ya2, yn2, yc2, ua2, un2, uc2, va2, vn2, vc2⟩ := y
  dsimp only at ly lu lv ny nu nv eW eW2
  subst ly lu lv
  obtain ⟨px, pu, pv, cx1, cx2, cx3⟩ := hx
  obtain ⟨py, pu2, pv2, cy1, cy2, cy3⟩ := hy
  dsimp only at px pu pv py pu2 pv2 cx1 cx2 cx3 cy1 cy2 cy3
  have exW : xW = ((2 * W : Nat) : Int) := sx.w
  have exW2 : xW.tdiv 2 = (W : Int) := by rw [Int.tdiv_eq_ediv_of_nonneg (by omega)]; omega
  have exW3 : xW / 2 = (W : Int) := by omega
  have wrW : IntKind.i64.wrap (W : Int) = (W : Int) := IntWalk.i64_in _ (by omega)
  have ejoin : joinF ⟨xW, xH, xY, xU, xV⟩ ⟨yW, yH, yY, yU, yV⟩ = ⟨xW, xH, linesL xY yY (2 * W), linesL xU yU W, linesL xV yV W⟩ := by
    unfold joinF
    dsimp only
    rw [eW, eW2]
  rw [ejoin]
  show Calls _ _ #[.agg #[.int .i64 xW, .int .i64 xH, .slice ya yn2 yc, .slice ua un2 uc, .slice va vn2 vc], .agg #[.int .i64 yW, .int .i64 yH, .slice ya2 yn2 yc2, .slice ua2 un2 uc2, .slice va2 vn2 vc2]] w _
  have b1 := Bx.new w 27 #[.int .i64 xW, .int .i64 xH, .slice ya yn2 yc, .slice ua un2 uc, .slice va vn2 vc]
  have b1 := b1.alloc (.cells #[.int .i64 yW, .int .i64 yH, .slice ya2 yn2 yc2, .slice ua2 un2 uc2, .slice va2 vn2 vc2] 27)
  have b1 := b1.alloc (.cells #[.int .i64 0, .int .i64 0, .slice none 0 0, .slice none 0 0, .slice none 0 0] 27)
  have b2 := Bx.new' (w.alloc (.cells #[.int .i64 xW, .int .i64 xH, .slice ya yn2 yc, .slice ua un2 uc, .slice va vn2 vc] 27)) 27 #[.int .i64 yW, .int .i64 yH, .slice ya2 yn2 yc2, .slice ua2 un2 uc2, .slice va2 vn2 vc2] (w.heap.size + 1) (by simp)
  have b2 := b2.alloc (.cells #[.int .i64 0, .int .i64 0, .slice none 0 0, .slice none 0 0, .slice none 0 0] 27)
  have b3 := Bx.new' ((w.alloc (.cells #[.int .i64 xW, .int .i64 xH, .slice ya yn2 yc, .slice ua un2 uc, .slice va vn2 vc] 27)).alloc (.cells #[.int .i64 yW, .int .i64 yH, .slice ya2 yn2 yc2, .slice ua2 un2 uc2, .slice va2 vn2 vc2] 27)) 27 #[.int .i64 0, .int .i64 0, .slice none 0 0, .slice none 0 0, .slice none 0 0] (w.heap.size + 2) (by simp)
  have B0 := (((Below.refl w.heap.size w).alloc (Nat.le_refl _) (.cells #[.int .i64 xW, .int .i64 xH, .slice ya yn2 yc, .slice ua un2 uc, .slice va vn2 vc] 27)).alloc (by simp) (.cells #[.int .i64 yW, .int .i64 yH, .slice ya2 yn2 yc2, .slice ua2 un2 uc2, .slice va2 vn2 vc2] 27)).alloc (by simp; omega) (.cells #[.int .i64 0, .int .i64 0, .slice none 0 0, .slice none 0 0, .slice none 0 0] 27)
  have C1 : ∀ w', Below w.heap.size w w' → Calls Try.prog 46 #[.slice ya yn2 yc, .slice ya2 yn2 yc2, .int .i64 xW] w' (RetBc w' (linesL xY yY (2 * W))) := fun w' h => by
    rw [exW]
    exact cad_weavePlane ya ya2 yn2 yc yc2 xY yY (2 * W) (2 * H) w' (px.ext h) (py.ext h) cy1 (by omega) (by omega) (by omega)
  have C2 : ∀ w', Below w.heap.size w w' → Calls Try.prog 46 #[.slice ua un2 uc, .slice ua2 un2 uc2, .int .i64 (W : Int)] w' (RetBc w' (linesL xU yU W)) := fun w' h =>
    cad_weavePlane ua ua2 un2 uc uc2 xU yU W H w' (pu.ext h) (pu2.ext h) cy2 (by omega) (by omega) (by omega)
  have C3 : ∀ w', Below w.heap.size w w' → Calls Try.prog 46 #[.slice va vn2 vc, .slice va2 vn2 vc2, .int .i64 (W : Int)] w' (RetBc w' (linesL xV yV W)) := fun w' h =>
    cad_weavePlane va va2 vn2 vc vc2 xV yV W H w' (pv.ext h) (pv2.ext h) cy3 (by omega) (by omega) (by omega)
  have HC1 := Lib.hid C1
  have HC2 := Lib.hid C2
  have HC3 := Lib.hid C3
  clear C1 C2 C3 px pu pv py pu2 pv2 sx sy ny nu nv eW eW2 exW ejoin em2 cx1 cx2 cx3 cy1 cy2 cy3 hmul
  have HS : Hid (∀ (W' : World) (v0 v1 v2 v3 v4 : Value), ((W'.cell? ⟨w.heap.size, 0, none⟩ = some (.int .i64 xW) ∧ W'.cell? ⟨w.heap.size, 1, none⟩ = some (.int .i64 xH) ∧ W'.cell? ⟨w.heap.size, 2, none⟩ = some (.slice ya yn2 yc) ∧ W'.cell? ⟨w.heap.size, 3, none⟩ = some (.slice ua un2 uc) ∧ W'.cell? ⟨w.heap.size, 4, none⟩ = some (.slice va vn2 vc)) ∧ (W'.cell? ⟨w.heap.size + 1, 0, none⟩ = some (.int .i64 yW) ∧ W'.cell? ⟨w.heap.size + 1, 1, none⟩ = some (.int .i64 yH) ∧ W'.cell? ⟨w.heap.size + 1, 2, none⟩ = some (.slice ya2 yn2 yc2) ∧ W'.cell? ⟨w.heap.size + 1, 3, none⟩ = some (.slice ua2 un2 uc2) ∧ W'.cell? ⟨w.heap.size + 1, 4, none⟩ = some (.slice va2 vn2 vc2))) → ((((((W'.setCell ⟨w.heap.size + 1 + 1, 0, none⟩ v0).setCell ⟨w.heap.size + 1 + 1, 1, none⟩ v1).setCell ⟨w.heap.size + 1 + 1, 2, none⟩ v2).setCell ⟨w.heap.size + 1 + 1, 3, none⟩ v3).setCell ⟨w.heap.size + 1 + 1, 4, none⟩ v4).cell? ⟨w.heap.size, 0, none⟩ = some (.int .i64 xW) ∧ (((((W'.setCell ⟨w.heap.size + 1 + 1, 0, none⟩ v0).setCell ⟨w.heap.size + 1 + 1, 1, none⟩ v1).setCell ⟨w.heap.size + 1 + 1, 2, none⟩ v2).setCell ⟨w.heap.size + 1 + 1, 3, none⟩ v3).setCell ⟨w.heap.size + 1 + 1, 4, none⟩ v4).cell? ⟨w.heap.size, 1, none⟩ = some (.int .i64 xH) ∧ (((((W'.setCell ⟨w.heap.size + 1 + 1, 0, none⟩ v0).setCell ⟨w.heap.size + 1 + 1, 1, none⟩ v1).setCell ⟨w.heap.size + 1 + 1, 2, none⟩ v2).setCell ⟨w.heap.size + 1 + 1, 3, none⟩ v3).setCell ⟨w.heap.size + 1 + 1, 4, none⟩ v4).cell? ⟨w.heap.size, 2, none⟩ = some (.slice ya yn2 yc) ∧ (((((W'.setCell ⟨w.heap.size + 1 + 1, 0, none⟩ v0).setCell ⟨w.heap.size + 1 + 1, 1, none⟩ v1).setCell ⟨w.heap.size + 1 + 1, 2, none⟩ v2).setCell ⟨w.heap.size + 1 + 1, 3, none⟩ v3).setCell ⟨w.heap.size + 1 + 1, 4, none⟩ v4).cell? ⟨w.heap.size, 3, none⟩ = some (.slice ua un2 uc) ∧ (((((W'.setCell ⟨w.heap.size + 1 + 1, 0, none⟩ v0).setCell ⟨w.heap.size + 1 + 1, 1, none⟩ v1).setCell ⟨w.heap.size + 1 + 1, 2, none⟩ v2).setCell ⟨w.heap.size + 1 + 1, 3, none⟩ v3).setCell ⟨w.heap.size + 1 + 1, 4, none⟩ v4).cell? ⟨w.heap.size, 4, none⟩ = some (.slice va vn2 vc)) ∧ ((((((W'.setCell ⟨w.heap.size + 1 + 1, 0, none⟩ v0).setCell ⟨w.heap.size + 1 + 1, 1, none⟩ v1).setCell ⟨w.heap.size + 1 + 1, 2, none⟩ v2).setCell ⟨w.heap.size + 1 + 1, 3, none⟩ v3).setCell ⟨w.heap.size + 1 + 1, 4, none⟩ v4).cell? ⟨w.heap.size + 1, 0, none⟩ = some (.int .i64 yW) ∧ (((((W'.setCell ⟨w.heap.size + 1 + 1, 0, none⟩ v0).setCell ⟨w.heap.size + 1 + 1, 1, none⟩ v1).setCell ⟨w.heap.size + 1 + 1, 2, none⟩ v2).setCell ⟨w.heap.size + 1 + 1, 3, none⟩ v3).setCell ⟨w.heap.size + 1 + 1, 4, none⟩ v4).cell? ⟨w.heap.size + 1, 1, none⟩ = some (.int .i64 yH) ∧ (((((W'.setCell ⟨w.heap.size + 1 + 1, 0, none⟩ v0).setCell ⟨w.heap.size + 1 + 1, 1, none⟩ v1).setCell ⟨w.heap.size + 1 + 1, 2, none⟩ v2).setCell ⟨w.heap.size + 1 + 1, 3, none⟩ v3).setCell ⟨w.heap.size + 1 + 1, 4, none⟩ v4).cell? ⟨w.heap.size + 1, 2, none⟩ = some (.slice ya2 yn2 yc2) ∧ (((((W'.setCell ⟨w.heap.size + 1 + 1, 0, none⟩ v0).setCell ⟨w.heap.size + 1 + 1, 1, none⟩ v1).setCell ⟨w.heap.size + 1 + 1, 2, none⟩ v2).setCell ⟨w.heap.size + 1 + 1, 3, none⟩ v3).setCell ⟨w.heap.size + 1 + 1, 4, none⟩ v4).cell? ⟨w.heap.size + 1, 3, none⟩ = some (.slice ua2 un2 uc2) ∧ (((((W'.setCell ⟨w.heap.size + 1 + 1, 0, none⟩ v0).setCell ⟨w.heap.size + 1 + 1, 1, none⟩ v1).setCell ⟨w.heap.size + 1 + 1, 2, none⟩ v2).setCell ⟨w.heap.size + 1 + 1, 3, none⟩ v3).setCell ⟨w.heap.size + 1 + 1, 4, none⟩ v4).cell? ⟨w.heap.size + 1, 4, none⟩ = some (.slice va2 vn2 vc2))) := Lib.hid (fun W' v0 v1 v2 v3 v4 ⟨⟨h0, h1, h2, h3, h4⟩, g0, g1, g2, g3, g4⟩ =>
    have n1 : ¬ w.heap.size = w.heap.size + 1 + 1 := by omega
    have n2 : ¬ w.heap.size + 1 = w.heap.size + 1 + 1 := by omega
    ⟨⟨set5_far n1 h0, set5_far n1 h1, set5_far n1 h2, set5_far n1 h3, set5_far n1 h4⟩, set5_far n2 g0, set5_far n2 g1, set5_far n2 g2, set5_far n2 g3, set5_far n2 g4⟩)
  go_enter Try.func32, Try.ntmps32
  go_upto_region 1 with fail
  generalize ((w.alloc (.cells #[.int .i64 xW, .int .i64 xH, .slice ya yn2 yc, .slice ua un2 uc, .slice va vn2 vc] 27)).alloc (.cells #[.int .i64 yW, .int .i64 yH, .slice ya2 yn2 yc2, .slice ua2 un2 uc2, .slice va2 vn2 vc2] 27)).alloc (.cells #[.int .i64 0, .int .i64 0, .slice none 0 0, .slice none 0 0, .slice none 0 0] 27) = Wx at *
  have HF := Lib.hid (fun w' (h : Below Wx.drew.heap.size Wx.drew w') => (show (w'.cell? ⟨w.heap.size, 0, none⟩ = some (.int .i64 xW) ∧ w'.cell? ⟨w.heap.size, 1, none⟩ = some (.int .i64 xH) ∧ w'.cell? ⟨w.heap.size, 2, none⟩ = some (.slice ya yn2 yc) ∧ w'.cell? ⟨w.heap.size, 3, none⟩ = some (.slice ua un2 uc) ∧ w'.cell? ⟨w.heap.size, 4, none⟩ = some (.slice va vn2 vc)) ∧ (w'.cell? ⟨w.heap.size + 1, 0, none⟩ = some (.int .i64 yW) ∧ w'.cell? ⟨w.heap.size + 1, 1, none⟩ = some (.int .i64 yH) ∧ w'.cell? ⟨w.heap.size + 1, 2, none⟩ = some (.slice ya2 yn2 yc2) ∧ w'.cell? ⟨w.heap.size + 1, 3, none⟩ = some (.slice ua2 un2 uc2) ∧ w'.cell? ⟨w.heap.size + 1, 4, none⟩ = some (.slice va2 vn2 vc2)) from ⟨(b1.drew.ext h).cells5, (b2.drew.ext h).cells5⟩))
  have HB0 := Lib.hid B0
  have HB3 := Lib.hid b3
  have HT := Lib.hid (fun w' (h : Below Wx.drew.heap.size Wx.drew w') => B0.drew.trans (h.mono B0.size))
  have HR := Lib.hid (fun w' (h : Below Wx.drew.heap.size Wx.drew w') => And.intro (b3.drew.ext h).cells5 (And.intro (b3.drew.ext h).lt (fun k => (b3.drew.ext h).frozen k)))
  have HBX := Lib.hid (fun w' (h : Below Wx.drew.heap.size Wx.drew w') => b3.drew.ext h)
  have HLT : Hid (w.heap.size + 1 + 1 < Wx.heap.size) := Lib.hid b3.lt
  clear b1 b2 b3 B0
  have hz : Wx.drew.heap.size = Wx.heap.size := rfl
  go_region_held3 (fun w' => (w'.cell? ⟨w.heap.size, 0, none⟩ = some (.int .i64 xW) ∧ w'.cell? ⟨w.heap.size, 1, none⟩ = some (.int .i64 xH) ∧ w'.cell? ⟨w.heap.size, 2, none⟩ = some (.slice ya yn2 yc) ∧ w'.cell? ⟨w.heap.size, 3, none⟩ = some (.slice ua un2 uc) ∧ w'.cell? ⟨w.heap.size, 4, none⟩ = some (.slice va vn2 vc)) ∧ (w'.cell? ⟨w.heap.size + 1, 0, none⟩ = some (.int .i64 yW) ∧ w'.cell? ⟨w.heap.size + 1, 1, none⟩ = some (.int .i64 yH) ∧ w'.cell? ⟨w.heap.size + 1, 2, none⟩ = some (.slice ya2 yn2 yc2) ∧ w'.cell? ⟨w.heap.size + 1, 3, none⟩ = some (.slice ua2 un2 uc2) ∧ w'.cell? ⟨w.heap.size + 1, 4, none⟩ = some (.slice va2 vn2 vc2))) (first | with_reducible exact HF.out _ (Below.refl _ _) | with_reducible exact HF.out _ hb3 | with_reducible exact HF.out _ (hb3.trans (hb4.mono hb3.size)) | with_reducible exact HF.out _ ((hb3.trans (hb4.mono hb3.size)).trans (hb5.mono (Nat.le_trans hb3.size hb4.size))) | with_reducible exact HS.out _ _ _ _ _ _ (HF.out _ ((hb3.trans (hb4.mono hb3.size)).trans (hb5.mono (Nat.le_trans hb3.size hb4.size)))) | go_keep)
    (first
      | (go_at_call 46; ((with_reducible refine (HC1.out _ (HT.out _ (Below.refl _ _))).mono ?_); rintro e w3 ⟨A3, n3, c3, rfl, hB3, hb3, hc3⟩))
      | (go_at_call 46; ((with_reducible refine (HC2.out _ (HT.out _ hb3)).mono ?_); rintro e w4 ⟨A4, n4, c4, rfl, hB4, hb4, hc4⟩))
      | (go_at_call 46; ((with_reducible refine (HC3.out _ (HT.out _ (hb3.trans (hb4.mono hb3.size)))).mono ?_); rintro e w5 ⟨A5, n5, c5, rfl, hB5, hb5, hc5⟩; obtain ⟨⟨r0, r1, r2, r3, r4⟩, rl, rf⟩ := HR.out _ ((hb3.trans (hb4.mono hb3.size)).trans (hb5.mono (Nat.le_trans hb3.size hb4.size))); have f0 := rf 0; have f1 := rf 1; have f2 := rf 2; have f3 := rf 3; have f4 := rf 4; clear rf)))
  have hall := (hb3.trans (hb4.mono hb3.size)).trans (hb5.mono (Nat.le_trans hb3.size hb4.size))
  have bz := (HBX.out _ hall).set5 (.int .i64 xW) (.int .i64 xH) (.slice A3 n3 c3) (.slice A4 n4 c4) (.slice A5 n5 c5)
  have BZ := set5_below (g := w.heap.size + 1 + 1) (HT.out _ hall) (by omega) (.int .i64 xW) (.int .i64 xH) (.slice A3 n3 c3) (.slice A4 n4 c4) (.slice A5 n5 c5)
  have hlt := HLT.out
  have s3 := hb3.size
  have s4 := hb4.size
  have P3 := Byt.set5 (g := w.heap.size + 1 + 1) ((hB3.ext hb4).ext hb5) (by omega) (.int .i64 xW) (.int .i64 xH) (.slice A3 n3 c3) (.slice A4 n4 c4) (.slice A5 n5 c5)
  have P4 := Byt.set5 (g := w.heap.size + 1 + 1) (hB4.ext hb5) (by omega) (.int .i64 xW) (.int .i64 xH) (.slice A3 n3 c3) (.slice A4 n4 c4) (.slice A5 n5 c5)
  have P5 := Byt.set5 (g := w.heap.size + 1 + 1) hB5 (by omega) (.int .i64 xW) (.int .i64 xH) (.slice A3 n3 c3) (.slice A4 n4 c4) (.slice A5 n5 c5)
  have HP3 := Lib.hid (P3.mono (q := (w.heap.size ≤ ·)) (fun b _ h => by omega))
  have HP4 := Lib.hid (P4.mono (q := (w.heap.size ≤ ·)) (fun b _ h => by omega))
  have HP5 := Lib.hid (P5.mono (q := (w.heap.size ≤ ·)) (fun b _ h => by omega))
  have HBZ := Lib.hid BZ
  have q0 := bz.cell 0 rfl
  have q1 := bz.cell 1 rfl
  have q2 := bz.cell 2 rfl
  have q3 := bz.cell 3 rfl
  have q4 := bz.cell 4 rfl
  clear P3 P4 P5 BZ bz hB3 hB4 hB5 hb3 hb4 hb5 hall r0 r1 r2 r3 r4 f0 f1 f2 f3 f4
  show Exit.then _ _ _ _ (set5 w5 (w.heap.size + 1 + 1) (.int .i64 xW) (.int .i64 xH) (.slice A3 n3 c3) (.slice A4 n4 c4) (.slice A5 n5 c5))
  generalize set5 w5 (w.heap.size + 1 + 1) (.int .i64 xW) (.int .i64 xH) (.slice A3 n3 c3) (.slice A4 n4 c4) (.slice A5 n5 c5) = wz at *
  go_wp2_with fail
  refine bodyPost_ret (v := .agg #[.int .i64 xW, .int .i64 xH, .slice A3 n3 c3, .slice A4 n4 c4, .slice A5 n5 c5]) (by simp only [results, Try.results32]; go_simp) rfl ⟨⟨⟨xW, xH, linesL xY yY (2 * W), linesL xU yU W, linesL xV yV W⟩, A3, n3, c3, A4, n4, c4, A5, n5, c5⟩, rfl, rfl, ⟨HP3.out, HP4.out, HP5.out, hc3, hc4, hc5⟩, HBZ.out⟩
end Go.Proofs.Ytclainbjidajbaa
