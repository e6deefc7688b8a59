/- The contract of Weave of the reference. -/
import Derived.Test.YtaedpadkpclldaaRWeaveNo
import Derived.Test.YtaedpadkpclldaaRField
namespace Go.Proofs.Ytaedpadkpclldaa
open Go.RowKit

set_option maxHeartbeats 8000000 in
theorem ref_Weave_yes {p : Nat → Prop} (v u : Value) (a q : Nat) (Y U V Y2 U2 V2 : List Int) (w : World) (hf : IsFr p w v ⟨((2 * a : Nat) : Int), ((2 * q : Nat) : Int), Y, U, V⟩) (hg : IsFr p w u ⟨((2 * a : Nat) : Int), ((2 * q : Nat) : Int), Y2, U2, V2⟩) (hc : CapsOK v) (hd : CapsOK u)
    (h1 : formedB ⟨((2 * a : Nat) : Int), ((2 * q : Nat) : Int), Y, U, V⟩ = true) (h2 : formedB ⟨((2 * a : Nat) : Int), ((2 * q : Nat) : Int), Y2, U2, V2⟩ = true)
    (ha1 : 1 ≤ a) (ha2 : a ≤ 32) (hq1 : 1 ≤ q) (hq2 : q ≤ 16) (lY : Y.length = (2 * q) * (2 * a)) (lU : U.length = q * a) (lV : V.length = q * a) (lY2 : Y2.length = (2 * q) * (2 * a)) (lU2 : U2.length = q * a) (lV2 : V2.length = q * a) :
    Calls Try.prog 42 #[v, u] w (RetFc w (⟨((2 * a : Nat) : Int), ((4 * q : Nat) : Int), wovenL Y Y2 (2 * a) (2 * q), wovenL U U2 a q, wovenL V V2 a q⟩, 0)) := by
  have hf0 := hf
  have hg0 := hg
  obtain ⟨ya, yn, yc, ua, un, uc, va, vn, vc, rfl, hy, hu, hv⟩ := hf
  obtain ⟨yb, yn2, yc2, ub, un2, uc2, vb, vn2, vc2, rfl, hy2, hu2, hv2⟩ := hg
  obtain ⟨hc1, hc2, hc3⟩ := hc.out
  obtain ⟨hd1, hd2, hd3⟩ := hd.out
  dsimp only at *
  obtain ⟨nw, hnw⟩ : ∃ n, n = 2 * a := ⟨_, rfl⟩
  obtain ⟨nh, hnh⟩ : ∃ n, n = 2 * q := ⟨_, rfl⟩
  obtain ⟨nH, hnH⟩ : ∃ n, n = 4 * q := ⟨_, rfl⟩
  rw [hy.len, ← hnw, ← hnh] at lY
  rw [hu.len] at lU
  rw [hv.len] at lV
  rw [hy2.len, ← hnw, ← hnh] at lY2
  rw [hu2.len] at lU2
  rw [hv2.len] at lV2
  obtain rfl : yn2 = yn := by rw [lY, lY2]
  obtain rfl : un2 = un := by rw [lU, lU2]
  obtain rfl : vn2 = vn := by rw [lV, lV2]
  rw [← hnw, ← hnh] at h1 h2 hf0 hg0
  rw [← hnw, ← hnh, ← hnH]
  clear lY2 lU2 lV2
  have f2 : IntKind.i64.wrap (2 * (nh : Int)) = (nH : Int) := by rw [show 2 * (nh : Int) = ((nH : Nat) : Int) by omega]; exact IntWalk.i64_in _ (by omega)
  have f4 : ((nw : Nat) : Int).tdiv 2 = (a : Int) := by rw [Int.tdiv_eq_ediv_of_nonneg (by omega)]; omega
  have f5 : ((nh : Nat) : Int).tdiv 2 = (q : Int) := by rw [Int.tdiv_eq_ediv_of_nonneg (by omega)]; omega
  have f8 : IntKind.i64.wrap (a : Int) = (a : Int) := IntWalk.i64_in _ (by omega)
  have f9 : IntKind.i64.wrap (q : Int) = (q : Int) := IntWalk.i64_in _ (by omega)
  have g1 : ((nw : Int) != (nw : Int)) = false := by simp
  have g2 : ((nh : Int) != (nh : Int)) = false := by simp
  have g3 : decide ((nH : Int) > 64) = false := decide_eq_false (by omega)
  have bnw : nw ≤ 64 := by omega
  have bnh : nh ≤ 32 := by omega
  have bnH : nH ≤ 64 := by omega
  have bn1 : 1 ≤ nw := by omega
  have Hnw := Lib.hid hnw
  have Hnh := Lib.hid hnh
  have HnH := Lib.hid hnH
  have KY := Lib.hid lY
  have KU := Lib.hid lU
  have KV := Lib.hid lV
  clear hnw hnh hnH lY lU lV
  clear f5 f9
  go_enter Try.func42, Try.ntmps42
  go_wp2_with fail
  refine (ref_Formed (p := p) _ ⟨(nw : Int), (nh : Int), Y, U, V⟩ _ (by (repeat with_reducible apply IsFr.alloc); exact hf0)).mono ?_
  rintro e w1 ⟨rfl, hb1⟩
  have B0 : Below w.heap.size w w1 := ((((Below.refl _ w).alloc (by simp) _).alloc (by simp) _).alloc (by simp; omega) _).trans (hb1.mono (by simp; omega))
  have xx1 : Bx w1 w.heap.size 24 #[.int .i64 nw, .int .i64 nh, .slice ya yn2 yc, .slice ua un2 uc, .slice va vn2 vc] := (((Bx.new w _ _).alloc _).alloc _).ext hb1
  have xx2 : Bx w1 (w.heap.size + 1) 24 #[.int .i64 nw, .int .i64 nh, .slice yb yn2 yc2, .slice ub un2 uc2, .slice vb vn2 vc2] := ((Bx.new' _ _ _ _ (by simp)).alloc _).ext hb1
  have xx3 : Bx w1 (w.heap.size + 1 + 1) 24 #[.int .i64 0, .int .i64 0, .slice none 0 0, .slice none 0 0, .slice none 0 0] := (Bx.new' _ _ _ _ (by simp)).ext hb1
  have XX1 := Lib.hid xx1
  have XX2 := Lib.hid xx2
  have XX3 := Lib.hid xx3
  clear xx1 xx2 xx3
  obtain ⟨y0, y1, y2, y3, y4⟩ := XX2.out.cells5
  go_wp2_with fail
  refine (ref_Formed (p := p) _ ⟨(nw : Int), (nh : Int), Y2, U2, V2⟩ _ (hg0.ext B0)).mono ?_
  rintro e w2 ⟨rfl, hb2⟩
  clear y0 y1 y2 y3 y4
  have BW : Below w.heap.size w w2 := B0.trans (hb2.mono B0.size)
  have yy1 := XX1.out.ext hb2
  have yy2 := XX2.out.ext hb2
  have yy3 := XX3.out.ext hb2
  clear hb1 hb2 B0 XX1 XX2 XX3
  have hby := hy.ext BW
  have hbu := hu.ext BW
  have hbv := hv.ext BW
  have hby2 := hy2.ext BW
  have hbu2 := hu2.ext BW
  have hbv2 := hv2.ext BW
  obtain ⟨x0, x1, x2, x3, x4⟩ := yy1.cells5
  obtain ⟨y0, y1, y2, y3, y4⟩ := yy2.cells5
  obtain ⟨r0, r1, r2, r3, r4⟩ := yy3.cells5
  have t0 := yy3.frozen 0
  have t1 := yy3.frozen 1
  have t2 := yy3.frozen 2
  have t3 := yy3.frozen 3
  have t4 := yy3.frozen 4
  have q_2_0 := yy1.lt
  have q_2_1 := yy2.lt
  have q_2_2 := yy3.lt
  go_wp2_with fail
  go_region_held3 (fun w' => w'.cell? ⟨w.heap.size, 0, none⟩ = some (.int .i64 nw) ∧ w'.cell? ⟨w.heap.size, 1, none⟩ = some (.int .i64 nh) ∧ w'.cell? ⟨w.heap.size, 2, none⟩ = some (.slice ya yn2 yc) ∧ w'.cell? ⟨w.heap.size, 3, none⟩ = some (.slice ua un2 uc) ∧ w'.cell? ⟨w.heap.size, 4, none⟩ = some (.slice va vn2 vc) ∧ w'.cell? ⟨w.heap.size + 1, 2, none⟩ = some (.slice yb yn2 yc2) ∧ w'.cell? ⟨w.heap.size + 1, 3, none⟩ = some (.slice ub un2 uc2) ∧ w'.cell? ⟨w.heap.size + 1, 4, none⟩ = some (.slice vb vn2 vc2))
    (first | (refine ⟨?_, ?_, ?_, ?_, ?_, ?_, ?_, ?_⟩ <;> go_simp; done) | go_keep)
    (first
     | (go_at_call 50; ((with_reducible refine (ref_woven (p := p) ya yn2 yc yb yc2 nw nh Y Y2 _ hby.drew hc1 hby2.drew hd1 (by omega) (by omega) (by omega) KY.out).mono ?_); rintro e w3 ⟨A3, n3, m3, rfl, hcp3, hB3, hb3⟩; have hb3 : Below w2.heap.size w2 w3 := (by first | exact undrew (undrew hb3) | exact undrew hb3); obtain ⟨c_w3, z_w3⟩ := bcell hb3; have s_w3 := hb3.size; skip; have q_3_0 : w.heap.size < w3.heap.size := (by omega); have q_3_1 : w.heap.size + 1 < w3.heap.size := (by omega); have q_3_2 : w.heap.size + 1 + 1 < w3.heap.size := (by omega)))
     | (go_at_call 50; ((with_reducible refine (ref_woven (p := p) ua un2 uc ub uc2 a q U U2 _ (hbu.ext hb3) hc2 (hbu2.ext hb3) hd2 (by omega) (by omega) (by omega) KU.out).mono ?_); rintro e w4 ⟨A4, n4, m4, rfl, hcp4, hB4, hb4⟩; obtain ⟨c_w4, z_w4⟩ := bcell hb4; have s_w4 := hb4.size; have q_4_0 : w.heap.size < w4.heap.size := (by omega); have q_4_1 : w.heap.size + 1 < w4.heap.size := (by omega); have q_4_2 : w.heap.size + 1 + 1 < w4.heap.size := (by omega)))
     | (go_at_call 50; ((with_reducible refine (ref_woven (p := p) va vn2 vc vb vc2 a q V V2 _ ((hbv.ext hb3).ext hb4) hc3 ((hbv2.ext hb3).ext hb4) hd3 (by omega) (by omega) (by omega) KV.out).mono ?_); rintro e w5 ⟨A5, n5, m5, rfl, hcp5, hB5, hb5⟩; obtain ⟨c_w5, z_w5⟩ := bcell hb5; have s_w5 := hb5.size; have q_5_0 : w.heap.size < w5.heap.size := (by omega); have q_5_1 : w.heap.size + 1 < w5.heap.size := (by omega); have q_5_2 : w.heap.size + 1 + 1 < w5.heap.size := (by omega))))
  go_wp2
  have np : ¬ (w2.heap.size ≤ w.heap.size + 1 + 1) := by omega
  have u3 := hb3.size
  have u4 := hb4.size
  have u5 := hb5.size
  have uA := BW.size
  have BZ : Below w.heap.size w w5 := ((BW.trans (hb3.mono (by omega))).trans (hb4.mono (by omega))).trans (hb5.mono (by omega))
  have v3 := ((hB3.ext hb4).ext hb5).mono (q := (w2.heap.size ≤ ·)) (fun b _ h => h)
  have v4 := (hB4.mono (q := (w2.heap.size ≤ ·)) (fun b _ h => by omega)).ext hb5
  have v5 := hB5.mono (q := (w2.heap.size ≤ ·)) (fun b _ h => by omega)
  clear f2 f4 f8
  refine bodyPost_ret (v := .tuple #[.agg #[.int .i64 nw, .int .i64 nH, .slice A3 n3 m3, .slice A4 n4 m4, .slice A5 n5 m5], .int .i64 0]) (by simp only [results, Try.results42]; go_simp) rfl ⟨_, rfl, CapsOK.mk hcp3 hcp4 hcp5, ⟨A3, n3, m3, A4, n4, m4, A5, n5, m5, rfl, ?_, ?_, ?_⟩, ?_⟩
  · refine Byt.mono (p := (w2.heap.size ≤ ·)) ?_ (fun b _ h => by omega)
    repeat refine Byt.setCell ?_ np _
    exact v3
  · refine Byt.mono (p := (w2.heap.size ≤ ·)) ?_ (fun b _ h => by omega)
    repeat refine Byt.setCell ?_ np _
    exact v4
  · refine Byt.mono (p := (w2.heap.size ≤ ·)) ?_ (fun b _ h => by omega)
    repeat refine Byt.setCell ?_ np _
    exact v5
  · repeat refine Below.setCell ?_ (by first | (simp; done) | (simp; omega)) _
    exact BZ

theorem ref_Weave {p : Nat → Prop} (v u : Value) (f g : Fr) (w : World) (hf : IsFr p w v f) (hg : IsFr p w u g) (hc : CapsOK v) (hd : CapsOK u) :
    Calls Try.prog 42 #[v, u] w (RetFc w (weaveF f g)) := by
  unfold weaveF
  by_cases h : weaveOk f g
  · rw [if_pos h]
    obtain ⟨W, H, Y, U, V⟩ := f
    obtain ⟨W2, H2, Y2, U2, V2⟩ := g
    obtain ⟨h1, h2, h3, h4, h5⟩ := h
    dsimp only at h3 h4 h5
    subst h3 h4
    obtain ⟨a, q, rfl, rfl, b1, b2, b3, b4, b5, b6, b7⟩ := formed_sizes h1
    obtain ⟨a', q', e1, e2, _, _, _, _, c5, c6, c7⟩ := formed_sizes h2
    obtain rfl : a = a' := by omega
    obtain rfl : q = q' := by omega
    rw [weaveFr_of]
    exact ref_Weave_yes v u a q Y U V Y2 U2 V2 w hf hg hc hd h1 h2 b1 b2 b3 (by omega) b5 b6 b7 c5 c6 c7
  · rw [if_neg h]
    exact ref_Weave_no v u f g w hf hg h
end Go.Proofs.Ytaedpadkpclldaa
