/- The contract of Field of the reference. -/
import Derived.Test.YtaedpadkpclldaaRFieldNo
namespace Go.Proofs.Ytaedpadkpclldaa
open Go.RowKit

set_option maxHeartbeats 8000000 in
theorem ref_Field_yes {p : Nat → Prop} (v : Value) (a q k : Nat) (Y U V : List Int) (w : World) (hf : IsFr p w v ⟨((2 * a : Nat) : Int), ((4 * q : Nat) : Int), Y, U, V⟩) (hc : CapsOK v) (h1 : formedB ⟨((2 * a : Nat) : Int), ((4 * q : Nat) : Int), Y, U, V⟩ = true)
    (hk : k ≤ 1) (ha1 : 1 ≤ a) (ha2 : a ≤ 32) (hq1 : 1 ≤ q) (hq2 : q ≤ 16) (lY : Y.length = (2 * q) * (2 * (2 * a))) (lU : U.length = q * (2 * a)) (lV : V.length = q * (2 * a)) :
    Calls Try.prog 41 #[v, .int .i64 k] w (RetFc w (⟨((2 * a : Nat) : Int), ((2 * q : Nat) : Int), cutL Y (k * (2 * a)) (2 * (2 * a)) (2 * a) (2 * q), cutL U (k * a) (2 * a) a q, cutL V (k * a) (2 * a) a q⟩, 0)) := by
  have hf0 := hf
  obtain ⟨ya, yn, yc, ua, un, uc, va, vn, vc, rfl, hy, hu, hv⟩ := hf
  obtain ⟨hc1, hc2, hc3⟩ := hc.out
  dsimp only at *
  obtain ⟨nw, hnw⟩ : ∃ n, n = 2 * a := ⟨_, rfl⟩
  obtain ⟨nh, hnh⟩ : ∃ n, n = 2 * q := ⟨_, rfl⟩
  obtain ⟨nH, hnH⟩ : ∃ n, n = 4 * q := ⟨_, rfl⟩
  obtain ⟨nw2, hnw2⟩ : ∃ n, n = 2 * nw := ⟨_, rfl⟩
  obtain ⟨s1, hs1⟩ : ∃ n, n = k * nw := ⟨_, rfl⟩
  obtain ⟨s2, hs2⟩ : ∃ n, n = k * a := ⟨_, rfl⟩
  have ss1 : s1 ≤ nw := by rw [hs1]; exact Nat.le_trans (Nat.mul_le_mul_right _ hk) (by omega)
  have ss2 : s2 ≤ a := by rw [hs2]; exact Nat.le_trans (Nat.mul_le_mul_right _ hk) (by omega)
  have ss : s1 = 2 * s2 := by rw [hs1, hs2, hnw]; rcases (show k = 0 ∨ k = 1 by omega) with rfl | rfl <;> omega
  rw [← hnw] at lY lU lV
  rw [← hnh] at lY
  rw [hy.len] at lY
  rw [hu.len] at lU
  rw [hv.len] at lV
  rw [← hnH] at h1 hf0
  rw [← hnH]
  rw [← hnw] at h1 hf0
  rw [← hnw, ← hnh, ← hnw2, ← hs1, ← hs2]
  have FY := Lib.hid (show ∀ r, r < nh → s1 + r * nw2 + nw ≤ yn from fun r hr => by rw [hnw2]; exact fit_rows ss1 lY hr)
  have FU := Lib.hid (show ∀ r, r < q → s2 + r * nw + a ≤ un from fun r hr => by rw [hnw]; exact fit_rows ss2 (by rw [lU, hnw]) hr)
  have FV := Lib.hid (show ∀ r, r < q → s2 + r * nw + a ≤ vn from fun r hr => by rw [hnw]; exact fit_rows ss2 (by rw [lV, hnw]) hr)
  have KY := Lib.hid lY
  have KU := Lib.hid (show un = q * (2 * a) by rw [lU, hnw])
  have KV := Lib.hid (show vn = q * (2 * a) by rw [lV, hnw])
  have f1 : IntKind.i64.wrap ((k : Int) * (nw : Int)) = (s1 : Int) := by rw [← Int.natCast_mul, ← hs1]; exact IntWalk.i64_in _ (by omega)
  have f2 : IntKind.i64.wrap (2 * (nw : Int)) = (nw2 : Int) := by rw [show 2 * (nw : Int) = ((nw2 : Nat) : Int) by omega]; exact IntWalk.i64_in _ (by omega)
  have f3 : ((s1 : Nat) : Int).tdiv 2 = (s2 : Int) := by rw [Int.tdiv_eq_ediv_of_nonneg (by omega)]; omega
  have f4 : ((nw : Nat) : Int).tdiv 2 = (a : Int) := by rw [Int.tdiv_eq_ediv_of_nonneg (by omega)]; omega
  have f5 : ((nh : Nat) : Int).tdiv 2 = (q : Int) := by rw [Int.tdiv_eq_ediv_of_nonneg (by omega)]; omega
  have f6 : ((nH : Nat) : Int).tdiv 2 = (nh : Int) := by rw [Int.tdiv_eq_ediv_of_nonneg (by omega)]; omega
  have f7 : IntKind.i64.wrap (s2 : Int) = (s2 : Int) := IntWalk.i64_in _ (by omega)
  have f8 : IntKind.i64.wrap (a : Int) = (a : Int) := IntWalk.i64_in _ (by omega)
  have f9 : IntKind.i64.wrap (q : Int) = (q : Int) := IntWalk.i64_in _ (by omega)
  have fa : IntKind.i64.wrap (nh : Int) = (nh : Int) := IntWalk.i64_in _ (by omega)
  have g4 : ((nH : Int) % 4 != 0) = false := by rw [show (nH : Int) % 4 = 0 by omega]; rfl
  have gk : ((k : Int) != 0) = true → ((k : Int) != 1) = false := by intro h; simp at h ⊢; omega
  have Hnw := Lib.hid hnw
  have Hnh := Lib.hid hnh
  have HnH := Lib.hid hnH
  have Hnw2 := Lib.hid hnw2
  have Hs1 := Lib.hid hs1
  have Hs2 := Lib.hid hs2
  have Hk := Lib.hid hk
  have bnw : nw ≤ 64 := by omega
  have bnh : nh ≤ 32 := by omega
  have bnH : nH ≤ 64 := by omega
  have bnw2 : nw2 ≤ 128 := by omega
  have bn1 : 1 ≤ nw := by omega
  clear hnw hnh hnH hnw2 hs1 hs2 ss lY lU lV
  have F1 := Lib.hid f1
  have F2 := Lib.hid f2
  have F3 := Lib.hid f3
  have F4 := Lib.hid f4
  have F5 := Lib.hid f5
  have F6 := Lib.hid f6
  clear f1 f2 f3 f4 f5 f6
  rcases (show k = 0 ∨ k = 1 by omega) with hk0 | hk0
  all_goals
    have gk0 : ((k : Int) != 0) = decide (k = 1) := by rw [hk0]; rfl
    have gk1 : ((k : Int) != 1) = decide (k = 0) := by rw [hk0]; rfl
    have HK0 := Lib.hid hk0
    have gk2 : decide (k = 1) = decide (k = 1) := rfl
    clear hk gk gk2
    first
    | (have hk1 : decide (k = 1) = true := decide_eq_true hk0
       have hk2 : decide (k = 0) = false := decide_eq_false (by omega)
       rw [hk1] at gk0; rw [hk2] at gk1; clear hk1 hk2)
    | (have hk1 : decide (k = 1) = false := decide_eq_false (by omega)
       rw [hk1] at gk0; clear hk1)
    clear hk0
    go_enter Try.func41, Try.ntmps41
    go_wp2_with fail
    refine (ref_Formed (p := p) _ ⟨(nw : Int), (nH : Int), Y, U, V⟩ _ (by (repeat with_reducible apply IsFr.alloc); exact hf0)).mono ?_
    rintro e w1 ⟨rfl, hb1⟩
    have BW : Below w.heap.size w w1 := (((Below.refl _ w).alloc (by simp) _).alloc (by simp) _).trans (hb1.mono (by simp; omega))
    have y1 : Bx w1 w.heap.size 24 #[.int .i64 nw, .int .i64 nH, .slice ya yn yc, .slice ua un uc, .slice va vn vc] := ((Bx.new w _ _).alloc _).ext hb1
    have y3 : Bx w1 (w.heap.size + 1) 24 #[.int .i64 0, .int .i64 0, .slice none 0 0, .slice none 0 0, .slice none 0 0] := (Bx.new' _ _ _ _ (by simp)).ext hb1
    have hby := hy.ext BW
    have hbu := hu.ext BW
    have hbv := hv.ext BW
    obtain ⟨x0, x1, x2, x3, x4⟩ := y1.cells5
    obtain ⟨r0, r1, r2, r3, r4⟩ := y3.cells5
    have t0 := y3.frozen 0
    have t1 := y3.frozen 1
    have t2 := y3.frozen 2
    have t3 := y3.frozen 3
    have t4 := y3.frozen 4
    have q_1_0 := y1.lt
    have q_1_1 := y3.lt
    go_wp2_with fail
    have f1 := F1.out
    have f2 := F2.out
    have f3 := F3.out
    have f4 := F4.out
    have f5 := F5.out
    have f6 := F6.out
    go_region_held3 (fun w' => w'.cell? ⟨w.heap.size, 0, none⟩ = some (.int .i64 nw) ∧ w'.cell? ⟨w.heap.size, 1, none⟩ = some (.int .i64 nH) ∧ w'.cell? ⟨w.heap.size, 2, none⟩ = some (.slice ya yn yc) ∧ w'.cell? ⟨w.heap.size, 3, none⟩ = some (.slice ua un uc) ∧ w'.cell? ⟨w.heap.size, 4, none⟩ = some (.slice va vn vc))
      (first | (refine ⟨?_, ?_, ?_, ?_, ?_⟩ <;> go_simp; done) | go_keep)
      (first
       | (go_at_call 49; ((with_reducible refine (ref_lines (p := p) ya yn yc nw k nh Y _ hby.drew hc1 (by omega) (by omega) Hk.out (by omega) KY.out).mono ?_); rintro e w3 ⟨A3, n3, m3, rfl, hcp3, hB3, hb3⟩; have hb3 : Below w1.heap.size w1 w3 := (by first | exact undrew (undrew hb3) | exact undrew hb3); obtain ⟨c_w3, z_w3⟩ := bcell hb3; have s_w3 := hb3.size; skip; have q_3_0 : w.heap.size < w3.heap.size := (by omega); have q_3_1 : w.heap.size + 1 < w3.heap.size := (by omega)))
       | (go_at_call 49; ((with_reducible refine (ref_lines (p := p) ua un uc a k q U _ (hbu.ext hb3) hc2 (by omega) (by omega) Hk.out (by omega) KU.out).mono ?_); rintro e w4 ⟨A4, n4, m4, rfl, hcp4, hB4, hb4⟩; obtain ⟨c_w4, z_w4⟩ := bcell hb4; skip; have q_4_0 : w.heap.size < w4.heap.size := (by have := hb4.size; omega); have q_4_1 : w.heap.size + 1 < w4.heap.size := (by have := hb4.size; omega)))
       | (go_at_call 49; ((with_reducible refine (ref_lines (p := p) va vn vc a k q V _ ((hbv.ext hb3).ext hb4) hc3 (by omega) (by omega) Hk.out (by omega) KV.out).mono ?_); rintro e w5 ⟨A5, n5, m5, rfl, hcp5, hB5, hb5⟩; obtain ⟨c_w5, z_w5⟩ := bcell hb5; skip; have q_5_0 : w.heap.size < w5.heap.size := (by have := hb4.size; have := hb5.size; omega); have q_5_1 : w.heap.size + 1 < w5.heap.size := (by have := hb4.size; have := hb5.size; omega))))
    go_wp2
    have np : ¬ (w1.heap.size ≤ w.heap.size + 1) := by omega
    have u3 := hb3.size
    have u4 := hb4.size
    have u5 := hb5.size
    have uA := BW.size
    have BZ : Below w.heap.size w w5 := ((BW.trans (hb3.mono (by omega))).trans (hb4.mono (by omega))).trans (hb5.mono (by omega))
    have v3 := ((hB3.ext hb4).ext hb5).mono (q := (w1.heap.size ≤ ·)) (fun b _ h => h)
    have v4 := (hB4.mono (q := (w1.heap.size ≤ ·)) (fun b _ h => by omega)).ext hb5
    have v5 := hB5.mono (q := (w1.heap.size ≤ ·)) (fun b _ h => by omega)
    clear f1 f2 f3 f4 f5 f6 f7 f8 f9 fa
    rw [← Hs1.out, ← Hnw2.out] at v3
    rw [← Hs2.out, ← Hnw.out] at v4 v5
    refine bodyPost_ret (v := .tuple #[.agg #[.int .i64 nw, .int .i64 nh, .slice A3 n3 m3, .slice A4 n4 m4, .slice A5 n5 m5], .int .i64 0]) (by simp only [results, Try.results41]; go_simp) rfl ⟨_, rfl, CapsOK.mk hcp3 hcp4 hcp5, ⟨A3, n3, m3, A4, n4, m4, A5, n5, m5, rfl, ?_, ?_, ?_⟩, ?_⟩
    · refine Byt.mono (p := (w1.heap.size ≤ ·)) ?_ (fun b _ h => by omega)
      repeat refine Byt.setCell ?_ np _
      exact v3
    · refine Byt.mono (p := (w1.heap.size ≤ ·)) ?_ (fun b _ h => by omega)
      repeat refine Byt.setCell ?_ np _
      exact v4
    · refine Byt.mono (p := (w1.heap.size ≤ ·)) ?_ (fun b _ h => by omega)
      repeat refine Byt.setCell ?_ np _
      exact v5
    · repeat refine Below.setCell ?_ (by first | (simp; done) | (simp; omega)) _
      exact BZ

theorem ref_Field {p : Nat → Prop} (v : Value) (f : Fr) (par : Int) (w : World) (hf : IsFr p w v f) (hc : CapsOK v) :
    Calls Try.prog 41 #[v, .int .i64 par] w (RetFc w (fieldF f par)) := by
  unfold fieldF
  by_cases h : fieldOk f par
  · rw [if_pos h]
    obtain ⟨W, H, Y, U, V⟩ := f
    obtain ⟨h1, h2, h3⟩ := h
    obtain ⟨a, q, rfl, rfl, b1, b2, b3, b4, b5, b6, b7⟩ := field_sizes h1 h2
    obtain ⟨k, rfl⟩ : ∃ k : Nat, par = (k : Int) := ⟨par.toNat, by omega⟩
    rw [Int.toNat_natCast, fieldFr_of]
    exact ref_Field_yes v a q k Y U V w hf hc h1 (by omega) b1 b2 b3 b4 b5 b6 b7
  · rw [if_neg h]
    exact ref_Field_no v f par w hf h

end Go.Proofs.Ytaedpadkpclldaa
