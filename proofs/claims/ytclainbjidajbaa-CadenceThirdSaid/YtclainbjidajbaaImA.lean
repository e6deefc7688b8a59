/- Tape.Image: the planes are made. -/
import Derived.Test.YtclainbjidajbaaTap
namespace Go.Proofs.Ytclainbjidajbaa
open Go.RowKit

structure IG (w0 : World) (R s P Q : Nat) (env : IE) (d5 d10 d15 d17 d18 : Bool) (W : World) : Prop where
  be : Below w0.heap.size w0 W
  rb : Bx W R 27 #[.int .i64 0, .int .i64 0, .slice none 0 0, .slice none 0 0, .slice none 0 0]
  y : d5 = true → Bk W 5 env.gy (List.replicate P 0) ∧ R < env.gy
  u : d10 = true → Bk W 5 env.gu (List.replicate Q 0) ∧ R < env.gu
  v : d15 = true → Bk W 5 env.gv (List.replicate Q 0) ∧ R < env.gv
  f0 : d17 = true → d18 = false → Bx W env.gf 27 #[.int .i64 0, .int .i64 0, .slice none 0 0, .slice none 0 0, .slice none 0 0]
  f1 : d18 = true → Bx W env.gf 27 #[.int .i64 (s : Int), .int .i64 (s : Int), .slice (some ⟨env.gy, 0, none⟩) P P, .slice (some ⟨env.gu, 0, none⟩) Q Q, .slice (some ⟨env.gv, 0, none⟩) Q Q]
  fr : d17 = true → R < env.gf
  yu : d5 = true → d10 = true → env.gy ≠ env.gu
  yv : d5 = true → d15 = true → env.gy ≠ env.gv
  uv : d10 = true → d15 = true → env.gu ≠ env.gv
  fy : d17 = true → d5 = true → env.gf ≠ env.gy
  fu : d17 = true → d10 = true → env.gf ≠ env.gu
  fv : d17 = true → d15 = true → env.gf ≠ env.gv
def imV (s P Q : Nat) (env : IE) : Nat → Value
  | 0 => .int .i64 (s : Int)
  | 1 => .int .i64 (s : Int)
  | 2 => .int .i64 (s : Int)
  | 3 => .int .i64 (s : Int)
  | 4 => .int .i64 (P : Int)
  | 5 => .slice (some ⟨env.gy, 0, none⟩) P P
  | 6 => .int .i64 (s : Int)
  | 7 => .int .i64 (s : Int)
  | 8 => .int .i64 (P : Int)
  | 9 => .int .i64 (Q : Int)
  | 10 => .slice (some ⟨env.gu, 0, none⟩) Q Q
  | 11 => .int .i64 (s : Int)
  | 12 => .int .i64 (s : Int)
  | 13 => .int .i64 (P : Int)
  | 14 => .int .i64 (Q : Int)
  | 15 => .slice (some ⟨env.gv, 0, none⟩) Q Q
  | 16 => .agg #[.int .i64 (s : Int), .int .i64 (s : Int), .slice (some ⟨env.gy, 0, none⟩) P P, .slice (some ⟨env.gu, 0, none⟩) Q Q, .slice (some ⟨env.gv, 0, none⟩) Q Q]
  | 17 => .pointer (some ⟨env.gf, 0, none⟩)
  | _ => undef
theorem imV_gy {s P Q x j : Nat} {env : IE} (h5 : j ≠ 5) (h16 : j ≠ 16) (hl : j < 19) : imV s P Q ⟨x, env.gu, env.gv, env.gf⟩ j = imV s P Q env j := by
  rcases (show j = 0 ∨ j = 1 ∨ j = 2 ∨ j = 3 ∨ j = 4 ∨ j = 5 ∨ j = 6 ∨ j = 7 ∨ j = 8 ∨ j = 9 ∨ j = 10 ∨ j = 11 ∨ j = 12 ∨ j = 13 ∨ j = 14 ∨ j = 15 ∨ j = 16 ∨ j = 17 ∨ j = 18 by omega) with rfl | rfl | rfl | rfl | rfl | rfl | rfl | rfl | rfl | rfl | rfl | rfl | rfl | rfl | rfl | rfl | rfl | rfl | rfl <;> first | rfl | exact absurd rfl h5 | exact absurd rfl h16
theorem imV_gu {s P Q x j : Nat} {env : IE} (h10 : j ≠ 10) (h16 : j ≠ 16) (hl : j < 19) : imV s P Q ⟨env.gy, x, env.gv, env.gf⟩ j = imV s P Q env j := by
  rcases (show j = 0 ∨ j = 1 ∨ j = 2 ∨ j = 3 ∨ j = 4 ∨ j = 5 ∨ j = 6 ∨ j = 7 ∨ j = 8 ∨ j = 9 ∨ j = 10 ∨ j = 11 ∨ j = 12 ∨ j = 13 ∨ j = 14 ∨ j = 15 ∨ j = 16 ∨ j = 17 ∨ j = 18 by omega) with rfl | rfl | rfl | rfl | rfl | rfl | rfl | rfl | rfl | rfl | rfl | rfl | rfl | rfl | rfl | rfl | rfl | rfl | rfl <;> first | rfl | exact absurd rfl h10 | exact absurd rfl h16
theorem imV_gv {s P Q x j : Nat} {env : IE} (h15 : j ≠ 15) (h16 : j ≠ 16) (hl : j < 19) : imV s P Q ⟨env.gy, env.gu, x, env.gf⟩ j = imV s P Q env j := by
  rcases (show j = 0 ∨ j = 1 ∨ j = 2 ∨ j = 3 ∨ j = 4 ∨ j = 5 ∨ j = 6 ∨ j = 7 ∨ j = 8 ∨ j = 9 ∨ j = 10 ∨ j = 11 ∨ j = 12 ∨ j = 13 ∨ j = 14 ∨ j = 15 ∨ j = 16 ∨ j = 17 ∨ j = 18 by omega) with rfl | rfl | rfl | rfl | rfl | rfl | rfl | rfl | rfl | rfl | rfl | rfl | rfl | rfl | rfl | rfl | rfl | rfl | rfl <;> first | rfl | exact absurd rfl h15 | exact absurd rfl h16
theorem imV_gf {s P Q x j : Nat} {env : IE} (h17 : j ≠ 17) (hl : j < 19) : imV s P Q ⟨env.gy, env.gu, env.gv, x⟩ j = imV s P Q env j := by
  rcases (show j = 0 ∨ j = 1 ∨ j = 2 ∨ j = 3 ∨ j = 4 ∨ j = 5 ∨ j = 6 ∨ j = 7 ∨ j = 8 ∨ j = 9 ∨ j = 10 ∨ j = 11 ∨ j = 12 ∨ j = 13 ∨ j = 14 ∨ j = 15 ∨ j = 16 ∨ j = 17 ∨ j = 18 by omega) with rfl | rfl | rfl | rfl | rfl | rfl | rfl | rfl | rfl | rfl | rfl | rfl | rfl | rfl | rfl | rfl | rfl | rfl | rfl <;> first | rfl | exact absurd rfl h17
def im6 (gf gy P k s ra rb rc r m1 m2 q m3 m4 : Nat) : Nat → Value
  | 0 => .pointer (some ⟨gf, 2, none⟩)
  | 1 => .slice (some ⟨gy, 0, none⟩) P P
  | 2 => .int .i64 (k : Int)
  | 3 => .int .i64 (ra : Int)
  | 4 => .int .i64 (k : Int)
  | 5 => .int .i64 (s : Int)
  | 6 => .int .i64 (r : Int)
  | 7 => .int .i64 (rb : Int)
  | 8 => .int .i64 (m1 : Int)
  | 9 => .int .i64 (m2 : Int)
  | 10 => .int .i64 (k : Int)
  | 11 => .int .i64 (s : Int)
  | 12 => .int .i64 (q : Int)
  | 13 => .int .i64 (rc : Int)
  | 14 => .int .i64 (m3 : Int)
  | 15 => .int .i64 (m4 : Int)
  | 16 => .int .u8 (IntKind.u8.wrap (m4 : Int))
  | 17 => .pointer (some ⟨gy, k, none⟩)
  | _ => undef
def im15 (gf gy g P x1 x2 : Nat) : Nat → Value
  | 0 => .pointer (some ⟨gf, 2, none⟩)
  | 1 => .slice (some ⟨gy, 0, none⟩) P P
  | 2 => .pointer (some ⟨g, 0, none⟩)
  | 3 => .pointer (some ⟨gf, 2, none⟩)
  | 4 => .slice (some ⟨gy, 0, none⟩) P P
  | 5 => .int .i64 (P : Int)
  | 6 => .int .i64 (x1 : Int)
  | 7 => .pointer (some ⟨g, 0, none⟩)
  | 8 => .int .i64 (x2 : Int)
  | 9 => .int .u8 (IntKind.u8.wrap (x2 : Int))
  | 10 => .pointer (some ⟨gy, x1, none⟩)
  | _ => undef
theorem bk_set5 {w : World} {e : TypeId} {g g' : Nat} {l : List Int} {v0 v1 v2 v3 v4 : Value} (h : Bk w e g l) (hne : g ≠ g') : Bk (set5 w g' v0 v1 v2 v3 v4) e g l :=
  ((((h.far (a := ⟨g', 0, none⟩) hne v0).far (a := ⟨g', 1, none⟩) hne v1).far (a := ⟨g', 2, none⟩) hne v2).far (a := ⟨g', 3, none⟩) hne v3).far (a := ⟨g', 4, none⟩) hne v4

set_option maxRecDepth 100000 in
set_option maxHeartbeats 8000000 in
theorem tape_Image (g : Nat) (A : Option Addr) (n c a : Nat) (L : List Int) (s : Nat) (w : World) (hb : Bx w g 50 #[.slice A n c, .int .i64 (a : Int)]) (hi : Its .i64 (fun b => b ≠ g ∧ b < w.heap.size) w A n L) (hs : s = 16 ∨ s = 32) (hok : IntsOk L) (ha : a ≤ 900000) :
    Calls Try.prog 38 #[.pointer (some ⟨g, 0, none⟩), .int .i64 (s : Int), .int .i64 (s : Int)] w fun e w' => ∃ (z : FA) (a' : Nat), e = .returned z.val ∧ SzF z.f (s / 2) (s / 2) ∧ FrmOk (w.heap.size ≤ ·) w' z ∧ a' ≤ a + 20 ∧ Bx w' g 50 #[.slice A n c, .int .i64 (a' : Int)] ∧ Its .i64 (fun b => b ≠ g ∧ b < w.heap.size) w' A n L ∧ w.grownBy w' (some g) := by
  obtain ⟨P, hP⟩ : ∃ P, s * s = P := ⟨_, rfl⟩
  obtain ⟨Q, hQ⟩ : ∃ Q, P / 4 = Q := ⟨_, rfl⟩
  have hPb : P = 256 ∨ P = 1024 := by rcases hs with rfl | rfl <;> omega
  have hss : (s : Int) * (s : Int) = (P : Int) := by rw [← hP]; exact (Int.natCast_mul _ _).symm
  have wP : IntKind.i64.wrap (P : Int) = (P : Int) := IntWalk.i64_in _ (by omega)
  have wQ : IntKind.i64.wrap (Q : Int) = (Q : Int) := IntWalk.i64_in _ (by omega)
  have q1 : (P : Int).tdiv 4 = (Q : Int) := by rw [Int.tdiv_eq_ediv_of_nonneg (by omega)]; omega
  have q2 : (P : Int) / 4 = (Q : Int) := by omega
  have hmkP := run_mkBn (P := Try.prog) (t := 25) (e := 5) Try.underlying25 Try.infoB P P (Nat.le_refl _) (by omega)
  have hmkQ := run_mkBn (P := Try.prog) (t := 25) (e := 5) Try.underlying25 Try.infoB Q Q (Nat.le_refl _) (by omega)
  have HP := Lib.hid hP
  have HQ := Lib.hid hQ
  have HPb := Lib.hid hPb
  have HS := Lib.hid hs
  have HTB := Lib.hid hb
  have HTI := Lib.hid hi
  have HOK := Lib.hid hok
  have hs0 : 0 < s := by omega
  have hs32 : s ≤ 32 := by omega
  have hP0 : P ≤ 1024 := by omega
  have hQ0 : Q ≤ 256 := by omega
  have rb := Bx.new w 27 #[.int .i64 0, .int .i64 0, .slice none 0 0, .slice none 0 0, .slice none 0 0]
  have B0 := (Below.refl w.heap.size w).alloc (Nat.le_refl _) (.cells #[.int .i64 0, .int .i64 0, .slice none 0 0, .slice none 0 0, .slice none 0 0] 27)
  clear hP hQ hPb hs hb hi hok
  go_enter Try.func38, Try.ntmps38
  go_upto_region 1 with fail
  generalize w.alloc (.cells #[.int .i64 0, .int .i64 0, .slice none 0 0, .slice none 0 0, .slice none 0 0] 27) = W1 at *
  have HRB := Lib.hid rb
  have HB0 := Lib.hid B0
  clear rb B0
  refine wp_region_fixedE (imV s P Q) (fun env D W => IG w w.heap.size s P Q env (D 5) (D 10) (D 15) (D 17) (D 18) W) ⟨0, 0, 0, 0⟩ (by kernel_rfl) (by kernel_rfl) (by kernel_rfl) ?h0 ?hstep ?hend
  case h0 => exact ⟨HB0.out.drew, HRB.out.drew, fun h => (by cases h), fun h => (by cases h), fun h => (by cases h), fun h => (by cases h), fun h => (by cases h), fun h => (by cases h), fun h => (by cases h), fun h => (by cases h), fun h => (by cases h), fun h => (by cases h), fun h => (by cases h), fun h => (by cases h)⟩
  case hstep =>
    intro k o ho env D ac wx fr hG hcl hDi hpre hun
    have o1 : ac.tmps[1]?.getD undef = .int .i64 (s : Int) := fr.oldT 1 rfl
    have o2 : ac.tmps[2]?.getD undef = .int .i64 (s : Int) := fr.oldT 2 rfl
    have hkn : k < 19 := (List.getElem?_eq_some_iff.1 ho).1
    rcases (show k = 0 ∨ k = 1 ∨ k = 2 ∨ k = 3 ∨ k = 4 ∨ k = 5 ∨ k = 6 ∨ k = 7 ∨ k = 8 ∨ k = 9 ∨ k = 10 ∨ k = 11 ∨ k = 12 ∨ k = 13 ∨ k = 14 ∨ k = 15 ∨ k = 16 ∨ k = 17 ∨ k = 18 by omega) with rfl | rfl | rfl | rfl | rfl | rfl | rfl | rfl | rfl | rfl | rfl | rfl | rfl | rfl | rfl | rfl | rfl | rfl | rfl
    all_goals (simp only [List.getElem?_cons_zero, List.getElem?_cons_succ, Option.some.injEq] at ho; subst ho)
    · refine ⟨true, rfl, fun _ => wp_value (w' := wx) ?_ ⟨env, fun _ _ _ => rfl, rfl, hG⟩, (fun h => by cases h)⟩
      simp [execOp, o1, imV, go_sem]
    · refine ⟨true, rfl, fun _ => wp_value (w' := wx) ?_ ⟨env, fun _ _ _ => rfl, rfl, hG⟩, (fun h => by cases h)⟩
      simp [execOp, o2, imV, go_sem]
    · refine ⟨true, rfl, fun _ => wp_value (w' := wx) ?_ ⟨env, fun _ _ _ => rfl, rfl, hG⟩, (fun h => by cases h)⟩
      simp [execOp, o1, imV, go_sem]
    · refine ⟨true, rfl, fun _ => wp_value (w' := wx) ?_ ⟨env, fun _ _ _ => rfl, rfl, hG⟩, (fun h => by cases h)⟩
      simp [execOp, o2, imV, go_sem]
    · have f2 := fr.atT 2 (hpre ⟨2, .data⟩ (by simp) rfl) rfl
      have f3 := fr.atT 3 (hpre ⟨3, .data⟩ (by simp) rfl) rfl
      refine ⟨true, rfl, fun _ => wp_value (w' := wx) ?_ ⟨env, fun _ _ _ => rfl, rfl, hG⟩, (fun h => by cases h)⟩
      simp [execOp, f2, f3, imV, go_sem, hss, wP]
    · have f4 := fr.atT 4 (hpre ⟨4, .data⟩ (by simp) rfl) rfl
      refine ⟨true, rfl, fun _ => ?_, (fun h => by cases h)⟩
      have n16 : D 16 = false := by
        cases h : D 16 with
        | false => rfl
        | true => have h2 := hcl 16 _ rfl h ⟨5, .data⟩ (by simp) rfl; rw [hDi] at h2; cases h2
      have n18 : D 18 = false := by
        cases h : D 18 with
        | false => rfl
        | true => have h2 := hcl 18 _ rfl h ⟨16, .data⟩ (by simp) rfl; rw [n16] at h2; cases h2
      have lty : D 5 = true → env.gy < wx.heap.size := fun h => (hG.y h).1.lt
      have ltu : D 10 = true → env.gu < wx.heap.size := fun h => (hG.u h).1.lt
      have ltv : D 15 = true → env.gv < wx.heap.size := fun h => (hG.v h).1.lt
      have ltf : D 17 = true → env.gf < wx.heap.size := fun h => by
        cases h8 : D 18 with
        | false => exact (hG.f0 h h8).lt
        | true => exact (hG.f1 h8).lt
      have hlt := hG.rb.lt
      refine wp_value (v := .slice (some ⟨wx.heap.size, 0, none⟩) P P) (w' := wx.alloc (zeroB 5 P)) ?_ ?_
      · have e4 := fr.at_ 4 (hpre ⟨4, .data⟩ (by simp) rfl) rfl
        simp only [imV] at e4
        simp [execOp, e4, imV, hmkP]
      · exact ⟨⟨wx.heap.size, env.gu, env.gv, env.gf⟩, fun j hjl hj => imV_gy (fun e => by rw [e, hDi] at hj; cases hj) (fun e => by rw [e, n16] at hj; cases hj) hjl, rfl, hG.be.alloc hG.be.size _, hG.rb.alloc _, fun _ => ⟨Bk.made wx _ P, hlt⟩, fun h => ⟨(hG.u h).1.alloc _, (hG.u h).2⟩, fun h => ⟨(hG.v h).1.alloc _, (hG.v h).2⟩, fun h h8 => (hG.f0 h h8).alloc _, fun h => absurd (show D 18 = true from h) (by rw [n18]; exact Bool.false_ne_true), fun h => hG.fr h, fun _ h => Nat.ne_of_gt (ltu h), fun _ h => Nat.ne_of_gt (ltv h), fun h h2 => hG.uv h h2, fun h _ => Nat.ne_of_lt (ltf h), fun h h2 => hG.fu h h2, fun h h2 => hG.fv h h2⟩
    · refine ⟨true, rfl, fun _ => wp_value (w' := wx) ?_ ⟨env, fun _ _ _ => rfl, rfl, hG⟩, (fun h => by cases h)⟩
      simp [execOp, o1, imV, go_sem]
    · refine ⟨true, rfl, fun _ => wp_value (w' := wx) ?_ ⟨env, fun _ _ _ => rfl, rfl, hG⟩, (fun h => by cases h)⟩
      simp [execOp, o2, imV, go_sem]
    · have f6 := fr.atT 6 (hpre ⟨6, .data⟩ (by simp) rfl) rfl
      have f7 := fr.atT 7 (hpre ⟨7, .data⟩ (by simp) rfl) rfl
      refine ⟨true, rfl, fun _ => wp_value (w' := wx) ?_ ⟨env, fun _ _ _ => rfl, rfl, hG⟩, (fun h => by cases h)⟩
      simp [execOp, f6, f7, imV, go_sem, hss, wP]
    · have f8 := fr.atT 8 (hpre ⟨8, .data⟩ (by simp) rfl) rfl
      refine ⟨true, rfl, fun _ => wp_value (w' := wx) ?_ ⟨env, fun _ _ _ => rfl, rfl, hG⟩, (fun h => by cases h)⟩
      simp [execOp, f8, imV, go_sem, q1, q2, wQ]
    · have f9 := fr.atT 9 (hpre ⟨9, .data⟩ (by simp) rfl) rfl
      refine ⟨true, rfl, fun _ => ?_, (fun h => by cases h)⟩
      have n16 : D 16 = false := by
        cases h : D 16 with
        | false => rfl
        | true => have h2 := hcl 16 _ rfl h ⟨10, .data⟩ (by simp) rfl; rw [hDi] at h2; cases h2
      have n18 : D 18 = false := by
        cases h : D 18 with
        | false => rfl
        | true => have h2 := hcl 18 _ rfl h ⟨16, .data⟩ (by simp) rfl; rw [n16] at h2; cases h2
      have lty : D 5 = true → env.gy < wx.heap.size := fun h => (hG.y h).1.lt
      have ltu : D 10 = true → env.gu < wx.heap.size := fun h => (hG.u h).1.lt
      have ltv : D 15 = true → env.gv < wx.heap.size := fun h => (hG.v h).1.lt
      have ltf : D 17 = true → env.gf < wx.heap.size := fun h => by
        cases h8 : D 18 with
        | false => exact (hG.f0 h h8).lt
        | true => exact (hG.f1 h8).lt
      have hlt := hG.rb.lt
      refine wp_value (v := .slice (some ⟨wx.heap.size, 0, none⟩) Q Q) (w' := wx.alloc (zeroB 5 Q)) ?_ ?_
      · have e4 := fr.at_ 9 (hpre ⟨9, .data⟩ (by simp) rfl) rfl
        simp only [imV] at e4
        simp [execOp, e4, imV, hmkQ]
      · exact ⟨⟨env.gy, wx.heap.size, env.gv, env.gf⟩, fun j hjl hj => imV_gu (fun e => by rw [e, hDi] at hj; cases hj) (fun e => by rw [e, n16] at hj; cases hj) hjl, rfl, hG.be.alloc hG.be.size _, hG.rb.alloc _, fun h => ⟨(hG.y h).1.alloc _, (hG.y h).2⟩, fun _ => ⟨Bk.made wx _ Q, hlt⟩, fun h => ⟨(hG.v h).1.alloc _, (hG.v h).2⟩, fun h h8 => (hG.f0 h h8).alloc _, fun h => absurd (show D 18 = true from h) (by rw [n18]; exact Bool.false_ne_true), fun h => hG.fr h, fun h _ => Nat.ne_of_lt (lty h), fun h h2 => hG.yv h h2, fun _ h => Nat.ne_of_gt (ltv h), fun h h2 => hG.fy h h2, fun h _ => Nat.ne_of_lt (ltf h), fun h h2 => hG.fv h h2⟩
    · refine ⟨true, rfl, fun _ => wp_value (w' := wx) ?_ ⟨env, fun _ _ _ => rfl, rfl, hG⟩, (fun h => by cases h)⟩
      simp [execOp, o1, imV, go_sem]
    · refine ⟨true, rfl, fun _ => wp_value (w' := wx) ?_ ⟨env, fun _ _ _ => rfl, rfl, hG⟩, (fun h => by cases h)⟩
      simp [execOp, o2, imV, go_sem]
    · have f11 := fr.atT 11 (hpre ⟨11, .data⟩ (by simp) rfl) rfl
      have f12 := fr.atT 12 (hpre ⟨12, .data⟩ (by simp) rfl) rfl
      refine ⟨true, rfl, fun _ => wp_value (w' := wx) ?_ ⟨env, fun _ _ _ => rfl, rfl, hG⟩, (fun h => by cases h)⟩
      simp [execOp, f11, f12, imV, go_sem, hss, wP]
    · have f13 := fr.atT 13 (hpre ⟨13, .data⟩ (by simp) rfl) rfl
      refine ⟨true, rfl, fun _ => wp_value (w' := wx) ?_ ⟨env, fun _ _ _ => rfl, rfl, hG⟩, (fun h => by cases h)⟩
      simp [execOp, f13, imV, go_sem, q1, q2, wQ]
    · have f14 := fr.atT 14 (hpre ⟨14, .data⟩ (by simp) rfl) rfl
      refine ⟨true, rfl, fun _ => ?_, (fun h => by cases h)⟩
      have n16 : D 16 = false := by
        cases h : D 16 with
        | false => rfl
        | true => have h2 := hcl 16 _ rfl h ⟨15, .data⟩ (by simp) rfl; rw [hDi] at h2; cases h2
      have n18 : D 18 = false := by
        cases h : D 18 with
        | false => rfl
        | true => have h2 := hcl 18 _ rfl h ⟨16, .data⟩ (by simp) rfl; rw [n16] at h2; cases h2
      have lty : D 5 = true → env.gy < wx.heap.size := fun h => (hG.y h).1.lt
      have ltu : D 10 = true → env.gu < wx.heap.size := fun h => (hG.u h).1.lt
      have ltv : D 15 = true → env.gv < wx.heap.size := fun h => (hG.v h).1.lt
      have ltf : D 17 = true → env.gf < wx.heap.size := fun h => by
        cases h8 : D 18 with
        | false => exact (hG.f0 h h8).lt
        | true => exact (hG.f1 h8).lt
      have hlt := hG.rb.lt
      refine wp_value (v := .slice (some ⟨wx.heap.size, 0, none⟩) Q Q) (w' := wx.alloc (zeroB 5 Q)) ?_ ?_
      · have e4 := fr.at_ 14 (hpre ⟨14, .data⟩ (by simp) rfl) rfl
        simp only [imV] at e4
        simp [execOp, e4, imV, hmkQ]
      · exact ⟨⟨env.gy, env.gu, wx.heap.size, env.gf⟩, fun j hjl hj => imV_gv (fun e => by rw [e, hDi] at hj; cases hj) (fun e => by rw [e, n16] at hj; cases hj) hjl, rfl, hG.be.alloc hG.be.size _, hG.rb.alloc _, fun h => ⟨(hG.y h).1.alloc _, (hG.y h).2⟩, fun h => ⟨(hG.u h).1.alloc _, (hG.u h).2⟩, fun _ => ⟨Bk.made wx _ Q, hlt⟩, fun h h8 => (hG.f0 h h8).alloc _, fun h => absurd (show D 18 = true from h) (by rw [n18]; exact Bool.false_ne_true), fun h => hG.fr h, fun h h2 => hG.yu h h2, fun h _ => Nat.ne_of_lt (lty h), fun h _ => Nat.ne_of_lt (ltu h), fun h h2 => hG.fy h h2, fun h h2 => hG.fu h h2, fun h _ => Nat.ne_of_lt (ltf h)⟩
    · have f0 := fr.atT 0 (hpre ⟨0, .data⟩ (by simp) rfl) rfl
      have f1 := fr.atT 1 (hpre ⟨1, .data⟩ (by simp) rfl) rfl
      have f5 := fr.atT 5 (hpre ⟨5, .data⟩ (by simp) rfl) rfl
      have f10 := fr.atT 10 (hpre ⟨10, .data⟩ (by simp) rfl) rfl
      have f15 := fr.atT 15 (hpre ⟨15, .data⟩ (by simp) rfl) rfl
      refine ⟨true, rfl, fun _ => wp_value (w' := wx) ?_ ⟨env, fun _ _ _ => rfl, rfl, hG⟩, (fun h => by cases h)⟩
      simp [execOp, f0, f1, f5, f10, f15, imV, go_sem]
    · refine ⟨true, rfl, fun _ => ?_, (fun h => by cases h)⟩
      have n18 : D 18 = false := by
        cases h : D 18 with
        | false => rfl
        | true => have h2 := hcl 18 _ rfl h ⟨17, .data⟩ (by simp) rfl; rw [hDi] at h2; cases h2
      have lty : D 5 = true → env.gy < wx.heap.size := fun h => (hG.y h).1.lt
      have ltu : D 10 = true → env.gu < wx.heap.size := fun h => (hG.u h).1.lt
      have ltv : D 15 = true → env.gv < wx.heap.size := fun h => (hG.v h).1.lt
      have hlt := hG.rb.lt
      refine wp_value (v := .pointer (some ⟨wx.heap.size, 0, none⟩)) (w' := wx.alloc (.cells #[.int .i64 0, .int .i64 0, .slice none 0 0, .slice none 0 0, .slice none 0 0] 27)) ?_ ?_
      · simp [execOp, go_sem]
      · exact ⟨⟨env.gy, env.gu, env.gv, wx.heap.size⟩, fun j hjl hj => imV_gf (fun e => by rw [e, hDi] at hj; cases hj) hjl, rfl, hG.be.alloc hG.be.size _, hG.rb.alloc _, fun h => ⟨(hG.y h).1.alloc _, (hG.y h).2⟩, fun h => ⟨(hG.u h).1.alloc _, (hG.u h).2⟩, fun h => ⟨(hG.v h).1.alloc _, (hG.v h).2⟩, fun _ _ => Bx.new _ _ _, fun h => absurd (show D 18 = true from h) (by rw [n18]; exact Bool.false_ne_true), fun _ => hlt, fun h h2 => hG.yu h h2, fun h h2 => hG.yv h h2, fun h h2 => hG.uv h h2, fun _ h => Nat.ne_of_gt (lty h), fun _ h => Nat.ne_of_gt (ltu h), fun _ h => Nat.ne_of_gt (ltv h)⟩
    · have f17 := fr.atT 17 (hpre ⟨17, .data⟩ (by simp) rfl) rfl
      have f16 := fr.atT 16 (hpre ⟨16, .data⟩ (by simp) rfl) rfl
      refine ⟨true, rfl, fun _ => ?_, (fun h => by cases h)⟩
      have d17 : D 17 = true := hpre ⟨17, .data⟩ (by simp) rfl
      have d16 : D 16 = true := hpre ⟨16, .data⟩ (by simp) rfl
      have d5 : D 5 = true := hcl 16 _ rfl d16 ⟨5, .data⟩ (by simp) rfl
      have d10 : D 10 = true := hcl 16 _ rfl d16 ⟨10, .data⟩ (by simp) rfl
      have d15 : D 15 = true := hcl 16 _ rfl d16 ⟨15, .data⟩ (by simp) rfl
      have hf := hG.f0 d17 hDi
      have hfr := hG.fr d17
      obtain ⟨c0, c1, c2, c3, c4⟩ := hf.cells5
      have z0 := hf.frozen 0
      have z1 := hf.frozen 1
      have z2 := hf.frozen 2
      have z3 := hf.frozen 3
      have z4 := hf.frozen 4
      refine wp_skipF (w' := set5 wx env.gf (.int .i64 (s : Int)) (.int .i64 (s : Int)) (.slice (some ⟨env.gy, 0, none⟩) P P) (.slice (some ⟨env.gu, 0, none⟩) Q Q) (.slice (some ⟨env.gv, 0, none⟩) Q Q)) ?_ ?_
      · simp [execOp, f17, f16, imV, go_sem, c0, c1, c2, c3, c4, z0, z1, z2, z3, z4, set5]
      · exact ⟨env, fun _ _ _ => rfl, rfl, set5_below hG.be (by omega) _ _ _ _ _, ((((hG.rb.far (by dsimp only; omega) _).far (by dsimp only; omega) _).far (by dsimp only; omega) _).far (by dsimp only; omega) _).far (by dsimp only; omega) _, fun h => ⟨bk_set5 (hG.y h).1 (hG.fy d17 h).symm, (hG.y h).2⟩, fun h => ⟨bk_set5 (hG.u h).1 (hG.fu d17 h).symm, (hG.u h).2⟩, fun h => ⟨bk_set5 (hG.v h).1 (hG.fv d17 h).symm, (hG.v h).2⟩, fun _ h => (by cases h), fun _ => hf.set5 _ _ _ _ _, hG.fr, hG.yu, hG.yv, hG.uv, hG.fy, hG.fu, hG.fv⟩
  case hend =>
    intro env D w7 hG hall
    have d5 := hall 5 (by decide)
    have d10 := hall 10 (by decide)
    have d15 := hall 15 (by decide)
    have d17 := hall 17 (by decide)
    have d18 := hall 18 (by decide)
    have hIS : IS w g w.heap.size env.gf env.gy env.gu env.gv A n c a L s P Q (List.replicate P 0) (List.replicate Q 0) (List.replicate Q 0) w7 := by
      have e1 := (hG.y d5).2
      have e2 := (hG.u d10).2
      have e3 := (hG.v d15).2
      have e4 := hG.fr d17
      refine ⟨HTB.out.ext hG.be, HTI.out.ext hG.be, hG.rb, hG.f1 d18, (hG.y d5).1, (hG.u d10).1, (hG.v d15).1, by simp, by simp, by simp, U8s.zeros _, U8s.zeros _, U8s.zeros _, ⟨hG.be.os, hG.be.tape, hG.be.output, hG.be.size, fun k hk _ => hG.be.block k hk⟩, ⟨HTB.out.lt, Nat.le_refl _, by omega, by omega, by omega, by omega, by omega, by omega, by omega, by omega, hG.fy d17 d5, hG.fu d17 d10, hG.fv d17 d15, hG.yu d5 d10, hG.yv d5 d15, hG.uv d10 d15⟩⟩
    simp only [putsU, Act.put, List.setIfInBounds_toArray, List.set_cons_succ, List.set_cons_zero, Nat.zero_add, Nat.reduceAdd, imV]
    clear hG hall d5 d10 d15 d17 d18
    obtain ⟨gy, gu, gv, gf⟩ := env
    dsimp only at hIS ⊢
    have HIS := Lib.hid hIS
    clear hIS
    go_wp2_with fail
    refine (tape_Next g A n c a L 256 w7 HIS.out.tape HOK.out (by omega) (by omega) (by omega)).mono ?_
    rintro e w8 ⟨rfl, mw8, hww8⟩
    have HI8 : Hid (IS w g w.heap.size gf gy gu gv A n c (a + 1) L s P Q (List.replicate P 0) (List.replicate Q 0) (List.replicate Q 0) w8) := Lib.hid (by rw [hww8]; exact HIS.out.next mw8 _ (by omega))
    have hbra := nxt_lt L (a) (n := 256) (by omega)
    generalize nxt L (a) 256 = ra at *
    clear hww8
    go_wp2_with fail
    refine (tape_Next g A n c (a + 1) L 17 w8 HI8.out.tape HOK.out (by omega) (by omega) (by omega)).mono ?_
    rintro e w9 ⟨rfl, mw9, hww9⟩
    have HI9 : Hid (IS w g w.heap.size gf gy gu gv A n c ((a + 1) + 1) L s P Q (List.replicate P 0) (List.replicate Q 0) (List.replicate Q 0) w9) := Lib.hid (by rw [hww9]; exact HI8.out.next mw9 _ (by omega))
    have hbrb := nxt_lt L ((a + 1)) (n := 17) (by omega)
    generalize nxt L ((a + 1)) 17 = rb at *
    clear hww9
    go_wp2_with fail
    refine (tape_Next g A n c (a + 1 + 1) L 9 w9 HI9.out.tape HOK.out (by omega) (by omega) (by omega)).mono ?_
    rintro e w10 ⟨rfl, mw10, hww10⟩
    have HI10 : Hid (IS w g w.heap.size gf gy gu gv A n c ((a + 1 + 1) + 1) L s P Q (List.replicate P 0) (List.replicate Q 0) (List.replicate Q 0) w10) := Lib.hid (by rw [hww10]; exact HI9.out.next mw10 _ (by omega))
    have hbrc := nxt_lt L ((a + 1 + 1)) (n := 9) (by omega)
    generalize nxt L ((a + 1 + 1)) 9 = rc at *
    clear hww10
    obtain ⟨f0, f1, f2, f3, f4⟩ := HI10.out.fcells
    go_wp2_with fail
    go_loopw [11] (fun i wr => ∃ (k : Nat) (ly : List Int), k ≤ P ∧ i = .int .i64 (k : Int) ∧ IS w g w.heap.size gf gy gu gv A n c (a + 1 + 1 + 1) L s P Q ly (List.replicate Q 0) (List.replicate Q 0) wr) (fun i _ => P - (intOf i).toNat)
    case atStart => exact ⟨0, _, Nat.zero_le _, rfl, HI10.out⟩
    case round =>
      clear f0 f1 f2 f3 f4
      obtain ⟨kk, ly, hk, rfl, hI⟩ := hrel
      obtain ⟨f0, f1, f2, f3, f4⟩ := hI.fcells
      have HI := Lib.hid hI
      clear hI
      by_cases hlt : kk < P
      · have i0 : (0 : Int) ≤ (kk : Int) := by omega
        have i1 : (kk : Int) < (P : Int) := by omega
        obtain ⟨r, hr⟩ : ∃ r, kk % s = r := ⟨_, rfl⟩
        obtain ⟨q, hq⟩ : ∃ q, kk / s = q := ⟨_, rfl⟩
        have hrs : r < s := by rw [← hr]; exact Nat.mod_lt _ hs0
        have hqk : q ≤ kk := by rw [← hq]; exact Nat.div_le_self _ _
        have t1 : (kk : Int).tmod (s : Int) = (r : Int) := by rw [Int.tmod_eq_emod_of_nonneg (by omega), ← hr]; exact (Int.natCast_emod kk s).symm
        have t2 : (kk : Int) % (s : Int) = (r : Int) := by rw [← hr]; exact (Int.natCast_emod kk s).symm
        have t3 : (kk : Int).tdiv (s : Int) = (q : Int) := by rw [Int.tdiv_eq_ediv_of_nonneg (by omega), ← hq]; exact (Int.natCast_ediv kk s).symm
        have t4 : (kk : Int) / (s : Int) = (q : Int) := by rw [← hq]; exact (Int.natCast_ediv kk s).symm
        have z1 : ¬ (s : Int) = 0 := by omega
        have z2 : ¬ s = 0 := by omega
        have z3 : ((s : Int) == 0) = false := by simp; omega
        obtain ⟨m1, hm1⟩ : ∃ m, r * rb = m := ⟨_, rfl⟩
        obtain ⟨m3, hm3⟩ : ∃ m, q * rc = m := ⟨_, rfl⟩
        have b1 : m1 ≤ 32 * 17 := by rw [← hm1]; exact Nat.mul_le_mul (by omega) (by omega)
        have b3 : m3 ≤ 1024 * 9 := by rw [← hm3]; exact Nat.mul_le_mul (by omega) (by omega)
        obtain ⟨m2, hm2⟩ : ∃ m, ra + m1 = m := ⟨_, rfl⟩
        obtain ⟨m4, hm4⟩ : ∃ m, m2 + m3 = m := ⟨_, rfl⟩
        have e1 : (r : Int) * (rb : Int) = (m1 : Int) := by rw [← hm1]; exact (Int.natCast_mul _ _).symm
        have e3 : (q : Int) * (rc : Int) = (m3 : Int) := by rw [← hm3]; exact (Int.natCast_mul _ _).symm
        have e2 : (ra : Int) + (m1 : Int) = (m2 : Int) := by omega
        have e4 : (m2 : Int) + (m3 : Int) = (m4 : Int) := by omega
        have w1 : IntKind.i64.wrap (m1 : Int) = (m1 : Int) := IntWalk.i64_in _ (by omega)
        have w2 : IntKind.i64.wrap (m2 : Int) = (m2 : Int) := IntWalk.i64_in _ (by omega)
        have w3 : IntKind.i64.wrap (m3 : Int) = (m3 : Int) := IntWalk.i64_in _ (by omega)
        have w4 : IntKind.i64.wrap (m4 : Int) = (m4 : Int) := IntWalk.i64_in _ (by omega)
        have w5 : IntKind.i64.wrap (q : Int) = (q : Int) := IntWalk.i64_in _ (by omega)
        clear hr hq hm1 hm2 hm3 hm4
        go_upto_region 6 with fail
        refine wp_region_fixedW (im6 gf gy P kk s ra rb rc r m1 m2 q m3 m4) (fun D W => IS w g w.heap.size gf gy gu gv A n c (a + 1 + 1 + 1) L s P Q (if D 18 = true then ly.set kk (IntKind.u8.wrap (m4 : Int)) else ly) (List.replicate Q 0) (List.replicate Q 0) W) (by kernel_rfl) (by kernel_rfl) (by kernel_rfl) ?h0 ?hstep ?hend
        case h0 => exact HI.out.drew
        case hstep =>
          intro k o ho D ac wx fr hG hcl hDi hpre
          have c2 := hG.fcells.2.2.1
          have o1 : ac.tmps[1]?.getD undef = .int .i64 (s : Int) := fr.oldT 1 rfl
          have o7 : ac.tmps[7]?.getD undef = .pointer (some ⟨gf, 0, none⟩) := fr.oldT 7 rfl
          have o8 : ac.tmps[8]?.getD undef = .int .i64 (ra : Int) := fr.oldT 8 rfl
          have o9 : ac.tmps[9]?.getD undef = .int .i64 (rb : Int) := fr.oldT 9 rfl
          have o10 : ac.tmps[10]?.getD undef = .int .i64 (rc : Int) := fr.oldT 10 rfl
          have o11 : ac.tmps[11]?.getD undef = .int .i64 (kk : Int) := fr.oldT 11 rfl
          have hkn : k < 19 := (List.getElem?_eq_some_iff.1 ho).1
          rcases (show k = 0 ∨ k = 1 ∨ k = 2 ∨ k = 3 ∨ k = 4 ∨ k = 5 ∨ k = 6 ∨ k = 7 ∨ k = 8 ∨ k = 9 ∨ k = 10 ∨ k = 11 ∨ k = 12 ∨ k = 13 ∨ k = 14 ∨ k = 15 ∨ k = 16 ∨ k = 17 ∨ k = 18 by omega) with rfl | rfl | rfl | rfl | rfl | rfl | rfl | rfl | rfl | rfl | rfl | rfl | rfl | rfl | rfl | rfl | rfl | rfl | rfl
          all_goals (simp only [List.getElem?_cons_zero, List.getElem?_cons_succ, Option.some.injEq] at ho; subst ho)
          · refine ⟨true, rfl, fun _ => wp_value (w' := wx) ?_ ⟨rfl, hG⟩, (fun h => by cases h)⟩
            simp [execOp, o7, im6, go_sem]
          · have f0 := fr.atT 0 (hpre ⟨0, .data⟩ (by simp) rfl) rfl
            refine ⟨true, rfl, fun _ => wp_value (w' := wx) ?_ ⟨rfl, hG⟩, (fun h => by cases h)⟩
            simp [execOp, f0, im6, go_sem, c2]
          · refine ⟨true, rfl, fun _ => wp_value (w' := wx) ?_ ⟨rfl, hG⟩, (fun h => by cases h)⟩
            simp [execOp, o11, im6, go_sem]
          · refine ⟨true, rfl, fun _ => wp_value (w' := wx) ?_ ⟨rfl, hG⟩, (fun h => by cases h)⟩
            simp [execOp, o8, im6, go_sem]
          · refine ⟨true, rfl, fun _ => wp_value (w' := wx) ?_ ⟨rfl, hG⟩, (fun h => by cases h)⟩
            simp [execOp, o11, im6, go_sem]
          · refine ⟨true, rfl, fun _ => wp_value (w' := wx) ?_ ⟨rfl, hG⟩, (fun h => by cases h)⟩
            simp [execOp, o1, im6, go_sem]
          · have f4 := fr.atT 4 (hpre ⟨4, .data⟩ (by simp) rfl) rfl
            have f5 := fr.atT 5 (hpre ⟨5, .data⟩ (by simp) rfl) rfl
            refine ⟨true, rfl, fun _ => wp_value (w' := wx) ?_ ⟨rfl, hG⟩, (fun h => by cases h)⟩
            simp [execOp, f4, f5, im6, go_sem, z1, z2, z3, t1, t2]
          · refine ⟨true, rfl, fun _ => wp_value (w' := wx) ?_ ⟨rfl, hG⟩, (fun h => by cases h)⟩
            simp [execOp, o9, im6, go_sem]
          · have f6 := fr.atT 6 (hpre ⟨6, .data⟩ (by simp) rfl) rfl
            have f7 := fr.atT 7 (hpre ⟨7, .data⟩ (by simp) rfl) rfl
            refine ⟨true, rfl, fun _ => wp_value (w' := wx) ?_ ⟨rfl, hG⟩, (fun h => by cases h)⟩
            simp [execOp, f6, f7, im6, go_sem, e1, w1]
          · have f3 := fr.atT 3 (hpre ⟨3, .data⟩ (by simp) rfl) rfl
            have f8 := fr.atT 8 (hpre ⟨8, .data⟩ (by simp) rfl) rfl
            refine ⟨true, rfl, fun _ => wp_value (w' := wx) ?_ ⟨rfl, hG⟩, (fun h => by cases h)⟩
            simp [execOp, f3, f8, im6, go_sem, e2, w2]
          · refine ⟨true, rfl, fun _ => wp_value (w' := wx) ?_ ⟨rfl, hG⟩, (fun h => by cases h)⟩
            simp [execOp, o11, im6, go_sem]
          · refine ⟨true, rfl, fun _ => wp_value (w' := wx) ?_ ⟨rfl, hG⟩, (fun h => by cases h)⟩
            simp [execOp, o1, im6, go_sem]
          · have f10 := fr.atT 10 (hpre ⟨10, .data⟩ (by simp) rfl) rfl
            have f11 := fr.atT 11 (hpre ⟨11, .data⟩ (by simp) rfl) rfl
            refine ⟨true, rfl, fun _ => wp_value (w' := wx) ?_ ⟨rfl, hG⟩, (fun h => by cases h)⟩
            simp [execOp, f10, f11, im6, go_sem, z1, z2, z3, t3, t4, w5]
          · refine ⟨true, rfl, fun _ => wp_value (w' := wx) ?_ ⟨rfl, hG⟩, (fun h => by cases h)⟩
            simp [execOp, o10, im6, go_sem]
          · have f12 := fr.atT 12 (hpre ⟨12, .data⟩ (by simp) rfl) rfl
            have f13 := fr.atT 13 (hpre ⟨13, .data⟩ (by simp) rfl) rfl
            refine ⟨true, rfl, fun _ => wp_value (w' := wx) ?_ ⟨rfl, hG⟩, (fun h => by cases h)⟩
            simp [execOp, f12, f13, im6, go_sem, e3, w3]
          · have f9 := fr.atT 9 (hpre ⟨9, .data⟩ (by simp) rfl) rfl
            have f14 := fr.atT 14 (hpre ⟨14, .data⟩ (by simp) rfl) rfl
            refine ⟨true, rfl, fun _ => wp_value (w' := wx) ?_ ⟨rfl, hG⟩, (fun h => by cases h)⟩
            simp [execOp, f9, f14, im6, go_sem, e4, w4]
          · have f15 := fr.atT 15 (hpre ⟨15, .data⟩ (by simp) rfl) rfl
            refine ⟨true, rfl, fun _ => wp_value (w' := wx) ?_ ⟨rfl, hG⟩, (fun h => by cases h)⟩
            simp [execOp, f15, im6, go_sem]
          · have f1 := fr.atT 1 (hpre ⟨1, .data⟩ (by simp) rfl) rfl
            have f2 := fr.atT 2 (hpre ⟨2, .data⟩ (by simp) rfl) rfl
            refine ⟨true, rfl, fun _ => wp_value (w' := wx) ?_ ⟨rfl, hG⟩, (fun h => by cases h)⟩
            simp [execOp, f1, f2, im6, go_sem, i0, i1, hlt]
          · have f17 := fr.atT 17 (hpre ⟨17, .data⟩ (by simp) rfl) rfl
            have f16 := fr.atT 16 (hpre ⟨16, .data⟩ (by simp) rfl) rfl
            refine ⟨true, rfl, fun _ => ?_, (fun h => by cases h)⟩
            have hI := hG
            rw [hDi] at hI
            obtain ⟨x, cx, cf, cl⟩ := IS.ycell (ly := ly) hI hlt
            refine wp_skipF (w' := wx.setCell ⟨gy, kk, none⟩ (.int .u8 (IntKind.u8.wrap (m4 : Int)))) ?_ ⟨rfl, IS.setY (ly := ly) hI kk _ (u8_rng _).1 (u8_rng _).2⟩
            simp [execOp, f17, f16, im6, go_sem, cx, cf]
        case hend =>
          intro D w11 hG hall
          have d18 := hall 18 (by decide)
          rw [d18] at hG
          have HG := Lib.hid hG
          simp only [putsU, Act.put, List.setIfInBounds_toArray, List.set_cons_succ, List.set_cons_zero, Nat.zero_add, Nat.reduceAdd, im6]
          clear hG hall d18
          go_wp2_with fail
          go_roundw
          case rel => exact ⟨kk + 1, _, by omega, by go_num, HG.out⟩
          case measure => (simp [intOf]; try omega)
      · have hge : decide ((kk : Int) < (P : Int)) = false := decide_eq_false (by omega)
        have hge2 : ¬ (kk : Int) < (P : Int) := by omega
        clear hlt
        go_wp2_with fail
        go_loopw [12] (fun i wr => ∃ (k : Nat) (ly lu lv : List Int), k ≤ Q ∧ i = .int .i64 (k : Int) ∧ IS w g w.heap.size gf gy gu gv A n c (a + 1 + 1 + 1) L s P Q ly lu lv wr) (fun i _ => Q - (intOf i).toNat)
        case atStart => exact ⟨0, _, _, _, Nat.zero_le _, rfl, HI.out⟩
        case round =>
          clear f0 f1 f2 f3 f4 hge hge2 hk HI
          obtain ⟨k2, ly2, lu, lv, hk2, rfl, hI⟩ := hrel
          obtain ⟨f0, f1, f2, f3, f4⟩ := hI.fcells
          by_cases hlt2 : k2 < Q
          · have i0 : (0 : Int) ≤ (k2 : Int) := by omega
            have i1 : (k2 : Int) < (Q : Int) := by omega
            obtain ⟨d4, hd4⟩ : ∃ d, ra / 4 = d := ⟨_, rfl⟩
            have t1 : (ra : Int).tdiv 4 = (d4 : Int) := by rw [Int.tdiv_eq_ediv_of_nonneg (by omega)]; omega
            have t2 : (ra : Int) / 4 = (d4 : Int) := by omega
            obtain ⟨k7, hk7⟩ : ∃ d, k2 % 7 = d := ⟨_, rfl⟩
            have t3 : (k2 : Int).tmod 7 = (k7 : Int) := by rw [Int.tmod_eq_emod_of_nonneg (by omega)]; omega
            have t4 : (k2 : Int) % 7 = (k7 : Int) := by omega
            obtain ⟨k5, hk5⟩ : ∃ d, k2 % 5 = d := ⟨_, rfl⟩
            have t5 : (k2 : Int).tmod 5 = (k5 : Int) := by rw [Int.tmod_eq_emod_of_nonneg (by omega)]; omega
            have t6 : (k2 : Int) % 5 = (k5 : Int) := by omega
            obtain ⟨p7, hp7⟩ : ∃ m, k7 * rc = m := ⟨_, rfl⟩
            obtain ⟨p5, hp5⟩ : ∃ m, k5 * rb = m := ⟨_, rfl⟩
            have b7 : p7 ≤ 7 * 9 := by rw [← hp7]; exact Nat.mul_le_mul (by omega) (by omega)
            have b5 : p5 ≤ 5 * 17 := by rw [← hp5]; exact Nat.mul_le_mul (by omega) (by omega)
            have e7 : (k7 : Int) * (rc : Int) = (p7 : Int) := by rw [← hp7]; exact (Int.natCast_mul _ _).symm
            have e5 : (k5 : Int) * (rb : Int) = (p5 : Int) := by rw [← hp5]; exact (Int.natCast_mul _ _).symm
            have w7a : IntKind.i64.wrap (p7 : Int) = (p7 : Int) := IntWalk.i64_in _ (by omega)
            have w5a : IntKind.i64.wrap (p5 : Int) = (p5 : Int) := IntWalk.i64_in _ (by omega)
            have w4a : IntKind.i64.wrap (d4 : Int) = (d4 : Int) := IntWalk.i64_in _ (by omega)
            have hd4b : d4 ≤ 63 := by omega
            obtain ⟨v1, hv1⟩ : ∃ v, 128 + (d4 : Int) = v := ⟨_, rfl⟩
            have w1a : IntKind.i64.wrap (128 + (d4 : Int)) = v1 := by rw [← hv1]; exact IntWalk.i64_in _ (by omega)
            obtain ⟨v2, hv2⟩ : ∃ v, v1 + (p7 : Int) = v := ⟨_, rfl⟩
            have w2a : IntKind.i64.wrap (v1 + (p7 : Int)) = v2 := by rw [← hv2]; exact IntWalk.i64_in _ (by omega)
            obtain ⟨v3, hv3⟩ : ∃ v, 128 - (d4 : Int) = v := ⟨_, rfl⟩
            have w3a : IntKind.i64.wrap (128 - (d4 : Int)) = v3 := by rw [← hv3]; exact IntWalk.i64_in _ (by omega)
            obtain ⟨v4, hv4⟩ : ∃ v, v3 + (p5 : Int) = v := ⟨_, rfl⟩
            have w4b : IntKind.i64.wrap (v3 + (p5 : Int)) = v4 := by rw [← hv4]; exact IntWalk.i64_in _ (by omega)
            obtain ⟨u0, uc, uf, ul⟩ := hI.ucell hlt2
            have hIU := fun x (h : 0 ≤ x ∧ x ≤ 255) => hI.setU k2 x h.1 h.2
            have HIU := Lib.hid hIU
            clear hd4 hk7 hk5 hp7 hp5 hIU hI
            go_upto_region 11 with fail
            have hI3 := HIU.out v2 (by omega)
            clear f0 f1 f2 f3 f4 uc uf ul
            generalize wr.setCell ⟨gu, k2, none⟩ (.int .u8 v2) = W3 at *
            obtain ⟨f0, f1, f2, f3, f4⟩ := hI3.fcells
            obtain ⟨u1, vc, vf, vl⟩ := hI3.vcell hlt2
            have HI3 := Lib.hid (hI3.setV k2 v4 (by omega) (by omega))
            clear hI3
            go_wp2_with fail
            go_roundw
            case rel => exact ⟨k2 + 1, _, _, _, by omega, by go_num, HI3.out⟩
            case measure => (simp [intOf]; try omega)
          · have hge : decide ((k2 : Int) < (Q : Int)) = false := decide_eq_false (by omega)
            have hge2 : ¬ (k2 : Int) < (Q : Int) := by omega
            have HI2 := Lib.hid hI
            clear hlt2 hI
            go_wp2_with fail
            refine (tape_Next g A n c (a + 1 + 1 + 1) L 5 wr HI2.out.tape HOK.out (by omega) (by omega) (by omega)).mono ?_
            rintro e w12 ⟨rfl, mw12, hww12⟩
            have HI12 : Hid (IS w g w.heap.size gf gy gu gv A n c ((a + 1 + 1 + 1) + 1) L s P Q ly2 lu lv w12) := Lib.hid (by rw [hww12]; exact HI2.out.next mw12 _ (by omega))
            have hbrk := nxt_lt L ((a + 1 + 1 + 1)) (n := 5) (by omega)
            generalize nxt L ((a + 1 + 1 + 1)) 5 = rk at *
            clear hww12
            go_wp2_with fail
            go_loopw [13] (fun i wr => ∃ (k a2 : Nat) (ly : List Int), k ≤ 4 ∧ i = .int .i64 (k : Int) ∧ a2 + 2 * k ≤ a + 12 ∧ IS w g w.heap.size gf gy gu gv A n c a2 L s P Q ly lu lv wr) (fun i _ => (intOf i).toNat)
            case atStart => exact ⟨rk, a + 1 + 1 + 1 + 1, _, by omega, rfl, by omega, HI12.out⟩
            case round =>
              clear f0 f1 f2 f3 f4 hge hge2 hk2 HI2 HI12
              obtain ⟨k3, a2, ly, hk3, rfl, ha2, hI⟩ := hrel
              obtain ⟨f0, f1, f2, f3, f4⟩ := hI.fcells
              have HI := Lib.hid hI
              clear hI
              by_cases hpos : 0 < k3
              · have i0 : (0 : Int) < (k3 : Int) := by omega
                have i1 : decide ((0 : Int) < (k3 : Int)) = true := decide_eq_true i0
                obtain ⟨x1, hx1⟩ : ∃ x, nxt L a2 P = x := ⟨_, rfl⟩
                obtain ⟨x2, hx2⟩ : ∃ x, nxt L (a2 + 1) 256 = x := ⟨_, rfl⟩
                have hP0' : 0 < P := by rcases HPb.out with h | h <;> omega
                have j2 : x1 < P := by rw [← hx1]; exact nxt_lt L a2 hP0'
                have j0 : (0 : Int) ≤ (x1 : Int) := by omega
                have j1 : (x1 : Int) < (P : Int) := by omega
                have HX1 := Lib.hid hx1
                have HX2 := Lib.hid hx2
                clear hx1 hx2
                go_upto_region 15 with fail
                refine wp_region_fixedW (im15 gf gy g P x1 x2) (fun D W => IS w g w.heap.size gf gy gu gv A n c (if D 8 = true then a2 + 2 else if D 6 = true then a2 + 1 else a2) L s P Q (if D 11 = true then ly.set x1 (IntKind.u8.wrap (x2 : Int)) else ly) lu lv W) (by kernel_rfl) (by kernel_rfl) (by kernel_rfl) ?h0 ?hstep ?hend
                case h0 => exact HI.out.drew
                case hstep =>
                  intro k o ho D ac wx fr hG hcl hDi hpre
                  have c2 := hG.fcells.2.2.1
                  have o0 : ac.tmps[0]?.getD undef = .pointer (some ⟨g, 0, none⟩) := fr.oldT 0 rfl
                  have o7 : ac.tmps[7]?.getD undef = .pointer (some ⟨gf, 0, none⟩) := fr.oldT 7 rfl
                  have hkn : k < 12 := (List.getElem?_eq_some_iff.1 ho).1
                  rcases (show k = 0 ∨ k = 1 ∨ k = 2 ∨ k = 3 ∨ k = 4 ∨ k = 5 ∨ k = 6 ∨ k = 7 ∨ k = 8 ∨ k = 9 ∨ k = 10 ∨ k = 11 by omega) with rfl | rfl | rfl | rfl | rfl | rfl | rfl | rfl | rfl | rfl | rfl | rfl
                  all_goals (simp only [List.getElem?_cons_zero, List.getElem?_cons_succ, Option.some.injEq] at ho; subst ho)
                  · refine ⟨true, rfl, fun _ => wp_value (w' := wx) ?_ ⟨rfl, hG⟩, (fun h => by cases h)⟩
                    simp [execOp, o7, im15, go_sem]
                  · have f0 := fr.atT 0 (hpre ⟨0, .data⟩ (by simp) rfl) rfl
                    refine ⟨true, rfl, fun _ => wp_value (w' := wx) ?_ ⟨rfl, hG⟩, (fun h => by cases h)⟩
                    simp [execOp, f0, im15, go_sem, c2]
                  · refine ⟨true, rfl, fun _ => wp_value (w' := wx) ?_ ⟨rfl, hG⟩, (fun h => by cases h)⟩
                    simp [execOp, o0, im15, go_sem]
                  · refine ⟨true, rfl, fun _ => wp_value (w' := wx) ?_ ⟨rfl, hG⟩, (fun h => by cases h)⟩
                    simp [execOp, o7, im15, go_sem]
                  · have f3 := fr.atT 3 (hpre ⟨3, .data⟩ (by simp) rfl) rfl
                    refine ⟨true, rfl, fun _ => wp_value (w' := wx) ?_ ⟨rfl, hG⟩, (fun h => by cases h)⟩
                    simp [execOp, f3, im15, go_sem, c2]
                  · have f4 := fr.atT 4 (hpre ⟨4, .data⟩ (by simp) rfl) rfl
                    refine ⟨true, rfl, fun _ => wp_value (w' := wx) ?_ ⟨rfl, hG⟩, (fun h => by cases h)⟩
                    simp [execOp, f4, im15, go_sem]
                  · have f2 := fr.atT 2 (hpre ⟨2, .data⟩ (by simp) rfl) rfl
                    have e2 := fr.at_ 2 (hpre ⟨2, .data⟩ (by simp) rfl) rfl
                    have f5 := fr.atT 5 (hpre ⟨5, .data⟩ (by simp) rfl) rfl
                    have e5 := fr.at_ 5 (hpre ⟨5, .data⟩ (by simp) rfl) rfl
                    refine ⟨true, rfl, fun _ => ?_, (fun h => by cases h)⟩
                    have n8 : D 8 = false := by
                      cases h : D 8 with
                      | false => rfl
                      | true => have h2 := hcl 8 _ rfl h ⟨6, .chain⟩ (by simp) rfl; rw [hDi] at h2; cases h2
                    have n11 : D 11 = false := by
                      cases h : D 11 with
                      | false => rfl
                      | true => have h2 := hcl 10 _ rfl (hcl 11 _ rfl h ⟨10, .data⟩ (by simp) rfl) ⟨6, .data⟩ (by simp) rfl; rw [hDi] at h2; cases h2
                    have hI := hG
                    rw [hDi, n8, n11] at hI
                    have hI2 : IS w g w.heap.size gf gy gu gv A n c a2 L s P Q ly lu lv wx := hI
                    refine wp_called (f := 21) (args := #[.pointer (some ⟨g, 0, none⟩), .int .i64 (P : Int)]) ?_ (tape_Next g A n c a2 L P wx hI2.tape HOK.out (by omega) (by omega) (by omega)) ?_
                    · simp [execOp, resolve, invoke, f2, e2, f5, e5, im15, go_sem]
                    · rintro e w' ⟨rfl, m8, rfl⟩
                      refine ⟨_, rfl, by rw [HX1.out]; rfl, ?_⟩
                      have h3 := hI2.next m8 ((a2 : Int) + 1) (by omega)
                      show IS w g w.heap.size gf gy gu gv A n c (if D 8 = true then a2 + 2 else a2 + 1) L s P Q (if D 11 = true then _ else ly) lu lv _
                      rw [n8, n11]
                      exact h3
                  · refine ⟨true, rfl, fun _ => wp_value (w' := wx) ?_ ⟨rfl, hG⟩, (fun h => by cases h)⟩
                    simp [execOp, o0, im15, go_sem]
                  · have f7 := fr.atT 7 (hpre ⟨7, .data⟩ (by simp) rfl) rfl
                    have e7 := fr.at_ 7 (hpre ⟨7, .data⟩ (by simp) rfl) rfl
                    refine ⟨true, rfl, fun _ => ?_, (fun h => by cases h)⟩
                    have d6 : D 6 = true := hpre ⟨6, .chain⟩ (by simp) rfl
                    have n11 : D 11 = false := by
                      cases h : D 11 with
                      | false => rfl
                      | true => have h2 := hcl 9 _ rfl (hcl 11 _ rfl h ⟨9, .data⟩ (by simp) rfl) ⟨8, .data⟩ (by simp) rfl; rw [hDi] at h2; cases h2
                    have hI := hG
                    rw [hDi, d6, n11] at hI
                    have hI2 : IS w g w.heap.size gf gy gu gv A n c (a2 + 1) L s P Q ly lu lv wx := hI
                    refine wp_called (f := 21) (args := #[.pointer (some ⟨g, 0, none⟩), .int .i64 ((256 : Nat) : Int)]) ?_ (tape_Next g A n c (a2 + 1) L 256 wx hI2.tape HOK.out (by omega) (by omega) (by omega)) ?_
                    · simp [execOp, resolve, invoke, f7, e7, im15, go_sem]
                    · rintro e w' ⟨rfl, m8, rfl⟩
                      refine ⟨_, rfl, by rw [HX2.out]; rfl, ?_⟩
                      have h3 := hI2.next m8 (((a2 + 1 : Nat) : Int) + 1) (by omega)
                      show IS w g w.heap.size gf gy gu gv A n c (if true = true then a2 + 2 else _) L s P Q (if D 11 = true then _ else ly) lu lv _
                      rw [n11]
                      exact h3
                  · have f8 := fr.atT 8 (hpre ⟨8, .data⟩ (by simp) rfl) rfl
                    refine ⟨true, rfl, fun _ => wp_value (w' := wx) ?_ ⟨rfl, hG⟩, (fun h => by cases h)⟩
                    simp [execOp, f8, im15, go_sem]
                  · have f1 := fr.atT 1 (hpre ⟨1, .data⟩ (by simp) rfl) rfl
                    have f6 := fr.atT 6 (hpre ⟨6, .data⟩ (by simp) rfl) rfl
                    refine ⟨true, rfl, fun _ => wp_value (w' := wx) ?_ ⟨rfl, hG⟩, (fun h => by cases h)⟩
                    simp [execOp, f1, f6, im15, go_sem, j0, j1, j2]
                  · have f10 := fr.atT 10 (hpre ⟨10, .data⟩ (by simp) rfl) rfl
                    have f9 := fr.atT 9 (hpre ⟨9, .data⟩ (by simp) rfl) rfl
                    refine ⟨true, rfl, fun _ => ?_, (fun h => by cases h)⟩
                    have hI := hG
                    have d9 : D 9 = true := hpre ⟨9, .data⟩ (by simp) rfl
                    have d8 : D 8 = true := hcl 9 _ rfl d9 ⟨8, .data⟩ (by simp) rfl
                    rw [hDi, d8] at hI
                    have hI2 : IS w g w.heap.size gf gy gu gv A n c (a2 + 2) L s P Q ly lu lv wx := hI
                    obtain ⟨x, cx, cf, cl⟩ := hI2.ycell j2
                    refine wp_skipF (w' := wx.setCell ⟨gy, x1, none⟩ (.int .u8 (IntKind.u8.wrap (x2 : Int)))) ?_ ⟨rfl, ?_⟩
                    · simp [execOp, f10, f9, im15, go_sem, cx, cf]
                    · show IS w g w.heap.size gf gy gu gv A n c (if D 8 = true then a2 + 2 else _) L s P Q (if true = true then _ else ly) lu lv _
                      rw [d8]
                      exact hI2.setY x1 _ (u8_rng _).1 (u8_rng _).2
                case hend =>
                  intro D w11 hG hall
                  have d6 := hall 6 (by decide)
                  have d8 := hall 8 (by decide)
                  have d11 := hall 11 (by decide)
                  rw [d6, d8, d11] at hG
                  have HG := Lib.hid hG
                  simp only [putsU, Act.put, List.setIfInBounds_toArray, List.set_cons_succ, List.set_cons_zero, Nat.zero_add, Nat.reduceAdd, im15]
                  clear hG hall d6 d8 d11
                  have hsub : IntKind.i64.wrap ((k3 : Int) - 1) = ((k3 - 1 : Nat) : Int) := by rw [IntWalk.i64_in _ (by omega)]; omega
                  go_wp2_with fail
                  go_roundw
                  case rel => exact ⟨k3 - 1, a2 + 2, _, by omega, rfl, by omega, HG.out⟩
                  case measure => (simp [intOf]; try omega)
              · have hz : k3 = 0 := by omega
                subst hz
                have hR := HI.out
                obtain ⟨g0, g1, g2, g3, g4⟩ := hR.rb.cells5
                have gl := hR.rb.lt
                have h0 := hR.rb.frozen 0
                have h1 := hR.rb.frozen 1
                have h2 := hR.rb.frozen 2
                have h3 := hR.rb.frozen 3
                have h4 := hR.rb.frozen 4
                have bz := hR.rb.set5 (.int .i64 (s : Int)) (.int .i64 (s : Int)) (.slice (some ⟨gy, 0, none⟩) P P) (.slice (some ⟨gu, 0, none⟩) Q Q) (.slice (some ⟨gv, 0, none⟩) Q Q)
                have e := hR.ne
                have HE := Lib.hid e
                have en := e.g0
                have hz := hR
                have ty := bk_set5 (g' := w.heap.size) (v0 := .int .i64 (s : Int)) (v1 := .int .i64 (s : Int)) (v2 := .slice (some ⟨gy, 0, none⟩) P P) (v3 := .slice (some ⟨gu, 0, none⟩) Q Q) (v4 := .slice (some ⟨gv, 0, none⟩) Q Q) hR.yb e.ry.symm
                have tu := bk_set5 (g' := w.heap.size) (v0 := .int .i64 (s : Int)) (v1 := .int .i64 (s : Int)) (v2 := .slice (some ⟨gy, 0, none⟩) P P) (v3 := .slice (some ⟨gu, 0, none⟩) Q Q) (v4 := .slice (some ⟨gv, 0, none⟩) Q Q) hR.ub e.ru.symm
                have tv := bk_set5 (g' := w.heap.size) (v0 := .int .i64 (s : Int)) (v1 := .int .i64 (s : Int)) (v2 := .slice (some ⟨gy, 0, none⟩) P P) (v3 := .slice (some ⟨gu, 0, none⟩) Q Q) (v4 := .slice (some ⟨gv, 0, none⟩) Q Q) hR.vb e.rv.symm
                have tt := ((((hR.tb.far (a := ⟨w.heap.size, 0, none⟩) (by dsimp only; omega) (.int .i64 (s : Int))).far (a := ⟨w.heap.size, 1, none⟩) (by dsimp only; omega) (.int .i64 (s : Int))).far (a := ⟨w.heap.size, 2, none⟩) (by dsimp only; omega) (.slice (some ⟨gy, 0, none⟩) P P)).far (a := ⟨w.heap.size, 3, none⟩) (by dsimp only; omega) (.slice (some ⟨gu, 0, none⟩) Q Q)).far (a := ⟨w.heap.size, 4, none⟩) (by dsimp only; omega) (.slice (some ⟨gv, 0, none⟩) Q Q)
                have ti := ((((hR.ti.setCell (a := ⟨w.heap.size, 0, none⟩) (by dsimp only; omega) (.int .i64 (s : Int))).setCell (a := ⟨w.heap.size, 1, none⟩) (by dsimp only; omega) (.int .i64 (s : Int))).setCell (a := ⟨w.heap.size, 2, none⟩) (by dsimp only; omega) (.slice (some ⟨gy, 0, none⟩) P P)).setCell (a := ⟨w.heap.size, 3, none⟩) (by dsimp only; omega) (.slice (some ⟨gu, 0, none⟩) Q Q)).setCell (a := ⟨w.heap.size, 4, none⟩) (by dsimp only; omega) (.slice (some ⟨gv, 0, none⟩) Q Q)
                have tk := grown_set (grown_set (grown_set (grown_set (grown_set hR.kg (a := ⟨w.heap.size, 0, none⟩) (.inr (Nat.le_refl _)) (.int .i64 (s : Int))) (a := ⟨w.heap.size, 1, none⟩) (.inr (Nat.le_refl _)) (.int .i64 (s : Int))) (a := ⟨w.heap.size, 2, none⟩) (.inr (Nat.le_refl _)) (.slice (some ⟨gy, 0, none⟩) P P)) (a := ⟨w.heap.size, 3, none⟩) (.inr (Nat.le_refl _)) (.slice (some ⟨gu, 0, none⟩) Q Q)) (a := ⟨w.heap.size, 4, none⟩) (.inr (Nat.le_refl _)) (.slice (some ⟨gv, 0, none⟩) Q Q)
                have hy := ty.byt (p := (w.heap.size ≤ ·)) e.y0 hR.yr
                have hu := tu.byt (p := (w.heap.size ≤ ·)) e.u0 hR.ur
                have hv := tv.byt (p := (w.heap.size ≤ ·)) e.v0 hR.vr
                rw [hR.yl] at hy
                rw [hR.ul] at hu
                rw [hR.vl] at hv
                have HZ5 := Lib.hid (show SzF ⟨(s : Int), (s : Int), ly, lu, lv⟩ (s / 2) (s / 2) from by
                  have h1 := HS.out
                  have h2 := HP.out
                  have h3 := HQ.out
                  rcases h1 with rfl | rfl
                  · exact ⟨by omega, by omega, by omega, rfl, rfl, by show ly.length = _; rw [hR.yl, ← h2], by show lu.length = _; rw [hR.ul, ← h3, ← h2], by show lv.length = _; rw [hR.vl, ← h3, ← h2]⟩
                  · exact ⟨by omega, by omega, by omega, rfl, rfl, by show ly.length = _; rw [hR.yl, ← h2], by show lu.length = _; rw [hR.ul, ← h3, ← h2], by show lv.length = _; rw [hR.vl, ← h3, ← h2]⟩)
                have HY5 := Lib.hid hy
                have HU5 := Lib.hid hu
                have HV5 := Lib.hid hv
                have HT5 := Lib.hid tt
                have HI5 := Lib.hid ti
                have HK5 := Lib.hid tk
                have HA5 : Hid (a2 ≤ a + 20) := Lib.hid (by omega)
                have HB5 := Lib.hid bz
                clear hR hz ty tu tv tt ti tk hy hu hv e bz
                go_wp2_with fail
                obtain ⟨y0, y1, y2, y3, y4⟩ := HB5.out.cells5
                clear g0 g1 g2 g3 g4 h0 h1 h2 h3 h4
                show bodyPost _ _ _ _ _ (set5 wr w.heap.size (.int .i64 (s : Int)) (.int .i64 (s : Int)) (.slice (some ⟨gy, 0, none⟩) P P) (.slice (some ⟨gu, 0, none⟩) Q Q) (.slice (some ⟨gv, 0, none⟩) Q Q))
                have KY : Hid (Byt (w.heap.size ≤ ·) (set5 wr w.heap.size (.int .i64 (s : Int)) (.int .i64 (s : Int)) (.slice (some ⟨gy, 0, none⟩) P P) (.slice (some ⟨gu, 0, none⟩) Q Q) (.slice (some ⟨gv, 0, none⟩) Q Q)) (some ⟨gy, 0, none⟩) P ly) := HY5
                have KT : Hid (Bx (set5 wr w.heap.size (.int .i64 (s : Int)) (.int .i64 (s : Int)) (.slice (some ⟨gy, 0, none⟩) P P) (.slice (some ⟨gu, 0, none⟩) Q Q) (.slice (some ⟨gv, 0, none⟩) Q Q)) g 50 #[.slice A n c, .int .i64 (a2 : Int)]) := HT5
                have KI : Hid (Its .i64 (fun b => b ≠ g ∧ b < w.heap.size) (set5 wr w.heap.size (.int .i64 (s : Int)) (.int .i64 (s : Int)) (.slice (some ⟨gy, 0, none⟩) P P) (.slice (some ⟨gu, 0, none⟩) Q Q) (.slice (some ⟨gv, 0, none⟩) Q Q)) A n L) := HI5
                have KK : Hid (w.grownBy (set5 wr w.heap.size (.int .i64 (s : Int)) (.int .i64 (s : Int)) (.slice (some ⟨gy, 0, none⟩) P P) (.slice (some ⟨gu, 0, none⟩) Q Q) (.slice (some ⟨gv, 0, none⟩) Q Q)) (some g)) := HK5
                clear HY5 HT5 HI5 HK5
                generalize set5 wr w.heap.size (.int .i64 (s : Int)) (.int .i64 (s : Int)) (.slice (some ⟨gy, 0, none⟩) P P) (.slice (some ⟨gu, 0, none⟩) Q Q) (.slice (some ⟨gv, 0, none⟩) Q Q) = wz at *
                refine bodyPost_ret (v := .agg #[.int .i64 (s : Int), .int .i64 (s : Int), .slice (some ⟨gy, 0, none⟩) P P, .slice (some ⟨gu, 0, none⟩) Q Q, .slice (some ⟨gv, 0, none⟩) Q Q]) (by simp only [results, Try.results38]; go_simp) rfl ⟨⟨⟨(s : Int), (s : Int), ly, lu, lv⟩, some ⟨gy, 0, none⟩, P, P, some ⟨gu, 0, none⟩, Q, Q, some ⟨gv, 0, none⟩, Q, Q⟩, a2, rfl, HZ5.out, ⟨KY.out, HU5.out, HV5.out, Nat.le_refl _, Nat.le_refl _, Nat.le_refl _⟩, HA5.out, KT.out, KI.out, KK.out⟩
end Go.Proofs.Ytclainbjidajbaa
