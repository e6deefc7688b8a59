/- SetRow of the program. -/
import Derived.Test.YtcboppldclknjaaSrA
namespace Go.Proofs.Ytcboppldclknjaa
open Go.RowKit

set_option maxHeartbeats 8000000 in
theorem plane_SetRow_yes {p p' : Nat → Prop} (v u : Value) (f m : Fr) (my a b : Nat) (w : World) (hf : IsFr p w v f) (hm : IsFr p' w u m) (hcm : CapsOK u) (hh : hasB f 0 my = true) (hvm : validB m = true) (hmW : m.W = f.W) (hmH : m.H = f.H)
    (hW : f.W = ((16 * a : Nat) : Int)) (ha : a ≤ 4) (ha1 : 1 ≤ a) (hH : f.H = ((16 * b : Nat) : Int)) (hb : b ≤ 4) (hyb : my < b) (lY : f.Y.length = (16 * b) * (16 * a)) (lU : f.U.length = (8 * b) * (8 * a)) (lV : f.V.length = (8 * b) * (8 * a)) (sY : m.Y.length = (16 * b) * (16 * a)) (sU : m.U.length = (8 * b) * (8 * a)) (sV : m.V.length = (8 * b) * (8 * a)) :
    Calls Try.prog 39 #[v, .int .i64 my, u] w (RetFc w (rowF f m my, 0)) := by
  have hf0 := hf
  have hm0 := hm
  have bY : f.Y.length ≤ 4096 := by rw [lY]; exact Nat.le_trans (Nat.mul_le_mul (show 16 * b ≤ 64 by omega) (show 16 * a ≤ 64 by omega)) (by omega)
  have bU : f.U.length ≤ 1024 := by rw [lU]; exact Nat.le_trans (Nat.mul_le_mul (show 8 * b ≤ 32 by omega) (show 8 * a ≤ 32 by omega)) (by omega)
  have bV : f.V.length ≤ 1024 := by rw [lV]; exact Nat.le_trans (Nat.mul_le_mul (show 8 * b ≤ 32 by omega) (show 8 * a ≤ 32 by omega)) (by omega)
  obtain ⟨ya, yn, yc, ua, un, uc, va, vn, vc, rfl, hy, hu, hv⟩ := hf
  obtain ⟨za, zn, zc, ta, tn, tc, qa, qn, qc, rfl, hz, ht, hq⟩ := hm
  obtain ⟨hc1, hc2, hc3⟩ := hcm.out
  have f1 : 16 * my * (16 * a) + 16 * (16 * a) ≤ (16 * b) * (16 * a) := by
    have : (16 * my + 16) * (16 * a) ≤ (16 * b) * (16 * a) := Nat.mul_le_mul_right _ (by omega)
    rwa [Nat.add_mul] at this
  have f2 : 8 * my * (8 * a) + 8 * (8 * a) ≤ (8 * b) * (8 * a) := by
    have : (8 * my + 8) * (8 * a) ≤ (8 * b) * (8 * a) := Nat.mul_le_mul_right _ (by omega)
    rwa [Nat.add_mul] at this
  have RY := Lib.hid hy.rng
  have RU := Lib.hid hu.rng
  have RV := Lib.hid hv.rng
  obtain ⟨cw, hcw⟩ : ∃ cw, cw = 16 * a := ⟨_, rfl⟩
  obtain ⟨L, hL⟩ : ∃ L, L = 16 * cw := ⟨_, rfl⟩
  obtain ⟨E, hE⟩ : ∃ E, E = 8 * cw := ⟨_, rfl⟩
  obtain ⟨C, hC⟩ : ∃ C, C = E / 2 := ⟨_, rfl⟩
  obtain ⟨s, hs⟩ : ∃ s, s = L * my := ⟨_, rfl⟩
  obtain ⟨t, ht'⟩ : ∃ t, t = L * (my + 1) := ⟨_, rfl⟩
  obtain ⟨s2, hs2⟩ : ∃ s, s = C * my := ⟨_, rfl⟩
  obtain ⟨t2, ht2⟩ : ∃ t, t = C * (my + 1) := ⟨_, rfl⟩
  have hC' : C = 8 * (8 * a) := by omega
  have k1 : s = 16 * my * (16 * a) := by rw [hs, hL, Nat.mul_right_comm, hcw]
  have k2 : t = s + L := by rw [ht', hs, Nat.mul_add, Nat.mul_one]
  have k3 : s2 = 8 * my * (8 * a) := by rw [hs2, hC', Nat.mul_right_comm]
  have k4 : t2 = s2 + C := by rw [ht2, hs2, Nat.mul_add, Nat.mul_one]
  have hrow : rowF f m my = ⟨f.W, f.H, spl f.Y s ((m.Y.drop s).take L), spl f.U s2 ((m.U.drop s2).take C), spl f.V s2 ((m.V.drop s2).take C)⟩ := by
    unfold rowF
    rw [show f.W.toNat = 16 * a by omega, show 16 * a / 2 = 8 * a by omega, ← k1, ← k3, ← hC', show 16 * (16 * a) = L by omega]
  rw [hrow]
  have tY : t ≤ f.Y.length := by rw [lY, k2, k1]; omega
  have tU : t2 ≤ f.U.length := by rw [lU, k4, k3]; omega
  have tV : t2 ≤ f.V.length := by rw [lV, k4, k3]; omega
  have hzn : zn = f.Y.length := by rw [← hz.len, sY, lY]
  have htn : tn = f.U.length := by rw [← ht.len, sU, lU]
  have hqn : qn = f.V.length := by rw [← hq.len, sV, lV]
  have hWc : f.W = (cw : Int) := by omega
  have bcw : cw ≤ 64 := by omega
  have bL : L ≤ 1024 := by omega
  have bC : C ≤ 256 := by omega
  have pL : 1 ≤ L := by omega
  have pC : 1 ≤ C := by omega
  have q1 : IntKind.i64.wrap (16 * (cw : Int)) = (L : Int) := by rw [show 16 * (cw : Int) = (L : Int) by omega]; exact IntWalk.i64_in _ (by omega)
  have q2 : IntKind.i64.wrap (8 * (cw : Int)) = (E : Int) := by rw [show 8 * (cw : Int) = (E : Int) by omega]; exact IntWalk.i64_in _ (by omega)
  have q3 : ((E : Nat) : Int).tdiv 2 = (C : Int) := by rw [Int.tdiv_eq_ediv_of_nonneg (by omega)]; omega
  have q4 : IntKind.i64.wrap (C : Int) = (C : Int) := IntWalk.i64_in _ (by omega)
  have q5 : IntKind.i64.wrap ((L : Int) * (my : Int)) = (s : Int) := by rw [← Int.natCast_mul, ← hs]; exact IntWalk.i64_in _ (by omega)
  have q6 : IntKind.i64.wrap ((my : Int) + 1) = (my : Int) + 1 := IntWalk.i64_in _ (by omega)
  have q7 : IntKind.i64.wrap ((L : Int) * ((my : Int) + 1)) = (t : Int) := by rw [show (L : Int) * ((my : Int) + 1) = ((t : Nat) : Int) by rw [ht', Int.natCast_mul]; rfl]; exact IntWalk.i64_in _ (by omega)
  have q8 : IntKind.i64.wrap ((C : Int) * (my : Int)) = (s2 : Int) := by rw [← Int.natCast_mul, ← hs2]; exact IntWalk.i64_in _ (by omega)
  have q9 : IntKind.i64.wrap ((C : Int) * ((my : Int) + 1)) = (t2 : Int) := by rw [show (C : Int) * ((my : Int) + 1) = ((t2 : Nat) : Int) by rw [ht2, Int.natCast_mul]; rfl]; exact IntWalk.i64_in _ (by omega)
  have Q1 := Lib.hid (And.intro q1 (And.intro q2 (And.intro q3 q4)))
  have Q2 := Lib.hid (And.intro q5 (And.intro q6 q7))
  have Q3 := Lib.hid (And.intro q8 (And.intro q6 q9))
  have HZ := Lib.hid (hz.mono (q := (· < w.heap.size)) (fun _ h _ => h))
  have HT := Lib.hid (ht.mono (q := (· < w.heap.size)) (fun _ h _ => h))
  have HQ := Lib.hid (hq.mono (q := (· < w.heap.size)) (fun _ h _ => h))
  have K2 := Lib.hid k2
  have K4 := Lib.hid k4
  have HZN := Lib.hid hzn
  have HTN := Lib.hid htn
  have HQN := Lib.hid hqn
  have j1 : s < t := by omega
  have j2 : s2 < t2 := by omega
  rw [hmW, hmH, hWc] at hm0 ⊢
  rw [hWc] at hf0
  have HF := Lib.hid hf0
  have HM := Lib.hid hm0
  have HWC := Lib.hid hWc
  clear lY lU lV sY sU sV hW hH hcw hL hE hC hC' hs ht' hs2 ht2 k1 k2 k3 k4 hrow hz ht hq hy hu hv f1 f2 q1 q2 q3 q4 q5 q6 q7 q8 q9 hzn htn hqn hf0 hm0 hmW hmH hWc
  go_enter Try.func39, Try.ntmps39
  go_wp2_with fail
  refine (plane_has (p := p) _ f _ _ _ (by (repeat with_reducible apply IsFr.alloc); exact HF.out)).mono ?_
  rintro e w1 ⟨rfl, hb1⟩
  have B1 : Below w.heap.size w w1 := ((((Below.refl _ w).alloc (by simp) _).alloc (by simp) _).alloc (by simp; omega) _).trans (hb1.mono (by simp; omega))
  have x1 : Bx w1 w.heap.size 24 #[.int .i64 cw, .int .i64 f.H, .slice ya yn yc, .slice ua un uc, .slice va vn vc] := (((Bx.new w _ _).alloc _).alloc _).ext hb1
  have m1 : Bx w1 (w.heap.size + 1) 24 #[.int .i64 cw, .int .i64 f.H, .slice za zn zc, .slice ta tn tc, .slice qa qn qc] := ((Bx.new' _ _ _ _ (by simp)).alloc _).ext hb1
  have y1 : Bx w1 (w.heap.size + 1 + 1) 24 #[.int .i64 0, .int .i64 0, .slice none 0 0, .slice none 0 0, .slice none 0 0] := (Bx.new' _ _ _ _ (by simp)).ext hb1
  clear hb1
  obtain ⟨d0, d1, d2, d3, d4⟩ := m1.cells5
  have lm1 := m1.lt
  go_wp2_with fail
  clear d0 d1 d2 d3 d4
  refine (plane_Valid _ m _ (HM.out.ext B1)).mono ?_
  rintro e w2 ⟨rfl, hb2⟩
  have B2 := B1.trans (hb2.mono B1.size)
  have x2 := x1.ext hb2
  have m2 := m1.ext hb2
  have y2 := y1.ext hb2
  clear hb2 x1 m1 y1 B1
  obtain ⟨c0, c1, c2, c3, c4⟩ := x2.cells5
  obtain ⟨d0, d1, d2, d3, d4⟩ := m2.cells5
  have lx2 := x2.lt
  have lm2 := m2.lt
  have ly2 := y2.lt
  go_wp2_with fail
  clear c0 c1 c2 c3 c4 d0 d1 d2 d3 d4
  refine (plane_clone (p := p) _ f _ (HF.out.ext B2) (by omega) (by omega) (by omega)).mono ?_
  rintro e w3 ⟨v3, g1, g2, g3, rfl, hO, hb3⟩
  have hv3 := hO.val
  subst hv3
  rw [HWC.out]
  have B3 := B2.trans (hb3.mono B2.size)
  have x3 := x2.ext hb3
  have m3 := m2.ext hb3
  have y3 := y2.ext hb3
  have z3 := hb3.size
  have bg1 := hO.b1
  have bg2 := hO.b2
  have bg3 := hO.b3
  have n12 := hO.n12
  have n13 := hO.n13
  have n23 := hO.n23
  clear hb3 x2 m2 y2 B2
  go_upto_region 4 with fail
  have x4 := x3.alloc (.cells #[.int .i64 cw, .int .i64 f.H, .slice (some ⟨g1, 0, none⟩) f.Y.length f.Y.length, .slice (some ⟨g2, 0, none⟩) f.U.length f.U.length, .slice (some ⟨g3, 0, none⟩) f.V.length f.V.length] 24)
  have m4 := m3.alloc (.cells #[.int .i64 cw, .int .i64 f.H, .slice (some ⟨g1, 0, none⟩) f.Y.length f.Y.length, .slice (some ⟨g2, 0, none⟩) f.U.length f.U.length, .slice (some ⟨g3, 0, none⟩) f.V.length f.V.length] 24)
  have y4 := y3.alloc (.cells #[.int .i64 cw, .int .i64 f.H, .slice (some ⟨g1, 0, none⟩) f.Y.length f.Y.length, .slice (some ⟨g2, 0, none⟩) f.U.length f.U.length, .slice (some ⟨g3, 0, none⟩) f.V.length f.V.length] 24)
  have o4 := Bx.new w3 24 #[.int .i64 cw, .int .i64 f.H, .slice (some ⟨g1, 0, none⟩) f.Y.length f.Y.length, .slice (some ⟨g2, 0, none⟩) f.U.length f.U.length, .slice (some ⟨g3, 0, none⟩) f.V.length f.V.length]
  have k1 := hO.k1.alloc (.cells #[.int .i64 cw, .int .i64 f.H, .slice (some ⟨g1, 0, none⟩) f.Y.length f.Y.length, .slice (some ⟨g2, 0, none⟩) f.U.length f.U.length, .slice (some ⟨g3, 0, none⟩) f.V.length f.V.length] 24)
  have k2 := hO.k2.alloc (.cells #[.int .i64 cw, .int .i64 f.H, .slice (some ⟨g1, 0, none⟩) f.Y.length f.Y.length, .slice (some ⟨g2, 0, none⟩) f.U.length f.U.length, .slice (some ⟨g3, 0, none⟩) f.V.length f.V.length] 24)
  have k3 := hO.k3.alloc (.cells #[.int .i64 cw, .int .i64 f.H, .slice (some ⟨g1, 0, none⟩) f.Y.length f.Y.length, .slice (some ⟨g2, 0, none⟩) f.U.length f.U.length, .slice (some ⟨g3, 0, none⟩) f.V.length f.V.length] 24)
  have B4 := B3.alloc B3.size (.cells #[.int .i64 cw, .int .i64 f.H, .slice (some ⟨g1, 0, none⟩) f.Y.length f.Y.length, .slice (some ⟨g2, 0, none⟩) f.U.length f.U.length, .slice (some ⟨g3, 0, none⟩) f.V.length f.V.length] 24)
  generalize w3.alloc (.cells #[.int .i64 cw, .int .i64 f.H, .slice (some ⟨g1, 0, none⟩) f.Y.length f.Y.length, .slice (some ⟨g2, 0, none⟩) f.U.length f.U.length, .slice (some ⟨g3, 0, none⟩) f.V.length f.V.length] 24) = w4 at *
  have l1 := hO.k1.lt
  have l2 := hO.k2.lt
  have l3 := hO.k3.lt
  have lo4 := o4.lt
  generalize w3.heap.size = go at *
  clear x3 m3 y3 B3 hO
  have c0 := x4.cell 0 rfl
  have lx4 := x4.lt
  have lm4 := m4.lt
  have ly4 := y4.lt
  obtain ⟨q1, q2, q3, q4⟩ := Q1.out
  go_quiet (fail)
  clear q1 q2 q3 q4 c0
  have B5 : Below w.heap.size w (w4.drewN nq) := ⟨B4.os, B4.tape, B4.output, B4.size, B4.block⟩
  have m5 : Bx (w4.drewN nq) (w.heap.size + 1) 24 _ := m4
  have y5 : Bx (w4.drewN nq) (w.heap.size + 1 + 1) 24 _ := y4
  have o5 : Bx (w4.drewN nq) go 24 _ := o4
  have k15 : Bk (w4.drewN nq) 5 g1 f.Y := k1
  have k25 : Bk (w4.drewN nq) 5 g2 f.U := k2
  have k35 : Bk (w4.drewN nq) 5 g3 f.V := k3
  clear x4 m4 y4 o4 k1 k2 k3 B4
  have lo5 := o5.lt
  have lm5 := m5.lt
  have ly5 := y5.lt
  have e15 := k15.lt
  have e25 := k25.lt
  have e35 := k35.lt
  generalize w4.drewN nq = w5 at *
  clear lo4 lx4 lm4 ly4
  clear w4
  have zn5 : zn = f.Y.length := HZN.out
  have a51 : f.Y.length ≤ zn := by omega
  have a52 : zn ≤ f.Y.length := by omega
  clear zn5
  have hz5 := HZ.out.ext B5
  obtain ⟨bb5, oo5, hza5, hpb5, _, _⟩ := hz5.addr (by omega)
  subst hza5
  have hsrc5 := (hz5.sub (k := s) (m := zn - s) (by omega)).drew
  rw [List.take_of_length_le (by simp [hz5.len])] at hsrc5
  have c52 := o5.cell 2 rfl
  have d52 := m5.cell 2 rfl
  obtain ⟨q5, q6, q7⟩ := Q2.out
  have i51 : (0 : Int) ≤ (s : Int) := by omega
  have i52 : (s : Int) ≤ (t : Int) := by omega
  have i53 : (t : Int) ≤ ((f.Y.length : Nat) : Int) := by omega
  have i54 : (s : Int) ≤ (zn : Int) := by omega
  have i55 : (zn : Int) ≤ (zc : Int) := by omega
  go_wp2_with fail
  go_region_held3 (fun w' => w'.cell? ⟨go, 2, none⟩ = some (.slice (some ⟨g1, 0, none⟩) f.Y.length f.Y.length) ∧ w'.cell? ⟨w.heap.size + 1, 2, none⟩ = some (.slice (some ⟨bb5, oo5, none⟩) zn zc))
    (first | go_keep | (go_split_ands; refine ⟨?_, ?_⟩ <;> (rw [hg5.cell_far _ (by simp; omega) (by simp; omega)]; assumption)))
    (first | (refine step_copyB (p := (· < w.heap.size)) _ (by rfl) _ _ _ (by rfl) _ Try.underlying22 Try.infoB _ _ _ _ _ _ (by rfl) (by rfl) g1 s _ k15.drew (m.Y.drop s) (Byt.cast hsrc5 (by first | rfl | (simp; omega)) (by first | rfl | (simp; done))) (fun _ => (by first | rfl | (simp; omega))) (by first | omega | (simp; omega)) ?_; intro w6 kn5 hg5))
  clear q5 q6 q7 c52 d52 i51 i52 i53 i54 i55
  have u5 := hg5.size
  simp at u5
  rw [show t - s = L by have := K2.out; omega] at kn5
  have B6 := B5.drew.grown hg5 (by have := B5.size; simp; omega) (fun k hk => by cases hk; omega)
  have m6 := m5.drew.grown hg5 (by simp; omega)
  have y6 := y5.drew.grown hg5 (by simp; omega)
  have o6 := o5.drew.grown hg5 (by simp; omega)
  have k26 := k25.drew.grown hg5 (by simp; omega)
  have k36 := k35.drew.grown hg5 (by simp; omega)
  clear m5 y5 o5 B5 hg5
  have zn6 : tn = f.U.length := HTN.out
  have a61 : f.U.length ≤ tn := by omega
  have a62 : tn ≤ f.U.length := by omega
  clear zn6
  have hz6 := HT.out.ext B6
  obtain ⟨bb6, oo6, hza6, hpb6, _, _⟩ := hz6.addr (by omega)
  subst hza6
  have hsrc6 := (hz6.sub (k := s2) (m := tn - s2) (by omega)).drew
  rw [List.take_of_length_le (by simp [hz6.len])] at hsrc6
  have c62 := o6.cell 3 rfl
  have d62 := m6.cell 3 rfl
  obtain ⟨q5, q6, q7⟩ := Q3.out
  have i61 : (0 : Int) ≤ (s2 : Int) := by omega
  have i62 : (s2 : Int) ≤ (t2 : Int) := by omega
  have i63 : (t2 : Int) ≤ ((f.U.length : Nat) : Int) := by omega
  have i64 : (s2 : Int) ≤ (tn : Int) := by omega
  have i65 : (tn : Int) ≤ (tc : Int) := by omega
  go_wp2_with fail
  go_region_held3 (fun w' => w'.cell? ⟨go, 3, none⟩ = some (.slice (some ⟨g2, 0, none⟩) f.U.length f.U.length) ∧ w'.cell? ⟨w.heap.size + 1, 3, none⟩ = some (.slice (some ⟨bb6, oo6, none⟩) tn tc))
    (first | go_keep | (go_split_ands; refine ⟨?_, ?_⟩ <;> (rw [hg6.cell_far _ (by simp; omega) (by simp; omega)]; assumption)))
    (first | (refine step_copyB (p := (· < w.heap.size)) _ (by rfl) _ _ _ (by rfl) _ Try.underlying22 Try.infoB _ _ _ _ _ _ (by rfl) (by rfl) g2 s2 _ k26.drew (m.U.drop s2) (Byt.cast hsrc6 (by first | rfl | (simp; omega)) (by first | rfl | (simp; done))) (fun _ => (by first | rfl | (simp; omega))) (by first | omega | (simp; omega)) ?_; intro w7 kn6 hg6))
  clear q5 q6 q7 c62 d62 i61 i62 i63 i64 i65
  have u6 := hg6.size
  simp at u6
  rw [show t2 - s2 = C by have := K4.out; omega] at kn6
  have B7 := B6.drew.grown hg6 (by have := B6.size; simp; omega) (fun k hk => by cases hk; omega)
  have m7 := m6.drew.grown hg6 (by simp; omega)
  have y7 := y6.drew.grown hg6 (by simp; omega)
  have o7 := o6.drew.grown hg6 (by simp; omega)
  have kn56 := kn5.drew.grown hg6 (by simp; omega)
  have k37 := k36.drew.grown hg6 (by simp; omega)
  clear m6 y6 o6 B6 hg6
  have zn7 : qn = f.V.length := HQN.out
  have a71 : f.V.length ≤ qn := by omega
  have a72 : qn ≤ f.V.length := by omega
  clear zn7
  have hz7 := HQ.out.ext B7
  obtain ⟨bb7, oo7, hza7, hpb7, _, _⟩ := hz7.addr (by omega)
  subst hza7
  have hsrc7 := (hz7.sub (k := s2) (m := qn - s2) (by omega)).drew
  rw [List.take_of_length_le (by simp [hz7.len])] at hsrc7
  have c72 := o7.cell 4 rfl
  have d72 := m7.cell 4 rfl
  obtain ⟨q5, q6, q7⟩ := Q3.out
  have i71 : (0 : Int) ≤ (s2 : Int) := by omega
  have i72 : (s2 : Int) ≤ (t2 : Int) := by omega
  have i73 : (t2 : Int) ≤ ((f.V.length : Nat) : Int) := by omega
  have i74 : (s2 : Int) ≤ (qn : Int) := by omega
  have i75 : (qn : Int) ≤ (qc : Int) := by omega
  go_wp2_with fail
  go_region_held3 (fun w' => w'.cell? ⟨go, 4, none⟩ = some (.slice (some ⟨g3, 0, none⟩) f.V.length f.V.length) ∧ w'.cell? ⟨w.heap.size + 1, 4, none⟩ = some (.slice (some ⟨bb7, oo7, none⟩) qn qc))
    (first | go_keep | (go_split_ands; refine ⟨?_, ?_⟩ <;> (rw [hg7.cell_far _ (by simp; omega) (by simp; omega)]; assumption)))
    (first | (refine step_copyB (p := (· < w.heap.size)) _ (by rfl) _ _ _ (by rfl) _ Try.underlying22 Try.infoB _ _ _ _ _ _ (by rfl) (by rfl) g3 s2 _ k37.drew (m.V.drop s2) (Byt.cast hsrc7 (by first | rfl | (simp; omega)) (by first | rfl | (simp; done))) (fun _ => (by first | rfl | (simp; omega))) (by first | omega | (simp; omega)) ?_; intro w8 kn7 hg7))
  clear q5 q6 q7 c72 d72 i71 i72 i73 i74 i75
  have u7 := hg7.size
  simp at u7
  rw [show t2 - s2 = C by have := K4.out; omega] at kn7
  have B8 := B7.drew.grown hg7 (by have := B7.size; simp; omega) (fun k hk => by cases hk; omega)
  have m8 := m7.drew.grown hg7 (by simp; omega)
  have y8 := y7.drew.grown hg7 (by simp; omega)
  have o8 := o7.drew.grown hg7 (by simp; omega)
  have kn57 := kn56.drew.grown hg7 (by simp; omega)
  have kn67 := kn6.drew.grown hg7 (by simp; omega)
  clear m7 y7 o7 B7 hg7
  obtain ⟨c0, c1, c2, c3, c4⟩ := o8.cells5
  obtain ⟨d0, d1, d2, d3, d4⟩ := y8.cells5
  have t0 := y8.frozen 0
  have t1 := y8.frozen 1
  have t2' := y8.frozen 2
  have t3 := y8.frozen 3
  have t4 := y8.frozen 4
  have lo8 := o8.lt
  have ly8 := y8.lt
  go_wp2_with fail
  have kk2 := K2.out
  have kk4 := K4.out
  have aY : ((m.Y.drop s).take L).length = L := by rw [List.length_take, List.length_drop, hz5.len]; omega
  have aU : ((m.U.drop s2).take C).length = C := by rw [List.length_take, List.length_drop, hz6.len]; omega
  have aV : ((m.V.drop s2).take C).length = C := by rw [List.length_take, List.length_drop, hz7.len]; omega
  have rY : ∀ z ∈ spl f.Y s ((m.Y.drop s).take L), 0 ≤ z ∧ z ≤ 255 := spl_rng RY.out (fun z hz' => HZ.out.rng z (List.mem_of_mem_drop (List.mem_of_mem_take hz')))
  have rU : ∀ z ∈ spl f.U s2 ((m.U.drop s2).take C), 0 ≤ z ∧ z ≤ 255 := spl_rng RU.out (fun z hz' => HT.out.rng z (List.mem_of_mem_drop (List.mem_of_mem_take hz')))
  have rV : ∀ z ∈ spl f.V s2 ((m.V.drop s2).take C), 0 ≤ z ∧ z ≤ 255 := spl_rng RV.out (fun z hz' => HQ.out.rng z (List.mem_of_mem_drop (List.mem_of_mem_take hz')))
  have np : ¬ (w2.heap.size ≤ w.heap.size + 1 + 1) := by omega
  have v1 := kn57.byt (p := (w2.heap.size ≤ ·)) bg1 rY
  have v2 := kn67.byt (p := (w2.heap.size ≤ ·)) bg2 rU
  have v3 := kn7.byt (p := (w2.heap.size ≤ ·)) bg3 rV
  rw [spl_len (by rw [aY]; omega)] at v1
  rw [spl_len (by rw [aU]; omega)] at v2
  rw [spl_len (by rw [aV]; omega)] at v3
  refine bodyPost_ret (v := .tuple #[.agg #[.int .i64 cw, .int .i64 f.H, .slice (some ⟨g1, 0, none⟩) f.Y.length f.Y.length, .slice (some ⟨g2, 0, none⟩) f.U.length f.U.length, .slice (some ⟨g3, 0, none⟩) f.V.length f.V.length], .int .i64 0]) (by simp only [results, Try.results39]; go_simp) rfl ⟨_, rfl, CapsOK.mk (Nat.le_refl _) (Nat.le_refl _) (Nat.le_refl _), ⟨_, _, _, _, _, _, _, _, _, rfl, ?_, ?_, ?_⟩, ?_⟩
  · refine Byt.mono (p := (w2.heap.size ≤ ·)) ?_ (fun b _ h => by omega)
    repeat refine Byt.setCell ?_ np _
    exact v1
  · refine Byt.mono (p := (w2.heap.size ≤ ·)) ?_ (fun b _ h => by omega)
    repeat refine Byt.setCell ?_ np _
    exact v2
  · refine Byt.mono (p := (w2.heap.size ≤ ·)) ?_ (fun b _ h => by omega)
    repeat refine Byt.setCell ?_ np _
    exact v3
  ·
    repeat (first | (with_reducible exact B8) | (with_reducible refine Below.setCell ?_ (by first | (simp; done) | (simp; omega)) _) | (with_reducible refine Below.alloc ?_ (by first | (simp; done) | (simp; omega)) _) | (with_reducible refine Below.drew ?_))
end Go.Proofs.Ytcboppldclknjaa
