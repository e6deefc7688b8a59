/- The law MotionMirror returns true for every frame and part. -/
import Derived.Test.YtaedpadkpclldaaAwake
import Derived.Test.YtaedpadkpclldaaPredictAll
import Derived.Test.YtaedpadkpclldaaMirrorLaw
import Derived.Test.YtaedpadkpclldaaCopyR
namespace Go.Proofs.Ytaedpadkpclldaa
open Go.RowKit

/-- What the mirrored frame is while it is made. -/
def MirRel (W : Nat) (f : Fr) (B : Nat) (sy su sv : Value) (k : Nat) (wr : World) : Prop :=
  ∃ M : List Int, MirUp W f.Y M k ∧ OwB wr B 5 sy M ∧ OwB wr B 5 su f.U ∧ OwB wr B 5 sv f.V ∧ ∀ z ∈ M, 0 ≤ z ∧ z ≤ 255

theorem OwB.byt {w : World} {base : Nat} {e : TypeId} {A : Option Addr} {n c : Nat} {l : List Int} {p : Nat → Prop} (h : OwB w base e (.slice A n c) l) (hp : ∀ b, base ≤ b → p b) (hr : ∀ x ∈ l, 0 ≤ x ∧ x ≤ 255) : Byt p w A n l := by
  obtain ⟨A', c', hv, hB⟩ := h.ret hp hr
  injection hv with hA hn hc
  subst hA hn
  exact hB
theorem Bx.drewN {w : World} {g : Nat} {t : TypeId} {cs : Array Value} (h : Bx w g t cs) (k : Nat) : Bx (w.drewN k) g t cs := h
theorem drewN_add (w : World) (m k : Nat) : (w.drewN m).drewN k = w.drewN (m + k) := by
  simp [World.drewN, Nat.add_assoc]
theorem bdrewN' {B : Nat} {w W : World} (h : Below B w W) (k : Nat) : Below B w (W.drewN k) := ⟨h.os, h.tape, h.output, h.size, h.block⟩
theorem grow_set {w wr : World} {row : Option Nat} {a : Addr} (h : w.grownBy wr row) (ha : row = some a.block) (u : Value) : w.grownBy (wr.setCell a u) row :=
  ⟨h.os, h.tape, h.output, by have := h.size; simpa [World.setCell] using this, fun k hk hne => (Below.heap_setCell wr a u k (fun e => hne (by rw [ha, e]))).trans (h.block k hk hne)⟩
theorem grow_drew {w wr : World} {row : Option Nat} (h : w.grownBy wr row) : w.grownBy wr.drew row := ⟨h.os, h.tape, h.output, h.size, h.block⟩
theorem MirRel.start {W : Nat} {f : Fr} {B : Nat} {sy su sv : Value} {w : World} (oy : OwB w B 5 sy f.Y) (ou : OwB w B 5 su f.U) (ov : OwB w B 5 sv f.V) (hr : ∀ z ∈ f.Y, 0 ≤ z ∧ z ≤ 255) : MirRel W f B sy su sv 0 w :=
  ⟨f.Y, ⟨rfl, fun i hi => absurd hi (Nat.not_lt_zero _)⟩, oy, ou, ov, hr⟩

set_option maxRecDepth 100000 in
set_option maxHeartbeats 4000000 in
theorem law_MotionMirror_ok {p : Nat → Prop} (v : Value) (f : Fr) (x y pw ph vx vy : Int) (w : World) (hf : IsFr p w v f) (hlight : lightB f = true) (he : (predF f x y pw ph vx vy).2 = 0) :
    Calls Try.prog 7 #[v, .agg #[.int .i64 x, .int .i64 y, .int .i64 pw, .int .i64 ph, .int .i64 vx, .int .i64 vy]] w fun e w' => e = .returned (.bool true) ∧ Below w.heap.size w w' := by
  have hf0 := hf
  obtain ⟨⟨q1, q2, q3, q4, q5, q6, q7, q8, q9⟩, hmay, _⟩ := predF_cases f x y pw ph vx vy he
  have hfo := q1
  simp only [formedB, Bool.and_eq_true, decide_eq_true_eq] at hfo
  obtain ⟨⟨⟨hs, a1⟩, a2⟩, a3⟩ := hfo
  obtain ⟨g1, g2, g3, g4, g5, g6⟩ := sizeB_true hs
  simp only [mayB, decide_eq_true_eq] at hmay
  subst q2
  have key := fun (g : Fr) (hW : g.W = f.W) (hH : g.H = f.H) (hm : MirUp f.W.toNat f.Y g.Y f.Y.length) (hU : g.U = f.U) (hV : g.V = f.V) => predF_mirror (f := f) (g := g) (x := x) (y := y) (pw := 16) (ph := ph) (vx := vx) (vy := vy) he hW hH hm hU hV
  have HKEY := Lib.hid key
  clear key
  obtain ⟨fy1, fy2, fy3, fu1, fu2, fu3, fv1, fv2, fv3, rfl, hY, hU, hV⟩ := hf
  obtain ⟨Wn, hWn⟩ : ∃ Wn : Nat, f.W = (Wn : Int) := ⟨f.W.toNat, by omega⟩
  obtain ⟨Hn, hHn⟩ : ∃ Hn : Nat, f.H = (Hn : Int) := ⟨f.H.toNat, by omega⟩
  have hlen := hY.len
  have bW : 16 ≤ Wn ∧ Wn ≤ 64 := by omega
  have bH : 2 ≤ Hn ∧ Hn ≤ 64 := by omega
  have hN : fy2 = Wn * Hn := by
    rw [hWn, hHn] at a1
    have : ((fy2 : Nat) : Int) = ((Wn * Hn : Nat) : Int) := by rw [← hlen, a1]; simp
    omega
  have hNb : fy2 ≤ 4096 := by rw [hN]; exact Nat.mul_le_mul bW.2 bH.2
  have hNp : 0 < fy2 := by rw [hN]; exact Nat.mul_pos (by omega) (by omega)
  have hUp : 0 < f.U.length := by
    have h1 : 0 < f.W / 2 * (f.H / 2) := Int.mul_pos (by omega) (by omega)
    omega
  have hVp : 0 < f.V.length := by
    have h1 : 0 < f.W / 2 * (f.H / 2) := Int.mul_pos (by omega) (by omega)
    omega
  have HN := Lib.hid hN
  have HLEN := Lib.hid hlen
  have hlY : f.Y.length ≤ 100000 := by omega
  have hlU : f.U.length ≤ 100000 := by have h := hlight; simp only [lightB, decide_eq_true_eq] at h; omega
  have hlV : f.V.length ≤ 100000 := by have h := hlight; simp only [lightB, decide_eq_true_eq] at h; omega
  have hYp : 0 < f.Y.length := by omega
  have HRU := Lib.hid hU.rng
  have HRV := Lib.hid hV.rng
  have HLY := Lib.hid hlY
  have HLU := Lib.hid hlU
  have HLV := Lib.hid hlV
  have HYP := Lib.hid hYp
  have HUP := Lib.hid hUp
  have HVP := Lib.hid hVp
  have bx : x ≤ (Wn : Int) - 16 := by omega
  rw [hWn, hHn] at hf0 ⊢
  have HWN := Lib.hid hWn
  have HHN := Lib.hid hHn
  have HHE := Lib.hid he
  have HLI := Lib.hid hlight
  have HPH := Lib.hid q3
  have bph : 8 ≤ ph ∧ ph ≤ 16 := by omega
  clear hWn hHn hN hlen he hlight q3 q1 q6 q9 hs a1 a2 a3 g1 g2 g3 g4 g5 g6 hlY hlU hlV hYp hUp hVp hU hV
  go_enter Try.func7, Try.ntmps7
  go_wp2_with fail
  refine (law_light (p := p) _ f _ (by (repeat with_reducible apply IsFr.alloc); exact hf0)).mono ?_
  rintro e w1 ⟨rfl, hb1⟩
  rw [HLI.out]
  have hB : Below w.heap.size w w1 := (((Below.refl _ w).alloc (by simp) _).alloc (by simp) _).trans (hb1.mono (by simp; omega))
  have hF := IsFr.ext ((hf0.alloc _).alloc _) hb1
  replace hY := Byt.ext ((hY.alloc _).alloc _) hb1
  have xf : Bx w1 w.heap.size 24 #[.int .i64 Wn, .int .i64 Hn, .slice fy1 fy2 fy3, .slice fu1 fu2 fu3, .slice fv1 fv2 fv3] := ((Bx.new w _ _).alloc _).ext hb1
  have xp : Bx w1 (w.heap.size + 1) 34 #[.int .i64 x, .int .i64 y, .int .i64 16, .int .i64 ph, .int .i64 vx, .int .i64 vy] := (Bx.new' _ _ _ _ (by simp)).ext hb1
  clear hb1
  obtain ⟨c_xf0, c_xf1, c_xf2, c_xf3, c_xf4⟩ := xf.cells5
  have l_xf := xf.lt
  have c_xp0 := xp.cell 0 rfl
  have c_xp1 := xp.cell 1 rfl
  have c_xp2 := xp.cell 2 rfl
  have c_xp3 := xp.cell 3 rfl
  have c_xp4 := xp.cell 4 rfl
  have c_xp5 := xp.cell 5 rfl
  have l_xp := xp.lt
  go_wp2_with fail
  refine (motion_Predict (p := p) _ f _ _ _ _ _ _ _ hF).mono ?_
  generalize hr : predF f x y 16 ph vx vy = r at *
  clear hr
  obtain ⟨F, en⟩ := r
  rintro e w4 ⟨v4, rfl, hP, hk⟩
  have he0 : en = 0 := HHE.out
  subst he0
  replace hB := Below.trans hB (Below.mono hk hB.size)
  replace hF := IsFr.ext hF hk
  replace hY := Byt.ext hY hk
  replace xf := Bx.ext xf hk
  replace xp := Bx.ext xp hk
  clear c_xf0 c_xf1 c_xf2 c_xf3 c_xf4 l_xf c_xp0 c_xp1 c_xp2 c_xp3 c_xp4 c_xp5 l_xp hk
  have hP0 := hP
  obtain ⟨Fy1, Fy2, Fy3, Fu1, Fu2, Fu3, Fv1, Fv2, Fv3, rfl, hPY, _, _⟩ := hP
  obtain ⟨c_xf0, c_xf1, c_xf2, c_xf3, c_xf4⟩ := xf.cells5
  have l_xf := xf.lt
  have zB := hB.size
  have zp := xp.lt
  go_wp2_with fail
  have hCopy := ref_Copy (p := p) _ f (w4.alloc (.cells #[.int .i64 F.W, .int .i64 F.H, .slice Fy1 Fy2 Fy3, .slice Fu1 Fu2 Fu3, .slice Fv1 Fv2 Fv3] 24)) (hF.alloc _) HLY.out HLU.out HLV.out
  refine hCopy.mono ?_
  rintro e w5 ⟨v5, rfl, _, _, hown, hk5⟩
  obtain ⟨sy, su, sv, rfl, oy, ou, ov, s1, s2, s3⟩ := hown HYP.out HUP.out HVP.out
  rw [HWN.out, HHN.out]
  obtain ⟨gY, capY, hsy, hgB, hgY, hcapY, _, _⟩ := oy.form HYP.out
  rw [HLEN.out] at hsy hcapY
  subst hsy
  obtain ⟨uA, uc, hsu, huc⟩ : ∃ uA uc, su = .slice uA f.U.length uc ∧ f.U.length ≤ uc := by
    obtain ⟨g, cap, h1, _, _, h2, _⟩ := ou.form HUP.out
    exact ⟨_, _, h1, h2⟩
  obtain ⟨vA, vc, hsv, hvc⟩ : ∃ vA vc, sv = .slice vA f.V.length vc ∧ f.V.length ≤ vc := by
    obtain ⟨g, cap, h1, _, _, h2, _⟩ := ov.form HVP.out
    exact ⟨_, _, h1, h2⟩
  subst hsu hsv
  obtain ⟨BB, hBB⟩ : ∃ BB, BB = (w4.alloc (.cells #[.int .i64 F.W, .int .i64 F.H, .slice Fy1 Fy2 Fy3, .slice Fu1 Fu2 Fu3, .slice Fv1 Fv2 Fv3] 24)).heap.size := ⟨_, rfl⟩
  have hBB2 : BB = w4.heap.size + 1 := by rw [hBB]; simp
  rw [← hBB] at oy ou ov hgB
  have xF5 := (Bx.new w4 24 #[.int .i64 F.W, .int .i64 F.H, .slice Fy1 Fy2 Fy3, .slice Fu1 Fu2 Fu3, .slice Fv1 Fv2 Fv3]).ext hk5
  have xf5 := (xf.alloc _).ext hk5
  have xp5 := (xp.alloc _).ext hk5
  have hY5 := ((hY.mono (q := fun b => p b ∧ b < w4.heap.size) (fun b hb h => ⟨h, hb⟩)).alloc _).ext hk5
  have hP5 := ((hPY.mono (q := fun b => w1.heap.size ≤ b ∧ b < w4.heap.size) (fun b hb h => ⟨h, hb⟩)).alloc _).ext hk5
  have hB5 : Below w.heap.size w w5 := (hB.alloc zB _).trans (hk5.mono (by simp; omega))
  have z5 := hk5.size
  rw [← hBB] at z5
  clear hk5 hCopy hB xf xp hY hPY hF hP0 hf0 c_xf0 c_xf1 c_xf2 c_xf3 c_xf4 l_xf hown hBB
  go_upto_region 7 with fail
  have xM := Bx.new w5 24 #[.int .i64 Wn, .int .i64 Hn, .slice (some ⟨gY, 0, none⟩) fy2 capY, .slice uA f.U.length uc, .slice vA f.V.length vc]
  have xF := xF5.alloc (.cells #[.int .i64 Wn, .int .i64 Hn, .slice (some ⟨gY, 0, none⟩) fy2 capY, .slice uA f.U.length uc, .slice vA f.V.length vc] 24)
  have xf := xf5.alloc (.cells #[.int .i64 Wn, .int .i64 Hn, .slice (some ⟨gY, 0, none⟩) fy2 capY, .slice uA f.U.length uc, .slice vA f.V.length vc] 24)
  have xp := xp5.alloc (.cells #[.int .i64 Wn, .int .i64 Hn, .slice (some ⟨gY, 0, none⟩) fy2 capY, .slice uA f.U.length uc, .slice vA f.V.length vc] 24)
  have hY := hY5.alloc (.cells #[.int .i64 Wn, .int .i64 Hn, .slice (some ⟨gY, 0, none⟩) fy2 capY, .slice uA f.U.length uc, .slice vA f.V.length vc] 24)
  have hPY := hP5.alloc (.cells #[.int .i64 Wn, .int .i64 Hn, .slice (some ⟨gY, 0, none⟩) fy2 capY, .slice uA f.U.length uc, .slice vA f.V.length vc] 24)
  have hB := hB5.alloc hB5.size (.cells #[.int .i64 Wn, .int .i64 Hn, .slice (some ⟨gY, 0, none⟩) fy2 capY, .slice uA f.U.length uc, .slice vA f.V.length vc] 24)
  have oy := oy.alloc (.cells #[.int .i64 Wn, .int .i64 Hn, .slice (some ⟨gY, 0, none⟩) fy2 capY, .slice uA f.U.length uc, .slice vA f.V.length vc] 24)
  have ou := ou.alloc (.cells #[.int .i64 Wn, .int .i64 Hn, .slice (some ⟨gY, 0, none⟩) fy2 capY, .slice uA f.U.length uc, .slice vA f.V.length vc] 24)
  have ov := ov.alloc (.cells #[.int .i64 Wn, .int .i64 Hn, .slice (some ⟨gY, 0, none⟩) fy2 capY, .slice uA f.U.length uc, .slice vA f.V.length vc] 24)
  have sz6 : (w5.alloc (.cells #[.int .i64 Wn, .int .i64 Hn, .slice (some ⟨gY, 0, none⟩) fy2 capY, .slice uA f.U.length uc, .slice vA f.V.length vc] 24)).heap.size = w5.heap.size + 1 := by simp
  generalize w5.alloc (.cells #[.int .i64 Wn, .int .i64 Hn, .slice (some ⟨gY, 0, none⟩) fy2 capY, .slice uA f.U.length uc, .slice vA f.V.length vc] 24) = w6 at *
  have hYr := hY.rng
  have HYR := Lib.hid hYr
  have HSZ := Lib.hid sz6
  have M0 := MirRel.start (W := Wn) oy ou ov hYr
  have lgY : gY < w5.heap.size := hgY
  clear xF5 xf5 xp5 hY5 hP5 hB5 oy ou ov hYr sz6 hgY
  have nef : some w.heap.size ≠ some gY := by simp; omega
  have nep : some (w.heap.size + 1) ≠ some gY := by simp; omega
  have neF : some w4.heap.size ≠ some gY := by simp; omega
  have neM : some w5.heap.size ≠ some gY := by simp; omega
  have s1' : (Value.slice uA f.U.length uc).ownBlock ≠ some gY := s1 gY rfl
  have s2' : (Value.slice vA f.V.length vc).ownBlock ≠ some gY := s2 gY rfl
  have HS1 := Lib.hid s1'
  have HS2 := Lib.hid s2'
  clear s1 s2 s3 s1' s2'
  go_wp2_with fail
  go_loopw [8] (fun i wr => ∃ k : Nat, k ≤ fy2 ∧ i = .int .i64 (k : Int) ∧ MirRel Wn f BB (.slice (some ⟨gY, 0, none⟩) fy2 capY) (.slice uA f.U.length uc) (.slice vA f.V.length vc) k wr ∧ w6.grownBy wr (some gY)) (fun i _ => fy2 - (intOf i).toNat)
  case atStart => exact ⟨0, Nat.zero_le _, rfl, M0, World.grownBy.refl _ _⟩
  case round =>
    obtain ⟨k, hk, rfl, hM, hg⟩ := hrel
    clear M0
    have xfk := xf.grown hg nef
    have xpk := xp.grown hg nep
    have xFk := xF.grown hg neF
    have xMk := xM.grown hg neM
    have hYk := hY.grown hg (fun b hb => by simp; omega)
    have hPk := hPY.grown hg (fun b hb => by simp; omega)
    have c0 := xfk.cell 0 rfl
    have c2 := xfk.cell 2 rfl
    have m2 := xMk.cell 2 rfl
    have l0 := xfk.lt
    have l1 := xMk.lt
    by_cases hlt : k < fy2
    · obtain ⟨bb, oo, z, rfl, hpb, hbb, hz, hz0, hz1, hcz⟩ := hYk.at_ hlt
      obtain ⟨M, hMu, oyk, ouk, ovk, hMr⟩ := hM
      have hMl : M.length = fy2 := by rw [hMu.1, HLEN.out]
      have hWp : 0 < Wn := by omega
      obtain ⟨qd, hqd⟩ : ∃ q, q = k / Wn := ⟨_, rfl⟩
      obtain ⟨rm, hrm⟩ : ∃ q, q = k % Wn := ⟨_, rfl⟩
      obtain ⟨P, hP⟩ : ∃ q, q = qd * Wn := ⟨_, rfl⟩
      have hrb : rm < Wn := by rw [hrm]; exact Nat.mod_lt _ hWp
      have hPk2 : P + rm = k := by rw [hP, hqd, hrm, Nat.mul_comm]; exact Nat.div_add_mod k Wn
      have hqb : qd ≤ k := by rw [hqd]; exact Nat.div_le_self k Wn
      have hmir : mirAt Wn k = P + Wn - 1 - rm := by unfold mirAt; rw [← hqd, ← hrm, ← hP]
      have hmlt : mirAt Wn k < fy2 := by rw [HN.out]; exact mirAt_lt hWp (by rw [← HN.out]; exact hlt)
      obtain ⟨mi, hmi⟩ : ∃ q : Nat, q = mirAt Wn k := ⟨_, rfl⟩
      obtain ⟨g', cap', hform, _, hg3, _, hcM, hfM⟩ := oyk.form (by omega)
      simp only [Value.slice.injEq, Option.some.injEq, Addr.mk.injEq, and_true] at hform
      obtain ⟨hA1, hx1, hx2⟩ := hform
      clear hx1 hx2
      subst hA1
      obtain ⟨zz, hzz⟩ : ∃ zz, M[mi]? = some zz := ⟨M[mi]'(by omega), List.getElem?_eq_getElem _⟩
      have cM := hcM mi zz hzz
      have fM := hfM mi
      have e1 : Int.tdiv (k : Int) (Wn : Int) = (qd : Int) := by rw [Int.tdiv_eq_ediv_of_nonneg (by omega), hqd, Int.natCast_ediv]
      have e2 : Int.tmod (k : Int) (Wn : Int) = (rm : Int) := by rw [Int.tmod_eq_emod_of_nonneg (by omega), hrm, Int.natCast_emod]
      have e3 : IntKind.i64.wrap (qd : Int) = (qd : Int) := IntWalk.i64_in _ (by omega)
      have e4 : (qd : Int) * (Wn : Int) = (P : Int) := by rw [hP]; simp
      have e5 : IntKind.i64.wrap (P : Int) = (P : Int) := IntWalk.i64_in _ (by omega)
      have e6 : IntKind.i64.wrap ((P : Int) + (Wn : Int)) = (P : Int) + (Wn : Int) := IntWalk.i64_in _ (by omega)
      have e7 : IntKind.i64.wrap ((P : Int) + (Wn : Int) - 1) = (P : Int) + (Wn : Int) - 1 := IntWalk.i64_in _ (by omega)
      have e8 : IntKind.i64.wrap (mi : Int) = (mi : Int) := IntWalk.i64_in _ (by omega)
      have e8' : (P : Int) + (Wn : Int) - 1 - (rm : Int) = (mi : Int) := by omega
      have e9 : IntKind.i64.wrap (rm : Int) = (rm : Int) := IntWalk.i64_in _ (by omega)
      have i0 : (0 : Int) ≤ (k : Int) := by omega
      have i1 : (k : Int) < (fy2 : Int) := by omega
      have i2 : (0 : Int) ≤ (mi : Int) := by omega
      have i4 : mi < fy2 := by omega
      have i3 : (mi : Int) < (fy2 : Int) := by omega
      have nz : ¬ (Wn : Int) = 0 := by omega
      have nz2 : ¬ Wn = 0 := by omega
      have n1 : k / Wn = qd := hqd.symm
      have n2 : k % Wn = rm := hrm.symm
      have hb2 : bb ≠ gY := by omega
      have kM : ∀ wx : World, wx.cell? ⟨w.heap.size, 0, none⟩ = some (.int .i64 Wn) ∧ wx.cell? ⟨w.heap.size, 2, none⟩ = some (.slice (some ⟨bb, oo, none⟩) fy2 fy3) ∧ wx.cell? ⟨w5.heap.size, 2, none⟩ = some (.slice (some ⟨gY, 0, none⟩) fy2 capY) ∧ wx.cell? ⟨bb, oo + k, none⟩ = some (.int .u8 z) →
          ∀ u, ((wx.setCell ⟨gY, mi, none⟩ u).cell? ⟨w.heap.size, 0, none⟩ = some (.int .i64 Wn) ∧ (wx.setCell ⟨gY, mi, none⟩ u).cell? ⟨w.heap.size, 2, none⟩ = some (.slice (some ⟨bb, oo, none⟩) fy2 fy3) ∧ (wx.setCell ⟨gY, mi, none⟩ u).cell? ⟨w5.heap.size, 2, none⟩ = some (.slice (some ⟨gY, 0, none⟩) fy2 capY) ∧ (wx.setCell ⟨gY, mi, none⟩ u).cell? ⟨bb, oo + k, none⟩ = some (.int .u8 z)) := by
        rintro wx ⟨p0, p2, pM, pz⟩ u
        have nn : ∀ a : Addr, a.block ≠ gY → (wx.setCell ⟨gY, mi, none⟩ u).cell? a = wx.cell? a := fun a ha => World.cell?_of_block (Below.heap_setCell wx ⟨gY, mi, none⟩ u a.block ha)
        exact ⟨(nn _ (by dsimp only; omega)).trans p0, (nn _ (by dsimp only; omega)).trans p2, (nn _ (by dsimp only; omega)).trans pM, (nn _ hb2).trans pz⟩
      have kS : Hid ((wr.drew.cell? ⟨w.heap.size, 0, none⟩ = some (.int .i64 Wn) ∧ wr.drew.cell? ⟨w.heap.size, 2, none⟩ = some (.slice (some ⟨bb, oo, none⟩) fy2 fy3) ∧ wr.drew.cell? ⟨w5.heap.size, 2, none⟩ = some (.slice (some ⟨gY, 0, none⟩) fy2 capY) ∧ wr.drew.cell? ⟨bb, oo + k, none⟩ = some (.int .u8 z)) ∧ ((wr.setCell ⟨gY, mi, none⟩ (.int .u8 z)).drew.cell? ⟨w.heap.size, 0, none⟩ = some (.int .i64 Wn) ∧ (wr.setCell ⟨gY, mi, none⟩ (.int .u8 z)).drew.cell? ⟨w.heap.size, 2, none⟩ = some (.slice (some ⟨bb, oo, none⟩) fy2 fy3) ∧ (wr.setCell ⟨gY, mi, none⟩ (.int .u8 z)).drew.cell? ⟨w5.heap.size, 2, none⟩ = some (.slice (some ⟨gY, 0, none⟩) fy2 capY) ∧ (wr.setCell ⟨gY, mi, none⟩ (.int .u8 z)).drew.cell? ⟨bb, oo + k, none⟩ = some (.int .u8 z))) :=
        Lib.hid ⟨⟨c0, c2, m2, hcz⟩, kM wr ⟨c0, c2, m2, hcz⟩ _⟩
      have HU2 : Hid (MirUp Wn f.Y (M.set mi z) (k + 1)) := Lib.hid (by rw [hmi]; exact hMu.step (H := Hn) hWp (by rw [HLEN.out, HN.out]) (by rw [HLEN.out]; exact hlt) hz)
      have HO2 := Lib.hid (OwB.set_ oyk mi (by omega) z)
      have HO3 := Lib.hid (OwB.far (a := ⟨gY, mi, none⟩) ouk HS1.out (.int .u8 z))
      have HO4 := Lib.hid (OwB.far (a := ⟨gY, mi, none⟩) ovk HS2.out (.int .u8 z))
      have HMR : Hid (∀ y ∈ M.set mi z, 0 ≤ y ∧ y ≤ 255) := Lib.hid (fun y hy => by
        rcases List.mem_or_eq_of_mem_set hy with hy | rfl
        · exact hMr y hy
        · exact ⟨hz0, hz1⟩)
      have HG := Lib.hid hg
      clear hqd hrm hP hPk2 hmir hmi hzz hcM hfM hz hMu oyk ouk ovk hMr hMl kM hg hYk hPk hmlt
      go_wp2_with fail
      go_region_held3 (fun w' => w'.cell? ⟨w.heap.size, 0, none⟩ = some (.int .i64 Wn) ∧ w'.cell? ⟨w.heap.size, 2, none⟩ = some (.slice (some ⟨bb, oo, none⟩) fy2 fy3) ∧ w'.cell? ⟨w5.heap.size, 2, none⟩ = some (.slice (some ⟨gY, 0, none⟩) fy2 capY) ∧ w'.cell? ⟨bb, oo + k, none⟩ = some (.int .u8 z)) (first | exact kS.out.1 | exact kS.out.2 | go_keep) (fail)
      go_wp2_with fail
      go_roundw
      case rel => first | exact ⟨k + 1, by omega, by go_num, ⟨_, HU2.out, HO2.out, HO3.out, HO4.out, HMR.out⟩, grow_drew (grow_set HG.out rfl _)⟩ | ((repeat apply Exists.intro); exact ⟨⟨k + 1, by omega, by go_num, ⟨_, HU2.out, HO2.out, HO3.out, HO4.out, HMR.out⟩, grow_drew (grow_set HG.out rfl _)⟩, rfl⟩)
      case measure => (simp [intOf]; try omega)
    · obtain rfl : k = fy2 := by omega
      obtain ⟨M, hMu, oyk, ouk, ovk, hMr⟩ := hM
      have hMl : M.length = k := by rw [hMu.1, HLEN.out]
      have hRU : ∀ z ∈ f.U, 0 ≤ z ∧ z ≤ 255 := HRU.out
      have hRV : ∀ z ∈ f.V, 0 ≤ z ∧ z ≤ 255 := HRV.out
      have bY := OwB.byt (p := fun _ => True) (by rw [← hMl] at oyk; exact oyk) (fun _ _ => True.intro) hMr
      have bU := OwB.byt (p := fun _ => True) ouk (fun _ _ => True.intro) hRU
      have bV := OwB.byt (p := fun _ => True) ovk (fun _ _ => True.intro) hRV
      rw [hMl] at bY
      have hG : IsFr (fun _ => True) wr (.agg #[.int .i64 Wn, .int .i64 Hn, .slice (some ⟨gY, 0, none⟩) k capY, .slice uA f.U.length uc, .slice vA f.V.length vc]) ⟨Wn, Hn, M, f.U, f.V⟩ := ⟨_, _, _, _, _, _, _, _, _, rfl, bY, bU, bV⟩
      have hres := HKEY.out ⟨Wn, Hn, M, f.U, f.V⟩ HWN.out.symm HHN.out.symm (by rw [HWN.out, HLEN.out]; exact hMu) rfl rfl
      rw [HWN.out] at hres
      have HRES := Lib.hid hres
      have HGF := Lib.hid hG
      have hPkl := hPk.len
      have HPKL := Lib.hid hPkl
      have HPK := Lib.hid hPk
      obtain ⟨cm0, cm1, cm2, cm3, cm4⟩ := xMk.cells5
      have cp0 := xpk.cell 0 rfl
      have cp1 := xpk.cell 1 rfl
      have cp2 := xpk.cell 2 rfl
      have cp3 := xpk.cell 3 rfl
      have cp4 := xpk.cell 4 rfl
      have cp5 := xpk.cell 5 rfl
      have lp := xpk.lt
      have BW : Below w.heap.size w wr := hB.grown hg (by have := hB.size; omega) (fun j hj => by injection hj with hj; omega)
      have HBW := Lib.hid BW
      clear hYk hPk hG hres hPkl BW oyk ouk ovk hMr hMu hMl bY bU bV hRU hRV m2 hg
      go_wp2_with fail
      refine (motion_Predict _ _ _ _ _ _ _ _ _ HGF.out).mono ?_
      generalize hr : predF ⟨Wn, Hn, M, f.U, f.V⟩ ((Wn : Int) - 16 - x) y 16 ph (-vx) vy = r at *
      clear hr
      obtain ⟨G, en⟩ := r
      rintro e w8 ⟨v8, rfl, hP8, hk8⟩
      have he0 : en = 0 := HRES.out.1
      have hl1 : (F.Y.length : Int) = 16 * ph := HRES.out.2.1
      have hl2 : G.Y.length = F.Y.length := HRES.out.2.2.1
      subst he0
      obtain ⟨Gy1, Gy2, Gy3, Gu1, Gu2, Gu3, Gv1, Gv2, Gv3, rfl, hGY, _, _⟩ := hP8
      rw [HPKL.out] at hl1 hl2
      rw [hGY.len] at hl2
      subst hl2
      have hGY2 := hGY
      have hPk8 := HPK.out.ext hk8
      have xF8 := xFk.ext hk8
      have xp8 := xpk.ext hk8
      have B8 := HBW.out.trans (hk8.mono HBW.out.size)
      have HK8 := Lib.hid hk8.size
      have hne1 : ((Gy2 : Int) != (16 : Int) * ph) = false := by simpa using hl1
      have bG : Gy2 ≤ 256 := by omega
      have w16 : IntKind.i64.wrap ((16 : Int) * ph) = 16 * ph := IntWalk.i64_in _ (by omega)
      have cF2 := xF8.cell 2 rfl
      have cp2' := xp8.cell 2 rfl
      have cp3' := xp8.cell 3 rfl
      have lF8 := xF8.lt
      have lp8 := xp8.lt
      clear hl1 hk8 cm0 cm1 cm2 cm3 cm4 cp0 cp1 cp2 cp3 cp4 cp5 c0 c2 l0 l1 lp xfk xpk xFk xMk
      go_wp2_with fail
      have xF9 := xF8.alloc (.cells #[.int .i64 G.W, .int .i64 G.H, .slice Gy1 Gy2 Gy3, .slice Gu1 Gu2 Gu3, .slice Gv1 Gv2 Gv3] 24)
      have xp9 := xp8.alloc (.cells #[.int .i64 G.W, .int .i64 G.H, .slice Gy1 Gy2 Gy3, .slice Gu1 Gu2 Gu3, .slice Gv1 Gv2 Gv3] 24)
      have xG9 := Bx.new w8 24 #[.int .i64 G.W, .int .i64 G.H, .slice Gy1 Gy2 Gy3, .slice Gu1 Gu2 Gu3, .slice Gv1 Gv2 Gv3]
      have hG9 := hGY2.alloc (.cells #[.int .i64 G.W, .int .i64 G.H, .slice Gy1 Gy2 Gy3, .slice Gu1 Gu2 Gu3, .slice Gv1 Gv2 Gv3] 24)
      have hP9 := hPk8.alloc (.cells #[.int .i64 G.W, .int .i64 G.H, .slice Gy1 Gy2 Gy3, .slice Gu1 Gu2 Gu3, .slice Gv1 Gv2 Gv3] 24)
      have B9 := B8.alloc B8.size (.cells #[.int .i64 G.W, .int .i64 G.H, .slice Gy1 Gy2 Gy3, .slice Gu1 Gu2 Gu3, .slice Gv1 Gv2 Gv3] 24)
      generalize w8.alloc (.cells #[.int .i64 G.W, .int .i64 G.H, .slice Gy1 Gy2 Gy3, .slice Gu1 Gu2 Gu3, .slice Gv1 Gv2 Gv3] 24) = w9 at *
      clear cF2 cp2' cp3' lF8 lp8 xF8 xp8 hGY hGY2 hPk8 B8 hne1 w16
      go_loopw [11] (fun i wr => ∃ j : Nat, j ≤ Gy2 ∧ i = .int .i64 (j : Int) ∧ ∃ m, wr = w9.drewN m) (fun i _ => Gy2 - (intOf i).toNat)
      case atStart => exact ⟨0, Nat.zero_le _, rfl, 0, rfl⟩
      case round =>
        obtain ⟨j, hj, rfl, m, hwj⟩ := hrel
        have xFj : Bx wr w4.heap.size 24 #[.int .i64 F.W, .int .i64 F.H, .slice Fy1 Gy2 Fy3, .slice Fu1 Fu2 Fu3, .slice Fv1 Fv2 Fv3] := by rw [hwj]; exact xF9
        have xGj : Bx wr w8.heap.size 24 #[.int .i64 G.W, .int .i64 G.H, .slice Gy1 Gy2 Gy3, .slice Gu1 Gu2 Gu3, .slice Gv1 Gv2 Gv3] := by rw [hwj]; exact xG9
        have xpj : Bx wr (w.heap.size + 1) 34 #[.int .i64 x, .int .i64 y, .int .i64 16, .int .i64 ph, .int .i64 vx, .int .i64 vy] := by rw [hwj]; exact xp9
        have hPj : Byt (fun b => w1.heap.size ≤ b ∧ b < w4.heap.size) wr Fy1 Gy2 F.Y := by rw [hwj]; exact hP9
        have hGj : Byt (fun _ => True) wr Gy1 Gy2 G.Y := by rw [hwj]; exact hG9.mono (fun _ _ _ => True.intro)
        have Bj : Below w.heap.size w wr := by rw [hwj]; exact bdrewN' B9 m
        have HWJ := Lib.hid hwj
        clear hwj xF9 xG9 xp9 hP9 hG9 B9
        have cF2 := xFj.cell 2 rfl
        have cG2 := xGj.cell 2 rfl
        have cp2' := xpj.cell 2 rfl
        have lF := xFj.lt
        have lG := xGj.lt
        have lp := xpj.lt
        by_cases hlt : j < Gy2
        · have hmlt : mirAt 16 j < Gy2 := by
            unfold mirAt
            rcases HPH.out with h | h <;> (have := HRES.out.2.1; rw [HPKL.out, h] at this; omega)
          obtain ⟨mi, hmi⟩ : ∃ q : Nat, q = mirAt 16 j := ⟨_, rfl⟩
          rw [← hmi] at hmlt
          obtain ⟨bb, oo, z, rfl, _, hbb, hz, hz0, hz1, hcz⟩ := hPj.at_ hlt
          obtain ⟨bb2, oo2, z2, rfl, _, hbb2, hz2, hz20, hz21, hcz2⟩ := hGj.at_ hmlt
          have hzz : z2 = z := by
            have h1 := HRES.out.2.2.2 j (by rw [HPKL.out]; exact hlt)
            rw [hz, ← hmi, hz2] at h1
            injection h1 with h1
            exact h1.symm
          subst hzz
          obtain ⟨qd, hqd⟩ : ∃ q, q = j / 16 := ⟨_, rfl⟩
          obtain ⟨rm, hrm⟩ : ∃ q, q = j % 16 := ⟨_, rfl⟩
          have hmir : mi = qd * 16 + 16 - 1 - rm := by rw [hmi, hqd, hrm]; rfl
          have e1 : Int.tdiv (j : Int) 16 = (qd : Int) := by rw [Int.tdiv_eq_ediv_of_nonneg (by omega), hqd]; omega
          have e2 : Int.tmod (j : Int) 16 = (rm : Int) := by rw [Int.tmod_eq_emod_of_nonneg (by omega), hrm]; omega
          have e3 : IntKind.i64.wrap (qd : Int) = (qd : Int) := IntWalk.i64_in _ (by omega)
          have e5 : IntKind.i64.wrap ((qd : Int) * 16) = (qd : Int) * 16 := IntWalk.i64_in _ (by omega)
          have e6 : IntKind.i64.wrap ((qd : Int) * 16 + 16) = (qd : Int) * 16 + 16 := IntWalk.i64_in _ (by omega)
          have e7 : IntKind.i64.wrap ((qd : Int) * 16 + 16 - 1) = (qd : Int) * 16 + 16 - 1 := IntWalk.i64_in _ (by omega)
          have e8 : IntKind.i64.wrap (mi : Int) = (mi : Int) := IntWalk.i64_in _ (by omega)
          have e8' : (qd : Int) * 16 + 16 - 1 - (rm : Int) = (mi : Int) := by omega
          have e9 : IntKind.i64.wrap (rm : Int) = (rm : Int) := IntWalk.i64_in _ (by omega)
          have n1 : (j : Int) / 16 = (qd : Int) := by omega
          have n2 : (j : Int) % 16 = (rm : Int) := by omega
          have i0 : (0 : Int) ≤ (j : Int) := by omega
          have i1 : (j : Int) < (Gy2 : Int) := by omega
          have i2 : (0 : Int) ≤ (mi : Int) := by omega
          have i3 : (mi : Int) < (Gy2 : Int) := by omega
          clear hqd hrm hmir hmi hz hz2
          go_wp2_with fail
          go_quiet (fail)
          clear e1 e2 e3 e5 e6 e7 e8 e8' e9 n1 n2
          go_wp2_with fail
          go_roundw
          case rel => exact ⟨j + 1, by omega, by go_num, m + nq, by rw [HWJ.out]; exact drewN_add _ _ _⟩
          case measure => (simp [intOf]; try omega)
        · obtain rfl : j = Gy2 := by omega
          go_wp2_with fail
          refine (law_awake _).mono ?_
          rintro e w10 ⟨rfl, hk10⟩
          go_wp2_with fail
          go_ret
          exact ⟨rfl, Bj.trans (hk10.mono Bj.size)⟩
end Go.Proofs.Ytaedpadkpclldaa
