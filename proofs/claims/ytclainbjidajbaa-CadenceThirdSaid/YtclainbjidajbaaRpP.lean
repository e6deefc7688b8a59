/- cadence.Repeats. -/
import Derived.Test.YtclainbjidajbaaRpM
import Derived.Test.YtclainbjidajbaaLPul
import Derived.Test.YtclainbjidajbaaWeaveM
namespace Go.Proofs.Ytclainbjidajbaa
open Go.RowKit

theorem own_alloc {w : World} {base : Nat} {e : TypeId} {size n : Nat} {v : Value} {xs : List Value} (h : w.ownsRow base e size v n xs) (o : Obj) : (w.alloc o).ownsRow base e size v n xs := own_ext h ((Below.refl _ _).alloc (Nat.le_refl _) _)
/-- The boxes of the results. -/
structure QBx (w : World) (v : Value) (W : World) : Prop where
  b1 : Bx W w.heap.size 22 #[v]
  b2 : Bx W (w.heap.size + 1) 28 #[.int .i64 0]
  be : Below w.heap.size w W
section
variable {w W W' : World} {v : Value}
theorem QBx.ext (h : QBx w v W) (hb : Below W.heap.size W W') : QBx w v W' := ⟨h.b1.ext hb, h.b2.ext hb, h.be.trans (hb.mono h.be.size)⟩
theorem QBx.drew (h : QBx w v W) : QBx w v W.drew := ⟨h.b1.drew, h.b2.drew, h.be.drew⟩
theorem QBx.start (w : World) : QBx w (.slice none 0 0) ((w.alloc (.cells #[.slice none 0 0] 22)).alloc (.cells #[.int .i64 0] 28)) :=
  ⟨(Bx.new _ _ _).alloc _, Bx.new' _ _ _ _ (by simp), ((Below.refl _ _).alloc (Nat.le_refl _) _).alloc (by simp) _⟩
theorem QBx.facts (h : QBx w v W) : W.cell? ⟨w.heap.size, 0, none⟩ = some v ∧ W.frozen? ⟨w.heap.size, 0, none⟩ = false ∧ w.heap.size < W.heap.size ∧ W.cell? ⟨w.heap.size + 1, 0, none⟩ = some (.int .i64 0) ∧ W.frozen? ⟨w.heap.size + 1, 0, none⟩ = false ∧ w.heap.size + 1 < W.heap.size :=
  ⟨h.b1.cell 0 rfl, h.b1.frozen 0, h.b1.lt, h.b2.cell 0 rfl, h.b2.frozen 0, h.b2.lt⟩
theorem QBx.put (h : QBx w v W) (u : Value) : QBx w u (W.setCell ⟨w.heap.size, 0, none⟩ u) :=
  ⟨h.b1.set_ 0 u, h.b2.far (by simp) u, bset h.be ⟨w.heap.size, 0, none⟩ (Nat.le_refl _) u⟩
theorem QBx.app {A : Option Addr} {n1 c1 n : Nat} {xs : List Value} {cs : Array Value} {t : TypeId} (h : QBx w (.slice A n1 c1) W) (ho : W.ownsRow (w.heap.size + 2) 3 1 (.slice A n1 c1) n xs) (hg : (W.alloc (.cells cs t)).grownBy W' (Value.slice A n1 c1).ownBlock) : QBx w (.slice A n1 c1) W' := by
  have h2 := h.ext ((Below.refl _ _).alloc (Nat.le_refl _) (.cells cs t))
  exact ⟨h2.b1.grown hg (own_ne ho (.inl (by omega))), h2.b2.grown hg (own_ne ho (.inl (by omega))), h2.be.grown hg h2.be.size (fun j hj => by have := (World.ownsRow.lt ho j hj).1; omega)⟩
theorem QBx.leaveV (h : QBx w v W) (u : Value) (code : Int) : ((W.setCell ⟨w.heap.size, 0, none⟩ u).setCell ⟨w.heap.size + 1, 0, none⟩ (.int .i64 code)).cell? ⟨w.heap.size, 0, none⟩ = some u ∧
    ((W.setCell ⟨w.heap.size, 0, none⟩ u).setCell ⟨w.heap.size + 1, 0, none⟩ (.int .i64 code)).cell? ⟨w.heap.size + 1, 0, none⟩ = some (.int .i64 code) ∧
    Below w.heap.size w ((W.setCell ⟨w.heap.size, 0, none⟩ u).setCell ⟨w.heap.size + 1, 0, none⟩ (.int .i64 code)) :=
  ⟨((h.b1.set_ 0 u).far (by simp) _).cell 0 rfl, ((h.b2.far (by simp) u).set_ 0 (.int .i64 code)).cell 0 rfl, bset (bset h.be ⟨w.heap.size, 0, none⟩ (Nat.le_refl _) u) ⟨w.heap.size + 1, 0, none⟩ (by dsimp only; omega) _⟩
end
/-- The state of the loop. -/
structure QGo (w : World) (A1 : Option Addr) (n1 c1 : Nat) (L : List Int) (W : World) : Prop where
  bx : QBx w (.slice A1 n1 c1) W
  ow : W.ownsRow (w.heap.size + 2) 3 1 (.slice A1 n1 c1) n1 (L.map (Value.int .i64))
theorem QGo.be {w W : World} {A1 : Option Addr} {n1 c1 : Nat} {L : List Int} (h : QGo w A1 n1 c1 L W) : Below w.heap.size w W := h.bx.be
theorem QGo.ext {w W W' : World} {A1 : Option Addr} {n1 c1 : Nat} {L : List Int} (h : QGo w A1 n1 c1 L W) (hb : Below W.heap.size W W') : QGo w A1 n1 c1 L W' := ⟨h.bx.ext hb, own_ext h.ow hb⟩
theorem QGo.drew {w W : World} {A1 : Option Addr} {n1 c1 : Nat} {L : List Int} (h : QGo w A1 n1 c1 L W) : QGo w A1 n1 c1 L W.drew := ⟨h.bx.drew, h.ow.drew⟩
theorem repB_at {xs : List FA} {x y : FA} {j u h m : Nat} (h2 : 2 ≤ j) (hu : j / 2 - 1 = u) (hh : j / 2 = h) (hm : j % 2 = m) (hx : xs[u]? = some x) (hy : xs[h]? = some y) : repB (frs xs) j = eqFldF x.f y.f m := by
  unfold repB
  rw [hu, hh, hm, frAt_of rfl hx, frAt_of rfl hy, decide_eq_true h2, Bool.true_and]
theorem repB_lo {fs : List Fr} {j : Nat} (h2 : j < 2) : repB fs j = false := by
  unfold repB
  rw [decide_eq_false (by omega), Bool.false_and]
theorem rep_next {fs : List Fr} {j n1 : Nat} {L : List Int} {r : Bool} (hr : repB fs j = r) (hL : repK fs j = L) (hn : n1 = L.length) :
    (r = true → (n1 + 1 = (repK fs (j + 1)).length ∧ (repK fs (j + 1)).map (Value.int .i64) = L.map (Value.int .i64) ++ [.int .i64 (j : Int)])) ∧
    (r = false → (n1 = (repK fs (j + 1)).length ∧ (repK fs (j + 1)).map (Value.int .i64) = L.map (Value.int .i64))) := by
  subst hr hL
  rw [repK_succ]
  cases hb : repB fs j with
  | true => simp [hn]
  | false => simp [hn]
theorem rep_idle (p q : Addr) (w : World) :
    CallsD Try.prog 23 #[.pointer (some p), .pointer (some q)] .returning w fun e u' w' => e = .returned (.tuple #[]) ∧ u' = .returning ∧ w' = w := by
  refine callsD_of_wpS Try.func23 rfl fun c₀ cs hu => ?_
  apply wpS_seq
  apply wpS_region
  simp [wpOpsS, go_sem, recoverD, hu, Try.ntmps23, Exit.thenS]
  refine wpS_cond (t := false) (by simp [Act.eval, Array.replicate]) ?_
  simp only [Bool.false_eq_true, if_false]
  refine wpS_of_wp (wp_skip ?_)
  cases c₀
  simp_all [bodyPostS, results, Try.results23]
def rpV (b off n c j u h m : Nat) (xv yv : Value) (r : Bool) : Nat → Value
  | 0 => .int .i64 (j : Int)
  | 1 => .bool true
  | 2 => .bool true
  | 3 => .slice (some ⟨b, off, none⟩) n c
  | 4 => .int .i64 (j : Int)
  | 5 => .int .i64 (h : Int)
  | 6 => .int .i64 (u : Int)
  | 7 => .pointer (some ⟨b, off + u * 5, none⟩)
  | 8 => xv
  | 9 => .slice (some ⟨b, off, none⟩) n c
  | 10 => .int .i64 (j : Int)
  | 11 => .int .i64 (h : Int)
  | 12 => .pointer (some ⟨b, off + h * 5, none⟩)
  | 13 => yv
  | 14 => .int .i64 (j : Int)
  | 15 => .int .i64 (m : Int)
  | 16 => .bool r
  | _ => .bool r
def rqV (b off n c j u h m : Nat) (xv yv : Value) (r : Bool) : Nat → Value
  | 0 => .int .i64 (j : Int)
  | 1 => .bool false
  | 2 => .bool false
  | 3 => undef
  | 4 => undef
  | 5 => undef
  | 6 => undef
  | 7 => undef
  | 8 => undef
  | 9 => undef
  | 10 => undef
  | 11 => undef
  | 12 => undef
  | 13 => undef
  | 14 => undef
  | 15 => undef
  | 16 => undef
  | _ => .bool false

set_option maxRecDepth 100000 in
set_option maxHeartbeats 8000000 in
theorem cad_Repeats {p q : Nat → Prop} (A : Option Addr) (n c : Nat) (xs : List FA) (w : World) (h : Frs p q w A n xs) (hn : n ≤ 1600000000000) :
    Calls Try.prog 9 #[.slice A n c] w (RetRp w (repE (frs xs)) (repL (frs xs))) := by
  have hmf : ∀ (fn : Fn) (first cap : Array Value) (w : World), (Instr.makeFunc fn first cap).run Try.prog w = .ok (.func fn first cap) w := fun _ _ _ _ => rfl
  have H := Lib.hid h
  have HLX : Hid ((frs xs).length = n) := Lib.hid (by simp [frs, h.1])
  have HAL := Lib.hid (fun w h => cad_alike (p := p) (q := q) A n c xs w h (by omega))
  have HP0 := Lib.hid (QBx.start w)
  clear h
  go_enter_defers Try.func9, Try.ntmps9
  go_upto_region 2 with fail
  generalize (w.alloc (.cells #[.slice none 0 0] 22)).alloc (.cells #[.int .i64 0] 28) = W0 at *
  go_wp2_with fail
  refine (HAL.out _ (H.out.ext HP0.out.be)).mono ?_
  rintro e w1 ⟨rfl, hb1⟩
  have HPX := Lib.hid (HP0.out.ext hb1)
  clear hb1
  cases hal : alikeF (frs xs) with
  | false =>
    obtain ⟨e1, e2⟩ := rep_no hal
    have HE1 := Lib.hid e1
    have HE2 := Lib.hid e2
    clear e1 e2 hal
    obtain ⟨g1, g2, g3, g4, g5, g6⟩ := HPX.out.facts
    have HRT := Lib.hid (HPX.out.leaveV (.slice none 0 0) 1)
    go_wp2_with fail
    obtain ⟨z1, z2, zb⟩ := HRT.out
    refine leaves_cons (f := 23) (args := #[.pointer (some ⟨w.heap.size, 0, none⟩), .pointer (some ⟨w.heap.size + 1, 0, none⟩)]) (by simp) (by simp [go_sem]) ?_
    refine (rep_idle _ _ _).mono ?_
    rintro e u' w'' ⟨rfl, rfl, rfl⟩
    exact ⟨.tuple #[.slice none 0 0, .int .i64 1], by simp [results, Try.results9, go_sem, z1, z2], none, 0, 0, by rw [HE1.out], by rw [HE2.out]; rfl, by rw [HE2.out]; exact Rw.nil, zb⟩
  | true =>
    have HT := Lib.hid hal
    clear hal
    have w2n : IntKind.i64.wrap (2 * (n : Int)) = 2 * (n : Int) := IntWalk.i64_in _ (by omega)
    go_wp2_with fail
    go_loopw [12] (fun i wr => ∃ (j n1 : Nat) (A1 : Option Addr) (c1 : Nat), j ≤ 2 * n ∧ i = .int .i64 (j : Int) ∧ n1 = (repK (frs xs) j).length ∧ QBx w (.slice A1 n1 c1) wr ∧ wr.ownsRow (w.heap.size + 2) 3 1 (.slice A1 n1 c1) n1 ((repK (frs xs) j).map (Value.int .i64))) (fun i _ => 2 * n - (intOf i).toNat)
    case atStart => exact ⟨0, 0, none, 0, Nat.zero_le _, rfl, rfl, HPX.out, World.ownsRow_nil _ _ _ _⟩
    case round =>
      obtain ⟨j, n1, A1, c1, hj, rfl, hn1, hQ, ho⟩ := hrel
      obtain ⟨L1, hL1⟩ : ∃ L1, repK (frs xs) j = L1 := ⟨_, rfl⟩
      have hlen := repK_len (frs xs) j
      rw [hL1] at hn1 ho hlen
      have HL1 := Lib.hid hL1
      have HN1 := Lib.hid hn1
      have HQG : Hid (QGo w A1 n1 c1 L1 wr) := Lib.hid ⟨hQ, ho⟩
      have hn1b : n1 ≤ 3200000000000 := by omega
      have zb := hQ.b2.lt
      clear hL1 hn1 hlen hQ ho HPX
      by_cases hjn : j < 2 * n
      · have dj : decide ((j : Int) < 2 * (n : Int)) = true := decide_eq_true (by omega)
        by_cases hj2 : j < 2
        · have d2 : decide ((2 : Int) ≤ (j : Int)) = false := decide_eq_false (by omega)
          have d2n : ¬ (2 : Int) ≤ (j : Int) := by omega
          have HNX := Lib.hid ((rep_next (repB_lo (fs := frs xs) hj2) HL1.out HN1.out).2 rfl)
          obtain ⟨b, off, x, rfl, hbl, _⟩ := H.out.at_ (show 0 < n by omega)
          go_upto_region 7 with fail
          refine wp_region_fixedW (rqV b off n c j 0 0 0 (.bool false) (.bool false) false) (fun _ w' => QGo w A1 n1 c1 L1 w') (by kernel_rfl) (by kernel_rfl) (by kernel_rfl) ?h0 ?hstep ?hend
          case h0 => exact HQG.out.drew
          case hstep =>
            intro k o ho D ac wx fr hG hcl hDi hpre
            have o0 : ac.tmps[0]?.getD undef = .slice (some ⟨b, off, none⟩) n c := fr.oldT 0 rfl
            have o4 : ac.tmps[4]?.getD undef = .int .i64 (j : Int) := fr.oldT 4 rfl
            have hkn : k < 18 := (List.getElem?_eq_some_iff.1 ho).1
            rcases (show k = 0 ∨ k = 1 ∨ k = 2 ∨ k = 3 ∨ k = 4 ∨ k = 5 ∨ k = 6 ∨ k = 7 ∨ k = 8 ∨ k = 9 ∨ k = 10 ∨ k = 11 ∨ k = 12 ∨ k = 13 ∨ k = 14 ∨ k = 15 ∨ k = 16 ∨ k = 17 by omega) with rfl | rfl | rfl | rfl | rfl | rfl | rfl | rfl | rfl | rfl | rfl | rfl | rfl | rfl | rfl | rfl | rfl | rfl
            all_goals (simp only [List.getElem?_cons_zero, List.getElem?_cons_succ, Option.some.injEq] at ho; subst ho)
            · refine ⟨true, rfl, fun _ => wp_value (w' := wx) ?_ ⟨rfl, hG⟩, (fun h => by cases h)⟩
              simp [execOp, o4, rqV, go_sem]
            · have f0 := fr.atT 0 (hpre ⟨0, .data⟩ (by simp) rfl) rfl
              refine ⟨true, rfl, fun _ => wp_value (w' := wx) ?_ ⟨rfl, hG⟩, (fun h => by cases h)⟩
              simp [execOp, f0, rqV, go_sem, d2, d2n]
            · have f1 := fr.atT 1 (hpre ⟨1, .data⟩ (by simp) rfl) rfl
              refine ⟨true, rfl, fun _ => wp_value (w' := wx) ?_ ⟨rfl, hG⟩, (fun h => by cases h)⟩
              simp [execOp, f1, rqV, go_sem]
            · have dg : D 2 = true := hpre ⟨2, .guard⟩ (by simp) rfl
              exact ⟨false, (wanted_of (x := false) (want := true) (j := 2) fr rfl dg rfl rfl).trans rfl, (fun h => by cases h), fun _ => ⟨rfl, hG⟩⟩
            · have dg : D 2 = true := hpre ⟨2, .guard⟩ (by simp) rfl
              exact ⟨false, (wanted_of (x := false) (want := true) (j := 2) fr rfl dg rfl rfl).trans rfl, (fun h => by cases h), fun _ => ⟨rfl, hG⟩⟩
            · have dg : D 2 = true := hpre ⟨2, .guard⟩ (by simp) rfl
              exact ⟨false, (wanted_of (x := false) (want := true) (j := 2) fr rfl dg rfl rfl).trans rfl, (fun h => by cases h), fun _ => ⟨rfl, hG⟩⟩
            · have dg : D 2 = true := hpre ⟨2, .guard⟩ (by simp) rfl
              exact ⟨false, (wanted_of (x := false) (want := true) (j := 2) fr rfl dg rfl rfl).trans rfl, (fun h => by cases h), fun _ => ⟨rfl, hG⟩⟩
            · have dg : D 2 = true := hpre ⟨2, .guard⟩ (by simp) rfl
              exact ⟨false, (wanted_of (x := false) (want := true) (j := 2) fr rfl dg rfl rfl).trans rfl, (fun h => by cases h), fun _ => ⟨rfl, hG⟩⟩
            · have dg : D 2 = true := hpre ⟨2, .guard⟩ (by simp) rfl
              exact ⟨false, (wanted_of (x := false) (want := true) (j := 2) fr rfl dg rfl rfl).trans rfl, (fun h => by cases h), fun _ => ⟨rfl, hG⟩⟩
            · have dg : D 2 = true := hpre ⟨2, .guard⟩ (by simp) rfl
              exact ⟨false, (wanted_of (x := false) (want := true) (j := 2) fr rfl dg rfl rfl).trans rfl, (fun h => by cases h), fun _ => ⟨rfl, hG⟩⟩
            · have dg : D 2 = true := hpre ⟨2, .guard⟩ (by simp) rfl
              exact ⟨false, (wanted_of (x := false) (want := true) (j := 2) fr rfl dg rfl rfl).trans rfl, (fun h => by cases h), fun _ => ⟨rfl, hG⟩⟩
            · have dg : D 2 = true := hpre ⟨2, .guard⟩ (by simp) rfl
              exact ⟨false, (wanted_of (x := false) (want := true) (j := 2) fr rfl dg rfl rfl).trans rfl, (fun h => by cases h), fun _ => ⟨rfl, hG⟩⟩
            · have dg : D 2 = true := hpre ⟨2, .guard⟩ (by simp) rfl
              exact ⟨false, (wanted_of (x := false) (want := true) (j := 2) fr rfl dg rfl rfl).trans rfl, (fun h => by cases h), fun _ => ⟨rfl, hG⟩⟩
            · have dg : D 2 = true := hpre ⟨2, .guard⟩ (by simp) rfl
              exact ⟨false, (wanted_of (x := false) (want := true) (j := 2) fr rfl dg rfl rfl).trans rfl, (fun h => by cases h), fun _ => ⟨rfl, hG⟩⟩
            · have dg : D 2 = true := hpre ⟨2, .guard⟩ (by simp) rfl
              exact ⟨false, (wanted_of (x := false) (want := true) (j := 2) fr rfl dg rfl rfl).trans rfl, (fun h => by cases h), fun _ => ⟨rfl, hG⟩⟩
            · have dg : D 2 = true := hpre ⟨2, .guard⟩ (by simp) rfl
              exact ⟨false, (wanted_of (x := false) (want := true) (j := 2) fr rfl dg rfl rfl).trans rfl, (fun h => by cases h), fun _ => ⟨rfl, hG⟩⟩
            · have dg : D 2 = true := hpre ⟨2, .guard⟩ (by simp) rfl
              exact ⟨false, (wanted_of (x := false) (want := true) (j := 2) fr rfl dg rfl rfl).trans rfl, (fun h => by cases h), fun _ => ⟨rfl, hG⟩⟩
            · have f2 := fr.atT 2 (hpre ⟨2, .data⟩ (by simp) rfl) rfl
              have f16 := fr.atT 16 (hpre ⟨16, .data⟩ (by simp) rfl) rfl
              refine ⟨true, rfl, fun _ => wp_value (w' := wx) ?_ ⟨rfl, hG⟩, (fun h => by cases h)⟩
              simp [execOp, f2, f16, rqV, go_sem]
          case hend =>
            intro D w7 hG hall
            have HG7 := Lib.hid hG.bx
            have HO7 := Lib.hid hG.ow
            clear hall hG
            simp only [putsU, Act.put, List.setIfInBounds_toArray, List.set_cons_succ, List.set_cons_zero, Nat.zero_add, Nat.reduceAdd, rqV]
            go_wp2_with fail
            go_roundw
            case rel => exact ⟨j + 1, n1, A1, c1, by omega, by go_num, HNX.out.1, HG7.out, by rw [HNX.out.2]; exact HO7.out⟩
            case measure => (simp [intOf]; try omega)
        · have d2 : decide ((2 : Int) ≤ (j : Int)) = true := decide_eq_true (by omega)
          have d2n : (2 : Int) ≤ (j : Int) := by omega
          obtain ⟨u, hu⟩ : ∃ u, j / 2 - 1 = u := ⟨_, rfl⟩
          obtain ⟨h, hh⟩ : ∃ h, j / 2 = h := ⟨_, rfl⟩
          obtain ⟨m, hm⟩ : ∃ m, j % 2 = m := ⟨_, rfl⟩
          have hun : u < n := by omega
          have hhn : h < n := by omega
          have hm2 : m < 2 := by omega
          obtain ⟨b, off, x, rfl, hbf, hxx, hox, xc0, xc1, xc2, xc3, xc4⟩ := H.out.at_ hun
          obtain ⟨b', off', y, hAA, hbl2, hyy, hoy, yc0, yc1, yc2, yc3, yc4⟩ := H.out.at_ hhn
          injection hAA with hAA
          injection hAA with q1 q2
          subst q1 q2
          obtain ⟨SW, SH, hsz⟩ := alike_sz HT.out
          have sx := hsz x.f (List.mem_of_getElem? (frs_at hxx))
          have sy := hsz y.f (List.mem_of_getElem? (frs_at hyy))
          have HEF := Lib.hid (fun w' (h : Below w.heap.size w w') => cad_equalFields x y SW SH m w' (hox.ext h) (hoy.ext h) sx sy hm2)
          have HRB := Lib.hid (repB_at (by omega) hu hh hm hxx hyy)
          have qd : (j : Int).tdiv 2 = (h : Int) := by rw [Int.tdiv_eq_ediv_of_nonneg (by omega)]; omega
          have qe : (j : Int) / 2 = (h : Int) := by omega
          have md : (j : Int).tmod 2 = (m : Int) := by rw [Int.tmod_eq_emod_of_nonneg (by omega)]; omega
          have me : (j : Int) % 2 = (m : Int) := by omega
          have wh : IntKind.i64.wrap (h : Int) = (h : Int) := IntWalk.i64_in _ (by omega)
          have wu : IntKind.i64.wrap ((h : Int) - 1) = (u : Int) := by rw [show (h : Int) - 1 = (u : Int) by omega]; exact IntWalk.i64_in _ (by omega)
          have a0 : (0 : Int) ≤ (u : Int) := by omega
          have a1 : (u : Int) < (n : Int) := by omega
          have ta1 : (u : Int).toNat = u := rfl
          have b0 : (0 : Int) ≤ (h : Int) := by omega
          have b1 : (h : Int) < (n : Int) := by omega
          have tb1 : (h : Int).toNat = h := rfl
          have HXC : Hid (∀ W, Below w.heap.size w W → W.cell? ⟨b, off + u * 5, none⟩ = some (.int .i64 x.f.W) ∧ W.cell? ⟨b, off + u * 5 + 1, none⟩ = some (.int .i64 x.f.H) ∧ W.cell? ⟨b, off + u * 5 + 2, none⟩ = some (.slice x.ya x.yn x.yc) ∧ W.cell? ⟨b, off + u * 5 + 3, none⟩ = some (.slice x.ua x.un x.uc) ∧ W.cell? ⟨b, off + u * 5 + 4, none⟩ = some (.slice x.va x.vn x.vc)) := Lib.hid (fun W hW =>
            have e : ∀ (bb o : Nat) (v : Value), bb < w.heap.size → w.cell? ⟨bb, o, none⟩ = some v → W.cell? ⟨bb, o, none⟩ = some v := fun bb o v h1 h2 => (hW.cell (p := ⟨bb, o, none⟩) h1).trans h2
            ⟨e _ _ _ hbf xc0, e _ _ _ hbf xc1, e _ _ _ hbf xc2, e _ _ _ hbf xc3, e _ _ _ hbf xc4⟩)
          have HYC : Hid (∀ W, Below w.heap.size w W → W.cell? ⟨b, off + h * 5, none⟩ = some (.int .i64 y.f.W) ∧ W.cell? ⟨b, off + h * 5 + 1, none⟩ = some (.int .i64 y.f.H) ∧ W.cell? ⟨b, off + h * 5 + 2, none⟩ = some (.slice y.ya y.yn y.yc) ∧ W.cell? ⟨b, off + h * 5 + 3, none⟩ = some (.slice y.ua y.un y.uc) ∧ W.cell? ⟨b, off + h * 5 + 4, none⟩ = some (.slice y.va y.vn y.vc)) := Lib.hid (fun W hW =>
            have e : ∀ (bb o : Nat) (v : Value), bb < w.heap.size → w.cell? ⟨bb, o, none⟩ = some v → W.cell? ⟨bb, o, none⟩ = some v := fun bb o v h1 h2 => (hW.cell (p := ⟨bb, o, none⟩) h1).trans h2
            ⟨e _ _ _ hbf yc0, e _ _ _ hbf yc1, e _ _ _ hbf yc2, e _ _ _ hbf yc3, e _ _ _ hbf yc4⟩)
          clear hxx hyy hox hoy xc0 xc1 xc2 xc3 xc4 yc0 yc1 yc2 yc3 yc4 sx sy hsz hu hh hm
          cases hr : eqFldF x.f y.f m with
          | false =>
            have HNX := Lib.hid ((rep_next (HRB.out.trans hr) HL1.out HN1.out).2 rfl)
            rw [hr] at HEF
            clear hr
            go_upto_region 7 with fail
            refine wp_region_fixedW (rpV b off n c j u h m x.val y.val false) (fun _ w' => QGo w A1 n1 c1 L1 w') (by kernel_rfl) (by kernel_rfl) (by kernel_rfl) ?h0 ?hstep ?hend
            case h0 => exact HQG.out.drew
            case hstep =>
              intro k o ho D ac wx fr hG hcl hDi hpre
              obtain ⟨x1, x2, x3, x4, x5⟩ := HXC.out wx hG.be
              obtain ⟨y1, y2, y3, y4, y5⟩ := HYC.out wx hG.be
              have o0 : ac.tmps[0]?.getD undef = .slice (some ⟨b, off, none⟩) n c := fr.oldT 0 rfl
              have o4 : ac.tmps[4]?.getD undef = .int .i64 (j : Int) := fr.oldT 4 rfl
              have hkn : k < 18 := (List.getElem?_eq_some_iff.1 ho).1
              rcases (show k = 0 ∨ k = 1 ∨ k = 2 ∨ k = 3 ∨ k = 4 ∨ k = 5 ∨ k = 6 ∨ k = 7 ∨ k = 8 ∨ k = 9 ∨ k = 10 ∨ k = 11 ∨ k = 12 ∨ k = 13 ∨ k = 14 ∨ k = 15 ∨ k = 16 ∨ k = 17 by omega) with rfl | rfl | rfl | rfl | rfl | rfl | rfl | rfl | rfl | rfl | rfl | rfl | rfl | rfl | rfl | rfl | rfl | rfl
              all_goals (simp only [List.getElem?_cons_zero, List.getElem?_cons_succ, Option.some.injEq] at ho; subst ho)
              · refine ⟨true, rfl, fun _ => wp_value (w' := wx) ?_ ⟨rfl, hG⟩, (fun h => by cases h)⟩
                simp [execOp, o4, rpV, go_sem]
              · have f0 := fr.atT 0 (hpre ⟨0, .data⟩ (by simp) rfl) rfl
                refine ⟨true, rfl, fun _ => wp_value (w' := wx) ?_ ⟨rfl, hG⟩, (fun h => by cases h)⟩
                simp [execOp, f0, rpV, go_sem, d2, d2n]
              · have f1 := fr.atT 1 (hpre ⟨1, .data⟩ (by simp) rfl) rfl
                refine ⟨true, rfl, fun _ => wp_value (w' := wx) ?_ ⟨rfl, hG⟩, (fun h => by cases h)⟩
                simp [execOp, f1, rpV, go_sem]
              · have dg : D 2 = true := hpre ⟨2, .guard⟩ (by simp) rfl
                refine ⟨true, (wanted_of (x := true) (want := true) (j := 2) fr rfl dg rfl rfl).trans rfl, fun _ => wp_value (w' := wx) ?_ ⟨rfl, hG⟩, (fun h => by cases h)⟩
                simp [execOp, o0, rpV, go_sem]
              · have dg : D 2 = true := hpre ⟨2, .guard⟩ (by simp) rfl
                refine ⟨true, (wanted_of (x := true) (want := true) (j := 2) fr rfl dg rfl rfl).trans rfl, fun _ => wp_value (w' := wx) ?_ ⟨rfl, hG⟩, (fun h => by cases h)⟩
                simp [execOp, o4, rpV, go_sem]
              · have dg : D 2 = true := hpre ⟨2, .guard⟩ (by simp) rfl
                have f4 := fr.atT 4 (hpre ⟨4, .data⟩ (by simp) rfl) rfl
                refine ⟨true, (wanted_of (x := true) (want := true) (j := 2) fr rfl dg rfl rfl).trans rfl, fun _ => wp_value (w' := wx) ?_ ⟨rfl, hG⟩, (fun h => by cases h)⟩
                simp [execOp, f4, rpV, go_sem, qd, qe, wh]
              · have dg : D 2 = true := hpre ⟨2, .guard⟩ (by simp) rfl
                have f5 := fr.atT 5 (hpre ⟨5, .data⟩ (by simp) rfl) rfl
                refine ⟨true, (wanted_of (x := true) (want := true) (j := 2) fr rfl dg rfl rfl).trans rfl, fun _ => wp_value (w' := wx) ?_ ⟨rfl, hG⟩, (fun h => by cases h)⟩
                simp [execOp, f5, rpV, go_sem, wu]
              · have dg : D 2 = true := hpre ⟨2, .guard⟩ (by simp) rfl
                have f3 := fr.atT 3 (hpre ⟨3, .data⟩ (by simp) rfl) rfl
                have f6 := fr.atT 6 (hpre ⟨6, .data⟩ (by simp) rfl) rfl
                refine ⟨true, (wanted_of (x := true) (want := true) (j := 2) fr rfl dg rfl rfl).trans rfl, fun _ => wp_value (w' := wx) ?_ ⟨rfl, hG⟩, (fun h => by cases h)⟩
                simp [execOp, f3, f6, rpV, go_sem, a0, a1, ta1]
              · have dg : D 2 = true := hpre ⟨2, .guard⟩ (by simp) rfl
                have f7 := fr.atT 7 (hpre ⟨7, .data⟩ (by simp) rfl) rfl
                refine ⟨true, (wanted_of (x := true) (want := true) (j := 2) fr rfl dg rfl rfl).trans rfl, fun _ => wp_value (w' := wx) ?_ ⟨rfl, hG⟩, (fun h => by cases h)⟩
                simp [execOp, f7, rpV, go_sem, x1, x2, x3, x4, x5, FA.val]
              · have dg : D 2 = true := hpre ⟨2, .guard⟩ (by simp) rfl
                refine ⟨true, (wanted_of (x := true) (want := true) (j := 2) fr rfl dg rfl rfl).trans rfl, fun _ => wp_value (w' := wx) ?_ ⟨rfl, hG⟩, (fun h => by cases h)⟩
                simp [execOp, o0, rpV, go_sem]
              · have dg : D 2 = true := hpre ⟨2, .guard⟩ (by simp) rfl
                refine ⟨true, (wanted_of (x := true) (want := true) (j := 2) fr rfl dg rfl rfl).trans rfl, fun _ => wp_value (w' := wx) ?_ ⟨rfl, hG⟩, (fun h => by cases h)⟩
                simp [execOp, o4, rpV, go_sem]
              · have dg : D 2 = true := hpre ⟨2, .guard⟩ (by simp) rfl
                have f10 := fr.atT 10 (hpre ⟨10, .data⟩ (by simp) rfl) rfl
                refine ⟨true, (wanted_of (x := true) (want := true) (j := 2) fr rfl dg rfl rfl).trans rfl, fun _ => wp_value (w' := wx) ?_ ⟨rfl, hG⟩, (fun h => by cases h)⟩
                simp [execOp, f10, rpV, go_sem, qd, qe, wh]
              · have dg : D 2 = true := hpre ⟨2, .guard⟩ (by simp) rfl
                have f9 := fr.atT 9 (hpre ⟨9, .data⟩ (by simp) rfl) rfl
                have f11 := fr.atT 11 (hpre ⟨11, .data⟩ (by simp) rfl) rfl
                refine ⟨true, (wanted_of (x := true) (want := true) (j := 2) fr rfl dg rfl rfl).trans rfl, fun _ => wp_value (w' := wx) ?_ ⟨rfl, hG⟩, (fun h => by cases h)⟩
                simp [execOp, f9, f11, rpV, go_sem, b0, b1, tb1]
              · have dg : D 2 = true := hpre ⟨2, .guard⟩ (by simp) rfl
                have f12 := fr.atT 12 (hpre ⟨12, .data⟩ (by simp) rfl) rfl
                refine ⟨true, (wanted_of (x := true) (want := true) (j := 2) fr rfl dg rfl rfl).trans rfl, fun _ => wp_value (w' := wx) ?_ ⟨rfl, hG⟩, (fun h => by cases h)⟩
                simp [execOp, f12, rpV, go_sem, y1, y2, y3, y4, y5, FA.val]
              · have dg : D 2 = true := hpre ⟨2, .guard⟩ (by simp) rfl
                refine ⟨true, (wanted_of (x := true) (want := true) (j := 2) fr rfl dg rfl rfl).trans rfl, fun _ => wp_value (w' := wx) ?_ ⟨rfl, hG⟩, (fun h => by cases h)⟩
                simp [execOp, o4, rpV, go_sem]
              · have dg : D 2 = true := hpre ⟨2, .guard⟩ (by simp) rfl
                have f14 := fr.atT 14 (hpre ⟨14, .data⟩ (by simp) rfl) rfl
                refine ⟨true, (wanted_of (x := true) (want := true) (j := 2) fr rfl dg rfl rfl).trans rfl, fun _ => wp_value (w' := wx) ?_ ⟨rfl, hG⟩, (fun h => by cases h)⟩
                simp [execOp, f14, rpV, go_sem, md, me]
              · have dg : D 2 = true := hpre ⟨2, .guard⟩ (by simp) rfl
                have f8 := fr.atT 8 (hpre ⟨8, .data⟩ (by simp) rfl) rfl
                have e8 := fr.at_ 8 (hpre ⟨8, .data⟩ (by simp) rfl) rfl
                have f13 := fr.atT 13 (hpre ⟨13, .data⟩ (by simp) rfl) rfl
                have e13 := fr.at_ 13 (hpre ⟨13, .data⟩ (by simp) rfl) rfl
                have f15 := fr.atT 15 (hpre ⟨15, .data⟩ (by simp) rfl) rfl
                have e15 := fr.at_ 15 (hpre ⟨15, .data⟩ (by simp) rfl) rfl
                refine ⟨true, (wanted_of (x := true) (want := true) (j := 2) fr rfl dg rfl rfl).trans rfl, fun _ => ?_, (fun h => by cases h)⟩
                refine wp_called (f := 25) (args := #[x.val, y.val, .int .i64 (m : Int)]) ?_ (HEF.out _ hG.be) ?_
                · simp [execOp, resolve, invoke, f8, e8, f13, e13, f15, e15, rpV, go_sem]
                · rintro e w' ⟨rfl, hb9⟩
                  exact ⟨_, rfl, rfl, hG.ext hb9⟩
              · have f2 := fr.atT 2 (hpre ⟨2, .data⟩ (by simp) rfl) rfl
                have f16 := fr.atT 16 (hpre ⟨16, .data⟩ (by simp) rfl) rfl
                refine ⟨true, rfl, fun _ => wp_value (w' := wx) ?_ ⟨rfl, hG⟩, (fun h => by cases h)⟩
                simp [execOp, f2, f16, rpV, go_sem]
            case hend =>
              intro D w7 hG hall
              have HG7 := Lib.hid hG.bx
              have HO7 := Lib.hid hG.ow
              clear hall hG
              simp only [putsU, Act.put, List.setIfInBounds_toArray, List.set_cons_succ, List.set_cons_zero, Nat.zero_add, Nat.reduceAdd, rpV]
              go_wp2_with fail
              go_roundw
              case rel => exact ⟨j + 1, n1, A1, c1, by omega, by go_num, HNX.out.1, HG7.out, by rw [HNX.out.2]; exact HO7.out⟩
              case measure => (simp [intOf]; try omega)
          | true =>
            have HNX := Lib.hid ((rep_next (HRB.out.trans hr) HL1.out HN1.out).1 rfl)
            rw [hr] at HEF
            clear hr
            go_upto_region 7 with fail
            refine wp_region_fixedW (rpV b off n c j u h m x.val y.val true) (fun _ w' => QGo w A1 n1 c1 L1 w') (by kernel_rfl) (by kernel_rfl) (by kernel_rfl) ?h0 ?hstep ?hend
            case h0 => exact HQG.out.drew
            case hstep =>
              intro k o ho D ac wx fr hG hcl hDi hpre
              obtain ⟨x1, x2, x3, x4, x5⟩ := HXC.out wx hG.be
              obtain ⟨y1, y2, y3, y4, y5⟩ := HYC.out wx hG.be
              have o0 : ac.tmps[0]?.getD undef = .slice (some ⟨b, off, none⟩) n c := fr.oldT 0 rfl
              have o4 : ac.tmps[4]?.getD undef = .int .i64 (j : Int) := fr.oldT 4 rfl
              have hkn : k < 18 := (List.getElem?_eq_some_iff.1 ho).1
              rcases (show k = 0 ∨ k = 1 ∨ k = 2 ∨ k = 3 ∨ k = 4 ∨ k = 5 ∨ k = 6 ∨ k = 7 ∨ k = 8 ∨ k = 9 ∨ k = 10 ∨ k = 11 ∨ k = 12 ∨ k = 13 ∨ k = 14 ∨ k = 15 ∨ k = 16 ∨ k = 17 by omega) with rfl | rfl | rfl | rfl | rfl | rfl | rfl | rfl | rfl | rfl | rfl | rfl | rfl | rfl | rfl | rfl | rfl | rfl
              all_goals (simp only [List.getElem?_cons_zero, List.getElem?_cons_succ, Option.some.injEq] at ho; subst ho)
              · refine ⟨true, rfl, fun _ => wp_value (w' := wx) ?_ ⟨rfl, hG⟩, (fun h => by cases h)⟩
                simp [execOp, o4, rpV, go_sem]
              · have f0 := fr.atT 0 (hpre ⟨0, .data⟩ (by simp) rfl) rfl
                refine ⟨true, rfl, fun _ => wp_value (w' := wx) ?_ ⟨rfl, hG⟩, (fun h => by cases h)⟩
                simp [execOp, f0, rpV, go_sem, d2, d2n]
              · have f1 := fr.atT 1 (hpre ⟨1, .data⟩ (by simp) rfl) rfl
                refine ⟨true, rfl, fun _ => wp_value (w' := wx) ?_ ⟨rfl, hG⟩, (fun h => by cases h)⟩
                simp [execOp, f1, rpV, go_sem]
              · have dg : D 2 = true := hpre ⟨2, .guard⟩ (by simp) rfl
                refine ⟨true, (wanted_of (x := true) (want := true) (j := 2) fr rfl dg rfl rfl).trans rfl, fun _ => wp_value (w' := wx) ?_ ⟨rfl, hG⟩, (fun h => by cases h)⟩
                simp [execOp, o0, rpV, go_sem]
              · have dg : D 2 = true := hpre ⟨2, .guard⟩ (by simp) rfl
                refine ⟨true, (wanted_of (x := true) (want := true) (j := 2) fr rfl dg rfl rfl).trans rfl, fun _ => wp_value (w' := wx) ?_ ⟨rfl, hG⟩, (fun h => by cases h)⟩
                simp [execOp, o4, rpV, go_sem]
              · have dg : D 2 = true := hpre ⟨2, .guard⟩ (by simp) rfl
                have f4 := fr.atT 4 (hpre ⟨4, .data⟩ (by simp) rfl) rfl
                refine ⟨true, (wanted_of (x := true) (want := true) (j := 2) fr rfl dg rfl rfl).trans rfl, fun _ => wp_value (w' := wx) ?_ ⟨rfl, hG⟩, (fun h => by cases h)⟩
                simp [execOp, f4, rpV, go_sem, qd, qe, wh]
              · have dg : D 2 = true := hpre ⟨2, .guard⟩ (by simp) rfl
                have f5 := fr.atT 5 (hpre ⟨5, .data⟩ (by simp) rfl) rfl
                refine ⟨true, (wanted_of (x := true) (want := true) (j := 2) fr rfl dg rfl rfl).trans rfl, fun _ => wp_value (w' := wx) ?_ ⟨rfl, hG⟩, (fun h => by cases h)⟩
                simp [execOp, f5, rpV, go_sem, wu]
              · have dg : D 2 = true := hpre ⟨2, .guard⟩ (by simp) rfl
                have f3 := fr.atT 3 (hpre ⟨3, .data⟩ (by simp) rfl) rfl
                have f6 := fr.atT 6 (hpre ⟨6, .data⟩ (by simp) rfl) rfl
                refine ⟨true, (wanted_of (x := true) (want := true) (j := 2) fr rfl dg rfl rfl).trans rfl, fun _ => wp_value (w' := wx) ?_ ⟨rfl, hG⟩, (fun h => by cases h)⟩
                simp [execOp, f3, f6, rpV, go_sem, a0, a1, ta1]
              · have dg : D 2 = true := hpre ⟨2, .guard⟩ (by simp) rfl
                have f7 := fr.atT 7 (hpre ⟨7, .data⟩ (by simp) rfl) rfl
                refine ⟨true, (wanted_of (x := true) (want := true) (j := 2) fr rfl dg rfl rfl).trans rfl, fun _ => wp_value (w' := wx) ?_ ⟨rfl, hG⟩, (fun h => by cases h)⟩
                simp [execOp, f7, rpV, go_sem, x1, x2, x3, x4, x5, FA.val]
              · have dg : D 2 = true := hpre ⟨2, .guard⟩ (by simp) rfl
                refine ⟨true, (wanted_of (x := true) (want := true) (j := 2) fr rfl dg rfl rfl).trans rfl, fun _ => wp_value (w' := wx) ?_ ⟨rfl, hG⟩, (fun h => by cases h)⟩
                simp [execOp, o0, rpV, go_sem]
              · have dg : D 2 = true := hpre ⟨2, .guard⟩ (by simp) rfl
                refine ⟨true, (wanted_of (x := true) (want := true) (j := 2) fr rfl dg rfl rfl).trans rfl, fun _ => wp_value (w' := wx) ?_ ⟨rfl, hG⟩, (fun h => by cases h)⟩
                simp [execOp, o4, rpV, go_sem]
              · have dg : D 2 = true := hpre ⟨2, .guard⟩ (by simp) rfl
                have f10 := fr.atT 10 (hpre ⟨10, .data⟩ (by simp) rfl) rfl
                refine ⟨true, (wanted_of (x := true) (want := true) (j := 2) fr rfl dg rfl rfl).trans rfl, fun _ => wp_value (w' := wx) ?_ ⟨rfl, hG⟩, (fun h => by cases h)⟩
                simp [execOp, f10, rpV, go_sem, qd, qe, wh]
              · have dg : D 2 = true := hpre ⟨2, .guard⟩ (by simp) rfl
                have f9 := fr.atT 9 (hpre ⟨9, .data⟩ (by simp) rfl) rfl
                have f11 := fr.atT 11 (hpre ⟨11, .data⟩ (by simp) rfl) rfl
                refine ⟨true, (wanted_of (x := true) (want := true) (j := 2) fr rfl dg rfl rfl).trans rfl, fun _ => wp_value (w' := wx) ?_ ⟨rfl, hG⟩, (fun h => by cases h)⟩
                simp [execOp, f9, f11, rpV, go_sem, b0, b1, tb1]
              · have dg : D 2 = true := hpre ⟨2, .guard⟩ (by simp) rfl
                have f12 := fr.atT 12 (hpre ⟨12, .data⟩ (by simp) rfl) rfl
                refine ⟨true, (wanted_of (x := true) (want := true) (j := 2) fr rfl dg rfl rfl).trans rfl, fun _ => wp_value (w' := wx) ?_ ⟨rfl, hG⟩, (fun h => by cases h)⟩
                simp [execOp, f12, rpV, go_sem, y1, y2, y3, y4, y5, FA.val]
              · have dg : D 2 = true := hpre ⟨2, .guard⟩ (by simp) rfl
                refine ⟨true, (wanted_of (x := true) (want := true) (j := 2) fr rfl dg rfl rfl).trans rfl, fun _ => wp_value (w' := wx) ?_ ⟨rfl, hG⟩, (fun h => by cases h)⟩
                simp [execOp, o4, rpV, go_sem]
              · have dg : D 2 = true := hpre ⟨2, .guard⟩ (by simp) rfl
                have f14 := fr.atT 14 (hpre ⟨14, .data⟩ (by simp) rfl) rfl
                refine ⟨true, (wanted_of (x := true) (want := true) (j := 2) fr rfl dg rfl rfl).trans rfl, fun _ => wp_value (w' := wx) ?_ ⟨rfl, hG⟩, (fun h => by cases h)⟩
                simp [execOp, f14, rpV, go_sem, md, me]
              · have dg : D 2 = true := hpre ⟨2, .guard⟩ (by simp) rfl
                have f8 := fr.atT 8 (hpre ⟨8, .data⟩ (by simp) rfl) rfl
                have e8 := fr.at_ 8 (hpre ⟨8, .data⟩ (by simp) rfl) rfl
                have f13 := fr.atT 13 (hpre ⟨13, .data⟩ (by simp) rfl) rfl
                have e13 := fr.at_ 13 (hpre ⟨13, .data⟩ (by simp) rfl) rfl
                have f15 := fr.atT 15 (hpre ⟨15, .data⟩ (by simp) rfl) rfl
                have e15 := fr.at_ 15 (hpre ⟨15, .data⟩ (by simp) rfl) rfl
                refine ⟨true, (wanted_of (x := true) (want := true) (j := 2) fr rfl dg rfl rfl).trans rfl, fun _ => ?_, (fun h => by cases h)⟩
                refine wp_called (f := 25) (args := #[x.val, y.val, .int .i64 (m : Int)]) ?_ (HEF.out _ hG.be) ?_
                · simp [execOp, resolve, invoke, f8, e8, f13, e13, f15, e15, rpV, go_sem]
                · rintro e w' ⟨rfl, hb9⟩
                  exact ⟨_, rfl, rfl, hG.ext hb9⟩
              · have f2 := fr.atT 2 (hpre ⟨2, .data⟩ (by simp) rfl) rfl
                have f16 := fr.atT 16 (hpre ⟨16, .data⟩ (by simp) rfl) rfl
                refine ⟨true, rfl, fun _ => wp_value (w' := wx) ?_ ⟨rfl, hG⟩, (fun h => by cases h)⟩
                simp [execOp, f2, f16, rpV, go_sem]
            case hend =>
              intro D w7 hG hall
              have HG7 := Lib.hid hG.bx
              have HO7 := Lib.hid hG.ow
              clear hall hG
              simp only [putsU, Act.put, List.setIfInBounds_toArray, List.set_cons_succ, List.set_cons_zero, Nat.zero_add, Nat.reduceAdd, rpV]
              obtain ⟨g1, g2, g3, g4, g5, g6⟩ := HG7.out.facts
              go_wp2_with (first | (at_builtin; go_must (refine wpList_appBig _ rfl (.tmp 33) (.tmp 35) 22 rfl 3 (.int .i64 0) 1 8 Try.underlying22 Try.infoI rfl (by decide) (w.heap.size + 2) (.slice A1 n1 c1) n1 _ rfl (own_alloc HO7.out _) (some ⟨w7.heap.size, 0, none⟩) 1 1 [.int .i64 j] rfl (Rw.lit (p := fun _ => True) _ _ _ rfl 1 1 rfl rfl trivial) (by simp [Value.oneCell']) (by simp only [maxLen]; omega) (by omega) (by simp; omega) ?_; intro v3 w4 ho3 hg3 ha3; obtain ⟨A3, c3, hv3⟩ := own_slice ho3; subst hv3; have HG4 := Lib.hid (HG7.out.app HO7.out hg3); obtain ⟨k1, k2, k3, k4, k5, k6⟩ := HG4.out.facts)))
              go_roundw
              case rel => exact ⟨j + 1, n1 + 1, A3, c3, by omega, by go_num, HNX.out.1, HG4.out.put _, by rw [HNX.out.2]; exact own_set ho3 (by dsimp only; omega)⟩
              case measure => (simp [intOf]; try omega)
      · have dj : decide ((j : Int) < 2 * (n : Int)) = false := decide_eq_false (by omega)
        obtain ⟨e1, e2⟩ := rep_yes HT.out
        have hj2 : j = 2 * n := by omega
        rw [HLX.out, ← hj2, HL1.out] at e2
        have HE1 := Lib.hid e1
        have HE2 := Lib.hid e2
        clear e1 e2
        obtain ⟨g1, g2, g3, g4, g5, g6⟩ := HQG.out.bx.facts
        have HRT := Lib.hid (HQG.out.bx.leaveV (.slice A1 n1 c1) 0)
        have HO2 := Lib.hid (own_set (own_set HQG.out.ow (a := ⟨w.heap.size, 0, none⟩) (u := .slice A1 n1 c1) (by dsimp only; omega)) (a := ⟨w.heap.size + 1, 0, none⟩) (u := .int .i64 0) (by dsimp only; omega))
        go_wp2_with fail
        obtain ⟨z1, z2, zbb⟩ := HRT.out
        refine leaves_cons (f := 23) (args := #[.pointer (some ⟨w.heap.size, 0, none⟩), .pointer (some ⟨w.heap.size + 1, 0, none⟩)]) (by simp) (by simp [go_sem]) ?_
        refine (rep_idle _ _ _).mono ?_
        rintro e u' w'' ⟨rfl, rfl, rfl⟩
        obtain ⟨A2, c2, hv, hrw⟩ := own_rw (p := (w.heap.size ≤ ·)) HO2.out (fun _ h => by omega)
        injection hv with q1 q2 q3
        subst q1 q3
        exact ⟨.tuple #[.slice A1 n1 c1, .int .i64 0], by simp [results, Try.results9, go_sem, z1, z2], A1, n1, c1, by rw [HE1.out], by rw [HE2.out]; exact HN1.out, by rw [HE2.out]; exact hrw, zbb⟩
end Go.Proofs.Ytclainbjidajbaa
