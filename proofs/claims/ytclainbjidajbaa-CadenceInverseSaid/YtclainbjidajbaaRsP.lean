/- cadence.Restore. -/
import Derived.Test.YtclainbjidajbaaPlM
import Derived.Test.YtclainbjidajbaaPulP
namespace Go.Proofs.Ytclainbjidajbaa
open Go.RowKit

theorem rest_idle (p q : Addr) (w : World) :
    CallsD Try.prog 33 #[.pointer (some p), .pointer (some q)] .returning w fun e u' w' => e = .returned (.tuple #[]) ∧ u' = .returning ∧ w' = w := by
  refine callsD_of_wpS Try.func33 rfl fun c₀ cs hu => ?_
  apply wpS_seq
  apply wpS_region
  simp [wpOpsS, go_sem, recoverD, hu, Try.ntmps33, Exit.thenS]
  refine wpS_cond (t := false) (by simp [Act.eval, Array.replicate]) ?_
  simp only [Bool.false_eq_true, if_false]
  refine wpS_of_wp (wp_skip ?_)
  cases c₀
  simp_all [bodyPostS, results, Try.results33]
structure PGQ (w : World) (base : Nat) (v : Value) (n1 : Nat) (ys : List FA) (jf : Fr) (env : PE) (d1 d2 d3 d4 : Bool) (W : World) : Prop where
  be : Below w.heap.size w W
  bs : base ≤ W.heap.size
  r0 : d3 = false → OwnF (base ≤ ·) W base v ys
  zo : d1 = true → d3 = false → FrmOk (fun b => base ≤ b ∧ some b ≠ v.ownBlock) W env.z ∧ env.z.f = jf
  zb : d2 = true → d3 = false → Bx W env.gb 27 #[.int .i64 env.z.f.W, .int .i64 env.z.f.H, .slice env.z.ya env.z.yn env.z.yc, .slice env.z.ua env.z.un env.z.uc, .slice env.z.va env.z.vn env.z.vc] ∧ some env.gb ≠ v.ownBlock
  r1 : d3 = true → OwnF (base ≤ ·) W base (.slice env.A3 (n1 + 1) env.c3) (ys ++ [env.z]) ∧ env.z.f = jf ∧ n1 + 1 ≤ env.c3
  b0 : d4 = false → Bx W w.heap.size 23 #[v]
  b1 : d4 = true → Bx W w.heap.size 23 #[.slice env.A3 (n1 + 1) env.c3]
  b2 : Bx W (w.heap.size + 1) 28 #[.int .i64 0]
def ruV (A1 : Option Addr) (n1 c1 b off n c ta tb : Nat) (xv yv : Value) (env : PE) : Nat → Value
  | 0 => .slice A1 n1 c1
  | 1 => .slice (some ⟨b, off, none⟩) n c
  | 2 => .int .i64 (ta : Int)
  | 3 => .pointer (some ⟨b, off + ta * 5, none⟩)
  | 4 => xv
  | 5 => .slice (some ⟨b, off, none⟩) n c
  | 6 => .int .i64 (tb : Int)
  | 7 => .pointer (some ⟨b, off + tb * 5, none⟩)
  | 8 => yv
  | 9 => env.z.val
  | 10 => .slice (some ⟨env.gb, 0, none⟩) 1 1
  | 11 => .slice env.A3 (n1 + 1) env.c3
  | _ => undef
theorem ruV_env {A1 : Option Addr} {n1 c1 b off n c ta tb : Nat} {xv yv : Value} {env : PE} {z : FA} {j : Nat} (h1 : j ≠ 9) (h2 : j ≠ 10) (h3 : j ≠ 11) (h4 : j ≠ 12) (hl : j < 13) : ruV A1 n1 c1 b off n c ta tb xv yv ⟨z, env.gb, env.A3, env.c3⟩ j = ruV A1 n1 c1 b off n c ta tb xv yv env j := by
  rcases (show j = 0 ∨ j = 1 ∨ j = 2 ∨ j = 3 ∨ j = 4 ∨ j = 5 ∨ j = 6 ∨ j = 7 ∨ j = 8 ∨ j = 9 ∨ j = 10 ∨ j = 11 ∨ j = 12 by omega) with rfl | rfl | rfl | rfl | rfl | rfl | rfl | rfl | rfl | rfl | rfl | rfl | rfl <;> first | rfl | exact absurd rfl h1 | exact absurd rfl h2 | exact absurd rfl h3 | exact absurd rfl h4
theorem ruV_env' {A1 : Option Addr} {n1 c1 b off n c ta tb : Nat} {xv yv : Value} {env : PE} {g : Nat} {j : Nat} {z : FA} (hz : z = env.z) (h2 : j ≠ 10) (h3 : j ≠ 11) (h4 : j ≠ 12) (hl : j < 13) : ruV A1 n1 c1 b off n c ta tb xv yv ⟨z, g, env.A3, env.c3⟩ j = ruV A1 n1 c1 b off n c ta tb xv yv env j := by
  subst hz
  rcases (show j = 0 ∨ j = 1 ∨ j = 2 ∨ j = 3 ∨ j = 4 ∨ j = 5 ∨ j = 6 ∨ j = 7 ∨ j = 8 ∨ j = 9 ∨ j = 10 ∨ j = 11 ∨ j = 12 by omega) with rfl | rfl | rfl | rfl | rfl | rfl | rfl | rfl | rfl | rfl | rfl | rfl | rfl <;> first | rfl | exact absurd rfl h2 | exact absurd rfl h3 | exact absurd rfl h4
theorem ruV_env2 {A1 : Option Addr} {n1 c1 b off n c ta tb : Nat} {xv yv : Value} {env : PE} {A3 : Option Addr} {c3 : Nat} {j : Nat} {z : FA} {g : Nat} (hz : z = env.z) (hg : g = env.gb) (h3 : j ≠ 11) (h4 : j ≠ 12) (hl : j < 13) : ruV A1 n1 c1 b off n c ta tb xv yv ⟨z, g, A3, c3⟩ j = ruV A1 n1 c1 b off n c ta tb xv yv env j := by
  subst hz hg
  rcases (show j = 0 ∨ j = 1 ∨ j = 2 ∨ j = 3 ∨ j = 4 ∨ j = 5 ∨ j = 6 ∨ j = 7 ∨ j = 8 ∨ j = 9 ∨ j = 10 ∨ j = 11 ∨ j = 12 by omega) with rfl | rfl | rfl | rfl | rfl | rfl | rfl | rfl | rfl | rfl | rfl | rfl | rfl <;> first | rfl | exact absurd rfl h3 | exact absurd rfl h4

/-- One step of the search. -/
theorem ix_step {g : Int × Int → Bool} {l : List (Int × Int)} {j : Nat} {x : Int × Int} {tv : Int} (h : l[j]? = some x) (htv : tv = ixS g (l.take j) 0) :
    (decide (tv < 0) = true ∧ g x = true ∧ Hid (ixS g (l.take (j + 1)) 0 = (j : Int))) ∨ (decide (tv < 0) = true ∧ g x = false ∧ Hid (ixS g (l.take (j + 1)) 0 = tv)) ∨ (decide (tv < 0) = false ∧ Hid (ixS g (l.take (j + 1)) 0 = tv)) := by
  have hj := (List.getElem?_eq_some_iff.1 h).1
  have hs := ixS_snoc g (l.take j) x
  rw [← take_snoc_at h, ← htv, List.length_take, Nat.min_eq_left (by omega)] at hs
  have hb := ixS_bd g (l.take j) 0
  rw [← htv] at hb
  by_cases h0 : tv < 0
  · rw [if_pos h0] at hs
    cases hg : g x with
    | true => rw [hg, if_pos rfl] at hs; exact .inl ⟨decide_eq_true h0, rfl, Lib.hid hs⟩
    | false => rw [hg, if_neg (by simp)] at hs; exact .inr (.inl ⟨decide_eq_true h0, rfl, Lib.hid (by omega)⟩)
  · rw [if_neg h0] at hs
    exact .inr (.inr ⟨decide_eq_false h0, Lib.hid hs⟩)
set_option maxRecDepth 100000 in
set_option maxHeartbeats 8000000 in
theorem cad_Restore {p q p' : Nat → Prop} (A : Option Addr) (n c : Nat) (xs : List FA) (B : Option Addr) (m d : Nat) (ws : List (Int × Int)) (w : World) (h : Frs p q w A n xs) (h' : Wvs p' w B m ws) (hn : n ≤ 100000000000000) (hm : m ≤ 100000000000000) :
    Calls Try.prog 16 #[.slice A n c, .slice B m d] w (RetPl w (restE (frs xs) ws) (restF (frs xs) ws)) := by
  have hmf : ∀ (fn : Fn) (first cap : Array Value) (w : World), (Instr.makeFunc fn first cap).run Try.prog w = .ok (.func fn first cap) w := fun _ _ _ _ => rfl
  have H := Lib.hid h
  have H' := Lib.hid h'
  have HLX : Hid ((frs xs).length = n) := Lib.hid (by simp [frs, h.1])
  have HWL := Lib.hid h'.1
  have HAL := Lib.hid (fun w h => cad_alike (p := p) (q := q) A n c xs w h hn)
  have HP0 := Lib.hid (PBx.start w)
  clear h h'
  by_cases hnm : n = m
  case neg =>
    obtain ⟨e1, e2⟩ := rest_len (fs := frs xs) (ws := ws) (by rw [HLX.out, HWL.out]; exact hnm)
    have HE1 := Lib.hid e1
    have HE2 := Lib.hid e2
    clear e1 e2
    have d02 : ((n : Int) != (m : Int)) = true := bne_iff_ne.2 (by omega)
    go_enter_defers Try.func16, Try.ntmps16
    go_upto_region 2 with fail
    generalize (w.alloc (.cells #[.slice none 0 0] 23)).alloc (.cells #[.int .i64 0] 28) = W0 at *
    have HPX := HP0
    obtain ⟨g1, g2, g3, g4, g5, g6⟩ := HPX.out.facts
    have HRT := Lib.hid (HPX.out.leave 1)
    go_wp2_with fail
    obtain ⟨z1, z2, zb⟩ := HRT.out
    refine leaves_cons (f := 33) (args := #[.pointer (some ⟨w.heap.size, 0, none⟩), .pointer (some ⟨w.heap.size + 1, 0, none⟩)]) (by simp) (by simp [go_sem]) ?_
    refine (rest_idle _ _ _).mono ?_
    rintro e u' w'' ⟨rfl, rfl, rfl⟩
    exact ⟨.tuple #[.slice none 0 0, .int .i64 1], by simp [results, Try.results16, go_sem, z1, z2], none, 0, 0, [], by rw [HE1.out], Frs.nil, HE2.out.symm, zb, Nat.le_refl _⟩
  case pos =>
  subst hnm
  go_enter_defers Try.func16, Try.ntmps16
  go_upto_region 2 with fail
  generalize (w.alloc (.cells #[.slice none 0 0] 23)).alloc (.cells #[.int .i64 0] 28) = W0 at *
  go_wp2_with fail
  refine (HAL.out _ (H.out.ext HP0.out.be)).mono ?_
  rintro e w1 ⟨rfl, hb1⟩
  have HPX := Lib.hid (HP0.out.ext hb1)
  clear hb1
  cases hal : alikeF (frs xs) with
  | false =>
    obtain ⟨e1, e2⟩ := rest_alike (ws := ws) hal
    have HE1 := Lib.hid e1
    have HE2 := Lib.hid e2
    clear e1 e2 hal
    obtain ⟨g1, g2, g3, g4, g5, g6⟩ := HPX.out.facts
    have HRT := Lib.hid (HPX.out.leave 1)
    go_wp2_with fail
    obtain ⟨z1, z2, zb⟩ := HRT.out
    refine leaves_cons (f := 33) (args := #[.pointer (some ⟨w.heap.size, 0, none⟩), .pointer (some ⟨w.heap.size + 1, 0, none⟩)]) (by simp) (by simp [go_sem]) ?_
    refine (rest_idle _ _ _).mono ?_
    rintro e u' w'' ⟨rfl, rfl, rfl⟩
    exact ⟨.tuple #[.slice none 0 0, .int .i64 1], by simp [results, Try.results16, go_sem, z1, z2], none, 0, 0, [], by rw [HE1.out], Frs.nil, HE2.out.symm, zb, Nat.le_refl _⟩
  | true =>
    have HT := Lib.hid hal
    clear hal
    go_wp2_with fail
    go_loopw [6, 27] (fun o i wr => ∃ (kk : Nat) (la : Int), kk ≤ n ∧ i = .int .i64 (kk : Int) ∧ o = .int .i64 la ∧ la = topF (ws.take kk) ∧ (∀ j x, j < kk → ws[j]? = some x → okR x = true) ∧ PBx w (.slice none 0 0) wr) (fun _ i _ => n - (intOf i).toNat)
    case atStart => exact ⟨0, 0, Nat.zero_le _, rfl, rfl, rfl, fun j x hj => absurd hj (Nat.not_lt_zero _), HPX.out⟩
    case round =>
      obtain ⟨kk, la, hk, rfl, rfl, hla, hok, hP⟩ := hrel
      have HOK := Lib.hid hok
      have HLA := Lib.hid hla
      clear hok hla HPX
      by_cases hlt : kk < n
      · obtain ⟨bl, ol, ⟨a, b2⟩, rfl, hbl, hx, hc0, hc1⟩ := (H'.out.ext hP.be).at_ hlt
        dsimp only at hc0 hc1
        have HX := Lib.hid hx
        have k0 : (0 : Int) ≤ (kk : Int) := by omega
        have k1 : (kk : Int) < (n : Int) := by omega
        have HPX := Lib.hid (hP.alloc (.cells #[.int .i64 a, .int .i64 b2] 46))
        clear hx
        rcases (by omega : a < 0 ∨ (0 ≤ a ∧ 256 ≤ a) ∨ (0 ≤ a ∧ a < 256 ∧ b2 < 0) ∨ (0 ≤ a ∧ a < 256 ∧ 0 ≤ b2 ∧ 256 ≤ b2) ∨ (0 ≤ a ∧ a < 256 ∧ 0 ≤ b2 ∧ b2 < 256)) with h | ⟨h1, h2⟩ | ⟨h1, h2, h3⟩ | ⟨h1, h2, h3, h4⟩ | ⟨h1, h2, h3, h4⟩
        case inr.inr.inr.inr =>
          have d1 : decide (a < 0) = false := decide_eq_false (by omega)
          have d2 : decide ((256 : Int) ≤ a) = false := decide_eq_false (by omega)
          have d3 : decide (b2 < 0) = false := decide_eq_false (by omega)
          have d4 : decide ((256 : Int) ≤ b2) = false := decide_eq_false (by omega)
          have wA : IntKind.i64.wrap (a + 1) = a + 1 := IntWalk.i64_in _ (by omega)
          have wB : IntKind.i64.wrap (b2 + 1) = b2 + 1 := IntWalk.i64_in _ (by omega)
          have hmx : ∀ (w : World) (ts : Array TypeId) (t : TypeId), (Builtin.max_ ts t #[.int .i64 la, .int .i64 (a + 1), .int .i64 (b2 + 1)]).run Try.prog w = .ok (.int .i64 (max (max la (a + 1)) (b2 + 1))) w := fun w ts t => run_max_mm3 ts t _ _ _ _ _ _
          clear hP
          go_wp2_with fail
          go_roundw
          case rel =>
            refine ⟨kk + 1, _, by omega, by go_num, rfl, ?_, fun j x hj hx => ?_, HPX.out⟩
            · rw [take_snoc_at HX.out, topF_snoc]
              have := HLA.out
              dsimp only
              omega
            · rcases Nat.lt_succ_iff_lt_or_eq.1 hj with h | rfl
              · exact HOK.out j x h hx
              · rw [HX.out] at hx
                injection hx with hx
                rw [← hx]
                exact okR_iff.2 ⟨h1, h2, h3, h4⟩
          case measure => (simp [intOf]; try omega)
        all_goals
          have hbad : okR (a, b2) = false := by rw [← Bool.not_eq_true, okR_iff]; dsimp only; omega
          obtain ⟨e1, e2⟩ := rest_bad (by rw [HLX.out, HWL.out]) HT.out (all_false (f := okR) HX.out hbad)
          have HE1 := Lib.hid e1
          have HE2 := Lib.hid e2
          clear e1 e2 hbad hP
        · have d1 : decide (a < 0) = true := decide_eq_true (by omega)
          obtain ⟨g1, g2, g3, g4, g5, g6⟩ := HPX.out.facts
          have HRT := Lib.hid (HPX.out.leave 1)
          go_wp2_with fail
          obtain ⟨z1, z2, zb⟩ := HRT.out
          refine leaves_cons (f := 33) (args := #[.pointer (some ⟨w.heap.size, 0, none⟩), .pointer (some ⟨w.heap.size + 1, 0, none⟩)]) (by simp) (by simp [go_sem]) ?_
          refine (rest_idle _ _ _).mono ?_
          rintro e u' w'' ⟨rfl, rfl, rfl⟩
          exact ⟨.tuple #[.slice none 0 0, .int .i64 1], by simp [results, Try.results16, go_sem, z1, z2], none, 0, 0, [], by rw [HE1.out], Frs.nil, HE2.out.symm, zb, Nat.le_refl _⟩
        · have d1 : decide (a < 0) = false := decide_eq_false (by omega)
          have d2 : decide ((256 : Int) ≤ a) = true := decide_eq_true (by omega)
          obtain ⟨g1, g2, g3, g4, g5, g6⟩ := HPX.out.facts
          have HRT := Lib.hid (HPX.out.leave 1)
          go_wp2_with fail
          obtain ⟨z1, z2, zb⟩ := HRT.out
          refine leaves_cons (f := 33) (args := #[.pointer (some ⟨w.heap.size, 0, none⟩), .pointer (some ⟨w.heap.size + 1, 0, none⟩)]) (by simp) (by simp [go_sem]) ?_
          refine (rest_idle _ _ _).mono ?_
          rintro e u' w'' ⟨rfl, rfl, rfl⟩
          exact ⟨.tuple #[.slice none 0 0, .int .i64 1], by simp [results, Try.results16, go_sem, z1, z2], none, 0, 0, [], by rw [HE1.out], Frs.nil, HE2.out.symm, zb, Nat.le_refl _⟩
        · have d1 : decide (a < 0) = false := decide_eq_false (by omega)
          have d2 : decide ((256 : Int) ≤ a) = false := decide_eq_false (by omega)
          have d3 : decide (b2 < 0) = true := decide_eq_true (by omega)
          obtain ⟨g1, g2, g3, g4, g5, g6⟩ := HPX.out.facts
          have HRT := Lib.hid (HPX.out.leave 1)
          go_wp2_with fail
          obtain ⟨z1, z2, zb⟩ := HRT.out
          refine leaves_cons (f := 33) (args := #[.pointer (some ⟨w.heap.size, 0, none⟩), .pointer (some ⟨w.heap.size + 1, 0, none⟩)]) (by simp) (by simp [go_sem]) ?_
          refine (rest_idle _ _ _).mono ?_
          rintro e u' w'' ⟨rfl, rfl, rfl⟩
          exact ⟨.tuple #[.slice none 0 0, .int .i64 1], by simp [results, Try.results16, go_sem, z1, z2], none, 0, 0, [], by rw [HE1.out], Frs.nil, HE2.out.symm, zb, Nat.le_refl _⟩
        · have d1 : decide (a < 0) = false := decide_eq_false (by omega)
          have d2 : decide ((256 : Int) ≤ a) = false := decide_eq_false (by omega)
          have d3 : decide (b2 < 0) = false := decide_eq_false (by omega)
          have d4 : decide ((256 : Int) ≤ b2) = true := decide_eq_true (by omega)
          obtain ⟨g1, g2, g3, g4, g5, g6⟩ := HPX.out.facts
          have HRT := Lib.hid (HPX.out.leave 1)
          go_wp2_with fail
          obtain ⟨z1, z2, zb⟩ := HRT.out
          refine leaves_cons (f := 33) (args := #[.pointer (some ⟨w.heap.size, 0, none⟩), .pointer (some ⟨w.heap.size + 1, 0, none⟩)]) (by simp) (by simp [go_sem]) ?_
          refine (rest_idle _ _ _).mono ?_
          rintro e u' w'' ⟨rfl, rfl, rfl⟩
          exact ⟨.tuple #[.slice none 0 0, .int .i64 1], by simp [results, Try.results16, go_sem, z1, z2], none, 0, 0, [], by rw [HE1.out], Frs.nil, HE2.out.symm, zb, Nat.le_refl _⟩
      · have hkn : kk = n := by omega
        subst hkn
        have HX0 := Lib.hid (List.take_of_length_le (l := ws) (i := kk) (by rw [HWL.out]; exact Nat.le_refl _))
        have hall : ws.all okR = true := all_true HWL.out HOK.out
        have HALL := Lib.hid hall
        have hla : la = topF ws := by have := HLA.out; rw [HX0.out] at this; exact this
        have htb := topF_bd (List.all_eq_true.1 hall)
        have HPX := Lib.hid hP
        clear hall hP
        by_cases hlong : 256 < kk
        · obtain ⟨e1, e2⟩ := rest_long (by rw [HLX.out, HWL.out]) HT.out HALL.out (by rw [HWL.out]; exact hlong)
          have HE1 := Lib.hid e1
          have HE2 := Lib.hid e2
          clear e1 e2 hla htb
          have d1 : decide (256 < (kk : Int)) = true := decide_eq_true (by omega)
          obtain ⟨g1, g2, g3, g4, g5, g6⟩ := HPX.out.facts
          have HRT := Lib.hid (HPX.out.leave 5)
          go_wp2_with fail
          obtain ⟨z1, z2, zb⟩ := HRT.out
          refine leaves_cons (f := 33) (args := #[.pointer (some ⟨w.heap.size, 0, none⟩), .pointer (some ⟨w.heap.size + 1, 0, none⟩)]) (by simp) (by simp [go_sem]) ?_
          refine (rest_idle _ _ _).mono ?_
          rintro e u' w'' ⟨rfl, rfl, rfl⟩
          exact ⟨.tuple #[.slice none 0 0, .int .i64 5], by simp [results, Try.results16, go_sem, z1, z2], none, 0, 0, [], by rw [HE1.out], Frs.nil, HE2.out.symm, zb, Nat.le_refl _⟩
        · have hk256 : kk ≤ 256 := by omega
          have d1 : decide (256 < (kk : Int)) = false := decide_eq_false (by omega)
          obtain ⟨SW, SH, hsz⟩ := alike_sz HT.out
          obtain ⟨T, hT⟩ := Int.eq_ofNat_of_zero_le htb.1
          have hT2 : T ≤ 256 := by omega
          have hlT : la = (T : Int) := by omega
          have HTT : Hid (topF ws = (T : Int)) := Lib.hid hT
          have HSZ := Lib.hid hsz
          clear hsz hla htb hT HLA
          subst hlT
          go_wp2_with fail
          go_loopw [62] (fun i wr => ∃ (f : Nat) (A1 : Option Addr) (c1 : Nat) (ys : List FA), f ≤ T ∧ i = .int .i64 (f : Int) ∧ ys.length = f ∧ frs ys = restL (frs xs) ws f ∧ (∀ j : Nat, j < f → hasR ws j = true) ∧ OwnF (w.heap.size + 2 ≤ ·) wr (w.heap.size + 2) (.slice A1 f c1) ys ∧ PBx w (.slice A1 f c1) wr) (fun i _ => T - (intOf i).toNat)
          case atStart => exact ⟨0, none, 0, [], Nat.zero_le _, rfl, rfl, by simp [frs, restL], fun j hj => absurd hj (Nat.not_lt_zero _), OwnF.nil, HPX.out⟩
          case round =>
            obtain ⟨f, A1, c1, ys, hf, rfl, hyl, hyf, hhas, ho, hP⟩ := hrel
            have HO := Lib.hid ho
            have HYF := Lib.hid hyf
            have HYL := Lib.hid hyl
            have HHAS := Lib.hid hhas
            have HPR := Lib.hid hP
            clear ho hyf hyl hhas hP HPX
            by_cases hft : f < T
            · have d2 : decide ((f : Int) < (T : Int)) = true := decide_eq_true (by omega)
              go_wp2_with fail
              go_loopw [10, 11, 67] (fun t u i wr2 => ∃ (j : Nat) (tv bv : Int), j ≤ kk ∧ i = .int .i64 (j : Int) ∧ t = .int .i64 tv ∧ tv = ixS (gT (f : Int)) (ws.take j) 0 ∧ u = .int .i64 bv ∧ bv = ixS (gB (f : Int)) (ws.take j) 0 ∧ Below wr.heap.size wr wr2) (fun _ _ i _ => kk - (intOf i).toNat)
              case atStart => exact ⟨0, -1, -1, Nat.zero_le _, rfl, rfl, rfl, rfl, rfl, Below.refl _ _⟩
              case round =>
                obtain ⟨j, tv, bv, hj, rfl, rfl, htv, rfl, hbv, hbj⟩ := hrel
                have HTV := Lib.hid htv
                have HBV := Lib.hid hbv
                have HBJ := Lib.hid hbj
                clear htv hbv hbj
                have HPJ := Lib.hid (HPR.out.ext HBJ.out)
                by_cases hjk : j < kk
                · obtain ⟨bl, ol, ⟨a, b2⟩, rfl, hbl, hx, hc0, hc1⟩ := (H'.out.ext HPJ.out.be).at_ hjk
                  dsimp only at hc0 hc1
                  have hT3 := ix_step hx HTV.out
                  have hB3 := ix_step hx HBV.out
                  have k0 : (0 : Int) ≤ (j : Int) := by omega
                  have k1 : (j : Int) < (kk : Int) := by omega
                  clear hx
                  rcases hT3 with ⟨dt, d4, HT3⟩ | ⟨dt, d4, HT3⟩ | ⟨dt, HT3⟩ <;> rcases hB3 with ⟨db, d5, HB3⟩ | ⟨db, d5, HB3⟩ | ⟨db, HB3⟩
                  all_goals
                    try (have d4' : (a == (f : Int)) = _ := d4; clear d4)
                    try (have d5' : (b2 == (f : Int)) = _ := d5; clear d5)
                    go_wp2_with fail
                    go_roundw
                    case rel => exact ⟨j + 1, _, _, by omega, by go_num, rfl, HT3.out.symm, rfl, HB3.out.symm, HBJ.out.trans (((Below.refl _ _).alloc (Nat.le_refl _) _).mono HBJ.out.size)⟩
                    case measure => (simp [intOf]; try omega)
                · obtain rfl : j = kk := by omega
                  have htv : tv = ixS (gT (f : Int)) ws 0 := by have := HTV.out; rw [HX0.out] at this; exact this
                  have hbv : bv = ixS (gB (f : Int)) ws 0 := by have := HBV.out; rw [HX0.out] at this; exact this
                  have HTV2 := Lib.hid htv
                  have HBV2 := Lib.hid hbv
                  clear htv hbv
                  have HOJ := Lib.hid (HO.out.ext HBJ.out)
                  have hlost : (tv < 0 ∨ bv < 0) → restE (frs xs) ws = 6 ∧ restF (frs xs) ws = [] := fun h => rest_lost (by rw [HLX.out, HWL.out]) HT.out HALL.out (by rw [HWL.out]; exact hk256) (f := f) (by rw [HTT.out]; omega) (decide_eq_false (by rw [← HTV2.out, ← HBV2.out]; omega))
                  have HLOST := Lib.hid hlost
                  have HPX := HPJ
                  clear hlost
                  rcases (by omega : tv < 0 ∨ (0 ≤ tv ∧ bv < 0) ∨ (0 ≤ tv ∧ 0 ≤ bv)) with h1 | ⟨h1, h2⟩ | ⟨h1, h2⟩
                  · have d3 : decide (tv < 0) = true := decide_eq_true h1
                    have HE1 := Lib.hid (HLOST.out (.inl h1)).1
                    have HE2 := Lib.hid (HLOST.out (.inl h1)).2
                    clear HLOST
                    obtain ⟨g1, g2, g3, g4, g5, g6⟩ := HPX.out.facts
                    have HRT := Lib.hid (HPX.out.leave 6)
                    go_wp2_with fail
                    obtain ⟨z1, z2, zb⟩ := HRT.out
                    refine leaves_cons (f := 33) (args := #[.pointer (some ⟨w.heap.size, 0, none⟩), .pointer (some ⟨w.heap.size + 1, 0, none⟩)]) (by simp) (by simp [go_sem]) ?_
                    refine (rest_idle _ _ _).mono ?_
                    rintro e u' w'' ⟨rfl, rfl, rfl⟩
                    exact ⟨.tuple #[.slice none 0 0, .int .i64 6], by simp [results, Try.results16, go_sem, z1, z2], none, 0, 0, [], by rw [HE1.out], Frs.nil, HE2.out.symm, zb, Nat.le_refl _⟩
                  · have d3 : decide (tv < 0) = false := decide_eq_false (by omega)
                    have d4 : decide (bv < 0) = true := decide_eq_true h2
                    have HE1 := Lib.hid (HLOST.out (.inr h2)).1
                    have HE2 := Lib.hid (HLOST.out (.inr h2)).2
                    clear HLOST
                    obtain ⟨g1, g2, g3, g4, g5, g6⟩ := HPX.out.facts
                    have HRT := Lib.hid (HPX.out.leave 6)
                    go_wp2_with fail
                    obtain ⟨z1, z2, zb⟩ := HRT.out
                    refine leaves_cons (f := 33) (args := #[.pointer (some ⟨w.heap.size, 0, none⟩), .pointer (some ⟨w.heap.size + 1, 0, none⟩)]) (by simp) (by simp [go_sem]) ?_
                    refine (rest_idle _ _ _).mono ?_
                    rintro e u' w'' ⟨rfl, rfl, rfl⟩
                    exact ⟨.tuple #[.slice none 0 0, .int .i64 6], by simp [results, Try.results16, go_sem, z1, z2], none, 0, 0, [], by rw [HE1.out], Frs.nil, HE2.out.symm, zb, Nat.le_refl _⟩
                  · have d3 : decide (tv < 0) = false := decide_eq_false (by omega)
                    have d4 : decide (bv < 0) = false := decide_eq_false (by omega)
                    obtain ⟨ta, rfl⟩ := Int.eq_ofNat_of_zero_le h1
                    obtain ⟨tb, rfl⟩ := Int.eq_ofNat_of_zero_le h2
                    have hbt := ixS_bd (gT (f : Int)) ws 0
                    have hbb := ixS_bd (gB (f : Int)) ws 0
                    rw [← HTV2.out, HWL.out] at hbt
                    rw [← HBV2.out, HWL.out] at hbb
                    have ta1 : ta < j := by omega
                    have tb1 : tb < j := by omega
                    clear hbt hbb
                    obtain ⟨b, off, x, rfl, hbf, hxx, hox, xc0, xc1, xc2, xc3, xc4⟩ := H.out.at_ ta1
                    obtain ⟨b', off', y, hAA, hbf', hyy, hoy, yc0, yc1, yc2, yc3, yc4⟩ := H.out.at_ tb1
                    injection hAA with hAA
                    injection hAA with q1 q2
                    subst q1 q2
                    have HHR : Hid (hasR ws f = true) := Lib.hid (decide_eq_true (by rw [← HTV2.out, ← HBV2.out]; exact ⟨h1, h2⟩))
                    have HSTEP : Hid (restL (frs xs) ws (f + 1) = restL (frs xs) ws f ++ [joinF x.f y.f]) := Lib.hid (by
                      rw [restL_succ, ← HTV2.out, ← HBV2.out, frAt_of rfl hxx, frAt_of rfl hyy])
                    have sx := HSZ.out x.f (List.mem_of_getElem? (frs_at hxx))
                    have sy := HSZ.out y.f (List.mem_of_getElem? (frs_at hyy))
                    have hxw := (H.out.2.2 x (List.mem_of_getElem? hxx))
                    have hyw := (H.out.2.2 y (List.mem_of_getElem? hyy))
                    have HC := Lib.hid (fun w' (h : Below w.heap.size w w') => cad_weave x y SW SH w' (hxw.ext h) (hyw.ext h) sx sy)
                    have HN1 : Hid (f + 1 ≤ 100000000) := Lib.hid (by omega)
                    have a0 : (0 : Int) ≤ (ta : Int) := by omega
                    have a1 : (ta : Int) < (j : Int) := by omega
                    have b0 : (0 : Int) ≤ (tb : Int) := by omega
                    have b1 : (tb : Int) < (j : Int) := by omega
                    have HXC : Hid (∀ W, Below w.heap.size w W → W.cell? ⟨b, off + ta * 5, none⟩ = some (.int .i64 x.f.W) ∧ W.cell? ⟨b, off + ta * 5 + 1, none⟩ = some (.int .i64 x.f.H) ∧ W.cell? ⟨b, off + ta * 5 + 2, none⟩ = some (.slice x.ya x.yn x.yc) ∧ W.cell? ⟨b, off + ta * 5 + 3, none⟩ = some (.slice x.ua x.un x.uc) ∧ W.cell? ⟨b, off + ta * 5 + 4, none⟩ = some (.slice x.va x.vn x.vc)) := Lib.hid (fun W hW =>
                      have e : ∀ (bb o : Nat) (v : Value), bb < w.heap.size → w.cell? ⟨bb, o, none⟩ = some v → W.cell? ⟨bb, o, none⟩ = some v := fun bb o v h1 h2 => (hW.cell (p := ⟨bb, o, none⟩) h1).trans h2
                      ⟨e _ _ _ hbf xc0, e _ _ _ hbf xc1, e _ _ _ hbf xc2, e _ _ _ hbf xc3, e _ _ _ hbf xc4⟩)
                    have HYC : Hid (∀ W, Below w.heap.size w W → W.cell? ⟨b, off + tb * 5, none⟩ = some (.int .i64 y.f.W) ∧ W.cell? ⟨b, off + tb * 5 + 1, none⟩ = some (.int .i64 y.f.H) ∧ W.cell? ⟨b, off + tb * 5 + 2, none⟩ = some (.slice y.ya y.yn y.yc) ∧ W.cell? ⟨b, off + tb * 5 + 3, none⟩ = some (.slice y.ua y.un y.uc) ∧ W.cell? ⟨b, off + tb * 5 + 4, none⟩ = some (.slice y.va y.vn y.vc)) := Lib.hid (fun W hW =>
                      have e : ∀ (bb o : Nat) (v : Value), bb < w.heap.size → w.cell? ⟨bb, o, none⟩ = some v → W.cell? ⟨bb, o, none⟩ = some v := fun bb o v h1 h2 => (hW.cell (p := ⟨bb, o, none⟩) h1).trans h2
                      ⟨e _ _ _ hbf yc0, e _ _ _ hbf yc1, e _ _ _ hbf yc2, e _ _ _ hbf yc3, e _ _ _ hbf yc4⟩)
                    clear hxx hyy hox hoy xc0 xc1 xc2 xc3 xc4 yc0 yc1 yc2 yc3 yc4 sx sy hxw hyw
                    go_upto_region 28 with fail
                    refine wp_region_fixedE (ruV A1 f c1 b off j c ta tb x.val y.val) (fun env D W => PGQ w (w.heap.size + 2) (.slice A1 f c1) f ys (joinF x.f y.f) env (D 9) (D 10) (D 11) (D 12) W) ⟨x, 0, none, 0⟩ (by kernel_rfl) (by kernel_rfl) (by kernel_rfl) ?h0 ?hstep ?hend
                    case h0 => exact ⟨HPJ.out.be.drew, by have h := HPJ.out.b2.lt; exact h, fun _ => HOJ.out.ext ((Below.refl _ _).drew), fun h => (by cases h), fun h => (by cases h), fun h => (by cases h), fun _ => HPJ.out.b1.drew, fun h => (by cases h), HPJ.out.b2.drew⟩
                    case hstep =>
                      intro k o ho env D ac wx fr hG hcl hDi hpre hun
                      obtain ⟨x1, x2, x3, x4, x5⟩ := HXC.out wx hG.be
                      obtain ⟨y1, y2, y3, y4, y5⟩ := HYC.out wx hG.be
                      have o0 : ac.tmps[0]?.getD undef = .slice (some ⟨b, off, none⟩) j c := fr.oldT 0 rfl
                      have o4 : ac.tmps[4]?.getD undef = .pointer (some ⟨w.heap.size, 0, none⟩) := fr.oldT 4 rfl
                      have o10 : ac.tmps[10]?.getD undef = .int .i64 (ta : Int) := fr.oldT 10 rfl
                      have o11 : ac.tmps[11]?.getD undef = .int .i64 (tb : Int) := fr.oldT 11 rfl
                      have hkn : k < 13 := (List.getElem?_eq_some_iff.1 ho).1
                      rcases (show k = 0 ∨ k = 1 ∨ k = 2 ∨ k = 3 ∨ k = 4 ∨ k = 5 ∨ k = 6 ∨ k = 7 ∨ k = 8 ∨ k = 9 ∨ k = 10 ∨ k = 11 ∨ k = 12 by omega) with rfl | rfl | rfl | rfl | rfl | rfl | rfl | rfl | rfl | rfl | rfl | rfl | rfl
                      all_goals (simp only [List.getElem?_cons_zero, List.getElem?_cons_succ, Option.some.injEq] at ho; subst ho)
                      · have n14 : D 12 = false := by
                          cases h : D 12 with
                          | false => rfl
                          | true => have h2 := hcl 12 _ rfl h ⟨0, .phase⟩ (by simp) rfl; rw [hDi] at h2; cases h2
                        have v0 := (hG.b0 n14).cell 0 rfl
                        refine ⟨true, rfl, fun _ => wp_value (w' := wx) ?_ ⟨env, fun _ _ _ => rfl, rfl, hG⟩, (fun h => by cases h)⟩
                        simp [execOp, o4, ruV, go_sem, v0]
                      · refine ⟨true, rfl, fun _ => wp_value (w' := wx) ?_ ⟨env, fun _ _ _ => rfl, rfl, hG⟩, (fun h => by cases h)⟩
                        simp [execOp, o0, ruV, go_sem]
                      · refine ⟨true, rfl, fun _ => wp_value (w' := wx) ?_ ⟨env, fun _ _ _ => rfl, rfl, hG⟩, (fun h => by cases h)⟩
                        simp [execOp, o10, ruV, go_sem]
                      · have f1 := fr.atT 1 (hpre ⟨1, .data⟩ (by simp) rfl) rfl
                        have f2 := fr.atT 2 (hpre ⟨2, .data⟩ (by simp) rfl) rfl
                        refine ⟨true, rfl, fun _ => wp_value (w' := wx) ?_ ⟨env, fun _ _ _ => rfl, rfl, hG⟩, (fun h => by cases h)⟩
                        simp [execOp, f1, f2, ruV, go_sem, a0, a1, ta1]
                      · have f3 := fr.atT 3 (hpre ⟨3, .data⟩ (by simp) rfl) rfl
                        refine ⟨true, rfl, fun _ => wp_value (w' := wx) ?_ ⟨env, fun _ _ _ => rfl, rfl, hG⟩, (fun h => by cases h)⟩
                        simp [execOp, f3, ruV, go_sem, x1, x2, x3, x4, x5, FA.val]
                      · refine ⟨true, rfl, fun _ => wp_value (w' := wx) ?_ ⟨env, fun _ _ _ => rfl, rfl, hG⟩, (fun h => by cases h)⟩
                        simp [execOp, o0, ruV, go_sem]
                      · refine ⟨true, rfl, fun _ => wp_value (w' := wx) ?_ ⟨env, fun _ _ _ => rfl, rfl, hG⟩, (fun h => by cases h)⟩
                        simp [execOp, o11, ruV, go_sem]
                      · have f5 := fr.atT 5 (hpre ⟨5, .data⟩ (by simp) rfl) rfl
                        have f6 := fr.atT 6 (hpre ⟨6, .data⟩ (by simp) rfl) rfl
                        refine ⟨true, rfl, fun _ => wp_value (w' := wx) ?_ ⟨env, fun _ _ _ => rfl, rfl, hG⟩, (fun h => by cases h)⟩
                        simp [execOp, f5, f6, ruV, go_sem, b0, b1, tb1]
                      · have f7 := fr.atT 7 (hpre ⟨7, .data⟩ (by simp) rfl) rfl
                        refine ⟨true, rfl, fun _ => wp_value (w' := wx) ?_ ⟨env, fun _ _ _ => rfl, rfl, hG⟩, (fun h => by cases h)⟩
                        simp [execOp, f7, ruV, go_sem, y1, y2, y3, y4, y5, FA.val]
                      · have f4 := fr.atT 4 (hpre ⟨4, .data⟩ (by simp) rfl) rfl
                        have e4 := fr.at_ 4 (hpre ⟨4, .data⟩ (by simp) rfl) rfl
                        have f8 := fr.atT 8 (hpre ⟨8, .data⟩ (by simp) rfl) rfl
                        have e8 := fr.at_ 8 (hpre ⟨8, .data⟩ (by simp) rfl) rfl
                        refine ⟨true, rfl, fun _ => ?_, (fun h => by cases h)⟩
                        refine wp_called (f := 32) (args := #[x.val, y.val]) ?_ (HC.out _ hG.be) ?_
                        · simp [execOp, resolve, invoke, f4, e4, f8, e8, ruV, go_sem]
                        · rintro e w' ⟨z, rfl, hzf, hzo, hb9⟩
                          have n3 : D 11 = false := by
                            cases h : D 11 with
                            | false => rfl
                            | true => have h2 := hcl 10 _ rfl (hcl 11 _ rfl h ⟨10, .data⟩ (by simp) rfl) ⟨9, .data⟩ (by simp) rfl; rw [hDi] at h2; cases h2
                          have n2 : D 10 = false := by
                            cases h : D 10 with
                            | false => rfl
                            | true => have h2 := hcl 10 _ rfl h ⟨9, .data⟩ (by simp) rfl; rw [hDi] at h2; cases h2
                          have n4 : D 12 = false := by
                            cases h : D 12 with
                            | false => rfl
                            | true => have h2 := hcl 12 _ rfl h ⟨11, .data⟩ (by simp) rfl; rw [n3] at h2; cases h2
                          refine ⟨_, rfl, ⟨z, env.gb, env.A3, env.c3⟩, fun j hjl hj => ruV_env (fun e => by rw [e, hDi] at hj; cases hj) (fun e => by rw [e, n2] at hj; cases hj) (fun e => by rw [e, n3] at hj; cases hj) (fun e => by rw [e, n4] at hj; cases hj) hjl, rfl, ?_⟩
                          have hr0 := hG.r0 n3
                          refine ⟨hG.be.trans (hb9.mono hG.be.size), Nat.le_trans hG.bs hb9.size, fun _ => hr0.ext hb9, fun _ _ => ⟨hzo.mono (fun b _ hb => ⟨Nat.le_trans hG.bs hb, fun e => by have := (World.ownsRow.lt hr0.1 b e.symm).2; omega⟩), hzf⟩, fun h => absurd (show D 10 = true from h) (by rw [n2]; exact Bool.false_ne_true), fun h => absurd (show D 11 = true from h) (by rw [n3]; exact Bool.false_ne_true), (fun h => (hG.b0 h).ext hb9), (fun h => absurd (show D 12 = true from h) (by rw [n4]; exact Bool.false_ne_true)), hG.b2.ext hb9⟩
                      · have f9 := fr.atT 9 (hpre ⟨9, .data⟩ (by simp) rfl) rfl
                        refine ⟨true, rfl, fun _ => ?_, (fun h => by cases h)⟩
                        have hz := env.z.val
                        refine wp_value (v := .slice (some ⟨wx.heap.size, 0, none⟩) 1 1) (w' := wx.alloc (.cells #[.int .i64 env.z.f.W, .int .i64 env.z.f.H, .slice env.z.ya env.z.yn env.z.yc, .slice env.z.ua env.z.un env.z.uc, .slice env.z.va env.z.vn env.z.vc] 27)) ?_ ?_
                        · simp [execOp, f9, ruV, FA.val, go_sem]
                        · have n3 : D 11 = false := by
                            cases h : D 11 with
                            | false => rfl
                            | true => have h2 := hcl 11 _ rfl h ⟨10, .data⟩ (by simp) rfl; rw [hDi] at h2; cases h2
                          have n4 : D 12 = false := by
                            cases h : D 12 with
                            | false => rfl
                            | true => have h2 := hcl 12 _ rfl h ⟨11, .data⟩ (by simp) rfl; rw [n3] at h2; cases h2
                          have d1 : D 9 = true := hpre ⟨9, .data⟩ (by simp) rfl
                          refine ⟨⟨env.z, wx.heap.size, env.A3, env.c3⟩, fun j hjl hj => ruV_env' rfl (fun e => by rw [e, hDi] at hj; cases hj) (fun e => by rw [e, n3] at hj; cases hj) (fun e => by rw [e, n4] at hj; cases hj) hjl, rfl, ?_⟩
                          have hr0 := hG.r0 n3
                          have hzo := hG.zo d1 n3
                          have hb9 := (Below.refl wx.heap.size wx).alloc (Nat.le_refl _) (.cells #[.int .i64 env.z.f.W, .int .i64 env.z.f.H, .slice env.z.ya env.z.yn env.z.yc, .slice env.z.ua env.z.un env.z.uc, .slice env.z.va env.z.vn env.z.vc] 27)
                          refine ⟨hG.be.trans (hb9.mono hG.be.size), Nat.le_trans hG.bs hb9.size, fun _ => hr0.ext hb9, fun _ _ => ⟨hzo.1.ext hb9, hzo.2⟩, fun _ _ => ⟨Bx.new _ _ _, fun e => Nat.lt_irrefl _ (World.ownsRow.lt hr0.1 wx.heap.size e.symm).2⟩, fun h => absurd (show D 11 = true from h) (by rw [n3]; exact Bool.false_ne_true), (fun h => (hG.b0 h).ext hb9), (fun h => absurd (show D 12 = true from h) (by rw [n4]; exact Bool.false_ne_true)), hG.b2.ext hb9⟩
                      · have f0 := fr.atT 0 (hpre ⟨0, .data⟩ (by simp) rfl) rfl
                        have f10 := fr.atT 10 (hpre ⟨10, .data⟩ (by simp) rfl) rfl
                        refine ⟨true, rfl, fun _ => ?_, (fun h => by cases h)⟩
                        have n4 : D 12 = false := by
                          cases h : D 12 with
                          | false => rfl
                          | true => have h2 := hcl 12 _ rfl h ⟨11, .data⟩ (by simp) rfl; rw [hDi] at h2; cases h2
                        have d2 : D 10 = true := hpre ⟨10, .data⟩ (by simp) rfl
                        have d1 : D 9 = true := hcl 10 _ rfl d2 ⟨9, .data⟩ (by simp) rfl
                        have hr0 := hG.r0 hDi
                        have hzo := hG.zo d1 hDi
                        have hzb := hG.zb d2 hDi
                        have hrw : Rw (fun _ => True) wx (some ⟨env.gb, 0, none⟩) 1 5 env.z.cells := ⟨rfl, fun _ => ⟨env.gb, 0, rfl, trivial, hzb.1.lt, fun j u hu => by rw [Nat.zero_add]; exact hzb.1.cell j (by simpa [FA.cells] using hu)⟩⟩
                        obtain ⟨v', w', hrun, ho', hg', ha'⟩ := run_appR (P := Try.prog) wx 23 23 27 (.agg #[.int .i64 0, .int .i64 0, .slice none 0 0, .slice none 0 0, .slice none 0 0]) 5 88 Try.underlying23 Try.infoF rfl (by decide) (w.heap.size + 2) (.slice A1 f c1) f (frCells ys) (by have h := hr0.1; rw [HYL.out] at h; exact h) (some ⟨env.gb, 0, none⟩) 1 1 env.z.cells hrw (by simp [FA.cells, Value.oneCell']) (by have := HN1.out; omega) (by omega) hG.bs
                        obtain ⟨A3, c3, rfl⟩ := own_slice ho'
                        refine wp_value (v := .slice A3 (f + 1) c3) (w' := w') ?_ ?_
                        · have e0 := fr.at_ 0 (hpre ⟨0, .data⟩ (by simp) rfl) rfl
                          have e1 := fr.at_ 10 (hpre ⟨10, .data⟩ (by simp) rfl) rfl
                          simp only [ruV] at e0 e1
                          simp only [execOp, resolve, invoke, builtin, Sem.run_bind, Sem.run_pure, Result.andThen_ok, List.map_toArray, List.map_cons, List.map_nil, e0, e1, hrun]
                        · refine ⟨⟨env.z, env.gb, A3, c3⟩, fun j hjl hj => ruV_env2 rfl rfl (fun e => by rw [e, hDi] at hj; cases hj) (fun e => by rw [e, n4] at hj; cases hj) hjl, rfl, ?_⟩
                          refine ⟨hG.be.grown hg' hG.be.size (fun j hj => Nat.le_trans (by omega : w.heap.size ≤ w.heap.size + 2) (World.ownsRow.lt hr0.1 j hj).1), Nat.le_trans hG.bs hg'.size, fun h => (by cases h), fun _ h => (by cases h), fun _ h => (by cases h), fun _ => ⟨OwnF.app hr0 (by rw [HYL.out]; simpa [frCells] using ho') hg' ha' (fun y hy => by rw [List.mem_singleton] at hy; rw [hy]; exact hzo.1), hzo.2, (own_cap ho').2⟩, (fun _ => (hG.b0 n4).grown hg' (own_ne hr0.1 (.inl (by omega)))), (fun h => absurd (show D 12 = true from h) (by rw [n4]; exact Bool.false_ne_true)), hG.b2.grown hg' (own_ne hr0.1 (.inl (by omega)))⟩
                      · have f11 := fr.atT 11 (hpre ⟨11, .data⟩ (by simp) rfl) rfl
                        refine ⟨true, rfl, fun _ => ?_, (fun h => by cases h)⟩
                        have d3 : D 11 = true := hpre ⟨11, .data⟩ (by simp) rfl
                        have h0 := hG.b0 hDi
                        have hr1 := hG.r1 d3
                        have q1 := h0.cell 0 rfl
                        have q2 := h0.frozen 0
                        refine wp_skipF (w' := wx.setCell ⟨w.heap.size, 0, none⟩ (.slice env.A3 (f + 1) env.c3)) ?_ ⟨env, fun _ _ _ => rfl, rfl, ?_⟩
                        · simp [execOp, o4, f11, ruV, go_sem, q1, q2]
                        · refine ⟨bset hG.be _ (Nat.le_refl _) _, by simp only [World.setCell, Array.size_modify]; exact hG.bs, fun h => absurd (show D 11 = false from h) (by rw [d3]; exact (fun h => by cases h)), fun _ h => absurd (show D 11 = false from h) (by rw [d3]; exact (fun h => by cases h)), fun _ h => absurd (show D 11 = false from h) (by rw [d3]; exact (fun h => by cases h)), fun _ => ⟨hr1.1.setCell (by dsimp only; omega) (by dsimp only; omega) _, hr1.2⟩, fun h => (by cases h), fun _ => h0.set_ 0 _, hG.b2.far (by simp) _⟩
                    case hend =>
                      intro env D w7 hG hall
                      have h1 := hG.r1 (hall 11 (by decide))
                      have HR1 := Lib.hid h1
                      have HP7 : Hid (PBx w (.slice env.A3 (f + 1) env.c3) w7) := Lib.hid ⟨hG.b1 (hall 12 (by decide)), hG.b2, hG.be⟩
                      simp only [putsU, Act.put, List.setIfInBounds_toArray, List.set_cons_succ, List.set_cons_zero, Nat.zero_add, Nat.reduceAdd, ruV]
                      clear hG hall h1
                      go_wp2_with fail
                      go_roundw
                      case rel => exact ⟨f + 1, env.A3, env.c3, ys ++ [env.z], by omega, by go_num, by simp [HYL.out], by rw [HSTEP.out, ← HYF.out, ← HR1.out.2.1]; simp [frs], fun j hj => (Nat.lt_succ_iff_lt_or_eq.1 hj).elim (fun h => HHAS.out j h) (fun h => h ▸ HHR.out), HR1.out.1, HP7.out⟩
                      case measure => (simp [intOf]; try omega)
            · have d2 : decide ((f : Int) < (T : Int)) = false := decide_eq_false (by omega)
              obtain rfl : f = T := by omega
              obtain ⟨e1, e2⟩ := rest_ok (fs := frs xs) (by rw [HLX.out, HWL.out]) HT.out HALL.out (by rw [HWL.out]; exact hk256) (fun j hj => HHAS.out j (by rw [HTT.out] at hj; omega))
              rw [HTT.out, Int.toNat_natCast] at e2
              have HE1 := Lib.hid e1
              have HE2 := Lib.hid e2
              clear e1 e2
              obtain ⟨g1, g2, g3, g4, g5, g6⟩ := HPR.out.facts
              have HRT := Lib.hid (HPR.out.leaveV (.slice A1 f c1) 0)
              have HO2 := Lib.hid ((HO.out.setCell (a := ⟨w.heap.size, 0, none⟩) (by dsimp only; omega) (by dsimp only; omega) (.slice A1 f c1)).setCell (a := ⟨w.heap.size + 1, 0, none⟩) (by dsimp only; omega) (by dsimp only; omega) (.int .i64 0))
              go_wp2_with fail
              obtain ⟨z1, z2, zb⟩ := HRT.out
              refine leaves_cons (f := 33) (args := #[.pointer (some ⟨w.heap.size, 0, none⟩), .pointer (some ⟨w.heap.size + 1, 0, none⟩)]) (by simp) (by simp [go_sem]) ?_
              refine (rest_idle _ _ _).mono ?_
              rintro e u' w'' ⟨rfl, rfl, rfl⟩
              obtain ⟨A2, c2, hv, hfr⟩ := OwnF.frs (p := (w.heap.size ≤ ·)) HO2.out (fun _ h => by omega)
              injection hv with q1 q2 q3
              subst q1 q3
              refine ⟨.tuple #[.slice A1 f c1, .int .i64 0], by simp [results, Try.results16, go_sem, z1, z2], A1, f, c1, ys, by rw [HE1.out], ?_, by rw [HE2.out]; exact HYF.out, zb, ?_⟩
              · have h3 := hfr
                rw [HYL.out] at h3
                exact h3.mono (fun _ _ h => h) (fun _ _ h => by omega)
              · have := own_cap HO.out.1
                omega
end Go.Proofs.Ytclainbjidajbaa
