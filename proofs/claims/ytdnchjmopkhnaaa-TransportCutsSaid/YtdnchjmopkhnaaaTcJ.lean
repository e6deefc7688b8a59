/- transport.Join of the packets of one unit. -/
import Derived.Test.YtdnchjmopkhnaaaTcD
import Derived.Test.YtdnchjmopkhnaaaTcP
namespace Go.Proofs.Ytdnchjmopkhnaaa
open Go.RowKit

theorem Try.infoU : (Try.prog.info? 22).map (fun i => (i.zero, i.size, i.bytes)) = some (some (.slice none 0 0), 1, 24) := by kernel_rfl
/-- bytes.Clone hands back a row of the call's own. -/
def RetOT (w : World) (l : List Int) (e : Ending) (w' : World) : Prop := ∃ v, e = .returned v ∧ OwB w' w.heap.size 5 v l ∧ Below w.heap.size w w'
set_option maxRecDepth 100000 in
set_option maxHeartbeats 1000000 in
theorem bytes_CloneOT {p : Nat → Prop} (A : Option Addr) (n c : Nat) (l : List Int) (w : World) (h : Byt p w A n l) (hn : n ≤ 1000000) :
    Calls Try.prog 35 #[.slice A n c] w (RetOT w l) := by
  rcases A with _ | a
  · have : n = 0 := by
      rcases Nat.eq_zero_or_pos n with h0 | h0
      · exact h0
      · obtain ⟨b, off, hA, _⟩ := h.addr h0
        cases hA
    subst this
    have : l = [] := List.eq_nil_of_length_eq_zero h.len
    subst this
    have hnil := fun w => Lib.run_eql_slice_nil (P := Try.prog) w 22 5 none 0 c 0 0 Try.underlying22
    simp only [Option.isNone_none] at hnil
    go_enter Try.func35, Try.ntmps35
    go_wp2_with fail
    go_ret
    exact ⟨_, rfl, OwB.nil, Below.refl _ _⟩
  · have hnil := fun w => Lib.run_eql_slice_nil (P := Try.prog) w 22 5 (some a) n c 0 0 Try.underlying22
    simp only [Option.isNone_some] at hnil
    go_enter Try.func35, Try.ntmps35
    go_wp2_with (first | (at_builtin; go_must (refine wpList_appB _ rfl (.tmp 5) (.tmp 6) 22 rfl 5 Try.underlying22 Try.infoB w.heap.size _ [] rfl (OwB.lit w w.heap.size 5 [] 0 rfl rfl rfl (Nat.le_refl _) (by omega)) (some a) n c l rfl (h.alloc _) (by simp; omega) (by simp) ?_; intro v3 w3 ho3 hg3 hat3)))
    obtain ⟨A3, c3, rfl, hk3⟩ := ho3.slice
    go_wp2_with fail
    go_ret
    exact ⟨_, rfl, by simpa using ho3, ((Below.refl _ _).alloc (Nat.le_refl _) _).grown hg3 (by simp) (fun k hk => ((OwB.lit w w.heap.size 5 [] 0 rfl rfl rfl (Nat.le_refl _) (by omega)).lt k hk).1)⟩
theorem tjoin_idle (p q : Addr) (w : World) :
    CallsD Try.prog 45 #[.pointer (some p), .pointer (some q)] .returning w fun e u' w' => e = .returned (.tuple #[]) ∧ u' = .returning ∧ w' = w := by
  refine callsD_of_wpS Try.func45 rfl fun c₀ cs hu => ?_
  apply wpS_seq
  apply wpS_region
  simp [wpOpsS, go_sem, recoverD, hu, Try.ntmps45, Exit.thenS]
  refine wpS_cond (t := false) (by simp [Act.eval, Array.replicate]) ?_
  simp only [Bool.false_eq_true, if_false]
  refine wpS_of_wp (wp_skip ?_)
  cases c₀
  simp_all [bodyPostS, results, Try.results45]
set_option maxRecDepth 100000 in
set_option maxHeartbeats 2000000 in
theorem tr_follows (p0 C k0 p1 C1 k1 : Int) (s0 s1 : Bool) (A0 : Option Addr) (n0 c0 : Nat) (A1 : Option Addr) (n1 c1 : Nat) (w : World) (h0 : 0 ≤ C) (h1 : C < 16) (h2 : C1 = (C + 1) % 16) :
    Calls Try.prog 47 #[.agg #[.int .i64 p0, .int .i64 C, .bool s0, .int .i64 k0, .slice A0 n0 c0], .agg #[.int .i64 p1, .int .i64 C1, .bool s1, .int .i64 k1, .slice A1 n1 c1]] w fun e w' => e = .returned (.bool true) ∧ Below w.heap.size w w' := by
  have d0 : decide (0 ≤ C) = true := decide_eq_true h0
  have d1 : decide (C < 16) = true := decide_eq_true h1
  have wC : IntKind.i64.wrap (C + 1) = C + 1 := IntWalk.i64_in _ (by omega)
  have hCC : (C + 1).tmod 16 = C1 := by rw [Int.tmod_eq_emod_of_nonneg (by omega)]; exact h2.symm
  have hself : (C1 == C1) = true := by simp
  clear h2
  go_enter Try.func47, Try.ntmps47
  go_wp2_with fail
  go_ret
  exact ⟨rfl, ((Below.refl _ _).alloc (Nat.le_refl _) _).alloc (by simp) _⟩
/-- What Join hands back: the unit alone. -/
def RetJ (w : World) (l : List Int) (e : Ending) (w' : World) : Prop := ∃ A' c' Au nu cu, e = .returned (.tuple #[.slice A' 1 c', .int .i64 0]) ∧ Rw (w.heap.size ≤ ·) w' A' 1 1 [.slice Au nu cu] ∧ Byt (w.heap.size ≤ ·) w' Au nu l ∧ Below w.heap.size w w'
def tjV (b off n cc i k g9 : Nat) (pid C C1 ck : Int) (st : Bool) (A0 : Option Addr) (n0 c0 : Nat) (Ap : Option Addr) (np cp : Nat) : Nat → Value
  | 0 => .int .i64 (k : Int)
  | 1 => .bool true
  | 2 => .bool true
  | 3 => .slice (some ⟨b, off, none⟩) n cc
  | 4 => .int .i64 (k : Int)
  | 5 => .int .i64 (i : Int)
  | 6 => .pointer (some ⟨b, off + i * 5, none⟩)
  | 7 => .agg #[.int .i64 pid, .int .i64 C, .bool st, .int .i64 ck, .slice A0 n0 c0]
  | 8 => .agg #[.int .i64 pid, .int .i64 C1, .bool false, .int .i64 (-1), .slice Ap np cp]
  | 9 => .bool true
  | 10 => .bool false
  | _ => .bool false
def tkV (A3 : Option Addr) (c3 g : Nat) : Nat → Value
  | 0 => .slice A3 1 c3
  | 1 => .int .i64 0
  | 2 => undef
  | _ => undef
/-- The packets of a unit stand side by side with other counters. -/
theorem cutT_at {pid cnt clk : Int} {l : List Int} {r N k : Nat} (h : k < N) : (cutT pid cnt clk l r N)[k]? = some (pktT pid cnt clk l r k) := by
  simp [cutT, List.getElem?_map, List.getElem?_range h]
theorem cutT_len (pid cnt clk : Int) (l : List Int) (r N : Nat) : (cutT pid cnt clk l r N).length = N := by simp [cutT]
theorem cutT_side (pid cnt clk : Int) (l : List Int) (r N : Nat) : SideBy (cutT pid cnt clk l r N) := by
  intro i x y hx hy
  have h1 : i < N := by have := (List.getElem?_eq_some_iff.1 hx).1; rwa [cutT_len] at this
  have h2 : i + 1 < N := by have := (List.getElem?_eq_some_iff.1 hy).1; rwa [cutT_len] at this
  rw [cutT_at h1] at hx
  rw [cutT_at h2] at hy
  injection hx with hx
  injection hy with hy
  rw [← hx, ← hy]
  simp only [pktT]
  omega
theorem take_off (l : List Int) (r k : Nat) : l.take (offT r (k + 1)) = l.take (offT r k) ++ pcT l r k := by
  rw [offT_succ, List.take_add]; rfl

set_option maxRecDepth 100000 in
set_option maxHeartbeats 8000000 in
theorem tr_Join {p q : Nat → Prop} (A : Option Addr) (n c : Nat) (qs : List TA) (pid cnt clk : Int) (l : List Int) (r m : Nat) (w : World) (h : TPks p q w A n qs) (he : datas qs = cutT pid cnt clk l r n) (hL : LastT r m n) (hlm : l.length = m) (hm0 : 0 < m) (hm : m ≤ 3000) (hr : 1 ≤ r) (hc1 : 0 ≤ cnt ∧ cnt < 16) (hrng : ∀ x ∈ l, 0 ≤ x ∧ x ≤ 255) (hpi : SmallI pid) (hki : SmallI clk) :
    Calls Try.prog 26 #[.slice A n c, .int .i64 pid] w (RetJ w l) := by
  have hmf : ∀ (fn : Fn) (first cap : Array Value) (w : World), (Instr.makeFunc fn first cap).run Try.prog w = .ok (.func fn first cap) w := fun _ _ _ _ => rfl
  have hnm : n ≤ m := hL.le hr
  have HP0 := Lib.hid (TBx.start w 60 3 (.slice none 0 0) (.int .i64 0))
  have H := Lib.hid h
  have HDI : Hid (∀ w', Below w.heap.size w w' → Calls Try.prog 46 #[.slice A n c, .int .i64 pid] w' fun e w'' => ∃ A' c', e = .returned (.slice A' n c') ∧ w''.ownsRow w'.heap.size 28 5 (.slice A' n c') n (tpCells qs) ∧ Below w'.heap.size w' w'') := Lib.hid (fun w' hw' =>
    tr_distinct A n c qs pid w' (H.out.ext hw') (by omega) (by rw [he]; exact cutT_side _ _ _ _ _ _) (fun x hx => by
      obtain ⟨k, hk⟩ := List.getElem?_of_mem hx
      have hkn : k < n := by have := (List.getElem?_eq_some_iff.1 hk).1; rw [H.out.1] at this; exact this
      have e2 : (datas qs)[k]? = some x.p := by simp [datas, hk]
      rw [he, cutT_at hkn] at e2
      injection e2 with e2
      have hlen := (H.out.2.2 x hx).len
      rw [← e2] at hlen ⊢
      have ho := hL.2 k hkn
      have hp := pcT_len l r k
      refine ⟨rfl, ⟨hpi, ⟨by simp only [pktT]; omega, by simp only [pktT]; omega⟩, ?_⟩, ?_⟩
      · simp only [pktT]
        split
        · exact hki
        · exact ⟨by omega, by omega⟩
      · have e3 : (pcT l r k).length = x.n := hlen
        have : 1 ≤ roomJ r k := by unfold roomJ; split <;> omega
        omega))
  have HE := Lib.hid he
  have HLT := Lib.hid hL
  have HLM := Lib.hid hlm
  have HC1 := Lib.hid hc1
  have HRNG := Lib.hid hrng
  clear h he hlm hpi hki hc1 hrng
  go_enter_defers Try.func26, Try.ntmps26
  go_upto_region 2 with fail
  generalize (w.alloc (.cells #[.slice none 0 0] 60)).alloc (.cells #[.int .i64 0] 3) = W0 at *
  go_wp2_with fail
  refine (HDI.out W0 HP0.out.be).mono ?_
  rintro e w1 ⟨Ak, ck', rfl, ho1, hb1⟩
  have HP1 := Lib.hid (HP0.out.ext hb1)
  obtain ⟨Ak2, ck2, hv2, hrw⟩ := own_rw (p := fun _ => True) ho1 (fun _ _ => trivial)
  injection hv2 with e1 _ e2
  subst e1 e2
  have H1 : Hid (TPks (fun _ => True) (fun _ => True) w1 Ak n qs) := Lib.hid ⟨H.out.1, hrw, fun x hx => ((H.out.2.2 x hx).ext (HP1.out.be)).mono (fun _ _ _ => trivial)⟩
  clear hrw ho1 hb1
  go_wp2_with fail
  go_loopw [7, 16] (fun u i wr => ∃ k : Nat, k ≤ n ∧ i = .int .i64 (k : Int) ∧ OwB wr w1.heap.size 5 u (l.take (offT r k)) ∧ Below w1.heap.size w1 wr) (fun _ i _ => n - (intOf i).toNat)
  case atStart => exact ⟨0, Nat.zero_le _, rfl, OwB.nil, Below.refl _ _⟩
  case round =>
    obtain ⟨k, hk, rfl, ho, hb⟩ := hrel
    obtain ⟨Au, cu, rfl, hcu⟩ := ho.slice
    have HB := Lib.hid hb
    obtain ⟨nu, hnu⟩ : ∃ q, (l.take (offT r k)).length = q := ⟨_, rfl⟩
    have hnu2 : nu = min (offT r k) m := by rw [← hnu, List.length_take, HLM.out]
    rw [hnu] at ho hcu ⊢
    have HO := Lib.hid ho
    have HNU := Lib.hid hnu
    clear ho hb hnu
    by_cases hlt : k < n
    · obtain ⟨b, off, ⟨xp, Ap, np, cp⟩, rfl, hbl, hx, hbx, hc⟩ := (H1.out.ext HB.out).atD hlt
      have hxp : xp = pktT pid cnt clk l r k := by
        have e2 : (datas qs)[k]? = some xp := by simp [datas, hx]
        rw [HE.out, cutT_at hlt] at e2
        injection e2 with e2
        exact e2.symm
      subst hxp
      have HX := Lib.hid hx
      have HBY := Lib.hid hbx
      have k0 : (0 : Int) ≤ (k : Int) := by omega
      have k1 : (k : Int) < (n : Int) := by omega
      have d1 : decide ((k : Int) < (n : Int)) = true := decide_eq_true k1
      clear hx hbx
      rcases Nat.eq_zero_or_pos k with hk0 | hk0
      · have hst : decide (k = 0) = true := decide_eq_true hk0
        have hck : (if k = 0 then clk else -1) = clk := if_pos hk0
        simp only [pktT, hst, hck] at hc
        obtain ⟨C, hC⟩ : ∃ C, (cnt + (k : Int)) % 16 = C := ⟨_, rfl⟩
        rw [hC] at hc
        obtain ⟨c0, c1, c2, c3, c4⟩ := hc
        have d0 : decide ((0 : Int) < (k : Int)) = false := decide_eq_false (by omega)
        have d0n : decide (0 < k) = false := decide_eq_false (by omega)
        have hoff : offT r k = 0 := by rw [hk0]; rfl
        have d2 : decide ((0 : Int) < (nu : Int)) = false := decide_eq_false (by omega)
        have d2n : decide (0 < nu) = false := decide_eq_false (by omega)
        have HB2 := Lib.hid ((Below.refl wr.heap.size wr).alloc (Nat.le_refl _) (.cells #[.int .i64 pid, .int .i64 C, .bool true, .int .i64 clk, .slice Ap np cp] 28))
        have hnp : np = (pcT l r k).length := HBY.out.len.symm
        have hnp2 : np ≤ 3000 := by rw [hnp, pcT_len, HLM.out]; omega
        have HOF := Lib.hid hoff
        clear hst hck hC hk0 hnp hoff hnu2
        go_wp2_with fail
        go_quiet (fail)
        go_wp2_with fail
        refine (bytes_CloneOT (p := fun _ => True) Ap np cp (pcT l r k) _ ?_ (by omega)).mono ?_
        · exact HBY.out.ext (bdrewN HB2.out _)
        · rintro e w2 ⟨v2, rfl, ho2, hb2⟩
          have HB3 := Lib.hid ((bdrewN HB2.out _).trans (hb2.mono HB2.out.size))
          have HO2 := Lib.hid ho2
          clear ho2 hb2 c0 c1 c2 c3 c4
          go_wp2_with fail
          go_roundw
          case rel =>
            refine ⟨k + 1, by omega, by go_num, ?_, HB.out.trans (HB3.out.mono HB.out.size)⟩
            rw [take_off, HOF.out, List.take_zero, List.nil_append]
            exact own_base HO2.out (Nat.le_trans HB.out.size (by simp))
          case measure => (simp [intOf]; try omega)
      · obtain ⟨i, hi⟩ : ∃ i, k = i + 1 := ⟨k - 1, by omega⟩
        have hst : decide (k = 0) = false := decide_eq_false (by omega)
        have hck : (if k = 0 then clk else -1) = -1 := if_neg (by omega)
        simp only [pktT, hst, hck] at hc
        obtain ⟨C1, hC1⟩ : ∃ C, (cnt + (k : Int)) % 16 = C := ⟨_, rfl⟩
        rw [hC1] at hc
        obtain ⟨b', off', ⟨xq, A0, n0, c0'⟩, hAA, hbl', hx', hbx', hc'⟩ := (H1.out.ext HB.out).atD (show i < n by omega)
        injection hAA with hAA
        injection hAA with q1 q2
        subst q1 q2
        have hxq : xq = pktT pid cnt clk l r i := by
          have e2 : (datas qs)[i]? = some xq := by simp [datas, hx']
          rw [HE.out, cutT_at (by omega)] at e2
          injection e2 with e2
          exact e2.symm
        subst hxq
        simp only [pktT] at hc'
        obtain ⟨C, hC⟩ : ∃ C, (cnt + (i : Int)) % 16 = C := ⟨_, rfl⟩
        obtain ⟨st, hst'⟩ : ∃ st, decide (i = 0) = st := ⟨_, rfl⟩
        obtain ⟨ck, hck'⟩ : ∃ ck, (if i = 0 then clk else -1) = ck := ⟨_, rfl⟩
        rw [hC, hst', hck'] at hc'
        have hCC : C1 = (C + 1) % 16 := by omega
        obtain ⟨c0, c1, c2, c3, c4⟩ := hc
        have HF := Lib.hid (fun w' => tr_follows pid C ck pid C1 (-1) st false A0 n0 c0' Ap np cp w' (by omega) (by omega) hCC)
        have d0 : (0 : Int) < (k : Int) := by omega
        have d0n : 0 < k := by omega
        have wsub : IntKind.i64.wrap ((k : Int) - 1) = (i : Int) := by rw [IntWalk.i64_in _ (by omega)]; omega
        have i0 : (0 : Int) ≤ (i : Int) := by omega
        have i1 : (i : Int) < (n : Int) := by omega
        have i2 : i < n := by omega
        have hge := offT_ge r hr k
        have d2 : decide ((0 : Int) < (nu : Int)) = true := decide_eq_true (by omega)
        have d2n : decide (0 < nu) = true := decide_eq_true (by omega)
        obtain ⟨wq, hwq⟩ : ∃ wq, wr.alloc (.cells #[.int .i64 pid, .int .i64 C1, .bool false, .int .i64 (-1), .slice Ap np cp] 28) = wq := ⟨_, rfl⟩
        have hbq : Below wr.heap.size wr wq := by rw [← hwq]; exact (Below.refl wr.heap.size wr).alloc (Nat.le_refl _) _
        have hxq : Bx wq wr.heap.size 28 #[.int .i64 pid, .int .i64 C1, .bool false, .int .i64 (-1), .slice Ap np cp] := by rw [← hwq]; exact Bx.new _ _ _
        have HX0 : Hid (∀ W, Below wq.heap.size wq W → (W.cell? ⟨b, off + i * 5, none⟩ = some (.int .i64 pid) ∧ W.cell? ⟨b, off + i * 5 + 1, none⟩ = some (.int .i64 C) ∧ W.cell? ⟨b, off + i * 5 + 2, none⟩ = some (.bool st) ∧ W.cell? ⟨b, off + i * 5 + 3, none⟩ = some (.int .i64 ck) ∧ W.cell? ⟨b, off + i * 5 + 4, none⟩ = some (.slice A0 n0 c0'))) := Lib.hid (fun W hW => by
          have e : ∀ (o : Nat) (v : Value), wr.cell? ⟨b, o, none⟩ = some v → W.cell? ⟨b, o, none⟩ = some v := fun o v h2 => ((hbq.trans (hW.mono hbq.size)).cell (p := ⟨b, o, none⟩) hbl).trans h2
          exact ⟨e _ _ hc'.1, e _ _ hc'.2.1, e _ _ hc'.2.2.1, e _ _ hc'.2.2.2.1, e _ _ hc'.2.2.2.2⟩)
        have HX1 : Hid (∀ W, Below wq.heap.size wq W → (W.cell? ⟨wr.heap.size, 0, none⟩ = some (.int .i64 pid) ∧ W.cell? ⟨wr.heap.size, 1, none⟩ = some (.int .i64 C1) ∧ W.cell? ⟨wr.heap.size, 2, none⟩ = some (.bool false) ∧ W.cell? ⟨wr.heap.size, 3, none⟩ = some (.int .i64 (-1)) ∧ W.cell? ⟨wr.heap.size, 4, none⟩ = some (.slice Ap np cp))) := Lib.hid (fun W hW => by
          have h := hxq.ext hW
          exact ⟨h.cell 0 rfl, h.cell 1 rfl, h.cell 2 rfl, h.cell 3 rfl, h.cell 4 rfl⟩)
        have HBQ := Lib.hid hbq
        have hnp : np = (pcT l r k).length := HBY.out.len.symm
        have hnp2 : np ≤ 3000 := by rw [hnp, pcT_len, HLM.out]; omega
        have HWQ := Lib.hid hwq
        have hnu3 : nu ≤ 3000 := by omega
        clear hst hck hC1 hbl' hx' hbx' hc' hC hst' hck' hCC hge hxq hbq hnp hnu2 hi hk0 hwq
        go_wp2_with fail
        rw [HWQ.out]
        refine wp_region_fixedW (tjV b off n ck' i k wr.heap.size pid C C1 ck st A0 n0 c0' Ap np cp) (fun _ w' => Below wq.heap.size wq w') (by kernel_rfl) (by kernel_rfl) (by kernel_rfl) ?h0 ?hstep ?hend
        case h0 => exact (Below.refl _ _).drew
        case hstep =>
          intro k' o ho D ac wx fr hG hcl hDi hpre
          obtain ⟨x0, x1, x2, x3, x4⟩ := HX0.out wx hG
          obtain ⟨y0, y1, y2, y3, y4⟩ := HX1.out wx hG
          have o6 : ac.tmps[6]?.getD undef = .slice (some ⟨b, off, none⟩) n ck' := fr.oldT 6 rfl
          have o8 : ac.tmps[8]?.getD undef = .int .i64 (k : Int) := fr.oldT 8 rfl
          have o9 : ac.tmps[9]?.getD undef = .pointer (some ⟨wr.heap.size, 0, none⟩) := fr.oldT 9 rfl
          have hkn : k' < 12 := (List.getElem?_eq_some_iff.1 ho).1
          rcases (show k' = 0 ∨ k' = 1 ∨ k' = 2 ∨ k' = 3 ∨ k' = 4 ∨ k' = 5 ∨ k' = 6 ∨ k' = 7 ∨ k' = 8 ∨ k' = 9 ∨ k' = 10 ∨ k' = 11 by omega) with rfl | rfl | rfl | rfl | rfl | rfl | rfl | rfl | rfl | rfl | rfl | rfl
          all_goals (simp only [List.getElem?_cons_zero, List.getElem?_cons_succ, Option.some.injEq] at ho; subst ho)
          · refine ⟨true, rfl, fun _ => wp_value (w' := wx) ?_ ⟨rfl, hG⟩, (fun h => by cases h)⟩
            simp [execOp, o8, tjV, go_sem]
          · have f0 := fr.atT 0 (hpre ⟨0, .data⟩ (by simp) rfl) rfl
            refine ⟨true, rfl, fun _ => wp_value (w' := wx) ?_ ⟨rfl, hG⟩, (fun h => by cases h)⟩
            simp [execOp, f0, tjV, go_sem, d0, d0n]
          · have f1 := fr.atT 1 (hpre ⟨1, .data⟩ (by simp) rfl) rfl
            refine ⟨true, rfl, fun _ => wp_value (w' := wx) ?_ ⟨rfl, hG⟩, (fun h => by cases h)⟩
            simp [execOp, f1, tjV, go_sem]
          · have dg : D 2 = true := hpre ⟨2, .guard⟩ (by simp) rfl
            refine ⟨true, (wanted_of (x := true) (want := true) (j := 2) fr rfl dg rfl rfl).trans rfl, fun _ => wp_value (w' := wx) ?_ ⟨rfl, hG⟩, (fun h => by cases h)⟩
            simp [execOp, o6, tjV, go_sem]
          · have dg : D 2 = true := hpre ⟨2, .guard⟩ (by simp) rfl
            refine ⟨true, (wanted_of (x := true) (want := true) (j := 2) fr rfl dg rfl rfl).trans rfl, fun _ => wp_value (w' := wx) ?_ ⟨rfl, hG⟩, (fun h => by cases h)⟩
            simp [execOp, o8, tjV, go_sem]
          · have dg : D 2 = true := hpre ⟨2, .guard⟩ (by simp) rfl
            have f4 := fr.atT 4 (hpre ⟨4, .data⟩ (by simp) rfl) rfl
            refine ⟨true, (wanted_of (x := true) (want := true) (j := 2) fr rfl dg rfl rfl).trans rfl, fun _ => wp_value (w' := wx) ?_ ⟨rfl, hG⟩, (fun h => by cases h)⟩
            simp [execOp, f4, tjV, go_sem, wsub]
          · have dg : D 2 = true := hpre ⟨2, .guard⟩ (by simp) rfl
            have f3 := fr.atT 3 (hpre ⟨3, .data⟩ (by simp) rfl) rfl
            have f5 := fr.atT 5 (hpre ⟨5, .data⟩ (by simp) rfl) rfl
            refine ⟨true, (wanted_of (x := true) (want := true) (j := 2) fr rfl dg rfl rfl).trans rfl, fun _ => wp_value (w' := wx) ?_ ⟨rfl, hG⟩, (fun h => by cases h)⟩
            simp [execOp, f3, f5, tjV, go_sem, i0, i1, i2]
          · have dg : D 2 = true := hpre ⟨2, .guard⟩ (by simp) rfl
            have f6 := fr.atT 6 (hpre ⟨6, .data⟩ (by simp) rfl) rfl
            refine ⟨true, (wanted_of (x := true) (want := true) (j := 2) fr rfl dg rfl rfl).trans rfl, fun _ => wp_value (w' := wx) ?_ ⟨rfl, hG⟩, (fun h => by cases h)⟩
            simp [execOp, f6, tjV, go_sem, x0, x1, x2, x3, x4]
          · have dg : D 2 = true := hpre ⟨2, .guard⟩ (by simp) rfl
            refine ⟨true, (wanted_of (x := true) (want := true) (j := 2) fr rfl dg rfl rfl).trans rfl, fun _ => wp_value (w' := wx) ?_ ⟨rfl, hG⟩, (fun h => by cases h)⟩
            simp [execOp, o9, tjV, go_sem, y0, y1, y2, y3, y4]
          · have dg : D 2 = true := hpre ⟨2, .guard⟩ (by simp) rfl
            have f7 := fr.atT 7 (hpre ⟨7, .data⟩ (by simp) rfl) rfl
            have e7 := fr.at_ 7 (hpre ⟨7, .data⟩ (by simp) rfl) rfl
            have f8 := fr.atT 8 (hpre ⟨8, .data⟩ (by simp) rfl) rfl
            have e8 := fr.at_ 8 (hpre ⟨8, .data⟩ (by simp) rfl) rfl
            refine ⟨true, (wanted_of (x := true) (want := true) (j := 2) fr rfl dg rfl rfl).trans rfl, fun _ => ?_, (fun h => by cases h)⟩
            refine wp_called (f := 47) (args := #[.agg #[.int .i64 pid, .int .i64 C, .bool st, .int .i64 ck, .slice A0 n0 c0'], .agg #[.int .i64 pid, .int .i64 C1, .bool false, .int .i64 (-1), .slice Ap np cp]]) ?_ (HF.out wx) ?_
            · simp [execOp, resolve, invoke, f7, e7, f8, e8, tjV, go_sem]
            · rintro e w' ⟨rfl, hb9⟩
              exact ⟨_, rfl, rfl, hG.trans (hb9.mono hG.size)⟩
          · have dg : D 2 = true := hpre ⟨2, .guard⟩ (by simp) rfl
            have f9 := fr.atT 9 (hpre ⟨9, .data⟩ (by simp) rfl) rfl
            refine ⟨true, (wanted_of (x := true) (want := true) (j := 2) fr rfl dg rfl rfl).trans rfl, fun _ => wp_value (w' := wx) ?_ ⟨rfl, hG⟩, (fun h => by cases h)⟩
            simp [execOp, f9, tjV, go_sem]
          · have f2 := fr.atT 2 (hpre ⟨2, .data⟩ (by simp) rfl) rfl
            have f10 := fr.atT 10 (hpre ⟨10, .data⟩ (by simp) rfl) rfl
            refine ⟨true, rfl, fun _ => wp_value (w' := wx) ?_ ⟨rfl, hG⟩, (fun h => by cases h)⟩
            simp [execOp, f2, f10, tjV, go_sem]
        case hend =>
          intro D w7 hG hall
          have HB7 := Lib.hid (HBQ.out.trans (hG.mono HBQ.out.size))
          obtain ⟨y0, y1, y2, y3, y4⟩ := HX1.out w7 hG
          have HO7 : Hid (OwB w7 w1.heap.size 5 (.slice Au nu cu) (l.take (offT r k))) := Lib.hid (own_ext HO.out HB7.out)
          have HBY7 := Lib.hid (HBY.out.ext HB7.out)
          have hz7 : w1.heap.size ≤ w7.heap.size := Nat.le_trans HB.out.size HB7.out.size
          have hln : (l.take (offT r k)).length + np ≤ 100000000 := by rw [HNU.out]; omega
          simp only [putsU, Act.put, List.setIfInBounds_toArray, List.set_cons_succ, List.set_cons_zero, Nat.zero_add, Nat.reduceAdd, tjV]
          clear hG hall c0 c1 c2 c3 c4
          go_wp2_with (first | (at_builtin; go_must (refine wpList_appB _ rfl (.tmp 52) (.tmp 54) 22 rfl 5 Try.underlying22 Try.infoB w1.heap.size (.slice Au nu cu) (l.take (offT r k)) rfl HO7.out Ap np cp (pcT l r k) rfl HBY7.out hln hz7 ?_; intro v8 w8 ho8 hg8 ha8)))
          go_roundw
          case rel =>
            refine ⟨k + 1, by omega, by go_num, by rw [take_off]; exact ho8, ?_⟩
            exact (HB.out.trans (HB7.out.mono HB.out.size)).grown hg8 hz7 (fun i hi => (World.ownsRow.lt HO7.out i hi).1)
          case measure => (simp [intOf]; try omega)
    · obtain rfl : k = n := by omega
      have d1 : decide ((k : Int) < (k : Int)) = false := by simp
      have h1 := HLT.out.1
      have d2 : decide ((0 : Int) < (nu : Int)) = true := decide_eq_true (by omega)
      have d2n : decide (0 < nu) = true := decide_eq_true (by omega)
      have hall : l.take (offT r k) = l := List.take_of_length_le (by rw [HLM.out]; exact h1)
      have HAL := Lib.hid hall
      have HPR := Lib.hid (HP1.out.ext (HB.out.mono (Nat.le_refl _)))
      obtain ⟨g1, g2, g3, g4, g5, g6⟩ := HPR.out.facts
      clear hall h1 hnu2
      have HO2 := HO
      have hz1 : w1.heap.size ≤ wr.heap.size := HB.out.size
      have hz0 : w.heap.size + 2 ≤ w1.heap.size := by have := HP1.out.b2.lt; omega
      go_wp2_with (first | (at_builtin; go_must (refine wpList_appR _ rfl (.tmp 60) (.tmp 62) 60 rfl 22 (.slice none 0 0) 1 24 Try.underlying60 Try.infoU rfl (by decide) w1.heap.size (.slice none 0 0) 0 [] rfl (World.ownsRow_nil _ _ _ _) (some ⟨wr.heap.size, 0, none⟩) 1 1 [.slice Au nu cu] rfl (Rw.lit (p := fun _ => True) _ _ _ rfl 1 1 rfl rfl trivial) (by simp [Value.oneCell']) (by omega) (by omega) (by simp; omega) ?_; intro v3 w4 ho3 hg3 ha3; obtain ⟨A3, c3, hv3⟩ := own_slice ho3; subst hv3; have HB4 := Lib.hid (((Below.refl wr.heap.size wr).alloc (Nat.le_refl _) (.cells #[.slice Au nu cu] 22)).grown hg3 (by simp) (fun k hk => by cases hk)); have HO3 := Lib.hid ho3; clear hg3 ho3 ha3; have HP4 := Lib.hid (HPR.out.ext HB4.out); obtain ⟨j1, j2, j3, j4, j5, j6⟩ := HP4.out.facts)))
      refine wp_region_fixedW (tkV A3 c3 w.heap.size) (fun _ w' => TBx w 60 (.slice A3 1 c3) 3 (.int .i64 0) w' ∧ Rw (w.heap.size + 2 ≤ ·) w' A3 1 1 [.slice Au nu cu] ∧ Byt (w.heap.size + 2 ≤ ·) w' Au nu l) (by kernel_rfl) (by kernel_rfl) (by kernel_rfl) ?h0 ?hstep ?hend
      case h0 =>
        have hby : Byt (w.heap.size + 2 ≤ ·) w4 Au nu l := by
          have h1 := OwB.byt (p := (w.heap.size + 2 ≤ ·)) (HO.out.ext HB4.out) (fun b hb => by omega) (by rw [HAL.out]; exact HRNG.out)
          rwa [HAL.out] at h1
        obtain ⟨A6, c6, hv6, hr6⟩ := own_rw (p := (w.heap.size + 2 ≤ ·)) HO3.out (fun _ h => by omega)
        injection hv6 with e1 e2 e3
        subst e1 e3
        exact ⟨⟨(HP4.out.b1.set_ 0 _).drew, (HP4.out.b2.far (by simp) _).drew, (bset HP4.out.be _ (Nat.le_refl _) _).drew⟩, (hr6.setCell (by dsimp only; omega) _), (hby.setCell (by dsimp only; omega) _)⟩
      case hstep =>
        intro k' o ho D ac wx fr hG hcl hDi hpre
        have o4 : ac.tmps[4]?.getD undef = .pointer (some ⟨w.heap.size, 0, none⟩) := fr.oldT 4 rfl
        have o5 : ac.tmps[5]?.getD undef = .pointer (some ⟨w.heap.size + 1, 0, none⟩) := fr.oldT 5 rfl
        have hkn : k' < 4 := (List.getElem?_eq_some_iff.1 ho).1
        rcases (show k' = 0 ∨ k' = 1 ∨ k' = 2 ∨ k' = 3 by omega) with rfl | rfl | rfl | rfl
        all_goals (simp only [List.getElem?_cons_zero, List.getElem?_cons_succ, Option.some.injEq] at ho; subst ho)
        · refine ⟨true, rfl, fun _ => ?_, (fun h => by cases h)⟩
          have q1 := hG.1.b1.cell 0 rfl
          exact wp_value (w' := wx) (by simp [execOp, o4, tkV, go_sem, q1]) ⟨rfl, hG⟩
        · refine ⟨true, rfl, fun _ => ?_, (fun h => by cases h)⟩
          have q1 := hG.1.b2.cell 0 rfl
          exact wp_value (w' := wx) (by simp [execOp, o5, tkV, go_sem, q1]) ⟨rfl, hG⟩
        · have f0 := fr.atT 0 (hpre ⟨0, .data⟩ (by simp) rfl) rfl
          refine ⟨true, rfl, fun _ => ?_, (fun h => by cases h)⟩
          have q1 := hG.1.b1.cell 0 rfl
          have q2 := hG.1.b1.frozen 0
          refine wp_skip' (w' := wx.setCell ⟨w.heap.size, 0, none⟩ (.slice A3 1 c3)) ?_ ⟨rfl, ?_⟩
          · simp [execOp, o4, f0, tkV, go_sem, q1, q2]
          · exact ⟨⟨hG.1.b1.set_ 0 _, hG.1.b2.far (by simp) _, bset hG.1.be _ (Nat.le_refl _) _⟩, hG.2.1.setCell (by dsimp only; omega) _, hG.2.2.setCell (by dsimp only; omega) _⟩
        · have f1 := fr.atT 1 (hpre ⟨1, .data⟩ (by simp) rfl) rfl
          refine ⟨true, rfl, fun _ => ?_, (fun h => by cases h)⟩
          have q1 := hG.1.b2.cell 0 rfl
          have q2 := hG.1.b2.frozen 0
          refine wp_skip' (w' := wx.setCell ⟨w.heap.size + 1, 0, none⟩ (.int .i64 0)) ?_ ⟨rfl, ?_⟩
          · simp [execOp, o5, f1, tkV, go_sem, q1, q2]
          · exact ⟨⟨hG.1.b1.far (by simp) _, hG.1.b2.set_ 0 _, bset hG.1.be _ (by dsimp only; omega) _⟩, hG.2.1.setCell (by dsimp only; omega) _, hG.2.2.setCell (by dsimp only; omega) _⟩
      case hend =>
        intro D w7 hG hall
        simp only [putsU, Act.put, List.setIfInBounds_toArray, List.set_cons_succ, List.set_cons_zero, Nat.zero_add, Nat.reduceAdd, tkV]
        have HG := Lib.hid hG
        have z1 := hG.1.b1.cell 0 rfl
        have z2 := hG.1.b2.cell 0 rfl
        clear hG hall
        go_wp2_with fail
        refine leaves_cons (f := 45) (args := #[.pointer (some ⟨w.heap.size, 0, none⟩), .pointer (some ⟨w.heap.size + 1, 0, none⟩)]) (by simp) (by simp [go_sem]) ?_
        refine (tjoin_idle _ _ _).mono ?_
        rintro e u' w'' ⟨rfl, rfl, rfl⟩
        exact ⟨.tuple #[.slice A3 1 c3, .int .i64 0], by simp [results, Try.results26, go_sem, z1, z2], A3, c3, Au, nu, cu, rfl, HG.out.2.1.mono (fun _ _ h => by omega), HG.out.2.2.mono (fun _ _ h => by omega), HG.out.1.be⟩
end Go.Proofs.Ytdnchjmopkhnaaa
