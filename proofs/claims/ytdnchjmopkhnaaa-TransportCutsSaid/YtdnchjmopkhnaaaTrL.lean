/- TransportPuts and TransportTakes. -/
import Derived.Test.YtdnchjmopkhnaaaTrRk
import Derived.Test.YtdnchjmopkhnaaaTrH
import Derived.Test.YtdnchjmopkhnaaaTrGv
namespace Go.Proofs.Ytdnchjmopkhnaaa
open Go.RowKit

set_option maxHeartbeats 1000000 in
theorem law_tsame {p0 q0 : Nat → Prop} (pid cnt : Int) (st : Bool) (clk : Int) (A B : Option Addr) (n c n' c' : Nat) (l l' : List Int) (w : World) (h : Byt p0 w A n l) (h' : Byt q0 w B n' l') (he : l = l') :
    Calls Try.prog 17 #[.agg #[.int .i64 pid, .int .i64 cnt, .bool st, .int .i64 clk, .slice A n c], .agg #[.int .i64 pid, .int .i64 cnt, .bool st, .int .i64 clk, .slice B n' c']] w fun e w' => e = .returned (.bool true) ∧ Below w.heap.size w w' := by
  subst he
  go_enter Try.func17, Try.ntmps17
  go_wp2_with (first | (go_at_call 14; ((with_reducible refine (ref_SameBytes _ _ _ _ _ _ l l _ ((h.alloc _).alloc _) ((h'.alloc _).alloc _)).mono ?_); rintro e w1 ⟨rfl, rfl⟩)))
  go_ret
  exact ⟨by simp, ((Below.refl _ _).alloc (Nat.le_refl _) _).alloc (by simp) _⟩

set_option maxRecDepth 10000 in
set_option maxHeartbeats 2000000 in
theorem law_TPuts_no {q : Nat → Prop} (pid cnt : Int) (st : Bool) (clk : Int) (A : Option Addr) (n c : Nat) (l : List Int) (w : World) (hl : Byt q w A n l) (hn : n ≤ 400) (hv : validT pid cnt st clk n = false) :
    Calls Try.prog 3 #[.agg #[.int .i64 pid, .int .i64 cnt, .bool st, .int .i64 clk, .slice A n c]] w fun e w' => e = .returned (.bool true) ∧ Below w.heap.size w w' := by
  have HV := Lib.hid hv
  clear hv
  go_enter Try.func3, Try.ntmps3
  go_wp2_with fail
  refine (law_tgiven pid cnt st clk A n c _).mono ?_
  rintro e w1 ⟨rfl, hb1⟩
  have B1 : Below w.heap.size w w1 := ((Below.refl _ w).alloc (Nat.le_refl _) _).trans (hb1.mono (by simp))
  have x1 := (Bx.new w 24 #[.int .i64 pid, .int .i64 cnt, .bool st, .int .i64 clk, .slice A n c]).ext hb1
  have z1 := B1.size
  go_wp2_with fail
  refine (tr_Put_arg pid cnt st clk A n c _ HV.out).mono ?_
  rintro e w2 ⟨A2, n2, c2, rfl, hB2, hb2⟩
  have B2 := B1.trans (hb2.mono z1)
  have z2 := B2.size
  have x2 := x1.ext hb2
  obtain ⟨g0, g1, g2, g3, g4⟩ := x2.cells5
  have s2 := x2.lt
  go_wp2_with fail
  refine (ref_TPut_arg pid cnt st clk A n c _ HV.out).mono ?_
  rintro e w3 ⟨A3, n3, c3, rfl, hB3, hb3⟩
  have B3 := B2.trans (hb3.mono z2)
  have z3 := B3.size
  go_wp2_with fail
  refine (ref_SameBytes _ _ _ _ _ _ _ _ _ (hB2.ext hb3) hB3).mono ?_
  rintro e w4 ⟨rfl, rfl⟩
  simp only [decide_true]
  go_wp2_with fail
  refine (law_awake _).mono ?_
  rintro e w5 ⟨rfl, hb5⟩
  go_wp2_with fail
  go_ret
  exact ⟨rfl, B3.trans (hb5.mono z3)⟩

set_option maxRecDepth 10000 in
set_option maxHeartbeats 2000000 in
theorem law_TPuts_ok {q : Nat → Prop} (pid cnt : Int) (st : Bool) (clk : Int) (A : Option Addr) (n c : Nat) (l : List Int) (w : World) (hl : Byt q w A n l) (hn : n ≤ 400) (hv : validT pid cnt st clk n = true) :
    Calls Try.prog 3 #[.agg #[.int .i64 pid, .int .i64 cnt, .bool st, .int .i64 clk, .slice A n c]] w fun e w' => e = .returned (.bool true) ∧ Below w.heap.size w w' := by
  have hf := encL_form pid cnt st clk l n hl.len (validT_spec hv).2.2.2.1 (validT_spec hv).2.2.2.2.1
  obtain ⟨E, hE⟩ : ∃ E, E = pktL pid cnt st clk l n := ⟨_, rfl⟩
  have hE2 : E = encL pid cnt st clk l n := hE.trans hf.symm
  have hP : ∀ W, Byt (· < w.heap.size) W A n l → Calls Try.prog 11 #[.agg #[.int .i64 pid, .int .i64 cnt, .bool st, .int .i64 clk, .slice A n c]] W (RetPc W E 0) := fun W h => by rw [hE2]; exact tr_Put_okC pid cnt st clk A n c l W h hv
  have hR : ∀ W, Byt (· < w.heap.size) W A n l → Calls Try.prog 13 #[.agg #[.int .i64 pid, .int .i64 cnt, .bool st, .int .i64 clk, .slice A n c]] W (RetP W E 0) := fun W h => by rw [hE]; exact ref_TPut pid cnt st clk A n c l W h hv
  have hT : TakS E pid cnt st clk l 0 := .inl ⟨rfl, by rw [hl.len]; exact hv, by rw [hl.len]; exact hE.symm⟩
  have HP := Lib.hid hP
  have HR := Lib.hid hR
  have HT := Lib.hid hT
  have hEl : E.length = 188 := by rw [hE]; exact pktL_len hv hl.len
  have HEL := Lib.hid hEl
  have hl1 := hl.mono (q := (· < w.heap.size)) (fun b h _ => h)
  have HL := Lib.hid hl1
  clear hf hE hE2 hP hR hT hEl hl hl1 hv
  go_enter Try.func3, Try.ntmps3
  go_wp2_with fail
  refine (law_tgiven pid cnt st clk A n c _).mono ?_
  rintro e w1 ⟨rfl, hb1⟩
  have B1 : Below w.heap.size w w1 := ((Below.refl _ w).alloc (Nat.le_refl _) _).trans (hb1.mono (by simp))
  have x1 := (Bx.new w 24 #[.int .i64 pid, .int .i64 cnt, .bool st, .int .i64 clk, .slice A n c]).ext hb1
  have l1 := HL.out.below B1 (fun _ _ h => h)
  have z1 := B1.size
  go_wp2_with fail
  refine (HP.out _ l1).mono ?_
  rintro e w2 ⟨A2, n2, c2, rfl, hB2, hb2, hk2⟩
  have B2 := B1.trans (hb2.mono z1)
  have z2 := B2.size
  have x2 := x1.ext hb2
  obtain ⟨g0, g1, g2, g3, g4⟩ := x2.cells5
  have s2 := x2.lt
  have l2 := l1.ext hb2
  have hn2 : n2 = 188 := by rw [← hB2.len]; exact HEL.out
  subst hn2
  go_wp2_with fail
  refine (HR.out _ l2).mono ?_
  rintro e w3 ⟨A3, n3, c3, rfl, hB3, hb3⟩
  have B3 := B2.trans (hb3.mono z2)
  have z3 := B3.size
  have x3 := x2.ext hb3
  have l3 := l2.ext hb3
  have b3 := hB2.ext hb3
  clear g0 g1 g2 g3 g4
  go_wp2_with fail
  refine (ref_SameBytes _ _ _ _ _ _ _ _ _ b3 hB3).mono ?_
  rintro e w4 ⟨rfl, rfl⟩
  simp only [decide_true]
  go_wp2_with fail
  refine (tr_Take A2 188 c2 E w3 b3 hk2).mono ?_
  rintro e w8 ⟨pid', cnt', st', clk', A8, n8, c8, pl', code', rfl, hB8, hb8, hT8⟩
  obtain ⟨rfl, rfl, rfl, rfl, rfl, rfl⟩ := takS_uniq HT.out hT8
  have B8 := B3.trans (hb8.mono z3)
  have x8 := x3.ext hb8
  have l8 := l3.ext hb8
  have z8 := B8.size
  obtain ⟨g0, g1, g2, g3, g4⟩ := x8.cells5
  have s8 := x8.lt
  clear b3 hB2 hB3 x1 x2 x3 l1 l2 l3 hT8
  have HB8 := Lib.hid hB8
  have HL8 := Lib.hid l8
  clear hB8 l8
  go_wp2_with fail
  refine (law_awake _).mono ?_
  rintro e w9 ⟨rfl, hb9⟩
  have y8 := (Bx.new w8 28 #[.int .i64 pid, .int .i64 cnt, .bool st, .int .i64 clk, .slice A8 n8 c8]).ext hb9
  have y9 := (x8.alloc (.cells #[.int .i64 pid, .int .i64 cnt, .bool st, .int .i64 clk, .slice A8 n8 c8] 28)).ext hb9
  obtain ⟨a0, a1, a2, a3, a4⟩ := y8.cells5
  obtain ⟨e0, e1, e2, e3, e4⟩ := y9.cells5
  clear g0 g1 g2 g3 g4
  have s9 := y8.lt
  have s10 := y9.lt
  go_wp2_with fail
  refine (law_tsame pid cnt st clk A8 A n8 c8 n c l l _ ((HB8.out.alloc _).ext hb9) ((HL8.out.alloc _).ext hb9) rfl).mono ?_
  rintro e w10 ⟨rfl, hb10⟩
  go_wp2_with fail
  go_ret
  refine ⟨rfl, ?_⟩
  have D9 := (B8.alloc z8 (.cells #[.int .i64 pid, .int .i64 cnt, .bool st, .int .i64 clk, .slice A8 n8 c8] 28)).trans (hb9.mono (by simp; omega))
  exact D9.trans (hb10.mono D9.size)
theorem law_TransportPuts (pid cnt : Int) (st : Bool) (clk : Int) (A : Option Addr) (n c : Nat) (l : List Int) (w : World) (hl : Byt (fun _ => True) w A n l) :
    Calls Try.prog 3 #[.agg #[.int .i64 pid, .int .i64 cnt, .bool st, .int .i64 clk, .slice A n c]] w fun e w' => e = .returned (.bool true) ∧ Below w.heap.size w w' := by
  by_cases h1 : 400 < n
  · go_enter Try.func3, Try.ntmps3
    go_wp2_with fail
    go_ret
    exact ⟨rfl, (Below.refl _ _).alloc (Nat.le_refl _) _⟩
  cases hv : validT pid cnt st clk n with
  | false => exact law_TPuts_no pid cnt st clk A n c l w hl (by omega) hv
  | true => exact law_TPuts_ok pid cnt st clk A n c l w hl (by omega) hv
end Go.Proofs.Ytdnchjmopkhnaaa
