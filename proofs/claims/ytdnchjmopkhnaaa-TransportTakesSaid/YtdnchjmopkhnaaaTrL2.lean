/- TransportTakes. -/
import Derived.Test.YtdnchjmopkhnaaaTrL
namespace Go.Proofs.Ytdnchjmopkhnaaa
open Go.RowKit

set_option maxRecDepth 10000 in
set_option maxHeartbeats 2000000 in
theorem law_TransportTakes (A : Option Addr) (n c : Nat) (l : List Int) (w : World) (hl : Byt (fun _ => True) w A n l) (hc : n ≤ c) :
    Calls Try.prog 4 #[.slice A n c] w fun e w' => e = .returned (.bool true) ∧ Below w.heap.size w w' := by
  by_cases h1 : 400 < n
  · go_enter Try.func4, Try.ntmps4
    go_wp2_with fail
    go_ret
    exact ⟨rfl, Below.refl _ _⟩
  have hn : n ≤ 400 := by omega
  have hl1 := hl.mono (q := (· < w.heap.size)) (fun b h _ => h)
  have HL := Lib.hid hl1
  have HLL := Lib.hid hl.len
  clear hl hl1 h1
  go_enter Try.func4, Try.ntmps4
  go_wp2_with fail
  refine (tr_Take A n c l w HL.out hc).mono ?_
  rintro e w1 ⟨pid, cnt, st, clk, A1, n1, c1, pl, code, rfl, hB1, hb1, hT1⟩
  have l1 := HL.out.ext hb1
  have hT := hT1
  have HB1 := Lib.hid hB1
  have HT := Lib.hid hT1
  clear hT1 hB1
  go_upto_region 4 with fail
  have y1 := Bx.new w1 28 #[.int .i64 pid, .int .i64 cnt, .bool st, .int .i64 clk, .slice A1 n1 c1]
  have B1 := hb1.alloc hb1.size (.cells #[.int .i64 pid, .int .i64 cnt, .bool st, .int .i64 clk, .slice A1 n1 c1] 28)
  have l2 := l1.alloc (.cells #[.int .i64 pid, .int .i64 cnt, .bool st, .int .i64 clk, .slice A1 n1 c1] 28)
  have HB2 := Lib.hid (HB1.out.alloc (.cells #[.int .i64 pid, .int .i64 cnt, .bool st, .int .i64 clk, .slice A1 n1 c1] 28))
  have zz : (w1.alloc (.cells #[.int .i64 pid, .int .i64 cnt, .bool st, .int .i64 clk, .slice A1 n1 c1] 28)).heap.size = w1.heap.size + 1 := by simp
  generalize w1.alloc (.cells #[.int .i64 pid, .int .i64 cnt, .bool st, .int .i64 clk, .slice A1 n1 c1] 28) = w2 at *
  have HZ := Lib.hid zz
  clear zz
  go_wp2_with fail
  refine (ref_TTake A n c l w2 l2 hc).mono ?_
  rintro e w3 ⟨pid', cnt', st', clk', A3, n3, c3, pl', code', rfl, hB3, hb3, hT3⟩
  obtain ⟨rfl, rfl, rfl, rfl, rfl, rfl⟩ := takS_uniq HT.out hT3
  have B3 := B1.trans (hb3.mono B1.size)
  have y3 := y1.ext hb3
  have l3 := l2.ext hb3
  have HB4 := Lib.hid (HB2.out.ext hb3)
  have HB3 := Lib.hid hB3
  have HL3 := Lib.hid l3
  clear hb3 hT3 hB3 y1 B1 l2 l3 l1 hb1
  have y5 := y3.alloc (.cells #[.int .i64 pid, .int .i64 cnt, .bool st, .int .i64 clk, .slice A3 n3 c3] 24)
  have x5 := Bx.new w3 24 #[.int .i64 pid, .int .i64 cnt, .bool st, .int .i64 clk, .slice A3 n3 c3]
  have B5 := B3.alloc B3.size (.cells #[.int .i64 pid, .int .i64 cnt, .bool st, .int .i64 clk, .slice A3 n3 c3] 24)
  have HB5 := Lib.hid (HB4.out.alloc (.cells #[.int .i64 pid, .int .i64 cnt, .bool st, .int .i64 clk, .slice A3 n3 c3] 24))
  have HB6 := Lib.hid (HB3.out.alloc (.cells #[.int .i64 pid, .int .i64 cnt, .bool st, .int .i64 clk, .slice A3 n3 c3] 24))
  have HL5 := Lib.hid (HL3.out.alloc (.cells #[.int .i64 pid, .int .i64 cnt, .bool st, .int .i64 clk, .slice A3 n3 c3] 24))
  go_upto_region 5 with fail
  generalize w3.alloc (.cells #[.int .i64 pid, .int .i64 cnt, .bool st, .int .i64 clk, .slice A3 n3 c3] 24) = w5 at *
  obtain ⟨a0, a1, a2, a3, a4⟩ := y5.cells5
  obtain ⟨e0, e1, e2, e3, e4⟩ := x5.cells5
  have s1 := y5.lt
  have s2 := x5.lt
  have tcc : (code != code) = false := by simp
  clear y3 B3
  go_wp2_with fail
  refine (law_tsame pid cnt st clk A1 A3 n1 c1 n3 c3 pl pl w5 HB5.out HB6.out rfl).mono ?_
  rintro e w6 ⟨rfl, hb6⟩
  have y6 := y5.ext hb6
  have B6 := B5.trans (hb6.mono B5.size)
  have HB7 := Lib.hid (HB5.out.ext hb6)
  have HL7 := Lib.hid (HL5.out.ext hb6)
  have z6 := B6.size
  clear a0 a1 a2 a3 a4 e0 e1 e2 e3 e4 s1 s2 y5 x5 B5 hb6
  rcases hT with ⟨rfl, hv, hpk⟩ | ⟨hne, hx⟩
  · have hpn : pl.length = n1 := HB1.out.len
    subst hpn
    obtain ⟨_, _, _, hn4, hrm, _⟩ := validT_spec hv
    have hP : ∀ W, Byt (w.heap.size ≤ ·) W A1 pl.length pl → Calls Try.prog 11 #[.agg #[.int .i64 pid, .int .i64 cnt, .bool st, .int .i64 clk, .slice A1 pl.length c1]] W (RetP W l 0) := fun W h => by
      rw [← hpk, ← encL_form pid cnt st clk pl pl.length rfl hn4 hrm]
      exact tr_Put_ok pid cnt st clk A1 pl.length c1 pl W h hv
    have HP := Lib.hid hP
    clear hP hv hpk hrm
    obtain ⟨a0, a1, a2, a3, a4⟩ := y6.cells5
    have s1 := y6.lt
    go_wp2_with fail
    refine (HP.out w6 HB7.out).mono ?_
    rintro e w7 ⟨A7, n7, c7, rfl, hB7, hb7⟩
    have B7 := B6.trans (hb7.mono z6)
    have z7 := B7.size
    have HB8 := Lib.hid hB7
    have HL8 := Lib.hid (HL7.out.ext hb7)
    clear hB7 hb7
    go_wp2_with fail
    refine (law_awake _).mono ?_
    rintro e w9 ⟨rfl, hb9⟩
    have B9 := B7.trans (hb9.mono z7)
    go_wp2_with fail
    refine (ref_SameBytes _ _ _ _ _ _ _ _ _ (HL8.out.ext hb9) (HB8.out.ext hb9)).mono ?_
    rintro e w10 ⟨rfl, rfl⟩
    simp only [decide_true]
    go_wp2_with fail
    go_ret
    exact ⟨rfl, B9⟩
  · have t0 : (code != 0) = true := by simpa using hne
    clear hne hx
    go_wp2_with fail
    refine (law_awake _).mono ?_
    rintro e w7 ⟨rfl, hb7⟩
    go_wp2_with fail
    go_ret
    exact ⟨rfl, B6.trans (hb7.mono z6)⟩
end Go.Proofs.Ytdnchjmopkhnaaa
