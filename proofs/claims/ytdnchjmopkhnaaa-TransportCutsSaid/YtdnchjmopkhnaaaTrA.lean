/- transport.room, control, valid; the reference's Valid. -/
import Derived.Test.YtdnchjmopkhnaaaGen
namespace Go.Proofs.Ytdnchjmopkhnaaa
open Go.RowKit

def roomT (clk : Int) : Int := if clk = -1 then 184 else 176
def ctlT (n : Int) : Int := if n = 184 then 1 else if n = 0 then 2 else 3
theorem tr_room (clk : Int) (w : World) : Calls Try.prog 44 #[.int .i64 clk] w fun e w' => e = .returned (.int .i64 (roomT clk)) ∧ w = w' := by
  unfold roomT
  go_enter Try.func44, Try.ntmps44
  go_wp2
  all_goals
    go_ret
    refine ⟨?_, rfl⟩
    simp_all
theorem tr_control (n : Int) (w : World) : Calls Try.prog 52 #[.int .i64 n] w fun e w' => e = .returned (.int .u8 (ctlT n)) ∧ w = w' := by
  unfold ctlT
  go_enter Try.func52, Try.ntmps52
  go_wp2
  all_goals
    go_ret
    refine ⟨?_, rfl⟩
    simp_all
def validT (pid cnt : Int) (st : Bool) (clk : Int) (n : Nat) : Bool :=
  decide (0 ≤ pid ∧ pid < 8192 ∧ 0 ≤ cnt ∧ cnt < 16 ∧ -1 ≤ clk ∧ clk < 2576980377600 ∧ (n : Int) ≤ roomT clk ∧ (st = false ∨ 0 < n))
set_option maxRecDepth 100000 in
set_option maxHeartbeats 4000000 in
theorem tr_valid (pid cnt : Int) (st : Bool) (clk : Int) (A : Option Addr) (n c : Nat) (w : World) :
    Calls Try.prog 33 #[.agg #[.int .i64 pid, .int .i64 cnt, .bool st, .int .i64 clk, .slice A n c]] w fun e w' => e = .returned (.bool (validT pid cnt st clk n)) ∧ Below w.heap.size w w' := by
  have fin : ∀ b : Bool, (b = true ↔ (0 ≤ pid ∧ pid < 8192 ∧ 0 ≤ cnt ∧ cnt < 16 ∧ -1 ≤ clk ∧ clk < 2576980377600 ∧ (n : Int) ≤ roomT clk ∧ (st = false ∨ 0 < n))) → b = validT pid cnt st clk n := by
    intro b hb
    rw [Bool.eq_iff_iff, hb]
    simp only [validT, decide_eq_true_eq]
  have FIN := Lib.hid fin
  clear fin
  have hcall : ∀ W, Calls Try.prog 44 #[.int .i64 clk] W fun e w' => e = .returned (.int .i64 (roomT clk)) ∧ w' = W := fun W => (tr_room clk W).mono fun _ _ ⟨a, b⟩ => ⟨a, b.symm⟩
  generalize roomT clk = rm at *
  have HC := Lib.hid hcall
  clear hcall
  by_cases h0 : 0 ≤ pid
  · have d0 : decide (0 ≤ pid) = true := by simpa using h0
    by_cases h1 : pid < 8192
    · have d1 : decide (pid < 8192) = true := by simpa using h1
      by_cases h2 : 0 ≤ cnt
      · have d2 : decide (0 ≤ cnt) = true := by simpa using h2
        by_cases h3 : cnt < 16
        · have d3 : decide (cnt < 16) = true := by simpa using h3
          by_cases h4 : -1 ≤ clk
          · have d4 : decide (-1 ≤ clk) = true := by simpa using h4
            by_cases h5 : clk < 2576980377600
            · have d5 : decide (clk < 2576980377600) = true := by simpa using h5
              by_cases h6 : (n : Int) ≤ rm
              · have d6 : decide ((n : Int) ≤ rm) = true := by simpa using h6
                cases st
                · skip
                  have hx := Bx.new w 28 #[.int .i64 pid, .int .i64 cnt, .bool false, .int .i64 clk, .slice A n c]
                  have hB : Below w.heap.size w (w.alloc (.cells #[.int .i64 pid, .int .i64 cnt, .bool false, .int .i64 clk, .slice A n c] 28)) := (Below.refl _ _).alloc (Nat.le_refl _) _
                  go_enter Try.func33, Try.ntmps33
                  go_wp2_with fail
                  generalize w.alloc (.cells #[.int .i64 pid, .int .i64 cnt, .bool false, .int .i64 clk, .slice A n c] 28) = W at *
                  obtain ⟨f0, f1, f2, f3, f4⟩ := hx.cells5
                  have fl := hx.lt
                  go_quiet ((go_at_call 44; exact Calls.quiet_of_same (HC.out _)))
                  go_wp2_with fail
                  go_ret
                  refine ⟨ret_bool (FIN.out _ ?_), bdrewN hB _⟩
                  simp
                  omega
                · by_cases h9 : 0 < n
                  · have d9 : decide (0 < n) = true := by simpa using h9
                    have d9' : decide ((0 : Int) < (n : Int)) = true := by simpa using h9
                    have hx := Bx.new w 28 #[.int .i64 pid, .int .i64 cnt, .bool true, .int .i64 clk, .slice A n c]
                    have hB : Below w.heap.size w (w.alloc (.cells #[.int .i64 pid, .int .i64 cnt, .bool true, .int .i64 clk, .slice A n c] 28)) := (Below.refl _ _).alloc (Nat.le_refl _) _
                    go_enter Try.func33, Try.ntmps33
                    go_wp2_with fail
                    generalize w.alloc (.cells #[.int .i64 pid, .int .i64 cnt, .bool true, .int .i64 clk, .slice A n c] 28) = W at *
                    obtain ⟨f0, f1, f2, f3, f4⟩ := hx.cells5
                    have fl := hx.lt
                    go_quiet ((go_at_call 44; exact Calls.quiet_of_same (HC.out _)))
                    go_wp2_with fail
                    go_ret
                    refine ⟨ret_bool (FIN.out _ ?_), bdrewN hB _⟩
                    simp
                    omega
                  · have d9 : decide (0 < n) = false := by simpa using h9
                    have d9' : decide ((0 : Int) < (n : Int)) = false := by simpa using h9
                    have hx := Bx.new w 28 #[.int .i64 pid, .int .i64 cnt, .bool true, .int .i64 clk, .slice A n c]
                    have hB : Below w.heap.size w (w.alloc (.cells #[.int .i64 pid, .int .i64 cnt, .bool true, .int .i64 clk, .slice A n c] 28)) := (Below.refl _ _).alloc (Nat.le_refl _) _
                    go_enter Try.func33, Try.ntmps33
                    go_wp2_with fail
                    generalize w.alloc (.cells #[.int .i64 pid, .int .i64 cnt, .bool true, .int .i64 clk, .slice A n c] 28) = W at *
                    obtain ⟨f0, f1, f2, f3, f4⟩ := hx.cells5
                    have fl := hx.lt
                    go_quiet ((go_at_call 44; exact Calls.quiet_of_same (HC.out _)))
                    go_wp2_with fail
                    go_ret
                    refine ⟨ret_bool (FIN.out _ ?_), bdrewN hB _⟩
                    simp
                    omega
              · have d6 : decide ((n : Int) ≤ rm) = false := by simpa using h6
                have hx := Bx.new w 28 #[.int .i64 pid, .int .i64 cnt, .bool st, .int .i64 clk, .slice A n c]
                have hB : Below w.heap.size w (w.alloc (.cells #[.int .i64 pid, .int .i64 cnt, .bool st, .int .i64 clk, .slice A n c] 28)) := (Below.refl _ _).alloc (Nat.le_refl _) _
                go_enter Try.func33, Try.ntmps33
                go_wp2_with fail
                generalize w.alloc (.cells #[.int .i64 pid, .int .i64 cnt, .bool st, .int .i64 clk, .slice A n c] 28) = W at *
                obtain ⟨f0, f1, f2, f3, f4⟩ := hx.cells5
                have fl := hx.lt
                go_quiet ((go_at_call 44; exact Calls.quiet_of_same (HC.out _)))
                go_wp2_with fail
                go_ret
                refine ⟨ret_bool (FIN.out _ ?_), bdrewN hB _⟩
                simp
                omega
            · have d5 : decide (clk < 2576980377600) = false := by simpa using h5
              have hx := Bx.new w 28 #[.int .i64 pid, .int .i64 cnt, .bool st, .int .i64 clk, .slice A n c]
              have hB : Below w.heap.size w (w.alloc (.cells #[.int .i64 pid, .int .i64 cnt, .bool st, .int .i64 clk, .slice A n c] 28)) := (Below.refl _ _).alloc (Nat.le_refl _) _
              go_enter Try.func33, Try.ntmps33
              go_wp2_with fail
              generalize w.alloc (.cells #[.int .i64 pid, .int .i64 cnt, .bool st, .int .i64 clk, .slice A n c] 28) = W at *
              obtain ⟨f0, f1, f2, f3, f4⟩ := hx.cells5
              have fl := hx.lt
              go_quiet ((go_at_call 44; exact Calls.quiet_of_same (HC.out _)))
              go_wp2_with fail
              go_ret
              refine ⟨ret_bool (FIN.out _ ?_), bdrewN hB _⟩
              simp
              omega
          · have d4 : decide (-1 ≤ clk) = false := by simpa using h4
            have hx := Bx.new w 28 #[.int .i64 pid, .int .i64 cnt, .bool st, .int .i64 clk, .slice A n c]
            have hB : Below w.heap.size w (w.alloc (.cells #[.int .i64 pid, .int .i64 cnt, .bool st, .int .i64 clk, .slice A n c] 28)) := (Below.refl _ _).alloc (Nat.le_refl _) _
            go_enter Try.func33, Try.ntmps33
            go_wp2_with fail
            generalize w.alloc (.cells #[.int .i64 pid, .int .i64 cnt, .bool st, .int .i64 clk, .slice A n c] 28) = W at *
            obtain ⟨f0, f1, f2, f3, f4⟩ := hx.cells5
            have fl := hx.lt
            go_quiet ((go_at_call 44; exact Calls.quiet_of_same (HC.out _)))
            go_wp2_with fail
            go_ret
            refine ⟨ret_bool (FIN.out _ ?_), bdrewN hB _⟩
            simp
            omega
        · have d3 : decide (cnt < 16) = false := by simpa using h3
          have hx := Bx.new w 28 #[.int .i64 pid, .int .i64 cnt, .bool st, .int .i64 clk, .slice A n c]
          have hB : Below w.heap.size w (w.alloc (.cells #[.int .i64 pid, .int .i64 cnt, .bool st, .int .i64 clk, .slice A n c] 28)) := (Below.refl _ _).alloc (Nat.le_refl _) _
          go_enter Try.func33, Try.ntmps33
          go_wp2_with fail
          generalize w.alloc (.cells #[.int .i64 pid, .int .i64 cnt, .bool st, .int .i64 clk, .slice A n c] 28) = W at *
          obtain ⟨f0, f1, f2, f3, f4⟩ := hx.cells5
          have fl := hx.lt
          go_quiet ((go_at_call 44; exact Calls.quiet_of_same (HC.out _)))
          go_wp2_with fail
          go_ret
          refine ⟨ret_bool (FIN.out _ ?_), bdrewN hB _⟩
          simp
          omega
      · have d2 : decide (0 ≤ cnt) = false := by simpa using h2
        have hx := Bx.new w 28 #[.int .i64 pid, .int .i64 cnt, .bool st, .int .i64 clk, .slice A n c]
        have hB : Below w.heap.size w (w.alloc (.cells #[.int .i64 pid, .int .i64 cnt, .bool st, .int .i64 clk, .slice A n c] 28)) := (Below.refl _ _).alloc (Nat.le_refl _) _
        go_enter Try.func33, Try.ntmps33
        go_wp2_with fail
        generalize w.alloc (.cells #[.int .i64 pid, .int .i64 cnt, .bool st, .int .i64 clk, .slice A n c] 28) = W at *
        obtain ⟨f0, f1, f2, f3, f4⟩ := hx.cells5
        have fl := hx.lt
        go_quiet ((go_at_call 44; exact Calls.quiet_of_same (HC.out _)))
        go_wp2_with fail
        go_ret
        refine ⟨ret_bool (FIN.out _ ?_), bdrewN hB _⟩
        simp
        omega
    · have d1 : decide (pid < 8192) = false := by simpa using h1
      have hx := Bx.new w 28 #[.int .i64 pid, .int .i64 cnt, .bool st, .int .i64 clk, .slice A n c]
      have hB : Below w.heap.size w (w.alloc (.cells #[.int .i64 pid, .int .i64 cnt, .bool st, .int .i64 clk, .slice A n c] 28)) := (Below.refl _ _).alloc (Nat.le_refl _) _
      go_enter Try.func33, Try.ntmps33
      go_wp2_with fail
      generalize w.alloc (.cells #[.int .i64 pid, .int .i64 cnt, .bool st, .int .i64 clk, .slice A n c] 28) = W at *
      obtain ⟨f0, f1, f2, f3, f4⟩ := hx.cells5
      have fl := hx.lt
      go_quiet ((go_at_call 44; exact Calls.quiet_of_same (HC.out _)))
      go_wp2_with fail
      go_ret
      refine ⟨ret_bool (FIN.out _ ?_), bdrewN hB _⟩
      simp
      omega
  · have d0 : decide (0 ≤ pid) = false := by simpa using h0
    have hx := Bx.new w 28 #[.int .i64 pid, .int .i64 cnt, .bool st, .int .i64 clk, .slice A n c]
    have hB : Below w.heap.size w (w.alloc (.cells #[.int .i64 pid, .int .i64 cnt, .bool st, .int .i64 clk, .slice A n c] 28)) := (Below.refl _ _).alloc (Nat.le_refl _) _
    go_enter Try.func33, Try.ntmps33
    go_wp2_with fail
    generalize w.alloc (.cells #[.int .i64 pid, .int .i64 cnt, .bool st, .int .i64 clk, .slice A n c] 28) = W at *
    obtain ⟨f0, f1, f2, f3, f4⟩ := hx.cells5
    have fl := hx.lt
    go_quiet ((go_at_call 44; exact Calls.quiet_of_same (HC.out _)))
    go_wp2_with fail
    go_ret
    refine ⟨ret_bool (FIN.out _ ?_), bdrewN hB _⟩
    simp
    omega

end Go.Proofs.Ytdnchjmopkhnaaa
