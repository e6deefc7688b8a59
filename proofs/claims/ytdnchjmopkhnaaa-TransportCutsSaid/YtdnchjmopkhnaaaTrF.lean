/- transport.Put where the packet is refused. -/
import Derived.Test.YtdnchjmopkhnaaaTrE
namespace Go.Proofs.Ytdnchjmopkhnaaa
open Go.RowKit

set_option maxRecDepth 10000 in
set_option maxHeartbeats 2000000 in
theorem tr_Put_argC (pid cnt : Int) (st : Bool) (clk : Int) (A : Option Addr) (n c : Nat) (w : World) (hv : validT pid cnt st clk n = false) :
    Calls Try.prog 11 #[.agg #[.int .i64 pid, .int .i64 cnt, .bool st, .int .i64 clk, .slice A n c]] w (RetPc w [] 1) := by
  have hmf : ∀ (fn : Fn) (first cap : Array Value) (w : World), (Instr.makeFunc fn first cap).run Try.prog w = .ok (.func fn first cap) w := fun _ _ _ _ => rfl
  have XP : Bx (((w.alloc (.cells #[.int .i64 pid, .int .i64 cnt, .bool st, .int .i64 clk, .slice A n c] 28)).alloc (.cells #[.slice none 0 0] 22)).alloc (.cells #[.int .i64 0] 25)) w.heap.size 28 #[.int .i64 pid, .int .i64 cnt, .bool st, .int .i64 clk, .slice A n c] := ((Bx.new _ _ _).alloc _).alloc _
  have X1 : Bx (((w.alloc (.cells #[.int .i64 pid, .int .i64 cnt, .bool st, .int .i64 clk, .slice A n c] 28)).alloc (.cells #[.slice none 0 0] 22)).alloc (.cells #[.int .i64 0] 25)) (w.heap.size + 1) 22 #[.slice none 0 0] := (Bx.new' _ _ _ _ (by simp)).alloc _
  have X2 : Bx (((w.alloc (.cells #[.int .i64 pid, .int .i64 cnt, .bool st, .int .i64 clk, .slice A n c] 28)).alloc (.cells #[.slice none 0 0] 22)).alloc (.cells #[.int .i64 0] 25)) (w.heap.size + 1 + 1) 25 #[.int .i64 0] := Bx.new' _ _ _ _ (by simp)
  have B0 : Below w.heap.size w (((w.alloc (.cells #[.int .i64 pid, .int .i64 cnt, .bool st, .int .i64 clk, .slice A n c] 28)).alloc (.cells #[.slice none 0 0] 22)).alloc (.cells #[.int .i64 0] 25)) := (((Below.refl _ w).alloc (Nat.le_refl _) _).alloc (by simp) _).alloc (by simp; omega) _
  go_enter_defers Try.func11, Try.ntmps11
  go_upto_region 2 with fail
  generalize ((w.alloc (.cells #[.int .i64 pid, .int .i64 cnt, .bool st, .int .i64 clk, .slice A n c] 28)).alloc (.cells #[.slice none 0 0] 22)).alloc (.cells #[.int .i64 0] 25) = W at *
  obtain ⟨f0, f1, f2, f3, f4⟩ := XP.cells5
  have s1 := XP.lt
  go_wp2_with fail
  refine (tr_valid pid cnt st clk A n c _).mono ?_
  rintro e w1 ⟨rfl, hb1⟩
  rw [hv]
  have XP := XP.ext hb1
  have X1 := X1.ext hb1
  have X2 := X2.ext hb1
  have B1 := B0.trans (hb1.mono B0.size)
  clear f0 f1 f2 f3 f4 s1 B0
  obtain ⟨f0, f1, f2, f3, f4⟩ := XP.cells5
  have u1 : w1.cell? ⟨w.heap.size + 1, 0, none⟩ = some (.slice none 0 0) := X1.cell 0 rfl
  have u2 : w1.cell? ⟨w.heap.size + 1 + 1, 0, none⟩ = some (.int .i64 0) := X2.cell 0 rfl
  have v1 := X1.frozen 0
  have v2 := X2.frozen 0
  have s1 := XP.lt
  have s2 := X1.lt
  have s3 := X2.lt
  go_wp2_with fail
  exact trput_leave (w := w) (g := w.heap.size + 1) _ _ rfl rfl rfl ((X1.set_ 0 _).far (by dsimp only; omega) _) ((X2.far (by dsimp only; omega) _).set_ 0 _) Byt.nil (bset (bset B1 _ (by dsimp only; omega) _) _ (by dsimp only; omega) _) (Nat.le_refl _)
theorem tr_Put_arg (pid cnt : Int) (st : Bool) (clk : Int) (A : Option Addr) (n c : Nat) (w : World) (hv : validT pid cnt st clk n = false) :
    Calls Try.prog 11 #[.agg #[.int .i64 pid, .int .i64 cnt, .bool st, .int .i64 clk, .slice A n c]] w (RetP w [] 1) := (tr_Put_argC pid cnt st clk A n c w hv).mono fun _ _ h => h.p

end Go.Proofs.Ytdnchjmopkhnaaa
