/- pes.Cut: where there is nothing to cut. -/
import Derived.Test.YtojfaonlgkicfaaCutP
namespace Go.Proofs.Ytojfaonlgkicfaa
open Go.RowKit

theorem cut_idle (p q : Addr) (w : World) :
    CallsD Try.prog 30 #[.pointer (some p), .pointer (some q)] .returning w fun e u' w' => e = .returned (.tuple #[]) ∧ u' = .returning ∧ w' = w := by
  refine callsD_of_wpS Try.func30 rfl fun c₀ cs hu => ?_
  apply wpS_seq
  apply wpS_region
  simp [wpOpsS, go_sem, recoverD, hu, Try.ntmps30, Exit.thenS]
  refine wpS_cond (t := false) (by simp [Act.eval, Array.replicate]) ?_
  simp only [Bool.false_eq_true, if_false]
  refine wpS_of_wp (wp_skip ?_)
  cases c₀
  simp_all [bodyPostS, results, Try.results30]
/-- The boxes of Cut's results. -/
structure CBx (w : World) (W : World) : Prop where
  b5 : ∃ v, Bx W w.heap.size 3 #[v]
  b10 : Bx W (w.heap.size + 1 + 1 + 1) 26 #[.slice none 0 0]
  b11 : Bx W (w.heap.size + 1 + 1 + 1 + 1) 38 #[.int .i64 0]
  be : Below w.heap.size w W
theorem CBx.ext {w W W' : World} (h : CBx w W) (hb : Below W.heap.size W W') : CBx w W' := by
  obtain ⟨v, hv⟩ := h.b5
  exact ⟨⟨v, hv.ext hb⟩, h.b10.ext hb, h.b11.ext hb, h.be.trans (hb.mono h.be.size)⟩
theorem CBx.facts {w W : World} (h : CBx w W) : (W.cell? ⟨w.heap.size + 1 + 1 + 1, 0, none⟩ = some (.slice none 0 0) ∧ W.frozen? ⟨w.heap.size + 1 + 1 + 1, 0, none⟩ = false ∧ w.heap.size + 1 + 1 + 1 < W.heap.size) ∧ W.cell? ⟨w.heap.size + 1 + 1 + 1 + 1, 0, none⟩ = some (.int .i64 0) ∧ W.frozen? ⟨w.heap.size + 1 + 1 + 1 + 1, 0, none⟩ = false ∧ w.heap.size + 1 + 1 + 1 + 1 < W.heap.size :=
  ⟨⟨h.b10.cell 0 rfl, h.b10.frozen 0, h.b10.lt⟩, h.b11.cell 0 rfl, h.b11.frozen 0, h.b11.lt⟩
theorem CBx.leave {w W : World} (h : CBx w W) : ((W.setCell ⟨w.heap.size + 1 + 1 + 1, 0, none⟩ (.slice none 0 0)).setCell ⟨w.heap.size + 1 + 1 + 1 + 1, 0, none⟩ (.int .i64 1)).cell? ⟨w.heap.size + 1 + 1 + 1, 0, none⟩ = some (.slice none 0 0) ∧
    ((W.setCell ⟨w.heap.size + 1 + 1 + 1, 0, none⟩ (.slice none 0 0)).setCell ⟨w.heap.size + 1 + 1 + 1 + 1, 0, none⟩ (.int .i64 1)).cell? ⟨w.heap.size + 1 + 1 + 1 + 1, 0, none⟩ = some (.int .i64 1) ∧
    Below w.heap.size w ((W.setCell ⟨w.heap.size + 1 + 1 + 1, 0, none⟩ (.slice none 0 0)).setCell ⟨w.heap.size + 1 + 1 + 1 + 1, 0, none⟩ (.int .i64 1)) :=
  ⟨((h.b10.set_ 0 (.slice none 0 0)).far (by simp) _).cell 0 rfl, ((h.b11.far (by simp) (.slice none 0 0)).set_ 0 (.int .i64 1)).cell 0 rfl, (h.be.setCell (p := ⟨w.heap.size + 1 + 1 + 1, 0, none⟩) (by dsimp only; omega) _).setCell (p := ⟨w.heap.size + 1 + 1 + 1 + 1, 0, none⟩) (by dsimp only; omega) _⟩
theorem CBx.start (w : World) (s p d : Int) : CBx w (((((w.alloc (.cells #[.int .i64 s] 3)).alloc (.cells #[.int .i64 p] 2)).alloc (.cells #[.int .i64 d] 2)).alloc (.cells #[.slice none 0 0] 26)).alloc (.cells #[.int .i64 0] 38)) :=
  ⟨⟨.int .i64 s, ((((Bx.new w 3 #[.int .i64 s]).alloc _).alloc _).alloc _).alloc _⟩, (Bx.new' _ _ _ _ (by simp)).alloc _, Bx.new' _ _ _ _ (by simp), (((((Below.refl w.heap.size w).alloc (Nat.le_refl _) _).alloc (by simp) _).alloc (by simp; omega) _).alloc (by simp; omega) _).alloc (by simp; omega) _⟩

set_option maxRecDepth 100000 in
set_option maxHeartbeats 4000000 in
theorem pes_Cut_no (s pts dts : Int) (A : Option Addr) (n c : Nat) (k : Int) (w : World) (hno : k < 1 ∨ 60000 < k ∨ validP s pts dts = false) :
    Calls Try.prog 17 #[.int .i64 s, .slice A n c, .int .i64 pts, .int .i64 dts, .int .i64 k] w (RetCu w 1 []) := by
  have hmf : ∀ (fn : Fn) (first cap : Array Value) (w : World), (Instr.makeFunc fn first cap).run Try.prog w = .ok (.func fn first cap) w := fun _ _ _ _ => rfl
  have HVP := Lib.hid (fun w' => pes_valid s pts dts (.slice none 0 0) w')
  have HP0 := Lib.hid (CBx.start w s pts dts)
  have q5 := (((((Bx.new w 3 #[.int .i64 s]).alloc (.cells #[.int .i64 pts] 2)).alloc (.cells #[.int .i64 dts] 2)).alloc (.cells #[.slice none 0 0] 26)).alloc (.cells #[.int .i64 0] 38)).cell 0 rfl
  have q7 := ((((Bx.new' (w.alloc (.cells #[.int .i64 s] 3)) 2 #[.int .i64 pts] (w.heap.size + 1) (by simp)).alloc (.cells #[.int .i64 dts] 2)).alloc (.cells #[.slice none 0 0] 26)).alloc (.cells #[.int .i64 0] 38)).cell 0 rfl
  have q8 := (((Bx.new' ((w.alloc (.cells #[.int .i64 s] 3)).alloc (.cells #[.int .i64 pts] 2)) 2 #[.int .i64 dts] (w.heap.size + 1 + 1) (by simp)).alloc (.cells #[.slice none 0 0] 26)).alloc (.cells #[.int .i64 0] 38)).cell 0 rfl
  by_cases h1 : k < 1
  · have d1 : decide (k < 1) = true := decide_eq_true h1
    go_enter_defers Try.func17, Try.ntmps17
    go_upto_region 2 with fail
    generalize ((((w.alloc _).alloc _).alloc _).alloc _).alloc _ = W0 at *
    have HPX := HP0
    obtain ⟨⟨g1, g2, g3⟩, g4, g5, g6⟩ := HPX.out.facts
    have HRT := Lib.hid HPX.out.leave
    go_wp2_with fail
    obtain ⟨z1, z2, zb⟩ := HRT.out
    refine leaves_cons (f := 30) (args := #[.pointer (some ⟨w.heap.size + 1 + 1 + 1, 0, none⟩), .pointer (some ⟨w.heap.size + 1 + 1 + 1 + 1, 0, none⟩)]) (by simp) (by simp [go_sem]) ?_
    refine (cut_idle _ _ _).mono ?_
    rintro e u' w'' ⟨rfl, rfl, rfl⟩
    exact ⟨.tuple #[.slice none 0 0, .int .i64 1], by simp [results, Try.results17, go_sem, z1, z2], none, 0, 0, [], rfl, ⟨rfl, Rw.nil, by simp⟩, rfl, zb⟩
  · have d1 : decide (k < 1) = false := decide_eq_false h1
    by_cases h2 : 60000 < k
    · have d2 : decide (60000 < k) = true := decide_eq_true h2
      go_enter_defers Try.func17, Try.ntmps17
      go_upto_region 2 with fail
      generalize ((((w.alloc _).alloc _).alloc _).alloc _).alloc _ = W0 at *
      have HPX := HP0
      obtain ⟨⟨g1, g2, g3⟩, g4, g5, g6⟩ := HPX.out.facts
      have HRT := Lib.hid HPX.out.leave
      go_wp2_with fail
      obtain ⟨z1, z2, zb⟩ := HRT.out
      refine leaves_cons (f := 30) (args := #[.pointer (some ⟨w.heap.size + 1 + 1 + 1, 0, none⟩), .pointer (some ⟨w.heap.size + 1 + 1 + 1 + 1, 0, none⟩)]) (by simp) (by simp [go_sem]) ?_
      refine (cut_idle _ _ _).mono ?_
      rintro e u' w'' ⟨rfl, rfl, rfl⟩
      exact ⟨.tuple #[.slice none 0 0, .int .i64 1], by simp [results, Try.results17, go_sem, z1, z2], none, 0, 0, [], rfl, ⟨rfl, Rw.nil, by simp⟩, rfl, zb⟩
    · have d2 : decide (60000 < k) = false := decide_eq_false h2
      have hv : validP s pts dts = false := by rcases hno with h | h | h <;> first | omega | exact h
      rw [hv] at HVP
      clear hv hno
      go_enter_defers Try.func17, Try.ntmps17
      go_upto_region 2 with fail
      generalize ((((w.alloc _).alloc _).alloc _).alloc _).alloc _ = W0 at *
      go_wp2_with fail
      refine (HVP.out _).mono ?_
      rintro e w1 ⟨rfl, hb1⟩
      have HPX := Lib.hid (HP0.out.ext hb1)
      clear hb1 q5 q7 q8
      obtain ⟨⟨g1, g2, g3⟩, g4, g5, g6⟩ := HPX.out.facts
      have HRT := Lib.hid HPX.out.leave
      go_wp2_with fail
      obtain ⟨z1, z2, zb⟩ := HRT.out
      refine leaves_cons (f := 30) (args := #[.pointer (some ⟨w.heap.size + 1 + 1 + 1, 0, none⟩), .pointer (some ⟨w.heap.size + 1 + 1 + 1 + 1, 0, none⟩)]) (by simp) (by simp [go_sem]) ?_
      refine (cut_idle _ _ _).mono ?_
      rintro e u' w'' ⟨rfl, rfl, rfl⟩
      exact ⟨.tuple #[.slice none 0 0, .int .i64 1], by simp [results, Try.results17, go_sem, z1, z2], none, 0, 0, [], rfl, ⟨rfl, Rw.nil, by simp⟩, rfl, zb⟩
end Go.Proofs.Ytojfaonlgkicfaa
