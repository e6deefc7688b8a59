/- transport.Put. -/
import Derived.Test.YtdnchjmopkhnaaaTrD
namespace Go.Proofs.Ytdnchjmopkhnaaa
open Go.RowKit

theorem encL_len (pid cnt : Int) (st : Bool) (clk : Int) (l : List Int) (n : Nat) (hl : l.length = n) (hn : n ≤ 184) : (encL pid cnt st clk l n).length = 188 := by
  have h5 : (enc5 pid cnt st l n).length = 188 := by unfold enc5; rw [spl_len (by rw [enc4_len, hl]; omega), enc4_len]
  unfold encL
  split
  · exact h5
  · dsimp only
    split
    · rw [enc8_len, List.length_set, h5]
    · rw [clkL_len, List.length_set, enc8_len, List.length_set, h5]

theorem trput_idle (p q : Addr) (w : World) :
    CallsD Try.prog 32 #[.pointer (some p), .pointer (some q)] .returning w fun e u' w' => e = .returned (.tuple #[]) ∧ u' = .returning ∧ w' = w := by
  refine callsD_of_wpS Try.func32 rfl fun c₀ cs hu => ?_
  apply wpS_seq
  apply wpS_region
  simp [wpOpsS, go_sem, recoverD, hu, Try.ntmps32, Exit.thenS]
  refine wpS_cond (t := false) (by simp [Act.eval, Array.replicate]) ?_
  simp only [Bool.false_eq_true, if_false]
  refine wpS_of_wp (wp_skip ?_)
  cases c₀
  simp_all [bodyPostS, results, Try.results32]

def RetP (w : World) (l : List Int) (code : Int) (e : Ending) (w' : World) : Prop :=
  ∃ A n c, e = .returned (.tuple #[.slice A n c, .int .i64 code]) ∧ Byt (w.heap.size ≤ ·) w' A n l ∧ Below w.heap.size w w'

def RetPc (w : World) (l : List Int) (code : Int) (e : Ending) (w' : World) : Prop :=
  ∃ A n c, e = .returned (.tuple #[.slice A n c, .int .i64 code]) ∧ Byt (w.heap.size ≤ ·) w' A n l ∧ Below w.heap.size w w' ∧ n ≤ c
theorem RetPc.p {w : World} {l : List Int} {code : Int} {e : Ending} {w' : World} (h : RetPc w l code e w') : RetP w l code e w' := by
  obtain ⟨A, n, c, h1, h2, h3, _⟩ := h
  exact ⟨A, n, c, h1, h2, h3⟩

theorem trput_leave {w : World} {g : Nat} {code : Int} {A : Option Addr} {k c : Nat} {l : List Int} (a : Act) (W : World) (h2 : a.tmps[2]? = some (.pointer (some ⟨g, 0, none⟩))) (h3 : a.tmps[3]? = some (.pointer (some ⟨g + 1, 0, none⟩)))
    (hd : a.defers = [{ target := Target.fn (Fn.func 32) #[.pointer (some ⟨g, 0, none⟩), .pointer (some ⟨g + 1, 0, none⟩)], args := #[] }])
    (X1 : Bx W g 22 #[.slice A k c]) (X2 : Bx W (g + 1) 25 #[.int .i64 code]) (hB : Byt (w.heap.size ≤ ·) W A k l) (hb : Below w.heap.size w W) (hk : k ≤ c) :
    bodyPostD Try.prog Try.f11 (RetPc w l code) .ret a W := by
  have u0 : W.cell? ⟨g, 0, none⟩ = some (.slice A k c) := X1.cell 0 rfl
  have u1 : W.cell? ⟨g + 1, 0, none⟩ = some (.int .i64 code) := X2.cell 0 rfl
  obtain ⟨tmps, defers⟩ := a
  dsimp only at h2 h3 hd
  subst hd
  refine leaves_cons (f := 32) (args := #[.pointer (some ⟨g, 0, none⟩), .pointer (some ⟨g + 1, 0, none⟩)]) (by simp) (by simp [go_sem]) ?_
  refine (trput_idle _ _ _).mono ?_
  rintro e u' w'' ⟨rfl, rfl, rfl⟩
  refine ⟨.tuple #[.slice A k c, .int .i64 code], by simp [results, Try.results11, go_sem, h2, h3, u0, u1], ?_⟩
  exact ⟨_, _, _, rfl, hB, hb, hk⟩

end Go.Proofs.Ytdnchjmopkhnaaa
