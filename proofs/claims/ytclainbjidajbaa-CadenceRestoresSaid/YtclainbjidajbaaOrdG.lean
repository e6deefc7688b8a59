/- A region that draws its order, by facts: operations with guards, and calls. No condition beyond those stated. -/
import Derived.Test.YtclainbjidajbaaOrd
namespace Go.Proofs.Ytclainbjidajbaa
open Go

section
variable {P : Program} {ops : Array Oper} {Q : Exit → Act → World → Prop}
theorem wpOp_G {i : Nat} {o : Oper} {a : Act} {w : World} {K : Act → World → Prop} (hi : ops[i]? = some o) (b : Bool) (hb : Region.wanted o (yielded ops a.tmps) = b) (h1 : b = true → o.wp P a w K Q) (h2 : b = false → K (a.put o.dst undef) w) : wpOp P ops Q i K a w := by
  unfold wpOp
  simp only [hi, hb]
  cases b with
  | true => simp only [if_true]; exact .inl (h1 rfl)
  | false => simp only [Bool.false_eq_true, if_false]; exact h2 rfl
theorem wanted_of {l : List Oper} {a0 a : Act} {D : Nat → Bool} {u : Nat → Value} {o : Oper} {j d : Nat} {want x : Bool} (hf : FrameOf l a0 D u a) (hg : o.guard = some (j, want)) (hD : D j = true) (hd : (l[j]?).bind (·.dst) = some d) (hu : u j = .bool x) :
    Region.wanted o (yielded l.toArray a.tmps) = (x == want) := by
  have h1 := hf.at_ j hD hd
  rw [hu] at h1
  cases ho : l[j]? with
  | none => rw [ho] at hd; cases hd
  | some oj =>
    rw [ho] at hd
    have hd' : oj.dst = some d := by simpa using hd
    have h2 : a.tmps[d]? = some (.bool x) := by rw [← hu]; exact hf.vals j oj d hD ho hd'
    unfold Region.wanted yielded
    simp [hg, ho, hd', h2]
theorem wp_enter {o : Oper} {a : Act} {w : World} {K : Act → World → Prop} {f : FuncId} {args : Array Value} {R : Ending → World → Prop} (hrun : (execOp a.eval o).run P w = .ok (.enter f args) w) (hc : Calls P f args w R)
    (h : ∀ e w', R e w' → ∃ v, e = .returned v ∧ K (a.put o.dst v) w') : o.wp P a w K Q := by
  unfold Oper.wp
  rw [hrun]
  refine hc.mono fun e w' hr => ?_
  obtain ⟨v, rfl, hk⟩ := h e w' hr
  exact hk
theorem wp_skip' {o : Oper} {a : Act} {w w' : World} {K : Act → World → Prop} (hrun : (execOp a.eval o).run P w = .ok .skip w') (h : K (a.put o.dst undef) w') : o.wp P a w K Q := by
  unfold Oper.wp
  rw [hrun]
  exact h
end
end Go.Proofs.Ytclainbjidajbaa
