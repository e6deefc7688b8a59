/- A region that draws its order where each operation yields one known value, whatever the order; what the world is may hang on which operations are done. -/
import Derived.Test.YtclainbjidajbaaOrd
namespace Go.Proofs.Ytclainbjidajbaa
open Go

section
variable {P : Program} {Q : Exit → Act → World → Prop}
theorem FrameOf.putV {l : List Oper} {a0 a : Act} {D : Nat → Bool} {u : Nat → Value} {i : Nat} {o : Oper} (h : FrameOf l a0 D u a) (hd : dstsOk l a0.tmps.size [] = true) (hi : l[i]? = some o) :
    FrameOf l a0 (updD D i) u (a.put o.dst (u i)) := by
  have h1 := h.put hd hi (u i)
  have h2 : updU u i (u i) = u := by
    funext j
    unfold updU
    split
    · rename_i e; rw [e]
    · rfl
  rwa [h2] at h1
theorem wp_region_fixed {id : Nat} {l : List Oper} {a0 : Act} {w0 : World} (val : Nat → Value) (G : (Nat → Bool) → World → Prop) (hm : P.follows .mixedOrders = true) (hB : backB .any l.toArray = true) (hd : dstsOk l a0.tmps.size [] = true)
    (hgd : l.all (fun o => o.guard == none) = true) (h0 : G (fun _ => false) w0.drew)
    (hstep : ∀ (i : Nat) (o : Oper), l[i]? = some o → ∀ D a w, FrameOf l a0 D val a → G D w → ClosedD .any l.toArray D → D i = false → (∀ e ∈ o.after, Region.binds .any e = true → D e.on = true) →
      o.wp P a w (fun a' w' => a' = a.put o.dst (val i) ∧ G (updD D i) w') Q)
    (hend : ∀ D w, G D w → (∀ k, k < l.length → D k = true) → Q .normal (putsU val l 0 a0) w) :
    (Code.region id l.toArray true).wp P Q a0 w0 := by
  refine wp_region_inv hm hB (fun D a w => FrameOf l a0 D val a ∧ G D w) ⟨FrameOf.start l a0 val, h0⟩ ?_ ?_
  · rintro D a w ⟨hf, hg⟩ hcl i o ho hi hpre
    have ho' : l[i]? = some o := by simpa using ho
    have hgo : o.guard = none := by
      have := List.all_eq_true.1 hgd o (List.mem_of_getElem? ho')
      simpa using this
    refine wpOp_mono ?_ (wpOp_run ho hgo (hstep i o ho' D a w hf hg hcl hi hpre))
    rintro a' w' ⟨rfl, hg'⟩
    exact ⟨hf.putV hd ho', hg'⟩
  · rintro D a w ⟨hf, hg⟩ hall
    have hall' : ∀ k, k < l.length → D k = true := fun k hk => hall k (by simpa using hk)
    rw [hf.all hd hall']
    exact hend D w hg hall'
theorem wp_skipF {o : Oper} {a : Act} {w w' : World} {K : Act → World → Prop} (hrun : (execOp a.eval o).run P w = .ok .skip w') (h : K (a.put o.dst undef) w') : o.wp P a w K Q := by
  unfold Oper.wp
  rw [hrun]
  exact h
theorem wp_called {o : Oper} {a : Act} {w : World} {K : Act → World → Prop} {f : FuncId} {args : Array Value} {R : Ending → World → Prop} (hrun : (execOp a.eval o).run P w = .ok (.enter f args) w) (hc : Calls P f args w R)
    (h : ∀ e w', R e w' → ∃ v, e = .returned v ∧ K (a.put o.dst v) w') : o.wp P a w K Q := by
  unfold Oper.wp
  rw [hrun]
  refine hc.mono fun e w' hr => ?_
  obtain ⟨v, rfl, hk⟩ := h e w' hr
  exact hk
end
end Go.Proofs.Ytclainbjidajbaa
