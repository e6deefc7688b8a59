/- A region that draws its order, where each operation yields a value that is known once some operations are done. -/
import Derived.Test.YtclainbjidajbaaOrdW
namespace Go.Proofs.Ytclainbjidajbaa
open Go

section
variable {P : Program} {Q : Exit → Act → World → Prop}
theorem FrameOf.congr {l : List Oper} {a0 a : Act} {D : Nat → Bool} {u u' : Nat → Value} (h : FrameOf l a0 D u a) (he : ∀ k, k < l.length → D k = true → u' k = u k) : FrameOf l a0 D u' a :=
  ⟨h.defers, h.size, h.same, fun k o d hk ho hd => by rw [he k (List.getElem?_eq_some_iff.1 ho).1 hk]; exact h.vals k o d hk ho hd⟩
theorem put_other {l : List Oper} {n i k : Nat} {o oi : Oper} {d : Nat} {a : Act} (hd : dstsOk l n [] = true) (hi : l[i]? = some oi) (hk : l[k]? = some o) (hne : k ≠ i) (hdst : o.dst = some d) (v : Value) : (a.put oi.dst v).tmps[d]? = a.tmps[d]? := by
  obtain ⟨_, g2⟩ := dstsOk_spec hd
  cases h : oi.dst with
  | none => rfl
  | some d0 =>
    have : d0 ≠ d := fun e => hne (g2 k i o oi d hk hi hdst (by rw [h, e]))
    simp [Act.put, this]
theorem wp_region_fixedE {Env : Type} {id : Nat} {l : List Oper} {a0 : Act} {w0 : World} (val : Env → Nat → Value) (G : Env → (Nat → Bool) → World → Prop) (env0 : Env) (hm : P.follows .mixedOrders = true) (hB : backB .any l.toArray = true) (hd : dstsOk l a0.tmps.size [] = true)
    (h0 : G env0 (fun _ => false) w0.drew)
    (hstep : ∀ (k : Nat) (o : Oper), l[k]? = some o → ∀ env D a w, FrameOf l a0 D (val env) a → G env D w → ClosedD .any l.toArray D → D k = false → (∀ e ∈ o.after, Region.binds .any e = true → D e.on = true) →
      (∀ (j : Nat) (oj : Oper) (d : Nat), D j = false → l[j]? = some oj → oj.dst = some d → a.tmps[d]? = a0.tmps[d]?) →
      ∃ b, Region.wanted o (yielded l.toArray a.tmps) = b ∧ (b = true → o.wp P a w (fun a' w' => ∃ env', (∀ j, j < l.length → D j = true → val env' j = val env j) ∧ a' = a.put o.dst (val env' k) ∧ G env' (updD D k) w') Q) ∧ (b = false → val env k = undef ∧ G env (updD D k) w))
    (hend : ∀ env D w, G env D w → (∀ k, k < l.length → D k = true) → Q .normal (putsU (val env) l 0 a0) w) :
    (Code.region id l.toArray true).wp P Q a0 w0 := by
  refine wp_region_inv hm hB (fun D a w => (∃ env, FrameOf l a0 D (val env) a ∧ G env D w) ∧ ∀ (j : Nat) (oj : Oper) (d : Nat), D j = false → l[j]? = some oj → oj.dst = some d → a.tmps[d]? = a0.tmps[d]?) ⟨⟨env0, FrameOf.start l a0 (val env0), h0⟩, fun _ _ _ _ _ _ => rfl⟩ ?_ ?_
  · rintro D a w ⟨⟨env, hf, hg⟩, hun⟩ hcl i o ho hi hpre
    have ho' : l[i]? = some o := by simpa using ho
    have hkeep : ∀ v (j : Nat) (oj : Oper) (d : Nat), updD D i j = false → l[j]? = some oj → oj.dst = some d → (a.put o.dst v).tmps[d]? = a0.tmps[d]? := by
      intro v j oj d hj hoj hdj
      have hji : j ≠ i := fun e => by rw [e] at hj; simp [updD] at hj
      rw [put_other hd ho' hoj hji hdj]
      exact hun j oj d (by simpa [updD, hji] using hj) hoj hdj
    obtain ⟨b, hw, hs, hs'⟩ := hstep i o ho' env D a w hf hg hcl hi hpre hun
    refine wpOp_mono ?_ (wpOp_G (K := fun a' w' => ∃ env', (∀ j, j < l.length → D j = true → val env' j = val env j) ∧ a' = a.put o.dst (val env' i) ∧ G env' (updD D i) w') ho b hw hs (fun h => ?_))
    · rintro a' w' ⟨env', he, rfl, hg'⟩
      exact ⟨⟨env', (hf.congr he).putV hd ho', hg'⟩, hkeep _⟩
    · obtain ⟨h1, h2⟩ := hs' h
      exact ⟨env, fun _ _ _ => rfl, by rw [h1], h2⟩
  · rintro D a w ⟨⟨env, hf, hg⟩, _⟩ hall
    have hall' : ∀ k, k < l.length → D k = true := fun k hk => hall k (by simpa using hk)
    rw [hf.all hd hall']
    exact hend env D w hg hall'
end
end Go.Proofs.Ytclainbjidajbaa
