/- A region that draws its order, in a round of a loop over a function: by the laws that stand outside of a round. -/
import Derived.Test.YtojfaonlgkicfaaOrd
import Derived.OrdersIn
import Derived.OwnWalkIn
import Derived.RangeFuncCalls
namespace Go.Proofs.Ytojfaonlgkicfaa
open Go

section
variable {P : Program}
/-- An operation that is no defer statement goes through in a round as everywhere. -/
theorem oper_inRound {l n : Nat} {o : Oper} {a : Act} {w : World} {K : Act → World → Prop} {Q : Exit → Act → World → Prop} (hd : o.semAt (some l) a.eval = execOp a.eval o) (h : o.wp P a w K Q) : o.wpIn (Fence.wide.inRound l) n P a w K Q := by
  refine ⟨fun f _ => trivial, ?_⟩
  rw [Fence.inRound_round, hd]
  unfold Oper.wp at h
  generalize (execOp a.eval o).run P w = r at *
  cases r with
  | ok x w' =>
    cases x <;> simp only [Oper.uponIn, Oper.upon] at h ⊢ <;>
      first
        | exact h
        | exact h.elim
        | exact ⟨fun hh => by simp [Fence.wide] at hh, CallsIn.inRound l (callsIn_wide.2 h)⟩
        | exact ⟨fun hh => by simp [Fence.wide] at hh, fun c cs _ => let ⟨v, w', r, s⟩ := h c cs; ⟨v, w', r, stepsIn_wide.2 s⟩⟩
  | halt x w' => cases x <;> simp only [Oper.uponIn, Oper.upon] at h ⊢ <;> first | exact h | exact h.elim
theorem wpAnyIn_inv {F : Fence} {n : Nat} {md : Region.Mode} {ops : Array Oper} {Q : Exit → Act → World → Prop} (hb : backB md ops = true) (I : (Nat → Bool) → Act → World → Prop)
    (hstep : ∀ D a w, I D a w → ClosedD md ops D → ∀ i o, ops[i]? = some o → D i = false → (∀ e ∈ o.after, Region.binds md e = true → D e.on = true) → wpOpIn F n P ops Q i (I (updD D i)) a w)
    (hend : ∀ D a w, I D a w → (∀ i, i < ops.size → D i = true) → Q .normal a w) :
    ∀ (fuel : Nat) (listed : Array Bool) (a : Act) (w : World), listed.size = ops.size → listed.toList.countP (fun b => !b) ≤ fuel → ClosedD md ops (fun j => listed.getD j false) →
      I (fun j => listed.getD j false) a w → wpAnyIn F n P md ops Q fuel listed a w := by
  intro fuel
  induction fuel with
  | zero =>
    intro listed a w hs hc _ hI
    have hall : ∀ i, i < ops.size → listed.getD i false = true := by
      intro i hi
      have hil : i < listed.toList.length := by simp; omega
      have h0 : listed.toList.countP (fun b => !b) = 0 := by omega
      have := List.countP_eq_zero.1 h0 (listed.toList[i]) (List.getElem_mem hil)
      have hlt : i < listed.size := by omega
      simp at this
      simp [hlt, this]
    refine ⟨?_, hend _ a w hI hall⟩
    cases hr : Region.ready md ops listed with
    | nil => rfl
    | cons j l =>
      have hj : j ∈ Region.ready md ops listed := by rw [hr]; simp
      obtain ⟨h1, o, ho, _⟩ := mem_ready.1 hj
      have hlt : j < ops.size := (Array.getElem?_eq_some_iff.1 ho).1
      have h2 := hall j hlt
      rw [getD_both h1] at h2
      cases h2
  | succ fuel ih =>
    intro listed a w hs hc hcl hI
    refine ⟨fun hr => hend _ a w hI (all_of_ready_nil hb hs hr), fun i hi => ?_⟩
    obtain ⟨h1, o, ho, hpre⟩ := mem_ready.1 hi
    have hlt : i < ops.size := (Array.getElem?_eq_some_iff.1 ho).1
    have hli : i < listed.size := by omega
    have hD : (fun j => (listed.setIfInBounds i true).getD j false) = updD (fun j => listed.getD j false) i := by
      funext j
      unfold updD
      by_cases hj : j = i
      · subst hj; simp [hli]
      · rw [if_neg hj, getD_set_ne false (Ne.symm hj)]
    refine wpOpIn_mono (fun a' w' h' => ?_) (hstep _ a w hI hcl i o ho (getD_both h1) hpre)
    refine ih (listed.setIfInBounds i true) a' w' (by simp [hs]) ?_ ?_ (by rw [hD]; exact h')
    · rw [Array.toList_setIfInBounds, List.countP_set (by simpa using hli)]
      have hv : listed[i] = false := by simpa [hli] using h1
      have hv' : listed.toList[i]'(by simpa using hli) = false := by simpa using hv
      rw [hv']
      have hpos : 0 < listed.toList.countP (fun b => !b) := List.countP_pos_iff.2 ⟨listed[i], by simp, by simp [hv]⟩
      simp only [Bool.not_false, if_true, Bool.not_true, Bool.false_eq_true, if_false]
      omega
    · intro j oj hoj hj e he hbi
      dsimp only at hj ⊢
      by_cases hij : i = j
      · subst hij
        have : oj = o := Option.some.inj (hoj.symm.trans ho)
        subst this
        exact getD_set_true (hpre e he hbi)
      · rw [getD_set_ne false hij] at hj
        exact getD_set_true (hcl j oj hoj hj e he hbi)

theorem wpOpIn_G {l n i : Nat} {ops : Array Oper} {o : Oper} {a : Act} {w : World} {K : Act → World → Prop} {Q : Exit → Act → World → Prop} (hi : ops[i]? = some o) (hd : ∀ c, o.op ≠ .defer c) (b : Bool) (hb : Region.wanted o (yielded ops a.tmps) = b) (h1 : b = true → o.wp P a w K Q) (h2 : b = false → K (a.put o.dst undef) w) : wpOpIn (Fence.wide.inRound l) n P ops Q i K a w := by
  unfold wpOpIn
  simp only [hi, hb]
  cases b with
  | true => simp only [if_true]; exact oper_inRound (Oper.semAt_eq _ _ _ hd) (h1 rfl)
  | false => simp only [Bool.false_eq_true, if_false]; exact ⟨fun f _ => trivial, h2 rfl⟩
/-- No operation of the list is a defer statement. -/
def noDefer (l : List Oper) : Bool := l.all fun (o : Oper) => match o.op with
  | .defer _ => false
  | _ => true
theorem noDefer_spec {l : List Oper} (h : noDefer l = true) : ∀ (i : Nat) (o : Oper), l.toArray[i]? = some o → ∀ c, o.op ≠ .defer c := by
  intro i o ho c hc
  have hm : o ∈ l := List.mem_of_getElem? (by simpa using ho)
  have := List.all_eq_true.1 h o hm
  rw [hc] at this
  cases this
/-- wp_region_inv in a round. -/
theorem wpIn_region_inv {ll n id : Nat} {l : List Oper} {a : Act} {w : World} {Q : Exit → Act → World → Prop} (hm : P.follows .mixedOrders = true) (hb : backB .any l.toArray = true) (I : (Nat → Bool) → Act → World → Prop)
    (h0 : I (fun _ => false) a w.drew)
    (hstep : ∀ D a w, I D a w → ClosedD .any l.toArray D → ∀ i o, l.toArray[i]? = some o → D i = false → (∀ e ∈ o.after, Region.binds .any e = true → D e.on = true) → wpOpIn (Fence.wide.inRound ll) n P l.toArray Q i (I (updD D i)) a w)
    (hend : ∀ D a w, I D a w → (∀ i, i < l.toArray.size → D i = true) → Q .normal a w) : (Code.region id l.toArray true).wpIn (Fence.wide.inRound ll) n P Q a w := by
  refine wpIn_region_any hm (wpAnyIn_inv hb I hstep hend _ _ _ _ (by simp) ?_ ?_ ?_)
  · rw [Array.toList_replicate]
    exact Nat.le_trans List.countP_le_length (by simp)
  · intro j oj _ hj
    dsimp only at hj
    rw [getD_replicate_false] at hj
    cases hj
  · have : (fun j => (Array.replicate l.toArray.size false).getD j false) = fun _ => false := by
      funext j
      exact getD_replicate_false _ _
    rw [this]
    exact h0
theorem wpIn_region_fixedE {ll n : Nat} {Q : Exit → Act → World → Prop} {Env : Type} {id : Nat} {l : List Oper} {a0 : Act} {w0 : World} (val : Env → Nat → Value) (G : Env → (Nat → Bool) → World → Prop) (env0 : Env) (hm : P.follows .mixedOrders = true) (hB : backB .any l.toArray = true) (hnd : noDefer l = true) (hd : dstsOk l a0.tmps.size [] = true)
    (h0 : G env0 (fun _ => false) w0.drew)
    (hstep : ∀ (k : Nat) (o : Oper), l[k]? = some o → ∀ env D a w, FrameOf l a0 D (val env) a → G env D w → ClosedD .any l.toArray D → D k = false → (∀ e ∈ o.after, Region.binds .any e = true → D e.on = true) →
      (∀ (j : Nat) (oj : Oper) (d : Nat), D j = false → l[j]? = some oj → oj.dst = some d → a.tmps[d]? = a0.tmps[d]?) →
      ∃ b, Region.wanted o (yielded l.toArray a.tmps) = b ∧ (b = true → o.wp P a w (fun a' w' => ∃ env', (∀ j, j < l.length → D j = true → val env' j = val env j) ∧ a' = a.put o.dst (val env' k) ∧ G env' (updD D k) w') Q) ∧ (b = false → val env k = undef ∧ G env (updD D k) w))
    (hend : ∀ env D w, G env D w → (∀ k, k < l.length → D k = true) → Q .normal (putsU (val env) l 0 a0) w) :
    (Code.region id l.toArray true).wpIn (Fence.wide.inRound ll) n P Q a0 w0 := by
  refine wpIn_region_inv hm hB (fun D a w => (∃ env, FrameOf l a0 D (val env) a ∧ G env D w) ∧ ∀ (j : Nat) (oj : Oper) (d : Nat), D j = false → l[j]? = some oj → oj.dst = some d → a.tmps[d]? = a0.tmps[d]?) ⟨⟨env0, FrameOf.start l a0 (val env0), h0⟩, fun _ _ _ _ _ _ => rfl⟩ ?_ ?_
  · rintro D a w ⟨⟨env, hf, hg⟩, hun⟩ hcl i o ho hi hpre
    have ho' : l[i]? = some o := by simpa using ho
    have hkeep : ∀ v (j : Nat) (oj : Oper) (d : Nat), updD D i j = false → l[j]? = some oj → oj.dst = some d → (a.put o.dst v).tmps[d]? = a0.tmps[d]? := by
      intro v j oj d hj hoj hdj
      have hji : j ≠ i := fun e => by rw [e] at hj; simp [updD] at hj
      rw [put_other hd ho' hoj hji hdj]
      exact hun j oj d (by simpa [updD, hji] using hj) hoj hdj
    obtain ⟨b, hw, hs, hs'⟩ := hstep i o ho' env D a w hf hg hcl hi hpre hun
    refine wpOpIn_mono ?_ (wpOpIn_G (K := fun a' w' => ∃ env', (∀ j, j < l.length → D j = true → val env' j = val env j) ∧ a' = a.put o.dst (val env' i) ∧ G env' (updD D i) w') ho (noDefer_spec hnd i o ho) b hw hs (fun h => ?_))
    · rintro a' w' ⟨env', he, rfl, hg'⟩
      exact ⟨⟨env', (hf.congr he).putV hd ho', hg'⟩, hkeep _⟩
    · obtain ⟨h1, h2⟩ := hs' h
      exact ⟨env, fun _ _ _ => rfl, by rw [h1], h2⟩
  · rintro D a w ⟨⟨env, hf, hg⟩, _⟩ hall
    have hall' : ∀ k, k < l.length → D k = true := fun k hk => hall k (by simpa using hk)
    rw [hf.all hd hall']
    exact hend env D w hg hall'
end
end Go.Proofs.Ytojfaonlgkicfaa
