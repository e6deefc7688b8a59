/- A region that draws its order, by facts: each operation is shown once, whatever the order. No condition beyond those stated. -/
import Derived.StillTail
import Derived.Lib.Hide
namespace Go.Proofs.Ytdnchjmopkhnaaa
open Go

section
variable {P : Program} {ops : Array Oper} {Q : Exit → Act → World → Prop} {md : Region.Mode}

/-- Every edge points back. -/
def backB (md : Region.Mode) (ops : Array Oper) : Bool :=
  (List.range ops.size).all fun i => match ops[i]? with
    | some o => o.after.all fun e => !Region.binds md e || decide (e.on < i)
    | none => true
theorem backB_spec (h : backB md ops = true) {i : Nat} {o : Oper} (hi : ops[i]? = some o) : ∀ e ∈ o.after, Region.binds md e = true → e.on < i := by
  intro e he hb
  have hlt : i < ops.size := (Array.getElem?_eq_some_iff.1 hi).1
  have h1 := List.all_eq_true.1 h i (List.mem_range.2 hlt)
  rw [hi] at h1
  have h2 := Array.all_eq_true_iff_forall_mem.1 h1 e he
  simpa [hb] using h2

def ClosedD (md : Region.Mode) (ops : Array Oper) (D : Nat → Bool) : Prop := ∀ j oj, ops[j]? = some oj → D j = true → ∀ e ∈ oj.after, Region.binds md e = true → D e.on = true
def updD (D : Nat → Bool) (i : Nat) : Nat → Bool := fun j => if j = i then true else D j

theorem all_of_ready_nil (hb : backB md ops = true) {listed : Array Bool} (hs : listed.size = ops.size) (hr : Region.ready md ops listed = []) : ∀ i, i < ops.size → listed.getD i false = true := by
  intro i
  induction i using Nat.strongRecOn with
  | _ i ih =>
    intro hi
    cases hl : listed.getD i false with
    | true => rfl
    | false =>
      have hmem : i ∈ Region.ready md ops listed := mem_ready.2 ⟨getD_in (by omega) hl, ops[i], Array.getElem?_eq_getElem hi, fun e he hbi => by
        have := backB_spec hb (Array.getElem?_eq_getElem hi) e he hbi
        exact ih e.on this (by omega)⟩
      rw [hr] at hmem
      cases hmem

theorem wpAny_inv (hb : backB md ops = true) (I : (Nat → Bool) → Act → World → Prop)
    (hstep : ∀ D a w, I D a w → ClosedD md ops D → ∀ i o, ops[i]? = some o → D i = false → (∀ e ∈ o.after, Region.binds md e = true → D e.on = true) → wpOp P ops Q i (I (updD D i)) a w)
    (hend : ∀ D a w, I D a w → (∀ i, i < ops.size → D i = true) → Q .normal a w) :
    ∀ (fuel : Nat) (listed : Array Bool) (a : Act) (w : World), listed.size = ops.size → listed.toList.countP (fun b => !b) ≤ fuel → ClosedD md ops (fun j => listed.getD j false) →
      I (fun j => listed.getD j false) a w → wpAny P md ops Q fuel listed a w := by
  intro fuel
  induction fuel with
  | zero =>
    intro listed a w hs hc _ hI
    have hall : ∀ i, i < ops.size → listed.getD i false = true := by
      intro i hi
      have hil : i < listed.toList.length := by simp; omega
      have h0 : listed.toList.countP (fun b => !b) = 0 := by omega
      have := List.countP_eq_zero.1 h0 (listed.toList[i]) (List.getElem_mem hil)
      have hlt : i < listed.size := by omega
      simp at this
      simp [hlt, this]
    refine ⟨?_, hend _ a w hI hall⟩
    cases hr : Region.ready md ops listed with
    | nil => rfl
    | cons j l =>
      have hj : j ∈ Region.ready md ops listed := by rw [hr]; simp
      obtain ⟨h1, o, ho, _⟩ := mem_ready.1 hj
      have hlt : j < ops.size := (Array.getElem?_eq_some_iff.1 ho).1
      have h2 := hall j hlt
      rw [getD_both h1] at h2
      cases h2
  | succ fuel ih =>
    intro listed a w hs hc hcl hI
    refine ⟨fun hr => hend _ a w hI (all_of_ready_nil hb hs hr), fun i hi => ?_⟩
    obtain ⟨h1, o, ho, hpre⟩ := mem_ready.1 hi
    have hlt : i < ops.size := (Array.getElem?_eq_some_iff.1 ho).1
    have hli : i < listed.size := by omega
    have hD : (fun j => (listed.setIfInBounds i true).getD j false) = updD (fun j => listed.getD j false) i := by
      funext j
      unfold updD
      by_cases hj : j = i
      · subst hj; simp [hli]
      · rw [if_neg hj, getD_set_ne false (Ne.symm hj)]
    refine wpOp_mono (fun a' w' h' => ?_) (hstep _ a w hI hcl i o ho (getD_both h1) hpre)
    refine ih (listed.setIfInBounds i true) a' w' (by simp [hs]) ?_ ?_ (by rw [hD]; exact h')
    · rw [Array.toList_setIfInBounds, List.countP_set (by simpa using hli)]
      have hv : listed[i] = false := by simpa [hli] using h1
      have hv' : listed.toList[i]'(by simpa using hli) = false := by simpa using hv
      rw [hv']
      have hpos : 0 < listed.toList.countP (fun b => !b) := List.countP_pos_iff.2 ⟨listed[i], by simp, by simp [hv]⟩
      simp only [Bool.not_false, if_true, Bool.not_true, Bool.false_eq_true, if_false]
      omega
    · intro j oj hoj hj e he hbi
      dsimp only at hj ⊢
      by_cases hij : i = j
      · subst hij
        have : oj = o := Option.some.inj (hoj.symm.trans ho)
        subst this
        exact getD_set_true (hpre e he hbi)
      · rw [getD_set_ne false hij] at hj
        exact getD_set_true (hcl j oj hoj hj e he hbi)

theorem wp_region_inv {id : Nat} {l : List Oper} {a : Act} {w : World} (hm : P.follows .mixedOrders = true) (hb : backB .any l.toArray = true) (I : (Nat → Bool) → Act → World → Prop)
    (h0 : I (fun _ => false) a w.drew)
    (hstep : ∀ D a w, I D a w → ClosedD .any l.toArray D → ∀ i o, l.toArray[i]? = some o → D i = false → (∀ e ∈ o.after, Region.binds .any e = true → D e.on = true) → wpOp P l.toArray Q i (I (updD D i)) a w)
    (hend : ∀ D a w, I D a w → (∀ i, i < l.toArray.size → D i = true) → Q .normal a w) : (Code.region id l.toArray true).wp P Q a w := by
  refine wp_region_any hm (wpAny_inv hb I hstep hend _ _ _ _ (by simp) ?_ ?_ ?_)
  · rw [Array.toList_replicate]
    exact Nat.le_trans List.countP_le_length (by simp)
  · intro j oj _ hj
    dsimp only at hj
    rw [getD_replicate_false] at hj
    cases hj
  · have : (fun j => (Array.replicate l.toArray.size false).getD j false) = fun _ => false := by
      funext j
      exact getD_replicate_false _ _
    rw [this]
    exact h0

/-- All slots that the operations write are distinct, and there. -/
def dstsOk : List Oper → Nat → List Nat → Bool
  | [], _, _ => true
  | o :: l, n, seen => match o.dst with
    | none => dstsOk l n seen
    | some d => decide (d < n) && !seen.contains d && dstsOk l n (d :: seen)
theorem dstsOk_spec : ∀ {l : List Oper} {n : Nat} {seen : List Nat}, dstsOk l n seen = true →
    (∀ (k : Nat) (o : Oper) (d : Nat), l[k]? = some o → o.dst = some d → d < n ∧ d ∉ seen) ∧ ∀ (i j : Nat) (oi oj : Oper) (d : Nat), l[i]? = some oi → l[j]? = some oj → oi.dst = some d → oj.dst = some d → i = j
  | [], _, _, _ => ⟨by simp, by simp⟩
  | o :: l, n, seen, h => by
    unfold dstsOk at h
    cases hd : o.dst with
    | none =>
      rw [hd] at h
      obtain ⟨h1, h2⟩ := dstsOk_spec (l := l) h
      refine ⟨fun k ok d hk hkd => ?_, fun i j oi oj d hi hj hid hjd => ?_⟩
      · cases k with
        | zero => simp at hk; subst hk; rw [hd] at hkd; cases hkd
        | succ k => exact h1 k ok d (by simpa using hk) hkd
      · cases i with
        | zero => simp at hi; subst hi; rw [hd] at hid; cases hid
        | succ i =>
          cases j with
          | zero => simp at hj; subst hj; rw [hd] at hjd; cases hjd
          | succ j => rw [h2 i j oi oj d (by simpa using hi) (by simpa using hj) hid hjd]
    | some d0 =>
      rw [hd] at h
      simp only [Bool.and_eq_true, decide_eq_true_eq, Bool.not_eq_true'] at h
      obtain ⟨⟨ha, hb⟩, hc⟩ := h
      obtain ⟨h1, h2⟩ := dstsOk_spec (l := l) hc
      have hns : d0 ∉ seen := by simpa using hb
      refine ⟨fun k ok d hk hkd => ?_, fun i j oi oj d hi hj hid hjd => ?_⟩
      · cases k with
        | zero => simp at hk; subst hk; rw [hd] at hkd; cases hkd; exact ⟨ha, hns⟩
        | succ k =>
          obtain ⟨g1, g2⟩ := h1 k ok d (by simpa using hk) hkd
          exact ⟨g1, fun hm => g2 (List.mem_cons_of_mem _ hm)⟩
      · cases i with
        | zero =>
          simp at hi
          subst hi
          rw [hd] at hid
          cases hid
          cases j with
          | zero => rfl
          | succ j => exact absurd (List.mem_cons_self ..) (h1 j oj d0 (by simpa using hj) hjd).2
        | succ i =>
          cases j with
          | zero =>
            simp at hj
            subst hj
            rw [hd] at hjd
            cases hjd
            exact absurd (List.mem_cons_self ..) (h1 i oi d0 (by simpa using hi) hid).2
          | succ j => rw [h2 i j oi oj d (by simpa using hi) (by simpa using hj) hid hjd]

def updU (u : Nat → Value) (i : Nat) (v : Value) : Nat → Value := fun j => if j = i then v else u j
/-- The frame behind some of the operations: what operation k has yielded lies in its slot. -/
structure FrameOf (l : List Oper) (a0 : Act) (D : Nat → Bool) (u : Nat → Value) (a : Act) : Prop where
  defers : a.defers = a0.defers
  size : a.tmps.size = a0.tmps.size
  same : ∀ t : Nat, (∀ (k : Nat) (o : Oper), l[k]? = some o → o.dst ≠ some t) → a.tmps[t]? = a0.tmps[t]?
  vals : ∀ (k : Nat) (o : Oper) (d : Nat), D k = true → l[k]? = some o → o.dst = some d → a.tmps[d]? = some (u k)

theorem FrameOf.start (l : List Oper) (a0 : Act) (u : Nat → Value) : FrameOf l a0 (fun _ => false) u a0 := ⟨rfl, rfl, fun _ _ => rfl, fun _ _ _ h => by cases h⟩
theorem FrameOf.put {l : List Oper} {a0 a : Act} {D : Nat → Bool} {u : Nat → Value} {i : Nat} {o : Oper} (h : FrameOf l a0 D u a) (hd : dstsOk l a0.tmps.size [] = true) (hi : l[i]? = some o) (v : Value) :
    FrameOf l a0 (updD D i) (updU u i v) (a.put o.dst v) := by
  obtain ⟨g1, g2⟩ := dstsOk_spec hd
  cases hod : o.dst with
  | none =>
    refine ⟨h.defers, h.size, h.same, fun k ok d hk hok hkd => ?_⟩
    by_cases hki : k = i
    · subst hki
      have : ok = o := Option.some.inj (hok.symm.trans hi)
      subst this
      rw [hod] at hkd
      cases hkd
    · simp only [updD, updU, if_neg hki] at hk ⊢
      exact h.vals k ok d hk hok hkd
  | some d0 =>
    refine ⟨h.defers, by simp [Act.put, h.size], fun t ht => ?_, fun k ok d hk hok hkd => ?_⟩
    · have : d0 ≠ t := fun e => ht i o hi (by rw [hod, e])
      simp [Act.put, this, h.same t ht]
    · by_cases hki : k = i
      · subst hki
        have : ok = o := Option.some.inj (hok.symm.trans hi)
        subst this
        rw [hod] at hkd
        cases hkd
        have := (g1 k ok d0 hi hod).1
        simp [Act.put, updU, h.size, this]
      · simp only [updD, updU, if_neg hki] at hk ⊢
        have hne : d0 ≠ d := fun e => hki (g2 k i ok o d hok hi hkd (by rw [hod, e]))
        simp only [Act.put, Array.getElem?_setIfInBounds, if_neg hne]
        exact h.vals k ok d hk hok hkd
theorem FrameOf.at_ {l : List Oper} {a0 a : Act} {D : Nat → Bool} {u : Nat → Value} (h : FrameOf l a0 D u a) (k : Nat) {d : Nat} (hk : D k = true) (hd : (l[k]?).bind (·.dst) = some d) : a.eval (.tmp d) = u k := by
  cases ho : l[k]? with
  | none => rw [ho] at hd; cases hd
  | some o =>
    rw [ho] at hd
    have := h.vals k o d hk ho (by simpa using hd)
    simp [Act.eval, this]
def noDst : List Oper → Nat → Bool
  | [], _ => true
  | o :: l, t => decide (o.dst ≠ some t) && noDst l t
theorem noDst_spec : ∀ {l : List Oper} {t : Nat}, noDst l t = true → ∀ (k : Nat) (o : Oper), l[k]? = some o → o.dst ≠ some t
  | [], _, _, k, o, h => by simp at h
  | o' :: l, t, h, k, o, hk => by
    simp only [noDst, Bool.and_eq_true, decide_eq_true_eq] at h
    cases k with
    | zero => simp at hk; subst hk; exact h.1
    | succ k => exact noDst_spec h.2 k o (by simpa using hk)
theorem FrameOf.old {l : List Oper} {a0 a : Act} {D : Nat → Bool} {u : Nat → Value} (h : FrameOf l a0 D u a) (t : Nat) (ht : noDst l t = true) : a.eval (.tmp t) = a0.eval (.tmp t) := by
  have := h.same t (noDst_spec ht)
  simp [Act.eval, this]

theorem FrameOf.atT {l : List Oper} {a0 a : Act} {D : Nat → Bool} {u : Nat → Value} (h : FrameOf l a0 D u a) (k : Nat) {d : Nat} (hk : D k = true) (hd : (l[k]?).bind (·.dst) = some d) : a.tmps[d]?.getD undef = u k := by
  have := h.at_ k hk hd
  simpa [Act.eval] using this
theorem FrameOf.oldT {l : List Oper} {a0 a : Act} {D : Nat → Bool} {u : Nat → Value} (h : FrameOf l a0 D u a) (t : Nat) (ht : noDst l t = true) : a.tmps[t]?.getD undef = a0.tmps[t]?.getD undef := by
  have := h.old t ht
  simpa [Act.eval] using this

def putsU (u : Nat → Value) : List Oper → Nat → Act → Act
  | [], _, a => a
  | o :: l, k, a => putsU u l (k + 1) (a.put o.dst (u k))
theorem putsU_size (u : Nat → Value) : ∀ (l : List Oper) (k : Nat) (a : Act), (putsU u l k a).tmps.size = a.tmps.size ∧ (putsU u l k a).defers = a.defers
  | [], _, _ => ⟨rfl, rfl⟩
  | o :: l, k, a => by
    have h := putsU_size u l (k + 1) (a.put o.dst (u k))
    refine ⟨h.1.trans ?_, h.2.trans ?_⟩ <;> cases o.dst <;> simp [Act.put]
theorem putsU_other (u : Nat → Value) : ∀ (l : List Oper) (k : Nat) (a : Act) (t : Nat), (∀ (j : Nat) (o : Oper), l[j]? = some o → o.dst ≠ some t) → (putsU u l k a).tmps[t]? = a.tmps[t]?
  | [], _, _, _, _ => rfl
  | o :: l, k, a, t, h => by
    rw [putsU, putsU_other u l (k + 1) _ t (fun j oj hj => h (j + 1) oj (by simpa using hj))]
    have h0 := h 0 o (by simp)
    cases hd : o.dst with
    | none => rfl
    | some d =>
      have : d ≠ t := fun e => h0 (by rw [hd, e])
      simp [Act.put, this]
theorem putsU_at (u : Nat → Value) : ∀ (l : List Oper) (k : Nat) (a : Act) (seen : List Nat), dstsOk l a.tmps.size seen = true → ∀ (j : Nat) (o : Oper) (d : Nat), l[j]? = some o → o.dst = some d → (putsU u l k a).tmps[d]? = some (u (k + j))
  | [], _, _, _, _, j, o, d, hj, _ => by simp at hj
  | o' :: l, k, a, seen, h, j, o, d, hj, hd => by
    have hspec := dstsOk_spec h
    cases j with
    | zero =>
      simp at hj
      subst hj
      rw [putsU, putsU_other u l (k + 1) _ d (fun i oi hi hid => by
        have := hspec.2 0 (i + 1) o' oi d (by simp) (by simpa using hi) hd hid
        omega)]
      have := (hspec.1 0 o' d (by simp) hd).1
      simp [Act.put, hd, this]
    | succ j =>
      have hrest : ∃ seen', dstsOk l a.tmps.size seen' = true := by
        unfold dstsOk at h
        cases ho : o'.dst with
        | none => rw [ho] at h; exact ⟨_, h⟩
        | some d0 => rw [ho] at h; simp only [Bool.and_eq_true] at h; exact ⟨_, h.2⟩
      obtain ⟨seen', hr⟩ := hrest
      have hsz : (a.put o'.dst (u k)).tmps.size = a.tmps.size := by cases o'.dst <;> simp [Act.put]
      rw [putsU, putsU_at u l (k + 1) _ seen' (by rw [hsz]; exact hr) j o d (by simpa using hj) hd]
      congr 2
      omega
/-- Behind all operations the frame is known. -/
theorem FrameOf.all {l : List Oper} {a0 a : Act} {D : Nat → Bool} {u : Nat → Value} (h : FrameOf l a0 D u a) (hd : dstsOk l a0.tmps.size [] = true) (hall : ∀ i, i < l.length → D i = true) : a = putsU u l 0 a0 := by
  obtain ⟨hs, hf⟩ := putsU_size u l 0 a0
  cases a with
  | mk tmps defers =>
  cases hp : putsU u l 0 a0 with
  | mk tmps' defers' =>
  rw [hp] at hs hf
  have h1 : defers = defers' := h.defers.trans hf.symm
  have h2 : tmps = tmps' := by
    apply Array.ext_getElem?
    intro t
    by_cases hex : ∃ (k : Nat) (o : Oper), l[k]? = some o ∧ o.dst = some t
    · obtain ⟨k, o, hk, hdst⟩ := hex
      have e1 := h.vals k o t (hall k (List.getElem?_eq_some_iff.1 hk).1) hk hdst
      have e2 := putsU_at u l 0 a0 [] hd k o t hk hdst
      rw [hp, Nat.zero_add] at e2
      exact e1.trans e2.symm
    · have hno : ∀ (k : Nat) (o : Oper), l[k]? = some o → o.dst ≠ some t := fun k o hk hdst => hex ⟨k, o, hk, hdst⟩
      have e1 := h.same t hno
      have e2 := putsU_other u l 0 a0 t hno
      rw [hp] at e2
      exact e1.trans e2.symm
  rw [h1, h2]

/-- **Each operation once.** E: what every operation does to the world (at most); V k: what operation k has made true, of what was yielded so far and of the world; G: what holds throughout. -/
theorem wp_region_facts {id : Nat} {l : List Oper} {a0 : Act} {w0 : World} (hm : P.follows .mixedOrders = true) (hb : backB .any l.toArray = true) (hd : dstsOk l a0.tmps.size [] = true)
    (E : World → World → Prop) (V : Nat → (Nat → Value) → World → Prop) (G : (Nat → Bool) → (Nat → Value) → World → Prop)
    (hV : ∀ (D : Nat → Bool) (k i : Nat) u v w w', ClosedD .any l.toArray D → D k = true → D i = false → E w w' → V k u w → V k (updU u i v) w')
    (h0 : ∀ u, G (fun _ => false) u w0.drew)
    (hstep : ∀ (i : Nat) (o : Oper), l[i]? = some o → ∀ D u a w, FrameOf l a0 D u a → G D u w → (∀ k, D k = true → V k u w) → ClosedD .any l.toArray D → D i = false → (∀ e ∈ o.after, Region.binds .any e = true → D e.on = true) →
      wpOp P l.toArray Q i (fun a' w' => ∃ v, a' = a.put o.dst v ∧ E w w' ∧ G (updD D i) (updU u i v) w' ∧ V i (updU u i v) w') a w)
    (hend : ∀ D u w, (∀ i, i < l.length → D i = true) → G D u w → (∀ k, k < l.length → V k u w) → Q .normal (putsU u l 0 a0) w) :
    (Code.region id l.toArray true).wp P Q a0 w0 := by
  refine wp_region_inv hm hb (fun D a w => ∃ u, FrameOf l a0 D u a ∧ G D u w ∧ (∀ k, D k = true → V k u w)) ⟨fun _ => undef, FrameOf.start l a0 _, h0 _, fun k hk => by cases hk⟩ ?_ ?_
  · rintro D a w ⟨u, hf, hg, hv⟩ hcl i o ho hi hpre
    have ho' : l[i]? = some o := by simpa using ho
    refine wpOp_mono ?_ (hstep i o ho' D u a w hf hg hv hcl hi hpre)
    rintro a' w' ⟨v, rfl, hE, hG, hVi⟩
    refine ⟨updU u i v, hf.put hd ho' v, hG, fun k hk => ?_⟩
    by_cases hki : k = i
    · subst hki; exact hVi
    · have hk' : D k = true := by simpa [updD, hki] using hk
      exact hV D k i u v w w' hcl hk' hi hE (hv k hk')
  · rintro D a w ⟨u, hf, hg, hv⟩ hall
    have hall' : ∀ i, i < l.length → D i = true := fun i hi => hall i (by simpa using hi)
    rw [hf.all hd hall']
    exact hend D u w hall' hg (fun k hk => hv k (hall' k hk))

def headDone (m n : Nat) : Array Bool := ((List.range m).map fun i => decide (i < n)).toArray
/-- The Bool over a region: edges point back; from number n on the operations come one after the other, behind all others. -/
def factsB (ops : Array Oper) (n : Nat) : Bool :=
  backB .any ops && decide (n < ops.size) && Region.sinkB .any ops n && Region.chainB .any ops n && Region.seqB .any ops (ops.size - n) n (headDone ops.size n) && decide ((headDone ops.size n).toList.countP (fun b => !b) = ops.size - n)

theorem wpAny_inv_tail {n : Nat} {l : List Oper} (hB : factsB l.toArray n = true) (I : (Nat → Bool) → Act → World → Prop)
    (hstep : ∀ D a w, I D a w → ClosedD .any l.toArray D → ∀ i o, l.toArray[i]? = some o → i < n → D i = false → (∀ e ∈ o.after, Region.binds .any e = true → D e.on = true) → wpOp P l.toArray Q i (I (updD D i)) a w)
    (hend : ∀ D a w, I D a w → (∀ i, i < n → D i = true) → wpList P l.toArray Q (l.drop n) a w) :
    ∀ (fuel : Nat) (listed : Array Bool) (a : Act) (w : World), HeadInv .any l.toArray n listed → listed.toList.countP (fun b => !b) = fuel →
      I (fun j => listed.getD j false) a w → wpAny P .any l.toArray Q fuel listed a w := by
  simp only [factsB, Bool.and_eq_true, decide_eq_true_eq] at hB
  obtain ⟨⟨⟨⟨⟨hb, hn⟩, hs⟩, hc⟩, hq⟩, hcnt⟩ := hB
  intro fuel
  induction fuel with
  | zero =>
    intro listed a w inv h0 _
    exfalso
    have ht := inv.tail n (Nat.le_refl _) hn
    have hlt : n < listed.size := by rw [inv.size]; exact hn
    have := List.countP_eq_zero.1 h0 (listed.toList[n]'(by simpa using hlt)) (List.getElem_mem _)
    simp [hlt] at ht
    simp [ht] at this
  | succ fuel ih =>
    intro listed a w inv hcn hI
    by_cases hall : ∀ i, i < n → listed.getD i false = true
    · have heq : listed = headDone l.toArray.size n := by
        apply Array.ext_getElem?
        intro i
        unfold headDone
        by_cases hi : i < l.toArray.size
        · have hil : i < listed.size := by rw [inv.size]; exact hi
          by_cases hin : i < n
          · have := hall i hin
            simp [hil] at this
            have hi' : i < l.length := by simpa using hi
            simp [hil, this, hi', hin]
          · have := inv.tail i (by omega) hi
            simp [hil] at this
            have hi' : i < l.length := by simpa using hi
            simp [hil, this, hi', hin]
        · have hi' : ¬ i < l.length := by simpa using hi
          rw [Array.getElem?_eq_none (by rw [inv.size]; omega)]
          simp [hi']
      have hlen : (l.drop n).length = l.toArray.size - n := by simp
      have hf : fuel + 1 = (l.drop n).length := by rw [hlen, ← hcnt, ← heq, hcn]
      rw [hf]
      refine wpAny_of_seq (md := .any) (l.drop n) n listed a w (fun j => by simp [List.getElem?_drop]) ?_ (hend _ a w hI hall)
      rw [hlen, heq]
      exact hq
    · have hex : ∃ i, i < n ∧ listed.getD i false = false := by
        refine Classical.byContradiction fun hno => hall fun i hi => ?_
        cases hl : listed.getD i false with
        | true => rfl
        | false => exact absurd ⟨i, hi, hl⟩ hno
      obtain ⟨i0, hi0, hl0⟩ := hex
      have hi0s : i0 < listed.size := by rw [inv.size]; omega
      have hne : Region.ready .any l.toArray listed ≠ [] := fun hr => by
        have := all_of_ready_nil hb inv.size hr i0 (by rw [← inv.size]; exact hi0s)
        rw [hl0] at this
        cases this
      refine ⟨fun hr => absurd hr hne, fun i hi => ?_⟩
      have hin : i < n := by
        rcases Nat.lt_or_ge i n with h | h
        · exact h
        · exact absurd hi (tail_waits hs hc hn inv _ i0 rfl hi0 (getD_in hi0s hl0) i h)
      obtain ⟨h1, o, ho, hpre⟩ := mem_ready.1 hi
      have hlt : i < l.toArray.size := (Array.getElem?_eq_some_iff.1 ho).1
      have hli : i < listed.size := by rw [inv.size]; exact hlt
      have hD : (fun j => (listed.setIfInBounds i true).getD j false) = updD (fun j => listed.getD j false) i := by
        funext j
        unfold updD
        by_cases hj : j = i
        · subst hj; simp [hli]
        · rw [if_neg hj, getD_set_ne false (Ne.symm hj)]
      refine wpOp_mono (fun a' w' h' => ?_) (hstep _ a w hI inv.closed i o ho hin (getD_both h1) hpre)
      refine ih (listed.setIfInBounds i true) a' w' (inv.set hi hin) ?_ (by rw [hD]; exact h')
      rw [Array.toList_setIfInBounds, List.countP_set (by simpa using hli)]
      have hv : listed[i] = false := by simpa [hli] using h1
      have hv' : listed.toList[i]'(by simpa using hli) = false := by simpa using hv
      rw [hv']
      have hpos : 0 < listed.toList.countP (fun b => !b) := List.countP_pos_iff.2 ⟨listed[i], by simp, by simp [hv]⟩
      simp only [Bool.not_false, if_true, Bool.not_true, Bool.false_eq_true, if_false]
      omega

theorem wpOp_run {i : Nat} {o : Oper} {a : Act} {w : World} {K : Act → World → Prop} (hi : ops[i]? = some o) (hg : o.guard = none) (h : o.wp P a w K Q) : wpOp P ops Q i K a w := by
  unfold wpOp
  simp only [hi, Region.wanted, hg]
  exact .inl h
theorem wp_value {o : Oper} {a : Act} {w w' : World} {v : Value} {K : Act → World → Prop} (hrun : (execOp a.eval o).run P w = .ok (.value v) w') (h : K (a.put o.dst v) w') : o.wp P a w K Q := by
  unfold Oper.wp
  rw [hrun]
  exact h
/-- **Each operation of the head once; the tail in its order.** -/
theorem wp_region_facts_tail {id : Nat} {l : List Oper} {a0 : Act} {w0 : World} (n : Nat) (hm : P.follows .mixedOrders = true) (hB : factsB l.toArray n = true) (hd : dstsOk (l.take n) a0.tmps.size [] = true)
    (E : World → World → Prop) (V : Nat → (Nat → Value) → World → Prop) (G : World → Prop)
    (hV : ∀ (D : Nat → Bool) (k i : Nat) u v w w', ClosedD .any l.toArray D → D k = true → D i = false → E w w' → V k u w → V k (updU u i v) w')
    (h0 : G w0.drew) (hGE : ∀ w w', G w → E w w' → G w')
    (hstep : ∀ (i : Nat) (o : Oper), i < n → l[i]? = some o → ∀ D u a w, FrameOf (l.take n) a0 D u a → G w → (∀ k, D k = true → V k u w) → ClosedD .any l.toArray D → D i = false → (∀ e ∈ o.after, Region.binds .any e = true → D e.on = true) →
      o.wp P a w (fun a' w' => ∃ v, a' = a.put o.dst v ∧ E w w' ∧ V i (updU u i v) w') Q)
    (hgd : (l.take n).all (fun o => o.guard == none) = true)
    (hend : ∀ u w, G w → (∀ k, k < n → V k u w) → wpList P l.toArray Q (l.drop n) (putsU u (l.take n) 0 a0) w) :
    (Code.region id l.toArray true).wp P Q a0 w0 := by
  have hn : n < l.length := by
    simp only [factsB, Bool.and_eq_true, decide_eq_true_eq] at hB
    simpa using hB.1.1.1.1.2
  have htl : (l.take n).length = n := by simp; omega
  have inv0 : HeadInv .any l.toArray n (Array.replicate l.toArray.size false) :=
    ⟨by simp, fun j oj _ hl => (by rw [getD_replicate_false] at hl; cases hl), fun t _ ht => getD_in (by simpa using ht) (getD_replicate_false _ _)⟩
  refine wp_region_any hm (wpAny_inv_tail hB (fun D a w => ∃ u, FrameOf (l.take n) a0 D u a ∧ G w ∧ (∀ k, D k = true → V k u w)) ?_ ?_ _ _ _ _ inv0 ?_ ?_)
  · rintro D a w ⟨u, hf, hg, hv⟩ hcl i o ho hin hi hpre
    have ho' : l[i]? = some o := by simpa using ho
    have ho2 : (l.take n)[i]? = some o := by rw [List.getElem?_take, if_pos hin]; exact ho'
    have hgo : o.guard = none := by
      have := List.all_eq_true.1 hgd o (List.mem_of_getElem? ho2)
      simpa using this
    refine wpOp_mono ?_ (wpOp_run ho hgo (hstep i o hin ho' D u a w hf hg hv hcl hi hpre))
    rintro a' w' ⟨v, rfl, hE, hVi⟩
    refine ⟨updU u i v, hf.put hd ho2 v, hGE w w' hg hE, fun k hk => ?_⟩
    by_cases hki : k = i
    · subst hki; exact hVi
    · have hk' : D k = true := by simpa [updD, hki] using hk
      exact hV D k i u v w w' hcl hk' hi hE (hv k hk')
  · rintro D a w ⟨u, hf, hg, hv⟩ hall
    rw [hf.all hd (fun i hi => hall i (by rw [htl] at hi; exact hi))]
    exact hend u w hg (fun k hk => hv k (hall k hk))
  · rw [Array.toList_replicate, List.countP_replicate]
    simp
  · have : (fun j => (Array.replicate l.toArray.size false).getD j false) = fun _ => false := by
      funext j
      exact getD_replicate_false _ _
    rw [this]
    exact ⟨fun _ => undef, FrameOf.start _ a0 _, h0, fun k hk => by cases hk⟩

end
end Go.Proofs.Ytdnchjmopkhnaaa
namespace Go.Proofs.Ytdnchjmopkhnaaa
open Go

section
variable {P : Program} {Q : Exit → Act → World → Prop}
theorem FrameOf.putV {l : List Oper} {a0 a : Act} {D : Nat → Bool} {u : Nat → Value} {i : Nat} {o : Oper} (h : FrameOf l a0 D u a) (hd : dstsOk l a0.tmps.size [] = true) (hi : l[i]? = some o) :
    FrameOf l a0 (updD D i) u (a.put o.dst (u i)) := by
  have h1 := h.put hd hi (u i)
  have h2 : updU u i (u i) = u := by
    funext j
    unfold updU
    split
    · rename_i e; rw [e]
    · rfl
  rwa [h2] at h1
theorem wp_region_fixed {id : Nat} {l : List Oper} {a0 : Act} {w0 : World} (val : Nat → Value) (G : (Nat → Bool) → World → Prop) (hm : P.follows .mixedOrders = true) (hB : backB .any l.toArray = true) (hd : dstsOk l a0.tmps.size [] = true)
    (hgd : l.all (fun o => o.guard == none) = true) (h0 : G (fun _ => false) w0.drew)
    (hstep : ∀ (i : Nat) (o : Oper), l[i]? = some o → ∀ D a w, FrameOf l a0 D val a → G D w → ClosedD .any l.toArray D → D i = false → (∀ e ∈ o.after, Region.binds .any e = true → D e.on = true) →
      o.wp P a w (fun a' w' => a' = a.put o.dst (val i) ∧ G (updD D i) w') Q)
    (hend : ∀ D w, G D w → (∀ k, k < l.length → D k = true) → Q .normal (putsU val l 0 a0) w) :
    (Code.region id l.toArray true).wp P Q a0 w0 := by
  refine wp_region_inv hm hB (fun D a w => FrameOf l a0 D val a ∧ G D w) ⟨FrameOf.start l a0 val, h0⟩ ?_ ?_
  · rintro D a w ⟨hf, hg⟩ hcl i o ho hi hpre
    have ho' : l[i]? = some o := by simpa using ho
    have hgo : o.guard = none := by
      have := List.all_eq_true.1 hgd o (List.mem_of_getElem? ho')
      simpa using this
    refine wpOp_mono ?_ (wpOp_run ho hgo (hstep i o ho' D a w hf hg hcl hi hpre))
    rintro a' w' ⟨rfl, hg'⟩
    exact ⟨hf.putV hd ho', hg'⟩
  · rintro D a w ⟨hf, hg⟩ hall
    have hall' : ∀ k, k < l.length → D k = true := fun k hk => hall k (by simpa using hk)
    rw [hf.all hd hall']
    exact hend D w hg hall'
theorem wp_skipF {o : Oper} {a : Act} {w w' : World} {K : Act → World → Prop} (hrun : (execOp a.eval o).run P w = .ok .skip w') (h : K (a.put o.dst undef) w') : o.wp P a w K Q := by
  unfold Oper.wp
  rw [hrun]
  exact h
theorem wp_called {o : Oper} {a : Act} {w : World} {K : Act → World → Prop} {f : FuncId} {args : Array Value} {R : Ending → World → Prop} (hrun : (execOp a.eval o).run P w = .ok (.enter f args) w) (hc : Calls P f args w R)
    (h : ∀ e w', R e w' → ∃ v, e = .returned v ∧ K (a.put o.dst v) w') : o.wp P a w K Q := by
  unfold Oper.wp
  rw [hrun]
  refine hc.mono fun e w' hr => ?_
  obtain ⟨v, rfl, hk⟩ := h e w' hr
  exact hk
end
end Go.Proofs.Ytdnchjmopkhnaaa
namespace Go.Proofs.Ytdnchjmopkhnaaa
open Go

section
variable {P : Program} {ops : Array Oper} {Q : Exit → Act → World → Prop}
theorem wpOp_G {i : Nat} {o : Oper} {a : Act} {w : World} {K : Act → World → Prop} (hi : ops[i]? = some o) (b : Bool) (hb : Region.wanted o (yielded ops a.tmps) = b) (h1 : b = true → o.wp P a w K Q) (h2 : b = false → K (a.put o.dst undef) w) : wpOp P ops Q i K a w := by
  unfold wpOp
  simp only [hi, hb]
  cases b with
  | true => simp only [if_true]; exact .inl (h1 rfl)
  | false => simp only [Bool.false_eq_true, if_false]; exact h2 rfl
theorem wanted_of {l : List Oper} {a0 a : Act} {D : Nat → Bool} {u : Nat → Value} {o : Oper} {j d : Nat} {want x : Bool} (hf : FrameOf l a0 D u a) (hg : o.guard = some (j, want)) (hD : D j = true) (hd : (l[j]?).bind (·.dst) = some d) (hu : u j = .bool x) :
    Region.wanted o (yielded l.toArray a.tmps) = (x == want) := by
  have h1 := hf.at_ j hD hd
  rw [hu] at h1
  cases ho : l[j]? with
  | none => rw [ho] at hd; cases hd
  | some oj =>
    rw [ho] at hd
    have hd' : oj.dst = some d := by simpa using hd
    have h2 : a.tmps[d]? = some (.bool x) := by rw [← hu]; exact hf.vals j oj d hD ho hd'
    unfold Region.wanted yielded
    simp [hg, ho, hd', h2]
theorem wp_enter {o : Oper} {a : Act} {w : World} {K : Act → World → Prop} {f : FuncId} {args : Array Value} {R : Ending → World → Prop} (hrun : (execOp a.eval o).run P w = .ok (.enter f args) w) (hc : Calls P f args w R)
    (h : ∀ e w', R e w' → ∃ v, e = .returned v ∧ K (a.put o.dst v) w') : o.wp P a w K Q := by
  unfold Oper.wp
  rw [hrun]
  refine hc.mono fun e w' hr => ?_
  obtain ⟨v, rfl, hk⟩ := h e w' hr
  exact hk
theorem wp_skip' {o : Oper} {a : Act} {w w' : World} {K : Act → World → Prop} (hrun : (execOp a.eval o).run P w = .ok .skip w') (h : K (a.put o.dst undef) w') : o.wp P a w K Q := by
  unfold Oper.wp
  rw [hrun]
  exact h
end
end Go.Proofs.Ytdnchjmopkhnaaa
namespace Go.Proofs.Ytdnchjmopkhnaaa
open Go

section
variable {P : Program} {Q : Exit → Act → World → Prop}
theorem wp_region_fixedG {id : Nat} {l : List Oper} {a0 : Act} {w0 : World} (val : Nat → Value) (G : (Nat → Bool) → World → Prop) (hm : P.follows .mixedOrders = true) (hB : backB .any l.toArray = true) (hd : dstsOk l a0.tmps.size [] = true)
    (h0 : G (fun _ => false) w0.drew)
    (hstep : ∀ (i : Nat) (o : Oper), l[i]? = some o → ∀ D a w, FrameOf l a0 D val a → G D w → ClosedD .any l.toArray D → D i = false → (∀ e ∈ o.after, Region.binds .any e = true → D e.on = true) →
      Region.wanted o (yielded l.toArray a.tmps) = true ∧ o.wp P a w (fun a' w' => a' = a.put o.dst (val i) ∧ G (updD D i) w') Q)
    (hend : ∀ D w, G D w → (∀ k, k < l.length → D k = true) → Q .normal (putsU val l 0 a0) w) :
    (Code.region id l.toArray true).wp P Q a0 w0 := by
  refine wp_region_inv hm hB (fun D a w => FrameOf l a0 D val a ∧ G D w) ⟨FrameOf.start l a0 val, h0⟩ ?_ ?_
  · rintro D a w ⟨hf, hg⟩ hcl i o ho hi hpre
    have ho' : l[i]? = some o := by simpa using ho
    obtain ⟨hw, hs⟩ := hstep i o ho' D a w hf hg hcl hi hpre
    refine wpOp_mono ?_ (wpOp_G ho true hw (fun _ => hs) (fun h => by cases h))
    rintro a' w' ⟨rfl, hg'⟩
    exact ⟨hf.putV hd ho', hg'⟩
  · rintro D a w ⟨hf, hg⟩ hall
    have hall' : ∀ k, k < l.length → D k = true := fun k hk => hall k (by simpa using hk)
    rw [hf.all hd hall']
    exact hend D w hg hall'
end
end Go.Proofs.Ytdnchjmopkhnaaa
namespace Go.Proofs.Ytdnchjmopkhnaaa
open Go

section
variable {P : Program} {Q : Exit → Act → World → Prop}
theorem wp_region_fixedW {id : Nat} {l : List Oper} {a0 : Act} {w0 : World} (val : Nat → Value) (G : (Nat → Bool) → World → Prop) (hm : P.follows .mixedOrders = true) (hB : backB .any l.toArray = true) (hd : dstsOk l a0.tmps.size [] = true)
    (h0 : G (fun _ => false) w0.drew)
    (hstep : ∀ (k : Nat) (o : Oper), l[k]? = some o → ∀ D a w, FrameOf l a0 D val a → G D w → ClosedD .any l.toArray D → D k = false → (∀ e ∈ o.after, Region.binds .any e = true → D e.on = true) →
      ∃ b, Region.wanted o (yielded l.toArray a.tmps) = b ∧ (b = true → o.wp P a w (fun a' w' => a' = a.put o.dst (val k) ∧ G (updD D k) w') Q) ∧ (b = false → val k = undef ∧ G (updD D k) w))
    (hend : ∀ D w, G D w → (∀ k, k < l.length → D k = true) → Q .normal (putsU val l 0 a0) w) :
    (Code.region id l.toArray true).wp P Q a0 w0 := by
  refine wp_region_inv hm hB (fun D a w => FrameOf l a0 D val a ∧ G D w) ⟨FrameOf.start l a0 val, h0⟩ ?_ ?_
  · rintro D a w ⟨hf, hg⟩ hcl i o ho hi hpre
    have ho' : l[i]? = some o := by simpa using ho
    obtain ⟨b, hw, hs, hs'⟩ := hstep i o ho' D a w hf hg hcl hi hpre
    refine wpOp_mono ?_ (wpOp_G (K := fun a' w' => a' = a.put o.dst (val i) ∧ G (updD D i) w') ho b hw hs (fun h => ?_))
    · rintro a' w' ⟨rfl, hg'⟩
      exact ⟨hf.putV hd ho', hg'⟩
    · obtain ⟨h1, h2⟩ := hs' h
      exact ⟨by rw [h1], h2⟩
  · rintro D a w ⟨hf, hg⟩ hall
    have hall' : ∀ k, k < l.length → D k = true := fun k hk => hall k (by simpa using hk)
    rw [hf.all hd hall']
    exact hend D w hg hall'
end
end Go.Proofs.Ytdnchjmopkhnaaa
namespace Go.Proofs.Ytdnchjmopkhnaaa
open Go

section
variable {P : Program} {Q : Exit → Act → World → Prop}
theorem FrameOf.congr {l : List Oper} {a0 a : Act} {D : Nat → Bool} {u u' : Nat → Value} (h : FrameOf l a0 D u a) (he : ∀ k, k < l.length → D k = true → u' k = u k) : FrameOf l a0 D u' a :=
  ⟨h.defers, h.size, h.same, fun k o d hk ho hd => by rw [he k (List.getElem?_eq_some_iff.1 ho).1 hk]; exact h.vals k o d hk ho hd⟩
theorem put_other {l : List Oper} {n i k : Nat} {o oi : Oper} {d : Nat} {a : Act} (hd : dstsOk l n [] = true) (hi : l[i]? = some oi) (hk : l[k]? = some o) (hne : k ≠ i) (hdst : o.dst = some d) (v : Value) : (a.put oi.dst v).tmps[d]? = a.tmps[d]? := by
  obtain ⟨_, g2⟩ := dstsOk_spec hd
  cases h : oi.dst with
  | none => rfl
  | some d0 =>
    have : d0 ≠ d := fun e => hne (g2 k i o oi d hk hi hdst (by rw [h, e]))
    simp [Act.put, this]
theorem wp_region_fixedE {Env : Type} {id : Nat} {l : List Oper} {a0 : Act} {w0 : World} (val : Env → Nat → Value) (G : Env → (Nat → Bool) → World → Prop) (env0 : Env) (hm : P.follows .mixedOrders = true) (hB : backB .any l.toArray = true) (hd : dstsOk l a0.tmps.size [] = true)
    (h0 : G env0 (fun _ => false) w0.drew)
    (hstep : ∀ (k : Nat) (o : Oper), l[k]? = some o → ∀ env D a w, FrameOf l a0 D (val env) a → G env D w → ClosedD .any l.toArray D → D k = false → (∀ e ∈ o.after, Region.binds .any e = true → D e.on = true) →
      (∀ (j : Nat) (oj : Oper) (d : Nat), D j = false → l[j]? = some oj → oj.dst = some d → a.tmps[d]? = a0.tmps[d]?) →
      ∃ b, Region.wanted o (yielded l.toArray a.tmps) = b ∧ (b = true → o.wp P a w (fun a' w' => ∃ env', (∀ j, j < l.length → D j = true → val env' j = val env j) ∧ a' = a.put o.dst (val env' k) ∧ G env' (updD D k) w') Q) ∧ (b = false → val env k = undef ∧ G env (updD D k) w))
    (hend : ∀ env D w, G env D w → (∀ k, k < l.length → D k = true) → Q .normal (putsU (val env) l 0 a0) w) :
    (Code.region id l.toArray true).wp P Q a0 w0 := by
  refine wp_region_inv hm hB (fun D a w => (∃ env, FrameOf l a0 D (val env) a ∧ G env D w) ∧ ∀ (j : Nat) (oj : Oper) (d : Nat), D j = false → l[j]? = some oj → oj.dst = some d → a.tmps[d]? = a0.tmps[d]?) ⟨⟨env0, FrameOf.start l a0 (val env0), h0⟩, fun _ _ _ _ _ _ => rfl⟩ ?_ ?_
  · rintro D a w ⟨⟨env, hf, hg⟩, hun⟩ hcl i o ho hi hpre
    have ho' : l[i]? = some o := by simpa using ho
    have hkeep : ∀ v (j : Nat) (oj : Oper) (d : Nat), updD D i j = false → l[j]? = some oj → oj.dst = some d → (a.put o.dst v).tmps[d]? = a0.tmps[d]? := by
      intro v j oj d hj hoj hdj
      have hji : j ≠ i := fun e => by rw [e] at hj; simp [updD] at hj
      rw [put_other hd ho' hoj hji hdj]
      exact hun j oj d (by simpa [updD, hji] using hj) hoj hdj
    obtain ⟨b, hw, hs, hs'⟩ := hstep i o ho' env D a w hf hg hcl hi hpre hun
    refine wpOp_mono ?_ (wpOp_G (K := fun a' w' => ∃ env', (∀ j, j < l.length → D j = true → val env' j = val env j) ∧ a' = a.put o.dst (val env' i) ∧ G env' (updD D i) w') ho b hw hs (fun h => ?_))
    · rintro a' w' ⟨env', he, rfl, hg'⟩
      exact ⟨⟨env', (hf.congr he).putV hd ho', hg'⟩, hkeep _⟩
    · obtain ⟨h1, h2⟩ := hs' h
      exact ⟨env, fun _ _ _ => rfl, by rw [h1], h2⟩
  · rintro D a w ⟨⟨env, hf, hg⟩, _⟩ hall
    have hall' : ∀ k, k < l.length → D k = true := fun k hk => hall k (by simpa using hk)
    rw [hf.all hd hall']
    exact hend env D w hg hall'
end
end Go.Proofs.Ytdnchjmopkhnaaa
