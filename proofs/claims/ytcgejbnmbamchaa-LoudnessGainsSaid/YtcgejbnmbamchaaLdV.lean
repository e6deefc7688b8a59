/- cutroomlaw28.made: words. -/
import Derived.Test.YtcgejbnmbamchaaLdU
import Derived.Test.YtcgejbnmbamchaaOrdF
import Derived.Deep.DrawnRows
namespace Go.Proofs.Ytcgejbnmbamchaa
open Go.RowKit

theorem NextS.facts {W W' w0 : World} {g : Nat} {A : Option Addr} {n c a r B : Nat} {L : List Int} {e : Ending} (h : NextS W g a r e W') (hT : TapeAt W g A n c a L) (hB : Below B w0 W) (hg : B ≤ g) :
    e = .returned (.int .i64 (r : Int)) ∧ TapeAt W' g A n c (a + 1) L ∧ Below B w0 W' ∧ W'.heap.size = W.heap.size ∧ (∀ b, b ≠ g → W'.heap[b]? = W.heap[b]?) := by
  obtain ⟨he, m, rfl⟩ := h
  refine ⟨he, hT.step m _ (by omega), bset (bdrewN hB m) _ hg _, by simp [World.setCell], fun b hb => ?_⟩
  exact Below.heap_setCell (W.drewN m) ⟨g, 1, none⟩ _ b hb
theorem Try.infoI16 : (Try.prog.info? 49).map (fun i => (i.zero, i.size, i.bytes)) = some (some (.int .i16 0), 1, 2) := by kernel_rfl
theorem Try.infoCh : (Try.prog.info? 44).map (fun i => (i.zero, i.size, i.bytes)) = some (some (.slice none 0 0), 1, 24) := by kernel_rfl
/-- A row of so many nil channels. -/
theorem run_mkCh (C : Nat) (hC : C ≤ 100000) (w : World) :
    (Instr.makeSlice 22 (.int .i64 (C : Int)) (.int .i64 (C : Int))).run Try.prog w = .ok (.slice (some ⟨w.heap.size, 0, none⟩) C C) (w.alloc (.cells (List.replicate C (.slice none 0 0)).toArray 44)) := by
  obtain ⟨i, hi', hz, hs, hb⟩ := info_parts Try.infoCh
  have hr := run_make (P := Try.prog) w 22 44 i (.slice none 0 0) Try.underlying22 hi' hz .i64 .i64 (C : Int) (C : Int) (by omega) (by omega) (by rw [hb]; omega) (by omega)
  rw [hr, hs]
  have : madeCells (Value.cells (.slice none 0 0)) ((C : Int).toNat * 1) = (List.replicate C (.slice none 0 0)).toArray := by
    apply Array.ext'
    show (madeCells #[.slice none 0 0] ((C : Int).toNat * 1)).toList = _
    rw [toList_madeCells_one]
    simp
  rw [this]
  simp
/-- A channel of the call's own. -/
def OwS (w : World) (base : Nat) (v : Value) (l : List Int) : Prop := w.ownsRow base 49 1 v l.length (l.map (Value.int .i16))
theorem OwS.nil {w : World} {base : Nat} : OwS w base (.slice none 0 0) [] := World.ownsRow_nil w base _ 1
theorem OwS.ext {w w' : World} {base : Nat} {v : Value} {l : List Int} (h : OwS w base v l) (hb : Below w.heap.size w w') : OwS w' base v l := own_ext h hb
def SepR (rows : List Value) : Prop := ∀ (d e : Nat) (vd ve : Value), d ≠ e → rows[d]? = some vd → rows[e]? = some ve → vd.ownBlock = none ∨ vd.ownBlock ≠ ve.ownBlock
/-- The channels of the call's own, as they grow. -/
structure Own2 (w : World) (go base : Nat) (rows : List Value) (ch : Nat → List Int) : Prop where
  box : Bx w go 44 rows.toArray
  own : ∀ d v, rows[d]? = some v → OwS w base v (ch d)
  sep : SepR rows
  lt : go < base
section
variable {w w' : World} {go base : Nat} {rows : List Value} {ch ch' : Nat → List Int}
theorem Own2.ext (h : Own2 w go base rows ch) (hb : Below w.heap.size w w') : Own2 w' go base rows ch := ⟨h.box.ext hb, fun d v hv => (h.own d v hv).ext hb, h.sep, h.lt⟩
theorem Own2.drewN (h : Own2 w go base rows ch) (k : Nat) : Own2 (w.drewN k) go base rows ch := ⟨h.box, h.own, h.sep, h.lt⟩
theorem Own2.cong (h : Own2 w go base rows ch) (hc : ∀ d, d < rows.length → ch' d = ch d) : Own2 w go base rows ch' :=
  ⟨h.box, fun d v hv => by rw [hc d (List.getElem?_eq_some_iff.1 hv).1]; exact h.own d v hv, h.sep, h.lt⟩
/-- The world has changed in one block that is none of the channels'. -/
theorem Own2.keep {g : Nat} (h : Own2 w go base rows ch) (hg : g < base) (hne : g ≠ go) (hk : ∀ b, b ≠ g → w'.heap[b]? = w.heap[b]?) (hs : w'.heap.size = w.heap.size) (h1 : w'.os = w.os) (h2 : w'.tape = w.tape) (h3 : w'.output = w.output) : Own2 w' go base rows ch :=
  ⟨h.box.keep (hk go (Ne.symm hne)), fun d v hv => World.ownsRow.kept (h.own d v hv) (row := some g) ⟨h1, h2, h3, by omega, fun k _ hk' => hk k (fun e => hk' (by rw [e]))⟩ (by
    rcases hv2 : v.ownBlock with _ | k
    · exact .inl rfl
    · have := (World.ownsRow.lt (h.own d v hv) k hv2).1
      refine .inr (fun e => ?_)
      injection e with e
      omega), h.sep, h.lt⟩
/-- Channel c has grown by an append, and lies in the row of channels again. -/
theorem Own2.grow {c : Nat} {v v3 : Value} {w3 : World} {l' : List Int} (h : Own2 w go base rows ch) (hv : rows[c]? = some v) (ho : OwS w3 base v3 l') (hg : w.grownBy w3 v.ownBlock) (ha : v3.ownBlock = v.ownBlock ∨ v3.ownBlock = some w.heap.size)
    (hl : l' = ch' c) (hc : ∀ d, d ≠ c → ch' d = ch d) : Own2 (w3.setCell ⟨go, c, none⟩ v3) go base (rows.set c v3) ch' := by
  have hclt : c < rows.length := (List.getElem?_eq_some_iff.1 hv).1
  have hgo : some go ≠ v.ownBlock := own_ne (h.own c v hv) (.inl h.lt)
  refine ⟨?_, fun d u hu => ?_, fun d e vd ve hde hd he => ?_, h.lt⟩
  · have := (h.box.grown hg hgo).set_ c v3
    simpa using this
  · by_cases hdc : d = c
    · subst hdc
      rw [List.getElem?_set_self hclt] at hu
      injection hu with hu
      subst hu
      rw [← hl]
      exact own_set ho (by exact h.lt)
    · rw [List.getElem?_set_ne (Ne.symm hdc)] at hu
      rw [hc d hdc]
      exact own_set (World.ownsRow.kept (h.own d u hu) hg (h.sep d c u v hdc hu hv)) (by exact h.lt)
  · have fresh : ∀ (j : Nat) (u : Value), rows[j]? = some u → u.ownBlock = none ∨ u.ownBlock ≠ some w.heap.size := by
      intro j u hu
      rcases hu2 : u.ownBlock with _ | k
      · exact .inl rfl
      · have := (World.ownsRow.lt (h.own j u hu) k hu2).2
        refine .inr (fun e => ?_)
        injection e with e
        omega
    by_cases hdc : d = c
    · subst hdc
      rw [List.getElem?_set_self hclt] at hd
      injection hd with hd
      subst hd
      rw [List.getElem?_set_ne hde] at he
      rcases ha with ha | ha
      · rw [ha]; exact h.sep d e v ve hde hv he
      · rw [ha]
        refine .inr (fun e2 => ?_)
        rcases fresh e ve he with h1 | h1
        · rw [h1] at e2; cases e2
        · exact h1 e2.symm
    · rw [List.getElem?_set_ne (Ne.symm hdc)] at hd
      by_cases hec : e = c
      · subst hec
        rw [List.getElem?_set_self hclt] at he
        injection he with he
        subst he
        rcases ha with ha | ha
        · rw [ha]; exact h.sep d e vd v hde hd hv
        · rw [ha]; exact fresh d vd hd
      · rw [List.getElem?_set_ne (Ne.symm hec)] at he
        exact h.sep d e vd ve hde hd he
end
/-- The channels as they are read. -/
theorem Own2.pcm {w : World} {go base : Nat} {rows : List Value} {ch : Nat → List Int} {B : Nat} (h : Own2 w go base rows ch) (hs : ∀ d, d < rows.length → Smp (ch d)) (hB : B ≤ go) :
    ∃ xs, sndOf xs = (List.range rows.length).map ch ∧ Pcm (B ≤ ·) w (some ⟨go, 0, none⟩) rows.length xs := by
  have each : ∀ d, d < rows.length → ∃ x : Ch, rows[d]? = some x.val ∧ x.l = ch d ∧ Its .i16 (B ≤ ·) w x.A x.n x.l ∧ x.n ≤ x.c := by
    intro d hd
    have hv : rows[d]? = some rows[d] := List.getElem?_eq_getElem hd
    have ho := h.own d _ hv
    generalize rows[d] = v at hv ho
    obtain ⟨A, c, rfl, hr⟩ := own_rw (p := (B ≤ ·)) ho (fun b hb => Nat.le_trans hB (Nat.le_trans (Nat.le_of_lt h.lt) hb))
    refine ⟨⟨A, (ch d).length, c, ch d⟩, hv, rfl, ⟨rfl, fun hn => ?_⟩, ?_⟩
    · obtain ⟨b, off, hA, hpb, _, hc⟩ := hr.2 hn
      exact ⟨b, off, hA, hpb, fun j x hx => hc j _ (by rw [List.getElem?_map, hx]; rfl)⟩
    · show (ch d).length ≤ c
      rcases ho.2 with ⟨hv, hn⟩ | ⟨g, cap, cur, hv, _, _, hnc, _⟩
      · injection hv with _ _ e3; omega
      · injection hv with _ _ e3; omega
  have build : ∀ k, k ≤ rows.length → ∃ xs : List Ch, xs.length = k ∧ (∀ d, d < k → ∃ x, xs[d]? = some x ∧ rows[d]? = some x.val ∧ x.l = ch d ∧ Its .i16 (B ≤ ·) w x.A x.n x.l ∧ x.n ≤ x.c) := by
    intro k
    induction k with
    | zero => intro _; exact ⟨[], rfl, fun d hd => absurd hd (by omega)⟩
    | succ k ih =>
      intro hk
      obtain ⟨xs, hl, hxs⟩ := ih (by omega)
      obtain ⟨x, hx⟩ := each k (by omega)
      refine ⟨xs ++ [x], by simp [hl], fun d hd => ?_⟩
      by_cases hdk : d < k
      · obtain ⟨y, hy, h2⟩ := hxs d hdk
        exact ⟨y, by rw [List.getElem?_append_left (by omega)]; exact hy, h2⟩
      · obtain rfl : d = k := by omega
        exact ⟨x, by rw [List.getElem?_append_right (by omega), hl]; simp, hx⟩
  obtain ⟨xs, hl, hxs⟩ := build rows.length (Nat.le_refl _)
  refine ⟨xs, ?_, ⟨by simpa using hl, fun hn => ⟨go, 0, rfl, hB, h.box.lt, fun j x hx => ?_⟩⟩, fun x hx => ?_⟩
  · apply List.ext_getElem?
    intro d
    by_cases hd : d < rows.length
    · obtain ⟨x, hx, _, h3, _⟩ := hxs d hd
      rw [sndOf, List.getElem?_map, hx, List.getElem?_map, List.getElem?_range hd]
      simp [h3]
    · rw [List.getElem?_eq_none (by simp [sndOf]; omega), List.getElem?_eq_none (by simp; omega)]
  · rw [List.getElem?_map] at hx
    rcases hq : xs[j]? with _ | y
    · rw [hq] at hx; cases hx
    · rw [hq] at hx
      have hj : j < xs.length := (List.getElem?_eq_some_iff.1 hq).1
      obtain ⟨y', hy', h2, _⟩ := hxs j (by omega)
      rw [hq] at hy'
      injection hy' with hy'
      subst hy'
      injection hx with hx
      subst hx
      rw [Nat.zero_add]
      exact h.box.cell j (by simpa using h2)
  · obtain ⟨j, hj, rfl⟩ := List.getElem_of_mem hx
    obtain ⟨y, hy, _, h3, h4, h5⟩ := hxs j (by omega)
    rw [List.getElem?_eq_getElem hj] at hy
    injection hy with hy
    subst hy
    exact ⟨h4, by rw [h3]; exact hs j (by omega), h5⟩
/-- append onto a row of the call's own, in a region that draws. -/
theorem step_appR {P : Program} (w : World) {p : Nat → Prop} {ops : Array Oper} {o : Oper} {a : Act} {K : Act → World → Prop} {Q : Exit → Act → World → Prop} {E : Prop} (hgd : o.guard = none) (s x : Operand) (t : TypeId)
    (ho : o.op = .call { callee := .builtin .append, args := #[s, x], argTypes := #[t, t] }) (e : TypeId)
    (z : Value) (size bytes : Nat) (ht : P.underlying t = some (.slice e)) (hi : (P.info? e).map (fun i => (i.zero, i.size, i.bytes)) = some (some z, size, bytes)) (hzs : z.cells.size = size) (hsz : 0 < size) (hby : bytes ≤ 1000)
    (base : Nat) (v : Value) (n : Nat) (xs : List Value) (hs : a.eval s = v) (A : Option Addr) (m c : Nat) (news : List Value) (hx : a.eval x = .slice A m c)
    (hmid : Hid (w.ownsRow base e size v n xs ∧ Rw p w A m size news ∧ n + m ≤ 100000000 ∧ base ≤ w.heap.size ∧ ∀ u ∈ news, u.oneCell' = true))
    (h : ∀ v' w', w'.ownsRow base e size v' (n + m) (xs ++ news) → w.grownBy w' v.ownBlock → (v'.ownBlock = v.ownBlock ∨ v'.ownBlock = some w.heap.size) → K (a.put o.dst v') w') :
    if Region.wanted o (yielded ops a.tmps) = true then Oper.wp P o a w K Q else E := by
  have hw : Region.wanted o (yielded ops a.tmps) = true := by simp [Region.wanted, hgd]
  rw [if_pos hw]
  exact wp_appR w s x t ho e z size bytes ht hi hzs hsz base v n xs hs hmid.out.1 A m c news hx hmid.out.2.1 hmid.out.2.2.2.2 hmid.out.2.2.1 hby hmid.out.2.2.2.1 h
/-- The channels while channel ci of part k is at sample i. -/
def mdCh (L : List Int) (most k ci i d : Nat) : List Int := if d < ci then chanK L most d (k + 1) else if d = ci then chanK L most d k ++ partC L most d k i else chanK L most d k
theorem mdCh_start (L : List Int) (most k d : Nat) : mdCh L most k 0 0 d = chanK L most d k := by
  unfold mdCh
  rw [if_neg (by omega)]
  split
  · simp [partC]
  · rfl
theorem mdCh_end {L : List Int} {most k C d : Nat} (h : d < C) : mdCh L most k C 0 d = chanK L most d (k + 1) := by unfold mdCh; rw [if_pos h]
theorem mdCh_step (L : List Int) (most k ci i : Nat) : mdCh L most k ci i ci ++ [smp ci i (partH L most k) (partS L k)] = mdCh L most k ci (i + 1) ci := by
  unfold mdCh
  rw [if_neg (by omega), if_pos rfl, if_neg (by omega), if_pos rfl, partC_snoc, List.append_assoc]
theorem mdCh_other {L : List Int} {most k ci i j d : Nat} (h : d ≠ ci) : mdCh L most k ci j d = mdCh L most k ci i d := by
  unfold mdCh
  rw [if_neg h, if_neg h]
theorem mdCh_next (L : List Int) (most k ci d : Nat) : mdCh L most k (ci + 1) 0 d = mdCh L most k ci (partN L k) d := by
  unfold mdCh
  by_cases h1 : d < ci
  · rw [if_pos (by omega), if_pos h1]
  · by_cases h2 : d = ci
    · subst h2
      rw [if_pos (by omega), if_neg h1, if_pos rfl]
      rfl
    · rw [if_neg (by omega), if_neg h1, if_neg h2]
      split
      · simp [partC]
      · rfl
end Go.Proofs.Ytcgejbnmbamchaa
