/- Words for memory: copy of bytes into a block that is known whole. No condition. -/
import Derived.Test.YtaedpadkpclldaaWords2
import Derived.Laws.CopyOwn
namespace Go.Proofs.Ytaedpadkpclldaa
open Go.RowKit

/-- The list l with m laid over it from place o on. -/
def spl (l : List Int) (o : Nat) (m : List Int) : List Int := l.take o ++ m ++ l.drop (o + m.length)
theorem spl_len {l : List Int} {o : Nat} {m : List Int} (h : o + m.length ≤ l.length) : (spl l o m).length = l.length := by
  simp [spl]; omega
theorem spl_at {l : List Int} {o : Nat} {m : List Int} (h : o + m.length ≤ l.length) (j : Nat) :
    (spl l o m)[j]? = if j < o then l[j]? else if j < o + m.length then m[j - o]? else l[j]? := by
  unfold spl
  by_cases h1 : j < o
  · rw [if_pos h1, List.append_assoc, List.getElem?_append_left (by simp; omega), List.getElem?_take, if_pos h1]
  · rw [if_neg h1, List.append_assoc, List.getElem?_append_right (by simp; omega)]
    have e : (List.take o l).length = o := by simp; omega
    rw [e]
    by_cases h2 : j < o + m.length
    · rw [if_pos h2, List.getElem?_append_left (by omega)]
    · rw [if_neg h2, List.getElem?_append_right (by omega), List.getElem?_drop]
      congr 1
      omega
theorem spl_rng {l : List Int} {o : Nat} {m : List Int} (hl : ∀ x ∈ l, 0 ≤ x ∧ x ≤ 255) (hm : ∀ x ∈ m, 0 ≤ x ∧ x ≤ 255) : ∀ x ∈ spl l o m, 0 ≤ x ∧ x ≤ 255 := by
  intro x hx
  simp only [spl, List.mem_append] at hx
  rcases hx with (hx | hx) | hx
  · exact hl x (List.mem_of_mem_take hx)
  · exact hm x hx
  · exact hl x (List.mem_of_mem_drop hx)
theorem spl_nil {l : List Int} {o : Nat} : spl l o [] = l := by simp [spl]

section
variable {P : Program} (w : World)
theorem run_copyB {p : Nat → Prop} (t ty e : TypeId) (ht : P.underlying t = some (.slice e)) (hi : (P.info? e).map (fun i => (i.zero, i.size, i.bytes)) = some (some (.int .u8 0), 1, 1))
    (D : Option Addr) (dn dc : Nat) (A : Option Addr) (sn sc : Nat) (g off : Nat) (l : List Int) (hB : Bk w e g l) (news : List Int) (hr : Byt p w A sn news)
    (hD : 0 < dn → D = some ⟨g, off, none⟩) (hfit : off + dn ≤ l.length) :
    ∃ w', (Builtin.copy_ #[t, t] ty #[.slice D dn dc, .slice A sn sc]).run P w = .ok (.int .i64 ((min sn dn : Nat) : Int)) w' ∧ Bk w' e g (spl l off (news.take dn)) ∧ w.grownBy w' (some g) := by
  obtain ⟨i, hi', hz, hs, hb⟩ := info_parts hi
  have hsz : (P.info? e).map (·.size) = some 1 := by rw [hi']; simp [hs]
  by_cases h0 : Nat.min sn dn = 0
  · have hrun := run_copy_none (P := P) w t t ty e D A dn dc sn sc ht hsz h0
    refine ⟨w, ?_, ?_, World.grownBy.refl w _⟩
    · rw [hrun]
      have : min sn dn = 0 := h0
      rw [this]
      rfl
    · have : news.take dn = [] := by
        apply List.eq_nil_of_length_eq_zero
        have h0' : min sn dn = 0 := h0
        rw [List.length_take, hr.1]
        omega
      rw [this, spl_nil]
      exact hB
  · have h0' : ¬ min sn dn = 0 := h0
    obtain rfl := hD (by omega)
    obtain ⟨b, o, rfl, _, _, hc⟩ := hr.addr (by omega)
    have hlen : (news.take dn).length = min sn dn := by rw [List.length_take, hr.1]; omega
    have hsrc : ∀ j v, ((news.take dn).map (Value.int .u8))[j]? = some v → w.cell? ((⟨b, o, none⟩ : Addr).add j) = some v := by
      intro j v hv
      rw [List.getElem?_map] at hv
      rcases hx : (news.take dn)[j]? with _ | x <;> simp [hx] at hv
      subst hv
      have hadd : (⟨b, o, none⟩ : Addr).add j = ⟨b, o + j, none⟩ := by unfold Addr.add; split <;> simp_all
      rw [hadd]
      rw [List.getElem?_take] at hx
      split at hx
      · exact hc j x hx
      · cases hx
    have hrun := run_copy_row (P := P) w t t ty e g off dn dc ⟨b, o, none⟩ sn sc (l.map (Value.int .u8)).toArray e ((news.take dn).map (Value.int .u8)) ht hsz hB (by rw [List.length_map, hlen]) hsrc (by simp; omega)
      (by intro u hu; obtain ⟨x, _, rfl⟩ := List.mem_map.1 hu; rfl)
    refine ⟨w.setRow g ((l.map (Value.int .u8)).toArray.toList.take off ++ (news.take dn).map (Value.int .u8) ++ (l.map (Value.int .u8)).toArray.toList.drop (off + ((news.take dn).map (Value.int .u8)).length)).toArray, ?_, ?_, ?_⟩
    · rw [hrun, List.length_map, hlen]
      rfl
    · have := setRow_heap w g _ ((l.map (Value.int .u8)).toArray.toList.take off ++ (news.take dn).map (Value.int .u8) ++ (l.map (Value.int .u8)).toArray.toList.drop (off + ((news.take dn).map (Value.int .u8)).length)).toArray e _ hB
      unfold Bk
      rw [this]
      simp [spl]
    · exact ⟨rfl, rfl, rfl, by simp, fun k _ hk => setRow_other w g k _ (fun e => hk (by rw [e]))⟩

theorem wp_copyB {p : Nat → Prop} {o : Oper} {a : Act} {K : Act → World → Prop} {Q : Exit → Act → World → Prop} (d s : Operand) (t : TypeId)
    (ho : o.op = .call { callee := .builtin .copy, args := #[d, s], argTypes := #[t, t] }) (e : TypeId) (ht : P.underlying t = some (.slice e)) (hi : (P.info? e).map (fun i => (i.zero, i.size, i.bytes)) = some (some (.int .u8 0), 1, 1))
    (D : Option Addr) (dn dc : Nat) (A : Option Addr) (sn sc : Nat) (hd : a.eval d = .slice D dn dc) (hs : a.eval s = .slice A sn sc) (g off : Nat) (l : List Int) (hB : Bk w e g l) (news : List Int) (hr : Byt p w A sn news)
    (hD : 0 < dn → D = some ⟨g, off, none⟩) (hfit : off + dn ≤ l.length)
    (h : ∀ w', Bk w' e g (spl l off (news.take dn)) → w.grownBy w' (some g) → K (a.put o.dst (.int .i64 ((min sn dn : Nat) : Int))) w') : o.wp P a w K Q := by
  obtain ⟨w', hrun, h2, h3⟩ := run_copyB (P := P) w t o.type e ht hi D dn dc A sn sc g off l hB news hr hD hfit
  unfold Oper.wp execOp
  simp only [ho, resolve, invoke, builtin, Sem.run_bind, Sem.run_pure, Result.andThen_ok, List.map_toArray, List.map_cons, List.map_nil, hd, hs, hrun]
  exact h w' h2 h3
theorem wpList_copyB {p : Nat → Prop} {ops : Array Oper} {rest : List Oper} {o : Oper} {a : Act} {Q : Exit → Act → World → Prop} (hgd : o.guard = none) (d s : Operand) (t : TypeId)
    (ho : o.op = .call { callee := .builtin .copy, args := #[d, s], argTypes := #[t, t] }) (e : TypeId) (ht : P.underlying t = some (.slice e)) (hi : (P.info? e).map (fun i => (i.zero, i.size, i.bytes)) = some (some (.int .u8 0), 1, 1))
    (D : Option Addr) (dn dc : Nat) (A : Option Addr) (sn sc : Nat) (hd : a.eval d = .slice D dn dc) (hs : a.eval s = .slice A sn sc) (g off : Nat) (l : List Int) (hB : Bk w e g l) (news : List Int) (hr : Byt p w A sn news)
    (hD : 0 < dn → D = some ⟨g, off, none⟩) (hfit : off + dn ≤ l.length)
    (h : ∀ w', Bk w' e g (spl l off (news.take dn)) → w.grownBy w' (some g) → wpList P ops Q rest (a.put o.dst (.int .i64 ((min sn dn : Nat) : Int))) w') : wpList P ops Q (o :: rest) a w :=
  wpList_plain hgd fun _ hK => wp_copyB w d s t ho e ht hi D dn dc A sn sc hd hs g off l hB news hr hD hfit fun w' h2 h3 => hK _ _ (h w' h2 h3)
theorem step_copyB {p : Nat → Prop} {ops : Array Oper} {o : Oper} {a : Act} {K : Act → World → Prop} {Q : Exit → Act → World → Prop} {E : Prop} (hgd : o.guard = none) (d s : Operand) (t : TypeId)
    (ho : o.op = .call { callee := .builtin .copy, args := #[d, s], argTypes := #[t, t] }) (e : TypeId) (ht : P.underlying t = some (.slice e)) (hi : (P.info? e).map (fun i => (i.zero, i.size, i.bytes)) = some (some (.int .u8 0), 1, 1))
    (D : Option Addr) (dn dc : Nat) (A : Option Addr) (sn sc : Nat) (hd : a.eval d = .slice D dn dc) (hs : a.eval s = .slice A sn sc) (g off : Nat) (l : List Int) (hB : Bk w e g l) (news : List Int) (hr : Byt p w A sn news)
    (hD : 0 < dn → D = some ⟨g, off, none⟩) (hfit : off + dn ≤ l.length)
    (h : ∀ w', Bk w' e g (spl l off (news.take dn)) → w.grownBy w' (some g) → K (a.put o.dst (.int .i64 ((min sn dn : Nat) : Int))) w') :
    if Region.wanted o (yielded ops a.tmps) = true then Oper.wp P o a w K Q else E := by
  have hw : Region.wanted o (yielded ops a.tmps) = true := by simp [Region.wanted, hgd]
  rw [if_pos hw]
  exact wp_copyB w d s t ho e ht hi D dn dc A sn sc hd hs g off l hB news hr hD hfit h
end
theorem Byt.grown {p : Nat → Prop} {w w' : World} {A : Option Addr} {n : Nat} {l : List Int} {row : Option Nat} (h : Byt p w A n l) (hg : w.grownBy w' row) (hne : ∀ b, p b → b < w.heap.size → some b ≠ row) : Byt p w' A n l :=
  h.keep fun b hb hlt => hg.block b hlt (hne b hb hlt)
theorem Bk.grown {w w' : World} {e : TypeId} {g : Nat} {l : List Int} {row : Option Nat} (h : Bk w e g l) (hg : w.grownBy w' row) (hne : some g ≠ row) : Bk w' e g l := h.keep (hg.block g h.lt hne)
theorem Byt.one' (w : World) (e : TypeId) (x : Int) (k : Nat) (hk : k = w.heap.size) (h0 : 0 ≤ x) (h1 : x ≤ 255) : Byt (fun _ => True) (w.alloc (.cells #[.int .u8 x] e)) (some ⟨k, 0, none⟩) 1 [x] := by
  subst hk; exact Byt.one w e x h0 h1
/-- A slice of a known block. -/
theorem Bk.sub {p : Nat → Prop} {w : World} {e : TypeId} {g o n : Nat} {l : List Int} (h : Bk w e g l) (hp : p g) (hn : o + n ≤ l.length) (hr : ∀ x ∈ l, 0 ≤ x ∧ x ≤ 255) : Byt p w (some ⟨g, o, none⟩) n ((l.drop o).take n) := by
  refine ⟨by simp; omega, fun x hx => hr x (List.mem_of_mem_drop (List.mem_of_mem_take hx)), fun _ => ⟨g, o, rfl, hp, fun j x hx => ?_⟩⟩
  rw [List.getElem?_take] at hx
  split at hx
  · rw [List.getElem?_drop] at hx
    rw [h.cell, hx]; rfl
  · cases hx
/-- A slice of a slice. -/
theorem Byt.sub {p : Nat → Prop} {w : World} {b o k n m : Nat} {l : List Int} (h : Byt p w (some ⟨b, o, none⟩) n l) (hn : k + m ≤ n) : Byt p w (some ⟨b, o + k, none⟩) m ((l.drop k).take m) := by
  have hlen := h.1
  refine ⟨by simp; omega, fun x hx => h.2.1 x (List.mem_of_mem_drop (List.mem_of_mem_take hx)), fun hm => ?_⟩
  obtain ⟨b', o', e, hp, hc⟩ := h.2.2 (by omega)
  cases e
  refine ⟨b, o + k, rfl, hp, fun j x hx => ?_⟩
  rw [List.getElem?_take] at hx
  split at hx
  · rw [List.getElem?_drop] at hx
    have := hc (k + j) x hx
    rwa [← Nat.add_assoc] at this
  · cases hx
end Go.Proofs.Ytaedpadkpclldaa
