/- Words for rows of cells: a slice of whatever elements, that came in or is the call's own. No condition. -/
import Derived.Test.YtdnchjmopkhnaaaWords2
namespace Go.Proofs.Ytdnchjmopkhnaaa
open Go.RowKit

/-- The slice (A, n) of elements of size cells reads as the cells xs; its block (if there is an element) meets p. -/
def Rw (p : Nat → Prop) (w : World) (A : Option Addr) (n size : Nat) (xs : List Value) : Prop :=
  xs.length = n * size ∧ (0 < n → ∃ b off, A = some ⟨b, off, none⟩ ∧ p b ∧ b < w.heap.size ∧ ∀ j x, xs[j]? = some x → w.cell? ⟨b, off + j, none⟩ = some x)

section
variable {p q : Nat → Prop} {w w' : World} {A : Option Addr} {n size : Nat} {xs : List Value}
theorem Rw.len (h : Rw p w A n size xs) : xs.length = n * size := h.1
theorem Rw.nil : Rw p w A 0 size [] := ⟨by simp, fun h => absurd h (by omega)⟩
theorem Rw.addr (h : Rw p w A n size xs) (hk : 0 < n) : ∃ b off, A = some ⟨b, off, none⟩ ∧ p b ∧ b < w.heap.size ∧ ∀ j x, xs[j]? = some x → w.cell? ⟨b, off + j, none⟩ = some x := h.2 hk
theorem Rw.keep (h : Rw p w A n size xs) (hs : w.heap.size ≤ w'.heap.size) (hk : ∀ b, p b → b < w.heap.size → w'.heap[b]? = w.heap[b]?) : Rw p w' A n size xs := by
  refine ⟨h.1, fun hn => ?_⟩
  obtain ⟨b, off, hA, hp, hb, hc⟩ := h.2 hn
  exact ⟨b, off, hA, hp, by omega, fun j x hx => (World.cell?_of_block (hk b hp hb)).trans (hc j x hx)⟩
theorem Rw.mono (h : Rw p w A n size xs) (hpq : ∀ b, b < w.heap.size → p b → q b) : Rw q w A n size xs := by
  refine ⟨h.1, fun hn => ?_⟩
  obtain ⟨b, off, hA, hp, hb, hc⟩ := h.2 hn
  exact ⟨b, off, hA, hpq b hb hp, hb, hc⟩
theorem Rw.ext (h : Rw p w A n size xs) (hb : Below w.heap.size w w') : Rw p w' A n size xs := h.keep hb.size fun b _ hlt => hb.block b hlt
theorem Rw.below {B : Nat} (h : Rw p w A n size xs) (hb : Below B w w') (hp : ∀ b, b < w.heap.size → p b → b < B) : Rw p w' A n size xs := h.keep hb.size fun b hpb hlt => hb.block b (hp b hlt hpb)
theorem Rw.grown {row : Option Nat} (h : Rw p w A n size xs) (hg : w.grownBy w' row) (hp : ∀ b, p b → some b ≠ row) : Rw p w' A n size xs := h.keep hg.size fun b hpb hlt => hg.block b hlt (hp b hpb)
theorem Rw.drew (h : Rw p w A n size xs) : Rw p w.drew A n size xs := h
theorem Rw.drewN (h : Rw p w A n size xs) (k : Nat) : Rw p (w.drewN k) A n size xs := h
theorem Rw.alloc (h : Rw p w A n size xs) (o : Obj) : Rw p (w.alloc o) A n size xs := h.keep (by simp) fun b _ hlt => Below.heap_alloc w o b hlt
theorem Rw.setCell (h : Rw p w A n size xs) {a : Addr} (ha : ¬ p a.block) (u : Value) : Rw p (w.setCell a u) A n size xs :=
  h.keep (by simp [World.setCell]) fun b hpb _ => Below.heap_setCell w a u b (fun e => ha (e ▸ hpb))
theorem Byt.rw_ {l : List Int} (h : Byt p w A n l) : Rw p w A n 1 (l.map (Value.int .u8)) := by
  refine ⟨by simp [h.len], fun hn => ?_⟩
  obtain ⟨b, off, hA, hp, hb, hc⟩ := h.addr hn
  refine ⟨b, off, hA, hp, hb, fun j x hx => ?_⟩
  rw [List.getElem?_map] at hx
  rcases hl : l[j]? with _ | y <;> simp [hl] at hx
  subst hx
  exact hc j y hl
theorem Rw.byt {l : List Int} (h : Rw p w A n 1 (l.map (Value.int .u8))) (hr : ∀ x ∈ l, 0 ≤ x ∧ x ≤ 255) : Byt p w A n l := by
  refine ⟨by simpa using h.1, hr, fun hn => ?_⟩
  obtain ⟨b, off, hA, hp, hb, hc⟩ := h.2 hn
  exact ⟨b, off, hA, hp, fun j x hx => hc j _ (by rw [List.getElem?_map, hx]; rfl)⟩
theorem Byt.grown {row : Option Nat} {l : List Int} (h : Byt p w A n l) (hg : w.grownBy w' row) (hp : ∀ b, p b → some b ≠ row) : Byt p w' A n l := h.keep fun b hpb hlt => hg.block b hlt (hp b hpb)
end

section
variable {w w' : World} {base : Nat} {e : TypeId} {size n : Nat} {v : Value} {xs : List Value}
theorem own_slice (h : w.ownsRow base e size v n xs) : ∃ A c, v = .slice A n c := by
  rcases h.2 with ⟨rfl, hn⟩ | ⟨g, cap, cur, rfl, _⟩
  · exact ⟨none, 0, by rw [hn]⟩
  · exact ⟨_, _, rfl⟩
theorem own_rw {p : Nat → Prop} (h : w.ownsRow base e size v n xs) (hp : ∀ b, base ≤ b → p b) : ∃ A c, v = .slice A n c ∧ Rw p w A n size xs := by
  have h0 := h
  rcases h.2 with ⟨rfl, hn⟩ | ⟨g, cap, cur, rfl, hg, hh, hnc, _, hcs, htake⟩
  · subst hn
    exact ⟨none, 0, rfl, h.1, fun h => absurd h (by omega)⟩
  · refine ⟨some ⟨g, 0, none⟩, cap, rfl, h.1, fun _ => ⟨g, 0, rfl, hp g hg, (Array.getElem?_eq_some_iff.1 hh).1, fun j x hx => ?_⟩⟩
    have := World.ownsRow.cells h0 (g := g) rfl j x hx
    have hadd : (⟨g, 0, none⟩ : Addr).add j = ⟨g, 0 + j, none⟩ := by unfold Addr.add; split <;> simp_all
    rwa [hadd] at this
theorem own_ext (h : w.ownsRow base e size v n xs) (hb : Below w.heap.size w w') : w'.ownsRow base e size v n xs :=
  World.ownsRow.kept h (row := none) ⟨hb.os, hb.tape, hb.output, hb.size, fun k hk _ => hb.block k hk⟩ (by cases v.ownBlock <;> simp)
theorem own_set {a : Addr} {u : Value} (h : w.ownsRow base e size v n xs) (ha : a.block < base) : (w.setCell a u).ownsRow base e size v n xs :=
  World.ownsRow.kept h (row := some a.block) ⟨rfl, rfl, rfl, by simp [World.setCell], fun k _ hne => Below.heap_setCell w a u k (fun e => hne (by rw [e]))⟩ (by
    rcases hv : v.ownBlock with _ | k
    · exact .inl rfl
    · have := (World.ownsRow.lt h k hv).1
      refine .inr (fun e => ?_)
      injection e with e
      omega)
theorem own_sep {base' : Nat} {e' : TypeId} {size' n' : Nat} {v' : Value} {xs' : List Value} (h : w.ownsRow base e size v n xs) (h' : w.ownsRow base' e' size' v' n' xs') (hne : e ≠ e') : v.ownBlock = none ∨ v.ownBlock ≠ v'.ownBlock := by
  rcases h.2 with ⟨rfl, _⟩ | ⟨g, cap, cur, rfl, hg, hh, _⟩
  · exact .inl rfl
  · right
    rcases h'.2 with ⟨rfl, _⟩ | ⟨g', cap', cur', rfl, hg', hh', _⟩
    · simp [Value.ownBlock]
    · intro hc
      simp [Value.ownBlock] at hc
      subst hc
      rw [hh] at hh'
      injection hh' with hh'
      injection hh' with _ ht
      exact hne ht
/-- A slice of known values written out in a new block. -/
theorem Rw.lit {p : Nat → Prop} (w : World) (e : TypeId) (xs : List Value) {cs : Array Value} (hc : cs = xs.toArray) (n size : Nat) (hn : xs.length = n * size) {g : Nat} (hg : g = w.heap.size) (hp : p g) :
    Rw p (w.alloc (.cells cs e)) (some ⟨g, 0, none⟩) n size xs := by
  subst hc hg
  have hb : Bx (w.alloc (.cells xs.toArray e)) w.heap.size e xs.toArray := Bx.new w e _
  exact ⟨hn, fun _ => ⟨w.heap.size, 0, rfl, hp, hb.lt, fun j x hx => hb.cell _ (by simpa using hx)⟩⟩
end

section
variable {P : Program} (w : World)
/-- append onto a row of the call's own; the source may be nil. -/
theorem run_appR {p : Nat → Prop} (t ty e : TypeId) (z : Value) (size bytes : Nat) (ht : P.underlying t = some (.slice e)) (hi : (P.info? e).map (fun i => (i.zero, i.size, i.bytes)) = some (some z, size, bytes)) (hzs : z.cells.size = size) (hsz : 0 < size)
    (base : Nat) (v : Value) (n : Nat) (xs : List Value) (hown : w.ownsRow base e size v n xs) (A : Option Addr) (m c : Nat) (news : List Value) (hr : Rw p w A m size news) (h1 : ∀ u ∈ news, u.oneCell' = true)
    (hlen : n + m ≤ 100000000) (hby : bytes ≤ 1000) (hbase : base ≤ w.heap.size) :
    ∃ v' w', (Builtin.append_ #[t, t] ty #[v, .slice A m c]).run P w = .ok v' w' ∧ w'.ownsRow base e size v' (n + m) (xs ++ news) ∧ w.grownBy w' v.ownBlock ∧ (v'.ownBlock = v.ownBlock ∨ v'.ownBlock = some w.heap.size) := by
  obtain ⟨i, hi', hz, hs, hb⟩ := info_parts hi
  rcases Nat.eq_zero_or_pos m with hm | hm
  · subst hm
    have hn : news = [] := List.eq_nil_of_length_eq_zero (by rw [hr.1]; simp)
    subst hn
    refine ⟨v, w, ?_, by simpa using hown, World.grownBy.refl w _, .inl rfl⟩
    rcases A with _ | ad
    · rcases hown.2 with ⟨rfl, _⟩ | ⟨g, cap, cur, rfl, _, _, hnc, _⟩
      · simp [Builtin.append_, run_underlying ht, sizeOf, typeInfo, hi', Builtin.lenOf, Builtin.firstCells]
      · simp [Builtin.append_, run_underlying ht, sizeOf, typeInfo, hi', Builtin.lenOf, Builtin.firstCells, hnc, storeCells]
    · rcases hown.2 with ⟨rfl, _⟩ | ⟨g, cap, cur, rfl, _, _, hnc, _⟩
      · simp [Builtin.append_, run_underlying ht, sizeOf, typeInfo, hi', Builtin.lenOf, Builtin.firstCells, loadCells, loadCellsFrom]
      · simp [Builtin.append_, run_underlying ht, sizeOf, typeInfo, hi', Builtin.lenOf, Builtin.firstCells, hnc, storeCells, loadCells, loadCellsFrom]
  · obtain ⟨b, off, rfl, _, _, hc⟩ := hr.addr hm
    have hcells : ∀ j u, news[j]? = some u → w.cell? ((⟨b, off, none⟩ : Addr).add j) = some u := by
      intro j u hu
      have hadd : (⟨b, off, none⟩ : Addr).add j = ⟨b, off + j, none⟩ := by unfold Addr.add; split <;> simp_all
      rw [hadd]
      exact hc j u hu
    have hmul : (n + m) * bytes ≤ 100000000 * 1000 := Nat.mul_le_mul hlen hby
    obtain ⟨v', w', hrun, h2, h3, _, h5⟩ := run_append_own_at (P := P) w base t ty e i z size bytes ht hi' hz hs hb hzs hsz v n xs hown ⟨b, off, none⟩ m c
      news hr.1 hcells h1 (by simp only [maxLen]; omega) (by omega) hbase
    exact ⟨v', w', hrun, h2, h3, h5⟩

theorem wp_appR {p : Nat → Prop} {o : Oper} {a : Act} {K : Act → World → Prop} {Q : Exit → Act → World → Prop} (s x : Operand) (t : TypeId)
    (ho : o.op = .call { callee := .builtin .append, args := #[s, x], argTypes := #[t, t] }) (e : TypeId)
    (z : Value) (size bytes : Nat) (ht : P.underlying t = some (.slice e)) (hi : (P.info? e).map (fun i => (i.zero, i.size, i.bytes)) = some (some z, size, bytes)) (hzs : z.cells.size = size) (hsz : 0 < size)
    (base : Nat) (v : Value) (n : Nat) (xs : List Value) (hs : a.eval s = v) (hown : w.ownsRow base e size v n xs) (A : Option Addr) (m c : Nat) (news : List Value) (hx : a.eval x = .slice A m c) (hr : Rw p w A m size news) (h1 : ∀ u ∈ news, u.oneCell' = true)
    (hlen : n + m ≤ 100000000) (hby : bytes ≤ 1000) (hbase : base ≤ w.heap.size)
    (h : ∀ v' w', w'.ownsRow base e size v' (n + m) (xs ++ news) → w.grownBy w' v.ownBlock → (v'.ownBlock = v.ownBlock ∨ v'.ownBlock = some w.heap.size) → K (a.put o.dst v') w') : o.wp P a w K Q := by
  obtain ⟨v', w', hrun, h2, h3, h4⟩ := run_appR (P := P) w t o.type e z size bytes ht hi hzs hsz base v n xs hown A m c news hr h1 hlen hby hbase
  unfold Oper.wp execOp
  simp only [ho, resolve, invoke, builtin, Sem.run_bind, Sem.run_pure, Result.andThen_ok, List.map_toArray, List.map_cons, List.map_nil, hs, hx, hrun]
  exact h v' w' h2 h3 h4

theorem wpList_appR {p : Nat → Prop} {ops : Array Oper} {rest : List Oper} {o : Oper} {a : Act} {Q : Exit → Act → World → Prop} (hgd : o.guard = none) (s x : Operand) (t : TypeId)
    (ho : o.op = .call { callee := .builtin .append, args := #[s, x], argTypes := #[t, t] }) (e : TypeId)
    (z : Value) (size bytes : Nat) (ht : P.underlying t = some (.slice e)) (hi : (P.info? e).map (fun i => (i.zero, i.size, i.bytes)) = some (some z, size, bytes)) (hzs : z.cells.size = size) (hsz : 0 < size)
    (base : Nat) (v : Value) (n : Nat) (xs : List Value) (hs : a.eval s = v) (hown : w.ownsRow base e size v n xs) (A : Option Addr) (m c : Nat) (news : List Value) (hx : a.eval x = .slice A m c) (hr : Rw p w A m size news) (h1 : ∀ u ∈ news, u.oneCell' = true)
    (hlen : n + m ≤ 100000000) (hby : bytes ≤ 1000) (hbase : base ≤ w.heap.size)
    (h : ∀ v' w', w'.ownsRow base e size v' (n + m) (xs ++ news) → w.grownBy w' v.ownBlock → (v'.ownBlock = v.ownBlock ∨ v'.ownBlock = some w.heap.size) → wpList P ops Q rest (a.put o.dst v') w') : wpList P ops Q (o :: rest) a w :=
  wpList_plain hgd fun _ hK => wp_appR w s x t ho e z size bytes ht hi hzs hsz base v n xs hs hown A m c news hx hr h1 hlen hby hbase fun v' w' h2 h3 h4 => hK _ _ (h v' w' h2 h3 h4)
end

theorem own_ne {w : World} {base : Nat} {e : TypeId} {size n g : Nat} {v : Value} {xs : List Value} (h : w.ownsRow base e size v n xs) (hg : g < base ∨ w.heap.size ≤ g) : some g ≠ v.ownBlock := by
  intro e
  have := World.ownsRow.lt h g e.symm
  omega

end Go.Proofs.Ytdnchjmopkhnaaa
