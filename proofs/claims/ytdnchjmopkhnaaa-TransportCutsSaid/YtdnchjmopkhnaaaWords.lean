/- Words for memory: a slice of bytes that reads as a list of numbers, and a block of bytes that is known whole. No condition. -/
import Derived.WalkKit
import Derived.WalkSpells
import Derived.WalkLawsBesides
import Derived.BigGuardPart
import Derived.Deep.QuietTactic
import Derived.BigQuiet
import Derived.Deep.RegionHeld3
import Derived.Deep.DeepCutAuto
import Derived.Deep.AppendLies
import Derived.Maps.AppendAt
import Derived.Lib.Hide
namespace Go.Proofs.Ytdnchjmopkhnaaa
open Go.RowKit

/-- The slice value (A, n) reads as the bytes l; its block (if there is an element) meets p. -/
def Byt (p : Nat → Prop) (w : World) (A : Option Addr) (n : Nat) (l : List Int) : Prop :=
  l.length = n ∧ (∀ x ∈ l, 0 ≤ x ∧ x ≤ 255) ∧
    (0 < n → ∃ b off, A = some ⟨b, off, none⟩ ∧ p b ∧ ∀ j x, l[j]? = some x → w.cell? ⟨b, off + j, none⟩ = some (.int .u8 x))

theorem blk_lt {w : World} {b o : Nat} {v : Value} (h : w.cell? ⟨b, o, none⟩ = some v) : b < w.heap.size := World.block_lt_of_cell? w ⟨b, o, none⟩ h

section
variable {p q : Nat → Prop} {w w' : World} {A : Option Addr} {n : Nat} {l : List Int}
theorem Byt.len (h : Byt p w A n l) : l.length = n := h.1
theorem Byt.rng (h : Byt p w A n l) : ∀ x ∈ l, 0 ≤ x ∧ x ≤ 255 := h.2.1
theorem Byt.nil : Byt p w A 0 [] := ⟨rfl, by simp, fun h => absurd h (by omega)⟩
theorem Byt.at_ {k : Nat} (h : Byt p w A n l) (hk : k < n) :
    ∃ b off x, A = some ⟨b, off, none⟩ ∧ p b ∧ b < w.heap.size ∧ l[k]? = some x ∧ 0 ≤ x ∧ x ≤ 255 ∧ w.cell? ⟨b, off + k, none⟩ = some (.int .u8 x) := by
  obtain ⟨b, off, hA, hp, hc⟩ := h.2.2 (by omega)
  have hl : k < l.length := by rw [h.1]; exact hk
  have hx : l[k]? = some l[k] := List.getElem?_eq_getElem hl
  have hcell := hc k _ hx
  have hr := h.2.1 l[k] (List.getElem_mem hl)
  exact ⟨b, off, l[k], hA, hp, blk_lt hcell, hx, hr.1, hr.2, hcell⟩
theorem Byt.addr (h : Byt p w A n l) (hk : 0 < n) :
    ∃ b off, A = some ⟨b, off, none⟩ ∧ p b ∧ b < w.heap.size ∧ ∀ j x, l[j]? = some x → w.cell? ⟨b, off + j, none⟩ = some (.int .u8 x) := by
  obtain ⟨b, off, x, hA, hp, hb, _⟩ := h.at_ hk
  obtain ⟨b', off', hA', hp', hc⟩ := h.2.2 hk
  rw [hA] at hA'
  injection hA' with hA'
  injection hA' with h1 h2
  subst h1; subst h2
  exact ⟨b, off, hA, hp, hb, hc⟩
theorem Byt.keep (h : Byt p w A n l) (hk : ∀ b, p b → b < w.heap.size → w'.heap[b]? = w.heap[b]?) : Byt p w' A n l := by
  refine ⟨h.1, h.2.1, fun hn => ?_⟩
  obtain ⟨b, off, hA, hp, hb, hc⟩ := h.addr hn
  exact ⟨b, off, hA, hp, fun j x hx => (World.cell?_of_block (hk b hp hb)).trans (hc j x hx)⟩
theorem Byt.mono (h : Byt p w A n l) (hpq : ∀ b, b < w.heap.size → p b → q b) : Byt q w A n l := by
  refine ⟨h.1, h.2.1, fun hn => ?_⟩
  obtain ⟨b, off, hA, hp, hb, hc⟩ := h.addr hn
  exact ⟨b, off, hA, hpq b hb hp, hc⟩
theorem Byt.ext (h : Byt p w A n l) (hb : Below w.heap.size w w') : Byt p w' A n l := h.keep fun b _ hlt => hb.block b hlt
theorem Byt.below {B : Nat} (h : Byt p w A n l) (hb : Below B w w') (hp : ∀ b, b < w.heap.size → p b → b < B) : Byt p w' A n l := h.keep fun b hpb hlt => hb.block b (hp b hlt hpb)
theorem Byt.drew (h : Byt p w A n l) : Byt p w.drew A n l := h
theorem Byt.drewN (h : Byt p w A n l) (k : Nat) : Byt p (w.drewN k) A n l := h
theorem Byt.alloc (h : Byt p w A n l) (o : Obj) : Byt p (w.alloc o) A n l := h.keep fun b _ hlt => Below.heap_alloc w o b hlt
theorem Byt.setCell (h : Byt p w A n l) {a : Addr} (ha : ¬ p a.block) (u : Value) : Byt p (w.setCell a u) A n l :=
  h.keep fun b hpb _ => Below.heap_setCell w a u b (fun e => ha (e ▸ hpb))
end

/-- Block g is just the bytes l, of element type e, none frozen. -/
def Bk (w : World) (e : TypeId) (g : Nat) (l : List Int) : Prop := w.heap[g]? = some (.cells (l.map (Value.int .u8)).toArray e (0, 0))

section
variable {w w' : World} {g : Nat} {e : TypeId} {l : List Int}
theorem Bk.lt (h : Bk w e g l) : g < w.heap.size := by
  rcases Nat.lt_or_ge g w.heap.size with hlt | hge
  · exact hlt
  · unfold Bk at h; rw [Array.getElem?_eq_none hge] at h; cases h
theorem Bk.cell (h : Bk w e g l) (i : Nat) : w.cell? ⟨g, i, none⟩ = (l[i]?).map (Value.int .u8) := by
  unfold Bk at h
  simp [World.cell?, h]
theorem Bk.cell_some (h : Bk w e g l) {i : Nat} (hi : i < l.length) : ∃ x, l[i]? = some x ∧ w.cell? ⟨g, i, none⟩ = some (.int .u8 x) :=
  ⟨l[i], List.getElem?_eq_getElem hi, by rw [h.cell, List.getElem?_eq_getElem hi]; rfl⟩
theorem Bk.frozen (h : Bk w e g l) (i : Nat) : w.frozen? ⟨g, i, none⟩ = false := by
  unfold Bk at h
  simp [World.frozen?, h]
theorem Bk.keep (h : Bk w e g l) (hk : w'.heap[g]? = w.heap[g]?) : Bk w' e g l := hk.trans h
theorem Bk.drew (h : Bk w e g l) : Bk w.drew e g l := h
theorem Bk.alloc (h : Bk w e g l) (o : Obj) : Bk (w.alloc o) e g l := h.keep (Below.heap_alloc w o g h.lt)
theorem Bk.set_ (h : Bk w e g l) (i : Nat) (x : Int) : Bk (w.setCell ⟨g, i, none⟩ (.int .u8 x)) e g (l.set i x) := by
  unfold Bk at h ⊢
  simp [World.setCell, Array.getElem?_modify, h]
theorem Bk.far (h : Bk w e g l) {a : Addr} (ha : g ≠ a.block) (u : Value) : Bk (w.setCell a u) e g l := h.keep (Below.heap_setCell w a u g ha)
theorem Bk.below {B : Nat} (h : Bk w e g l) (hb : Below B w w') (hg : g < B) : Bk w' e g l := h.keep (hb.block g hg)
theorem Bk.ext (h : Bk w e g l) (hb : Below w.heap.size w w') : Bk w' e g l := h.keep (hb.block g h.lt)
theorem Bk.byt {p : Nat → Prop} (h : Bk w e g l) (hp : p g) (hr : ∀ x ∈ l, 0 ≤ x ∧ x ≤ 255) : Byt p w (some ⟨g, 0, none⟩) l.length l :=
  ⟨rfl, hr, fun _ => ⟨g, 0, rfl, hp, fun j x hx => by rw [h.cell, Nat.zero_add, hx]; rfl⟩⟩
end

theorem set_upto {n k j : Nat} {l m : List Int} {x : Int} (hl : l.length = n) (hk : k < n) (hd : ∀ j, j < k → l[j]? = m[j]?) (hx : m[k]? = some x) (hj : j < k + 1) : (l.set k x)[j]? = m[j]? := by
  rw [List.getElem?_set]
  by_cases h : k = j
  · subst h; rw [if_pos rfl, if_pos (by omega), hx]
  · rw [if_neg h]; exact hd j (by omega)
theorem all_upto {n : Nat} {l m : List Int} (hl : l.length = n) (hm : m.length = n) (hd : ∀ j, j < n → l[j]? = m[j]?) : l = m := by
  apply List.ext_getElem?
  intro j
  by_cases h : j < n
  · exact hd j h
  · rw [List.getElem?_eq_none (by omega), List.getElem?_eq_none (by omega)]

theorem take_snoc_at {α : Type} {l : List α} {k : Nat} {x : α} (h : l[k]? = some x) : l.take (k + 1) = l.take k ++ [x] := by
  obtain ⟨hk, rfl⟩ := List.getElem?_eq_some_iff.1 h
  rw [List.take_succ_eq_append_getElem hk]
theorem u8_in {x : Int} (h0 : 0 ≤ x) (h1 : x ≤ 255) : IntKind.u8.wrap x = x := by
  simp [IntKind.wrap, IntKind.signed, IntKind.bits]; omega

/-- A new block of n zero bytes. -/
def zeroB (e : TypeId) (n : Nat) : Obj := .cells ((List.replicate n (0 : Int)).map (Value.int .u8)).toArray e (0, 0)
theorem Bk.made (w : World) (e : TypeId) (n : Nat) : Bk (w.alloc (zeroB e n)) e w.heap.size (List.replicate n 0) := heap_alloc_new w _
theorem Bk.made' (w : World) (e : TypeId) (n g : Nat) (hg : g = w.heap.size) : Bk (w.alloc (zeroB e n)) e g (List.replicate n 0) := by subst hg; exact Bk.made w e n
section
variable {P : Program} {t e : TypeId}
theorem run_mkB (ht : P.underlying t = some (.slice e)) (hi : (P.info? e).map (fun i => (i.zero, i.size, i.bytes)) = some (some (.int .u8 0), 1, 1))
    (x c : Int) (h0 : 0 ≤ x) (hxc : x ≤ c) (hc : c ≤ 100000000) (w : World) :
    (Instr.makeSlice t (.int .i64 x) (.int .i64 c)).run P w = .ok (.slice (some ⟨w.heap.size, 0, none⟩) x.toNat c.toNat) (w.alloc (zeroB e c.toNat)) := by
  obtain ⟨i, hi', hz, hs, hb⟩ := info_parts hi
  have hr := run_make (P := P) w t e i (.int .u8 0) ht hi' hz .i64 .i64 x c h0 hxc (by rw [hb]; omega) (by omega)
  rw [hr, hs]
  have : madeCells (Value.cells (.int .u8 0)) (c.toNat * 1) = ((List.replicate c.toNat (0 : Int)).map (Value.int .u8)).toArray := by
    apply Array.ext'
    show (madeCells #[.int .u8 0] (c.toNat * 1)).toList = _
    rw [toList_madeCells_one]
    simp
  rw [this]
  rfl
theorem run_mkBn (ht : P.underlying t = some (.slice e)) (hi : (P.info? e).map (fun i => (i.zero, i.size, i.bytes)) = some (some (.int .u8 0), 1, 1))
    (n c : Nat) (hnc : n ≤ c) (hc : c ≤ 100000000) (w : World) :
    (Instr.makeSlice t (.int .i64 (n : Int)) (.int .i64 (c : Int))).run P w = .ok (.slice (some ⟨w.heap.size, 0, none⟩) n c) (w.alloc (zeroB e c)) := by
  have h := run_mkB (P := P) ht hi (n : Int) (c : Int) (by omega) (by omega) (by omega) w
  simpa using h
end

/-- The slice value v is nil or a row of the call's own (from block base on) whose elements are the bytes l. -/
def OwB (w : World) (base : Nat) (e : TypeId) (v : Value) (l : List Int) : Prop := w.ownsRow base e 1 v l.length (l.map (Value.int .u8))
section
variable {w w' : World} {base : Nat} {e : TypeId} {v : Value} {l : List Int}
theorem OwB.nil : OwB w base e (.slice none 0 0) [] := World.ownsRow_nil w base e 1
theorem OwB.alloc (h : OwB w base e v l) (o : Obj) : OwB (w.alloc o) base e v l := World.ownsRow.alloc h o
theorem OwB.drew (h : OwB w base e v l) : OwB w.drew base e v l := h
theorem OwB.grown {row : Option Nat} (h : OwB w base e v l) (hg : w.grownBy w' row) (hne : v.ownBlock = none ∨ v.ownBlock ≠ row) : OwB w' base e v l := World.ownsRow.kept h hg hne
theorem OwB.ext (h : OwB w base e v l) (hb : Below w.heap.size w w') : OwB w' base e v l :=
  h.grown (row := none) ⟨hb.os, hb.tape, hb.output, hb.size, fun k hk _ => hb.block k hk⟩ (by cases v.ownBlock <;> simp)
theorem OwB.lt (h : OwB w base e v l) : ∀ k, v.ownBlock = some k → base ≤ k ∧ k < w.heap.size := World.ownsRow.lt h
/-- An owned row is a slice that reads as its bytes. -/
theorem OwB.ret {p : Nat → Prop} (h : OwB w base e v l) (hp : ∀ b, base ≤ b → p b) (hr : ∀ x ∈ l, 0 ≤ x ∧ x ≤ 255) : ∃ A c, v = .slice A l.length c ∧ Byt p w A l.length l := by
  rcases World.ownsRow.lt h with hlt
  have h0 := h
  rcases h.2 with ⟨rfl, hn⟩ | ⟨g, cap, cur, rfl, hg, hh, hnc, _, hcs, htake⟩
  · have : l = [] := List.eq_nil_of_length_eq_zero hn
    subst this
    exact ⟨none, 0, rfl, Byt.nil⟩
  · refine ⟨some ⟨g, 0, none⟩, cap, rfl, rfl, hr, fun _ => ⟨g, 0, rfl, hp g hg, fun j x hx => ?_⟩⟩
    have := World.ownsRow.cells h0 (g := g) rfl j (.int .u8 x) (by rw [List.getElem?_map, hx]; rfl)
    have hadd : (⟨g, 0, none⟩ : Addr).add j = ⟨g, 0 + j, none⟩ := by unfold Addr.add; split <;> simp_all
    rwa [hadd] at this
end

section
variable {P : Program} (w : World)
/-- append of bytes onto a row of the call's own; the source may be nil. -/
theorem run_appB {p : Nat → Prop} (t ty e : TypeId) (ht : P.underlying t = some (.slice e)) (hi : (P.info? e).map (fun i => (i.zero, i.size, i.bytes)) = some (some (.int .u8 0), 1, 1))
    (base : Nat) (v : Value) (l : List Int) (hown : OwB w base e v l) (A : Option Addr) (m c : Nat) (news : List Int) (hr : Byt p w A m news)
    (hlen : l.length + m ≤ 100000000) (hbase : base ≤ w.heap.size) :
    ∃ v' w', (Builtin.append_ #[t, t] ty #[v, .slice A m c]).run P w = .ok v' w' ∧ OwB w' base e v' (l ++ news) ∧ w.grownBy w' v.ownBlock ∧ (v'.ownBlock = v.ownBlock ∨ v'.ownBlock = some w.heap.size) := by
  obtain ⟨i, hi', hz, hs, hb⟩ := info_parts hi
  rcases Nat.eq_zero_or_pos m with hm | hm
  · subst hm
    have hn : news = [] := List.eq_nil_of_length_eq_zero hr.1
    subst hn
    refine ⟨v, w, ?_, by simpa using hown, World.grownBy.refl w _, .inl rfl⟩
    rcases A with _ | ad
    · rcases hown.2 with ⟨rfl, _⟩ | ⟨g, cap, cur, rfl, _, _, hnc, _⟩
      · simp [Builtin.append_, run_underlying ht, sizeOf, typeInfo, hi', Builtin.lenOf, Builtin.firstCells]
      · simp [Builtin.append_, run_underlying ht, sizeOf, typeInfo, hi', Builtin.lenOf, Builtin.firstCells, hnc, storeCells]
    · rcases hown.2 with ⟨rfl, _⟩ | ⟨g, cap, cur, rfl, _, _, hnc, _⟩
      · simp [Builtin.append_, run_underlying ht, sizeOf, typeInfo, hi', Builtin.lenOf, Builtin.firstCells, loadCells, loadCellsFrom]
      · simp [Builtin.append_, run_underlying ht, sizeOf, typeInfo, hi', Builtin.lenOf, Builtin.firstCells, hnc, storeCells, loadCells, loadCellsFrom]
  · obtain ⟨b, off, rfl, _, _, hc⟩ := hr.addr hm
    have hcells : ∀ j u, (news.map (Value.int .u8))[j]? = some u → w.cell? ((⟨b, off, none⟩ : Addr).add j) = some u := by
      intro j u hu
      rw [List.getElem?_map] at hu
      rcases hx : news[j]? with _ | x <;> simp [hx] at hu
      subst hu
      have hadd : (⟨b, off, none⟩ : Addr).add j = ⟨b, off + j, none⟩ := by unfold Addr.add; split <;> simp_all
      rw [hadd]
      exact hc j x hx
    obtain ⟨v', w', hrun, h2, h3, _, h5⟩ := run_append_own_at (P := P) w base t ty e i (.int .u8 0) 1 1 ht hi' hz hs hb rfl (by omega) v l.length (l.map (Value.int .u8)) hown ⟨b, off, none⟩ m c
      (news.map (Value.int .u8)) (by rw [List.length_map, hr.1]; omega) hcells (by intro u hu; obtain ⟨x, _, rfl⟩ := List.mem_map.1 hu; rfl) (by simp only [maxLen]; omega) (by omega) hbase
    refine ⟨v', w', hrun, ?_, h3, h5⟩
    unfold OwB
    rw [List.map_append, List.length_append, hr.1]
    exact h2

theorem wp_appB {p : Nat → Prop} {o : Oper} {a : Act} {K : Act → World → Prop} {Q : Exit → Act → World → Prop} (s x : Operand) (t : TypeId)
    (ho : o.op = .call { callee := .builtin .append, args := #[s, x], argTypes := #[t, t] }) (e : TypeId)
    (ht : P.underlying t = some (.slice e)) (hi : (P.info? e).map (fun i => (i.zero, i.size, i.bytes)) = some (some (.int .u8 0), 1, 1))
    (base : Nat) (v : Value) (l : List Int) (hs : a.eval s = v) (hown : OwB w base e v l) (A : Option Addr) (m c : Nat) (news : List Int) (hx : a.eval x = .slice A m c) (hr : Byt p w A m news)
    (hlen : l.length + m ≤ 100000000) (hbase : base ≤ w.heap.size)
    (h : ∀ v' w', OwB w' base e v' (l ++ news) → w.grownBy w' v.ownBlock → (v'.ownBlock = v.ownBlock ∨ v'.ownBlock = some w.heap.size) → K (a.put o.dst v') w') : o.wp P a w K Q := by
  obtain ⟨v', w', hrun, h2, h3, h4⟩ := run_appB (P := P) w t o.type e ht hi base v l hown A m c news hr hlen hbase
  unfold Oper.wp execOp
  simp only [ho, resolve, invoke, builtin, Sem.run_bind, Sem.run_pure, Result.andThen_ok, List.map_toArray, List.map_cons, List.map_nil, hs, hx, hrun]
  exact h v' w' h2 h3 h4

theorem wpList_appB {p : Nat → Prop} {ops : Array Oper} {rest : List Oper} {o : Oper} {a : Act} {Q : Exit → Act → World → Prop} (hgd : o.guard = none) (s x : Operand) (t : TypeId)
    (ho : o.op = .call { callee := .builtin .append, args := #[s, x], argTypes := #[t, t] }) (e : TypeId)
    (ht : P.underlying t = some (.slice e)) (hi : (P.info? e).map (fun i => (i.zero, i.size, i.bytes)) = some (some (.int .u8 0), 1, 1))
    (base : Nat) (v : Value) (l : List Int) (hs : a.eval s = v) (hown : OwB w base e v l) (A : Option Addr) (m c : Nat) (news : List Int) (hx : a.eval x = .slice A m c) (hr : Byt p w A m news)
    (hlen : l.length + m ≤ 100000000) (hbase : base ≤ w.heap.size)
    (h : ∀ v' w', OwB w' base e v' (l ++ news) → w.grownBy w' v.ownBlock → (v'.ownBlock = v.ownBlock ∨ v'.ownBlock = some w.heap.size) → wpList P ops Q rest (a.put o.dst v') w') : wpList P ops Q (o :: rest) a w :=
  wpList_plain hgd fun _ hK => wp_appB w s x t ho e ht hi base v l hs hown A m c news hx hr hlen hbase fun v' w' h2 h3 h4 => hK _ _ (h v' w' h2 h3 h4)

theorem step_appB {p : Nat → Prop} {ops : Array Oper} {o : Oper} {a : Act} {K : Act → World → Prop} {Q : Exit → Act → World → Prop} {E : Prop} (hgd : o.guard = none) (s x : Operand) (t : TypeId)
    (ho : o.op = .call { callee := .builtin .append, args := #[s, x], argTypes := #[t, t] }) (e : TypeId)
    (ht : P.underlying t = some (.slice e)) (hi : (P.info? e).map (fun i => (i.zero, i.size, i.bytes)) = some (some (.int .u8 0), 1, 1))
    (base : Nat) (v : Value) (l : List Int) (hs : a.eval s = v) (hown : OwB w base e v l) (A : Option Addr) (m c : Nat) (news : List Int) (hx : a.eval x = .slice A m c) (hr : Byt p w A m news)
    (hlen : l.length + m ≤ 100000000) (hbase : base ≤ w.heap.size)
    (h : ∀ v' w', OwB w' base e v' (l ++ news) → w.grownBy w' v.ownBlock → (v'.ownBlock = v.ownBlock ∨ v'.ownBlock = some w.heap.size) → K (a.put o.dst v') w') :
    if Region.wanted o (yielded ops a.tmps) = true then Oper.wp P o a w K Q else E := by
  have hw : Region.wanted o (yielded ops a.tmps) = true := by simp [Region.wanted, hgd]
  rw [if_pos hw]
  exact wp_appB w s x t ho e ht hi base v l hs hown A m c news hx hr hlen hbase h
end
/-- A cell below the own row stays as it was behind an append. -/
theorem own_cell {w w1 w2 : World} {base : Nat} {e : TypeId} {v : Value} {l : List Int} {b o : Nat} (hg : w1.grownBy w2 v.ownBlock) (hown : OwB w base e v l) (hb : b < base) (hb1 : b < w1.heap.size) :
    w2.cell? ⟨b, o, none⟩ = w1.cell? ⟨b, o, none⟩ :=
  World.cell?_of_block (hg.block b hb1 (fun e => by have := (hown.lt b e.symm).1; omega))
/-- A one-element slice that 'append(.., x)' lays. -/
theorem Byt.one (w : World) (e : TypeId) (x : Int) (h0 : 0 ≤ x) (h1 : x ≤ 255) : Byt (fun _ => True) (w.alloc (.cells #[.int .u8 x] e)) (some ⟨w.heap.size, 0, none⟩) 1 [x] :=
  ⟨rfl, by simp [h0, h1], fun _ => ⟨_, _, rfl, trivial, fun j y hy => by
    rcases j with _ | j <;> simp at hy
    subst hy
    exact cell_one_new w (.int .u8 x) e 0 _ rfl⟩⟩

theorem run_convB {P : Program} {p : Nat → Prop} {w : World} {A : Option Addr} {n : Nat} {l : List Int} (h : Byt p w A n l) (src e dst : TypeId) (c : Nat)
    (hs : P.underlying src = some (.slice e)) (he : P.underlying e = some (.int .u8)) (hd : P.underlying dst = some .string) :
    (convert src dst (.slice A n c)).run P w = .ok (.string (strOfNums l)) w := by
  rcases Nat.eq_zero_or_pos n with hn | hn
  · subst hn
    have : l = [] := List.eq_nil_of_length_eq_zero h.1
    subst this
    rcases A with _ | ad
    · rw [run_convert_bytes_nil w src e hs he 0 c dst hd]; rfl
    · rw [run_convert_bytes_string w src dst e _ 0 c hs he hd]
      simp [Conv.bytesToString, loadCells, loadCellsFrom, strOfNums]
      rfl
  · obtain ⟨b, off, rfl, _, _, hc⟩ := h.addr hn
    refine run_convert_bytes_arg w src e hs he b off n c l h.1 (fun i hi => ?_) dst hd
    have hl : i < l.length := by rw [h.1]; exact hi
    rw [hc i _ (List.getElem?_eq_getElem hl)]
    simp [List.getD, List.getElem?_eq_getElem hl]
theorem strOfNums_inj {l m : List Int} (hl : ∀ x ∈ l, 0 ≤ x ∧ x ≤ 255) (hm : ∀ x ∈ m, 0 ≤ x ∧ x ≤ 255) (h : (strOfNums l).data.toList = (strOfNums m).data.toList) : l = m := by
  rw [strOfNums_data, strOfNums_data] at h
  have back : ∀ l : List Int, (∀ x ∈ l, 0 ≤ x ∧ x ≤ 255) → (l.map fun n => UInt8.ofNat n.toNat).map (fun b => (b.toNat : Int)) = l := by
    intro l hl
    rw [List.map_map]
    conv => rhs; rw [← List.map_id l]
    apply List.map_congr_left
    intro x hx
    have := hl x hx
    simp
    omega
  rw [← back l hl, ← back m hm, h]

theorem undrew {w w' : World} (h : Below w.drew.heap.size w.drew w') : Below w.heap.size w w' := ⟨h.os, h.tape, h.output, h.size, h.block⟩
theorem bcell {W w1 : World} (hb : Below W.heap.size W w1) :
    (∀ b o, b < W.heap.size → w1.cell? ⟨b, o, none⟩ = W.cell? ⟨b, o, none⟩) ∧ (∀ b o, b < W.heap.size → w1.frozen? ⟨b, o, none⟩ = W.frozen? ⟨b, o, none⟩) :=
  ⟨fun b o h => hb.cell (p := ⟨b, o, none⟩) h, fun b o h => hb.frozen (p := ⟨b, o, none⟩) h⟩

/-- What a call returns that makes a slice of bytes: a slice of new memory that reads as l; nothing old has changed. -/
def RetB (w : World) (l : List Int) (e : Ending) (w' : World) : Prop :=
  ∃ A n c, e = .returned (.slice A n c) ∧ Byt (w.heap.size ≤ ·) w' A n l ∧ Below w.heap.size w w'

end Go.Proofs.Ytdnchjmopkhnaaa
