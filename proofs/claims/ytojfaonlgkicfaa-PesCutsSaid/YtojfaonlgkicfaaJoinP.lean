/- pes.Join and the reference's Join. -/
import Derived.Test.YtojfaonlgkicfaaRowW
import Derived.Test.YtojfaonlgkicfaaStamp
import Derived.Recover
import Derived.Deep.LoopGhost
namespace Go.Proofs.Ytojfaonlgkicfaa
open Go.RowKit

theorem Try.infoI : (Try.prog.info? 3).map (fun i => (i.zero, i.size, i.bytes)) = some (some (.int .i64 0), 1, 8) := by kernel_rfl

/-- A packet as it lies in memory. -/
structure Pk where
  s : Int
  p : Int
  d : Int
  A : Option Addr
  n : Nat
  c : Nat
  l : List Int
def Pk.cells (k : Pk) : List Value := [.int .i64 k.s, .int .i64 k.p, .int .i64 k.d, .slice k.A k.n k.c]
def pkCells (ps : List Pk) : List Value := ps.flatMap Pk.cells
theorem pkCells_len (ps : List Pk) : (pkCells ps).length = ps.length * 4 := by
  induction ps with
  | nil => rfl
  | cons a ps ih => simp only [pkCells, List.flatMap_cons, List.length_append, List.length_cons] at ih ⊢; simp only [Pk.cells, List.length_cons, List.length_nil]; omega
theorem pkCells_at : ∀ {ps : List Pk} {k : Nat} {x : Pk}, ps[k]? = some x → (pkCells ps)[k * 4]? = some (.int .i64 x.s) ∧ (pkCells ps)[k * 4 + 1]? = some (.int .i64 x.p) ∧ (pkCells ps)[k * 4 + 2]? = some (.int .i64 x.d) ∧ (pkCells ps)[k * 4 + 3]? = some (.slice x.A x.n x.c)
  | [], k, x, h => by simp at h
  | a :: ps, 0, x, h => by
    simp at h
    subst h
    simp [pkCells, Pk.cells]
  | a :: ps, k + 1, x, h => by
    have := pkCells_at (ps := ps) (k := k) (x := x) (by simpa using h)
    rw [show (k + 1) * 4 = k * 4 + 4 by omega]
    simpa [pkCells, Pk.cells] using this
/-- A slice of packets, each with its data. -/
def Pks (p q : Nat → Prop) (w : World) (A : Option Addr) (n : Nat) (ps : List Pk) : Prop := ps.length = n ∧ Rw p w A n 4 (pkCells ps) ∧ ∀ x ∈ ps, Byt q w x.A x.n x.l

def stepJ (r : List Int × List Int) (x : Pk) : List Int × List Int := (r.1 ++ x.l, if x.p = -1 then r.2 else r.2 ++ [(r.1.length : Int)])
def joinF (ps : List Pk) : List Int × List Int := ps.foldl stepJ ([], [])
theorem joinF_snoc (ps : List Pk) (x : Pk) : joinF (ps ++ [x]) = stepJ (joinF ps) x := by simp [joinF, List.foldl_append]
theorem foldJ_fst (ps : List Pk) : ∀ r : List Int × List Int, (ps.foldl stepJ r).1 = r.1 ++ ps.flatMap Pk.l := by
  induction ps with
  | nil => intro r; simp
  | cons x ps ih => intro r; rw [List.foldl_cons, ih]; simp [stepJ]
theorem joinF_fst (ps : List Pk) : (joinF ps).1 = ps.flatMap Pk.l := by
  unfold joinF
  rw [foldJ_fst]
  rfl
theorem foldJ_snd (ps : List Pk) : ∀ r : List Int × List Int, (ps.foldl stepJ r).2.length ≤ r.2.length + ps.length := by
  induction ps with
  | nil => intro r; simp
  | cons x ps ih =>
    intro r
    rw [List.foldl_cons]
    refine Nat.le_trans (ih _) ?_
    simp only [stepJ, List.length_cons]
    split <;> simp <;> omega
theorem joinF_take_le (ps : List Pk) (k : Nat) : (joinF (ps.take k)).1.length ≤ (joinF ps).1.length := by
  rw [joinF_fst, joinF_fst]
  conv => rhs; rw [← List.take_append_drop k ps, List.flatMap_append, List.length_append]
  omega
theorem joinF_snd_le (ps : List Pk) : (joinF ps).2.length ≤ ps.length := by
  have := foldJ_snd ps ([], [])
  simpa [joinF] using this
theorem joinF_rng (ps : List Pk) (h : ∀ x ∈ ps, ∀ y ∈ x.l, 0 ≤ y ∧ y ≤ 255) : ∀ y ∈ (joinF ps).1, 0 ≤ y ∧ y ≤ 255 := by
  rw [joinF_fst]
  intro y hy
  obtain ⟨x, hx, hy⟩ := List.mem_flatMap.1 hy
  exact h x hx y hy

/-- What Join returns: two slices of new memory. -/
def RetJ (w : World) (r : List Int × List Int) (e : Ending) (w' : World) : Prop :=
  ∃ A n c A' n' c', e = .returned (.tuple #[.slice A n c, .slice A' n' c']) ∧ Byt (w.heap.size ≤ ·) w' A n r.1 ∧ Rw (w.heap.size ≤ ·) w' A' n' 1 (r.2.map (Value.int .i64)) ∧ Below w.heap.size w w'

theorem join_idle (p q : Addr) (w : World) :
    CallsD Try.prog 29 #[.pointer (some p), .pointer (some q)] .returning w fun e u' w' => e = .returned (.tuple #[]) ∧ u' = .returning ∧ w' = w := by
  refine callsD_of_wpS Try.func29 rfl fun c₀ cs hu => ?_
  apply wpS_seq
  apply wpS_region
  simp [wpOpsS, go_sem, recoverD, hu, Try.ntmps29, Exit.thenS]
  refine wpS_cond (t := false) (by simp [Act.eval, Array.replicate]) ?_
  simp only [Bool.false_eq_true, if_false]
  refine wpS_of_wp (wp_skip ?_)
  cases c₀
  simp_all [bodyPostS, results, Try.results29]


/-- The state of pes.Join: its two results in their boxes, each a row of its own. -/
structure JSt (w : World) (d s : List Int) (A1 : Option Addr) (n1 c1 : Nat) (A2 : Option Addr) (n2 c2 : Nat) (wr : World) : Prop where
  l1 : n1 = d.length
  l2 : n2 = s.length
  b1 : Bx wr w.heap.size 27 #[.slice A1 n1 c1]
  b2 : Bx wr (w.heap.size + 1) 32 #[.slice A2 n2 c2]
  o1 : wr.ownsRow (w.heap.size + 2) 5 1 (.slice A1 n1 c1) n1 (d.map (Value.int .u8))
  o2 : wr.ownsRow (w.heap.size + 2) 3 1 (.slice A2 n2 c2) n2 (s.map (Value.int .i64))
  be : Below w.heap.size w wr

section
variable {w wr w1 : World} {d s : List Int} {A1 A2 A3 : Option Addr} {n1 c1 n2 c2 n3 c3 : Nat}
theorem JSt.alloc (h : JSt w d s A1 n1 c1 A2 n2 c2 wr) (o : Obj) : JSt w d s A1 n1 c1 A2 n2 c2 (wr.alloc o) :=
  ⟨h.l1, h.l2, h.b1.alloc o, h.b2.alloc o, h.o1.alloc o, h.o2.alloc o, h.be.alloc (by have := h.b1.lt; omega) o⟩
theorem JSt.facts (h : JSt w d s A1 n1 c1 A2 n2 c2 wr) : wr.cell? ⟨w.heap.size, 0, none⟩ = some (.slice A1 n1 c1) ∧ wr.cell? ⟨w.heap.size + 1, 0, none⟩ = some (.slice A2 n2 c2) ∧
    wr.frozen? ⟨w.heap.size, 0, none⟩ = false ∧ wr.frozen? ⟨w.heap.size + 1, 0, none⟩ = false ∧ w.heap.size < wr.heap.size ∧ w.heap.size + 1 < wr.heap.size :=
  ⟨h.b1.cell 0 rfl, h.b2.cell 0 rfl, h.b1.frozen 0, h.b2.frozen 0, h.b1.lt, h.b2.lt⟩
theorem JSt.grew1 (h : JSt w d s A1 n1 c1 A2 n2 c2 wr) (hg : wr.grownBy w1 (Value.slice A1 n1 c1).ownBlock) : w1.cell? ⟨w.heap.size, 0, none⟩ = some (.slice A1 n1 c1) ∧ w1.frozen? ⟨w.heap.size, 0, none⟩ = false ∧ w.heap.size < w1.heap.size :=
  have e := h.b1.grown hg (own_ne h.o1 (.inl (by omega)))
  ⟨e.cell 0 rfl, e.frozen 0, e.lt⟩
theorem JSt.grew2 (h : JSt w d s A1 n1 c1 A2 n2 c2 wr) (hg : wr.grownBy w1 (Value.slice A2 n2 c2).ownBlock) : w1.cell? ⟨w.heap.size, 0, none⟩ = some (.slice A1 n1 c1) ∧ w1.cell? ⟨w.heap.size + 1, 0, none⟩ = some (.slice A2 n2 c2) ∧ w1.frozen? ⟨w.heap.size + 1, 0, none⟩ = false ∧ w.heap.size + 1 < w1.heap.size :=
  have e := h.b1.grown hg (own_ne h.o2 (.inl (by omega)))
  have e' := h.b2.grown hg (own_ne h.o2 (.inl (by omega)))
  ⟨e.cell 0 rfl, e'.cell 0 rfl, e'.frozen 0, e'.lt⟩
/-- A start is appended: the world in which the row has grown, before its box is written. -/
theorem JSt.starts (h : JSt w d s A1 n1 c1 A2 n2 c2 wr) (x : Int) (ho : w1.ownsRow (w.heap.size + 2) 3 1 (.slice A3 n3 c3) (n2 + 1) (s.map (Value.int .i64) ++ [.int .i64 x])) (hg : wr.grownBy w1 (Value.slice A2 n2 c2).ownBlock) :
    JSt w d (s ++ [x]) A1 n1 c1 A3 n3 c3 (w1.setCell ⟨w.heap.size + 1, 0, none⟩ (.slice A3 n3 c3)) := by
  obtain ⟨A, c, hv⟩ := own_slice ho
  injection hv with hA hn hc
  subst hn
  have e1 : Bx w1 w.heap.size 27 #[.slice A1 n1 c1] := h.b1.grown hg (own_ne h.o2 (.inl (by omega)))
  have e2 : Bx w1 (w.heap.size + 1) 32 #[.slice A2 n2 c2] := h.b2.grown hg (own_ne h.o2 (.inl (by omega)))
  exact ⟨h.l1, by simp [h.l2], e1.far (by simp) _, e2.set_ 0 _, own_set (World.ownsRow.kept h.o1 hg (own_sep h.o1 h.o2 (by decide))) (by show w.heap.size + 1 < _; omega),
    own_set (by simpa using ho) (by show w.heap.size + 1 < _; omega), (h.be.grown hg h.be.size (fun k hk => by have := (World.ownsRow.lt h.o2 k hk).1; omega)).setCell (by show w.heap.size ≤ w.heap.size + 1; omega) _⟩
theorem JSt.data (h : JSt w d s A1 n1 c1 A2 n2 c2 wr) (x : List Int) (m : Nat) (hm : x.length = m) (ho : w1.ownsRow (w.heap.size + 2) 5 1 (.slice A3 n3 c3) (n1 + m) (d.map (Value.int .u8) ++ x.map (Value.int .u8))) (hg : wr.grownBy w1 (Value.slice A1 n1 c1).ownBlock) :
    JSt w (d ++ x) s A3 n3 c3 A2 n2 c2 (w1.setCell ⟨w.heap.size, 0, none⟩ (.slice A3 n3 c3)) := by
  obtain ⟨A, c, hv⟩ := own_slice ho
  injection hv with hA hn hc
  subst hn
  have e1 : Bx w1 w.heap.size 27 #[.slice A1 n1 c1] := h.b1.grown hg (own_ne h.o1 (.inl (by omega)))
  have e2 : Bx w1 (w.heap.size + 1) 32 #[.slice A2 n2 c2] := h.b2.grown hg (own_ne h.o1 (.inl (by omega)))
  exact ⟨by simp [h.l1, hm], h.l2, e1.set_ 0 _, e2.far (by simp) _, own_set (by simpa using ho) (by show w.heap.size < _; omega), own_set (World.ownsRow.kept h.o2 hg (own_sep h.o2 h.o1 (by decide))) (by show w.heap.size < _; omega),
    (h.be.grown hg h.be.size (fun k hk => by have := (World.ownsRow.lt h.o1 k hk).1; omega)).setCell (Nat.le_refl _) _⟩
end

theorem JSt.back {w wr : World} {d s : List Int} {A1 A2 : Option Addr} {n1 c1 n2 c2 : Nat} (h : JSt w d s A1 n1 c1 A2 n2 c2 wr) :
    JSt w d s A1 n1 c1 A2 n2 c2 ((wr.setCell ⟨w.heap.size, 0, none⟩ (.slice A1 n1 c1)).setCell ⟨w.heap.size + 1, 0, none⟩ (.slice A2 n2 c2)).drew :=
  ⟨h.l1, h.l2, (h.b1.set_ 0 _).far (by simp) _, (h.b2.far (by simp) _).set_ 0 _, own_set (own_set h.o1 (by show w.heap.size < _; omega)) (by show w.heap.size + 1 < _; omega),
    own_set (own_set h.o2 (by show w.heap.size < _; omega)) (by show w.heap.size + 1 < _; omega), ((h.be.setCell (Nat.le_refl _) _).setCell (by show w.heap.size ≤ w.heap.size + 1; omega) _).drew⟩
theorem JSt.ret {w wr : World} {d s : List Int} {A1 A2 : Option Addr} {n1 c1 n2 c2 : Nat} (h : JSt w d s A1 n1 c1 A2 n2 c2 wr) (hr : ∀ y ∈ d, 0 ≤ y ∧ y ≤ 255) :
    RetJ w (d, s) (.returned (.tuple #[.slice A1 n1 c1, .slice A2 n2 c2])) wr := by
  obtain ⟨B1, e1, hv1, hr1⟩ := own_rw (p := (w.heap.size ≤ ·)) h.o1 (fun _ h => by omega)
  obtain ⟨B2, e2, hv2, hr2⟩ := own_rw (p := (w.heap.size ≤ ·)) h.o2 (fun _ h => by omega)
  injection hv1 with hA1
  injection hv2 with hA2
  subst hA1 hA2
  exact ⟨_, _, _, _, _, _, rfl, hr1.byt hr, hr2, h.be⟩

/-- What holds at the head of each round of pes.Join's loop. -/
def JRel (w : World) (ps : List Pk) (i : Value) (wr : World) : Prop :=
  ∃ (k : Nat) (A1 A2 : Option Addr) (n1 n2 c1 c2 : Nat), k ≤ ps.length ∧ i = .int .i64 k ∧ JSt w (joinF (ps.take k)).1 (joinF (ps.take k)).2 A1 n1 c1 A2 n2 c2 wr

theorem jrel_next {w wr : World} {ps : List Pk} {k : Nat} {x : Pk} {A1 A2 : Option Addr} {n1 n2 c1 c2 : Nat} {s : List Int} (hx : ps[k]? = some x)
    (hs : s = if x.p = -1 then (joinF (ps.take k)).2 else (joinF (ps.take k)).2 ++ [((joinF (ps.take k)).1.length : Int)]) (h : JSt w ((joinF (ps.take k)).1 ++ x.l) s A1 n1 c1 A2 n2 c2 wr) : JRel w ps (.int .i64 ((k : Int) + 1)) wr := by
  have hk : k < ps.length := (List.getElem?_eq_some_iff.1 hx).1
  refine ⟨k + 1, A1, A2, n1, n2, c1, c2, hk, by simp, ?_⟩
  rw [take_snoc_at hx, joinF_snoc]
  simp only [stepJ]
  rw [← hs]
  exact h

set_option maxHeartbeats 1000000 in
theorem pes_Join {p q : Nat → Prop} (A : Option Addr) (n c : Nat) (ps : List Pk) (w : World) (h : Pks p q w A n ps) (hn : n ≤ 100000) (ht : (joinF ps).1.length ≤ 10000000) :
    Calls Try.prog 14 #[.slice A n c] w (RetJ w (joinF ps)) := by
  have hmf : ∀ (fn : Fn) (first cap : Array Value) (w : World), (Instr.makeFunc fn first cap).run Try.prog w = .ok (.func fn first cap) w := fun _ _ _ _ => rfl
  obtain ⟨hl, hr, hd⟩ := h
  have HL := Lib.hid hl
  have HD := Lib.hid hd
  have HT := Lib.hid ht
  clear hl hd ht
  go_enter_defers Try.func14, Try.ntmps14
  go_wp2
  go_loopw [9] (fun i wr => JRel w ps i wr) (fun i _ => n - (intOf i).toNat)
  case atStart =>
    refine ⟨0, none, none, 0, 0, 0, 0, Nat.zero_le _, rfl, ⟨by simp [joinF], by simp [joinF], ?_, ?_, World.ownsRow_nil _ _ _ _, World.ownsRow_nil _ _ _ _, ?_⟩⟩
    · exact (Bx.new _ _ _).alloc _
    · exact Bx.new' _ _ _ _ (by simp)
    · exact ((Below.refl _ _).alloc (Nat.le_refl _) _).alloc (by simp) _
  case round =>
    obtain ⟨k, A1, A2, n1, n2, c1, c2, hk, rfl, hst⟩ := hrel
    have hle1 : n1 ≤ 10000000 := by rw [hst.l1]; exact Nat.le_trans (joinF_take_le ps k) HT.out
    have hle2 : n2 ≤ 100000 := by rw [hst.l2]; refine Nat.le_trans (joinF_snd_le _) ?_; rw [List.length_take, HL.out]; omega
    by_cases hlt : k < n
    · obtain ⟨b, off, rfl, hpb, hbl, hc⟩ := hr.addr (by omega)
      have hx : ps[k]? = some (ps[k]'(by rw [HL.out]; exact hlt)) := List.getElem?_eq_getElem _
      generalize hxx : ps[k]'(by rw [HL.out]; exact hlt) = x at hx
      clear hxx
      obtain ⟨e0, e1, e2, e3⟩ := pkCells_at hx
      have hbel := hst.be
      have f0 := (hbel.cell (p := ⟨b, off + k * 4, none⟩) hbl).trans (hc _ _ e0)
      have f1 : wr.cell? ⟨b, off + k * 4 + 1, none⟩ = _ := (hbel.cell (p := ⟨b, off + (k * 4 + 1), none⟩) hbl).trans (hc _ _ e1)
      have f2 : wr.cell? ⟨b, off + k * 4 + 2, none⟩ = _ := (hbel.cell (p := ⟨b, off + (k * 4 + 2), none⟩) hbl).trans (hc _ _ e2)
      have f3 : wr.cell? ⟨b, off + k * 4 + 3, none⟩ = _ := (hbel.cell (p := ⟨b, off + (k * 4 + 3), none⟩) hbl).trans (hc _ _ e3)
      have hby := (HD.out x (List.mem_of_getElem? hx)).mono (q := (· < w.heap.size)) (fun _ h _ => h)
      have hxn : x.n ≤ 10000000 := by
        have : (joinF (ps.take (k + 1))).1.length ≤ 10000000 := Nat.le_trans (joinF_take_le ps (k + 1)) HT.out
        rw [take_snoc_at hx, joinF_snoc] at this
        simp only [stepJ, List.length_append, hby.len] at this
        omega
      have hxl := hby.len
      have HXL := Lib.hid hxl
      have HX := Lib.hid hx
      clear e0 e1 e2 e3 hc hx hxl
      obtain ⟨g1, g2, z1, z2, y1, y2⟩ := hst.facts
      by_cases hp : x.p = -1
      · have hpb : (x.p != -1) = false := by simp [hp]
        have HP := Lib.hid hp
        clear hp
        go_wp2_with (first | (at_builtin; go_must (refine wpList_appR _ rfl (.tmp 21) (.tmp 23) 27 rfl 5 (.int .u8 0) 1 1 Try.underlying27 Try.infoB rfl (by decide) (w.heap.size + 2) (.slice A1 n1 c1) n1 _ rfl (hst.alloc _).o1 x.A x.n x.c (x.l.map (Value.int .u8)) rfl ((hby.below hbel (fun _ _ h => h)).alloc _).rw_ (by simp [Value.oneCell']) (by omega) (by omega) (by simp; omega) ?_; intro v3 w3 ho3 hg3 ha3; obtain ⟨A3, c3, hv3⟩ := own_slice ho3; subst hv3; have hst3 := (hst.alloc _).data x.l x.n HXL.out ho3 hg3; obtain ⟨g3, z3, y3⟩ := (hst.alloc _).grew1 hg3)))
        go_roundw
        case rel => exact jrel_next HX.out (by rw [if_pos HP.out]) hst3
        case measure => simp [intOf]; omega
      · have hpb : (x.p != -1) = true := by simp [hp]
        have HP := Lib.hid hp
        clear hp
        have hby0 := hby.below hbel (fun _ _ h => h)
        have tok : True := trivial
        go_wp2_with (first
          | (at_builtin; have _t := tok; go_must (refine wpList_appR _ rfl (.tmp 16) (.tmp 19) 32 rfl 3 (.int .i64 0) 1 8 Try.underlying32 Try.infoI rfl (by decide) (w.heap.size + 2) (.slice A2 n2 c2) n2 _ rfl ((hst.alloc _).alloc _).o2 (some ⟨wr.heap.size + 1, 0, none⟩) 1 1 [.int .i64 n1] rfl (Rw.lit (p := fun _ => True) _ _ _ rfl 1 1 rfl (by simp) trivial) (by simp [Value.oneCell']) (by omega) (by omega) (by simp; omega) ?_; intro v3 w3 ho3 hg3 ha3; obtain ⟨A3, c3, hv3⟩ := own_slice ho3; subst hv3; have hst3 := ((hst.alloc _).alloc _).starts n1 ho3 hg3; obtain ⟨g3, g3', z3, y3⟩ := ((hst.alloc _).alloc _).grew2 hg3; have hx3 : Bx w3 wr.heap.size _ _ := ((Bx.new wr 30 #[.int .i64 x.s, .int .i64 x.p, .int .i64 x.d, .slice x.A x.n x.c]).alloc _).grown hg3 (own_ne hst.o2 (.inr (Nat.le_refl _))); have hx33 : w3.cell? ⟨wr.heap.size, 3, none⟩ = some (.slice x.A x.n x.c) := hx3.cell 3 rfl; have hby3 := (((hby0.alloc _).alloc _).grown hg3 (fun b hb => own_ne hst.o2 (.inl (by omega)))); clear tok))
          | (at_builtin; go_must (refine wpList_appR _ rfl (.tmp 21) (.tmp 23) 27 rfl 5 (.int .u8 0) 1 1 Try.underlying27 Try.infoB rfl (by decide) (w.heap.size + 2) (.slice A1 n1 c1) n1 _ rfl hst3.o1 x.A x.n x.c (x.l.map (Value.int .u8)) rfl (hby3.setCell (by simp) _).rw_ (by simp [Value.oneCell']) (by omega) (by omega) (by simp; omega) ?_; intro v4 w4 ho4 hg4 ha4; obtain ⟨A4, c4, hv4⟩ := own_slice ho4; subst hv4; have hst4 := hst3.data x.l x.n HXL.out ho4 hg4; obtain ⟨g4, z4, y4⟩ := hst3.grew1 hg4)))
        go_roundw
        case rel => exact jrel_next HX.out (by rw [if_neg HP.out, hst.l1]) hst4
        case measure => simp [intOf]; omega
    · have hkn : k = n := by have := HL.out; omega
      have HK := Lib.hid hkn
      clear hkn
      obtain ⟨g1, g2, z1, z2, y1, y2⟩ := hst.facts
      go_wp2
      go_region
      go_wp2
      refine leaves_cons (f := 29) (args := #[.pointer (some ⟨w.heap.size, 0, none⟩), .pointer (some ⟨w.heap.size + 1, 0, none⟩)]) (by simp) (by simp [go_sem]) ?_
      refine (join_idle _ _ _).mono ?_
      rintro e u' w'' ⟨rfl, rfl, rfl⟩
      have hb := hst.back
      obtain ⟨q1, q2, _⟩ := hb.facts
      refine ⟨.tuple #[.slice A1 n1 c1, .slice A2 n2 c2], by simp [results, Try.results14, go_sem, q1, q2], ?_⟩
      have e : ps.take k = ps := List.take_of_length_le (by rw [HL.out, HK.out]; exact Nat.le_refl _)
      rw [e] at hb
      exact hb.ret (joinF_rng ps (fun x hx => (HD.out x hx).rng))

end Go.Proofs.Ytojfaonlgkicfaa
