/- The parts of the data; packets of the call's own. -/
import Derived.Test.YtojfaonlgkicfaaCutI
import Derived.Test.YtojfaonlgkicfaaTakeP
namespace Go.Proofs.Ytojfaonlgkicfaa
open Go.RowKit

theorem run_slice3 {P : Program} (w : World) (t e : TypeId) (a : Option Addr) (len cap : Nat) (ht : P.underlying t = some (.slice e)) (kl kh km : IntKind) (l h m : Int) (h0 : 0 ≤ l) (h1 : l ≤ h) (h2 : h ≤ m) (h3 : m ≤ cap) :
    (Instr.slice t (.slice a len cap) (some (.int kl l)) (some (.int kh h)) (some (.int km m))).run P w =
      ((sizeOf e).run P w).andThen fun s w => .ok (sliced a l.toNat h.toNat m.toNat s) w := by
  have eh : (h.toNat : Int) = h := Int.toNat_of_nonneg (by omega)
  have em : (m.toNat : Int) = m := Int.toNat_of_nonneg (by omega)
  simp [Instr.slice, run_underlying ht, Instr.sliceBounds, run_sliceBound, sliced, *, eh, em, (by omega : 0 ≤ l), (by omega : 0 ≤ h), (by omega : 0 ≤ m)]
set_option maxRecDepth 100000 in
theorem sub3 (b off n c lo m : Nat) (h0 : 0 < m) (h1 : lo + m ≤ c) (x y : Int) (hx : x = (lo : Int) + (m : Int)) (hy : y = (lo : Int) + (m : Int)) :
    ∀ w, (Instr.slice 27 (.slice (some ⟨b, off, none⟩) n c) (some (.int .i64 (lo : Int))) (some (.int .i64 x)) (some (.int .i64 y))).run Try.prog w = .ok (.slice (some ⟨b, off + lo, none⟩) m m) w := by
  subst hx hy
  intro w
  have hsz : ∀ w, (sizeOf 5).run Try.prog w = .ok 1 w := fun _ => by kernel_rfl
  rw [run_slice3 (P := Try.prog) w 27 5 (some ⟨b, off, none⟩) n c Try.underlying27 .i64 .i64 .i64 (lo : Int) ((lo : Int) + (m : Int)) ((lo : Int) + (m : Int)) (by omega) (by omega) (by omega) (by omega)]
  have hz := hsz w
  show ((sizeOf 5).run Try.prog w).andThen _ = _
  rw [hz]
  simp only [Result.andThen, sliced]
  rw [if_neg (by omega), show ((lo : Int) + (m : Int)).toNat - (lo : Int).toNat = m by omega]
  simp [Addr.add]
set_option maxRecDepth 100000 in
theorem sub30 (A : Option Addr) (c : Nat) : ∀ w, (Instr.slice 27 (.slice A 0 c) (some (.int .i64 0)) (some (.int .i64 0)) (some (.int .i64 0))).run Try.prog w = .ok (.slice A 0 0) w := by
  intro w
  have hsz : ∀ w, (sizeOf 5).run Try.prog w = .ok 1 w := fun _ => by kernel_rfl
  rw [run_slice3 (P := Try.prog) w 27 5 A 0 c Try.underlying27 .i64 .i64 .i64 0 0 0 (by omega) (by omega) (by omega) (by omega)]
  have hz := hsz w
  show ((sizeOf 5).run Try.prog w).andThen _ = _
  rw [hz]
  simp [Result.andThen, sliced]

theorem Byt.sub3b {p : Nat → Prop} {w : World} {b o k n m : Nat} {l : List Int} (h : Byt p w (some ⟨b, o, none⟩) n l) (hn : k + m ≤ n) : Byt p w (some ⟨b, o + k, none⟩) m ((l.drop k).take m) := by
  have hlen := h.1
  refine ⟨by simp; omega, fun x hx => h.2.1 x (List.mem_of_mem_drop (List.mem_of_mem_take hx)), fun hm => ?_⟩
  obtain ⟨b', o', e, hp, hc⟩ := h.2.2 (by omega)
  injection e with e
  injection e with e1 e2
  subst e1 e2
  refine ⟨b, o + k, rfl, hp, fun j x hx => ?_⟩
  rw [List.getElem?_take] at hx
  split at hx
  · rw [List.getElem?_drop] at hx
    have := hc (k + j) x hx
    rwa [← Nat.add_assoc] at this
  · cases hx
/-- Part i of the data. -/
def pcL (l : List Int) (k i : Nat) : List Int := (l.drop (i * k)).take k
/-- How many parts there are. -/
def pcN (n k : Nat) : Nat := if n = 0 then 1 else (n - 1) / k + 1
theorem pcN_pos (n k : Nat) : 1 ≤ pcN n k := by
  unfold pcN
  split
  · exact Nat.le_refl _
  · exact Nat.le_add_left 1 _
theorem pcN_next {n k : Nat} (hk : 1 ≤ k) (i : Nat) : i + 1 < pcN n k ↔ (i + 1) * k < n := by
  unfold pcN
  split
  · rename_i h
    subst h
    constructor <;> intro h <;> omega
  · rename_i h
    rw [show i + 1 < (n - 1) / k + 1 ↔ i + 1 ≤ (n - 1) / k by omega, Nat.le_div_iff_mul_le (by omega)]
    omega
theorem pcN_last {n k : Nat} (_ : 1 ≤ k) : (pcN n k - 1) * k ≤ n ∧ (1 ≤ n → (pcN n k - 1) * k < n) := by
  unfold pcN
  split
  · rename_i h
    subst h
    simp
  · rename_i h
    have : (n - 1) / k * k ≤ n - 1 := Nat.div_mul_le_self _ _
    rw [Nat.add_sub_cancel]
    generalize (n - 1) / k * k = z at *
    omega
theorem pcN_in {n k i : Nat} (hk : 1 ≤ k) (hn : 1 ≤ n) (hi : i < pcN n k) : i * k < n := by
  have := (pcN_last (n := n) hk).2 hn
  exact Nat.lt_of_le_of_lt (Nat.mul_le_mul_right k (by omega : i ≤ pcN n k - 1)) this
theorem pcN_le {n k : Nat} (hk : 1 ≤ k) : pcN n k ≤ n + 1 := by
  unfold pcN
  split
  · omega
  · have := Nat.div_le_self (n - 1) k
    omega
/-- The parts of data that lie in memory: how the iterator slices them. -/
theorem pieces_exist {p : Nat → Prop} {w : World} {A : Option Addr} {n c : Nat} {l : List Int} (h : Byt p w A n l) (hnc : n ≤ c) {k : Nat} (hk : 1 ≤ k) :
    ∃ pv : Nat → Value,
      (∀ i, i + 1 < pcN n k → ∀ w, (Instr.slice 27 (.slice A n c) (some (.int .i64 ((i * k : Nat) : Int))) (some (.int .i64 (((i * k : Nat) : Int) + (k : Int)))) (some (.int .i64 (((i * k : Nat) : Int) + (k : Int))))).run Try.prog w = .ok (pv i) w) ∧
      (∀ w, (Instr.slice 27 (.slice A n c) (some (.int .i64 (((pcN n k - 1) * k : Nat) : Int))) (some (.int .i64 (n : Int))) (some (.int .i64 (n : Int)))).run Try.prog w = .ok (pv (pcN n k - 1)) w) ∧
      (∀ i, i < pcN n k → ∃ Ai, pv i = .slice Ai (pcL l k i).length (pcL l k i).length ∧ Byt (· < w.heap.size) w Ai (pcL l k i).length (pcL l k i)) := by
  rcases Nat.eq_zero_or_pos n with hn | hn
  · subst hn
    have hl : l = [] := List.eq_nil_of_length_eq_zero h.len
    subst hl
    have hm : pcN 0 k = 1 := rfl
    refine ⟨fun _ => .slice A 0 0, fun i hi => by rw [hm] at hi; omega, fun w => ?_, fun i hi => ⟨A, by simp [pcL], by simp only [pcL, List.drop_nil, List.take_nil]; exact Byt.nil⟩⟩
    rw [hm]
    simpa using sub30 A c w
  · obtain ⟨b, off, rfl, hpb, hb, hc⟩ := h.addr hn
    have hh : Byt (· < w.heap.size) w (some ⟨b, off, none⟩) n l := h.mono (fun b h _ => h)
    have hlen := h.len
    have plen : ∀ i, (pcL l k i).length = min k (n - i * k) := fun i => by simp [pcL, hlen]
    refine ⟨fun i => .slice (some ⟨b, off + i * k, none⟩) (min k (n - i * k)) (min k (n - i * k)), fun i hi w => ?_, fun w => ?_, fun i hi => ⟨some ⟨b, off + i * k, none⟩, by rw [plen], ?_⟩⟩
    · have := (pcN_next (n := n) hk i).1 hi
      rw [Nat.succ_mul] at this
      have hmin : min k (n - i * k) = k := by omega
      dsimp only
      rw [hmin]
      exact sub3 b off n c (i * k) k (by omega) (by omega) _ _ rfl rfl w
    · obtain ⟨_, h2⟩ := pcN_last (n := n) (k := k) hk
      have h2 := h2 hn
      have hle : n ≤ (pcN n k - 1) * k + k := by
        rcases Nat.lt_or_ge ((pcN n k - 1) * k + k) n with hx | hx
        · exfalso
          have := (pcN_next (n := n) hk (pcN n k - 1)).2 (by rw [Nat.succ_mul]; exact hx)
          omega
        · exact hx
      have hmin : min k (n - (pcN n k - 1) * k) = n - (pcN n k - 1) * k := by omega
      dsimp only
      rw [hmin]
      exact sub3 b off n c ((pcN n k - 1) * k) (n - (pcN n k - 1) * k) (by omega) (by omega) _ _ (by omega) (by omega) w
    · have hi2 := pcN_in hk hn hi
      rw [plen]
      have hs := hh.sub3b (k := i * k) (m := min k (n - i * k)) (by omega)
      have e : pcL l k i = (l.drop (i * k)).take (min k (n - i * k)) := by
        unfold pcL
        rcases Nat.le_total k (n - i * k) with h | h
        · rw [Nat.min_eq_left h]
        · rw [Nat.min_eq_right h, List.take_of_length_le (by rw [List.length_drop, hlen]; exact h), List.take_of_length_le (by rw [List.length_drop, hlen]; omega)]
      rw [e]
      exact hs
theorem pkCells_app (a b : List Pk) : pkCells (a ++ b) = pkCells a ++ pkCells b := by simp [pkCells]
/-- A row of packets of the call's own; no data lie in the row's block. -/
def OwnK (q : Nat → Prop) (w : World) (base : Nat) (v : Value) (xs : List Pk) : Prop :=
  w.ownsRow base 30 4 v xs.length (pkCells xs) ∧ ∀ x ∈ xs, Byt (fun b => q b ∧ some b ≠ v.ownBlock) w x.A x.n x.l
section
variable {q q' : Nat → Prop} {w w' : World} {base : Nat} {v v' : Value} {xs : List Pk}
theorem OwnK.nil : OwnK q w base (.slice none 0 0) [] := ⟨World.ownsRow_nil w base _ 4, by simp⟩
theorem OwnK.keep {row : Option Nat} (h : OwnK q w base v xs) (hg : w.grownBy w' row) (h1 : v.ownBlock = none ∨ v.ownBlock ≠ row) (h2 : ∀ b, b < w.heap.size → q b → some b ≠ v.ownBlock → some b ≠ row) : OwnK q w' base v xs := by
  refine ⟨World.ownsRow.kept h.1 hg h1, fun x hx => ?_⟩
  exact ((((h.2 x hx).mono (q := fun b => b < w.heap.size ∧ q b ∧ some b ≠ v.ownBlock) (fun b hb hp => ⟨hb, hp⟩)).grown hg (fun b hp => h2 b hp.1 hp.2.1 hp.2.2))).mono (fun b _ hp => hp.2)
theorem OwnK.ext (h : OwnK q w base v xs) (hb : Below w.heap.size w w') : OwnK q w' base v xs :=
  h.keep (row := none) ⟨hb.os, hb.tape, hb.output, hb.size, fun k hk _ => hb.block k hk⟩ (by cases v.ownBlock <;> simp) (fun b _ _ _ => by simp)
theorem OwnK.alloc (h : OwnK q w base v xs) (o : Obj) : OwnK q (w.alloc o) base v xs := h.ext ((Below.refl _ _).alloc (Nat.le_refl _) _)
theorem OwnK.setCell (h : OwnK q w base v xs) {a : Addr} (ha : a.block < base) (hq : ¬ q a.block) (u : Value) : OwnK q (w.setCell a u) base v xs :=
  ⟨own_set h.1 ha, fun x hx => (h.2 x hx).setCell (fun hp => hq hp.1) u⟩
theorem OwnK.mono (h : OwnK q w base v xs) (hq : ∀ b, b < w.heap.size → q b → q' b) : OwnK q' w base v xs := ⟨h.1, fun x hx => (h.2 x hx).mono fun b hb hp => ⟨hq b hb hp.1, hp.2⟩⟩
/-- Frames are appended. -/
theorem OwnK.app {ys : List Pk} (h : OwnK q w base v xs) (ho : w'.ownsRow base 30 4 v' (xs.length + ys.length) (pkCells xs ++ pkCells ys)) (hg : w.grownBy w' v.ownBlock) (ha : v'.ownBlock = v.ownBlock ∨ v'.ownBlock = some w.heap.size)
    (hy : ∀ y ∈ ys, Byt (fun b => q b ∧ some b ≠ v.ownBlock) w y.A y.n y.l) : OwnK q w' base v' (xs ++ ys) := by
  have key : ∀ y : Pk, Byt (fun b => q b ∧ some b ≠ v.ownBlock) w y.A y.n y.l → Byt (fun b => q b ∧ some b ≠ v'.ownBlock) w' y.A y.n y.l := by
    intro y hy
    refine ((hy.mono (q := fun b => b < w.heap.size ∧ q b ∧ some b ≠ v.ownBlock) (fun b hb hp => ⟨hb, hp⟩)).grown hg (fun b hp => hp.2.2)).mono (fun b _ hp => ⟨hp.2.1, ?_⟩)
    rcases ha with h1 | h1
    · rw [h1]; exact hp.2.2
    · rw [h1]
      intro e
      injection e with e
      have := hp.1
      omega
  refine ⟨by rw [pkCells_app, List.length_append]; exact ho, fun y hy' => ?_⟩
  rcases List.mem_append.1 hy' with h1 | h1
  · exact key y (h.2 y h1)
  · exact key y (hy y h1)
/-- An own row of frames is a slice of frames. -/
theorem OwnK.pks {p : Nat → Prop} (h : OwnK q w base v xs) (hp : ∀ b, base ≤ b → p b) : ∃ A c, v = .slice A xs.length c ∧ Pks p q w A xs.length xs := by
  obtain ⟨A, c, hv, hr⟩ := own_rw (p := p) h.1 hp
  exact ⟨A, c, hv, rfl, hr, fun x hx => (h.2 x hx).mono (fun _ _ hp => hp.1)⟩
end
/-- The parts of the data together. -/
theorem pieces_all (l : List Int) (k : Nat) : ∀ m, ((List.range m).flatMap fun i => pcL l k i) = l.take (m * k) := by
  intro m
  induction m with
  | zero => simp
  | succ m ih =>
    rw [List.range_succ, List.flatMap_append, ih, Nat.succ_mul, List.take_add]
    simp [pcL]
end Go.Proofs.Ytojfaonlgkicfaa
