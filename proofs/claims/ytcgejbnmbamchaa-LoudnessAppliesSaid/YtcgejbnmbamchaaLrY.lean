/- Apply of the reference. -/
import Derived.Test.YtcgejbnmbamchaaLdY
import Derived.Test.YtcgejbnmbamchaaLrA
namespace Go.Proofs.Ytcgejbnmbamchaa
open Go.RowKit
attribute [local go_sem ↓] Go.wp_at_zero Go.wp_at_succ run_min_mm run_max_mm

/-- What Apply hands back, whatever the sound and the gain. -/
def applOk (X : Snd) (g : Int) : Bool := properB X && decide (0 ≤ g ∧ g ≤ 65536)
def applO (X : Snd) (g : Int) : Snd := if applOk X g = true then applS g X else []
def applE (X : Snd) (g : Int) : Int := if applOk X g = true then 0 else 1
def apCh (g : Int) (X : Snd) (ci i d : Nat) : List Int := if d < ci then applC g (X.getD d []) else if d = ci then applC g ((X.getD d []).take i) else []
theorem apCh_start (g : Int) (X : Snd) (d : Nat) : apCh g X 0 0 d = [] := by
  unfold apCh
  rw [if_neg (by omega)]
  split <;> simp [applC]
theorem apCh_step {g : Int} {X : Snd} {ci i : Nat} {l : List Int} {x : Int} (hl : X[ci]? = some l) (hx : l[i]? = some x) : apCh g X ci i ci ++ [applV g x] = apCh g X ci (i + 1) ci := by
  unfold apCh
  rw [if_neg (by omega), if_pos rfl, if_neg (by omega), if_pos rfl, List.getD_eq_getElem?_getD, hl]
  show applC g (l.take i) ++ _ = applC g (l.take (i + 1))
  rw [take_snoc_at hx]
  simp [applC]
theorem apCh_other {g : Int} {X : Snd} {ci i j d : Nat} (h : d ≠ ci) : apCh g X ci j d = apCh g X ci i d := by
  unfold apCh
  rw [if_neg h, if_neg h]
theorem apCh_next {g : Int} {X : Snd} {ci N : Nat} {l : List Int} (hl : X[ci]? = some l) (hN : l.length = N) (d : Nat) : apCh g X (ci + 1) 0 d = apCh g X ci N d := by
  unfold apCh
  by_cases h1 : d < ci
  · rw [if_pos (by omega), if_pos h1]
  · by_cases h2 : d = ci
    · subst h2
      rw [if_pos (by omega), if_neg h1, if_pos rfl, List.getD_eq_getElem?_getD, hl]
      show applC g l = applC g (l.take N)
      rw [List.take_of_length_le (by omega)]
    · rw [if_neg (by omega), if_neg h1, if_neg h2]
      split <;> simp [applC]
theorem apCh_end {g : Int} {X : Snd} {C : Nat} (h : X.length = C) : (List.range C).map (apCh g X C 0) = applS g X := by
  apply List.ext_getElem?
  intro d
  by_cases hd : d < C
  · rw [List.getElem?_map, List.getElem?_range hd, applS, List.getElem?_map]
    obtain ⟨l, hl⟩ : ∃ l, X[d]? = some l := ⟨_, List.getElem?_eq_getElem (by omega)⟩
    rw [hl]
    show some (apCh g X C 0 d) = some (applC g l)
    unfold apCh
    rw [if_pos hd, List.getD_eq_getElem?_getD, hl]
    rfl
  · rw [List.getElem?_eq_none (by simp; omega), List.getElem?_eq_none (by simp [applS]; omega)]
def ArInv (w wr : World) (go n : Nat) (rows : List Value) (ch : Nat → List Int) : Prop := rows.length = n ∧ Own2 wr go (go + 1) rows ch ∧ Below w.heap.size w wr
theorem ArInv.cong {w w1 : World} {go n : Nat} {rows : List Value} {ch ch' : Nat → List Int} (h : ArInv w w1 go n rows ch) (hc : ∀ d, d < n → ch' d = ch d) : ArInv w w1 go n rows ch' :=
  ⟨h.1, h.2.1.cong (fun d hd => hc d (by rw [← h.1]; exact hd)), h.2.2⟩
theorem ArInv.grow {w wr w3 : World} {go n ci M : Nat} {rows : List Value} {ch ch' : Nat → List Int} {v v3 : Value} {y : Int} {o : Obj} (h : ArInv w wr go n rows ch) (hgo : w.heap.size ≤ go)
    (hv : rows[ci]? = some v) (hM : M = (ch ci).length) (ho : w3.ownsRow (go + 1) 49 1 v3 (M + 1) ((ch ci).map (Value.int .i16) ++ [.int .i16 y])) (hg : (wr.alloc o).grownBy w3 v.ownBlock) (ha : v3.ownBlock = v.ownBlock ∨ v3.ownBlock = some (wr.alloc o).heap.size)
    (hl : ch ci ++ [y] = ch' ci) (hc : ∀ d, d ≠ ci → ch' d = ch d) : ArInv w (w3.setCell ⟨go, ci, none⟩ v3) go n (rows.set ci v3) ch' := by
  obtain ⟨hrl, hO, hB⟩ := h
  have hb0 : Below wr.heap.size wr (wr.alloc o) := (Below.refl _ wr).alloc (Nat.le_refl _) o
  have hO1 := hO.ext hb0
  have hb1 : Below w.heap.size w (wr.alloc o) := hB.trans (hb0.mono hB.size)
  have hb2 : Below w.heap.size w (w3.setCell ⟨go, ci, none⟩ v3) := bset (hb1.grown hg hb1.size (fun k hk => by have := (World.ownsRow.lt (hO1.own ci v hv) k hk).1; omega)) _ (by dsimp only; omega) _
  refine ⟨by rw [List.length_set]; exact hrl, ?_, hb2⟩
  refine hO1.grow (l' := ch' ci) hv ?_ hg ha rfl hc
  unfold OwS
  rw [← hl, List.length_append, List.map_append, ← hM]
  exact ho
def ArRel (w : World) (go n : Nat) (g : Int) (X : Snd) (v : Value) (wr : World) : Prop :=
  ∃ (ci : Nat) (rows : List Value), v = .int .i64 (ci : Int) ∧ ci ≤ n ∧ ArInv w wr go n rows (apCh g X ci 0)
def ArRel2 (w : World) (go n : Nat) (g : Int) (X : Snd) (ci N : Nat) (v : Value) (wr : World) : Prop :=
  ∃ (i : Nat) (rows : List Value), v = .int .i64 (i : Int) ∧ i ≤ N ∧ ArInv w wr go n rows (apCh g X ci i)
/-- Rounded towards zero and one less where the rest is negative: rounded down. -/
theorem floor_rest (x : Int) : x / 4096 = if x.tmod 4096 < 0 then x.tdiv 4096 - 1 else x.tdiv 4096 := by
  rcases Int.le_total 0 x with h | h
  · rw [Int.tdiv_eq_ediv_of_nonneg h, Int.tmod_eq_emod_of_nonneg h]
    split <;> omega
  · have e1 : x.tdiv 4096 = -((-x) / 4096) := by
      have := Int.neg_tdiv (a := -x) (b := 4096)
      rw [Int.neg_neg] at this
      rw [this, Int.tdiv_eq_ediv_of_nonneg (by omega)]
    have e2 : x.tmod 4096 = -((-x) % 4096) := by
      have := Int.neg_tmod (a := -x) (b := 4096)
      rw [Int.neg_neg] at this
      rw [this, Int.tmod_eq_emod_of_nonneg (by omega)]
    rw [e1, e2]
    split <;> omega
theorem gain_mul' {y g : Int} (h : -32768 ≤ y ∧ y ≤ 32767) (hg : 0 ≤ g ∧ g ≤ 65536) : -2147483648 ≤ y * g ∧ y * g ≤ 2147483648 := by
  have h1 : (y * g).natAbs = y.natAbs * g.natAbs := Int.natAbs_mul _ _
  have h2 : y.natAbs * g.natAbs ≤ 32768 * 65536 := Nat.mul_le_mul (by omega) (by omega)
  omega
end Go.Proofs.Ytcgejbnmbamchaa
