/- loudness.Apply: words. -/
import Derived.Test.YtcgejbnmbamchaaLdAw
import Derived.Test.YtcgejbnmbamchaaLdV
namespace Go.Proofs.Ytcgejbnmbamchaa
open Go.RowKit

def applV (g x : Int) : Int := max (-32768) (min 32767 ((x * g + 2048) / 4096))
def applC (g : Int) (c : List Int) : List Int := c.map (applV g)
def applS (g : Int) (X : Snd) : Snd := X.map (applC g)
theorem applV_bound (g x : Int) : -32768 ≤ applV g x ∧ applV g x ≤ 32767 := by unfold applV; omega
theorem applC_smp (g : Int) (c : List Int) : Smp (applC g c) := by
  intro x hx
  obtain ⟨y, _, rfl⟩ := List.mem_map.1 hx
  exact applV_bound g y
theorem applC_len (g : Int) (c : List Int) : (applC g c).length = c.length := by simp [applC]
/-- The channels that are done, each in a block of its own below top. -/
structure ApInv (w wr : World) (go top n : Nat) (rows : List Value) (outs : List (List Int)) : Prop where
  box : Bx wr go 44 rows.toArray
  len : rows.length = n
  own : ∀ (d : Nat) (l : List Int), outs[d]? = some l → ∃ g, rows[d]? = some (.slice (some ⟨g, 0, none⟩) l.length l.length) ∧ B16 wr g l ∧ go < g ∧ g < top
  bel : Below w.heap.size w wr
  ge : w.heap.size ≤ go
section
variable {w wr w' : World} {go top n : Nat} {rows : List Value} {outs : List (List Int)}
theorem ApInv.ext (h : ApInv w wr go top n rows outs) (hb : Below wr.heap.size wr w') : ApInv w w' go top n rows outs :=
  ⟨h.box.ext hb, h.len, fun d l hl => by obtain ⟨g, h1, h2, h3, h4⟩ := h.own d l hl; exact ⟨g, h1, h2.ext hb, h3, h4⟩, h.bel.trans (hb.mono h.bel.size), h.ge⟩
theorem ApInv.drewN (h : ApInv w wr go top n rows outs) (k : Nat) : ApInv w (wr.drewN k) go top n rows outs :=
  ⟨h.box, h.len, h.own, bdrewN h.bel k, h.ge⟩
/-- A store above all that is done. -/
theorem ApInv.above (h : ApInv w wr go top n rows outs) {g i : Nat} (hg : top ≤ g) (hgo : go < g) (v : Value) : ApInv w (wr.setCell ⟨g, i, none⟩ v) go top n rows outs :=
  ⟨h.box.far (a := ⟨g, i, none⟩) (by dsimp only; omega) v, h.len, fun d l hl => by
    obtain ⟨g', h1, h2, h3, h4⟩ := h.own d l hl
    exact ⟨g', h1, (Below.heap_setCell wr ⟨g, i, none⟩ v g' (by dsimp only; omega)).trans h2, h3, h4⟩, bset h.bel _ (by have := h.ge; dsimp only; omega) v, h.ge⟩
/-- The next channel's block is laid. -/
theorem ApInv.lay (h : ApInv w wr go top n rows outs) {ci : Nat} (hci : outs.length = ci) (v : Value) : ApInv w (wr.setCell ⟨go, ci, none⟩ v) go top n (rows.set ci v) outs := by
  refine ⟨by have := h.box.set_ ci v; simpa using this, by rw [List.length_set]; exact h.len, fun d l hl => ?_, bset h.bel _ (by have := h.ge; dsimp only; omega) v, h.ge⟩
  obtain ⟨g', h1, h2, h3, h4⟩ := h.own d l hl
  have hd : d < outs.length := (List.getElem?_eq_some_iff.1 hl).1
  exact ⟨g', by rw [List.getElem?_set_ne (by omega)]; exact h1, (Below.heap_setCell wr ⟨go, ci, none⟩ v g' (by dsimp only; omega)).trans h2, h3, h4⟩
theorem ApInv.done (h : ApInv w wr go top n rows outs) {g : Nat} {l : List Int} (hg : top ≤ g) (hgo : go < g) (hr : rows[outs.length]? = some (.slice (some ⟨g, 0, none⟩) l.length l.length)) (hb : B16 wr g l) : ApInv w wr go (g + 1) n rows (outs ++ [l]) := by
  refine ⟨h.box, h.len, fun d l' hl => ?_, h.bel, h.ge⟩
  by_cases hd : d < outs.length
  · rw [List.getElem?_append_left hd] at hl
    obtain ⟨g', h1, h2, h3, h4⟩ := h.own d l' hl
    exact ⟨g', h1, h2, h3, by omega⟩
  · rw [List.getElem?_append_right (by omega)] at hl
    have hd0 : d - outs.length = 0 := by
      rcases Nat.eq_zero_or_pos (d - outs.length) with h | h
      · exact h
      · rw [List.getElem?_eq_none (by simp; omega)] at hl; cases hl
    rw [hd0] at hl
    simp at hl
    subst hl
    have : d = outs.length := by omega
    subst this
    exact ⟨g, hr, hb, hgo, by omega⟩
theorem ApInv.pcm {p : Nat → Prop} (h : ApInv w wr go top n rows outs) (hn : outs.length = n) (hs : ∀ c ∈ outs, Smp c) (hp : ∀ b, go ≤ b → p b) : ∃ ys, sndOf ys = outs ∧ Pcm p wr (some ⟨go, 0, none⟩) n ys := by
  have build : ∀ k, k ≤ outs.length → ∃ ys : List Ch, ys.length = k ∧ ∀ d, d < k → ∃ y l, ys[d]? = some y ∧ outs[d]? = some l ∧ y.l = l ∧ rows[d]? = some y.val ∧ Its .i16 p wr y.A y.n y.l ∧ y.n ≤ y.c := by
    intro k
    induction k with
    | zero => intro _; exact ⟨[], rfl, fun d hd => absurd hd (by omega)⟩
    | succ k ih =>
      intro hk
      obtain ⟨ys, hl, hys⟩ := ih (by omega)
      obtain ⟨l, hol⟩ : ∃ l, outs[k]? = some l := ⟨_, List.getElem?_eq_getElem (by omega)⟩
      obtain ⟨g, h1, h2, h3, _⟩ := h.own k l hol
      refine ⟨ys ++ [⟨some ⟨g, 0, none⟩, l.length, l.length, l⟩], by simp [hl], fun d hd => ?_⟩
      by_cases hdk : d < k
      · obtain ⟨y, l', hy, hr⟩ := hys d hdk
        exact ⟨y, l', by rw [List.getElem?_append_left (by omega)]; exact hy, hr⟩
      · obtain rfl : d = k := by omega
        exact ⟨⟨some ⟨g, 0, none⟩, l.length, l.length, l⟩, l, by rw [List.getElem?_append_right (by omega), hl]; simp, hol, rfl, h1, h2.its (hp g (by omega)), Nat.le_refl _⟩
  obtain ⟨ys, hl, hys⟩ := build outs.length (Nat.le_refl _)
  refine ⟨ys, ?_, ⟨by simp; omega, fun hn0 => ⟨go, 0, rfl, hp go (Nat.le_refl _), h.box.lt, fun j x hx => ?_⟩⟩, fun y hy => ?_⟩
  · apply List.ext_getElem?
    intro d
    by_cases hd : d < outs.length
    · obtain ⟨y, l, hy, ho, h3, _⟩ := hys d hd
      rw [sndOf, List.getElem?_map, hy, ho]
      simp [h3]
    · rw [List.getElem?_eq_none (by simp [sndOf]; omega), List.getElem?_eq_none (by omega)]
  · rw [List.getElem?_map] at hx
    rcases hq : ys[j]? with _ | y
    · rw [hq] at hx; cases hx
    · rw [hq] at hx
      have hj : j < ys.length := (List.getElem?_eq_some_iff.1 hq).1
      obtain ⟨y', l, hy', _, _, h2, _⟩ := hys j (by omega)
      rw [hq] at hy'
      injection hy' with hy'
      subst hy'
      injection hx with hx
      subst hx
      rw [Nat.zero_add]
      exact h.box.cell j (by simpa using h2)
  · obtain ⟨j, hj, rfl⟩ := List.getElem_of_mem hy
    obtain ⟨y, l, hy', ho, h3, _, h4, h5⟩ := hys j (by omega)
    rw [List.getElem?_eq_getElem hj] at hy'
    injection hy' with hy'
    subst hy'
    exact ⟨h4, by rw [h3]; exact hs l (List.mem_of_getElem? ho), h5⟩
end
theorem ap_set {g : Int} {l : List Int} {N i : Nat} {x : Int} (hl : l.length = N) (hx : l[i]? = some x) : (applC g (l.take i) ++ List.replicate (N - i) 0).set i (applV g x) = applC g (l.take (i + 1)) ++ List.replicate (N - (i + 1)) 0 := by
  have hi : i < N := by rw [← hl]; exact (List.getElem?_eq_some_iff.1 hx).1
  have hlen : (applC g (l.take i)).length = i := by rw [applC_len, List.length_take]; omega
  rw [List.set_append_right _ _ (by omega), hlen, Nat.sub_self]
  obtain ⟨m, hm⟩ : ∃ m, N - i = m + 1 := ⟨N - i - 1, by omega⟩
  rw [hm, List.replicate_succ, List.set_cons_zero, show N - (i + 1) = m by omega, take_snoc_at hx]
  simp [applC]
end Go.Proofs.Ytcgejbnmbamchaa
