/- Doubling the channels of the call's own: words. -/
import Derived.Test.YtcgejbnmbamchaaScaleM
import Derived.Test.YtcgejbnmbamchaaLdV2
namespace Go.Proofs.Ytcgejbnmbamchaa
open Go.RowKit

theorem OwS.form {w : World} {base : Nat} {v : Value} {l : List Int} (h : OwS w base v l) (hl : 0 < l.length) :
    ∃ g cap, v = .slice (some ⟨g, 0, none⟩) l.length cap ∧ base ≤ g ∧ g < w.heap.size ∧ l.length ≤ cap ∧ (∀ j x, l[j]? = some x → w.cell? ⟨g, j, none⟩ = some (.int .i16 x)) ∧ (∀ j, w.frozen? ⟨g, j, none⟩ = false) := by
  have h0 := h
  rcases h.2 with ⟨_, hn⟩ | ⟨g, cap, cur, rfl, hg, hh, hnc, hcm, hcs, htake⟩
  · omega
  · refine ⟨g, cap, rfl, hg, (World.ownsRow.lt h0 g rfl).2, hnc, fun j x hx => ?_, fun j => by simp [World.frozen?, hh]⟩
    have := World.ownsRow.cells h0 (g := g) rfl j (.int .i16 x) (by rw [List.getElem?_map, hx]; rfl)
    have hadd : (⟨g, 0, none⟩ : Addr).add j = ⟨g, j, none⟩ := by unfold Addr.add; split <;> simp_all
    rwa [hadd] at this
theorem OwS.set_ {w : World} {base : Nat} {g n cap : Nat} {l : List Int} (h : OwS w base (.slice (some ⟨g, 0, none⟩) n cap) l) (k : Nat) (x : Int) :
    OwS (w.setCell ⟨g, k, none⟩ (.int .i16 x)) base (.slice (some ⟨g, 0, none⟩) n cap) (l.set k x) := by
  rcases h.2 with ⟨hn, _⟩ | ⟨g', cap', cur, hv, hg, hh, hnc, hcm, hcs, htake⟩
  · cases hn
  · injection hv with h1 h2 h3
    injection h1 with h1
    injection h1 with h1
    subst h1 h2 h3
    refine ⟨by simp, .inr ⟨g, cap, cur.setIfInBounds k (.int .i16 x), by rw [List.length_set], hg, ?_, by rw [List.length_set]; exact hnc, hcm, by simpa using hcs, ?_⟩⟩
    · simp [World.setCell, Array.getElem?_modify, hh]
    · rw [List.length_set, Nat.mul_one] at *
      rw [Array.toList_setIfInBounds, List.take_set, htake, List.map_set]
theorem OwS.far {w : World} {base : Nat} {v : Value} {l : List Int} {a : Addr} (h : OwS w base v l) (ha : v.ownBlock ≠ some a.block) (u : Value) : OwS (w.setCell a u) base v l := by
  refine ⟨h.1, ?_⟩
  rcases h.2 with h2 | ⟨g, cap, cur, rfl, hg, hh, h4⟩
  · exact .inl h2
  · exact .inr ⟨g, cap, cur, rfl, hg, (Below.heap_setCell w a u g (fun e => ha (by rw [← e]; rfl))).trans hh, h4⟩
/-- A sample of channel c is written. -/
theorem Own2.setAt {w : World} {go base g n cap c k : Nat} {rows : List Value} {ch ch' : Nat → List Int} {y : Int} (h : Own2 w go base rows ch) (hv : rows[c]? = some (.slice (some ⟨g, 0, none⟩) n cap))
    (hl : (ch c).set k y = ch' c) (hc : ∀ d, d ≠ c → ch' d = ch d) : Own2 (w.setCell ⟨g, k, none⟩ (.int .i16 y)) go base rows ch' := by
  have hg : base ≤ g := (World.ownsRow.lt (h.own c _ hv) g rfl).1
  refine ⟨h.box.keep (Below.heap_setCell w _ _ _ (by have := h.lt; dsimp only; omega)), fun d v hd => ?_, h.sep, h.lt⟩
  by_cases hdc : d = c
  · subst hdc
    rw [hv] at hd
    injection hd with hd
    subst hd
    rw [← hl]
    exact (h.own d _ hv).set_ k y
  · rw [hc d hdc]
    refine (h.own d v hd).far ?_ _
    intro e
    rcases h.sep d c v _ hdc hd hv with h1 | h1
    · rw [h1] at e; cases e
    · exact h1 e
end Go.Proofs.Ytcgejbnmbamchaa
