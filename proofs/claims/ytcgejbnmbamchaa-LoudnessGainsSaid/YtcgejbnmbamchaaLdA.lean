/- loudness.proper. -/
import Derived.Test.YtcgejbnmbamchaaLdW
import Derived.Test.YtcgejbnmbamchaaRatA
namespace Go.Proofs.Ytcgejbnmbamchaa
open Go.RowKit

theorem proper_of {p : Nat → Prop} {w : World} {A : Option Addr} {n : Nat} {xs : List Ch} (h : Pcm p w A n xs) (x0 : Ch) (h0 : xs[0]? = some x0) (h1 : 1 ≤ n) (h4 : n ≤ 4) (hall : ∀ j x, j < n → xs[j]? = some x → x.n = x0.n ∧ x.n ≤ 1048576) : properB (sndOf xs) = true := by
  have hw : ((sndOf xs).headD []).length = x0.l.length := snd_head h0
  simp only [properB, Bool.and_eq_true, decide_eq_true_eq, List.all_eq_true, h.slen, hw]
  refine ⟨⟨h1, h4⟩, fun c hc => ?_⟩
  obtain ⟨x, hx, rfl⟩ := List.mem_map.1 hc
  obtain ⟨j, hj, rfl⟩ := List.getElem_of_mem hx
  have := hall j xs[j] (by rw [← h.len]; exact hj) (List.getElem?_eq_getElem hj)
  have e1 := (h.2 _ hx).1.len
  have e2 := (h.2 x0 (List.mem_of_getElem? h0)).1.len
  omega
theorem proper_not {p : Nat → Prop} {w : World} {A : Option Addr} {n : Nat} {xs : List Ch} (h : Pcm p w A n xs) (x0 x : Ch) (k : Nat) (h0 : xs[0]? = some x0) (hx : xs[k]? = some x) (hn : x.n ≠ x0.n ∨ 1048576 < x.n) : properB (sndOf xs) = false := by
  have hw : ((sndOf xs).headD []).length = x0.l.length := snd_head h0
  rw [Bool.eq_false_iff]
  intro hp
  simp only [properB, Bool.and_eq_true, decide_eq_true_eq, List.all_eq_true, hw] at hp
  have := hp.2 x.l (List.mem_map_of_mem (List.mem_of_getElem? hx))
  have e1 := (h.2 _ (List.mem_of_getElem? hx)).1.len
  have e2 := (h.2 x0 (List.mem_of_getElem? h0)).1.len
  omega
theorem proper_len {p : Nat → Prop} {w : World} {A : Option Addr} {n : Nat} {xs : List Ch} (h : Pcm p w A n xs) (hn : n < 1 ∨ 4 < n) : properB (sndOf xs) = false := by
  rw [Bool.eq_false_iff]
  intro hp
  have := proper_spec hp
  rw [h.slen] at this
  omega
def PrRel (w : World) (n : Nat) (xs : List Ch) (x0 : Ch) (i : Value) (wr : World) : Prop :=
  ∃ k m : Nat, i = .int .i64 (k : Int) ∧ k ≤ n ∧ (∀ j x, j < k → xs[j]? = some x → x.n = x0.n ∧ x.n ≤ 1048576) ∧ wr = w.drewN m
set_option maxRecDepth 100000 in
set_option maxHeartbeats 1000000 in
theorem ld_proper {p : Nat → Prop} (A : Option Addr) (n c : Nat) (xs : List Ch) (w : World) (h : Pcm p w A n xs) :
    Calls Try.prog 33 #[.slice A n c] w fun e w' => e = .returned (.bool (properB (sndOf xs))) ∧ ∃ m, w' = w.drewN m := by
  by_cases h1 : n < 1
  · rw [proper_len h (.inl h1)]
    clear h
    go_enter Try.func33, Try.ntmps33
    go_wp2
    all_goals
      go_ret
      exact ⟨rfl, 0, rfl⟩
  by_cases h4 : 4 < n
  · rw [proper_len h (.inr h4)]
    clear h
    go_enter Try.func33, Try.ntmps33
    go_wp2
    all_goals
      go_ret
      exact ⟨rfl, 0, rfl⟩
  obtain ⟨b, off, x0, rfl, hpb, hb, hx0, hc0, hi0, _, _, _⟩ := h.at_ (i := 0) (by omega)
  have H := Lib.hid h
  clear h hi0
  have HX := Lib.hid hx0
  clear hx0
  rw [Nat.add_zero] at hc0
  go_enter Try.func33, Try.ntmps33
  go_wp2
  go_loopw [15] (fun i wr => PrRel w n xs x0 i wr) (fun i _ => n - (intOf i).toNat)
  case atStart => exact ⟨0, 0, rfl, by omega, fun j x hj => absurd hj (by omega), rfl⟩
  case round =>
    obtain ⟨k, m, rfl, hk, hall, rfl⟩ := hrel
    by_cases hlt : k < n
    · obtain ⟨b', off', x, hA, _, _, hx, hc, _, _, _, _⟩ := H.out.at_ hlt
      injection hA with hA
      injection hA with e1 e2
      subst e1 e2
      have hc0' : (w.drewN m).cell? ⟨b, off, none⟩ = _ := hc0
      have hc' : (w.drewN m).cell? ⟨b, off + k, none⟩ = _ := hc
      have HXK := Lib.hid hx
      have HALL := Lib.hid hall
      clear hx hall
      by_cases e1 : x.n = x0.n
      · by_cases e2 : 1048576 < x.n
        · have HR := Lib.hid (proper_not H.out x0 x k HX.out HXK.out (.inr e2))
          go_wp2
          all_goals
            go_ret
            exact ⟨ret_bool HR.out.symm, m, rfl⟩
        · go_wp2
          all_goals go_roundw
          case rel =>
            refine ⟨k + 1, m, by go_num, by omega, fun j y hj hy => ?_, rfl⟩
            rcases Nat.lt_or_ge j k with hjk | hjk
            · exact HALL.out j y hjk hy
            · obtain rfl : j = k := by omega
              rw [HXK.out] at hy
              injection hy with hy
              subst hy
              exact ⟨e1, by omega⟩
          case measure => simp [intOf]; omega
      · have HR := Lib.hid (proper_not H.out x0 x k HX.out HXK.out (.inl e1))
        have e1' : ¬ (x.n : Int) = (x0.n : Int) := by omega
        go_wp2
        all_goals
          go_ret
          exact ⟨ret_bool HR.out.symm, m, rfl⟩
    · obtain rfl : k = n := by omega
      have HR := Lib.hid (proper_of H.out x0 HX.out (by omega) (by omega) hall)
      clear hall
      go_wp2
      all_goals
        go_ret
        exact ⟨ret_bool HR.out.symm, m, rfl⟩
end Go.Proofs.Ytcgejbnmbamchaa
