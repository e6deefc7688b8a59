/- Both Takes answer alike, whatever the bytes. -/
import Derived.Test.YtojfaonlgkicfaaTakeDa
import Derived.Test.YtojfaonlgkicfaaTakeEa
import Derived.Test.YtojfaonlgkicfaaTakeEb
import Derived.Test.YtojfaonlgkicfaaTakeEc
import Derived.Test.YtojfaonlgkicfaaTakeRb
import Derived.Test.YtojfaonlgkicfaaTakeRc
import Derived.Test.YtojfaonlgkicfaaTakeRd
import Derived.Test.YtojfaonlgkicfaaTakeRf
import Derived.Test.YtojfaonlgkicfaaTakeRg
import Derived.Test.YtojfaonlgkicfaaTakeRh
import Derived.Test.YtojfaonlgkicfaaTakeRi
namespace Go.Proofs.Ytojfaonlgkicfaa
open Go.RowKit

theorem Byt.cellsAt {q : Nat → Prop} {W : World} {b off n : Nat} {l : List Int} (h : Byt q W (some ⟨b, off, none⟩) n l) (hn : 0 < n) : b < W.heap.size ∧ ∀ j x, l[j]? = some x → W.cell? ⟨b, off + j, none⟩ = some (.int .u8 x) := by
  obtain ⟨b', o', hA, _, hb, hc⟩ := h.addr hn
  injection hA with hA
  injection hA with h1 h2
  subst h1 h2
  exact ⟨hb, hc⟩
theorem stamp_eq {k y0 y1 y2 y3 y4 : Int} (hk : 0 ≤ k ∧ k ≤ 15) (h0 : 0 ≤ y0 ∧ y0 ≤ 255) (h1 : 0 ≤ y1 ∧ y1 ≤ 255) (h2 : 0 ≤ y2 ∧ y2 ≤ 255) (h3 : 0 ≤ y3 ∧ y3 ≤ 255) (h4 : 0 ≤ y4 ∧ y4 ≤ 255) :
    stampL k (tsV y0 y1 y2 y3 y4) = [y0, y1, y2, y3, y4] ↔ tsOk k y0 y2 y4 = true := by
  have e0 : tsV y0 y1 y2 y3 y4 / 1073741824 = y0 / 2 % 8 := by unfold tsV; omega
  have e1 : tsV y0 y1 y2 y3 y4 / 4194304 % 256 = y1 := by unfold tsV; omega
  have e2 : tsV y0 y1 y2 y3 y4 / 32768 % 128 = y2 / 2 := by unfold tsV; omega
  have e3 : tsV y0 y1 y2 y3 y4 / 128 % 256 = y3 := by unfold tsV; omega
  have e4 : tsV y0 y1 y2 y3 y4 % 128 = y4 / 2 := by unfold tsV; omega
  unfold stampL
  rw [e0, e1, e2, e3, e4]
  simp only [tsOk, decide_eq_true_eq, List.cons.injEq, and_true, true_and]
  omega
theorem take_split {α : Type} (a b : List α) (k m : Nat) (hk : a.length = k) : (a ++ b).take (k + m) = a ++ b.take m := by
  subst hk
  rw [List.take_append, List.take_of_length_le (by omega)]
  simp
theorem drop_split {α : Type} (a b : List α) (k : Nat) (hk : a.length = k) : (a ++ b).drop k = b := by
  subst hk
  simp

/-- What is known of the answers: of an accepted packet, and of none. -/
structure Ans (l : List Int) (n : Nat) (s p d : Int) (data : List Int) (m code : Int) : Prop where
  yes : code = 0 → validP s p d = true ∧ putNum p d data ≤ 65535 ∧ 0 ≤ m ∧ m ≤ n ∧ putL s p d data = l.take m.toNat
  no : code ≠ 0 → s = 0 ∧ p = 0 ∧ d = 0 ∧ data = [] ∧ m = 0
theorem Ans.zero (l : List Int) (n : Nat) (code : Int) (h : code ≠ 0) : Ans l n 0 0 0 [] 0 code := ⟨fun e => absurd e h, fun _ => ⟨rfl, rfl, rfl, rfl, rfl⟩⟩

/-- Both Takes of the same bytes. -/
def Both (q : Nat → Prop) (A : Option Addr) (n c : Nat) (l : List Int) : Prop :=
  ∃ (s p d : Int) (data : List Int) (m code : Int), Ans l n s p d data m code ∧ ∀ W, Byt q W A n l →
    Calls Try.prog 22 #[.slice A n c] W (RetT W s p d data m code) ∧ Calls Try.prog 23 #[.slice A n c] W (RetT W s p d data m code)

theorem both_0 {q : Nat → Prop} {b off n c N : Nat} {rest : List Int} (x3 x4 x5 : Int) (hn : 9 ≤ n) (hnc : n ≤ c) (hn2 : n ≤ 1000000) (hlen : (0 :: 0 :: 1 :: x3 :: x4 :: x5 :: 128 :: 0 :: 0 :: rest : List Int).length = n)
    (h3 : 192 ≤ x3 ∧ x3 ≤ 239) (h4 : 0 ≤ x4 ∧ x4 ≤ 255) (h5 : 0 ≤ x5 ∧ x5 ≤ 255) (hN : (N : Int) = x4 * 256 + x5) (hNz : 3 ≤ N) (hle : 6 + N ≤ n) : Both q (some ⟨b, off, none⟩) n c (0 :: 0 :: 1 :: x3 :: x4 :: x5 :: 128 :: 0 :: 0 :: rest) := by
  have heq : putL x3 (-1) (-1) (((0 :: 0 :: 1 :: x3 :: x4 :: x5 :: 128 :: 0 :: 0 :: rest).drop 9).take (N - 3)) = (0 :: 0 :: 1 :: x3 :: x4 :: x5 :: 128 :: 0 :: 0 :: rest : List Int).take (6 + N) := by
    have hl : (rest.take (N - 3)).length = N - 3 := by simp at hlen ⊢; omega
    have hp : putNum (-1) (-1) (rest.take (N - 3)) = N := by unfold putNum; rw [hl, show (headL (-1) (-1)).2.length = 0 from rfl]; omega
    have := take_split [0, 0, 1, x3, x4, x5, 128, 0, 0] rest 9 (N - 3) rfl
    rw [show 9 + (N - 3) = 6 + N by omega] at this
    show putL x3 (-1) (-1) (rest.take (N - 3)) = ([0, 0, 1, x3, x4, x5, 128, 0, 0] ++ rest).take (6 + N)
    rw [this]
    unfold putL
    rw [hp, show (headL (-1) (-1)) = (0, []) from rfl, show (N : Int) / 256 = x4 by omega, show (N : Int) % 256 = x5 by omega]
    simp
  refine ⟨x3, -1, -1, ((0 :: 0 :: 1 :: x3 :: x4 :: x5 :: 128 :: 0 :: 0 :: rest).drop 9).take (N - 3), 6 + (N : Int), 0, ⟨fun _ => ⟨?_, ?_, ?_, ?_, ?_⟩, fun h => absurd rfl h⟩, fun W hW => ⟨?_, ?_⟩⟩
  rotate_left 5
  · obtain ⟨hb, hc⟩ := hW.cellsAt (by omega)
    exact pes_Take_ok0 x3 x4 x5 W hW hn hb hnc hn2 ⟨hc 0 _ rfl, hc 1 _ rfl, hc 2 _ rfl, hc 3 _ rfl, hc 4 _ rfl, hc 5 _ rfl, hc 6 _ rfl, hc 7 _ rfl, hc 8 _ rfl⟩ h3 h4 h5 hN hNz hle
  · obtain ⟨hb, hc⟩ := hW.cellsAt (by omega)
    exact ref_Take_k0 x3 x4 x5 W hW hn hb hnc hn2 ⟨hc 0 _ rfl, hc 1 _ rfl, hc 2 _ rfl, hc 3 _ rfl, hc 4 _ rfl, hc 5 _ rfl, hc 6 _ rfl, hc 7 _ rfl, hc 8 _ rfl⟩ h3 h4 h5 hN hNz hle heq
  · simp [validP]; omega
  · unfold putNum
    rw [show (headL (-1) (-1)).2.length = 0 from rfl, List.length_take]
    omega
  · omega
  · omega
  · rw [show (6 + (N : Int)).toNat = 6 + N by omega]; exact heq

theorem both_1 {q : Nat → Prop} {b off n c N : Nat} {rest : List Int} (x3 x4 x5 y0 y1 y2 y3 y4 : Int) (hn : 9 ≤ n) (hnc : n ≤ c) (hn2 : n ≤ 1000000) (hlen : (0 :: 0 :: 1 :: x3 :: x4 :: x5 :: 128 :: 128 :: 5 :: y0 :: y1 :: y2 :: y3 :: y4 :: rest : List Int).length = n) (hry0 : 0 ≤ y0 ∧ y0 ≤ 255) (hry1 : 0 ≤ y1 ∧ y1 ≤ 255) (hry2 : 0 ≤ y2 ∧ y2 ≤ 255) (hry3 : 0 ≤ y3 ∧ y3 ≤ 255) (hry4 : 0 ≤ y4 ∧ y4 ≤ 255)
    (h3 : 192 ≤ x3 ∧ x3 ≤ 239) (h4 : 0 ≤ x4 ∧ x4 ≤ 255) (h5 : 0 ≤ x5 ∧ x5 ≤ 255) (hN : (N : Int) = x4 * 256 + x5) (hNz : 8 ≤ N) (hle : 6 + N ≤ n) : Both q (some ⟨b, off, none⟩) n c (0 :: 0 :: 1 :: x3 :: x4 :: x5 :: 128 :: 128 :: 5 :: y0 :: y1 :: y2 :: y3 :: y4 :: rest) := by
  have tr := tsV_rng hry0 hry1 hry2 hry3 hry4
  have hl : (rest.take (N - 8)).length = N - 8 := by simp at hlen ⊢; omega
  have hhd : headL (tsV y0 y1 y2 y3 y4) (-1) = (128, stampL 2 (tsV y0 y1 y2 y3 y4)) := by unfold headL; rw [if_neg (by omega), if_pos (by omega)]
  have hp : putNum (tsV y0 y1 y2 y3 y4) (-1) (rest.take (N - 8)) = N := by unfold putNum; rw [hl, hhd, show (stampL 2 (tsV y0 y1 y2 y3 y4)).length = 5 from rfl]; omega
  have hval : validP x3 (tsV y0 y1 y2 y3 y4) (-1) = true := by simp [validP]; omega
  have heq : putL x3 (tsV y0 y1 y2 y3 y4) (-1) (((0 :: 0 :: 1 :: x3 :: x4 :: x5 :: 128 :: 128 :: 5 :: y0 :: y1 :: y2 :: y3 :: y4 :: rest).drop 14).take (N - 8)) = (0 :: 0 :: 1 :: x3 :: x4 :: x5 :: 128 :: 128 :: 5 :: y0 :: y1 :: y2 :: y3 :: y4 :: rest : List Int).take (6 + N) ↔ stampL 2 (tsV y0 y1 y2 y3 y4) = [y0, y1, y2, y3, y4] := by
    have := take_split [0, 0, 1, x3, x4, x5, 128, 128, 5, y0, y1, y2, y3, y4] rest 14 (N - 8) rfl
    rw [show 14 + (N - 8) = 6 + N by omega] at this
    show putL x3 (tsV y0 y1 y2 y3 y4) (-1) (rest.take (N - 8)) = ([0, 0, 1, x3, x4, x5, 128, 128, 5, y0, y1, y2, y3, y4] ++ rest).take (6 + N) ↔ _
    rw [this]
    unfold putL
    rw [hp, hhd, show (N : Int) / 256 = x4 by omega, show (N : Int) % 256 = x5 by omega]
    show (([0, 0, 1, x3, x4, x5, 128, 128, 5] : List Int) ++ stampL 2 (tsV y0 y1 y2 y3 y4)) ++ rest.take (N - 8) = ([0, 0, 1, x3, x4, x5, 128, 128, 5] ++ [y0, y1, y2, y3, y4]) ++ rest.take (N - 8) ↔ _
    rw [List.append_left_inj, List.append_right_inj]
  rcases ht : tsOk 2 y0 y2 y4 with _ | _
  · refine ⟨0, 0, 0, [], 0, 3, Ans.zero _ _ _ (by decide), fun W hW => ?_⟩
    obtain ⟨hb, hc⟩ := hW.cellsAt (by omega)
    exact ⟨pes_Take_bad1 x3 x4 x5 y0 y1 y2 y3 y4 W hW hn hb hnc hn2 ⟨hc 0 _ rfl, hc 1 _ rfl, hc 2 _ rfl, hc 3 _ rfl, hc 4 _ rfl, hc 5 _ rfl, hc 6 _ rfl, hc 7 _ rfl, hc 8 _ rfl⟩ ⟨hc 9 _ rfl, hc 10 _ rfl, hc 11 _ rfl, hc 12 _ rfl, hc 13 _ rfl⟩ hry0 hry1 hry2 hry3 hry4 h3 h4 h5 hN hNz hle ht,
      ref_Take_k1n x3 x4 x5 y0 y1 y2 y3 y4 W hW hn hb hnc hn2 ⟨hc 0 _ rfl, hc 1 _ rfl, hc 2 _ rfl, hc 3 _ rfl, hc 4 _ rfl, hc 5 _ rfl, hc 6 _ rfl, hc 7 _ rfl, hc 8 _ rfl⟩ ⟨hc 9 _ rfl, hc 10 _ rfl, hc 11 _ rfl, hc 12 _ rfl, hc 13 _ rfl⟩ hry0 hry1 hry2 hry3 hry4 h3 h4 h5 hN hNz hle (fun e => by rw [heq, stamp_eq (by omega) hry0 hry1 hry2 hry3 hry4, ht] at e; cases e)⟩
  · have heq' := heq.2 ((stamp_eq (by omega) hry0 hry1 hry2 hry3 hry4).2 ht)
    refine ⟨x3, (tsV y0 y1 y2 y3 y4), -1, ((0 :: 0 :: 1 :: x3 :: x4 :: x5 :: 128 :: 128 :: 5 :: y0 :: y1 :: y2 :: y3 :: y4 :: rest).drop 14).take (N - 8), 6 + (N : Int), 0, ⟨fun _ => ⟨hval, ?_, by omega, by omega, by rw [show (6 + (N : Int)).toNat = 6 + N by omega]; exact heq'⟩, fun h => absurd rfl h⟩, fun W hW => ?_⟩
    · show putNum (tsV y0 y1 y2 y3 y4) (-1) (rest.take (N - 8)) ≤ 65535
      rw [hp]; omega
    · obtain ⟨hb, hc⟩ := hW.cellsAt (by omega)
      exact ⟨pes_Take_ok1 x3 x4 x5 y0 y1 y2 y3 y4 W hW hn hb hnc hn2 ⟨hc 0 _ rfl, hc 1 _ rfl, hc 2 _ rfl, hc 3 _ rfl, hc 4 _ rfl, hc 5 _ rfl, hc 6 _ rfl, hc 7 _ rfl, hc 8 _ rfl⟩ ⟨hc 9 _ rfl, hc 10 _ rfl, hc 11 _ rfl, hc 12 _ rfl, hc 13 _ rfl⟩ hry0 hry1 hry2 hry3 hry4 h3 h4 h5 hN hNz hle ht,
        ref_Take_k1y x3 x4 x5 y0 y1 y2 y3 y4 W hW hn hb hnc hn2 ⟨hc 0 _ rfl, hc 1 _ rfl, hc 2 _ rfl, hc 3 _ rfl, hc 4 _ rfl, hc 5 _ rfl, hc 6 _ rfl, hc 7 _ rfl, hc 8 _ rfl⟩ ⟨hc 9 _ rfl, hc 10 _ rfl, hc 11 _ rfl, hc 12 _ rfl, hc 13 _ rfl⟩ hry0 hry1 hry2 hry3 hry4 h3 h4 h5 hN hNz hle heq'⟩

theorem both_2 {q : Nat → Prop} {b off n c N : Nat} {rest : List Int} (x3 x4 x5 y0 y1 y2 y3 y4 z0 z1 z2 z3 z4 : Int) (hn : 9 ≤ n) (hnc : n ≤ c) (hn2 : n ≤ 1000000) (hlen : (0 :: 0 :: 1 :: x3 :: x4 :: x5 :: 128 :: 192 :: 10 :: y0 :: y1 :: y2 :: y3 :: y4 :: z0 :: z1 :: z2 :: z3 :: z4 :: rest : List Int).length = n) (hry0 : 0 ≤ y0 ∧ y0 ≤ 255) (hry1 : 0 ≤ y1 ∧ y1 ≤ 255) (hry2 : 0 ≤ y2 ∧ y2 ≤ 255) (hry3 : 0 ≤ y3 ∧ y3 ≤ 255) (hry4 : 0 ≤ y4 ∧ y4 ≤ 255) (hrz0 : 0 ≤ z0 ∧ z0 ≤ 255) (hrz1 : 0 ≤ z1 ∧ z1 ≤ 255) (hrz2 : 0 ≤ z2 ∧ z2 ≤ 255) (hrz3 : 0 ≤ z3 ∧ z3 ≤ 255) (hrz4 : 0 ≤ z4 ∧ z4 ≤ 255)
    (h3 : 192 ≤ x3 ∧ x3 ≤ 239) (h4 : 0 ≤ x4 ∧ x4 ≤ 255) (h5 : 0 ≤ x5 ∧ x5 ≤ 255) (hN : (N : Int) = x4 * 256 + x5) (hNz : 13 ≤ N) (hle : 6 + N ≤ n) : Both q (some ⟨b, off, none⟩) n c (0 :: 0 :: 1 :: x3 :: x4 :: x5 :: 128 :: 192 :: 10 :: y0 :: y1 :: y2 :: y3 :: y4 :: z0 :: z1 :: z2 :: z3 :: z4 :: rest) := by
  have tr := tsV_rng hry0 hry1 hry2 hry3 hry4
  have tr2 := tsV_rng hrz0 hrz1 hrz2 hrz3 hrz4
  have hl : (rest.take (N - 13)).length = N - 13 := by simp at hlen ⊢; omega
  have hhd : headL (tsV y0 y1 y2 y3 y4) (tsV z0 z1 z2 z3 z4) = (192, stampL 3 (tsV y0 y1 y2 y3 y4) ++ stampL 1 (tsV z0 z1 z2 z3 z4)) := by unfold headL; rw [if_neg (by omega), if_neg (by omega)]
  have hp : putNum (tsV y0 y1 y2 y3 y4) (tsV z0 z1 z2 z3 z4) (rest.take (N - 13)) = N := by unfold putNum; rw [hl, hhd, show (stampL 3 (tsV y0 y1 y2 y3 y4) ++ stampL 1 (tsV z0 z1 z2 z3 z4)).length = 10 from rfl]; omega
  have hval : validP x3 (tsV y0 y1 y2 y3 y4) (tsV z0 z1 z2 z3 z4) = true := by simp [validP]; omega
  have heq : putL x3 (tsV y0 y1 y2 y3 y4) (tsV z0 z1 z2 z3 z4) (((0 :: 0 :: 1 :: x3 :: x4 :: x5 :: 128 :: 192 :: 10 :: y0 :: y1 :: y2 :: y3 :: y4 :: z0 :: z1 :: z2 :: z3 :: z4 :: rest).drop 19).take (N - 13)) = (0 :: 0 :: 1 :: x3 :: x4 :: x5 :: 128 :: 192 :: 10 :: y0 :: y1 :: y2 :: y3 :: y4 :: z0 :: z1 :: z2 :: z3 :: z4 :: rest : List Int).take (6 + N) ↔ stampL 3 (tsV y0 y1 y2 y3 y4) = [y0, y1, y2, y3, y4] ∧ stampL 1 (tsV z0 z1 z2 z3 z4) = [z0, z1, z2, z3, z4] := by
    have := take_split [0, 0, 1, x3, x4, x5, 128, 192, 10, y0, y1, y2, y3, y4, z0, z1, z2, z3, z4] rest 19 (N - 13) rfl
    rw [show 19 + (N - 13) = 6 + N by omega] at this
    show putL x3 (tsV y0 y1 y2 y3 y4) (tsV z0 z1 z2 z3 z4) (rest.take (N - 13)) = ([0, 0, 1, x3, x4, x5, 128, 192, 10, y0, y1, y2, y3, y4, z0, z1, z2, z3, z4] ++ rest).take (6 + N) ↔ _
    rw [this]
    unfold putL
    rw [hp, hhd, show (N : Int) / 256 = x4 by omega, show (N : Int) % 256 = x5 by omega]
    show (([0, 0, 1, x3, x4, x5, 128, 192, 10] : List Int) ++ (stampL 3 (tsV y0 y1 y2 y3 y4) ++ stampL 1 (tsV z0 z1 z2 z3 z4))) ++ rest.take (N - 13) = ([0, 0, 1, x3, x4, x5, 128, 192, 10] ++ ([y0, y1, y2, y3, y4] ++ [z0, z1, z2, z3, z4])) ++ rest.take (N - 13) ↔ _
    rw [List.append_left_inj, List.append_right_inj]
    constructor
    · intro h
      exact List.append_inj h rfl
    · rintro ⟨h1, h2⟩
      rw [h1, h2]
  have hno : (tsOk 3 y0 y2 y4 = false ∨ tsOk 1 z0 z2 z4 = false) → putL x3 (tsV y0 y1 y2 y3 y4) (tsV z0 z1 z2 z3 z4) (((0 :: 0 :: 1 :: x3 :: x4 :: x5 :: 128 :: 192 :: 10 :: y0 :: y1 :: y2 :: y3 :: y4 :: z0 :: z1 :: z2 :: z3 :: z4 :: rest).drop 19).take (N - 13)) ≠ (0 :: 0 :: 1 :: x3 :: x4 :: x5 :: 128 :: 192 :: 10 :: y0 :: y1 :: y2 :: y3 :: y4 :: z0 :: z1 :: z2 :: z3 :: z4 :: rest : List Int).take (6 + N) := by
    intro h e
    rw [heq, stamp_eq (by omega) hry0 hry1 hry2 hry3 hry4, stamp_eq (by omega) hrz0 hrz1 hrz2 hrz3 hrz4] at e
    rcases h with h | h
    · rw [h] at e; cases e.1
    · rw [h] at e; cases e.2
  rcases ht : tsOk 3 y0 y2 y4 with _ | _ <;> rcases hu : tsOk 1 z0 z2 z4 with _ | _
  · refine ⟨0, 0, 0, [], 0, 3, Ans.zero _ _ _ (by decide), fun W hW => ?_⟩
    obtain ⟨hb, hc⟩ := hW.cellsAt (by omega)
    exact ⟨pes_Take_bada x3 x4 x5 y0 y1 y2 y3 y4 z0 z1 z2 z3 z4 W hW hn hb hnc hn2 ⟨hc 0 _ rfl, hc 1 _ rfl, hc 2 _ rfl, hc 3 _ rfl, hc 4 _ rfl, hc 5 _ rfl, hc 6 _ rfl, hc 7 _ rfl, hc 8 _ rfl⟩ ⟨⟨hc 9 _ rfl, hc 10 _ rfl, hc 11 _ rfl, hc 12 _ rfl, hc 13 _ rfl⟩, ⟨hc 14 _ rfl, hc 15 _ rfl, hc 16 _ rfl, hc 17 _ rfl, hc 18 _ rfl⟩⟩ hry0 hry1 hry2 hry3 hry4 hrz0 hrz1 hrz2 hrz3 hrz4 h3 h4 h5 hN hNz hle ht hu,
      ref_Take_k2n x3 x4 x5 y0 y1 y2 y3 y4 z0 z1 z2 z3 z4 W hW hn hb hnc hn2 ⟨hc 0 _ rfl, hc 1 _ rfl, hc 2 _ rfl, hc 3 _ rfl, hc 4 _ rfl, hc 5 _ rfl, hc 6 _ rfl, hc 7 _ rfl, hc 8 _ rfl⟩ ⟨hc 9 _ rfl, hc 10 _ rfl, hc 11 _ rfl, hc 12 _ rfl, hc 13 _ rfl⟩ hry0 hry1 hry2 hry3 hry4 ⟨hc 14 _ rfl, hc 15 _ rfl, hc 16 _ rfl, hc 17 _ rfl, hc 18 _ rfl⟩ hrz0 hrz1 hrz2 hrz3 hrz4 h3 h4 h5 hN hNz hle (hno (.inl ht))⟩
  · refine ⟨0, 0, 0, [], 0, 3, Ans.zero _ _ _ (by decide), fun W hW => ?_⟩
    obtain ⟨hb, hc⟩ := hW.cellsAt (by omega)
    exact ⟨pes_Take_badb x3 x4 x5 y0 y1 y2 y3 y4 z0 z1 z2 z3 z4 W hW hn hb hnc hn2 ⟨hc 0 _ rfl, hc 1 _ rfl, hc 2 _ rfl, hc 3 _ rfl, hc 4 _ rfl, hc 5 _ rfl, hc 6 _ rfl, hc 7 _ rfl, hc 8 _ rfl⟩ ⟨⟨hc 9 _ rfl, hc 10 _ rfl, hc 11 _ rfl, hc 12 _ rfl, hc 13 _ rfl⟩, ⟨hc 14 _ rfl, hc 15 _ rfl, hc 16 _ rfl, hc 17 _ rfl, hc 18 _ rfl⟩⟩ hry0 hry1 hry2 hry3 hry4 hrz0 hrz1 hrz2 hrz3 hrz4 h3 h4 h5 hN hNz hle ht hu,
      ref_Take_k2n x3 x4 x5 y0 y1 y2 y3 y4 z0 z1 z2 z3 z4 W hW hn hb hnc hn2 ⟨hc 0 _ rfl, hc 1 _ rfl, hc 2 _ rfl, hc 3 _ rfl, hc 4 _ rfl, hc 5 _ rfl, hc 6 _ rfl, hc 7 _ rfl, hc 8 _ rfl⟩ ⟨hc 9 _ rfl, hc 10 _ rfl, hc 11 _ rfl, hc 12 _ rfl, hc 13 _ rfl⟩ hry0 hry1 hry2 hry3 hry4 ⟨hc 14 _ rfl, hc 15 _ rfl, hc 16 _ rfl, hc 17 _ rfl, hc 18 _ rfl⟩ hrz0 hrz1 hrz2 hrz3 hrz4 h3 h4 h5 hN hNz hle (hno (.inl ht))⟩
  · refine ⟨0, 0, 0, [], 0, 3, Ans.zero _ _ _ (by decide), fun W hW => ?_⟩
    obtain ⟨hb, hc⟩ := hW.cellsAt (by omega)
    exact ⟨pes_Take_badc x3 x4 x5 y0 y1 y2 y3 y4 z0 z1 z2 z3 z4 W hW hn hb hnc hn2 ⟨hc 0 _ rfl, hc 1 _ rfl, hc 2 _ rfl, hc 3 _ rfl, hc 4 _ rfl, hc 5 _ rfl, hc 6 _ rfl, hc 7 _ rfl, hc 8 _ rfl⟩ ⟨⟨hc 9 _ rfl, hc 10 _ rfl, hc 11 _ rfl, hc 12 _ rfl, hc 13 _ rfl⟩, ⟨hc 14 _ rfl, hc 15 _ rfl, hc 16 _ rfl, hc 17 _ rfl, hc 18 _ rfl⟩⟩ hry0 hry1 hry2 hry3 hry4 hrz0 hrz1 hrz2 hrz3 hrz4 h3 h4 h5 hN hNz hle ht hu,
      ref_Take_k2n x3 x4 x5 y0 y1 y2 y3 y4 z0 z1 z2 z3 z4 W hW hn hb hnc hn2 ⟨hc 0 _ rfl, hc 1 _ rfl, hc 2 _ rfl, hc 3 _ rfl, hc 4 _ rfl, hc 5 _ rfl, hc 6 _ rfl, hc 7 _ rfl, hc 8 _ rfl⟩ ⟨hc 9 _ rfl, hc 10 _ rfl, hc 11 _ rfl, hc 12 _ rfl, hc 13 _ rfl⟩ hry0 hry1 hry2 hry3 hry4 ⟨hc 14 _ rfl, hc 15 _ rfl, hc 16 _ rfl, hc 17 _ rfl, hc 18 _ rfl⟩ hrz0 hrz1 hrz2 hrz3 hrz4 h3 h4 h5 hN hNz hle (hno (.inr hu))⟩
  · have heq' := heq.2 ⟨(stamp_eq (by omega) hry0 hry1 hry2 hry3 hry4).2 ht, (stamp_eq (by omega) hrz0 hrz1 hrz2 hrz3 hrz4).2 hu⟩
    refine ⟨x3, (tsV y0 y1 y2 y3 y4), (tsV z0 z1 z2 z3 z4), ((0 :: 0 :: 1 :: x3 :: x4 :: x5 :: 128 :: 192 :: 10 :: y0 :: y1 :: y2 :: y3 :: y4 :: z0 :: z1 :: z2 :: z3 :: z4 :: rest).drop 19).take (N - 13), 6 + (N : Int), 0, ⟨fun _ => ⟨hval, ?_, by omega, by omega, by rw [show (6 + (N : Int)).toNat = 6 + N by omega]; exact heq'⟩, fun h => absurd rfl h⟩, fun W hW => ?_⟩
    · show putNum (tsV y0 y1 y2 y3 y4) (tsV z0 z1 z2 z3 z4) (rest.take (N - 13)) ≤ 65535
      rw [hp]; omega
    · obtain ⟨hb, hc⟩ := hW.cellsAt (by omega)
      exact ⟨pes_Take_ok2 x3 x4 x5 y0 y1 y2 y3 y4 z0 z1 z2 z3 z4 W hW hn hb hnc hn2 ⟨hc 0 _ rfl, hc 1 _ rfl, hc 2 _ rfl, hc 3 _ rfl, hc 4 _ rfl, hc 5 _ rfl, hc 6 _ rfl, hc 7 _ rfl, hc 8 _ rfl⟩ ⟨⟨hc 9 _ rfl, hc 10 _ rfl, hc 11 _ rfl, hc 12 _ rfl, hc 13 _ rfl⟩, ⟨hc 14 _ rfl, hc 15 _ rfl, hc 16 _ rfl, hc 17 _ rfl, hc 18 _ rfl⟩⟩ hry0 hry1 hry2 hry3 hry4 hrz0 hrz1 hrz2 hrz3 hrz4 h3 h4 h5 hN hNz hle ht hu,
        ref_Take_k2y x3 x4 x5 y0 y1 y2 y3 y4 z0 z1 z2 z3 z4 W hW hn hb hnc hn2 ⟨hc 0 _ rfl, hc 1 _ rfl, hc 2 _ rfl, hc 3 _ rfl, hc 4 _ rfl, hc 5 _ rfl, hc 6 _ rfl, hc 7 _ rfl, hc 8 _ rfl⟩ ⟨hc 9 _ rfl, hc 10 _ rfl, hc 11 _ rfl, hc 12 _ rfl, hc 13 _ rfl⟩ hry0 hry1 hry2 hry3 hry4 ⟨hc 14 _ rfl, hc 15 _ rfl, hc 16 _ rfl, hc 17 _ rfl, hc 18 _ rfl⟩ hrz0 hrz1 hrz2 hrz3 hrz4 h3 h4 h5 hN hNz hle heq'⟩

theorem both_any {q : Nat → Prop} (A : Option Addr) (n c : Nat) (l : List Int) (w : World) (h : Byt q w A n l) (hnc : n ≤ c) (hn2 : n ≤ 1000000) : Both q A n c l := by
  by_cases hn : n < 9
  · exact ⟨0, 0, 0, [], 0, 4, Ans.zero _ _ _ (by decide), fun W _ => ⟨pes_Take_short A n c W hn, ref_Take_short A n c W hn⟩⟩
  have hn : 9 ≤ n := by omega
  have hlen := h.len
  obtain ⟨b, off, x0, x1, x2, x3, x4, x5, x6, x7, x8, m, rfl, _, _, rfl, _, r0, r1, r2, r3, r4, r5, r6, r7, r8⟩ := h.nine hn
  have hrng := h.rng
  rcases hh : hdrB x0 x1 x2 x3 x4 x5 x6 x7 x8 with _ | _
  · refine ⟨0, 0, 0, [], 0, 3, Ans.zero _ _ _ (by decide), fun W hW => ?_⟩
    obtain ⟨hb, hc⟩ := hW.cellsAt (by omega)
    exact ⟨pes_Take_form x0 x1 x2 x3 x4 x5 x6 x7 x8 W hn hb ⟨hc 0 _ rfl, hc 1 _ rfl, hc 2 _ rfl, hc 3 _ rfl, hc 4 _ rfl, hc 5 _ rfl, hc 6 _ rfl, hc 7 _ rfl, hc 8 _ rfl⟩ r4 r5 r8 hh, ref_Take_form x0 x1 x2 x3 x4 x5 x6 x7 x8 W hn hb ⟨hc 0 _ rfl, hc 1 _ rfl, hc 2 _ rfl, hc 3 _ rfl, hc 4 _ rfl, hc 5 _ rfl, hc 6 _ rfl, hc 7 _ rfl, hc 8 _ rfl⟩ r4 r5 r8 hh⟩
  · simp only [hdrB, decide_eq_true_eq] at hh
    obtain ⟨rfl, rfl, rfl, h31, h32, rfl, hk, hN8⟩ := hh
    obtain ⟨N, hN⟩ := Int.eq_ofNat_of_zero_le (show 0 ≤ x4 * 256 + x5 by omega)
    rw [hN] at hN8
    by_cases hs : n < 6 + N
    · refine ⟨0, 0, 0, [], 0, 4, Ans.zero _ _ _ (by decide), fun W hW => ?_⟩
      obtain ⟨hb, hc⟩ := hW.cellsAt (by omega)
      refine ⟨pes_Take_short2 (N := N) x7 x3 x4 x5 x8 W hn hb ⟨hc 0 _ rfl, hc 1 _ rfl, hc 2 _ rfl, hc 3 _ rfl, hc 4 _ rfl, hc 5 _ rfl, hc 6 _ rfl, hc 7 _ rfl, hc 8 _ rfl⟩ ⟨h31, h32⟩ r4 r5 (by omega) ?_ hN.symm hN8 hs, ?_⟩
      · rcases hk with ⟨rfl, rfl⟩ | ⟨rfl, rfl⟩ | ⟨rfl, rfl⟩ <;> decide
      · rcases hk with ⟨rfl, rfl⟩ | ⟨rfl, rfl⟩ | ⟨rfl, rfl⟩
        · exact ref_Take_short2_0 (N := N) x3 x4 x5 W hn hb ⟨hc 0 _ rfl, hc 1 _ rfl, hc 2 _ rfl, hc 3 _ rfl, hc 4 _ rfl, hc 5 _ rfl, hc 6 _ rfl, hc 7 _ rfl, hc 8 _ rfl⟩ ⟨h31, h32⟩ r4 r5 hN.symm (by omega) hs
        · exact ref_Take_short2_128 (N := N) x3 x4 x5 W hn hb ⟨hc 0 _ rfl, hc 1 _ rfl, hc 2 _ rfl, hc 3 _ rfl, hc 4 _ rfl, hc 5 _ rfl, hc 6 _ rfl, hc 7 _ rfl, hc 8 _ rfl⟩ ⟨h31, h32⟩ r4 r5 hN.symm (by omega) hs
        · exact ref_Take_short2_192 (N := N) x3 x4 x5 W hn hb ⟨hc 0 _ rfl, hc 1 _ rfl, hc 2 _ rfl, hc 3 _ rfl, hc 4 _ rfl, hc 5 _ rfl, hc 6 _ rfl, hc 7 _ rfl, hc 8 _ rfl⟩ ⟨h31, h32⟩ r4 r5 hN.symm (by omega) hs
    · rcases hk with ⟨rfl, rfl⟩ | ⟨rfl, rfl⟩ | ⟨rfl, rfl⟩
      · exact both_0 (N := N) x3 x4 x5 hn hnc hn2 hlen ⟨h31, h32⟩ r4 r5 hN.symm (by omega) (by omega)
      · rcases m with _ | ⟨y0, _ | ⟨y1, _ | ⟨y2, _ | ⟨y3, _ | ⟨y4, rest⟩⟩⟩⟩⟩ <;> try (simp at hlen; omega)
        exact both_1 (N := N) x3 x4 x5 y0 y1 y2 y3 y4 hn hnc hn2 hlen (hrng _ (by simp)) (hrng _ (by simp)) (hrng _ (by simp)) (hrng _ (by simp)) (hrng _ (by simp)) ⟨h31, h32⟩ r4 r5 hN.symm (by omega) (by omega)
      · rcases m with _ | ⟨y0, _ | ⟨y1, _ | ⟨y2, _ | ⟨y3, _ | ⟨y4, _ | ⟨z0, _ | ⟨z1, _ | ⟨z2, _ | ⟨z3, _ | ⟨z4, rest⟩⟩⟩⟩⟩⟩⟩⟩⟩⟩ <;> try (simp at hlen; omega)
        exact both_2 (N := N) x3 x4 x5 y0 y1 y2 y3 y4 z0 z1 z2 z3 z4 hn hnc hn2 hlen (hrng _ (by simp)) (hrng _ (by simp)) (hrng _ (by simp)) (hrng _ (by simp)) (hrng _ (by simp)) (hrng _ (by simp)) (hrng _ (by simp)) (hrng _ (by simp)) (hrng _ (by simp)) (hrng _ (by simp)) ⟨h31, h32⟩ r4 r5 hN.symm (by omega) (by omega)

end Go.Proofs.Ytojfaonlgkicfaa
