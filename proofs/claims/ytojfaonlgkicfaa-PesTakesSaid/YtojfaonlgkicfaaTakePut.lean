/- pes.Take of the bytes of a packet, with any bytes behind them. -/
import Derived.Test.YtojfaonlgkicfaaTakeC
import Derived.Test.YtojfaonlgkicfaaTakeDb
import Derived.Test.YtojfaonlgkicfaaTakeEd
namespace Go.Proofs.Ytojfaonlgkicfaa
open Go.RowKit

theorem ts_of_stamp {k t : Int} (hk0 : 0 ≤ k) (hk : k ≤ 15) (h0 : 0 ≤ t) (h1 : t < 8589934592) :
    tsOk k (k * 16 + t / 1073741824 * 2 + 1) (t / 32768 % 128 * 2 + 1) (t % 128 * 2 + 1) = true ∧ tsV (k * 16 + t / 1073741824 * 2 + 1) (t / 4194304 % 256) (t / 32768 % 128 * 2 + 1) (t / 128 % 256) (t % 128 * 2 + 1) = t := by
  refine ⟨?_, ?_⟩
  · simp only [tsOk, decide_eq_true_eq]
    omega
  · unfold tsV
    have e1 : (k * 16 + t / 1073741824 * 2 + 1) / 2 % 8 = t / 1073741824 := by omega
    have e2 : (t / 32768 % 128 * 2 + 1) / 2 = t / 32768 % 128 := by omega
    have e3 : (t % 128 * 2 + 1) / 2 = t % 128 := by omega
    rw [e1, e2, e3]
    omega
theorem putL_len (s p d : Int) (l : List Int) : (putL s p d l).length = 6 + putNum p d l := by
  unfold putL putNum
  simp
  omega
theorem drop_take_left {α : Type} (a b c : List α) (k m : Nat) (hk : a.length = k) (hm : b.length = m) : ((a ++ b ++ c).drop k).take m = b := by
  subst hk hm
  simp

set_option maxHeartbeats 1000000 in
theorem pes_Take_put {q : Nat → Prop} (s p d : Int) (A : Option Addr) (n c : Nat) (l more : List Int) (w : World) (h : Byt q w A n (putL s p d l ++ more)) (hnc : n ≤ c) (hn2 : n ≤ 1000000) (hv : validP s p d = true) (hsm : putNum p d l ≤ 65535) :
    Calls Try.prog 22 #[.slice A n c] w (RetT w s p d l ((putL s p d l).length : Int) 0) := by
  have hh : 192 ≤ s ∧ s ≤ 239 ∧ -1 ≤ p ∧ p < 8589934592 ∧ -1 ≤ d ∧ d < 8589934592 ∧ (p ≠ -1 ∨ d = -1) := by simpa [validP] using hv
  have hlen := h.len
  rw [List.length_append, putL_len] at hlen
  obtain ⟨b, off, rfl, hp, hb, hc⟩ := h.addr (by omega)
  have eM : (((putL s p d l).length : Nat) : Int) = 6 + (putNum p d l : Int) := by rw [putL_len]; omega
  rw [eM]
  by_cases h1 : p < 0
  · obtain rfl : p = -1 := by omega
    obtain rfl : d = -1 := by omega
    have e : headL (-1) (-1) = (0, []) := rfl
    have eN : putNum (-1) (-1) l = 3 + l.length := by unfold putNum; rw [e]; simp
    have eP : putL s (-1) (-1) l = [0, 0, 1, s, (putNum (-1) (-1) l : Int) / 256, (putNum (-1) (-1) l : Int) % 256, 128, 0, 0] ++ l := by unfold putL; rw [e]; simp
    rw [eP] at h hc
    have key := pes_Take_ok0 (c := c) s _ _ w h (by omega) hb hnc hn2 ⟨hc 0 _ rfl, hc 1 _ rfl, hc 2 _ rfl, hc 3 _ rfl, hc 4 _ rfl, hc 5 _ rfl, hc 6 _ rfl, hc 7 _ rfl, hc 8 _ rfl⟩ ⟨hh.1, hh.2.1⟩ (by omega) (by omega) (N := putNum (-1) (-1) l) (by omega) (by omega) (by omega)
    rwa [drop_take_left _ l more 9 _ rfl (by omega)] at key
  · by_cases h2 : d < 0
    · obtain rfl : d = -1 := by omega
      have e : headL p (-1) = (128, stampL 2 p) := by unfold headL; rw [if_neg h1, if_pos (by omega)]
      have eN : putNum p (-1) l = 8 + l.length := by unfold putNum; rw [e]; simp [stampL]
      have eP : putL s p (-1) l = ([0, 0, 1, s, (putNum p (-1) l : Int) / 256, (putNum p (-1) l : Int) % 256, 128, 128, 5] ++ stampL 2 p) ++ l := by unfold putL; rw [e]; simp [stampL]
      rw [eP] at h hc
      obtain ⟨t1, t2⟩ := ts_of_stamp (k := 2) (t := p) (by omega) (by omega) (by omega) (by omega)
      have R := stampL_rng (k := 2) (t := p) (by omega) (by omega) (by omega) (by omega)
      have key := pes_Take_ok1 (c := c) s _ _ _ _ _ _ _ w h (by omega) hb hnc hn2 ⟨hc 0 _ rfl, hc 1 _ rfl, hc 2 _ rfl, hc 3 _ rfl, hc 4 _ rfl, hc 5 _ rfl, hc 6 _ rfl, hc 7 _ rfl, hc 8 _ rfl⟩
        ⟨hc 9 _ rfl, hc 10 _ rfl, hc 11 _ rfl, hc 12 _ rfl, hc 13 _ rfl⟩ (R _ (by simp [stampL])) (R _ (by simp [stampL])) (R _ (by simp [stampL])) (R _ (by simp [stampL])) (R _ (by simp [stampL])) ⟨hh.1, hh.2.1⟩ (by omega) (by omega) (N := putNum p (-1) l) (by omega) (by omega) (by omega) t1
      rw [t2, drop_take_left _ l more 14 _ rfl (by omega)] at key
      exact key
    · have e : headL p d = (192, stampL 3 p ++ stampL 1 d) := by unfold headL; rw [if_neg h1, if_neg h2]
      have eN : putNum p d l = 13 + l.length := by unfold putNum; rw [e]; simp [stampL]
      have eP : putL s p d l = ([0, 0, 1, s, (putNum p d l : Int) / 256, (putNum p d l : Int) % 256, 128, 192, 10] ++ stampL 3 p ++ stampL 1 d) ++ l := by unfold putL; rw [e]; simp [stampL]
      rw [eP] at h hc
      obtain ⟨t1, t2⟩ := ts_of_stamp (k := 3) (t := p) (by omega) (by omega) (by omega) (by omega)
      obtain ⟨t3, t4⟩ := ts_of_stamp (k := 1) (t := d) (by omega) (by omega) (by omega) (by omega)
      have R := stampL_rng (k := 3) (t := p) (by omega) (by omega) (by omega) (by omega)
      have R2 := stampL_rng (k := 1) (t := d) (by omega) (by omega) (by omega) (by omega)
      have key := pes_Take_ok2 (c := c) s _ _ _ _ _ _ _ _ _ _ _ _ w h (by omega) hb hnc hn2 ⟨hc 0 _ rfl, hc 1 _ rfl, hc 2 _ rfl, hc 3 _ rfl, hc 4 _ rfl, hc 5 _ rfl, hc 6 _ rfl, hc 7 _ rfl, hc 8 _ rfl⟩
        ⟨⟨hc 9 _ rfl, hc 10 _ rfl, hc 11 _ rfl, hc 12 _ rfl, hc 13 _ rfl⟩, ⟨hc 14 _ rfl, hc 15 _ rfl, hc 16 _ rfl, hc 17 _ rfl, hc 18 _ rfl⟩⟩ (R _ (by simp [stampL])) (R _ (by simp [stampL])) (R _ (by simp [stampL])) (R _ (by simp [stampL])) (R _ (by simp [stampL])) (R2 _ (by simp [stampL])) (R2 _ (by simp [stampL])) (R2 _ (by simp [stampL])) (R2 _ (by simp [stampL])) (R2 _ (by simp [stampL])) ⟨hh.1, hh.2.1⟩ (by omega) (by omega) (N := putNum p d l) (by omega) (by omega) (by omega) t1 t3
      rw [t2, t4, drop_take_left _ l more 19 _ rfl (by omega)] at key
      exact key

end Go.Proofs.Ytojfaonlgkicfaa
