/- Cut of transport packets: plain words. -/
import Derived.Test.YtdnchjmopkhnaaaTrPk
namespace Go.Proofs.Ytdnchjmopkhnaaa
open Go.RowKit

/-- Where piece j of a unit begins, and how long it may be; r: the room of the first packet. -/
def offT (r j : Nat) : Nat := if j = 0 then 0 else r + (j - 1) * 184
def roomJ (r j : Nat) : Nat := if j = 0 then r else 184
theorem offT_zero (r : Nat) : offT r 0 = 0 := rfl
theorem offT_succ (r j : Nat) : offT r (j + 1) = offT r j + roomJ r j := by
  unfold offT roomJ
  rcases Nat.eq_zero_or_pos j with rfl | h
  · simp
  · rw [if_neg (by omega), if_neg (by omega), if_neg (by omega), show j + 1 - 1 = (j - 1) + 1 by omega, Nat.succ_mul, Nat.add_assoc]
theorem offT_ge (r : Nat) (hr : 1 ≤ r) (j : Nat) : j ≤ offT r j := by
  unfold offT
  split <;> omega
def pcT (l : List Int) (r j : Nat) : List Int := (l.drop (offT r j)).take (roomJ r j)
theorem pcT_len (l : List Int) (r j : Nat) : (pcT l r j).length = min (roomJ r j) (l.length - offT r j) := by simp [pcT]
def pktT (pid cnt clk : Int) (l : List Int) (r j : Nat) : TP := ⟨pid, (cnt + (j : Int)) % 16, decide (j = 0), if j = 0 then clk else -1, pcT l r j⟩
def cutT (pid cnt clk : Int) (l : List Int) (r N : Nat) : List TP := (List.range N).map (pktT pid cnt clk l r)
theorem cutT_succ (pid cnt clk : Int) (l : List Int) (r N : Nat) : cutT pid cnt clk l r (N + 1) = cutT pid cnt clk l r N ++ [pktT pid cnt clk l r N] := by simp [cutT, List.range_succ]
/-- N packets hold n bytes, fewer do not. -/
def LastT (r n N : Nat) : Prop := n ≤ offT r N ∧ ∀ i, i < N → offT r i < n
theorem LastT.unique {r n N M : Nat} (h : LastT r n N) (h' : LastT r n M) : N = M := by
  rcases Nat.lt_trichotomy N M with h1 | h1 | h1
  · have := h'.2 N h1; have := h.1; omega
  · exact h1
  · have := h.2 M h1; have := h'.1; omega
theorem LastT.le {r n N : Nat} (h : LastT r n N) (hr : 1 ≤ r) : N ≤ n := by
  rcases Nat.eq_zero_or_pos N with h0 | h0
  · omega
  · have h1 := h.2 (N - 1) (by omega)
    have := offT_ge r hr (N - 1)
    omega
theorem cnt_next {cnt : Int} (j : Nat) : ((cnt + (j : Int)) % 16 + 1) % 16 = (cnt + ((j + 1 : Nat) : Int)) % 16 := by omega
theorem roomT_cases (clk : Int) : roomT clk = 184 ∧ clk = -1 ∨ roomT clk = 176 ∧ clk ≠ -1 := by
  unfold roomT
  by_cases h : clk = -1
  · exact .inl ⟨if_pos h, h⟩
  · exact .inr ⟨if_neg h, h⟩
/-- The packet is valid just if its fields are. -/
theorem validT_first (pid cnt clk : Int) (m : Nat) (h0 : 0 < m) (hm : (m : Int) ≤ roomT clk) : validT pid cnt true clk m = validT pid cnt false clk 0 := by
  unfold validT
  have hr := roomT_cases clk
  rw [Bool.eq_iff_iff]
  simp only [decide_eq_true_eq]
  constructor <;> rintro ⟨h1, h2, h3, h4, h5, h6, h7, h8⟩ <;> refine ⟨h1, h2, h3, h4, h5, h6, ?_, ?_⟩ <;> first | omega | simp
/-- All bytes of the packets put together are the unit. -/
theorem pcT_all (l : List Int) (r : Nat) : ∀ N, ((List.range N).map (pcT l r)).flatten = l.take (offT r N)
  | 0 => by simp [offT]
  | N + 1 => by
    rw [List.range_succ, List.map_append, List.flatten_append, pcT_all l r N, offT_succ]
    simp only [List.map_cons, List.map_nil, List.flatten_cons, List.flatten_nil, List.append_nil, pcT]
    rw [List.take_add]
theorem pcT_whole {l : List Int} {r N : Nat} (h : LastT r l.length N) : ((List.range N).map (pcT l r)).flatten = l := by
  rw [pcT_all, List.take_of_length_le h.1]

set_option maxRecDepth 100000 in
theorem sub_tailC (b off n c : Nat) (lo : Nat) (h1 : lo ≤ n) (hc : n ≤ c) :
    ∃ A' c', (∀ w, (Instr.slice 22 (.slice (some ⟨b, off, none⟩) n c) (some (.int .i64 (lo : Int))) none none).run Try.prog w = .ok (.slice A' (n - lo) c') w) ∧ n - lo ≤ c' ∧
      ∀ (q : Nat → Prop) (W : World) (l : List Int), Byt q W (some ⟨b, off, none⟩) n l → Byt q W A' (n - lo) (l.drop lo) := by
  have hsz : ∀ w, (sizeOf 5).run Try.prog w = .ok 1 w := fun _ => by kernel_rfl
  by_cases he : c = lo
  · refine ⟨some ⟨b, off, none⟩, 0, fun w => ?_, by omega, fun q W l hB => ?_⟩
    · rw [run_slice_l (P := Try.prog) w 22 (some ⟨b, off, none⟩) n c Try.underlying22 .i64 (lo : Int) (by omega) (by omega)]
      have hz := hsz w
      show ((sizeOf 5).run Try.prog w).andThen _ = _
      rw [hz]
      simp only [Result.andThen, sliced]
      rw [if_pos (by omega), show c - (lo : Int).toNat = 0 by omega, show n - (lo : Int).toNat = n - lo by omega]
    · rw [show n - lo = 0 by omega, List.drop_of_length_le (by have := hB.len; omega)]
      exact Byt.nil
  · refine ⟨some ⟨b, off + lo, none⟩, c - lo, fun w => ?_, by omega, fun q W l hB => ?_⟩
    · rw [run_slice_l (P := Try.prog) w 22 (some ⟨b, off, none⟩) n c Try.underlying22 .i64 (lo : Int) (by omega) (by omega)]
      have hz := hsz w
      show ((sizeOf 5).run Try.prog w).andThen _ = _
      rw [hz]
      simp only [Result.andThen, sliced]
      rw [if_neg (by omega), show n - (lo : Int).toNat = n - lo by omega]
      simp [Addr.add]
    · have := Byt.sub (k := lo) (m := n - lo) hB (by omega)
      rwa [List.take_of_length_le (by rw [List.length_drop, hB.len]; omega)] at this
end Go.Proofs.Ytdnchjmopkhnaaa
