/- The reference's Cut of transport packets. -/
import Derived.Test.YtdnchjmopkhnaaaTcM
import Derived.Test.YtdnchjmopkhnaaaTrV
namespace Go.Proofs.Ytdnchjmopkhnaaa
open Go.RowKit

attribute [local go_sem ↓] run_min_mm

set_option maxRecDepth 100000 in
theorem subT2 (b off n c lo m : Nat) (h1 : lo + m ≤ c) (h2 : lo < c) :
    ∀ w, (Instr.slice 22 (.slice (some ⟨b, off, none⟩) n c) (some (.int .i64 (lo : Int))) (some (.int .i64 ((lo : Int) + (m : Int)))) none).run Try.prog w = .ok (.slice (some ⟨b, off + lo, none⟩) m (c - lo)) w := by
  intro w
  have hsz : ∀ w, (sizeOf 5).run Try.prog w = .ok 1 w := fun _ => by kernel_rfl
  rw [run_slice_lh (P := Try.prog) w 22 (some ⟨b, off, none⟩) n c Try.underlying22 .i64 .i64 (lo : Int) ((lo : Int) + (m : Int)) (by omega) (by omega) (by omega)]
  have hz := hsz w
  show ((sizeOf 5).run Try.prog w).andThen _ = _
  rw [hz]
  simp only [Result.andThen, sliced]
  rw [if_neg (by omega), show ((lo : Int) + (m : Int)).toNat - (lo : Int).toNat = m by omega]
  simp [Addr.add]
set_option maxRecDepth 100000 in
theorem firstT {p : Nat → Prop} {w : World} {A : Option Addr} {n c : Nat} {l : List Int} (h : Byt p w A n l) (hnc : n ≤ c) (m : Nat) (hm : m ≤ n) :
    ∃ A0 c0, (∀ w, (Instr.slice 22 (.slice A n c) none (some (.int .i64 (m : Int))) none).run Try.prog w = .ok (.slice A0 m c0) w) ∧ Byt (· < w.heap.size) w A0 m (l.take m) := by
  have hsz : ∀ w, (sizeOf 5).run Try.prog w = .ok 1 w := fun _ => by kernel_rfl
  have hlen := h.len
  have hrun : ∀ w, (Instr.slice 22 (.slice A n c) none (some (.int .i64 (m : Int))) none).run Try.prog w = .ok (sliced A 0 m c 1) w := by
    intro w
    rw [run_slice_h (P := Try.prog) w 22 A n c Try.underlying22 .i64 (m : Int) (by omega) (by omega)]
    have hz := hsz w
    show ((sizeOf 5).run Try.prog w).andThen _ = _
    rw [hz]
    simp [Result.andThen]
  rcases Nat.eq_zero_or_pos m with hn | hn
  · subst hn
    unfold sliced at hrun
    by_cases hc : c = 0
    · simp only [hc, if_true] at hrun
      exact ⟨_, _, by rw [hc]; exact hrun, by rw [List.take_zero]; exact Byt.nil⟩
    · rw [if_neg hc] at hrun
      exact ⟨_, _, hrun, by rw [List.take_zero]; exact Byt.nil⟩
  · obtain ⟨b, off, rfl, hpb, hb, hc⟩ := h.addr (by omega)
    have hh : Byt (· < w.heap.size) w (some ⟨b, off, none⟩) n l := h.mono (fun b h _ => h)
    have hs := Byt.sub (k := 0) (m := m) hh (by omega)
    rw [Nat.add_zero, List.drop_zero] at hs
    refine ⟨some ⟨b, off, none⟩, c, fun w => ?_, hs⟩
    rw [hrun]
    unfold sliced
    rw [if_neg (by omega)]
    simp [Addr.add]
theorem own_litT {w : World} {base : Nat} (e : TypeId) (size : Nat) (xs : List Value) (hs : xs.length = size) (hb : base ≤ w.heap.size) {cs : Array Value} (hc : cs = xs.toArray) {g : Nat} (hg : g = w.heap.size) : (w.alloc (.cells cs e)).ownsRow base e size (.slice (some ⟨g, 0, none⟩) 1 1) 1 xs := by
  subst hg hc
  refine ⟨by omega, .inr ⟨w.heap.size, 1, xs.toArray, rfl, hb, heap_alloc_new w _, Nat.le_refl _, by simp only [maxLen]; omega, by simp; omega, ?_⟩⟩
  rw [List.toList_toArray, List.take_of_length_le (by omega)]

set_option maxRecDepth 100000 in
set_option maxHeartbeats 4000000 in
theorem ref_TCut_no {p : Nat → Prop} (pid cnt : Int) (A : Option Addr) (n c : Nat) (l : List Int) (clk : Int) (w : World) (hA : Byt p w A n l) (hnc : n ≤ c) (hno : n = 0 ∨ validT pid cnt false clk 0 = false) :
    Calls Try.prog 25 #[.int .i64 pid, .int .i64 cnt, .slice A n c, .int .i64 clk] w fun e w' => e = .returned (.tuple #[.slice none 0 0, .int .i64 1]) ∧ Below w.heap.size w w' := by
  obtain ⟨m, hm⟩ : ∃ m, m = min (roomT clk).toNat n := ⟨_, rfl⟩
  have hrm := roomT_cases clk
  obtain ⟨A0, c0, hr0, hb0⟩ := firstT hA hnc m (by omega)
  clear hb0
  have HR0 := Lib.hid hr0
  have HV : Hid (∀ w', 0 < m → Calls Try.prog 36 #[.agg #[.int .i64 pid, .int .i64 cnt, .bool true, .int .i64 clk, .slice A0 m c0]] w' fun e w'' => e = .returned (.bool false) ∧ Below w'.heap.size w' w'') := Lib.hid (fun w' h0 => by
    have := ref_TValid pid cnt true clk A0 m c0 w'
    rwa [validT_first _ _ _ _ h0 (by omega), hno.resolve_left (by omega)] at this)
  clear hr0 hno hA
  rcases hrm with ⟨h1, h2⟩ | ⟨h1, h2⟩
  all_goals
    rw [h1] at hm
    clear h1
  · subst h2
    have hmin : min (184 : Int) (n : Int) = (m : Int) := by omega
    have r0 := HR0.out
    rcases Nat.eq_zero_or_pos m with h0 | h0
    · have d1 : ((m : Int) == 0) = true := by simp; omega
      clear hm
      go_enter Try.func25, Try.ntmps25
      go_wp2_with fail
      go_ret2
      exact ⟨rfl, (Below.refl _ _).alloc (Nat.le_refl _) _⟩
    · have d1 : ((m : Int) == 0) = false := by simp; omega
      clear hm
      go_enter Try.func25, Try.ntmps25
      go_wp2_with fail
      refine (HV.out _ h0).mono ?_
      rintro e w1 ⟨rfl, hb1⟩
      have hbb := ((Below.refl w.heap.size w).alloc (Nat.le_refl _) (.cells #[.int .i64 pid, .int .i64 cnt, .bool true, .int .i64 (-1), .slice A0 m c0] 24)).trans (hb1.mono (by simp))
      go_wp2_with fail
      go_ret2
      exact ⟨rfl, hbb⟩
  · have d2 : (clk != -1) = true := by simpa using h2
    have hmin : min (176 : Int) (n : Int) = (m : Int) := by omega
    have r0 := HR0.out
    rcases Nat.eq_zero_or_pos m with h0 | h0
    · have d1 : ((m : Int) == 0) = true := by simp; omega
      clear hm
      go_enter Try.func25, Try.ntmps25
      go_wp2_with fail
      go_ret2
      exact ⟨rfl, (Below.refl _ _).alloc (Nat.le_refl _) _⟩
    · have d1 : ((m : Int) == 0) = false := by simp; omega
      clear hm
      go_enter Try.func25, Try.ntmps25
      go_wp2_with fail
      refine (HV.out _ h0).mono ?_
      rintro e w1 ⟨rfl, hb1⟩
      have hbb := ((Below.refl w.heap.size w).alloc (Nat.le_refl _) (.cells #[.int .i64 pid, .int .i64 cnt, .bool true, .int .i64 clk, .slice A0 m c0] 24)).trans (hb1.mono (by simp))
      go_wp2_with fail
      go_ret2
      exact ⟨rfl, hbb⟩
end Go.Proofs.Ytdnchjmopkhnaaa
