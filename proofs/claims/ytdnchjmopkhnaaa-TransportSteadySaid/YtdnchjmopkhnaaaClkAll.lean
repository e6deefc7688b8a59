/- all of the law of transport packets. -/
import Derived.Test.YtdnchjmopkhnaaaClkP
namespace Go.Proofs.Ytdnchjmopkhnaaa
open Go.RowKit
attribute [local go_sem ↓] Go.wp_at_zero Go.wp_at_succ

def AllRel (w : World) (qs : List TA) (n : Nat) (o i : Value) (wr : World) : Prop :=
  ∃ (k : Nat) (A1 : Option Addr) (c1 : Nat), k ≤ n ∧ i = .int .i64 (k : Int) ∧ o = .slice A1 k c1 ∧ wr.ownsRow w.heap.size 28 5 (.slice A1 k c1) k (tpCells (qs.take k)) ∧ Below w.heap.size w wr

set_option maxRecDepth 100000 in
set_option maxHeartbeats 4000000 in
theorem law_all {p : Nat → Prop} (A : Option Addr) (n c : Nat) (qs : List TA) (w : World) (h : Rw p w A n 5 (tpCells qs)) (hl : qs.length = n) (hn : n ≤ 100000) :
    Calls Try.prog 30 #[.slice A n c] w fun e w' => ∃ A1 c1, e = .returned (.slice A1 n c1) ∧ Rw (w.heap.size ≤ ·) w' A1 n 5 (tpCells qs) ∧ Below w.heap.size w w' := by
  have H := Lib.hid h
  have HL := Lib.hid hl
  clear h hl
  go_enter Try.func30, Try.ntmps30
  go_wp2_with fail
  go_loopw [3, 4] (fun o i wr => AllRel w qs n o i wr) (fun _ i _ => n - (intOf i).toNat)
  case atStart => exact ⟨0, none, 0, Nat.zero_le _, rfl, rfl, World.ownsRow_nil _ _ _ _, Below.refl _ _⟩
  case round =>
    obtain ⟨k, A1, c1, hk, rfl, rfl, ho, hb⟩ := hrel
    have HO := Lib.hid ho
    clear ho
    by_cases hlt : k < n
    · obtain ⟨b, off, x, rfl, hbl, hx, hc0, hc1, hc2, hc3, hc4⟩ := rw5_at (H.out.ext hb) HL.out hlt
      have HX := Lib.hid hx
      obtain ⟨⟨pd, cnt, st, clk, pl⟩, A2, n2, c2⟩ := x
      dsimp only at hc0 hc1 hc2 hc3 hc4
      clear hx
      have i0 : (0 : Int) ≤ (k : Int) := by omega
      have i1 : (k : Int) < (n : Int) := by omega
      go_wp2_with fail
      refine (law_tgiven pd cnt st clk A2 n2 c2 _).mono ?_
      rintro e w3 ⟨rfl, hb3⟩
      have B3 := hb.trans (hb3.mono hb.size)
      have z3 := B3.size
      have O3 := Lib.hid (own_ext HO.out hb3)
      have O4 := Lib.hid (O3.out.alloc (.cells #[.int .i64 pd, .int .i64 cnt, .bool st, .int .i64 clk, .slice A2 n2 c2] 28))
      go_wp2_with (first | (at_builtin; go_must (refine wpList_appR _ rfl (.tmp 11) (.tmp 17) 40 rfl 28 (.agg #[.int .i64 0, .int .i64 0, .bool false, .int .i64 0, .slice none 0 0]) 5 56 Try.underlying40 Try.infoTP rfl (by decide) w.heap.size (.slice A1 k c1) k _ rfl O4.out (some ⟨w3.heap.size, 0, none⟩) 1 1 [.int .i64 pd, .int .i64 cnt, .bool st, .int .i64 clk, .slice A2 n2 c2] rfl (Rw.lit (p := fun _ => True) _ _ _ rfl 1 5 rfl rfl trivial) (by simp [Value.oneCell']) (by omega) (by omega) (by simp; omega) ?_; intro v3 w4 ho3 hg3 ha3; obtain ⟨A3, c3, hv3⟩ := own_slice ho3; subst hv3)))
      go_roundw
      case rel =>
        refine ⟨k + 1, A3, c3, by omega, by go_num, rfl, ?_, (B3.alloc z3 _).grown hg3 (by simp; omega) (fun j hj => (World.ownsRow.lt O4.out j hj).1)⟩
        rw [take_snoc_at HX.out, tpCells_snoc]
        exact ho3
      case measure => (simp [intOf]; try omega)
    · have hkn : k = n := by omega
      subst hkn
      go_wp2_with fail
      go_ret
      have e : qs.take k = qs := List.take_of_length_le (by rw [HL.out]; exact Nat.le_refl _)
      have ho := HO.out
      rw [e] at ho
      obtain ⟨B1, e1, hv1, hr1⟩ := own_rw (p := (w.heap.size ≤ ·)) ho (fun _ h => h)
      injection hv1 with hA1
      subst hA1
      exact ⟨_, _, rfl, hr1, hb⟩
end Go.Proofs.Ytdnchjmopkhnaaa
