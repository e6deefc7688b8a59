/- TransportClocks. -/
import Derived.Test.YtdnchjmopkhnaaaClkQ
namespace Go.Proofs.Ytdnchjmopkhnaaa
open Go.RowKit
attribute [local go_sem ↓] Go.wp_at_zero Go.wp_at_succ

def jitE (qs : List TA) (n : Nat) (pid b : Int) : Int × Int := if 1 ≤ b ∧ b ≤ 1073741824 then ((jSt b.toNat pid (datas qs) n).2, 0) else (0, 1)

set_option maxRecDepth 100000 in
set_option maxHeartbeats 1000000 in
theorem tr_Jitter_all {p : Nat → Prop} (A : Option Addr) (n c : Nat) (qs : List TA) (pid b : Int) (w : World) (h : Rw p w A n 5 (tpCells qs)) (hl : qs.length = n) (hn : n ≤ 100000) :
    Calls Try.prog 29 #[.slice A n c, .int .i64 pid, .int .i64 b] w fun e w' => e = .returned (.tuple #[.int .i64 (jitE qs n pid b).1, .int .i64 (jitE qs n pid b).2]) ∧ Below w.heap.size w w' := by
  by_cases hb : 1 ≤ b ∧ b ≤ 1073741824
  · unfold jitE
    rw [if_pos hb]
    obtain ⟨B, rfl⟩ := Int.eq_ofNat_of_zero_le (show 0 ≤ b by omega)
    exact tr_Jitter A n c qs pid B w h hl (by omega) (by omega) hn
  · unfold jitE
    rw [if_neg hb]
    clear h hl hn
    have hmf : ∀ (fn : Fn) (first cap : Array Value) (w : World), (Instr.makeFunc fn first cap).run Try.prog w = .ok (.func fn first cap) w := fun _ _ _ _ => rfl
    have hJ : JB w 0 ((w.alloc (.cells #[.int .i64 0] 2)).alloc (.cells #[.int .i64 0] 25)) := ⟨(Bx.new _ _ _).alloc _, Bx.new' _ _ _ _ (by simp), ((Below.refl _ _).alloc (Nat.le_refl _) _).alloc (by simp) _⟩
    rcases (by omega : b < 1 ∨ 1 ≤ b ∧ 1073741824 < b) with h | ⟨h, h'⟩
    all_goals
      clear hb
      go_enter_defers Try.func29, Try.ntmps29
      go_upto_region 2 with fail
      generalize (w.alloc (.cells #[.int .i64 0] 2)).alloc (.cells #[.int .i64 0] 25) = W at *
      obtain ⟨g1, g2, g3, g4, g5, g6⟩ := hJ.facts
      have y1 : Bx ((W.setCell ⟨w.heap.size, 0, none⟩ (.int .i64 0)).setCell ⟨w.heap.size + 1, 0, none⟩ (.int .i64 1)) w.heap.size 2 #[.int .i64 0] := (hJ.b1.set_ 0 (.int .i64 0)).far (by simp) _
      have y2 : Bx ((W.setCell ⟨w.heap.size, 0, none⟩ (.int .i64 0)).setCell ⟨w.heap.size + 1, 0, none⟩ (.int .i64 1)) (w.heap.size + 1) 25 #[.int .i64 1] := (hJ.b2.far (by simp) (.int .i64 0)).set_ 0 (.int .i64 1)
      have hB := bset (bset hJ.be ⟨w.heap.size, 0, none⟩ (Nat.le_refl _) (.int .i64 0)) ⟨w.heap.size + 1, 0, none⟩ (by dsimp only; omega) (.int .i64 1)
      have Y1 := Lib.hid y1
      have Y2 := Lib.hid y2
      have HB := Lib.hid hB
      clear y1 y2 hB hJ
      go_wp2_with fail
    all_goals
      have q1 := Y1.out.cell 0 rfl
      have q2 := Y2.out.cell 0 rfl
      refine leaves_cons (f := 50) (args := #[.pointer (some ⟨w.heap.size, 0, none⟩), .pointer (some ⟨w.heap.size + 1, 0, none⟩)]) (by simp) (by simp [go_sem]) ?_
      refine (jitter_idle _ _ _).mono ?_
      rintro e u' w'' ⟨rfl, rfl, rfl⟩
      exact ⟨.tuple #[.int .i64 0, .int .i64 1], by simp [results, Try.results29, go_sem, q1, q2], rfl, HB.out⟩

theorem ref_Jitter_all {p : Nat → Prop} (A : Option Addr) (n c : Nat) (qs : List TA) (pid b : Int) (w : World) (h : Rw p w A n 5 (tpCells qs)) (hl : qs.length = n) (hn : n ≤ 100000) :
    Calls Try.prog 31 #[.slice A n c, .int .i64 pid, .int .i64 b] w fun e w' => e = .returned (.tuple #[.int .i64 (jitE qs n pid b).1, .int .i64 (jitE qs n pid b).2]) ∧ Below w.heap.size w w' := by
  by_cases hb : 1 ≤ b ∧ b ≤ 1073741824
  · unfold jitE
    rw [if_pos hb]
    obtain ⟨B, rfl⟩ := Int.eq_ofNat_of_zero_le (show 0 ≤ b by omega)
    exact ref_Jitter A n c qs pid B w h hl (by omega) (by omega) hn
  · unfold jitE
    rw [if_neg hb]
    clear h hl hn
    rcases (by omega : b < 1 ∨ 1 ≤ b ∧ 1073741824 < b) with h | ⟨h, h'⟩
    all_goals
      clear hb
      go_enter Try.func31, Try.ntmps31
      go_wp2_with fail
    all_goals
      go_ret2
      exact ⟨rfl, Below.refl _ _⟩

set_option maxRecDepth 100000 in
set_option maxHeartbeats 2000000 in
theorem law_TransportClocks {p q : Nat → Prop} (A : Option Addr) (n c : Nat) (qs : List TA) (pid b N : Int) (w : World) (h : TPks p q w A n qs) (hb : I64 b) (hN : I64 N) :
    Calls Try.prog 9 #[.slice A n c, .int .i64 pid, .int .i64 b, .int .i64 N] w fun e w' => e = .returned (.bool true) ∧ Below w.heap.size w w' := by
  by_cases h1 : 60 < n
  · go_enter Try.func9, Try.ntmps9
    go_wp2_with fail
    go_ret
    exact ⟨rfl, Below.refl _ _⟩
  have hn : n ≤ 60 := by omega
  have HL := Lib.hid h.1
  have HR := Lib.hid h.2.1
  have HB := Lib.hid hb
  have HN := Lib.hid hN
  obtain ⟨⟨a, ea⟩, hae⟩ : ∃ x, arrE N b = x := ⟨_, rfl⟩
  obtain ⟨⟨j, je⟩, hje⟩ : ∃ x, jitE qs n pid b = x := ⟨_, rfl⟩
  have c1 := fun w => tr_Arrival N b w hN hb
  have c2 := fun w => ref_Arrival N b w hN hb
  rw [hae] at c1 c2
  have C1 := Lib.hid c1
  have C2 := Lib.hid c2
  have HJ := Lib.hid hje
  clear h h1 hb hN c1 c2 hae hje
  go_enter Try.func9, Try.ntmps9
  go_wp2_with fail
  refine (C1.out _).mono ?_
  rintro e w1 ⟨rfl, hb1⟩
  go_wp2_with fail
  refine (C2.out _).mono ?_
  rintro e w2 ⟨rfl, hb2⟩
  have B2 := hb1.trans (hb2.mono hb1.size)
  have HR2 := Lib.hid (HR.out.ext B2)
  go_wp2_with fail
  refine (law_all A n c qs w2 HR2.out HL.out (by omega)).mono ?_
  rintro e w3 ⟨A3, c3, rfl, hr3, hb3⟩
  have B3 := B2.trans (hb3.mono B2.size)
  have HR3 := Lib.hid hr3
  have HRA := Lib.hid (HR.out.ext B3)
  clear hr3
  go_wp2_with fail
  refine (tr_Jitter_all A3 n c3 qs pid b w3 HR3.out HL.out (by omega)).mono ?_
  rw [HJ.out]
  rintro e w4 ⟨rfl, hb4⟩
  have B4 := B3.trans (hb4.mono B3.size)
  have HR4 := Lib.hid (HRA.out.ext hb4)
  go_wp2_with fail
  refine (ref_Jitter_all A n c qs pid b w4 HR4.out HL.out (by omega)).mono ?_
  rw [HJ.out]
  rintro e w5 ⟨rfl, hb5⟩
  have B5 := B4.trans (hb5.mono B4.size)
  go_wp2_with fail
  refine (law_awake _).mono ?_
  rintro e w6 ⟨rfl, hb6⟩
  go_wp2_with fail
  go_ret
  exact ⟨rfl, B5.trans (hb6.mono B5.size)⟩
end Go.Proofs.Ytdnchjmopkhnaaa
