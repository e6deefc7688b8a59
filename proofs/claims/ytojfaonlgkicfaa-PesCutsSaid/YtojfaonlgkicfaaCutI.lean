/- pes.pieces: the iterator over the parts of the data. -/
import Derived.RangeFuncNested
import Derived.RangeFuncBound
import Derived.RangeFuncCalls
import Derived.RangeFuncLeaves
import Derived.Shelf.Abstract
import Derived.Shelf.RegionOpen
import Derived.WalkKit
import Derived.OwnWalkIn
import Derived.TacticsInMore
import Derived.LoopNIn
import Derived.LoopIn
import Derived.Test.YtojfaonlgkicfaaJoinP
namespace Go.Proofs.Ytojfaonlgkicfaa
open Go.RowKit Go.Shelf

/-- The first j places. -/
def uptoF (m : Nat) : (j : Nat) → j ≤ m → List { i : Nat // i < m }
  | 0, _ => []
  | j + 1, h => uptoF m j (by omega) ++ [⟨j, by omega⟩]
theorem uptoF_len (m : Nat) : ∀ (j : Nat) (h : j ≤ m), (uptoF m j h).length = j
  | 0, _ => rfl
  | j + 1, h => by simp [uptoF, uptoF_len m j]
theorem uptoF_succ (m j : Nat) (h : j + 1 ≤ m) : uptoF m (j + 1) h = uptoF m j (by omega) ++ [⟨j, by omega⟩] := rfl

/-- What a round keeps: what lay below n0, and two blocks. -/
def KpC (n0 Bs Bk : Nat) (W W' : World) : Prop := Below n0 W W' ∧ W'.heap[Bs]? = W.heap[Bs]? ∧ W'.heap[Bk]? = W.heap[Bk]?
theorem KpC.trans {n0 Bs Bk : Nat} {A B C : World} (h : KpC n0 Bs Bk A B) (k : KpC n0 Bs Bk B C) : KpC n0 Bs Bk A C := ⟨h.1.trans k.1, k.2.1.trans h.2.1, k.2.2.trans h.2.2⟩
theorem KpC.refl (n0 Bs Bk : Nat) (W : World) : KpC n0 Bs Bk W W := ⟨Below.refl _ _, rfl, rfl⟩
set_option maxRecDepth 100000 in
set_option maxHeartbeats 2000000 in
theorem pieces1_in (F : Fence) (nn : Nat) (hF : F.fn 52) (hro : F.round = none) (hnn : 1 ≤ nn) (l Bs Bk nb n c k m : Nat) (A : Option Addr) (pv : Nat → Value) (hk : 1 ≤ k) (hk2 : k ≤ 60000) (hn : n ≤ 1000000) (hm : 1 ≤ m) (hmn : (m - 1) * k ≤ n) (hmi : ∀ i, i + 1 < m ↔ (i + 1) * k < n)
    (run1 : ∀ i, i + 1 < m → ∀ w, (Instr.slice 27 (.slice A n c) (some (.int .i64 ((i * k : Nat) : Int))) (some (.int .i64 (((i * k : Nat) : Int) + (k : Int)))) (some (.int .i64 (((i * k : Nat) : Int) + (k : Int))))).run Try.prog w = .ok (pv i) w)
    (run2 : ∀ w, (Instr.slice 27 (.slice A n c) (some (.int .i64 (((m - 1) * k : Nat) : Int))) (some (.int .i64 (n : Int))) (some (.int .i64 (n : Int)))).run Try.prog w = .ok (pv (m - 1)) w)
    (J Jx : List { i : Nat // i < m } → World → Prop)
    (hY : ∀ pre x W, J pre W → pre.length < m → YieldAt F (nn - 1) Try.prog l #[pv x.1] W fun e W' =>
      (e = .returned (.bool true) ∧ J (pre ++ [x]) W' ∧ KpC nb Bs Bk W W') ∨ (e = .returned (.bool false) ∧ Jx (pre ++ [x]) W'))
    (W : World) (hBs : W.cell? ⟨Bs, 0, none⟩ = some (.slice A n c)) (hBk : W.cell? ⟨Bk, 0, none⟩ = some (.int .i64 (k : Int))) (h0 : J [] W) :
    CallsIn F nn Try.prog 52 #[.func (.yield l) #[] #[], .pointer (some ⟨Bs, 0, none⟩), .pointer (some ⟨Bk, 0, none⟩)] W fun e W' => (∃ v, e = .returned v) ∧
      ((∃ xs, xs = uptoF m m (Nat.le_refl _) ∧ J xs W') ∨ (∃ pre, True ∧ Jx pre W')) := by
  have HR1 := Lib.hid run1
  have HR2 := Lib.hid run2
  have HMI := Lib.hid hmi
  clear run1 run2 hmi
  refine callsIn_of_wp Try.func52 rfl hF ?_ hro
  simp only [Try.ntmps52, List.size_toArray, List.length_cons, List.length_nil, Nat.reduceAdd, Nat.reduceSub, Array.replicate_succ, Array.replicate_zero, List.push_toArray, List.append_toArray, List.nil_append, List.cons_append]
  gi_wp2
  gi_loopw [4] (fun i wr => ∃ (j : Nat) (hj : j + 1 ≤ m), i = .int .i64 ((j * k : Nat) : Int) ∧ J (uptoF m j (by omega)) wr ∧ KpC nb Bs Bk W wr) (fun i _ => n - (intOf i).toNat)
  case atStart => exact ⟨0, hm, by simp, h0, KpC.refl _ _ _ _⟩
  case round =>
    obtain ⟨j, hj, rfl, hJs, hnx⟩ := hrel
    obtain ⟨Q, hQ⟩ : ∃ Q, j * k = Q := ⟨_, rfl⟩
    have hQn : Q ≤ n := by
      rw [← hQ]
      exact Nat.le_trans (Nat.mul_le_mul_right _ (by omega)) hmn
    have c0 := (World.cell?_of_block (a := ⟨Bs, 0, none⟩) hnx.2.1).trans hBs
    have c1 := (World.cell?_of_block (a := ⟨Bk, 0, none⟩) hnx.2.2).trans hBk
    have wsub : IntKind.i64.wrap ((n : Int) - (Q : Int)) = (n : Int) - (Q : Int) := IntWalk.i64_in _ (by omega)
    have wadd : IntKind.i64.wrap ((Q : Int) + (k : Int)) = (Q : Int) + (k : Int) := IntWalk.i64_in _ (by omega)
    rw [hQ]
    by_cases hlt : j + 1 < m
    · have hqk : Q + k < n := by
        have := (HMI.out j).1 hlt
        rw [Nat.succ_mul, hQ] at this
        exact this
      have d1 : decide ((k : Int) < (n : Int) - (Q : Int)) = true := decide_eq_true (by omega)
      have r1 := HR1.out j hlt
      rw [hQ] at r1
      obtain ⟨fn, tmps, assign, body, hy, hR⟩ := hY _ ⟨j, by omega⟩ wr hJs (by rw [uptoF_len]; omega)
      dsimp only at hy
      have HRR := Lib.hid hR
      have HQ := Lib.hid hQ
      clear hQ hR
      gi_wp2
      refine HRR.out.mono ?_
      rintro e W3 (⟨rfl, hJ3, hk3⟩ | ⟨rfl, hJx3⟩)
      · have c2 := (World.cell?_of_block (a := ⟨Bk, 0, none⟩) hk3.2.2).trans c1
        gi_wp2
        go_roundw
        case rel => exact ⟨j + 1, hlt, by rw [Nat.succ_mul, HQ.out]; simp, by rw [uptoF_succ]; exact hJ3, hnx.trans hk3⟩
        case measure => simp [intOf]; omega
      · gi_wp2
        refine bodyPost_ret (results_none rfl _ _ _) rfl ?_
        exact ⟨⟨_, rfl⟩, .inr ⟨_, trivial, hJx3⟩⟩
    · have hjm : j + 1 = m := by omega
      have hqk : n ≤ Q + k := by
        rcases Nat.lt_or_ge (Q + k) n with h | h
        · exfalso
          exact hlt ((HMI.out j).2 (by rw [Nat.succ_mul, hQ]; exact h))
        · exact h
      have d1 : decide ((k : Int) < (n : Int) - (Q : Int)) = false := decide_eq_false (by omega)
      have r2 := HR2.out
      rw [show m - 1 = j by omega, hQ] at r2
      obtain ⟨fn, tmps, assign, body, hy, hR⟩ := hY _ ⟨j, by omega⟩ wr hJs (by rw [uptoF_len]; omega)
      dsimp only at hy
      have HRR := Lib.hid hR
      have HQ := Lib.hid hQ
      clear hQ hR
      gi_wp2
      refine HRR.out.mono ?_
      rintro e W3 (⟨rfl, hJ3, hk3⟩ | ⟨rfl, hJx3⟩)
      · gi_wp2
        go_end0
        subst hjm
        exact ⟨⟨_, rfl⟩, .inl ⟨_, rfl, by rw [uptoF_succ]; exact hJ3⟩⟩
      · gi_wp2
        go_end0
        exact ⟨⟨_, rfl⟩, .inr ⟨_, trivial, hJx3⟩⟩
end Go.Proofs.Ytojfaonlgkicfaa
