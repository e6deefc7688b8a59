/- Two arrays of 188 bytes are equal just if their lists are. -/
import Derived.Test.YtdnchjmopkhnaaaTrO
import Derived.Laws.Rows
namespace Go.Proofs.Ytdnchjmopkhnaaa
open Go.RowKit

theorem eqin188 (w : World) (l m : List Int) (hl : l.length = 188) (hm : m.length = 188) : (Op.equalIn 10000 73 (.agg (rowN .u8 l)) (.agg (rowN .u8 m))).run Try.prog w = .ok (decide (l = m)) w := by
  have hsz : ∀ w, (sizeOf 5).run Try.prog w = .ok 1 w := fun _ => by kernel_rfl
  have he := Try.underlying5
  have hlm : decide (l = m) = decide (∀ i ∈ List.range' 0 188 1, l.getD i 0 = m.getD i 0) := by
    rw [Bool.eq_iff_iff, decide_eq_true_eq, decide_eq_true_eq]
    constructor
    · rintro rfl i _; rfl
    · intro h
      apply List.ext_getElem?
      intro i
      by_cases hi : i < 188
      · have := h i (List.mem_range'_1.2 (by omega))
        rw [List.getElem?_eq_getElem (by omega), List.getElem?_eq_getElem (by omega)]
        simp only [List.getD, List.getElem?_eq_getElem (show i < l.length by omega), List.getElem?_eq_getElem (show i < m.length by omega), Option.getD_some] at this
        rw [this]
      · rw [List.getElem?_eq_none (by omega), List.getElem?_eq_none (by omega)]
  rw [hlm, Op.equalIn]
  simp only [Sem.run_bind, run_underlying Try.underlying73, Result.andThen_ok, hsz, Std.Legacy.Range.forIn_eq_forIn_range', Std.Legacy.Range.size, Nat.sub_zero, Nat.add_sub_cancel, Nat.div_one]
  have hr : ∀ i ∈ List.range' 0 188 1, i < 188 := fun i hi => by have := (List.mem_range'_1.1 hi).2; omega
  generalize List.range' 0 188 1 = r at hr ⊢
  induction r with
  | nil => simp
  | cons i r ih =>
    have hi : i < 188 := hr i (by simp)
    have px : (part 5 (rowN .u8 l) (i * 1)).run Try.prog w = .ok (.int .u8 (l.getD i 0)) w := by
      simp [part, isAgg, run_underlying he, rowN, List.getD, List.getElem?_eq_getElem (show i < l.length by omega)]
    have py : (part 5 (rowN .u8 m) (i * 1)).run Try.prog w = .ok (.int .u8 (m.getD i 0)) w := by
      simp [part, isAgg, run_underlying he, rowN, List.getD, List.getElem?_eq_getElem (show i < m.length by omega)]
    have pe : (Op.equalIn 9999 5 (.int .u8 (l.getD i 0)) (.int .u8 (m.getD i 0))).run Try.prog w = .ok (l.getD i 0 == m.getD i 0) w := by
      rw [run_equalIn_int w 9998 5 .u8 .u8 _ _ he]
    have ih' := ih fun j hj => hr j (by simp [hj])
    simp only [List.forIn_cons, Sem.run_bind, px, py, pe, Result.andThen_ok]
    by_cases hc : l.getD i 0 = m.getD i 0
    · have hb : (l.getD i 0 == m.getD i 0) = true := by simpa using hc
      rw [hb]
      simp only [Bool.not_true, Bool.false_eq_true, if_false, Sem.run_pure, Result.andThen_ok]
      have hd : decide (∀ j ∈ i :: r, l.getD j 0 = m.getD j 0) = decide (∀ j ∈ r, l.getD j 0 = m.getD j 0) := by
        rw [Bool.eq_iff_iff, decide_eq_true_eq, decide_eq_true_eq, List.forall_mem_cons]
        exact ⟨fun h => h.2, fun h => ⟨hc, h⟩⟩
      rw [hd]
      exact ih'
    · have hb : (l.getD i 0 == m.getD i 0) = false := by simpa using hc
      have hd : decide (∀ j ∈ i :: r, l.getD j 0 = m.getD j 0) = false := by
        rw [decide_eq_false_iff_not, List.forall_mem_cons]
        exact fun h => hc h.1
      rw [hb, hd]
      simp
theorem eql188 (w : World) (l m : List Int) (hl : l.length = 188) (hm : m.length = 188) : (binOp .eql 73 (.agg (rowN .u8 l)) (.agg (rowN .u8 m))).run Try.prog w = .ok (.bool (decide (l = m))) w := by
  rw [run_eql_struct, eqin188 w l m hl hm]
  rfl
end Go.Proofs.Ytdnchjmopkhnaaa
