/- The reference's lines. -/
import Derived.Test.YtclainbjidajbaaWp
namespace Go.Proofs.Ytclainbjidajbaa
open Go.RowKit

def LnRel (w : World) (al bl : List Int) (wd g n : Nat) (i : Value) (wr : World) : Prop :=
  ∃ (k : Nat) (l : List Int), k ≤ n ∧ i = .int .i64 (k : Int) ∧ l.length = n ∧ (∀ j, j < k → l[j]? = (linesL al bl wd)[j]?) ∧ Bk wr 5 g l ∧ Below w.heap.size w wr

set_option maxRecDepth 100000 in
set_option maxHeartbeats 4000000 in
theorem ref_lines {p q : Nat → Prop} (A : Option Addr) (B : Option Addr) (n cA d : Nat) (al bl : List Int) (wd : Nat) (w : World) (hA : Byt p w A n al) (hB : Byt q w B n bl) (hw : 0 < wd) (hmax : n ≤ 1000000) :
    Calls Try.prog 37 #[.slice A n cA, .slice B n d, .int .i64 (wd : Int)] w (RetBc w (linesL al bl wd)) := by
  have HLA := Lib.hid hA.len
  have HLB := Lib.hid hB.len
  have HRA := Lib.hid hA.rng
  have HRB := Lib.hid hB.rng
  have HA := Lib.hid (hA.mono (q := (· < w.heap.size)) (fun b h _ => h))
  have HB := Lib.hid (hB.mono (q := (· < w.heap.size)) (fun b h _ => h))
  have hmk := run_mkBn (P := Try.prog) (t := 25) (e := 5) Try.underlying25 Try.infoB n n (Nat.le_refl _) (by omega)
  have z1 : ¬ (wd : Int) = 0 := by omega
  have z2 : ¬ wd = 0 := by omega
  have z3 : ((wd : Int) == 0) = false := by simp; omega
  clear hA hB
  go_enter Try.func37, Try.ntmps37
  go_wp2_with fail
  go_loopw [8] (fun i wr => LnRel w al bl wd w.heap.size n i wr) (fun i _ => n - (intOf i).toNat)
  case atStart => exact ⟨0, List.replicate n 0, Nat.zero_le _, rfl, by simp, fun j hj => absurd hj (Nat.not_lt_zero _), Bk.made w _ n, (Below.refl _ w).alloc (Nat.le_refl _) _⟩
  case round =>
    obtain ⟨k, l, hk, rfl, hl, hd, hbk, hb⟩ := hrel
    have HL := Lib.hid hl
    have HD := Lib.hid hd
    clear hl hd
    by_cases hlt : k < n
    · obtain ⟨b1, o1, x, rfl, hp1, hb1, hx, hx0, hx1, hcx⟩ := (HA.out.below hb (fun _ _ h => h)).at_ hlt
      obtain ⟨b2, o2, y, rfl, hp2, hb2, hy, hy0, hy1, hcy⟩ := (HB.out.below hb (fun _ _ h => h)).at_ hlt
      obtain ⟨l0, hl0, hcl⟩ := hbk.cell_some (i := k) (by rw [HL.out]; exact hlt)
      have hfr := hbk.frozen k
      have hlt1 := hbk.lt
      have i0 : (0 : Int) ≤ (k : Int) := by omega
      have i1 : (k : Int) < (n : Int) := by omega
      obtain ⟨q, hq⟩ : ∃ q, k / wd = q := ⟨_, rfl⟩
      have e1 : (k : Int).tdiv (wd : Int) = (q : Int) := by rw [Int.tdiv_eq_ediv_of_nonneg (by omega), ← hq]; exact (Int.natCast_ediv k wd).symm
      have e2 : (k : Int) / (wd : Int) = (q : Int) := by rw [← hq]; exact (Int.natCast_ediv k wd).symm
      have hqk : q ≤ k := by rw [← hq]; exact Nat.div_le_self _ _
      have e3 : IntKind.i64.wrap (q : Int) = (q : Int) := IntWalk.i64_in _ (by omega)
      have e4 : (q : Int).tmod 2 = ((q % 2 : Nat) : Int) := by rw [Int.tmod_eq_emod_of_nonneg (by omega)]; omega
      have hbk1 := hbk.set_ k x
      have hb1' := bset hb ⟨w.heap.size, k, none⟩ (Nat.le_refl _) (.int .u8 x)
      obtain ⟨l1, hl1, hcl1⟩ := hbk1.cell_some (i := k) (by rw [List.length_set, HL.out]; exact hlt)
      have hfr1 := hbk1.frozen k
      have hlt2 := hbk1.lt
      have hcy1 : (wr.setCell ⟨w.heap.size, k, none⟩ (.int .u8 x)).cell? ⟨b2, o2 + k, none⟩ = some (.int .u8 y) :=
        (World.cell?_of_block (Below.heap_setCell wr ⟨w.heap.size, k, none⟩ (.int .u8 x) b2 (by intro h; dsimp only at h; omega))).trans hcy
      have HQ := Lib.hid hq
      have HX : Hid (q % 2 = 1 ∨ (linesL al bl wd)[k]? = some x) := Lib.hid (by
        by_cases h : q % 2 = 1
        · exact .inl h
        · right
          rw [linesL_at al bl wd (by rw [HLA.out]; exact hlt), hq, if_neg h, ← getD_at (by rw [HLA.out]; exact hlt)]; exact hx)
      have HY : Hid (q % 2 = 1 → (linesL al bl wd)[k]? = some y) := Lib.hid (fun h => by
        rw [linesL_at al bl wd (by rw [HLA.out]; exact hlt), hq, if_pos h, ← getD_at (by rw [HLB.out]; exact hlt)]; exact hy)
      have HBK := Lib.hid hbk
      have HBK1 := Lib.hid hbk1
      have HB1 := Lib.hid hb1'
      clear hx hy hl0 hl1 hq hbk hbk1 hb1'
      by_cases hod : q % 2 = 1
      · have u1 : (q : Int) % 2 = 1 := by omega
        rw [hod] at e4
        go_wp2_with fail
        go_roundw
        case rel =>
          refine ⟨k + 1, _, by omega, by go_num, ?_, ?_, HBK1.out.set_ k y, bset HB1.out ⟨w.heap.size, k, none⟩ (Nat.le_refl _) _⟩
          · rw [List.length_set, List.length_set]; exact HL.out
          · intro j hj
            rw [List.set_set]
            exact set_upto HL.out hlt HD.out (HY.out hod) hj
        case measure => (simp [intOf]; try omega)
      · have u0 : q % 2 = 0 := by omega
        have u1 : (q : Int) % 2 = 0 := by omega
        rw [u0] at e4
        go_wp2_with fail
        go_roundw
        case rel => exact ⟨k + 1, _, by omega, by go_num, by rw [List.length_set]; exact HL.out, fun j hj => set_upto HL.out hlt HD.out (HX.out.resolve_left hod) hj, HBK1.out, HB1.out⟩
        case measure => (simp [intOf]; try omega)
    · have hkn : k = n := by omega
      subst hkn
      go_wp2_with fail
      go_ret
      have hl : l = linesL al bl wd := all_upto HL.out (by rw [linesL_len, HLA.out]) HD.out
      subst hl
      have hr := linesL_rng (wd := wd) (HLB.out.trans HLA.out.symm) HRA.out HRB.out
      have := hbk.byt (p := (w.heap.size ≤ ·)) (Nat.le_refl _) hr
      rw [HL.out] at this
      exact ⟨_, _, _, rfl, this, hb, Nat.le_refl _⟩
end Go.Proofs.Ytclainbjidajbaa
