/- Tape.Next. -/
import Derived.Test.YtclainbjidajbaaPulP
import Derived.Test.YtclainbjidajbaaIts
import Derived.Deep.RegionWith
namespace Go.Proofs.Ytclainbjidajbaa
open Go.RowKit

/-- What the tape says at place a. -/
def tapeV (L : List Int) (a : Nat) : Int := match L[a]? with
  | some v => v
  | none => a * 7 + 3
def nxt (L : List Int) (a n : Nat) : Nat := (tapeV L a % (n : Int)).toNat
theorem nxt_lt (L : List Int) (a : Nat) {n : Nat} (h : 0 < n) : nxt L a n < n := by
  unfold nxt
  have h1 := Int.emod_nonneg (tapeV L a) (show (n : Int) ≠ 0 by omega)
  have h2 := Int.emod_lt_of_pos (tapeV L a) (show (0 : Int) < n by omega)
  omega
theorem rem_rem {v : Int} {n : Nat} (h : 0 < n) : (v.tmod n + n).tmod n = v % n := by
  rcases Int.le_total 0 v with hv | hv
  · rw [Int.tmod_eq_emod_of_nonneg hv, Int.tmod_eq_emod_of_nonneg (by have := Int.emod_nonneg v (show (n : Int) ≠ 0 by omega); omega)]
    simp
  · have h1 : v.tmod n = -((-v) % n) := by
      rw [show v = -(-v) by omega, Int.neg_tmod, Int.tmod_eq_emod_of_nonneg (by omega), Int.neg_neg]
    have h2 := Int.emod_nonneg (-v) (show (n : Int) ≠ 0 by omega)
    have h3 := Int.emod_lt_of_pos (-v) (show (0 : Int) < n by omega)
    rw [h1, Int.tmod_eq_emod_of_nonneg (by omega)]
    have h4 : -((-v) % n) + (n : Int) = v + n * ((-v) / n + 1) := by
      have := Int.mul_ediv_add_emod (-v) n
      rw [Int.mul_add]
      omega
    rw [h4, Int.add_mul_emod_self_left]
/-- The whole numbers that fit. -/
def IntsOk (l : List Int) : Prop := ∀ x ∈ l, -9223372036854775808 ≤ x ∧ x ≤ 9223372036854775807
/-- A tape in block g. -/
def TapeAt (W : World) (g : Nat) (A : Option Addr) (n c a : Nat) (L : List Int) : Prop := Bx W g 50 #[.slice A n c, .int .i64 (a : Int)] ∧ Its .i64 (fun b => b ≠ g) W A n L
theorem TapeAt.ext {W W' : World} {g : Nat} {A : Option Addr} {n c a : Nat} {L : List Int} (h : TapeAt W g A n c a L) (hb : Below W.heap.size W W') : TapeAt W' g A n c a L := ⟨h.1.ext hb, h.2.ext hb⟩
theorem TapeAt.drewN {W : World} {g : Nat} {A : Option Addr} {n c a : Nat} {L : List Int} (h : TapeAt W g A n c a L) (k : Nat) : TapeAt (W.drewN k) g A n c a L := h
theorem TapeAt.step {W : World} {g : Nat} {A : Option Addr} {n c a : Nat} {L : List Int} (h : TapeAt W g A n c a L) (k : Nat) (b : Int) (hb : b = ((a + 1 : Nat) : Int)) : TapeAt ((W.drewN k).setCell ⟨g, 1, none⟩ (.int .i64 b)) g A n c (a + 1) L := by
  subst hb
  exact ⟨(h.drewN k).1.set_ 1 _, (h.drewN k).2.setCell (by simp) _⟩
/-- One more choice from the tape. -/
def NextS (W : World) (g a r : Nat) (e : Ending) (W' : World) : Prop := e = .returned (.int .i64 (r : Int)) ∧ ∃ m, W' = (W.drewN m).setCell ⟨g, 1, none⟩ (.int .i64 ((a : Int) + 1))
set_option maxRecDepth 100000 in
set_option maxHeartbeats 2000000 in
theorem tape_Next (g : Nat) (A : Option Addr) (n c a : Nat) (L : List Int) (N : Nat) (W : World) (h : TapeAt W g A n c a L) (hok : IntsOk L) (ha : a ≤ 1000000) (hN : 1 ≤ N) (hN2 : N ≤ 1000000) :
    Calls Try.prog 21 #[.pointer (some ⟨g, 0, none⟩), .int .i64 (N : Int)] W (NextS W g a (nxt L a N)) := by
  have hx := h.1
  have c0 := hx.cell 0 rfl
  have c1 := hx.cell 1 rfl
  have f1 := hx.frozen 1
  have lx := hx.lt
  have hNz : ¬ (N : Int) = 0 := by omega
  obtain ⟨v, hv⟩ : ∃ v, v = tapeV L a := ⟨_, rfl⟩
  have hvb : -9223372036854775808 ≤ v ∧ v ≤ 9223372036854775807 := by
    rw [hv]
    unfold tapeV
    cases hq : L[a]? with
    | none => dsimp only; omega
    | some x => exact hok x (List.mem_of_getElem? hq)
  obtain ⟨q, hq⟩ : ∃ q, q = v.tmod (N : Int) := ⟨_, rfl⟩
  have hqb : -(N : Int) < q ∧ q < N := by
    rw [hq]
    exact ⟨Int.lt_tmod_of_pos v (by omega), Int.tmod_lt_of_pos v (by omega)⟩
  obtain ⟨r, hr⟩ : ∃ r, r = nxt L a N := ⟨_, rfl⟩
  have hr2 : (q + (N : Int)).tmod (N : Int) = (r : Int) := by
    rw [hq, rem_rem (by omega), hr]
    unfold nxt
    rw [← hv, Int.toNat_of_nonneg (Int.emod_nonneg _ (by omega))]
  have hrb : r < N := by rw [hr]; exact nxt_lt L a (by omega)
  have hq' : v.tmod (N : Int) = q := hq.symm
  rw [← hr]
  have HI := Lib.hid h.2
  have HV := Lib.hid hv
  clear h hx hr hq hv
  by_cases hlt : a < n
  · obtain ⟨b, off, x, rfl, _, hb, hxx, hc⟩ := HI.out.at_ hlt
    have hvx : v = x := by rw [HV.out]; unfold tapeV; rw [hxx]
    subst hvx
    have hz : (a : Int) < (n : Int) := by omega
    clear hxx
    go_enter Try.func21, Try.ntmps21
    go_wp2_with fail
    go_quiet (fail)
    go_wp2_with fail
    go_quiet (fail)
    go_wp2_with fail
    go_ret
    exact ⟨rfl, _, rfl⟩
  · have hvx : v = (a : Int) * 7 + 3 := by
      rw [HV.out]
      unfold tapeV
      rw [List.getElem?_eq_none (by rw [HI.out.len]; omega)]
    have hz : ¬ (a : Int) < (n : Int) := by omega
    have hvx' : (a : Int) * 7 + 3 = v := hvx.symm
    clear hvx
    go_enter Try.func21, Try.ntmps21
    go_wp2_with fail
    go_quiet (fail)
    go_wp2_with fail
    go_ret
    exact ⟨rfl, _, rfl⟩
end Go.Proofs.Ytclainbjidajbaa
