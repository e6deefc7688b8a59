/- The contracts of Size, of bits.Mul at small numbers, of slices.Repeat at one byte, and of Same. -/
import Derived.Test.YtcboppldclknjaaPDistance
import Derived.Test.YtcboppldclknjaaCopyW
import Derived.Test.YtcboppldclknjaaInfo
namespace Go.Proofs.Ytcboppldclknjaa
open Go.RowKit

set_option maxHeartbeats 400000 in
theorem ref_Size (x y : Int) (w : World) :
    Calls Try.prog 20 #[.int .i64 x, .int .i64 y] w fun e w' => e = .returned (.bool (sizeB x y)) ∧ w = w' := by
  go_enter Try.func20, Try.ntmps20
  go_wp2
  all_goals
    go_ret
    refine ⟨ret_bool ?_, rfl⟩
    unfold sizeB
    first | (simp; omega) | (rw [Bool.eq_iff_iff]; simp; omega)

set_option maxHeartbeats 1000000 in
theorem plane_Same {p p' : Nat → Prop} (v v' : Value) (f g : Fr) (w : World) (hf : IsFr p w v f) (hg : IsFr p' w v' g) :
    Calls Try.prog 23 #[v, v'] w fun e w' => e = .returned (.bool (distF f g == 0)) ∧ Below w.heap.size w w' := by
  have hf0 := hf
  have hg0 := hg
  obtain ⟨ya, yn, yc, ua, un, uc, va, vn, vc, rfl, hy, hu, hv⟩ := hf
  obtain ⟨ya', yn', yc', ua', un', uc', va', vn', vc', rfl, hy', hu', hv'⟩ := hg
  clear hy hu hv hy' hu' hv'
  go_enter Try.func23, Try.ntmps23
  go_wp2_with fail
  refine (plane_Distance (p := p) (p' := p') _ _ f g _ ((hf0.alloc _).alloc _) ((hg0.alloc _).alloc _)).mono ?_
  rintro e w1 ⟨rfl, hb1⟩
  go_wp2_with fail
  go_ret
  exact ⟨rfl, (((Below.refl _ w).alloc (by simp) _).alloc (by simp) _).trans (hb1.mono (by simp; omega))⟩

set_option maxHeartbeats 1000000 in
theorem bits_Mul64_one (n : Nat) (hn : n ≤ 100000) (w : World) :
    Calls Try.prog 66 #[.int .u64 1, .int .u64 n] w fun e w' => e = .returned (.tuple #[.int .u64 0, .int .u64 n]) ∧ w = w' := by
  have a1 : bits .and .u64 1 4294967295 = 1 := by decide +kernel
  have a2 : bits .and .u64 (n : Int) 4294967295 = n := by
    have h := u64_and_nat n 4294967295 (by omega) (by omega)
    have e : n &&& 4294967295 = n := by
      have := Nat.and_two_pow_sub_one_eq_mod n 32
      simp only [Nat.reducePow, Nat.reduceSub] at this
      rw [this]; omega
    rw [e] at h
    exact h
  have a3 : (n : Int) / 4294967296 = 0 := by omega
  have a4 : bits .and .u64 0 4294967295 = 0 := by decide +kernel
  go_enter Try.func66, Try.ntmps66
  go_wp2
  go_ret2
  exact ⟨rfl, rfl⟩

set_option maxHeartbeats 1000000 in
theorem bits_Mul_one (n : Nat) (hn : n ≤ 100000) (w : World) :
    Calls Try.prog 62 #[.int .u64 1, .int .u64 n] w fun e w' => e = .returned (.tuple #[.int .u64 0, .int .u64 n]) ∧ w = w' := by
  go_enter Try.func62, Try.ntmps62
  go_wp2_with (go_at_call 66; refine (bits_Mul64_one n hn _).mono ?_; rintro e w' ⟨rfl, rfl⟩)
  go_ret2
  exact ⟨rfl, rfl⟩

set_option maxHeartbeats 2000000 in
theorem slices_Repeat {p : Nat → Prop} (A : Option Addr) (c n : Nat) (a : Int) (w : World) (ha : Byt p w A 1 [a]) (hn : n ≤ 100000) :
    Calls Try.prog 42 #[.slice A 1 c, .int .i64 n] w (RetB w (List.replicate n a)) := by
  have hra := ha.rng a (by simp)
  have hmk := run_mkBn (P := Try.prog) (t := 22) Try.underlying22 Try.infoB n n (Nat.le_refl _) (by omega)
  go_enter Try.func42, Try.ntmps42
  go_wp2_with (first
    | (go_at_call 62; refine (bits_Mul_one n hn _).mono ?_; rintro e w' ⟨rfl, rfl⟩)
    | (with_reducible refine wpList_copyB (p := p) _ rfl _ _ _ rfl _ Try.underlying22 Try.infoB _ _ _ _ _ _ rfl rfl w.heap.size 0 _ (Bk.made w _ n) [a] (ha.alloc _) (fun _ => rfl) (by simp) ?_; intro w1 hB1 hg1))
  clear hmk
  have B1 : Below w.heap.size w w1 := ((Below.refl _ w).alloc (Nat.le_refl _) _).grown hg1 (by simp) (fun k hk => by cases hk; exact Nat.le_refl _)
  go_loopw [8] (fun i wr => ∃ (k : Nat) (l : List Int), k ≤ n ∧ (0 < k ∨ n = 0) ∧ i = .int .i64 k ∧ Below w.heap.size w wr ∧ Bk wr 5 w.heap.size l ∧ l.length = n ∧ ∀ j, j < k → l[j]? = some a) (fun i _ => n - (intOf i).toNat)
  case atStart =>
    refine ⟨min 1 n, _, by omega, by omega, rfl, B1, hB1, by rw [spl_len (by simp; omega)]; simp, fun j hj => ?_⟩
    rw [spl_at (by simp; omega), if_neg (by omega), if_pos (by simp; omega), List.getElem?_take, if_pos (by omega)]
    obtain rfl : j = 0 := by omega
    rfl
  case round =>
    obtain ⟨k, l, hk, hk0, rfl, hbel, hB, hl, hdone⟩ := hrel
    by_cases hlt : k < n
    · have hkp : 0 < k := by omega
      have i0 : (0 : Int) ≤ (k : Int) := by omega
      have i1 : (k : Int) ≤ (n : Int) := by omega
      have HL := Lib.hid hl
      have hfit : k + (n - k) ≤ l.length := by omega
      have hsrc : Byt (fun _ => True) wr.drew (some ⟨w.heap.size, 0, none⟩) k (List.replicate k a) := by
        refine ⟨by simp, fun x hx => by obtain rfl := List.eq_of_mem_replicate hx; exact hra, fun _ => ⟨_, _, rfl, trivial, fun j x hx => ?_⟩⟩
        rw [List.getElem?_replicate] at hx
        split at hx
        · rename_i hj
          cases hx
          show wr.cell? _ = _
          rw [hB.cell, Nat.zero_add, hdone j hj]
          rfl
        · cases hx
      clear hl hk0
      have e1 : IntKind.i64.wrap ((k : Int) + ((min k (n - k) : Nat) : Int)) = (k : Int) + ((min k (n - k) : Nat) : Int) := IntWalk.i64_in _ (by omega)
      go_wp2
      go_region_held3 (fun _ => True) (trivial)
        (first | (refine step_copyB (p := fun _ => True) _ (by rfl) _ _ _ (by rfl) _ Try.underlying22 Try.infoB _ _ _ _ _ _ (by rfl) (by rfl) w.heap.size k _ hB.drew (List.replicate k a) hsrc (fun _ => (by simp; omega)) hfit ?_; intro w2 hB2 hg2))
      clear e1
      go_wp2
      go_roundw
      case rel =>
        have hle : k + ((List.replicate k a).take (n - k)).length ≤ l.length := by simp; omega
        refine ⟨k + min k (n - k), _, by omega, by omega, by go_num, hbel.drew.grown hg2 (by simpa using hbel.size) (fun b hb => by cases hb; exact Nat.le_refl _), hB2, by rw [spl_len hle]; exact HL.out, fun j hj => ?_⟩
        rw [spl_at hle]
        by_cases h1 : j < k
        · rw [if_pos h1]; exact hdone j h1
        · rw [if_neg h1, if_pos (by simp; omega), List.getElem?_take, if_pos (by omega), List.getElem?_replicate, if_pos (by omega)]
      case measure => simp [intOf]; omega
    · obtain rfl : k = n := by omega
      go_wp2
      go_ret
      refine ⟨_, _, _, rfl, ?_, hbel⟩
      obtain rfl : l = List.replicate k a := all_upto hl (by simp) (fun j hj => by rw [hdone j hj]; simp [hj])
      have := hB.byt (p := (w.heap.size ≤ ·)) (Nat.le_refl _) (fun x hx => by obtain rfl := List.eq_of_mem_replicate hx; exact hra)
      rwa [hl] at this
end Go.Proofs.Ytcboppldclknjaa
