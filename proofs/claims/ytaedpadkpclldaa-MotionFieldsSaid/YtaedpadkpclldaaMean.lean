/- The contracts of the two functions 'mean'. -/
import Derived.Test.YtaedpadkpclldaaProg
import Derived.Test.YtaedpadkpclldaaWords
namespace Go.Proofs.Ytaedpadkpclldaa
open Go.RowKit

theorem Try.infoB : (Try.prog.info? 5).map (fun i => (i.zero, i.size, i.bytes)) = some (some (.int .u8 0), 1, 1) := by kernel_rfl

def meanL (a b : List Int) : List Int := List.zipWith (fun x y => (x + y + 1) / 2) a b

theorem meanL_at {a b : List Int} {k : Nat} {x y : Int} (hx : a[k]? = some x) (hy : b[k]? = some y) : (meanL a b)[k]? = some ((x + y + 1) / 2) := by
  simp [meanL, List.getElem?_zipWith, hx, hy]
theorem meanL_rng {a b : List Int} (ha : ∀ x ∈ a, 0 ≤ x ∧ x ≤ 255) (hb : ∀ x ∈ b, 0 ≤ x ∧ x ≤ 255) : ∀ x ∈ meanL a b, 0 ≤ x ∧ x ≤ 255 := by
  intro z hz
  obtain ⟨i, hi⟩ := List.mem_iff_getElem?.1 hz
  simp only [meanL, List.getElem?_zipWith] at hi
  rcases hx : a[i]? with _ | x <;> rcases hy : b[i]? with _ | y <;> simp [hx, hy] at hi
  have h1 := ha x (List.mem_of_getElem? hx)
  have h2 := hb y (List.mem_of_getElem? hy)
  omega

set_option maxHeartbeats 400000 in
theorem motion_mean {p p' : Nat → Prop} (A A' : Option Addr) (n n' c c' : Nat) (la lb : List Int) (w : World) (ha : Byt p w A n la) (hb : Byt p' w A' n' lb)
    (hn : n ≤ n') (hm : n ≤ 100000) :
    Calls Try.prog 26 #[.slice A n c, .slice A' n' c'] w (RetB w (meanL la lb)) := by
  have hmk := run_mkBn (P := Try.prog) (t := 22) Try.underlying22 Try.infoB n n (Nat.le_refl _) (by omega)
  go_enter Try.func26, Try.ntmps26
  go_wp2
  clear hmk
  go_loopw [13] (fun i wr => ∃ k : Nat, k ≤ n ∧ i = .int .i64 k ∧ Below w.heap.size w wr ∧ ∃ l : List Int, Bk wr 5 w.heap.size l ∧ l.length = n ∧ ∀ j, j < k → l[j]? = (meanL la lb)[j]?) (fun i _ => n - (intOf i).toNat)
  case atStart => exact ⟨0, Nat.zero_le _, rfl, (Below.refl _ _).alloc (Nat.le_refl _) _, _, Bk.made w _ n, by simp, fun j hj => absurd hj (by omega)⟩
  case round =>
    obtain ⟨k, hk, rfl, hbel, l, hB, hl, hdone⟩ := hrel
    by_cases hlt : k < n
    · obtain ⟨b1, o1, x, rfl, _, hb1, hx, hx0, hx1, hcx⟩ := ha.at_ hlt
      obtain ⟨b2, o2, y, rfl, _, hb2, hy, hy0, hy1, hcy⟩ := hb.at_ (k := k) (by omega)
      have hcx' := (hbel.cell (p := ⟨b1, o1 + k, none⟩) hb1).trans hcx
      have hcy' := (hbel.cell (p := ⟨b2, o2 + k, none⟩) hb2).trans hcy
      obtain ⟨z, hz, hcz⟩ := hB.cell_some (i := k) (by omega)
      have hfz := hB.frozen k
      have HL := Lib.hid hl; clear hl
      have HX := Lib.hid hx; have HY := Lib.hid hy; have HZ := Lib.hid hz; clear hx hy hz hcx hcy
      go_wp2
      go_roundw
      case rel =>
        refine ⟨k + 1, by omega, by go_num, hbel.setCell (Nat.le_refl _) _, _, hB.set_ k _, by rw [List.length_set]; exact HL.out, fun j hj => ?_⟩
        rw [set_upto HL.out hlt hdone (by rw [meanL_at HX.out HY.out]) hj]
      case measure => simp [intOf]; omega
    · obtain rfl : k = n := by omega
      go_wp2
      go_ret
      refine ⟨_, _, _, rfl, ?_, hbel⟩
      obtain rfl : l = meanL la lb := all_upto hl (by simp [meanL, ha.len, hb.len]; omega) hdone
      have := hB.byt (p := (w.heap.size ≤ ·)) (Nat.le_refl _) (meanL_rng ha.rng hb.rng)
      rwa [hl] at this

set_option maxHeartbeats 400000 in
theorem ref_mean {p p' : Nat → Prop} (A A' : Option Addr) (n n' c c' : Nat) (la lb : List Int) (w : World) (ha : Byt p w A n la) (hb : Byt p' w A' n' lb)
    (hn : n ≤ n') (hm : n ≤ 100000) :
    Calls Try.prog 28 #[.slice A n c, .slice A' n' c'] w (RetB w (meanL la lb)) := by
  go_enter Try.func28, Try.ntmps28
  go_wp2
  go_loopw [5, 6] (fun v i wr => ∃ k : Nat, k ≤ n ∧ i = .int .i64 k ∧ Below w.heap.size w wr ∧ OwB wr w.heap.size 5 v ((meanL la lb).take k)) (fun _ i _ => n - (intOf i).toNat)
  case atStart => exact ⟨0, Nat.zero_le _, rfl, Below.refl _ _, OwB.nil⟩
  case round =>
    obtain ⟨k, hk, rfl, hbel, hown⟩ := hrel
    by_cases hlt : k < n
    · obtain ⟨b1, o1, x, rfl, _, hb1, hx, hx0, hx1, hcx⟩ := ha.at_ hlt
      obtain ⟨b2, o2, y, rfl, _, hb2, hy, hy0, hy1, hcy⟩ := hb.at_ (k := k) (by omega)
      have hcx' := (hbel.cell (p := ⟨b1, o1 + k, none⟩) hb1).trans hcx
      have hcy' := (hbel.cell (p := ⟨b2, o2 + k, none⟩) hb2).trans hcy
      have hi0 : (0 : Int) ≤ (k : Int) := by omega
      have hi1 : (k : Int) < (n : Int) := by omega
      have hi2 : (k : Int) < (n' : Int) := by omega
      have hz : w.heap.size ≤ wr.heap.size := hbel.size
      have HX := Lib.hid hx; have HY := Lib.hid hy; clear hx hy hcx hcy
      go_wp2
      have e1 : IntKind.i64.wrap x = x := IntWalk.i64_in _ (by omega)
      have e2 : IntKind.i64.wrap y = y := IntWalk.i64_in _ (by omega)
      have e3 : IntKind.i64.wrap (x + y) = x + y := IntWalk.i64_in _ (by omega)
      have e4 : IntKind.i64.wrap (x + y + 1) = x + y + 1 := IntWalk.i64_in _ (by omega)
      have e5 : IntKind.u8.wrap ((x + y + 1) / 2) = (x + y + 1) / 2 := u8_in (by omega) (by omega)
      go_region_held3 (fun w' => w'.cell? ⟨b1, o1 + k, none⟩ = some (.int .u8 x) ∧ w'.cell? ⟨b2, o2 + k, none⟩ = some (.int .u8 y))
        (first | go_keep | exact ⟨(own_cell hg hown hb1 (by simp; omega)).trans (by go_simp), (own_cell hg hown hb2 (by simp; omega)).trans (by go_simp)⟩)
        (first | (refine step_appB _ (by rfl) _ _ _ (by rfl) _ Try.underlying22 Try.infoB w.heap.size _ _ (by rfl) (hown.drew.alloc _) _ _ _ _ (by rfl) (Byt.one _ _ _ (by omega) (by omega)) (by simp; omega) (by simp; omega) ?_; intro v' w1 hown' hg hat))
      clear e1 e2 e3 e4 e5
      go_wp2
      go_roundw
      case rel =>
        refine ⟨k + 1, by omega, by go_num, ?_, ?_⟩
        · exact (hbel.drew.alloc (by simpa using hz) _).grown hg (by simp; omega) (fun b hb => (hown.lt b hb).1)
        · rw [take_snoc_at (meanL_at HX.out HY.out)]; exact hown'
      case measure => simp [intOf]; omega
    · obtain rfl : k = n := by omega
      go_wp2
      go_ret
      rw [List.take_of_length_le (by simp [meanL, ha.len, hb.len]; omega)] at hown
      obtain ⟨A1, c1, rfl, hB⟩ := hown.ret (p := (w.heap.size ≤ ·)) (fun _ h => h) (meanL_rng ha.rng hb.rng)
      exact ⟨_, _, _, rfl, hB, hbel⟩
end Go.Proofs.Ytaedpadkpclldaa
