/- How far two frames are from each other: the plain functions and the contracts of Valid, Size, distance, apart, Distance and Same. -/
import Derived.Test.YtaedpadkpclldaaForm
import Derived.Test.YtaedpadkpclldaaWords2
namespace Go.Proofs.Ytaedpadkpclldaa
open Go.RowKit
attribute [local go_sem ↓] run_min_mm run_max_mm run_max_mm3

def dl (a b : List Int) : List Int := List.zipWith (fun x y => max (x - y) (y - x)) a b
def distL (a b : List Int) : Int := (dl a b).foldl max 0
theorem dl_at {a b : List Int} {k : Nat} {x y : Int} (hx : a[k]? = some x) (hy : b[k]? = some y) : (dl a b)[k]? = some (max (x - y) (y - x)) := by
  simp [dl, List.getElem?_zipWith, hx, hy]
theorem dist_snoc {a b : List Int} {k : Nat} {x y : Int} (hx : a[k]? = some x) (hy : b[k]? = some y) :
    ((dl a b).take (k + 1)).foldl max 0 = max (((dl a b).take k).foldl max 0) (max (x - y) (y - x)) := by
  rw [take_snoc_at (dl_at hx hy), List.foldl_append]
  rfl
theorem foldl_max_bd {l : List Int} {s m : Int} (hs : 0 ≤ s ∧ s ≤ m) (h : ∀ x ∈ l, x ≤ m) : 0 ≤ l.foldl max s ∧ l.foldl max s ≤ m := by
  induction l generalizing s with
  | nil => exact hs
  | cons x l ih =>
    have hx := h x (by simp)
    exact ih (by omega) (fun y hy => h y (by simp [hy]))
theorem dl_le {a b : List Int} (ha : ∀ x ∈ a, 0 ≤ x ∧ x ≤ 255) (hb : ∀ x ∈ b, 0 ≤ x ∧ x ≤ 255) : ∀ x ∈ dl a b, x ≤ 255 := by
  intro z hz
  obtain ⟨i, hi⟩ := List.mem_iff_getElem?.1 hz
  simp only [dl, List.getElem?_zipWith] at hi
  rcases hx : a[i]? with _ | x <;> rcases hy : b[i]? with _ | y <;> simp [hx, hy] at hi
  have h1 := ha x (List.mem_of_getElem? hx)
  have h2 := hb y (List.mem_of_getElem? hy)
  omega
theorem dist_bd {a b : List Int} (ha : ∀ x ∈ a, 0 ≤ x ∧ x ≤ 255) (hb : ∀ x ∈ b, 0 ≤ x ∧ x ≤ 255) (k : Nat) : 0 ≤ ((dl a b).take k).foldl max 0 ∧ ((dl a b).take k).foldl max 0 ≤ 255 :=
  foldl_max_bd (by omega) (fun x hx => dl_le ha hb x (List.mem_of_mem_take hx))


set_option maxHeartbeats 1000000 in
theorem ref_apart {p p' : Nat → Prop} (A A' : Option Addr) (n n' c c' : Nat) (la lb : List Int) (w : World) (ha : Byt p w A n la) (hb : Byt p' w A' n' lb) (hn : n ≤ n') (hm : n ≤ 100000) :
    Calls Try.prog 37 #[.slice A n c, .slice A' n' c'] w fun e w' => e = .returned (.int .i64 (distL la lb)) ∧ Below w.heap.size w w' := by
  go_enter Try.func37, Try.ntmps37
  go_wp2
  go_loopw [5, 6] (fun g i wr => ∃ k : Nat, k ≤ n ∧ i = .int .i64 k ∧ g = .int .i64 (((dl la lb).take k).foldl max 0) ∧ Below w.heap.size w wr) (fun _ i _ => n - (intOf i).toNat)
  case atStart => exact ⟨0, Nat.zero_le _, rfl, rfl, Below.refl _ _⟩
  case round =>
    obtain ⟨k, hk, rfl, rfl, hbel⟩ := hrel
    have hbd := dist_bd ha.rng hb.rng k
    by_cases hlt : k < n
    · obtain ⟨b1, o1, x, rfl, _, hb1, hx, hx0, hx1, hcx⟩ := ha.at_ hlt
      obtain ⟨b2, o2, y, rfl, _, hb2, hy, hy0, hy1, hcy⟩ := hb.at_ (k := k) (by omega)
      have hcx' := (hbel.cell (p := ⟨b1, o1 + k, none⟩) hb1).trans hcx
      have hcy' := (hbel.cell (p := ⟨b2, o2 + k, none⟩) hb2).trans hcy
      have HX := Lib.hid hx
      have HY := Lib.hid hy
      clear hx hy hcx hcy
      have i0 : (0 : Int) ≤ (k : Int) := by omega
      have i1 : (k : Int) < (n : Int) := by omega
      have i2 : (k : Int) < (n' : Int) := by omega
      go_wp2
      generalize hG : ((dl la lb).take k).foldl max 0 = G at *
      have HG := Lib.hid hG
      clear hG
      have e1 : IntKind.i64.wrap x = x := IntWalk.i64_in _ (by omega)
      have e2 : IntKind.i64.wrap y = y := IntWalk.i64_in _ (by omega)
      have e3 : IntKind.i64.wrap (x - y) = x - y := IntWalk.i64_in _ (by omega)
      have e4 : IntKind.i64.wrap (y - x) = y - x := IntWalk.i64_in _ (by omega)
      go_region_held3 (fun w' => w'.cell? ⟨b1, o1 + k, none⟩ = some (.int .u8 x) ∧ w'.cell? ⟨b2, o2 + k, none⟩ = some (.int .u8 y)) (go_keep) (fail)
      clear e1 e2 e3 e4
      go_wp2
      go_roundw
      case rel => exact ⟨k + 1, by omega, by go_num, (by rw [dist_snoc HX.out HY.out, HG.out]; try (congr 1; omega)), hbel.drew⟩
      case measure => simp [intOf]; omega
    · obtain rfl : k = n := by omega
      go_wp2
      go_ret
      refine ⟨?_, hbel⟩
      unfold distL
      rw [List.take_of_length_le (by simp [dl, ha.len, hb.len]; omega)]
      rfl
end Go.Proofs.Ytaedpadkpclldaa
