/- The contracts of Blank and Flat of the reference. -/
import Derived.Test.YtaedpadkpclldaaEqual
import Derived.Test.YtaedpadkpclldaaMean
namespace Go.Proofs.Ytaedpadkpclldaa
open Go.RowKit

/-- A frame whose three planes are blocks of their own. -/
def Own3 (w : World) (base : Nat) (v : Value) (x y : Int) (Y U V : List Int) : Prop :=
  ∃ g1 g2 g3 : Nat, v = .agg #[.int .i64 x, .int .i64 y, .slice (some ⟨g1, 0, none⟩) Y.length Y.length, .slice (some ⟨g2, 0, none⟩) U.length U.length, .slice (some ⟨g3, 0, none⟩) V.length V.length] ∧
    Bk w 5 g1 Y ∧ Bk w 5 g2 U ∧ Bk w 5 g3 V ∧ base ≤ g1 ∧ base ≤ g2 ∧ base ≤ g3 ∧ g1 ≠ g2 ∧ g1 ≠ g3 ∧ g2 ≠ g3

set_option maxHeartbeats 2000000 in
theorem ref_Blank (x y : Int) (hx0 : 0 ≤ x) (hx : x ≤ 64) (hy0 : 0 ≤ y) (hy : y ≤ 64) (w : World) :
    Calls Try.prog 19 #[.int .i64 x, .int .i64 y] w fun e w' =>
      ∃ v, e = .returned v ∧ Own3 w' w.heap.size v x y (List.replicate (x * y).toNat 0) (List.replicate (x / 2 * (y / 2)).toNat 0) (List.replicate (x / 2 * (y / 2)).toNat 0) ∧ Below w.heap.size w w' := by
  have m1 := mul_bd (x := x) (y := y) (m := 64) hx0 hx hy0 hy
  have m2 := mul_bd (x := x / 2) (y := y / 2) (m := 64) (by omega) (by omega) (by omega) (by omega)
  have k1 := run_mkB (P := Try.prog) (t := 22) Try.underlying22 Try.infoB (x * y) (x * y) m1.1 (Int.le_refl _) (by omega)
  have k2 := run_mkB (P := Try.prog) (t := 22) Try.underlying22 Try.infoB (x / 2 * (y / 2)) (x / 2 * (y / 2)) m2.1 (Int.le_refl _) (by omega)
  have e1 : IntKind.i64.wrap (x * y) = x * y := IntWalk.i64_in _ (by omega)
  have e2 : IntKind.i64.wrap (x / 2) = x / 2 := IntWalk.i64_in _ (by omega)
  have e3 : IntKind.i64.wrap (y / 2) = y / 2 := IntWalk.i64_in _ (by omega)
  have e4 : IntKind.i64.wrap (x / 2 * (y / 2)) = x / 2 * (y / 2) := IntWalk.i64_in _ (by omega)
  have e5 : x.tdiv 2 = x / 2 := Int.tdiv_eq_ediv_of_nonneg hx0
  have e6 : y.tdiv 2 = y / 2 := Int.tdiv_eq_ediv_of_nonneg hy0
  go_enter Try.func19, Try.ntmps19
  go_wp2
  go_region
  all_goals clear e1 e2 e3 e4 e5 e6 k1 k2
  all_goals go_wp2
  all_goals
    (first
     | (refine bodyPost_ret (v := .agg #[.int .i64 x, .int .i64 y, .slice (some ⟨w.heap.size + 1, 0, none⟩) (x * y).toNat (x * y).toNat, .slice (some ⟨w.heap.size + 1 + 1, 0, none⟩) (x / 2 * (y / 2)).toNat (x / 2 * (y / 2)).toNat, .slice (some ⟨w.heap.size + 1 + 1 + 1, 0, none⟩) (x / 2 * (y / 2)).toNat (x / 2 * (y / 2)).toNat]) ?_ rfl ?_
        · ((simp only [results, Try.results19]); go_simp; done)
        refine ⟨_, rfl, ⟨w.heap.size + 1, w.heap.size + 1 + 1, w.heap.size + 1 + 1 + 1, by simp, ?_, ?_, ?_, by omega, by omega, by omega, by omega, by omega, by omega⟩, ?_⟩)
     | (refine bodyPost_ret (v := .agg #[.int .i64 x, .int .i64 y, .slice (some ⟨w.heap.size + 1, 0, none⟩) (x * y).toNat (x * y).toNat, .slice (some ⟨w.heap.size + 1 + 1 + 1, 0, none⟩) (x / 2 * (y / 2)).toNat (x / 2 * (y / 2)).toNat, .slice (some ⟨w.heap.size + 1 + 1, 0, none⟩) (x / 2 * (y / 2)).toNat (x / 2 * (y / 2)).toNat]) ?_ rfl ?_
        · ((simp only [results, Try.results19]); go_simp; done)
        refine ⟨_, rfl, ⟨w.heap.size + 1, w.heap.size + 1 + 1 + 1, w.heap.size + 1 + 1, by simp, ?_, ?_, ?_, by omega, by omega, by omega, by omega, by omega, by omega⟩, ?_⟩)
     | (refine bodyPost_ret (v := .agg #[.int .i64 x, .int .i64 y, .slice (some ⟨w.heap.size + 1 + 1, 0, none⟩) (x * y).toNat (x * y).toNat, .slice (some ⟨w.heap.size + 1, 0, none⟩) (x / 2 * (y / 2)).toNat (x / 2 * (y / 2)).toNat, .slice (some ⟨w.heap.size + 1 + 1 + 1, 0, none⟩) (x / 2 * (y / 2)).toNat (x / 2 * (y / 2)).toNat]) ?_ rfl ?_
        · ((simp only [results, Try.results19]); go_simp; done)
        refine ⟨_, rfl, ⟨w.heap.size + 1 + 1, w.heap.size + 1, w.heap.size + 1 + 1 + 1, by simp, ?_, ?_, ?_, by omega, by omega, by omega, by omega, by omega, by omega⟩, ?_⟩)
     | (refine bodyPost_ret (v := .agg #[.int .i64 x, .int .i64 y, .slice (some ⟨w.heap.size + 1 + 1, 0, none⟩) (x * y).toNat (x * y).toNat, .slice (some ⟨w.heap.size + 1 + 1 + 1, 0, none⟩) (x / 2 * (y / 2)).toNat (x / 2 * (y / 2)).toNat, .slice (some ⟨w.heap.size + 1, 0, none⟩) (x / 2 * (y / 2)).toNat (x / 2 * (y / 2)).toNat]) ?_ rfl ?_
        · ((simp only [results, Try.results19]); go_simp; done)
        refine ⟨_, rfl, ⟨w.heap.size + 1 + 1, w.heap.size + 1 + 1 + 1, w.heap.size + 1, by simp, ?_, ?_, ?_, by omega, by omega, by omega, by omega, by omega, by omega⟩, ?_⟩)
     | (refine bodyPost_ret (v := .agg #[.int .i64 x, .int .i64 y, .slice (some ⟨w.heap.size + 1 + 1 + 1, 0, none⟩) (x * y).toNat (x * y).toNat, .slice (some ⟨w.heap.size + 1, 0, none⟩) (x / 2 * (y / 2)).toNat (x / 2 * (y / 2)).toNat, .slice (some ⟨w.heap.size + 1 + 1, 0, none⟩) (x / 2 * (y / 2)).toNat (x / 2 * (y / 2)).toNat]) ?_ rfl ?_
        · ((simp only [results, Try.results19]); go_simp; done)
        refine ⟨_, rfl, ⟨w.heap.size + 1 + 1 + 1, w.heap.size + 1, w.heap.size + 1 + 1, by simp, ?_, ?_, ?_, by omega, by omega, by omega, by omega, by omega, by omega⟩, ?_⟩)
     | (refine bodyPost_ret (v := .agg #[.int .i64 x, .int .i64 y, .slice (some ⟨w.heap.size + 1 + 1 + 1, 0, none⟩) (x * y).toNat (x * y).toNat, .slice (some ⟨w.heap.size + 1 + 1, 0, none⟩) (x / 2 * (y / 2)).toNat (x / 2 * (y / 2)).toNat, .slice (some ⟨w.heap.size + 1, 0, none⟩) (x / 2 * (y / 2)).toNat (x / 2 * (y / 2)).toNat]) ?_ rfl ?_
        · ((simp only [results, Try.results19]); go_simp; done)
        refine ⟨_, rfl, ⟨w.heap.size + 1 + 1 + 1, w.heap.size + 1 + 1, w.heap.size + 1, by simp, ?_, ?_, ?_, by omega, by omega, by omega, by omega, by omega, by omega⟩, ?_⟩))
  all_goals
    (first
     | (refine Bk.drew (Bk.made' _ _ _ _ ?_); simp; done)
     | (refine Bk.drew ((Bk.made' _ _ _ _ ?_).alloc _); simp; done)
     | (refine Bk.drew (((Bk.made' _ _ _ _ ?_).alloc _).alloc _); simp; done)
     | exact (((((Below.refl _ _).alloc (by simp) _).alloc (by simp) _).alloc (by simp; omega) _).alloc (by simp; omega) _).drew)
end Go.Proofs.Ytaedpadkpclldaa
