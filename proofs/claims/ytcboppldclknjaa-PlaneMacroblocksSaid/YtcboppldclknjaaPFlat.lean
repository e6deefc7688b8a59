/- The contract of plane.Flat. -/
import Derived.Test.YtcboppldclknjaaPBase
import Derived.Test.YtcboppldclknjaaRepeat
namespace Go.Proofs.Ytcboppldclknjaa
open Go.RowKit

theorem slices_RepeatI {p : Nat → Prop} (A : Option Addr) (c : Nat) (n : Int) (a : Int) (w : World) (ha : Byt p w A 1 [a]) (h0 : 0 ≤ n) (hn : n ≤ 100000) :
    Calls Try.prog 42 #[.slice A 1 c, .int .i64 n] w (RetB w (List.replicate n.toNat a)) := by
  obtain ⟨m, rfl⟩ := Int.eq_ofNat_of_zero_le h0
  exact slices_Repeat A c m a w ha (by omega)

def flatR (x y a b c : Int) : Fr × Int := if sizeB x y = true then (flatF x y a b c, 0) else (zeroFr, 1)

set_option maxHeartbeats 2000000 in
theorem plane_Flat (x y a b c : Int) (w : World) (ha : 0 ≤ a ∧ a ≤ 255) (hb : 0 ≤ b ∧ b ≤ 255) (hc : 0 ≤ c ∧ c ≤ 255) :
    Calls Try.prog 19 #[.int .i64 x, .int .i64 y, .int .u8 a, .int .u8 b, .int .u8 c] w (RetFr w (flatR x y a b c)) := by
  unfold flatR
  by_cases hs : sizeB x y = true
  · rw [if_pos hs]
    obtain ⟨h1, h2, h3, h4, h5, h6⟩ := sizeB_true hs
    have m1 := mul_bd (x := x) (y := y) (m := 64) (by omega) h2 (by omega) h5
    have m2 := mul_bd (x := x / 2) (y := y / 2) (m := 64) (by omega) (by omega) (by omega) (by omega)
    go_enter Try.func19, Try.ntmps19
    go_wp2_with (go_at_call 41; refine (plane_formedSize _ _ _).mono ?_; rintro e w' ⟨rfl, rfl⟩)
    with_reducible refine (slices_RepeatI (p := fun _ => True) _ _ _ a _ (Byt.one' _ _ _ _ (by simp) ha.1 ha.2) (by omega) (by omega)).mono ?_
    rintro e w1 ⟨A1, n1, t1, rfl, hB1, hb1⟩
    have r1 : Bx w1 w.heap.size 24 #[.int .i64 0, .int .i64 0, .slice none 0 0, .slice none 0 0, .slice none 0 0] := ((Bx.new w _ _).alloc _).ext hb1
    have B1 : Below w.heap.size w w1 := (((Below.refl _ w).alloc (by simp) _).alloc (by simp) _).trans (hb1.mono (by simp; omega))
    go_wp2_with fail
    with_reducible refine (slices_RepeatI (p := fun _ => True) _ _ _ b _ (Byt.one' _ _ _ _ (by simp) hb.1 hb.2) (by omega) (by omega)).mono ?_
    rintro e w2 ⟨A2, n2, t2, rfl, hB2, hb2⟩
    have r2 := (r1.alloc (.cells #[.int .u8 b] 5)).ext hb2
    have B2 := (B1.alloc (o := .cells #[.int .u8 b] 5) B1.size).trans (hb2.mono (by have := B1.size; simp; omega))
    go_wp2_with fail
    with_reducible refine (slices_RepeatI (p := fun _ => True) _ _ _ c _ (Byt.one' _ _ _ _ (by simp) hc.1 hc.2) (by omega) (by omega)).mono ?_
    rintro e w3 ⟨A3, n3, t3, rfl, hB3, hb3⟩
    have r3 := (r2.alloc (.cells #[.int .u8 c] 5)).ext hb3
    have B3 := (B2.alloc (o := .cells #[.int .u8 c] 5) B2.size).trans (hb3.mono (by have := B2.size; simp; omega))
    obtain ⟨f0, f1, f2, f3, f4⟩ := r3.cells5
    have g0 := r3.frozen 0
    have g1 := r3.frozen 1
    have g2 := r3.frozen 2
    have g3 := r3.frozen 3
    have g4 := r3.frozen 4
    have s1 := r1.lt
    have s2 := hb2.size
    have s3 := hb3.size
    simp at s2 s3
    go_wp2_with fail
    have v1 := (((hB1.alloc (.cells #[.int .u8 b] 5)).ext hb2).alloc (.cells #[.int .u8 c] 5)).ext hb3
    have v2 := (hB2.alloc (.cells #[.int .u8 c] 5)).ext hb3
    refine bodyPost_ret (v := .tuple #[.agg #[.int .i64 x, .int .i64 y, .slice A1 n1 t1, .slice A2 n2 t2, .slice A3 n3 t3], .int .i64 0]) (by simp only [results, Try.results19]; go_simp) rfl ⟨_, rfl, ⟨A1, n1, t1, A2, n2, t2, A3, n3, t3, rfl, ?_, ?_, ?_⟩, ?_⟩
    · refine Byt.mono (p := (w.heap.size + 1 ≤ ·)) ?_ (fun k _ h => by omega)
      repeat refine Byt.setCell ?_ (by simp) _
      exact v1.mono (fun k _ h => by simp at h; omega)
    · refine Byt.mono (p := (w.heap.size + 1 ≤ ·)) ?_ (fun k _ h => by omega)
      repeat refine Byt.setCell ?_ (by simp) _
      exact v2.mono (fun k _ h => by simp at h; omega)
    · refine Byt.mono (p := (w.heap.size + 1 ≤ ·)) ?_ (fun k _ h => by omega)
      repeat refine Byt.setCell ?_ (by simp) _
      exact hB3.mono (fun k _ h => by simp at h; omega)
    · repeat refine Below.setCell ?_ (by simp) _
      exact B3
  · rw [if_neg hs]
    have hs' : sizeB x y = false := by simpa using hs
    go_enter Try.func19, Try.ntmps19
    go_wp2_with (go_at_call 41; refine (plane_formedSize _ _ _).mono ?_; rintro e w' ⟨rfl, rfl⟩)
    refine bodyPost_ret (v := .tuple #[.agg #[.int .i64 0, .int .i64 0, .slice none 0 0, .slice none 0 0, .slice none 0 0], .int .i64 1]) (by simp only [results, Try.results19]; go_simp) rfl (retFr_zero (B := 1) ?_ rfl)
    (repeat refine Below.setCell ?_ (by simp) _)
    exact (Below.refl _ w).alloc (Nat.le_refl _) _
end Go.Proofs.Ytcboppldclknjaa
