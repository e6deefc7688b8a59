/- The reference's Take: too short behind a right header. -/
import Derived.Test.YtojfaonlgkicfaaTakeRa
namespace Go.Proofs.Ytojfaonlgkicfaa
open Go.RowKit

set_option maxRecDepth 100000 in
set_option maxHeartbeats 4000000 in
theorem ref_Take_short2_0 {b off n c N : Nat} (x3 x4 x5 : Int) (w : World) (hn : 9 ≤ n) (hb : b < w.heap.size)
    (hc : w.cell? ⟨b, off, none⟩ = some (.int .u8 0) ∧ w.cell? ⟨b, off + 1, none⟩ = some (.int .u8 0) ∧ w.cell? ⟨b, off + 2, none⟩ = some (.int .u8 1) ∧ w.cell? ⟨b, off + 3, none⟩ = some (.int .u8 x3) ∧ w.cell? ⟨b, off + 4, none⟩ = some (.int .u8 x4) ∧ w.cell? ⟨b, off + 5, none⟩ = some (.int .u8 x5) ∧ w.cell? ⟨b, off + 6, none⟩ = some (.int .u8 128) ∧ w.cell? ⟨b, off + 7, none⟩ = some (.int .u8 0) ∧ w.cell? ⟨b, off + 8, none⟩ = some (.int .u8 0))
    (h3 : 192 ≤ x3 ∧ x3 ≤ 239) (h4 : 0 ≤ x4 ∧ x4 ≤ 255) (h5 : 0 ≤ x5 ∧ x5 ≤ 255) (hN : (N : Int) = x4 * 256 + x5) (hNz : 3 + 0 ≤ N) (hsh : n < 6 + N) :
    Calls Try.prog 23 #[.slice (some ⟨b, off, none⟩) n c] w (RetT w 0 0 0 [] 0 4) := by
  obtain ⟨c0, c1, c2, c3, c4, c5, c6, c7, c8⟩ := hc
  have o1 : bits .or .i64 (x4 * 256) x5 = (N : Int) := by rw [i64_or_low 8 x4 x5 256 rfl (by omega) (by omega) (by omega) (by omega)]; omega
  have w1 : IntKind.i64.wrap (x4 * 256) = x4 * 256 := IntWalk.i64_in _ (by omega)
  have w2 : IntKind.i64.wrap x4 = x4 := IntWalk.i64_in _ (by omega)
  have w3 : IntKind.i64.wrap x5 = x5 := IntWalk.i64_in _ (by omega)
  have N2 : N ≤ 65535 := by omega
  clear hN
  have B0 : Below w.heap.size w (w.alloc (.cells #[.int .i64 0, .int .i64 0, .int .i64 0, .slice none 0 0] 29)) := (Below.refl _ w).alloc (Nat.le_refl _) _
  have X1 : Bx (w.alloc (.cells #[.int .i64 0, .int .i64 0, .int .i64 0, .slice none 0 0] 29)) w.heap.size 29 #[.int .i64 0, .int .i64 0, .int .i64 0, .slice none 0 0] := Bx.new _ _ _
  go_enter Try.func23, Try.ntmps23
  go_upto_region 1 with fail
  generalize w.alloc (.cells #[.int .i64 0, .int .i64 0, .int .i64 0, .slice none 0 0] 29) = W at *
  have q0 := B0.size
  obtain ⟨u0, u1, u2, u3⟩ := X1.cells4
  have v0 := X1.frozen 0
  have v1 := X1.frozen 1
  have v2 := X1.frozen 2
  have v3 := X1.frozen 3
  have t1 := X1.lt
  have c0 : W.cell? ⟨b, off, none⟩ = some (.int .u8 0) := (B0.cell (p := ⟨b, off, none⟩) hb).trans c0
  have c1 : W.cell? ⟨b, off + 1, none⟩ = some (.int .u8 0) := (B0.cell (p := ⟨b, off + 1, none⟩) hb).trans c1
  have c2 : W.cell? ⟨b, off + 2, none⟩ = some (.int .u8 1) := (B0.cell (p := ⟨b, off + 2, none⟩) hb).trans c2
  have c3 : W.cell? ⟨b, off + 3, none⟩ = some (.int .u8 x3) := (B0.cell (p := ⟨b, off + 3, none⟩) hb).trans c3
  have c4 : W.cell? ⟨b, off + 4, none⟩ = some (.int .u8 x4) := (B0.cell (p := ⟨b, off + 4, none⟩) hb).trans c4
  have c5 : W.cell? ⟨b, off + 5, none⟩ = some (.int .u8 x5) := (B0.cell (p := ⟨b, off + 5, none⟩) hb).trans c5
  have c6 : W.cell? ⟨b, off + 6, none⟩ = some (.int .u8 128) := (B0.cell (p := ⟨b, off + 6, none⟩) hb).trans c6
  have c7 : W.cell? ⟨b, off + 7, none⟩ = some (.int .u8 0) := (B0.cell (p := ⟨b, off + 7, none⟩) hb).trans c7
  have c8 : W.cell? ⟨b, off + 8, none⟩ = some (.int .u8 0) := (B0.cell (p := ⟨b, off + 8, none⟩) hb).trans c8
  go_wp2_with fail
  go_quiet (fail)
  go_wp2_with fail
  exact rtake_zero 4 _ rfl rfl rfl rfl rfl (Bx.drewN X1 nq) (bdrewN B0 nq)

end Go.Proofs.Ytojfaonlgkicfaa
