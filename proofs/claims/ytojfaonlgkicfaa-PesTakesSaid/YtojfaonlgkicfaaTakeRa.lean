/- The reference's Take where it refuses. -/
import Derived.Test.YtojfaonlgkicfaaTakenR
namespace Go.Proofs.Ytojfaonlgkicfaa
open Go.RowKit

theorem rtake_leave {w : World} {g : Nat} {s p d n code : Int} {A : Option Addr} {k c : Nat} {l : List Int} (a : Act) (W : World) (h2 : a.tmps[2]? = some (.pointer (some ⟨g, 0, none⟩))) (h3 : a.tmps[3]? = some (.int .i64 n)) (h4 : a.tmps[4]? = some (.int .i64 code)) (hd : a.defers = [])
    (X1 : Bx W g 29 #[.int .i64 s, .int .i64 p, .int .i64 d, .slice A k c]) (hB : Byt (w.heap.size ≤ ·) W A k l) (hb : Below w.heap.size w W) :
    bodyPost Try.prog Try.f23 (RetT w s p d l n code) .ret a W := by
  obtain ⟨u0, u1, u2, u3⟩ := X1.cells4
  obtain ⟨tmps, defers⟩ := a
  dsimp only at h2 h3 h4 hd
  exact bodyPost_ret (v := .tuple #[.agg #[.int .i64 s, .int .i64 p, .int .i64 d, .slice A k c], .int .i64 n, .int .i64 code]) (by simp [results, Try.results23, go_sem, h2, h3, h4, u0, u1, u2, u3]) hd ⟨_, _, _, rfl, hB, hb⟩
theorem rtake_zero {w W : World} {g : Nat} {a0 a1 a2 a3 : Value} (code : Int) (a : Act) (hg : g = w.heap.size) (h2 : a.tmps[2]? = some (.pointer (some ⟨g, 0, none⟩))) (h3 : a.tmps[3]? = some (.int .i64 0)) (h4 : a.tmps[4]? = some (.int .i64 code)) (hd : a.defers = [])
    (X1 : Bx W g 29 #[a0, a1, a2, a3]) (B0 : Below w.heap.size w W) :
    bodyPost Try.prog Try.f23 (RetT w 0 0 0 [] 0 code) .ret a ((((W.setCell ⟨g, 0, none⟩ (.int .i64 0)).setCell ⟨g, 1, none⟩ (.int .i64 0)).setCell ⟨g, 2, none⟩ (.int .i64 0)).setCell ⟨g, 3, none⟩ (.slice none 0 0)) := by
  refine rtake_leave (w := w) _ _ h2 h3 h4 hd (A := none) (k := 0) (c := 0) ((((X1.set_ 0 _).set_ 1 _).set_ 2 _).set_ 3 _) Byt.nil ?_
  exact (((B0.setCell (by dsimp only; omega) _).setCell (by dsimp only; omega) _).setCell (by dsimp only; omega) _).setCell (by dsimp only; omega) _

set_option maxRecDepth 100000 in
set_option maxHeartbeats 2000000 in
theorem ref_Take_short (A : Option Addr) (n c : Nat) (w : World) (hn : n < 9) :
    Calls Try.prog 23 #[.slice A n c] w (RetT w 0 0 0 [] 0 4) := by
  go_enter Try.func23, Try.ntmps23
  go_wp2_with fail
  exact rtake_leave (w := w) _ _ rfl rfl rfl rfl (Bx.new _ _ _) Byt.nil ((Below.refl _ w).alloc (Nat.le_refl _) _)

set_option maxRecDepth 100000 in
set_option maxHeartbeats 4000000 in
theorem ref_Take_form {b off n c : Nat} (x0 x1 x2 x3 x4 x5 x6 x7 x8 : Int) (w : World) (hn : 9 ≤ n) (hb : b < w.heap.size)
    (hc : w.cell? ⟨b, off, none⟩ = some (.int .u8 x0) ∧ w.cell? ⟨b, off + 1, none⟩ = some (.int .u8 x1) ∧ w.cell? ⟨b, off + 2, none⟩ = some (.int .u8 x2) ∧ w.cell? ⟨b, off + 3, none⟩ = some (.int .u8 x3) ∧ w.cell? ⟨b, off + 4, none⟩ = some (.int .u8 x4) ∧ w.cell? ⟨b, off + 5, none⟩ = some (.int .u8 x5) ∧ w.cell? ⟨b, off + 6, none⟩ = some (.int .u8 x6) ∧ w.cell? ⟨b, off + 7, none⟩ = some (.int .u8 x7) ∧ w.cell? ⟨b, off + 8, none⟩ = some (.int .u8 x8))
    (h4 : 0 ≤ x4 ∧ x4 ≤ 255) (h5 : 0 ≤ x5 ∧ x5 ≤ 255) (h8 : 0 ≤ x8 ∧ x8 ≤ 255) (hno : hdrB x0 x1 x2 x3 x4 x5 x6 x7 x8 = false) :
    Calls Try.prog 23 #[.slice (some ⟨b, off, none⟩) n c] w (RetT w 0 0 0 [] 0 3) := by
  obtain ⟨c0, c1, c2, c3, c4, c5, c6, c7, c8⟩ := hc
  have HNO : ¬ (x0 = 0 ∧ x1 = 0 ∧ x2 = 1 ∧ 192 ≤ x3 ∧ x3 ≤ 239 ∧ x6 = 128 ∧ (x7 = 0 ∧ x8 = 0 ∨ x7 = 128 ∧ x8 = 5 ∨ x7 = 192 ∧ x8 = 10) ∧ 3 + x8 ≤ x4 * 256 + x5) := by simpa [hdrB] using hno
  have HNo := Lib.hid HNO
  clear HNO hno
  have o1 : bits .or .i64 (x4 * 256) x5 = x4 * 256 + x5 := i64_or_low 8 x4 x5 256 rfl (by omega) (by omega) (by omega) (by omega)
  have w1 : IntKind.i64.wrap (x4 * 256) = x4 * 256 := IntWalk.i64_in _ (by omega)
  have w2 : IntKind.i64.wrap x4 = x4 := IntWalk.i64_in _ (by omega)
  have w3 : IntKind.i64.wrap x5 = x5 := IntWalk.i64_in _ (by omega)
  have w4 : IntKind.i64.wrap x8 = x8 := IntWalk.i64_in _ (by omega)
  have B0 : Below w.heap.size w (w.alloc (.cells #[.int .i64 0, .int .i64 0, .int .i64 0, .slice none 0 0] 29)) := (Below.refl _ w).alloc (Nat.le_refl _) _
  have X1 : Bx (w.alloc (.cells #[.int .i64 0, .int .i64 0, .int .i64 0, .slice none 0 0] 29)) w.heap.size 29 #[.int .i64 0, .int .i64 0, .int .i64 0, .slice none 0 0] := Bx.new _ _ _
  go_enter Try.func23, Try.ntmps23
  go_upto_region 1 with fail
  generalize w.alloc (.cells #[.int .i64 0, .int .i64 0, .int .i64 0, .slice none 0 0] 29) = W at *
  have q0 := B0.size
  obtain ⟨u0, u1, u2, u3⟩ := X1.cells4
  have v0 := X1.frozen 0
  have v1 := X1.frozen 1
  have v2 := X1.frozen 2
  have v3 := X1.frozen 3
  have t1 := X1.lt
  have c0 : W.cell? ⟨b, off, none⟩ = some (.int .u8 x0) := (B0.cell (p := ⟨b, off, none⟩) hb).trans c0
  have c1 : W.cell? ⟨b, off + 1, none⟩ = some (.int .u8 x1) := (B0.cell (p := ⟨b, off + 1, none⟩) hb).trans c1
  have c2 : W.cell? ⟨b, off + 2, none⟩ = some (.int .u8 x2) := (B0.cell (p := ⟨b, off + 2, none⟩) hb).trans c2
  have c3 : W.cell? ⟨b, off + 3, none⟩ = some (.int .u8 x3) := (B0.cell (p := ⟨b, off + 3, none⟩) hb).trans c3
  have c4 : W.cell? ⟨b, off + 4, none⟩ = some (.int .u8 x4) := (B0.cell (p := ⟨b, off + 4, none⟩) hb).trans c4
  have c5 : W.cell? ⟨b, off + 5, none⟩ = some (.int .u8 x5) := (B0.cell (p := ⟨b, off + 5, none⟩) hb).trans c5
  have c6 : W.cell? ⟨b, off + 6, none⟩ = some (.int .u8 x6) := (B0.cell (p := ⟨b, off + 6, none⟩) hb).trans c6
  have c7 : W.cell? ⟨b, off + 7, none⟩ = some (.int .u8 x7) := (B0.cell (p := ⟨b, off + 7, none⟩) hb).trans c7
  have c8 : W.cell? ⟨b, off + 8, none⟩ = some (.int .u8 x8) := (B0.cell (p := ⟨b, off + 8, none⟩) hb).trans c8
  go_wp2_with fail
  go_quiet (fail)
  go_upto_region 8 with fail
  all_goals first
    | (with_reducible exact rtake_zero 3 _ rfl rfl rfl rfl rfl (Bx.drewN X1 nq) (bdrewN B0 nq))
    | exact (HNo.out ⟨(by first | assumption | omega), (by first | assumption | omega), (by first | assumption | omega), (by first | assumption | omega), (by first | assumption | omega), (by first | assumption | omega), (by first | exact .inl ⟨by assumption, by assumption⟩ | exact .inr (.inl ⟨by assumption, by assumption⟩) | exact .inr (.inr ⟨by assumption, by assumption⟩) | omega), (by first | assumption | omega)⟩).elim
    | (have h10 : (!x8 == 10) = false := (by assumption)
       exact (HNo.out ⟨(by first | assumption | omega), (by first | assumption | omega), (by first | assumption | omega), (by first | assumption | omega), (by first | assumption | omega), (by first | assumption | omega), .inr (.inr ⟨by assumption, by simpa using h10⟩), (by first | assumption | omega)⟩).elim)

end Go.Proofs.Ytojfaonlgkicfaa
