/- pes.Take where it refuses. -/
import Derived.Test.YtojfaonlgkicfaaTakeP
namespace Go.Proofs.Ytojfaonlgkicfaa
open Go.RowKit

set_option maxRecDepth 100000 in
set_option maxHeartbeats 2000000 in
theorem pes_Take_short (A : Option Addr) (n c : Nat) (w : World) (hn : n < 9) :
    Calls Try.prog 22 #[.slice A n c] w (RetT w 0 0 0 [] 0 4) := by
  have hmf : ∀ (fn : Fn) (first cap : Array Value) (w : World), (Instr.makeFunc fn first cap).run Try.prog w = .ok (.func fn first cap) w := fun _ _ _ _ => rfl
  go_enter_defers Try.func22, Try.ntmps22
  go_wp2
  refine leaves_cons (f := 38) (args := #[.pointer (some ⟨w.heap.size, 0, none⟩), .pointer (some ⟨w.heap.size + 1, 0, none⟩), .pointer (some ⟨w.heap.size + 1 + 1, 0, none⟩)]) (by simp) (by simp [go_sem]) ?_
  refine (take_idle _ _ _ _).mono ?_
  rintro e u' w'' ⟨rfl, rfl, rfl⟩
  refine ⟨.tuple #[.agg #[.int .i64 0, .int .i64 0, .int .i64 0, .slice none 0 0], .int .i64 0, .int .i64 4], by simp [results, Try.results22, go_sem], ?_⟩
  exact ⟨_, _, _, rfl, Byt.nil, (((Below.refl _ w).alloc (Nat.le_refl _) _).alloc (by simp) _).alloc (by simp; omega) _⟩

theorem Bx.drewN {w : World} {g : Nat} {t : TypeId} {cs : Array Value} (h : Bx w g t cs) (k : Nat) : Bx (w.drewN k) g t cs := h
theorem take_leave {w : World} {g : Nat} {s p d n code : Int} {A : Option Addr} {k c : Nat} {l : List Int} (a : Act) (W : World) (h2 : a.tmps[2]? = some (.pointer (some ⟨g, 0, none⟩))) (h3 : a.tmps[3]? = some (.pointer (some ⟨g + 1, 0, none⟩))) (h4 : a.tmps[4]? = some (.pointer (some ⟨g + 1 + 1, 0, none⟩)))
    (hd : a.defers = [{ target := Target.fn (Fn.func 38) #[.pointer (some ⟨g, 0, none⟩), .pointer (some ⟨g + 1, 0, none⟩), .pointer (some ⟨g + 1 + 1, 0, none⟩)], args := #[] }])
    (X1 : Bx W g 30 #[.int .i64 s, .int .i64 p, .int .i64 d, .slice A k c]) (X2 : Bx W (g + 1) 3 #[.int .i64 n]) (X3 : Bx W (g + 1 + 1) 38 #[.int .i64 code]) (hB : Byt (w.heap.size ≤ ·) W A k l) (hb : Below w.heap.size w W) :
    bodyPostD Try.prog Try.f22 (RetT w s p d l n code) .ret a W := by
  obtain ⟨u0, u1, u2, u3⟩ := X1.cells4
  have u4 : W.cell? ⟨g + 1, 0, none⟩ = some (.int .i64 n) := X2.cell 0 rfl
  have u5 : W.cell? ⟨g + 1 + 1, 0, none⟩ = some (.int .i64 code) := X3.cell 0 rfl
  obtain ⟨tmps, defers⟩ := a
  dsimp only at h2 h3 h4 hd
  subst hd
  refine leaves_cons (f := 38) (args := #[.pointer (some ⟨g, 0, none⟩), .pointer (some ⟨g + 1, 0, none⟩), .pointer (some ⟨g + 1 + 1, 0, none⟩)]) (by simp) (by simp [go_sem]) ?_
  refine (take_idle _ _ _ _).mono ?_
  rintro e u' w'' ⟨rfl, rfl, rfl⟩
  refine ⟨.tuple #[.agg #[.int .i64 s, .int .i64 p, .int .i64 d, .slice A k c], .int .i64 n, .int .i64 code], by simp [results, Try.results22, go_sem, h2, h3, h4, u0, u1, u2, u3, u4, u5], ?_⟩
  exact ⟨_, _, _, rfl, hB, hb⟩

theorem take_zero {w W : World} {g : Nat} {v2 : Value} {a0 a1 a2 a3 : Value} (code : Int) (a : Act) (hg : g = w.heap.size) (h2 : a.tmps[2]? = some (.pointer (some ⟨g, 0, none⟩))) (h3 : a.tmps[3]? = some (.pointer (some ⟨g + 1, 0, none⟩))) (h4 : a.tmps[4]? = some (.pointer (some ⟨g + 1 + 1, 0, none⟩)))
    (hd : a.defers = [{ target := Target.fn (Fn.func 38) #[.pointer (some ⟨g, 0, none⟩), .pointer (some ⟨g + 1, 0, none⟩), .pointer (some ⟨g + 1 + 1, 0, none⟩)], args := #[] }])
    (X1 : Bx W g 30 #[a0, a1, a2, a3]) (X2 : Bx W (g + 1) 3 #[v2]) (X3 : Bx W (g + 1 + 1) 38 #[.int .i64 0]) (B0 : Below w.heap.size w W) :
    bodyPostD Try.prog Try.f22 (RetT w 0 0 0 [] 0 code) .ret a
      ((((((W.setCell ⟨g, 0, none⟩ (.int .i64 0)).setCell ⟨g, 1, none⟩ (.int .i64 0)).setCell ⟨g, 2, none⟩ (.int .i64 0)).setCell ⟨g, 3, none⟩ (.slice none 0 0)).setCell ⟨g + 1, 0, none⟩ (.int .i64 0)).setCell ⟨g + 1 + 1, 0, none⟩ (.int .i64 code)) := by
  refine take_leave _ _ h2 h3 h4 hd (s := 0) (p := 0) (d := 0) (A := none) (k := 0) (c := 0) (n := 0) (code := code) (l := []) ?_ ?_ ?_ Byt.nil ?_
  · exact (((((X1.set_ 0 _).set_ 1 _).set_ 2 _).set_ 3 _).far (by dsimp only; omega) _).far (by dsimp only; omega) _
  · exact (((((X2.far (by dsimp only; omega) _).far (by dsimp only; omega) _).far (by dsimp only; omega) _).far (by dsimp only; omega) _).set_ 0 _).far (by dsimp only; omega) _
  · exact (((((X3.far (by dsimp only; omega) _).far (by dsimp only; omega) _).far (by dsimp only; omega) _).far (by dsimp only; omega) _).far (by dsimp only; omega) _).set_ 0 _
  · exact (((((B0.setCell (by dsimp only; omega) _).setCell (by dsimp only; omega) _).setCell (by dsimp only; omega) _).setCell (by dsimp only; omega) _).setCell (by dsimp only; omega) _).setCell (by dsimp only; omega) _
theorem bdrewN {B : Nat} {w W : World} (h : Below B w W) (k : Nat) : Below B w (W.drewN k) := ⟨h.os, h.tape, h.output, h.size, h.block⟩

/-- The first nine bytes. -/
theorem Byt.nine {p : Nat → Prop} {w : World} {A : Option Addr} {n : Nat} {l : List Int} (h : Byt p w A n l) (hn : 9 ≤ n) :
    ∃ b off x0 x1 x2 x3 x4 x5 x6 x7 x8 m, A = some ⟨b, off, none⟩ ∧ p b ∧ b < w.heap.size ∧ l = x0 :: x1 :: x2 :: x3 :: x4 :: x5 :: x6 :: x7 :: x8 :: m ∧
      (w.cell? ⟨b, off, none⟩ = some (.int .u8 x0) ∧ w.cell? ⟨b, off + 1, none⟩ = some (.int .u8 x1) ∧ w.cell? ⟨b, off + 2, none⟩ = some (.int .u8 x2) ∧ w.cell? ⟨b, off + 3, none⟩ = some (.int .u8 x3) ∧ w.cell? ⟨b, off + 4, none⟩ = some (.int .u8 x4) ∧ w.cell? ⟨b, off + 5, none⟩ = some (.int .u8 x5) ∧ w.cell? ⟨b, off + 6, none⟩ = some (.int .u8 x6) ∧ w.cell? ⟨b, off + 7, none⟩ = some (.int .u8 x7) ∧ w.cell? ⟨b, off + 8, none⟩ = some (.int .u8 x8)) ∧
      ((0 ≤ x0 ∧ x0 ≤ 255) ∧ (0 ≤ x1 ∧ x1 ≤ 255) ∧ (0 ≤ x2 ∧ x2 ≤ 255) ∧ (0 ≤ x3 ∧ x3 ≤ 255) ∧ (0 ≤ x4 ∧ x4 ≤ 255) ∧ (0 ≤ x5 ∧ x5 ≤ 255) ∧ (0 ≤ x6 ∧ x6 ≤ 255) ∧ (0 ≤ x7 ∧ x7 ≤ 255) ∧ (0 ≤ x8 ∧ x8 ≤ 255)) := by
  obtain ⟨b, off, hA, hp, hb, hc⟩ := h.addr (by omega)
  have hlen := h.len
  have hr := h.rng
  rcases l with _ | ⟨x0, _ | ⟨x1, _ | ⟨x2, _ | ⟨x3, _ | ⟨x4, _ | ⟨x5, _ | ⟨x6, _ | ⟨x7, _ | ⟨x8, m⟩⟩⟩⟩⟩⟩⟩⟩⟩ <;> simp at hlen <;> try omega
  refine ⟨b, off, x0, x1, x2, x3, x4, x5, x6, x7, x8, m, hA, hp, hb, rfl, ⟨hc 0 _ rfl, hc 1 _ rfl, hc 2 _ rfl, hc 3 _ rfl, hc 4 _ rfl, hc 5 _ rfl, hc 6 _ rfl, hc 7 _ rfl, hc 8 _ rfl⟩, hr _ (by simp), hr _ (by simp), hr _ (by simp), hr _ (by simp), hr _ (by simp), hr _ (by simp), hr _ (by simp), hr _ (by simp), hr _ (by simp)⟩
def hdrB (x0 x1 x2 x3 x4 x5 x6 x7 x8 : Int) : Bool := decide (x0 = 0 ∧ x1 = 0 ∧ x2 = 1 ∧ 192 ≤ x3 ∧ x3 ≤ 239 ∧ x6 = 128 ∧ (x7 = 0 ∧ x8 = 0 ∨ x7 = 128 ∧ x8 = 5 ∨ x7 = 192 ∧ x8 = 10) ∧ 3 + x8 ≤ x4 * 256 + x5)

set_option maxRecDepth 100000 in
set_option maxHeartbeats 4000000 in
theorem pes_Take_form {b off n c : Nat} (x0 x1 x2 x3 x4 x5 x6 x7 x8 : Int) (w : World) (hn : 9 ≤ n) (hb : b < w.heap.size)
    (hc : w.cell? ⟨b, off, none⟩ = some (.int .u8 x0) ∧ w.cell? ⟨b, off + 1, none⟩ = some (.int .u8 x1) ∧ w.cell? ⟨b, off + 2, none⟩ = some (.int .u8 x2) ∧ w.cell? ⟨b, off + 3, none⟩ = some (.int .u8 x3) ∧ w.cell? ⟨b, off + 4, none⟩ = some (.int .u8 x4) ∧ w.cell? ⟨b, off + 5, none⟩ = some (.int .u8 x5) ∧ w.cell? ⟨b, off + 6, none⟩ = some (.int .u8 x6) ∧ w.cell? ⟨b, off + 7, none⟩ = some (.int .u8 x7) ∧ w.cell? ⟨b, off + 8, none⟩ = some (.int .u8 x8))
    (h4 : 0 ≤ x4 ∧ x4 ≤ 255) (h5 : 0 ≤ x5 ∧ x5 ≤ 255) (h8 : 0 ≤ x8 ∧ x8 ≤ 255) (hno : hdrB x0 x1 x2 x3 x4 x5 x6 x7 x8 = false) :
    Calls Try.prog 22 #[.slice (some ⟨b, off, none⟩) n c] w (RetT w 0 0 0 [] 0 3) := by
  obtain ⟨c0, c1, c2, c3, c4, c5, c6, c7, c8⟩ := hc
  have hs : 0 ≤ szK x7 ∧ szK x7 ≤ 10 := by unfold szK; split; · omega
                                           split <;> omega
  have HNO : ¬ (x0 = 0 ∧ x1 = 0 ∧ x2 = 1 ∧ 192 ≤ x3 ∧ x3 ≤ 239 ∧ x6 = 128 ∧ okK x7 = true ∧ x8 = szK x7 ∧ 3 + szK x7 ≤ x4 * 256 + x5) := by
    intro ⟨e0, e1, e2, e3, e4, e5, e6, e7, e8⟩
    have : hdrB x0 x1 x2 x3 x4 x5 x6 x7 x8 = true := by
      simp only [okK, decide_eq_true_eq] at e6
      unfold szK at e7 e8
      simp only [hdrB, decide_eq_true_eq]
      rcases e6 with rfl | rfl | rfl <;> simp at e7 e8 <;> omega
    rw [hno] at this
    cases this
  have HNo := Lib.hid HNO
  clear HNO hno
  obtain ⟨z, hz⟩ : ∃ z, z = szK x7 := ⟨_, rfl⟩
  obtain ⟨k, hk⟩ : ∃ k, k = okK x7 := ⟨_, rfl⟩
  have hcall := fun W => pes_sizeOf x7 W
  rw [← hz, ← hk] at HNo hcall
  rw [← hz] at hs
  have HCALL := Lib.hid hcall
  clear hcall hz hk
  have o1 : bits .or .i64 (x4 * 256) x5 = x4 * 256 + x5 := i64_or_low 8 x4 x5 256 rfl (by omega) (by omega) (by omega) (by omega)
  have w1 : IntKind.i64.wrap (x4 * 256) = x4 * 256 := IntWalk.i64_in _ (by omega)
  have w2 : IntKind.i64.wrap x4 = x4 := IntWalk.i64_in _ (by omega)
  have w3 : IntKind.i64.wrap x5 = x5 := IntWalk.i64_in _ (by omega)
  have hmf : ∀ (fn : Fn) (first cap : Array Value) (w : World), (Instr.makeFunc fn first cap).run Try.prog w = .ok (.func fn first cap) w := fun _ _ _ _ => rfl
  have B0 : Below w.heap.size w (((w.alloc (.cells #[.int .i64 0, .int .i64 0, .int .i64 0, .slice none 0 0] 30)).alloc (.cells #[.int .i64 0] 3)).alloc (.cells #[.int .i64 0] 38)) := (((Below.refl _ w).alloc (Nat.le_refl _) _).alloc (by simp) _).alloc (by simp; omega) _
  have X1 : Bx (((w.alloc (.cells #[.int .i64 0, .int .i64 0, .int .i64 0, .slice none 0 0] 30)).alloc (.cells #[.int .i64 0] 3)).alloc (.cells #[.int .i64 0] 38)) w.heap.size 30 #[.int .i64 0, .int .i64 0, .int .i64 0, .slice none 0 0] := ((Bx.new _ _ _).alloc _).alloc _
  have X2 : Bx (((w.alloc (.cells #[.int .i64 0, .int .i64 0, .int .i64 0, .slice none 0 0] 30)).alloc (.cells #[.int .i64 0] 3)).alloc (.cells #[.int .i64 0] 38)) (w.heap.size + 1) 3 #[.int .i64 0] := (Bx.new' _ _ _ _ (by simp)).alloc _
  have X3 : Bx (((w.alloc (.cells #[.int .i64 0, .int .i64 0, .int .i64 0, .slice none 0 0] 30)).alloc (.cells #[.int .i64 0] 3)).alloc (.cells #[.int .i64 0] 38)) (w.heap.size + 1 + 1) 38 #[.int .i64 0] := Bx.new' _ _ _ _ (by simp)
  go_enter_defers Try.func22, Try.ntmps22
  go_upto_region 2 with fail
  generalize ((w.alloc (.cells #[.int .i64 0, .int .i64 0, .int .i64 0, .slice none 0 0] 30)).alloc (.cells #[.int .i64 0] 3)).alloc (.cells #[.int .i64 0] 38) = W at *
  have q0 := B0.size
  obtain ⟨u0, u1, u2, u3⟩ := X1.cells4
  have u4 : W.cell? ⟨w.heap.size + 1, 0, none⟩ = some (.int .i64 0) := X2.cell 0 rfl
  have u5 : W.cell? ⟨w.heap.size + 1 + 1, 0, none⟩ = some (.int .i64 0) := X3.cell 0 rfl
  have v0 := X1.frozen 0
  have v1 := X1.frozen 1
  have v2 := X1.frozen 2
  have v3 := X1.frozen 3
  have v4 := X2.frozen 0
  have v5 := X3.frozen 0
  have t1 := X1.lt
  have t2 := X2.lt
  have t3 := X3.lt
  have c0 : W.cell? ⟨b, off, none⟩ = some (.int .u8 x0) := (B0.cell (p := ⟨b, off, none⟩) hb).trans c0
  have c1 : W.cell? ⟨b, off + 1, none⟩ = some (.int .u8 x1) := (B0.cell (p := ⟨b, off + 1, none⟩) hb).trans c1
  have c2 : W.cell? ⟨b, off + 2, none⟩ = some (.int .u8 x2) := (B0.cell (p := ⟨b, off + 2, none⟩) hb).trans c2
  have c3 : W.cell? ⟨b, off + 3, none⟩ = some (.int .u8 x3) := (B0.cell (p := ⟨b, off + 3, none⟩) hb).trans c3
  have c4 : W.cell? ⟨b, off + 4, none⟩ = some (.int .u8 x4) := (B0.cell (p := ⟨b, off + 4, none⟩) hb).trans c4
  have c5 : W.cell? ⟨b, off + 5, none⟩ = some (.int .u8 x5) := (B0.cell (p := ⟨b, off + 5, none⟩) hb).trans c5
  have c6 : W.cell? ⟨b, off + 6, none⟩ = some (.int .u8 x6) := (B0.cell (p := ⟨b, off + 6, none⟩) hb).trans c6
  have c7 : W.cell? ⟨b, off + 7, none⟩ = some (.int .u8 x7) := (B0.cell (p := ⟨b, off + 7, none⟩) hb).trans c7
  have c8 : W.cell? ⟨b, off + 8, none⟩ = some (.int .u8 x8) := (B0.cell (p := ⟨b, off + 8, none⟩) hb).trans c8
  go_wp2_with fail
  refine (HCALL.out _).mono ?_
  rintro e w1 ⟨rfl, rfl⟩
  go_wp2_with fail
  go_quiet (fail)
  rcases k with _ | _
  · go_upto_region 8 with fail
    exact take_zero 3 _ rfl rfl rfl rfl rfl (Bx.drewN X1 nq) (Bx.drewN X2 nq) (Bx.drewN X3 nq) (bdrewN B0 nq)
  · go_upto_region 8 with fail
    all_goals first
      | (with_reducible exact take_zero 3 _ rfl rfl rfl rfl rfl (Bx.drewN X1 nq) (Bx.drewN X2 nq) (Bx.drewN X3 nq) (bdrewN B0 nq))
      | exact (HNo.out ⟨(by first | assumption | omega), (by first | assumption | omega), (by first | assumption | omega), (by first | assumption | omega), (by first | assumption | omega), (by first | assumption | omega), (by first | rfl | trivial), (by first | assumption | omega), (by first | assumption | omega)⟩).elim

end Go.Proofs.Ytojfaonlgkicfaa
