/- pes.Take: the header is right. -/
import Derived.Test.YtojfaonlgkicfaaTakeA
namespace Go.Proofs.Ytojfaonlgkicfaa
open Go.RowKit

theorem bset {B : Nat} {w W : World} (h : Below B w W) (a : Addr) (ha : B ≤ a.block) (v : Value) : Below B w (W.setCell a v) := h.setCell ha v
theorem Byt.cast {p : Nat → Prop} {w : World} {A A2 : Option Addr} {n n2 : Nat} {l : List Int} (h : Byt p w A n l) (hA : A2 = A) (hn : n2 = n) : Byt p w A2 n2 l := by subst hA hn; exact h
theorem Byt.sub {p : Nat → Prop} {w : World} {b o k n m : Nat} {l : List Int} (h : Byt p w (some ⟨b, o, none⟩) n l) (hn : k + m ≤ n) : Byt p w (some ⟨b, o + k, none⟩) m ((l.drop k).take m) := by
  refine ⟨by rw [List.length_take, List.length_drop, h.len]; omega, fun x hx => h.rng x (List.mem_of_mem_drop (List.mem_of_mem_take hx)), fun hm => ⟨b, o + k, rfl, ?_, fun j x hx => ?_⟩⟩
  · obtain ⟨b', off, hA, hp, _⟩ := h.addr (by omega)
    injection hA with hA
    injection hA with hA
    subst hA
    exact hp
  · obtain ⟨b', off, hA, hp, _, hc⟩ := h.addr (by omega)
    injection hA with hA
    injection hA with hA1 hA2
    subst hA1 hA2
    have hj : j < m := by
      have := (List.getElem?_eq_some_iff.1 hx).1
      rw [List.length_take] at this
      omega
    rw [List.getElem?_take, if_pos hj, List.getElem?_drop] at hx
    have := hc (k + j) x hx
    rwa [show o + (k + j) = o + k + j by omega] at this


theorem take_done {w W : World} {g : Nat} {s p d n : Int} {A : Option Addr} {k c : Nat} {l : List Int} (a : Act) (hg : g = w.heap.size) (h2 : a.tmps[2]? = some (.pointer (some ⟨g, 0, none⟩))) (h3 : a.tmps[3]? = some (.pointer (some ⟨g + 1, 0, none⟩))) (h4 : a.tmps[4]? = some (.pointer (some ⟨g + 1 + 1, 0, none⟩)))
    (hd : a.defers = [{ target := Target.fn (Fn.func 38) #[.pointer (some ⟨g, 0, none⟩), .pointer (some ⟨g + 1, 0, none⟩), .pointer (some ⟨g + 1 + 1, 0, none⟩)], args := #[] }])
    (X1 : Bx W g 30 #[.int .i64 s, .int .i64 p, .int .i64 d, .slice A k c]) (X2 : Bx W (g + 1) 3 #[.int .i64 n]) (X3 : Bx W (g + 1 + 1) 38 #[.int .i64 0]) (hB : Byt (fun b => g + 1 + 1 < b) W A k l) (B0 : Below w.heap.size w W) :
    bodyPostD Try.prog Try.f22 (RetT w s p d l n 0) .ret a
      ((((((W.setCell ⟨g, 0, none⟩ (.int .i64 s)).setCell ⟨g, 1, none⟩ (.int .i64 p)).setCell ⟨g, 2, none⟩ (.int .i64 d)).setCell ⟨g, 3, none⟩ (.slice A k c)).setCell ⟨g + 1, 0, none⟩ (.int .i64 n)).setCell ⟨g + 1 + 1, 0, none⟩ (.int .i64 0)).drew := by
  refine take_leave (w := w) _ _ h2 h3 h4 hd (A := A) (k := k) (c := c) ?_ ?_ ?_ ?_ ?_
  · exact ((((((X1.set_ 0 _).set_ 1 _).set_ 2 _).set_ 3 _).far (by dsimp only; omega) _).far (by dsimp only; omega) _).drew
  · exact ((((((X2.far (by dsimp only; omega) _).far (by dsimp only; omega) _).far (by dsimp only; omega) _).far (by dsimp only; omega) _).set_ 0 _).far (by dsimp only; omega) _).drew
  · exact ((((((X3.far (by dsimp only; omega) _).far (by dsimp only; omega) _).far (by dsimp only; omega) _).far (by dsimp only; omega) _).far (by dsimp only; omega) _).set_ 0 _).drew
  · exact (((((((hB.setCell (by dsimp only; omega) _).setCell (by dsimp only; omega) _).setCell (by dsimp only; omega) _).setCell (by dsimp only; omega) _).setCell (by dsimp only; omega) _).setCell (by dsimp only; omega) _).drew).mono (fun b _ h => by omega)
  · exact ((((((B0.setCell (by dsimp only; omega) _).setCell (by dsimp only; omega) _).setCell (by dsimp only; omega) _).setCell (by dsimp only; omega) _).setCell (by dsimp only; omega) _).setCell (by dsimp only; omega) _).drew

set_option maxRecDepth 100000 in
set_option maxHeartbeats 4000000 in
theorem pes_Take_short2 {b off n c N : Nat} (k x3 x4 x5 z : Int) (w : World) (hn : 9 ≤ n) (hb : b < w.heap.size)
    (hc : w.cell? ⟨b, off, none⟩ = some (.int .u8 0) ∧ w.cell? ⟨b, off + 1, none⟩ = some (.int .u8 0) ∧ w.cell? ⟨b, off + 2, none⟩ = some (.int .u8 1) ∧ w.cell? ⟨b, off + 3, none⟩ = some (.int .u8 x3) ∧ w.cell? ⟨b, off + 4, none⟩ = some (.int .u8 x4) ∧ w.cell? ⟨b, off + 5, none⟩ = some (.int .u8 x5) ∧ w.cell? ⟨b, off + 6, none⟩ = some (.int .u8 128) ∧ w.cell? ⟨b, off + 7, none⟩ = some (.int .u8 k) ∧ w.cell? ⟨b, off + 8, none⟩ = some (.int .u8 z))
    (h3 : 192 ≤ x3 ∧ x3 ≤ 239) (h4 : 0 ≤ x4 ∧ x4 ≤ 255) (h5 : 0 ≤ x5 ∧ x5 ≤ 255) (hz : 0 ≤ z ∧ z ≤ 10) (hk : szK k = z ∧ okK k = true) (hN : (N : Int) = x4 * 256 + x5) (hNz : 3 + z ≤ N) (hsh : n < 6 + N) :
    Calls Try.prog 22 #[.slice (some ⟨b, off, none⟩) n c] w (RetT w 0 0 0 [] 0 4) := by
  obtain ⟨c0, c1, c2, c3, c4, c5, c6, c7, c8⟩ := hc
  have C7 := Lib.hid c7
  have hcall := fun W => pes_sizeOf k W
  rw [hk.1, hk.2] at hcall
  have HCALL := Lib.hid hcall
  clear hcall hk
  have o1 : bits .or .i64 (x4 * 256) x5 = (N : Int) := by rw [i64_or_low 8 x4 x5 256 rfl (by omega) (by omega) (by omega) (by omega)]; omega
  have w1 : IntKind.i64.wrap (x4 * 256) = x4 * 256 := IntWalk.i64_in _ (by omega)
  have w2 : IntKind.i64.wrap x4 = x4 := IntWalk.i64_in _ (by omega)
  have w3 : IntKind.i64.wrap x5 = x5 := IntWalk.i64_in _ (by omega)
  have N2 : N ≤ 65535 := by omega
  have HNE := Lib.hid hN
  clear hN
  have hmf : ∀ (fn : Fn) (first cap : Array Value) (w : World), (Instr.makeFunc fn first cap).run Try.prog w = .ok (.func fn first cap) w := fun _ _ _ _ => rfl
  have B0 : Below w.heap.size w (((w.alloc (.cells #[.int .i64 0, .int .i64 0, .int .i64 0, .slice none 0 0] 30)).alloc (.cells #[.int .i64 0] 3)).alloc (.cells #[.int .i64 0] 38)) := (((Below.refl _ w).alloc (Nat.le_refl _) _).alloc (by simp) _).alloc (by simp; omega) _
  have X1 : Bx (((w.alloc (.cells #[.int .i64 0, .int .i64 0, .int .i64 0, .slice none 0 0] 30)).alloc (.cells #[.int .i64 0] 3)).alloc (.cells #[.int .i64 0] 38)) w.heap.size 30 #[.int .i64 0, .int .i64 0, .int .i64 0, .slice none 0 0] := ((Bx.new _ _ _).alloc _).alloc _
  have X2 : Bx (((w.alloc (.cells #[.int .i64 0, .int .i64 0, .int .i64 0, .slice none 0 0] 30)).alloc (.cells #[.int .i64 0] 3)).alloc (.cells #[.int .i64 0] 38)) (w.heap.size + 1) 3 #[.int .i64 0] := (Bx.new' _ _ _ _ (by simp)).alloc _
  have X3 : Bx (((w.alloc (.cells #[.int .i64 0, .int .i64 0, .int .i64 0, .slice none 0 0] 30)).alloc (.cells #[.int .i64 0] 3)).alloc (.cells #[.int .i64 0] 38)) (w.heap.size + 1 + 1) 38 #[.int .i64 0] := Bx.new' _ _ _ _ (by simp)
  go_enter_defers Try.func22, Try.ntmps22
  go_upto_region 2 with fail
  generalize ((w.alloc (.cells #[.int .i64 0, .int .i64 0, .int .i64 0, .slice none 0 0] 30)).alloc (.cells #[.int .i64 0] 3)).alloc (.cells #[.int .i64 0] 38) = W at *
  have q0 := B0.size
  obtain ⟨u0, u1, u2, u3⟩ := X1.cells4
  have u4 : W.cell? ⟨w.heap.size + 1, 0, none⟩ = some (.int .i64 0) := X2.cell 0 rfl
  have u5 : W.cell? ⟨w.heap.size + 1 + 1, 0, none⟩ = some (.int .i64 0) := X3.cell 0 rfl
  have v0 := X1.frozen 0
  have v1 := X1.frozen 1
  have v2 := X1.frozen 2
  have v3 := X1.frozen 3
  have v4 := X2.frozen 0
  have v5 := X3.frozen 0
  have t1 := X1.lt
  have t2 := X2.lt
  have t3 := X3.lt
  have c0 : W.cell? ⟨b, off, none⟩ = some (.int .u8 0) := (B0.cell (p := ⟨b, off, none⟩) hb).trans c0
  have c1 : W.cell? ⟨b, off + 1, none⟩ = some (.int .u8 0) := (B0.cell (p := ⟨b, off + 1, none⟩) hb).trans c1
  have c2 : W.cell? ⟨b, off + 2, none⟩ = some (.int .u8 1) := (B0.cell (p := ⟨b, off + 2, none⟩) hb).trans c2
  have c3 : W.cell? ⟨b, off + 3, none⟩ = some (.int .u8 x3) := (B0.cell (p := ⟨b, off + 3, none⟩) hb).trans c3
  have c4 : W.cell? ⟨b, off + 4, none⟩ = some (.int .u8 x4) := (B0.cell (p := ⟨b, off + 4, none⟩) hb).trans c4
  have c5 : W.cell? ⟨b, off + 5, none⟩ = some (.int .u8 x5) := (B0.cell (p := ⟨b, off + 5, none⟩) hb).trans c5
  have c6 : W.cell? ⟨b, off + 6, none⟩ = some (.int .u8 128) := (B0.cell (p := ⟨b, off + 6, none⟩) hb).trans c6
  have c7 : W.cell? ⟨b, off + 7, none⟩ = some (.int .u8 k) := (B0.cell (p := ⟨b, off + 7, none⟩) hb).trans c7
  have c8 : W.cell? ⟨b, off + 8, none⟩ = some (.int .u8 z) := (B0.cell (p := ⟨b, off + 8, none⟩) hb).trans c8
  go_wp2_with fail
  refine (HCALL.out _).mono ?_
  rintro e w1 ⟨rfl, rfl⟩
  go_wp2_with fail
  go_quiet (fail)
  clear o1 w1 w2 w3 c4 c5
  go_wp2_with fail
  exact take_zero 4 _ rfl rfl rfl rfl rfl ((Bx.drewN X1 nq).far (by dsimp only; omega) _) ((Bx.drewN X2 nq).set_ 0 _) ((Bx.drewN X3 nq).far (by dsimp only; omega) _) ((bdrewN B0 nq).setCell (by dsimp only; omega) _)

end Go.Proofs.Ytojfaonlgkicfaa
