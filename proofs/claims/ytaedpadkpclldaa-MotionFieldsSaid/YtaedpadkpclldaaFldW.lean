/- The boxes of Fields. -/
import Derived.Test.YtaedpadkpclldaaFldA
namespace Go.Proofs.Ytaedpadkpclldaa
open Go.RowKit

/-- A frame's value. -/
structure FV where
  W : Int
  H : Int
  ya : Option Addr
  yn : Nat
  yc : Nat
  ua : Option Addr
  un : Nat
  uc : Nat
  va : Option Addr
  vn : Nat
  vc : Nat
def FV.val (x : FV) : Value := .agg #[.int .i64 x.W, .int .i64 x.H, .slice x.ya x.yn x.yc, .slice x.ua x.un x.uc, .slice x.va x.vn x.vc]
def FV.cells (x : FV) : Array Value := #[.int .i64 x.W, .int .i64 x.H, .slice x.ya x.yn x.yc, .slice x.ua x.un x.uc, .slice x.va x.vn x.vc]
def FV.zero : FV := ⟨0, 0, none, 0, 0, none, 0, 0, none, 0, 0⟩
theorem IsFr.fv {p : Nat → Prop} {w : World} {v : Value} {f : Fr} (h : IsFr p w v f) : ∃ x : FV, v = x.val := by
  obtain ⟨ya, yn, yc, ua, un, uc, va, vn, vc, rfl, _⟩ := h
  exact ⟨⟨_, _, ya, yn, yc, ua, un, uc, va, vn, vc⟩, rfl⟩
/-- What a call returns that gives a frame of new memory, the frame's value by its parts. -/
theorem RetFc.parts {w : World} {r : Fr × Int} {e : Ending} {w' : World} (h : RetFc w r e w') : ∃ x : FV, e = .returned (.tuple #[x.val, .int .i64 r.2]) ∧ CapsOK x.val ∧ IsFr (w.heap.size ≤ ·) w' x.val r.1 ∧ Below w.heap.size w w' := by
  obtain ⟨v, h1, h2, h3, h4⟩ := h
  obtain ⟨x, rfl⟩ := h3.fv
  exact ⟨x, h1, h2, h3, h4⟩
/-- A frame is laid into a box. -/
def st5 (w : World) (g o : Nat) (v0 v1 v2 v3 v4 : Value) : World := ((((w.setCell ⟨g, o, none⟩ v0).setCell ⟨g, o + 1, none⟩ v1).setCell ⟨g, o + 2, none⟩ v2).setCell ⟨g, o + 3, none⟩ v3).setCell ⟨g, o + 4, none⟩ v4
theorem st5_far {w : World} {g o b : Nat} {t : TypeId} {cs : Array Value} {v0 v1 v2 v3 v4 : Value} (h : Bx w b t cs) (hne : b ≠ g) : Bx (st5 w g o v0 v1 v2 v3 v4) b t cs :=
  ((((h.far (a := ⟨g, o, none⟩) hne v0).far (a := ⟨g, o + 1, none⟩) hne v1).far (a := ⟨g, o + 2, none⟩) hne v2).far (a := ⟨g, o + 3, none⟩) hne v3).far (a := ⟨g, o + 4, none⟩) hne v4
theorem st5_at {w : World} {g : Nat} {t : TypeId} {a0 a1 a2 a3 a4 : Value} {v0 v1 v2 v3 v4 : Value} (h : Bx w g t #[a0, a1, a2, a3, a4]) : Bx (st5 w g 0 v0 v1 v2 v3 v4) g t #[v0, v1, v2, v3, v4] := by
  have := ((((h.set_ 0 v0).set_ 1 v1).set_ 2 v2).set_ 3 v3).set_ 4 v4
  simpa [st5] using this
theorem st5_lo {w : World} {g : Nat} {t : TypeId} {a0 a1 a2 a3 a4 b0 b1 b2 b3 b4 : Value} {v0 v1 v2 v3 v4 : Value} (h : Bx w g t #[a0, a1, a2, a3, a4, b0, b1, b2, b3, b4]) : Bx (st5 w g 0 v0 v1 v2 v3 v4) g t #[v0, v1, v2, v3, v4, b0, b1, b2, b3, b4] := by
  have := ((((h.set_ 0 v0).set_ 1 v1).set_ 2 v2).set_ 3 v3).set_ 4 v4
  simpa [st5] using this
theorem st5_hi {w : World} {g : Nat} {t : TypeId} {a0 a1 a2 a3 a4 b0 b1 b2 b3 b4 : Value} {v0 v1 v2 v3 v4 : Value} (h : Bx w g t #[a0, a1, a2, a3, a4, b0, b1, b2, b3, b4]) : Bx (st5 w g 5 v0 v1 v2 v3 v4) g t #[a0, a1, a2, a3, a4, v0, v1, v2, v3, v4] := by
  have := ((((h.set_ 5 v0).set_ 6 v1).set_ 7 v2).set_ 8 v3).set_ 9 v4
  simpa [st5] using this
theorem st5_below {B : Nat} {w W : World} {g o : Nat} (h : Below B w W) (hg : B ≤ g) (v0 v1 v2 v3 v4 : Value) : Below B w (st5 W g o v0 v1 v2 v3 v4) :=
  ((((h.setCell (p := ⟨g, o, none⟩) hg v0).setCell (p := ⟨g, o + 1, none⟩) hg v1).setCell (p := ⟨g, o + 2, none⟩) hg v2).setCell (p := ⟨g, o + 3, none⟩) hg v3).setCell (p := ⟨g, o + 4, none⟩) hg v4
theorem st5_isFr {p : Nat → Prop} {w : World} {g o : Nat} {v : Value} {f : Fr} {v0 v1 v2 v3 v4 : Value} (h : IsFr p w v f) (hg : ¬ p g) : IsFr p (st5 w g o v0 v1 v2 v3 v4) v f :=
  h.keep (fun b hp _ => by
    have e : ∀ (W : World) (a : Addr) (u : Value), a.block = g → (W.setCell a u).heap[b]? = W.heap[b]? := fun W a u ha => Below.heap_setCell W a u b (fun e => hg (by rw [← ha, ← e]; exact hp))
    unfold st5
    rw [e _ _ _ rfl, e _ _ _ rfl, e _ _ _ rfl, e _ _ _ rfl, e _ _ _ rfl])
/-- The four boxes. -/
structure FB (w : World) (fc vc sc rc : Array Value) (W : World) : Prop where
  b5 : Bx W w.heap.size 24 fc
  b8 : Bx W (w.heap.size + 1) 45 vc
  b9 : Bx W (w.heap.size + 1 + 1) 46 sc
  b10 : Bx W (w.heap.size + 1 + 1 + 1) 24 rc
  be : Below w.heap.size w W
section
variable {w W W' : World} {fc vc sc rc : Array Value}
theorem FB.ext (h : FB w fc vc sc rc W) (hb : Below W.heap.size W W') : FB w fc vc sc rc W' := ⟨h.b5.ext hb, h.b8.ext hb, h.b9.ext hb, h.b10.ext hb, h.be.trans (hb.mono h.be.size)⟩
theorem FB.alloc (h : FB w fc vc sc rc W) (o : Obj) : FB w fc vc sc rc (W.alloc o) := h.ext ((Below.refl _ _).alloc (Nat.le_refl _) _)
theorem FB.st5 (h : FB w fc vc sc rc W) {g o : Nat} (hg : w.heap.size + 4 ≤ g) (v0 v1 v2 v3 v4 : Value) : FB w fc vc sc rc (st5 W g o v0 v1 v2 v3 v4) :=
  ⟨st5_far h.b5 (by omega), st5_far h.b8 (by omega), st5_far h.b9 (by omega), st5_far h.b10 (by omega), st5_below h.be (by omega) v0 v1 v2 v3 v4⟩
theorem FB.drew (h : FB w fc vc sc rc W) : FB w fc vc sc rc W.drew := ⟨h.b5.drew, h.b8.drew, h.b9.drew, h.b10.drew, h.be.drew⟩
theorem FB.start (w : World) (fc vc sc rc : Array Value) : FB w fc vc sc rc ((((w.alloc (.cells fc 24)).alloc (.cells vc 45)).alloc (.cells sc 46)).alloc (.cells rc 24)) :=
  ⟨(((Bx.new _ _ _).alloc _).alloc _).alloc _, ((Bx.new' _ _ _ _ (by simp)).alloc _).alloc _, (Bx.new' _ _ _ _ (by simp)).alloc _, Bx.new' _ _ _ _ (by simp), ((((Below.refl _ _).alloc (Nat.le_refl _) _).alloc (by simp) _).alloc (by simp; omega) _).alloc (by simp; omega) _⟩
theorem FB.get {a0 a1 a2 a3 a4 v0 v1 v2 v3 s0 s1 : Value} (h : FB w #[a0, a1, a2, a3, a4] #[v0, v1, v2, v3] #[s0, s1] rc W) :
    (W.cell? ⟨w.heap.size, 0, none⟩ = some a0 ∧ W.cell? ⟨w.heap.size, 1, none⟩ = some a1 ∧ W.cell? ⟨w.heap.size, 2, none⟩ = some a2 ∧ W.cell? ⟨w.heap.size, 3, none⟩ = some a3 ∧ W.cell? ⟨w.heap.size, 4, none⟩ = some a4) ∧
    (W.cell? ⟨w.heap.size + 1, 0, none⟩ = some v0 ∧ W.cell? ⟨w.heap.size + 1, 1, none⟩ = some v1 ∧ W.cell? ⟨w.heap.size + 1, 2, none⟩ = some v2 ∧ W.cell? ⟨w.heap.size + 1, 3, none⟩ = some v3) ∧
    (W.cell? ⟨w.heap.size + 1 + 1, 0, none⟩ = some s0 ∧ W.cell? ⟨w.heap.size + 1 + 1, 1, none⟩ = some s1) :=
  ⟨⟨h.b5.cell 0 rfl, h.b5.cell 1 rfl, h.b5.cell 2 rfl, h.b5.cell 3 rfl, h.b5.cell 4 rfl⟩, ⟨h.b8.cell 0 rfl, h.b8.cell 1 rfl, h.b8.cell 2 rfl, h.b8.cell 3 rfl⟩, h.b9.cell 0 rfl, h.b9.cell 1 rfl⟩
theorem FB.res {r0 r1 r2 r3 r4 : Value} (h : FB w fc vc sc #[r0, r1, r2, r3, r4] W) :
    (W.cell? ⟨w.heap.size + 1 + 1 + 1, 0, none⟩ = some r0 ∧ W.cell? ⟨w.heap.size + 1 + 1 + 1, 1, none⟩ = some r1 ∧ W.cell? ⟨w.heap.size + 1 + 1 + 1, 2, none⟩ = some r2 ∧ W.cell? ⟨w.heap.size + 1 + 1 + 1, 3, none⟩ = some r3 ∧ W.cell? ⟨w.heap.size + 1 + 1 + 1, 4, none⟩ = some r4) ∧
    (W.frozen? ⟨w.heap.size + 1 + 1 + 1, 0, none⟩ = false ∧ W.frozen? ⟨w.heap.size + 1 + 1 + 1, 1, none⟩ = false ∧ W.frozen? ⟨w.heap.size + 1 + 1 + 1, 2, none⟩ = false ∧ W.frozen? ⟨w.heap.size + 1 + 1 + 1, 3, none⟩ = false ∧ W.frozen? ⟨w.heap.size + 1 + 1 + 1, 4, none⟩ = false) ∧
    w.heap.size + 1 + 1 + 1 < W.heap.size :=
  ⟨⟨h.b10.cell 0 rfl, h.b10.cell 1 rfl, h.b10.cell 2 rfl, h.b10.cell 3 rfl, h.b10.cell 4 rfl⟩, ⟨h.b10.frozen 0, h.b10.frozen 1, h.b10.frozen 2, h.b10.frozen 3, h.b10.frozen 4⟩, h.b10.lt⟩
/-- The end of a function that gives its result by its box. -/
theorem FB.leave (h : FB w fc vc sc #[.int .i64 0, .int .i64 0, .slice none 0 0, .slice none 0 0, .slice none 0 0] W) {r : Fr × Int} (x : FV) (hcap : CapsOK x.val) (hfr : IsFr (w.heap.size + 4 ≤ ·) W x.val r.1) :
    RetFc w r (.returned (.tuple #[x.val, .int .i64 r.2])) (Go.Proofs.Ytaedpadkpclldaa.st5 W (w.heap.size + 1 + 1 + 1) 0 (.int .i64 x.W) (.int .i64 x.H) (.slice x.ya x.yn x.yc) (.slice x.ua x.un x.uc) (.slice x.va x.vn x.vc)) :=
  ⟨x.val, rfl, hcap, (st5_isFr hfr (by omega)).mono (fun b _ h => by omega), st5_below h.be (by omega) _ _ _ _ _⟩
end
/-- The cells of a box of five that is its own. -/
theorem Bx.five {W : World} {g : Nat} {t : TypeId} {r0 r1 r2 r3 r4 : Value} (h : Bx W g t #[r0, r1, r2, r3, r4]) :
    (W.cell? ⟨g, 0, none⟩ = some r0 ∧ W.cell? ⟨g, 1, none⟩ = some r1 ∧ W.cell? ⟨g, 2, none⟩ = some r2 ∧ W.cell? ⟨g, 3, none⟩ = some r3 ∧ W.cell? ⟨g, 4, none⟩ = some r4) ∧
    (W.frozen? ⟨g, 0, none⟩ = false ∧ W.frozen? ⟨g, 1, none⟩ = false ∧ W.frozen? ⟨g, 2, none⟩ = false ∧ W.frozen? ⟨g, 3, none⟩ = false ∧ W.frozen? ⟨g, 4, none⟩ = false) ∧ g < W.heap.size :=
  ⟨⟨h.cell 0 rfl, h.cell 1 rfl, h.cell 2 rfl, h.cell 3 rfl, h.cell 4 rfl⟩, ⟨h.frozen 0, h.frozen 1, h.frozen 2, h.frozen 3, h.frozen 4⟩, h.lt⟩
set_option maxRecDepth 100000 in
theorem run_store5a (wx : World) (g : Nat) (x : FV) (y0 : ∃ u, wx.cell? ⟨g, 0, none⟩ = some u) (y1 : ∃ u, wx.cell? ⟨g, 1, none⟩ = some u) (y2 : ∃ u, wx.cell? ⟨g, 2, none⟩ = some u) (y3 : ∃ u, wx.cell? ⟨g, 3, none⟩ = some u) (y4 : ∃ u, wx.cell? ⟨g, 4, none⟩ = some u)
    (z0 : wx.frozen? ⟨g, 0, none⟩ = false) (z1 : wx.frozen? ⟨g, 1, none⟩ = false) (z2 : wx.frozen? ⟨g, 2, none⟩ = false) (z3 : wx.frozen? ⟨g, 3, none⟩ = false) (z4 : wx.frozen? ⟨g, 4, none⟩ = false) :
    (Instr.storeAt 24 (.pointer (some ⟨g, 0, none⟩)) x.val).run Try.prog wx = .ok () (st5 wx g 0 (.int .i64 x.W) (.int .i64 x.H) (.slice x.ya x.yn x.yc) (.slice x.ua x.un x.uc) (.slice x.va x.vn x.vc)) := by
  obtain ⟨u0, y0⟩ := y0
  obtain ⟨u1, y1⟩ := y1
  obtain ⟨u2, y2⟩ := y2
  obtain ⟨u3, y3⟩ := y3
  obtain ⟨u4, y4⟩ := y4
  simp [go_sem, FV.val, y0, y1, y2, y3, y4, z0, z1, z2, z3, z4]
  rfl
set_option maxRecDepth 100000 in
theorem run_store5b (wx : World) (g : Nat) (x : FV) (y0 : ∃ u, wx.cell? ⟨g, 5, none⟩ = some u) (y1 : ∃ u, wx.cell? ⟨g, 6, none⟩ = some u) (y2 : ∃ u, wx.cell? ⟨g, 7, none⟩ = some u) (y3 : ∃ u, wx.cell? ⟨g, 8, none⟩ = some u) (y4 : ∃ u, wx.cell? ⟨g, 9, none⟩ = some u)
    (z0 : wx.frozen? ⟨g, 5, none⟩ = false) (z1 : wx.frozen? ⟨g, 6, none⟩ = false) (z2 : wx.frozen? ⟨g, 7, none⟩ = false) (z3 : wx.frozen? ⟨g, 8, none⟩ = false) (z4 : wx.frozen? ⟨g, 9, none⟩ = false) :
    (Instr.storeAt 24 (.pointer (some ⟨g, 5, none⟩)) x.val).run Try.prog wx = .ok () (st5 wx g 5 (.int .i64 x.W) (.int .i64 x.H) (.slice x.ya x.yn x.yc) (.slice x.ua x.un x.uc) (.slice x.va x.vn x.vc)) := by
  obtain ⟨u0, y0⟩ := y0
  obtain ⟨u1, y1⟩ := y1
  obtain ⟨u2, y2⟩ := y2
  obtain ⟨u3, y3⟩ := y3
  obtain ⟨u4, y4⟩ := y4
  simp [go_sem, FV.val, y0, y1, y2, y3, y4, z0, z1, z2, z3, z4]
  rfl
end Go.Proofs.Ytaedpadkpclldaa
