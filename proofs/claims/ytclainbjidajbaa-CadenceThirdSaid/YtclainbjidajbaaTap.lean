/- Tape.Next. -/
import Derived.Test.YtclainbjidajbaaPulP
import Derived.Test.YtclainbjidajbaaIts
import Derived.Deep.RegionWith
namespace Go.Proofs.Ytclainbjidajbaa
open Go.RowKit

/-- What the tape says at place a. -/
def tapeV (L : List Int) (a : Nat) : Int := match L[a]? with
  | some v => v
  | none => a * 7 + 3
def nxt (L : List Int) (a n : Nat) : Nat := (tapeV L a % (n : Int)).toNat
theorem nxt_lt (L : List Int) (a : Nat) {n : Nat} (h : 0 < n) : nxt L a n < n := by
  unfold nxt
  have h1 := Int.emod_nonneg (tapeV L a) (show (n : Int) ≠ 0 by omega)
  have h2 := Int.emod_lt_of_pos (tapeV L a) (show (0 : Int) < n by omega)
  omega
theorem rem_rem {v : Int} {n : Nat} (h : 0 < n) : (v.tmod n + n).tmod n = v % n := by
  rcases Int.le_total 0 v with hv | hv
  · rw [Int.tmod_eq_emod_of_nonneg hv, Int.tmod_eq_emod_of_nonneg (by have := Int.emod_nonneg v (show (n : Int) ≠ 0 by omega); omega)]
    simp
  · have h1 : v.tmod n = -((-v) % n) := by
      rw [show v = -(-v) by omega, Int.neg_tmod, Int.tmod_eq_emod_of_nonneg (by omega), Int.neg_neg]
    have h2 := Int.emod_nonneg (-v) (show (n : Int) ≠ 0 by omega)
    have h3 := Int.emod_lt_of_pos (-v) (show (0 : Int) < n by omega)
    rw [h1, Int.tmod_eq_emod_of_nonneg (by omega)]
    have h4 : -((-v) % n) + (n : Int) = v + n * ((-v) / n + 1) := by
      have := Int.mul_ediv_add_emod (-v) n
      rw [Int.mul_add]
      omega
    rw [h4, Int.add_mul_emod_self_left]
/-- The whole numbers that fit. -/
def IntsOk (l : List Int) : Prop := ∀ x ∈ l, -9223372036854775808 ≤ x ∧ x ≤ 9223372036854775807
/-- A tape in block g. -/
def TapeAt (W : World) (g : Nat) (A : Option Addr) (n c a : Nat) (L : List Int) : Prop := Bx W g 50 #[.slice A n c, .int .i64 (a : Int)] ∧ Its .i64 (fun b => b ≠ g) W A n L
theorem TapeAt.ext {W W' : World} {g : Nat} {A : Option Addr} {n c a : Nat} {L : List Int} (h : TapeAt W g A n c a L) (hb : Below W.heap.size W W') : TapeAt W' g A n c a L := ⟨h.1.ext hb, h.2.ext hb⟩
theorem TapeAt.drewN {W : World} {g : Nat} {A : Option Addr} {n c a : Nat} {L : List Int} (h : TapeAt W g A n c a L) (k : Nat) : TapeAt (W.drewN k) g A n c a L := h
theorem TapeAt.step {W : World} {g : Nat} {A : Option Addr} {n c a : Nat} {L : List Int} (h : TapeAt W g A n c a L) (k : Nat) (b : Int) (hb : b = ((a + 1 : Nat) : Int)) : TapeAt ((W.drewN k).setCell ⟨g, 1, none⟩ (.int .i64 b)) g A n c (a + 1) L := by
  subst hb
  exact ⟨(h.drewN k).1.set_ 1 _, (h.drewN k).2.setCell (by simp) _⟩
/-- One more choice from the tape. -/
def NextS (W : World) (g a r : Nat) (e : Ending) (W' : World) : Prop := e = .returned (.int .i64 (r : Int)) ∧ ∃ m, W' = (W.drewN m).setCell ⟨g, 1, none⟩ (.int .i64 ((a : Int) + 1))
set_option maxRecDepth 100000 in
set_option maxHeartbeats 2000000 in
theorem tape_Next (g : Nat) (A : Option Addr) (n c a : Nat) (L : List Int) (N : Nat) (W : World) (h : TapeAt W g A n c a L) (hok : IntsOk L) (ha : a ≤ 1000000) (hN : 1 ≤ N) (hN2 : N ≤ 1000000) :
    Calls Try.prog 21 #[.pointer (some ⟨g, 0, none⟩), .int .i64 (N : Int)] W (NextS W g a (nxt L a N)) := by
  have hx := h.1
  have c0 := hx.cell 0 rfl
  have c1 := hx.cell 1 rfl
  have f1 := hx.frozen 1
  have lx := hx.lt
  have hNz : ¬ (N : Int) = 0 := by omega
  obtain ⟨v, hv⟩ : ∃ v, v = tapeV L a := ⟨_, rfl⟩
  have hvb : -9223372036854775808 ≤ v ∧ v ≤ 9223372036854775807 := by
    rw [hv]
    unfold tapeV
    cases hq : L[a]? with
    | none => dsimp only; omega
    | some x => exact hok x (List.mem_of_getElem? hq)
  obtain ⟨q, hq⟩ : ∃ q, q = v.tmod (N : Int) := ⟨_, rfl⟩
  have hqb : -(N : Int) < q ∧ q < N := by
    rw [hq]
    exact ⟨Int.lt_tmod_of_pos v (by omega), Int.tmod_lt_of_pos v (by omega)⟩
  obtain ⟨r, hr⟩ : ∃ r, r = nxt L a N := ⟨_, rfl⟩
  have hr2 : (q + (N : Int)).tmod (N : Int) = (r : Int) := by
    rw [hq, rem_rem (by omega), hr]
    unfold nxt
    rw [← hv, Int.toNat_of_nonneg (Int.emod_nonneg _ (by omega))]
  have hrb : r < N := by rw [hr]; exact nxt_lt L a (by omega)
  have hq' : v.tmod (N : Int) = q := hq.symm
  rw [← hr]
  have HI := Lib.hid h.2
  have HV := Lib.hid hv
  clear h hx hr hq hv
  by_cases hlt : a < n
  · obtain ⟨b, off, x, rfl, _, hb, hxx, hc⟩ := HI.out.at_ hlt
    have hvx : v = x := by rw [HV.out]; unfold tapeV; rw [hxx]
    subst hvx
    have hz : (a : Int) < (n : Int) := by omega
    clear hxx
    go_enter Try.func21, Try.ntmps21
    go_wp2_with fail
    go_quiet (fail)
    go_wp2_with fail
    go_quiet (fail)
    go_wp2_with fail
    go_ret
    exact ⟨rfl, _, rfl⟩
  · have hvx : v = (a : Int) * 7 + 3 := by
      rw [HV.out]
      unfold tapeV
      rw [List.getElem?_eq_none (by rw [HI.out.len]; omega)]
    have hz : ¬ (a : Int) < (n : Int) := by omega
    have hvx' : (a : Int) * 7 + 3 = v := hvx.symm
    clear hvx
    go_enter Try.func21, Try.ntmps21
    go_wp2_with fail
    go_quiet (fail)
    go_wp2_with fail
    go_ret
    exact ⟨rfl, _, rfl⟩
end Go.Proofs.Ytclainbjidajbaa
namespace Go.Proofs.Ytclainbjidajbaa
open Go.RowKit

/-- The blocks of a frame that is being made lie apart. -/
structure IN (B g R gf gy gu gv : Nat) : Prop where
  g0 : g < B
  r0 : B ≤ R
  f0 : B ≤ gf
  y0 : B ≤ gy
  u0 : B ≤ gu
  v0 : B ≤ gv
  rf : R ≠ gf
  ry : R ≠ gy
  ru : R ≠ gu
  rv : R ≠ gv
  fy : gf ≠ gy
  fu : gf ≠ gu
  fv : gf ≠ gv
  yu : gy ≠ gu
  yv : gy ≠ gv
  uv : gu ≠ gv
def U8s (l : List Int) : Prop := ∀ x ∈ l, 0 ≤ x ∧ x ≤ 255
theorem U8s.set {l : List Int} (h : U8s l) (i : Nat) {v : Int} (h0 : 0 ≤ v) (h1 : v ≤ 255) : U8s (l.set i v) := by
  intro x hx
  rcases List.mem_or_eq_of_mem_set hx with h2 | rfl
  · exact h x h2
  · exact ⟨h0, h1⟩
theorem U8s.zeros (n : Nat) : U8s (List.replicate n 0) := by
  intro x hx
  rw [(List.mem_replicate.1 hx).2]
  omega
structure IS (w0 : World) (g R gf gy gu gv : Nat) (A : Option Addr) (n c a : Nat) (L : List Int) (s P Q : Nat) (ly lu lv : List Int) (W : World) : Prop where
  tb : Bx W g 50 #[.slice A n c, .int .i64 (a : Int)]
  ti : Its .i64 (fun b => b ≠ g ∧ b < w0.heap.size) W A n L
  rb : Bx W R 27 #[.int .i64 0, .int .i64 0, .slice none 0 0, .slice none 0 0, .slice none 0 0]
  fb : Bx W gf 27 #[.int .i64 (s : Int), .int .i64 (s : Int), .slice (some ⟨gy, 0, none⟩) P P, .slice (some ⟨gu, 0, none⟩) Q Q, .slice (some ⟨gv, 0, none⟩) Q Q]
  yb : Bk W 5 gy ly
  ub : Bk W 5 gu lu
  vb : Bk W 5 gv lv
  yl : ly.length = P
  ul : lu.length = Q
  vl : lv.length = Q
  yr : U8s ly
  ur : U8s lu
  vr : U8s lv
  kg : w0.grownBy W (some g)
  ne : IN w0.heap.size g R gf gy gu gv
section
variable {w0 W : World} {g R gf gy gu gv : Nat} {A : Option Addr} {n c a : Nat} {L : List Int} {s P Q : Nat} {ly lu lv : List Int}
theorem grown_set {w W : World} {row : Option Nat} (h : w.grownBy W row) {a : Addr} (ha : some a.block = row ∨ w.heap.size ≤ a.block) (v : Value) : w.grownBy (W.setCell a v) row :=
  ⟨h.os, h.tape, h.output, by simp only [World.setCell, Array.size_modify]; exact h.size, fun k hk hne => by
    rw [Below.heap_setCell W a v k (fun e => by rcases ha with h2 | h2; exact hne (by rw [e]; exact h2); omega)]
    exact h.block k hk hne⟩
theorem grown_drewN {w W : World} {row : Option Nat} (h : w.grownBy W row) (k : Nat) : w.grownBy (W.drewN k) row := ⟨h.os, h.tape, h.output, h.size, h.block⟩
theorem IS.drewN (h : IS w0 g R gf gy gu gv A n c a L s P Q ly lu lv W) (k : Nat) : IS w0 g R gf gy gu gv A n c a L s P Q ly lu lv (W.drewN k) :=
  ⟨h.tb.drewN k, h.ti, h.rb.drewN k, h.fb.drewN k, h.yb, h.ub, h.vb, h.yl, h.ul, h.vl, h.yr, h.ur, h.vr, grown_drewN h.kg k, h.ne⟩
theorem IS.drew (h : IS w0 g R gf gy gu gv A n c a L s P Q ly lu lv W) : IS w0 g R gf gy gu gv A n c a L s P Q ly lu lv W.drew := h.drewN 1
theorem IS.next (h : IS w0 g R gf gy gu gv A n c a L s P Q ly lu lv W) (m : Nat) (b : Int) (hb : b = ((a + 1 : Nat) : Int)) :
    IS w0 g R gf gy gu gv A n c (a + 1) L s P Q ly lu lv ((W.drewN m).setCell ⟨g, 1, none⟩ (.int .i64 b)) := by
  subst hb
  have h' := h.drewN m
  have e := h.ne
  have e1 := e.g0
  have e2 := e.r0
  have e3 := e.f0
  have e4 := e.y0
  have e5 := e.u0
  have e6 := e.v0
  exact ⟨h'.tb.set_ 1 _, h'.ti.setCell (by simp) _, h'.rb.far (by dsimp only; omega) _, h'.fb.far (by dsimp only; omega) _, h'.yb.far (by dsimp only; omega) _, h'.ub.far (by dsimp only; omega) _, h'.vb.far (by dsimp only; omega) _,
    h.yl, h.ul, h.vl, h.yr, h.ur, h.vr, grown_set h'.kg (.inl rfl) _, e⟩
theorem IS.setY (h : IS w0 g R gf gy gu gv A n c a L s P Q ly lu lv W) (i : Nat) (v : Int) (h0 : 0 ≤ v) (h1 : v ≤ 255) :
    IS w0 g R gf gy gu gv A n c a L s P Q (ly.set i v) lu lv (W.setCell ⟨gy, i, none⟩ (.int .u8 v)) := by
  have e := h.ne
  have e1 := e.g0
  have e4 := e.y0
  exact ⟨h.tb.far (by dsimp only; omega) _, h.ti.setCell (by dsimp only; omega) _, h.rb.far (by dsimp only; exact e.ry) _, h.fb.far (by dsimp only; exact e.fy) _, h.yb.set_ i v, h.ub.far (by dsimp only; exact e.yu.symm) _, h.vb.far (by dsimp only; exact e.yv.symm) _,
    by rw [List.length_set]; exact h.yl, h.ul, h.vl, h.yr.set i h0 h1, h.ur, h.vr, grown_set h.kg (.inr e4) _, e⟩
theorem IS.setU (h : IS w0 g R gf gy gu gv A n c a L s P Q ly lu lv W) (i : Nat) (v : Int) (h0 : 0 ≤ v) (h1 : v ≤ 255) :
    IS w0 g R gf gy gu gv A n c a L s P Q ly (lu.set i v) lv (W.setCell ⟨gu, i, none⟩ (.int .u8 v)) := by
  have e := h.ne
  have e1 := e.g0
  have e4 := e.u0
  exact ⟨h.tb.far (by dsimp only; omega) _, h.ti.setCell (by dsimp only; omega) _, h.rb.far (by dsimp only; exact e.ru) _, h.fb.far (by dsimp only; exact e.fu) _, h.yb.far (by dsimp only; exact e.yu) _, h.ub.set_ i v, h.vb.far (by dsimp only; exact e.uv.symm) _,
    h.yl, by rw [List.length_set]; exact h.ul, h.vl, h.yr, h.ur.set i h0 h1, h.vr, grown_set h.kg (.inr e4) _, e⟩
theorem IS.setV (h : IS w0 g R gf gy gu gv A n c a L s P Q ly lu lv W) (i : Nat) (v : Int) (h0 : 0 ≤ v) (h1 : v ≤ 255) :
    IS w0 g R gf gy gu gv A n c a L s P Q ly lu (lv.set i v) (W.setCell ⟨gv, i, none⟩ (.int .u8 v)) := by
  have e := h.ne
  have e1 := e.g0
  have e4 := e.v0
  exact ⟨h.tb.far (by dsimp only; omega) _, h.ti.setCell (by dsimp only; omega) _, h.rb.far (by dsimp only; exact e.rv) _, h.fb.far (by dsimp only; exact e.fv) _, h.yb.far (by dsimp only; exact e.yv) _, h.ub.far (by dsimp only; exact e.uv) _, h.vb.set_ i v,
    h.yl, h.ul, by rw [List.length_set]; exact h.vl, h.yr, h.ur, h.vr.set i h0 h1, grown_set h.kg (.inr e4) _, e⟩
theorem IS.tape (h : IS w0 g R gf gy gu gv A n c a L s P Q ly lu lv W) : TapeAt W g A n c a L := ⟨h.tb, h.ti.mono (fun _ _ hp => hp.1)⟩
theorem IS.fcells (h : IS w0 g R gf gy gu gv A n c a L s P Q ly lu lv W) : W.cell? ⟨gf, 0, none⟩ = some (.int .i64 (s : Int)) ∧ W.cell? ⟨gf, 1, none⟩ = some (.int .i64 (s : Int)) ∧ W.cell? ⟨gf, 2, none⟩ = some (.slice (some ⟨gy, 0, none⟩) P P) ∧ W.cell? ⟨gf, 3, none⟩ = some (.slice (some ⟨gu, 0, none⟩) Q Q) ∧ W.cell? ⟨gf, 4, none⟩ = some (.slice (some ⟨gv, 0, none⟩) Q Q) := h.fb.cells5
theorem IS.ycell (h : IS w0 g R gf gy gu gv A n c a L s P Q ly lu lv W) {i : Nat} (hi : i < P) : ∃ x, W.cell? ⟨gy, i, none⟩ = some (.int .u8 x) ∧ W.frozen? ⟨gy, i, none⟩ = false ∧ gy < W.heap.size := by
  obtain ⟨x, _, hx⟩ := h.yb.cell_some (i := i) (by rw [h.yl]; exact hi)
  exact ⟨x, hx, h.yb.frozen i, h.yb.lt⟩
theorem IS.ucell (h : IS w0 g R gf gy gu gv A n c a L s P Q ly lu lv W) {i : Nat} (hi : i < Q) : ∃ x, W.cell? ⟨gu, i, none⟩ = some (.int .u8 x) ∧ W.frozen? ⟨gu, i, none⟩ = false ∧ gu < W.heap.size := by
  obtain ⟨x, _, hx⟩ := h.ub.cell_some (i := i) (by rw [h.ul]; exact hi)
  exact ⟨x, hx, h.ub.frozen i, h.ub.lt⟩
theorem IS.vcell (h : IS w0 g R gf gy gu gv A n c a L s P Q ly lu lv W) {i : Nat} (hi : i < Q) : ∃ x, W.cell? ⟨gv, i, none⟩ = some (.int .u8 x) ∧ W.frozen? ⟨gv, i, none⟩ = false ∧ gv < W.heap.size := by
  obtain ⟨x, _, hx⟩ := h.vb.cell_some (i := i) (by rw [h.vl]; exact hi)
  exact ⟨x, hx, h.vb.frozen i, h.vb.lt⟩
end
theorem u8_rng (x : Int) : 0 ≤ IntKind.u8.wrap x ∧ IntKind.u8.wrap x ≤ 255 := by
  simp only [IntKind.wrap, IntKind.signed, IntKind.bits]
  simp
  omega
/-- What values come up while the planes are made. -/
structure IE where
  gy : Nat
  gu : Nat
  gv : Nat
  gf : Nat
end Go.Proofs.Ytclainbjidajbaa
