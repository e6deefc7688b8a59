/- The contracts of formedSize, Formed, light, and their reference: which frames are formed. -/
import Derived.Test.YtaedpadkpclldaaProg
import Derived.Test.YtaedpadkpclldaaWords
namespace Go.Proofs.Ytaedpadkpclldaa
open Go.RowKit

/-- A frame as data. -/
structure Fr where
  W : Int
  H : Int
  Y : List Int
  U : List Int
  V : List Int

/-- The value v is a frame that reads as f. -/
def IsFr (p : Nat → Prop) (w : World) (v : Value) (f : Fr) : Prop :=
  ∃ ya yn yc ua un uc va vn vc, v = .agg #[.int .i64 f.W, .int .i64 f.H, .slice ya yn yc, .slice ua un uc, .slice va vn vc] ∧
    Byt p w ya yn f.Y ∧ Byt p w ua un f.U ∧ Byt p w va vn f.V
section
variable {p q : Nat → Prop} {w w' : World} {v : Value} {f : Fr}
theorem IsFr.keep (h : IsFr p w v f) (hk : ∀ b, p b → b < w.heap.size → w'.heap[b]? = w.heap[b]?) : IsFr p w' v f := by
  obtain ⟨ya, yn, yc, ua, un, uc, va, vn, vc, rfl, hy, hu, hv⟩ := h
  exact ⟨ya, yn, yc, ua, un, uc, va, vn, vc, rfl, hy.keep hk, hu.keep hk, hv.keep hk⟩
theorem IsFr.mono (h : IsFr p w v f) (hk : ∀ b, b < w.heap.size → p b → q b) : IsFr q w v f := by
  obtain ⟨ya, yn, yc, ua, un, uc, va, vn, vc, rfl, hy, hu, hv⟩ := h
  exact ⟨ya, yn, yc, ua, un, uc, va, vn, vc, rfl, hy.mono hk, hu.mono hk, hv.mono hk⟩
theorem IsFr.ext (h : IsFr p w v f) (hb : Below w.heap.size w w') : IsFr p w' v f := h.keep fun b _ hlt => hb.block b hlt
theorem IsFr.below {B : Nat} (h : IsFr p w v f) (hb : Below B w w') (hp : ∀ b, b < w.heap.size → p b → b < B) : IsFr p w' v f := h.keep fun b hpb hlt => hb.block b (hp b hlt hpb)
theorem IsFr.alloc (h : IsFr p w v f) (o : Obj) : IsFr p (w.alloc o) v f := h.keep fun b _ hlt => Below.heap_alloc w o b hlt
theorem IsFr.drew (h : IsFr p w v f) : IsFr p w.drew v f := h
theorem IsFr.setCell (h : IsFr p w v f) {a : Addr} (ha : ¬ p a.block) (u : Value) : IsFr p (w.setCell a u) v f :=
  h.keep fun b hpb _ => Below.heap_setCell w a u b (fun e => ha (e ▸ hpb))
end

def sizeB (w h : Int) : Bool := decide (2 ≤ w ∧ w ≤ 64 ∧ w % 2 = 0 ∧ 2 ≤ h ∧ h ≤ 64 ∧ h % 2 = 0)
def formedB (f : Fr) : Bool := sizeB f.W f.H && decide ((f.Y.length : Int) = f.W * f.H) && decide ((f.U.length : Int) = f.W / 2 * (f.H / 2)) && decide ((f.V.length : Int) = f.W / 2 * (f.H / 2))
def lightB (f : Fr) : Bool := decide (f.Y.length ≤ 5000 ∧ f.U.length ≤ 2000 ∧ f.V.length ≤ 2000)

theorem ret_bool {a b : Bool} (h : a = b) : Ending.returned (.bool a) = .returned (.bool b) := by rw [h]

set_option maxHeartbeats 400000 in
theorem plane_formedSize (x y : Int) (w : World) :
    Calls Try.prog 43 #[.int .i64 x, .int .i64 y] w fun e w' => e = .returned (.bool (sizeB x y)) ∧ w = w' := by
  go_enter Try.func43, Try.ntmps43
  go_wp2
  all_goals
    go_ret
    refine ⟨ret_bool ?_, rfl⟩
    unfold sizeB
    first | (simp; omega) | (rw [Bool.eq_iff_iff]; simp; omega)

theorem sizeB_true {x y : Int} (h : sizeB x y = true) : 2 ≤ x ∧ x ≤ 64 ∧ x % 2 = 0 ∧ 2 ≤ y ∧ y ≤ 64 ∧ y % 2 = 0 := by simpa [sizeB] using h
theorem mul_bd {x y : Int} {m : Int} (hx0 : 0 ≤ x) (hx : x ≤ m) (hy0 : 0 ≤ y) (hy : y ≤ m) : 0 ≤ x * y ∧ x * y ≤ m * m :=
  ⟨Int.mul_nonneg hx0 hy0, Int.mul_le_mul hx hy hy0 (by omega)⟩

set_option maxHeartbeats 400000 in
theorem plane_Formed {p : Nat → Prop} (v : Value) (f : Fr) (w : World) (h : IsFr p w v f) :
    Calls Try.prog 25 #[v] w fun e w' => e = .returned (.bool (formedB f)) ∧ Below w.heap.size w w' := by
  obtain ⟨ya, yn, yc, ua, un, uc, va, vn, vc, rfl, hy, hu, hv⟩ := h
  obtain ⟨W, H, Y, U, V⟩ := f
  dsimp only at *
  have e1 := hy.len; have e2 := hu.len; have e3 := hv.len
  subst e1 e2 e3
  clear hy hu hv
  by_cases hs : sizeB W H = true
  · obtain ⟨h1, h2, h3, h4, h5, h6⟩ := sizeB_true hs
    have m1 := mul_bd (x := W) (y := H) (m := 64) (by omega) h2 (by omega) h5
    have m2 := mul_bd (x := W / 2) (y := H / 2) (m := 64) (by omega) (by omega) (by omega) (by omega)
    go_enter Try.func25, Try.ntmps25
    go_wp2_with (go_at_call 43; refine (plane_formedSize _ _ _).mono ?_; rintro e w' ⟨rfl, rfl⟩)
    all_goals
      go_ret
      refine ⟨ret_bool ?_, (Below.refl _ _).alloc (Nat.le_refl _) _⟩
      rw [Bool.eq_iff_iff]
      simp [formedB, *]
  · have hs' : sizeB W H = false := by simpa using hs
    go_enter Try.func25, Try.ntmps25
    go_wp2_with (go_at_call 43; refine (plane_formedSize _ _ _).mono ?_; rintro e w' ⟨rfl, rfl⟩)
    go_ret
    refine ⟨ret_bool ?_, (Below.refl _ _).alloc (Nat.le_refl _) _⟩
    simp [formedB, hs']

set_option maxHeartbeats 400000 in
theorem ref_Formed {p : Nat → Prop} (v : Value) (f : Fr) (w : World) (h : IsFr p w v f) :
    Calls Try.prog 27 #[v] w fun e w' => e = .returned (.bool (formedB f)) ∧ Below w.heap.size w w' := by
  obtain ⟨ya, yn, yc, ua, un, uc, va, vn, vc, rfl, hy, hu, hv⟩ := h
  obtain ⟨W, H, Y, U, V⟩ := f
  dsimp only at *
  have e1 := hy.len; have e2 := hu.len; have e3 := hv.len
  subst e1 e2 e3
  clear hy hu hv
  by_cases hs : sizeB W H = true
  · obtain ⟨h1, h2, h3, h4, h5, h6⟩ := sizeB_true hs
    have m1 := mul_bd (x := W) (y := H) (m := 64) (by omega) h2 (by omega) h5
    have m2 := mul_bd (x := W / 2) (y := H / 2) (m := 64) (by omega) (by omega) (by omega) (by omega)
    go_enter Try.func27, Try.ntmps27
    go_wp2
    all_goals
      go_ret
      refine ⟨ret_bool ?_, (Below.refl _ _).alloc (Nat.le_refl _) _⟩
      rw [Bool.eq_iff_iff]
      first | (exfalso; omega) | (simp [formedB, *]; done)
  · have hs' : sizeB W H = false := by simpa using hs
    go_enter Try.func27, Try.ntmps27
    go_wp2
    all_goals
      go_ret
      refine ⟨ret_bool ?_, (Below.refl _ _).alloc (Nat.le_refl _) _⟩
      first | (simp [formedB, hs']; done) | (exfalso; apply hs; simp only [bne_eq_false_iff_eq] at *; simp [sizeB]; omega)

set_option maxHeartbeats 400000 in
theorem law_light {p : Nat → Prop} (v : Value) (f : Fr) (w : World) (h : IsFr p w v f) :
    Calls Try.prog 10 #[v] w fun e w' => e = .returned (.bool (lightB f)) ∧ Below w.heap.size w w' := by
  obtain ⟨ya, yn, yc, ua, un, uc, va, vn, vc, rfl, hy, hu, hv⟩ := h
  obtain ⟨W, H, Y, U, V⟩ := f
  dsimp only at *
  have e1 := hy.len; have e2 := hu.len; have e3 := hv.len
  subst e1 e2 e3
  clear hy hu hv
  go_enter Try.func10, Try.ntmps10
  go_wp2
  all_goals
    go_ret
    refine ⟨ret_bool ?_, (Below.refl _ _).alloc (Nat.le_refl _) _⟩
    rw [Bool.eq_iff_iff]
    simp [lightB]
    omega

end Go.Proofs.Ytaedpadkpclldaa
