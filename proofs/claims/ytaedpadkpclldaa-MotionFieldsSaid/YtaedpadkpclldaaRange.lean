/- The contracts of inRange and May, and the plain function of Predict. -/
import Derived.Test.YtaedpadkpclldaaPredict
import Derived.Test.YtaedpadkpclldaaAverage
namespace Go.Proofs.Ytaedpadkpclldaa
open Go.RowKit

def mayB (vx vy : Int) : Bool := decide (-63 ≤ vx ∧ vx ≤ 63 ∧ -63 ≤ vy ∧ vy ≤ 63)
set_option maxHeartbeats 400000 in
theorem motion_inRange (vx vy : Int) (w : World) :
    Calls Try.prog 31 #[.agg #[.int .i64 vx, .int .i64 vy]] w fun e w' => e = .returned (.bool (mayB vx vy)) ∧ Below w.heap.size w w' := by
  go_enter Try.func31, Try.ntmps31
  go_wp2
  all_goals
    go_ret
    refine ⟨ret_bool ?_, (Below.refl _ _).alloc (Nat.le_refl _) _⟩
    rw [Bool.eq_iff_iff]
    simp [mayB]
    omega
set_option maxHeartbeats 400000 in
theorem ref_May (vx vy : Int) (w : World) :
    Calls Try.prog 33 #[.agg #[.int .i64 vx, .int .i64 vy]] w fun e w' => e = .returned (.bool (mayB vx vy)) ∧ Below w.heap.size w w' := by
  go_enter Try.func33, Try.ntmps33
  go_wp2
  all_goals
    go_ret
    refine ⟨ret_bool ?_, (Below.refl _ _).alloc (Nat.le_refl _) _⟩
    rw [Bool.eq_iff_iff]
    simp [mayB]
    omega

/-- The arguments of Predict fit. -/
def predOk (f : Fr) (x y pw ph : Int) : Prop :=
  formedB f = true ∧ pw = 16 ∧ (ph = 8 ∨ ph = 16) ∧ 0 ≤ x ∧ x % 2 = 0 ∧ x ≤ f.W - pw ∧ 0 ≤ y ∧ y % 2 = 0 ∧ y ≤ f.H - ph
instance (f : Fr) (x y pw ph : Int) : Decidable (predOk f x y pw ph) := by unfold predOk; infer_instance
def predFr (f : Fr) (x y ph vx vy : Int) : Fr :=
  ⟨16, ph, predL f.Y f.W f.H x y 16 ph.toNat vx vy, predL f.U (f.W / 2) (f.H / 2) (x / 2) (y / 2) 8 (ph.toNat / 2) (vx.tdiv 2) (vy.tdiv 2), predL f.V (f.W / 2) (f.H / 2) (x / 2) (y / 2) 8 (ph.toNat / 2) (vx.tdiv 2) (vy.tdiv 2)⟩
def predF (f : Fr) (x y pw ph vx vy : Int) : Fr × Int :=
  if predOk f x y pw ph then (if mayB vx vy = true then (predFr f x y ph vx vy, 0) else (zeroFr, 2)) else (zeroFr, 1)

theorem tdiv2_bd {v : Int} (h1 : -63 ≤ v) (h2 : v ≤ 63) : -63 ≤ v.tdiv 2 ∧ v.tdiv 2 ≤ 63 := by
  rcases Int.le_total 0 v with h | h
  · rw [Int.tdiv_eq_ediv_of_nonneg h]; omega
  · obtain ⟨u, rfl⟩ : ∃ u, v = -u := ⟨-v, by omega⟩
    rw [Int.neg_tdiv, Int.tdiv_eq_ediv_of_nonneg (by omega)]; omega

theorem motion_predict' {p : Nat → Prop} (x y cols rows vx vy PW PH : Int) (pw ph : Nat) (A : Option Addr) (n c : Nat) (l : List Int) (w : World) (hl : Byt p w A n l) (hPW : PW = pw) (hPH : PH = ph) (hn : (n : Int) = cols * rows)
    (hc1 : 1 ≤ cols) (hc2 : cols ≤ 64) (hr1 : 1 ≤ rows) (hr2 : rows ≤ 64) (h1 : 0 ≤ x) (h2 : x ≤ 64) (h3 : 0 ≤ y) (h4 : y ≤ 64) (h5 : -63 ≤ vx) (h6 : vx ≤ 63) (h7 : -63 ≤ vy) (h8 : vy ≤ 63) (hpw : pw ≤ 16) (hph : ph ≤ 16) :
    Calls Try.prog 32 #[.slice A n c, .int .i64 cols, .int .i64 rows, .agg #[.int .i64 x, .int .i64 y, .int .i64 PW, .int .i64 PH], .agg #[.int .i64 vx, .int .i64 vy]] w (RetB w (predL l cols rows x y pw ph vx vy)) := by
  subst hPW hPH
  exact motion_predict x y cols rows vx vy pw ph A n c l w hl hn hc1 hc2 hr1 hr2 h1 h2 h3 h4 h5 h6 h7 h8 hpw hph
theorem ref_component' {p : Nat → Prop} (x y cols rows vx vy PW PH : Int) (pw ph : Nat) (A : Option Addr) (n c : Nat) (l : List Int) (w : World) (hl : Byt p w A n l) (hPW : PW = pw) (hPH : PH = ph) (hn : (n : Int) = cols * rows)
    (hc1 : 1 ≤ cols) (hc2 : cols ≤ 64) (hr1 : 1 ≤ rows) (hr2 : rows ≤ 64) (h1 : 0 ≤ x) (h2 : x ≤ 64) (h3 : 0 ≤ y) (h4 : y ≤ 64) (h5 : -63 ≤ vx) (h6 : vx ≤ 63) (h7 : -63 ≤ vy) (h8 : vy ≤ 63) (hpw : pw ≤ 16) (hph : ph ≤ 16) :
    Calls Try.prog 34 #[.slice A n c, .int .i64 cols, .int .i64 x, .int .i64 y, .int .i64 PW, .int .i64 PH, .int .i64 vx, .int .i64 vy] w (RetB w (predL l cols rows x y pw ph vx vy)) := by
  subst hPW hPH
  exact ref_component x y cols rows vx vy pw ph A n c l w hl hn hc1 hc2 hr1 hr2 h1 h2 h3 h4 h5 h6 h7 h8 hpw hph
theorem formed_parts {W H : Int} {Y U V : List Int} (h : formedB ⟨W, H, Y, U, V⟩ = true) :
    2 ≤ W ∧ W ≤ 64 ∧ W % 2 = 0 ∧ 2 ≤ H ∧ H ≤ 64 ∧ H % 2 = 0 ∧ (Y.length : Int) = W * H ∧ (U.length : Int) = W / 2 * (H / 2) ∧ (V.length : Int) = W / 2 * (H / 2) := by
  simp only [formedB, Bool.and_eq_true, decide_eq_true_eq] at h
  obtain ⟨⟨⟨hs, a1⟩, a2⟩, a3⟩ := h
  obtain ⟨g1, g2, g3, g4, g5, g6⟩ := sizeB_true hs
  exact ⟨g1, g2, g3, g4, g5, g6, a1, a2, a3⟩
end Go.Proofs.Ytaedpadkpclldaa
