/- Plain laws: the prediction from a mirrored picture is the mirrored prediction. -/
import Derived.Test.YtaedpadkpclldaaBetweenLaw
namespace Go.Proofs.Ytaedpadkpclldaa
open Go.RowKit

/-- Place i of a picture with W columns, mirrored. -/
def mirAt (W i : Nat) : Nat := i / W * W + W - 1 - i % W
theorem mirAt_eq {W q r : Nat} (hr : r < W) : mirAt W (q * W + r) = q * W + (W - 1 - r) := by
  have h1 : (q * W + r) % W = r := by rw [Nat.mul_comm, Nat.mul_add_mod]; exact Nat.mod_eq_of_lt hr
  have h2 : (q * W + r) / W = q := by rw [Nat.mul_comm, Nat.mul_add_div (by omega), Nat.div_eq_of_lt hr, Nat.add_zero]
  unfold mirAt
  rw [h1, h2]
  omega
theorem mirAt_mirAt {W : Nat} (hW : 0 < W) (i : Nat) : mirAt W (mirAt W i) = i := by
  have hr := Nat.mod_lt i hW
  have hi : i = i / W * W + i % W := by rw [Nat.mul_comm]; exact (Nat.div_add_mod i W).symm
  conv => lhs; rw [hi]
  rw [mirAt_eq hr, mirAt_eq (by omega)]
  omega
theorem mirAt_inj {W i k : Nat} (hW : 0 < W) (h : mirAt W i = mirAt W k) : i = k := by
  rw [← mirAt_mirAt hW i, h, mirAt_mirAt hW]
theorem mirAt_lt {W H i : Nat} (hW : 0 < W) (h : i < W * H) : mirAt W i < W * H := by
  have hr := Nat.mod_lt i hW
  have h1 : i / W < H := Nat.div_lt_of_lt_mul h
  have h2 : (i / W + 1) * W ≤ H * W := Nat.mul_le_mul_right W h1
  rw [Nat.succ_mul] at h2
  rw [Nat.mul_comm W H]
  unfold mirAt
  omega
/-- The first k samples of Y stand in M, mirrored. -/
def MirUp (W : Nat) (Y M : List Int) (k : Nat) : Prop := M.length = Y.length ∧ ∀ i, i < k → M[mirAt W i]? = Y[i]?
theorem MirUp.step {W H : Nat} {Y M : List Int} {k : Nat} {x : Int} (hW : 0 < W) (hn : Y.length = W * H) (h : MirUp W Y M k) (hk : k < Y.length) (hx : Y[k]? = some x) : MirUp W Y (M.set (mirAt W k) x) (k + 1) := by
  refine ⟨by rw [List.length_set]; exact h.1, fun i hi => ?_⟩
  rw [List.getElem?_set]
  by_cases e : k = i
  · subst e
    rw [if_pos rfl, if_pos (by rw [h.1, hn]; exact mirAt_lt hW (by omega)), hx]
  · rw [if_neg (fun q => e (mirAt_inj hW q)), h.2 i (by omega)]

theorem clampI_mir {x n : Int} (h : 1 ≤ n) : clampI (n - 1 - x) n = n - 1 - clampI x n := by unfold clampI; omega
theorem pix_mir {W : Nat} {rows : Int} {Y M : List Int} (hW : 1 ≤ W) (hr : 1 ≤ rows) (hn : (Y.length : Int) = W * rows) (hm : MirUp W Y M Y.length) (x y : Int) : pix M W rows ((W : Int) - 1 - x) y = pix Y W rows x y := by
  unfold pix
  rw [clampI_mir (by omega)]
  have h1 := clampI_bd (i := x) (n := W) (by omega)
  have h2 := clampI_bd (i := y) (n := rows) hr
  have hp := place_bd (cols := (W : Int)) (x := x) (y := y) (by omega) hr
  obtain ⟨c, hc⟩ : ∃ c : Nat, clampI x W = c := ⟨(clampI x W).toNat, by omega⟩
  obtain ⟨q, hq⟩ : ∃ q : Nat, clampI y rows = q := ⟨(clampI y rows).toNat, by omega⟩
  rw [hc] at h1 hp ⊢
  rw [hq] at h2 hp ⊢
  have e0 : (q : Int) * (W : Int) = ((q * W : Nat) : Int) := by simp
  have e1 : ((q : Int) * (W : Int) + (c : Int)).toNat = q * W + c := by rw [e0]; omega
  have e2 : ((q : Int) * (W : Int) + ((W : Int) - 1 - (c : Int))).toNat = q * W + (W - 1 - c) := by rw [e0]; omega
  have e3 : q * W + c < Y.length := by rw [e0] at hp; omega
  rw [e1, e2, List.getD_eq_getElem?_getD, List.getD_eq_getElem?_getD, ← hm.2 (q * W + c) e3, mirAt_eq (by omega)]
theorem halfS_mir {W : Nat} {rows : Int} {Y M : List Int} (hW : 1 ≤ W) (hr : 1 ≤ rows) (hn : (Y.length : Int) = W * rows) (hm : MirUp W Y M Y.length) (a b a' : Int) (ha : a' = 2 * ((W : Int) - 1) - a) : halfS M W rows a' b = halfS Y W rows a b := by
  subst ha
  unfold halfS
  rw [show (2 * ((W : Int) - 1) - a) / 2 + (2 * ((W : Int) - 1) - a) % 2 = (W : Int) - 1 - a / 2 by omega, show (2 * ((W : Int) - 1) - a) / 2 = (W : Int) - 1 - (a / 2 + a % 2) by omega]
  rw [pix_mir hW hr hn hm, pix_mir hW hr hn hm, pix_mir hW hr hn hm, pix_mir hW hr hn hm]
  omega
theorem predL_atk {l : List Int} {cols rows x y : Int} {pw ph : Nat} {vx vy : Int} {k : Nat} (hk : k < ph * pw) : (predL l cols rows x y pw ph vx vy)[k]? = some (predAt l cols rows x y pw vx vy k) := by
  unfold predL
  rw [List.getElem?_map, List.getElem?_range hk]
  rfl
theorem predL_mir {W : Nat} {rows : Int} {Y M : List Int} (hW : 1 ≤ W) (hr : 1 ≤ rows) (hn : (Y.length : Int) = W * rows) (hm : MirUp W Y M Y.length) (x y vx vy : Int) (ph k : Nat) (hk : k < ph * 16) :
    (predL Y W rows x y 16 ph vx vy)[k]? = (predL M W rows ((W : Int) - 16 - x) y 16 ph (-vx) vy)[mirAt 16 k]? := by
  have hk' : mirAt 16 k < ph * 16 := by rw [Nat.mul_comm]; exact mirAt_lt (by omega) (by omega)
  rw [predL_atk hk, predL_atk hk']
  have hi : k = k / 16 * 16 + k % 16 := by omega
  have hm16 : mirAt 16 k = k / 16 * 16 + (15 - k % 16) := by
    conv => lhs; rw [hi]
    rw [mirAt_eq (by omega)]
  rw [hm16]
  conv => lhs; rw [hi]
  rw [predAt_ij (by omega), predAt_ij (by omega)]
  rw [halfS_mir hW hr hn hm (2 * (x + ((k % 16 : Nat) : Int)) + vx) _ _ (by omega)]

/-- What MotionMirror says. -/
theorem predF_mirror {f g : Fr} {x y pw ph vx vy : Int} (he : (predF f x y pw ph vx vy).2 = 0) (hW : g.W = f.W) (hH : g.H = f.H) (hm : MirUp f.W.toNat f.Y g.Y f.Y.length) (hU : g.U = f.U) (hV : g.V = f.V) :
    (predF g (f.W - pw - x) y pw ph (-vx) vy).2 = 0 ∧ ((predF f x y pw ph vx vy).1.Y.length : Int) = pw * ph ∧ (predF g (f.W - pw - x) y pw ph (-vx) vy).1.Y.length = (predF f x y pw ph vx vy).1.Y.length ∧
      ∀ k, k < (predF f x y pw ph vx vy).1.Y.length → (predF f x y pw ph vx vy).1.Y[k]? = (predF g (f.W - pw - x) y pw ph (-vx) vy).1.Y[mirAt 16 k]? := by
  obtain ⟨h1, h2, h3⟩ := predF_cases f x y pw ph vx vy he
  obtain ⟨W, H, Y, U, V⟩ := f
  obtain ⟨W', H', M, U', V'⟩ := g
  dsimp only at hW hH hU hV hm
  subst hW hH hU hV
  have h1' := h1
  obtain ⟨q1, q2, q3, q4, q5, q6, q7, q8, q9⟩ := h1
  dsimp only at q6 q9
  have hf := q1
  simp only [formedB, Bool.and_eq_true, decide_eq_true_eq] at hf
  obtain ⟨⟨⟨hs, a1⟩, a2⟩, a3⟩ := hf
  obtain ⟨g1, g2, g3, g4, g5, g6⟩ := sizeB_true hs
  have ok : predOk ⟨W', H', M, U', V'⟩ (W' - pw - x) y pw ph := by
    refine ⟨?_, q2, q3, by first | omega | (dsimp only; omega), by omega, by first | omega | (dsimp only; omega), q7, q8, q9⟩
    simp only [formedB, Bool.and_eq_true, decide_eq_true_eq]
    exact ⟨⟨⟨hs, by rw [hm.1]; exact a1⟩, a2⟩, a3⟩
  have may : mayB (-vx) vy = true := by
    simp only [mayB, decide_eq_true_eq] at h2 ⊢
    omega
  have e2 : predF ⟨W', H', M, U', V'⟩ (W' - pw - x) y pw ph (-vx) vy = (predFr ⟨W', H', M, U', V'⟩ (W' - pw - x) y ph (-vx) vy, 0) := by
    unfold predF; rw [if_pos ok, if_pos may]
  rw [e2, h3]
  subst q2
  refine ⟨rfl, ?_, ?_, ?_⟩
  · simp only [predFr, predL_len]
    rcases q3 with rfl | rfl <;> rfl
  · simp only [predFr, predL_len]
  · intro k hk
    simp only [predFr, predL_len] at hk
    simp only [predFr]
    have hWn : ((W'.toNat : Nat) : Int) = W' := by omega
    have := predL_mir (W := W'.toNat) (rows := H') (Y := Y) (M := M) (by omega) (by omega) (by rw [hWn]; exact a1) hm x y vx vy ph.toNat k hk
    rw [hWn] at this
    exact this
end Go.Proofs.Ytaedpadkpclldaa
