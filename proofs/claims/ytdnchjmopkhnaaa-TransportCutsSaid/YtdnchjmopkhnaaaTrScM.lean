/- Plain: which packets any bytes contain. -/
import Derived.Test.YtdnchjmopkhnaaaTrTk
namespace Go.Proofs.Ytdnchjmopkhnaaa
open Go.RowKit

/-- What the bytes look like. -/
def candT (l : List Int) : TP :=
  ⟨l.getD 1 0 % 32 * 256 + l.getD 2 0, l.getD 3 0 % 16, decide (l.getD 1 0 / 64 % 2 = 1), clkP (l.getD 3 0) (l.getD 4 0) (l.getD 5 0) (sixV (l.getD 6 0) (l.getD 7 0) (l.getD 8 0) (l.getD 9 0) (l.getD 10 0) (l.getD 11 0)), l.drop (fromP (l.getD 3 0) (l.getD 4 0)).toNat⟩
/-- The packet with these bytes. -/
def decF (l : List Int) : Option TP := if (candT l).ok = true ∧ (candT l).bytes = l then some (candT l) else none
theorem decF_spec {l : List Int} {p : TP} (h : decF l = some p) : p.ok = true ∧ p.bytes = l := by
  unfold decF at h
  split at h
  · rename_i hc
    injection h with h
    rw [← h]
    exact hc
  · cases h
theorem TP.len {p : TP} (h : p.ok = true) : p.bytes.length = 188 := pktL_len h rfl
theorem cand_of {p : TP} (h : p.ok = true) : candT p.bytes = p := by
  obtain ⟨x0, x1, x2, x3, x4, x5, x6, x7, x8, x9, x10, x11, hx⟩ := read12 p.bytes (TP.len h)
  obtain ⟨_, a1, a2, a3, a4, a5, _, _, a8⟩ := cand_enc hx h rfl rfl
  have hn := (validT_spec h).2.2.2.1
  unfold candT
  simp only [List.getD_eq_getElem?_getD, hx.h1, hx.h2, hx.h3, hx.h4, hx.h5, hx.h6, hx.h7, hx.h8, hx.h9, hx.h10, hx.h11, Option.getD_some]
  obtain ⟨pid, cnt, st, clk, l⟩ := p
  dsimp only at a1 a2 a3 a4 a5 a8 hn
  have hst : decide (x1 / 64 % 2 = 1) = st := by rw [Bool.eq_iff_iff, decide_eq_true_eq]; exact a3
  rw [a1, a2, hst, a5, a4, show ((188 : Int) - (l.length : Int)).toNat = 188 - l.length by omega, a8]
theorem decF_some {l : List Int} {p : TP} (h : p.ok = true) (hb : p.bytes = l) : decF l = some p := by
  subst hb
  unfold decF
  rw [cand_of h, if_pos ⟨h, rfl⟩]
theorem decF_none {l : List Int} (h : NoPkt l) : decF l = none := by
  unfold decF
  rw [if_neg]
  rintro ⟨h1, h2⟩
  exact h _ _ _ _ _ _ h1 rfl h2
theorem decF_no {l : List Int} (h : decF l = none) : NoPkt l := by
  intro pid cnt st clk pl n hv hpl hl
  subst hpl
  rw [decF_some (p := ⟨pid, cnt, st, clk, pl⟩) hv hl] at h
  cases h
/-- The packet that begins at place j. -/
def begF (b : List Int) (j : Nat) : Option TP := if j + 188 ≤ b.length ∧ (j + 188 = b.length ∨ b[j + 188]? = some 71) then decF ((b.drop j).take 188) else none
/-- The scan: from place j on, behind the last packet from place f on. -/
def scanF (b : List Int) : Nat → Nat → Nat → List TP → List (Nat × Nat) → List TP × List (Nat × Nat)
  | 0, _, _, ps, ds => (ps, ds)
  | n + 1, j, f, ps, ds =>
    if j < b.length then
      match begF b j with
      | none => scanF b n (j + 1) f ps ds
      | some p => scanF b n (j + 188) (j + 188) (ps ++ [p]) (if f < j then ds ++ [(f, j)] else ds)
    else (ps, if f < b.length then ds ++ [(f, b.length)] else ds)
/-- The scan has come to place j. -/
def ScanAt (b : List Int) (j f : Nat) (ps : List TP) (ds : List (Nat × Nat)) : Prop :=
  ∃ n, b.length - j < n ∧ scanF b (b.length + 1) 0 0 [] [] = scanF b n j f ps ds
theorem ScanAt.start (b : List Int) : ScanAt b 0 0 [] [] := ⟨b.length + 1, by omega, rfl⟩
theorem ScanAt.skip {b : List Int} {j f : Nat} {ps : List TP} {ds : List (Nat × Nat)} (h : ScanAt b j f ps ds) (hj : j < b.length) (hb : begF b j = none) : ScanAt b (j + 1) f ps ds := by
  obtain ⟨n, hn, h⟩ := h
  obtain ⟨m, rfl⟩ : ∃ m, n = m + 1 := ⟨n - 1, by omega⟩
  refine ⟨m, by omega, ?_⟩
  rw [h, scanF, if_pos hj, hb]
theorem ScanAt.take {b : List Int} {j f : Nat} {ps : List TP} {ds : List (Nat × Nat)} {p : TP} (h : ScanAt b j f ps ds) (hj : j < b.length) (hb : begF b j = some p) :
    ScanAt b (j + 188) (j + 188) (ps ++ [p]) (if f < j then ds ++ [(f, j)] else ds) := by
  obtain ⟨n, hn, h⟩ := h
  obtain ⟨m, rfl⟩ : ∃ m, n = m + 1 := ⟨n - 1, by omega⟩
  refine ⟨m, by omega, ?_⟩
  rw [h, scanF, if_pos hj, hb]
def scanL (b : List Int) : List TP × List (Nat × Nat) := scanF b (b.length + 1) 0 0 [] []
theorem ScanAt.stop {b : List Int} {j f : Nat} {ps : List TP} {ds : List (Nat × Nat)} (h : ScanAt b j f ps ds) (hj : b.length ≤ j) : scanL b = (ps, if f < b.length then ds ++ [(f, b.length)] else ds) := by
  obtain ⟨n, hn, h⟩ := h
  obtain ⟨m, rfl⟩ : ∃ m, n = m + 1 := ⟨n - 1, by omega⟩
  unfold scanL
  rw [h, scanF, if_neg (by omega)]
theorem begF_bound {b : List Int} {j : Nat} {p : TP} (h : begF b j = some p) : j + 188 ≤ b.length ∧ p.ok = true ∧ p.bytes = (b.drop j).take 188 := by
  unfold begF at h
  split at h
  · rename_i hc
    exact ⟨hc.1, decF_spec h⟩
  · cases h

end Go.Proofs.Ytdnchjmopkhnaaa
