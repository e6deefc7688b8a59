/- Plain: the scan of valid packets' bytes, one behind the other, and behind bytes without 71. -/
import Derived.Test.YtdnchjmopkhnaaaTrL3
namespace Go.Proofs.Ytdnchjmopkhnaaa
open Go.RowKit

def catL (ps : List TP) : List Int := ps.flatMap TP.bytes
theorem catL_cons (p : TP) (ps : List TP) : catL (p :: ps) = p.bytes ++ catL ps := rfl
theorem catL_nil : catL [] = [] := rfl
theorem catL_snoc (ps : List TP) (p : TP) : catL (ps ++ [p]) = catL ps ++ p.bytes := by simp [catL]
theorem catL_len : ∀ {ps : List TP}, (∀ p ∈ ps, p.ok = true) → (catL ps).length = 188 * ps.length
  | [], _ => rfl
  | p :: ps, h => by
    rw [catL_cons, List.length_append, TP.len (h p (by simp)), catL_len (fun q hq => h q (by simp [hq])), List.length_cons]
    omega
theorem TP.head {p : TP} (h : p.ok = true) : p.bytes[0]? = some 71 := by
  obtain ⟨x0, x1, x2, x3, x4, x5, x6, x7, x8, x9, x10, x11, hx⟩ := read12 p.bytes (TP.len h)
  obtain ⟨a0, _⟩ := cand_enc hx h rfl rfl
  rw [hx.h0, a0]
theorem catL_head {p : TP} {ps : List TP} (h : p.ok = true) : (catL (p :: ps))[0]? = some 71 := by
  rw [catL_cons, List.getElem?_append_left (by rw [TP.len h]; omega), TP.head h]
/-- A packet begins where its bytes lie, if another packet or nothing follows. -/
theorem begF_cat {pre : List Int} {p : TP} {ps : List TP} (h : ∀ q ∈ p :: ps, q.ok = true) : begF (pre ++ catL (p :: ps)) pre.length = some p := by
  have hp := h p (by simp)
  have hl := catL_len h
  have hb : ((pre ++ catL (p :: ps)).drop pre.length).take 188 = p.bytes := by
    rw [List.drop_left, catL_cons, List.take_left' (TP.len hp)]
  unfold begF
  rw [hb, if_pos, decF_some hp rfl]
  rw [List.length_append, hl, List.length_cons]
  refine ⟨by omega, ?_⟩
  cases ps with
  | nil => left; simp
  | cons q qs =>
    right
    rw [List.getElem?_append_right (by omega), catL_cons, List.getElem?_append_right (by rw [TP.len hp]; omega), TP.len hp, show pre.length + 188 - pre.length - 188 = 0 by omega]
    exact catL_head (h q (by simp))
theorem scanF_cat : ∀ (ps : List TP) (n : Nat) (pre : List Int) (ps0 : List TP) (ds : List (Nat × Nat)), (∀ q ∈ ps, q.ok = true) → ps.length < n →
    scanF (pre ++ catL ps) n pre.length pre.length ps0 ds = (ps0 ++ ps, ds)
  | [], n, pre, ps0, ds, _, hn => by
    obtain ⟨m, rfl⟩ : ∃ m, n = m + 1 := ⟨n - 1, by simp at hn; omega⟩
    simp [scanF, catL_nil]
  | p :: ps, n, pre, ps0, ds, h, hn => by
    obtain ⟨m, rfl⟩ : ∃ m, n = m + 1 := ⟨n - 1, by simp at hn; omega⟩
    have hp := h p (by simp)
    have hl := catL_len h
    have ih := scanF_cat ps m (pre ++ p.bytes) (ps0 ++ [p]) ds (fun q hq => h q (by simp [hq])) (by simp at hn; omega)
    rw [List.length_append, TP.len hp, List.append_assoc, ← catL_cons, List.append_assoc] at ih
    rw [scanF, if_pos (by rw [List.length_append, hl, List.length_cons]; omega), begF_cat h]
    dsimp only
    rw [if_neg (by omega), ih]
    rfl
theorem scanL_cat {ps : List TP} (h : ∀ q ∈ ps, q.ok = true) : scanL (catL ps) = (ps, []) := by
  have hl := catL_len h
  have e := scanF_cat ps ((catL ps).length + 1) [] [] [] h (by omega)
  simpa [scanL] using e
theorem begF_no {b : List Int} {j : Nat} {x : Int} (hx : b[j]? = some x) (h : x ≠ 71) : begF b j = none := by
  unfold begF
  split
  · rename_i hc
    cases hd : decF ((b.drop j).take 188) with
    | none => rfl
    | some p =>
      obtain ⟨h1, h2⟩ := decF_spec hd
      have h3 := TP.head h1
      rw [h2, List.getElem?_take, if_pos (by omega), List.getElem?_drop, Nat.add_zero, hx] at h3
      injection h3 with h3
      exact absurd h3 h
  · rfl
theorem scanF_pre {x : List Int} (hx : ∀ y ∈ x, y ≠ 71) {p : TP} {ps : List TP} (h : ∀ q ∈ p :: ps, q.ok = true) : ∀ (d j n : Nat), j + d = x.length → d + ps.length + 1 < n → 0 < x.length →
    scanF (x ++ catL (p :: ps)) n j 0 [] [] = (p :: ps, [(0, x.length)])
  | 0, j, n, hj, hn, h0 => by
    obtain ⟨m, rfl⟩ : ∃ m, n = m + 1 := ⟨n - 1, by omega⟩
    have hj : j = x.length := by omega
    subst hj
    have hp := h p (by simp)
    have hl := catL_len h
    have ih := scanF_cat ps m (x ++ p.bytes) [p] [(0, x.length)] (fun q hq => h q (by simp [hq])) (by omega)
    rw [List.length_append, TP.len hp, List.append_assoc, ← catL_cons] at ih
    rw [scanF, if_pos (by rw [List.length_append, hl, List.length_cons]; omega), begF_cat h]
    dsimp only
    rw [if_pos h0]
    exact ih
  | d + 1, j, n, hj, hn, h0 => by
    obtain ⟨m, rfl⟩ : ∃ m, n = m + 1 := ⟨n - 1, by omega⟩
    have hjl : j < x.length := by omega
    have e : (x ++ catL (p :: ps))[j]? = some x[j] := by rw [List.getElem?_append_left hjl]; exact List.getElem?_eq_getElem hjl
    rw [scanF, if_pos (by rw [List.length_append]; omega), begF_no e (hx _ (List.getElem_mem hjl))]
    exact scanF_pre hx h d (j + 1) m (by omega) (by omega) h0
theorem scanL_pre {x : List Int} (hx : ∀ y ∈ x, y ≠ 71) {p : TP} {ps : List TP} (h : ∀ q ∈ p :: ps, q.ok = true) (h0 : 0 < x.length) : scanL (x ++ catL (p :: ps)) = (p :: ps, [(0, x.length)]) := by
  have hl := catL_len h
  refine scanF_pre hx h x.length 0 _ (by omega) ?_ h0
  rw [List.length_append, hl, List.length_cons]
  omega
end Go.Proofs.Ytdnchjmopkhnaaa
