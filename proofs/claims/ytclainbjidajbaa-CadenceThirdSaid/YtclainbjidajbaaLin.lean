/- The rows of two planes by turns: plain lists; copy into a row of the call's own. -/
import Derived.Test.YtclainbjidajbaaFrm
import Derived.Laws.CopyOwn
namespace Go.Proofs.Ytclainbjidajbaa
open Go.RowKit

/-- The list l with m laid over it from place o on. -/
def spl (l : List Int) (o : Nat) (m : List Int) : List Int := l.take o ++ m ++ l.drop (o + m.length)
theorem spl_len {l : List Int} {o : Nat} {m : List Int} (h : o + m.length ≤ l.length) : (spl l o m).length = l.length := by
  simp [spl]; omega
theorem spl_at {l : List Int} {o : Nat} {m : List Int} (h : o + m.length ≤ l.length) (j : Nat) :
    (spl l o m)[j]? = if j < o then l[j]? else if j < o + m.length then m[j - o]? else l[j]? := by
  unfold spl
  by_cases h1 : j < o
  · rw [if_pos h1, List.append_assoc, List.getElem?_append_left (by simp; omega), List.getElem?_take, if_pos h1]
  · rw [if_neg h1, List.append_assoc, List.getElem?_append_right (by simp; omega)]
    have e : (List.take o l).length = o := by simp; omega
    rw [e]
    by_cases h2 : j < o + m.length
    · rw [if_pos h2, List.getElem?_append_left (by omega)]
    · rw [if_neg h2, List.getElem?_append_right (by omega), List.getElem?_drop]
      congr 1
      omega
theorem spl_nil {l : List Int} {o : Nat} : spl l o [] = l := by simp [spl]

/-- copy into a row of the call's own. -/
theorem run_copyO {P : Program} {p : Nat → Prop} (w : World) (t ty e : TypeId) (ht : P.underlying t = some (.slice e)) (hi : (P.info? e).map (fun i => (i.zero, i.size, i.bytes)) = some (some (.int .u8 0), 1, 1))
    (base g n cap : Nat) (l : List Int) (ho : OwB w base e (.slice (some ⟨g, 0, none⟩) n cap) l) (off dn dc b o sn sc : Nat) (news : List Int) (hr : Byt p w (some ⟨b, o, none⟩) sn news) (hle : dn ≤ sn) (hfit : off + dn ≤ l.length) :
    ∃ w', (Builtin.copy_ #[t, t] ty #[.slice (some ⟨g, off, none⟩) dn dc, .slice (some ⟨b, o, none⟩) sn sc]).run P w = .ok (.int .i64 (dn : Int)) w' ∧ OwB w' base e (.slice (some ⟨g, 0, none⟩) n cap) (spl l off (news.take dn)) ∧ w.grownBy w' (some g) := by
  obtain ⟨i, hi', hz, hs, hb⟩ := info_parts hi
  have hsz : (P.info? e).map (·.size) = some 1 := by rw [hi']; simp [hs]
  rcases Nat.eq_zero_or_pos dn with h0 | h0
  · subst h0
    refine ⟨w, ?_, by rw [List.take_zero, spl_nil]; exact ho, World.grownBy.refl w _⟩
    rw [run_copy_none (P := P) w t t ty e _ _ 0 dc sn sc ht hsz (by simp)]
    rfl
  · rcases ho.2 with ⟨hn, _⟩ | ⟨g', cap', cur, hv, hg, hh, hnc, hcm, hcs, htake⟩
    · cases hn
    injection hv with h1 h2 h3
    injection h1 with h1
    injection h1 with h1
    subst h1 h2 h3
    obtain ⟨b', o', hA, _, _, hc⟩ := hr.addr (by omega)
    injection hA with hA
    injection hA with hA1 hA2
    subst hA1 hA2
    have hlen : (news.take dn).length = dn := by rw [List.length_take, hr.1]; omega
    have hsrc : ∀ j v, ((news.take dn).map (Value.int .u8))[j]? = some v → w.cell? ((⟨b, o, none⟩ : Addr).add j) = some v := by
      intro j v hv
      rw [List.getElem?_map] at hv
      rcases hx : (news.take dn)[j]? with _ | x <;> simp [hx] at hv
      subst hv
      have hadd : (⟨b, o, none⟩ : Addr).add j = ⟨b, o + j, none⟩ := by unfold Addr.add; split <;> simp_all
      rw [hadd]
      rw [List.getElem?_take] at hx
      split at hx
      · exact hc j x hx
      · cases hx
    rw [Nat.mul_one] at htake
    have hmin : Nat.min sn dn = dn := Nat.min_eq_right hle
    have hsize : l.length ≤ cur.size := by omega
    have hrun := run_copy_row (P := P) w t t ty e g off dn dc ⟨b, o, none⟩ sn sc cur e ((news.take dn).map (Value.int .u8)) ht hsz hh (by rw [List.length_map, hlen, hmin]) hsrc (by rw [List.length_map, hlen]; omega)
      (by intro u hu; obtain ⟨x, _, rfl⟩ := List.mem_map.1 hu; rfl)
    refine ⟨_, by rw [hrun, List.length_map, hlen]; rfl, ⟨by simp, .inr ⟨g, cap, _, by rw [spl_len (by omega)], hg, setRow_heap w g cur _ e _ hh, by rw [spl_len (by omega)]; exact hnc, hcm, ?_, ?_⟩⟩, ⟨rfl, rfl, rfl, by simp, fun k _ hk => setRow_other w g k _ (fun e => hk (by rw [e]))⟩⟩
    · rw [List.size_toArray]
      simp only [List.length_append, List.length_take, List.length_drop, List.length_map, Array.length_toList, hr.1] at *
      omega
    · rw [Nat.mul_one, spl_len (by omega)]
      obtain ⟨R, hR⟩ : ∃ R, cur.toList = l.map (Value.int .u8) ++ R := ⟨cur.toList.drop l.length, by rw [← htake, List.take_append_drop]⟩
      have hll : (l.map (Value.int .u8)).length = l.length := List.length_map _
      have e1 : (l.map (Value.int .u8) ++ R).take off = (l.map (Value.int .u8)).take off := List.take_append_of_le_length (by omega)
      have e2 : (l.map (Value.int .u8) ++ R).drop (off + dn) = (l.map (Value.int .u8)).drop (off + dn) ++ R := List.drop_append_of_le_length (by omega)
      have e3 : ((news.take dn).map (Value.int .u8)).length = dn := by rw [List.length_map, hlen]
      have e4 : ((l.map (Value.int .u8)).take off ++ (news.take dn).map (Value.int .u8) ++ (l.map (Value.int .u8)).drop (off + dn)).length = l.length := by
        simp only [List.length_append, List.length_take, List.length_drop, hll, e3]; omega
      rw [List.toList_toArray, hR, e1, e2, ← List.append_assoc, List.take_append_of_le_length (by omega), List.take_of_length_le (by omega)]
      unfold spl
      rw [hlen]
      simp

/-- The even rows of a, the odd rows of b. -/
def linesL (a b : List Int) (wd : Nat) : List Int := (List.range a.length).map fun i => if i / wd % 2 = 1 then b.getD i 0 else a.getD i 0
/-- The same for the first m samples. -/
def partL (a b : List Int) (wd m : Nat) : List Int := (List.range a.length).map fun i => if i < m ∧ i / wd % 2 = 1 then b.getD i 0 else a.getD i 0
theorem linesL_len (a b : List Int) (wd : Nat) : (linesL a b wd).length = a.length := by simp [linesL]
theorem partL_len (a b : List Int) (wd m : Nat) : (partL a b wd m).length = a.length := by simp [partL]
theorem OwB.form {w : World} {base : Nat} {e : TypeId} {v : Value} {l : List Int} (h : OwB w base e v l) (hl : 0 < l.length) :
    ∃ g cap, v = .slice (some ⟨g, 0, none⟩) l.length cap ∧ base ≤ g ∧ g < w.heap.size ∧ l.length ≤ cap ∧ (∀ j x, l[j]? = some x → w.cell? ⟨g, j, none⟩ = some (.int .u8 x)) ∧ (∀ j, w.frozen? ⟨g, j, none⟩ = false) := by
  have h0 := h
  rcases h.2 with ⟨_, hn⟩ | ⟨g, cap, cur, rfl, hg, hh, hnc, hcm, hcs, htake⟩
  · omega
  · refine ⟨g, cap, rfl, hg, (h0.lt g rfl).2, hnc, fun j x hx => ?_, fun j => by simp [World.frozen?, hh]⟩
    have := World.ownsRow.cells h0 (g := g) rfl j (.int .u8 x) (by rw [List.getElem?_map, hx]; rfl)
    have hadd : (⟨g, 0, none⟩ : Addr).add j = ⟨g, j, none⟩ := by unfold Addr.add; split <;> simp_all
    rwa [hadd] at this
theorem getD_at {l : List Int} {i : Nat} (h : i < l.length) : l[i]? = some (l.getD i 0) := by simp [List.getD_eq_getElem?_getD, List.getElem?_eq_getElem h]
theorem getD_mem {l : List Int} {i : Nat} (h : i < l.length) : l.getD i 0 ∈ l := List.mem_of_getElem? (getD_at h)
theorem linesL_at (a b : List Int) (wd : Nat) {i : Nat} (h : i < a.length) : (linesL a b wd)[i]? = some (if i / wd % 2 = 1 then b.getD i 0 else a.getD i 0) := by
  simp [linesL, List.getElem?_range h]
theorem partL_at (a b : List Int) (wd m : Nat) {i : Nat} (h : i < a.length) : (partL a b wd m)[i]? = some (if i < m ∧ i / wd % 2 = 1 then b.getD i 0 else a.getD i 0) := by
  simp [partL, List.getElem?_range h]
theorem list_ext {l m : List Int} {n : Nat} (hl : l.length = n) (hm : m.length = n) (h : ∀ i, i < n → l[i]? = m[i]?) : l = m := by
  apply List.ext_getElem?
  intro i
  by_cases hi : i < n
  · exact h i hi
  · rw [List.getElem?_eq_none (by omega), List.getElem?_eq_none (by omega)]
theorem partL_zero (a b : List Int) (wd : Nat) : partL a b wd 0 = a :=
  list_ext (partL_len a b wd 0) rfl fun i hi => by rw [partL_at a b wd 0 hi, if_neg (by omega), ← getD_at hi]
theorem partL_full (a b : List Int) (wd m : Nat) (h : a.length ≤ m) : partL a b wd m = linesL a b wd :=
  list_ext (partL_len a b wd m) (linesL_len a b wd) fun i hi => by
    rw [partL_at a b wd m hi, linesL_at a b wd hi]
    congr 1
    by_cases hc : i / wd % 2 = 1
    · rw [if_pos ⟨by omega, hc⟩, if_pos hc]
    · rw [if_neg (fun h => hc h.2), if_neg hc]
theorem row_of {i k wd : Nat} (h1 : k * wd ≤ i) (h2 : i < (k + 1) * wd) : i / wd = k := by
  have hw : 0 < wd := by
    rcases Nat.eq_zero_or_pos wd with h | h
    · rw [h] at h2; simp at h2
    · exact h
  apply Nat.div_eq_of_lt_le <;> assumption
theorem partL_even (a b : List Int) (wd k : Nat) (hk : k % 2 = 0) : partL a b wd ((k + 1) * wd) = partL a b wd (k * wd) :=
  list_ext (partL_len a b wd _) (partL_len a b wd _) fun i hi => by
    rw [partL_at a b wd _ hi, partL_at a b wd _ hi]
    congr 1
    have hle : k * wd ≤ (k + 1) * wd := Nat.mul_le_mul_right _ (by omega)
    by_cases h1 : i < k * wd
    · by_cases h2 : i / wd % 2 = 1
      · rw [if_pos ⟨by omega, h2⟩, if_pos ⟨h1, h2⟩]
      · rw [if_neg (fun h => h2 h.2), if_neg (fun h => h2 h.2)]
    · by_cases h3 : i < (k + 1) * wd
      · have := row_of (by omega) h3
        rw [if_neg (fun h => by omega), if_neg (fun h => h1 h.1)]
      · rw [if_neg (fun h => h3 h.1), if_neg (fun h => h1 h.1)]
theorem partL_odd (a b : List Int) (wd k : Nat) (hk : k % 2 = 1) (hb : b.length = a.length) (hfit : (k + 1) * wd ≤ a.length) :
    spl (partL a b wd (k * wd)) (k * wd) ((b.drop (k * wd)).take wd) = partL a b wd ((k + 1) * wd) := by
  have hs : (k + 1) * wd = k * wd + wd := Nat.succ_mul k wd
  have hl : ((b.drop (k * wd)).take wd).length = wd := by rw [List.length_take, List.length_drop]; omega
  have hle : k * wd + ((b.drop (k * wd)).take wd).length ≤ (partL a b wd (k * wd)).length := by rw [hl, partL_len]; omega
  refine list_ext ((spl_len hle).trans (partL_len a b wd _)) (partL_len a b wd _) fun i hi => ?_
  rw [spl_at hle, hl, partL_at a b wd _ hi, partL_at a b wd _ hi]
  by_cases h1 : i < k * wd
  · rw [if_pos h1]
    congr 1
    by_cases h2 : i / wd % 2 = 1
    · rw [if_pos ⟨h1, h2⟩, if_pos ⟨by omega, h2⟩]
    · rw [if_neg (fun h => h2 h.2), if_neg (fun h => h2 h.2)]
  · rw [if_neg h1]
    by_cases h2 : i < k * wd + wd
    · rw [if_pos h2, if_pos ⟨by omega, by rw [row_of (k := k) (by omega) (by rw [hs]; exact h2)]; exact hk⟩, List.getElem?_take, if_pos (by omega), List.getElem?_drop, show k * wd + (i - k * wd) = i by omega]
      exact getD_at (by omega)
    · rw [if_neg h2, if_neg (fun h => h1 h.1), if_neg (fun h => by omega)]
theorem partL_rng {a b : List Int} {wd m : Nat} (hb : b.length = a.length) (h1 : ∀ x ∈ a, 0 ≤ x ∧ x ≤ 255) (h2 : ∀ x ∈ b, 0 ≤ x ∧ x ≤ 255) : ∀ x ∈ partL a b wd m, 0 ≤ x ∧ x ≤ 255 := by
  intro x hx
  obtain ⟨i, hi, rfl⟩ := List.mem_map.1 hx
  have hi := List.mem_range.1 hi
  split
  · exact h2 _ (getD_mem (by omega))
  · exact h1 _ (getD_mem hi)
theorem linesL_rng {a b : List Int} {wd : Nat} (hb : b.length = a.length) (h1 : ∀ x ∈ a, 0 ≤ x ∧ x ≤ 255) (h2 : ∀ x ∈ b, 0 ≤ x ∧ x ≤ 255) : ∀ x ∈ linesL a b wd, 0 ≤ x ∧ x ≤ 255 := by
  rw [← partL_full a b wd a.length (Nat.le_refl _)]
  exact partL_rng hb h1 h2

/-- bytes.Clone hands back a row of the call's own. -/
def RetO (w : World) (l : List Int) (e : Ending) (w' : World) : Prop := ∃ v, e = .returned v ∧ OwB w' w.heap.size 5 v l ∧ Below w.heap.size w w'
set_option maxRecDepth 100000 in
set_option maxHeartbeats 1000000 in
theorem bytes_CloneO {p : Nat → Prop} (A : Option Addr) (n c : Nat) (l : List Int) (w : World) (h : Byt p w A n l) (hn : n ≤ 1000000) :
    Calls Try.prog 53 #[.slice A n c] w (RetO w l) := by
  rcases A with _ | a
  · have : n = 0 := by
      rcases Nat.eq_zero_or_pos n with h0 | h0
      · exact h0
      · obtain ⟨b, off, hA, _⟩ := h.addr h0
        cases hA
    subst this
    have : l = [] := List.eq_nil_of_length_eq_zero h.len
    subst this
    have hnil := fun w => Lib.run_eql_slice_nil (P := Try.prog) w 25 5 none 0 c 0 0 Try.underlying25
    simp only [Option.isNone_none] at hnil
    go_enter Try.func53, Try.ntmps53
    go_wp2_with fail
    go_ret
    exact ⟨_, rfl, OwB.nil, Below.refl _ _⟩
  · have hnil := fun w => Lib.run_eql_slice_nil (P := Try.prog) w 25 5 (some a) n c 0 0 Try.underlying25
    simp only [Option.isNone_some] at hnil
    go_enter Try.func53, Try.ntmps53
    go_wp2_with (first | (at_builtin; go_must (refine wpList_appB _ rfl (.tmp 5) (.tmp 6) 25 rfl 5 Try.underlying25 Try.infoB w.heap.size _ [] rfl (OwB.lit w w.heap.size 5 [] 0 rfl rfl rfl (Nat.le_refl _) (by omega)) (some a) n c l rfl (h.alloc _) (by simp; omega) (by simp) ?_; intro v3 w3 ho3 hg3 hat3)))
    obtain ⟨A3, c3, rfl, hk3⟩ := ho3.slice
    go_wp2_with fail
    go_ret
    exact ⟨_, rfl, by simpa using ho3, ((Below.refl _ _).alloc (Nat.le_refl _) _).grown hg3 (by simp) (fun k hk => ((OwB.lit w w.heap.size 5 [] 0 rfl rfl rfl (Nat.le_refl _) (by omega)).lt k hk).1)⟩
end Go.Proofs.Ytclainbjidajbaa
