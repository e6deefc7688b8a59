/- The sound that a tape makes, in plain numbers. -/
import Derived.Test.YtcgejbnmbamchaaLdT
namespace Go.Proofs.Ytcgejbnmbamchaa
open Go.RowKit

def selH (most k : Nat) : Nat := match k with
  | 0 => 0
  | 1 => 3
  | 2 => most / 40
  | 3 => most / 3
  | _ => most
theorem selH_le {most k : Nat} (h : 3 ≤ most) : selH most k ≤ most := by unfold selH; split <;> omega
/-- Part j: its length, its height, its step. -/
def partN (L : List Int) (j : Nat) : Nat := 60 * nxt L (2 + 3 * j) 12
def partH (L : List Int) (most j : Nat) : Nat := selH most (nxt L (3 + 3 * j) 5)
def partS (L : List Int) (j : Nat) : Nat := 1 + nxt L (4 + 3 * j) 90
def smp (c i h s : Nat) : Int := (((i * s + c * 7) % (2 * h + 1) : Nat) : Int) - h
def partC (L : List Int) (most c j i : Nat) : List Int := (List.range i).map fun i => smp c i (partH L most j) (partS L j)
def chanK (L : List Int) (most c : Nat) : Nat → List Int
  | 0 => []
  | k + 1 => chanK L most c k ++ partC L most c k (partN L k)
def chans (L : List Int) : Nat := 1 + nxt L 0 2
def parts (L : List Int) : Nat := nxt L 1 7
def madeS (L : List Int) (most : Nat) : Snd := (List.range (chans L)).map fun c => chanK L most c (parts L)
def lenK (L : List Int) : Nat → Nat
  | 0 => 0
  | k + 1 => lenK L k + partN L k
theorem partN_le (L : List Int) (j : Nat) : partN L j ≤ 660 := by unfold partN; have := nxt_lt L (2 + 3 * j) (show 0 < 12 by omega); omega
theorem partS_le (L : List Int) (j : Nat) : 1 ≤ partS L j ∧ partS L j ≤ 90 := by unfold partS; have := nxt_lt L (4 + 3 * j) (show 0 < 90 by omega); omega
theorem chans_le (L : List Int) : 1 ≤ chans L ∧ chans L ≤ 2 := by unfold chans; have := nxt_lt L 0 (show 0 < 2 by omega); omega
theorem parts_le (L : List Int) : parts L ≤ 6 := by unfold parts; have := nxt_lt L 1 (show 0 < 7 by omega); omega
theorem lenK_le (L : List Int) : ∀ k, lenK L k ≤ 660 * k
  | 0 => by simp [lenK]
  | k + 1 => by have := lenK_le L k; have := partN_le L k; simp only [lenK]; omega
theorem partC_len (L : List Int) (most c j i : Nat) : (partC L most c j i).length = i := by simp [partC]
theorem chanK_len (L : List Int) (most c : Nat) : ∀ k, (chanK L most c k).length = lenK L k
  | 0 => rfl
  | k + 1 => by simp only [chanK, lenK, List.length_append, chanK_len L most c k, partC_len]
theorem partC_snoc (L : List Int) (most c j i : Nat) : partC L most c j (i + 1) = partC L most c j i ++ [smp c i (partH L most j) (partS L j)] := by
  unfold partC
  rw [List.range_succ, List.map_append]
  rfl
theorem smp_bound (c i h s : Nat) : -(h : Int) ≤ smp c i h s ∧ smp c i h s ≤ h := by
  unfold smp
  have := Nat.mod_lt (i * s + c * 7) (show 2 * h + 1 > 0 by omega)
  omega
def Abs (m : Nat) (l : List Int) : Prop := ∀ x ∈ l, -(m : Int) ≤ x ∧ x ≤ m
theorem chanK_abs (L : List Int) {most : Nat} (h : 3 ≤ most) (c : Nat) : ∀ k, Abs most (chanK L most c k)
  | 0 => by intro x hx; cases hx
  | k + 1 => by
    intro x hx
    simp only [chanK, List.mem_append] at hx
    rcases hx with hx | hx
    · exact chanK_abs L h c k x hx
    · obtain ⟨i, _, rfl⟩ := List.mem_map.1 hx
      have h1 := smp_bound c i (partH L most k) (partS L k)
      have h2 : partH L most k ≤ most := selH_le h
      omega
theorem Abs.smp {m : Nat} {l : List Int} (h : Abs m l) (hm : m ≤ 32767) : Smp l := fun x hx => by have := h x hx; omega
theorem madeS_len (L : List Int) (most : Nat) : (madeS L most).length = chans L := by simp [madeS]
theorem madeS_mem {L : List Int} {most : Nat} {c : List Int} (h : c ∈ madeS L most) : ∃ i, i < chans L ∧ c = chanK L most i (parts L) := by
  obtain ⟨i, hi, rfl⟩ := List.mem_map.1 h
  exact ⟨i, List.mem_range.1 hi, rfl⟩
theorem madeS_wide (L : List Int) (most : Nat) : wide (madeS L most) = lenK L (parts L) := by
  have h1 := (chans_le L).1
  unfold wide madeS
  obtain ⟨m, hm⟩ : ∃ m, chans L = m + 1 := ⟨chans L - 1, by omega⟩
  rw [hm, List.range_succ_eq_map]
  simp [chanK_len]
theorem madeS_proper (L : List Int) (most : Nat) : properB (madeS L most) = true := by
  have h1 := chans_le L
  have h2 := lenK_le L (parts L)
  have h3 := parts_le L
  simp only [properB, Bool.and_eq_true, decide_eq_true_eq, List.all_eq_true, madeS_len]
  refine ⟨⟨h1.1, by omega⟩, fun c hc => ?_⟩
  obtain ⟨i, _, rfl⟩ := madeS_mem hc
  have := madeS_wide L most
  unfold wide at this
  rw [chanK_len, this]
  omega
theorem madeS_smp (L : List Int) {most : Nat} (h : 3 ≤ most) (h2 : most ≤ 32767) : ∀ c ∈ madeS L most, Smp c := by
  intro c hc
  obtain ⟨i, _, rfl⟩ := madeS_mem hc
  exact (chanK_abs L h i _).smp h2
end Go.Proofs.Ytcgejbnmbamchaa
