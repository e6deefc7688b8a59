/- The contract of woven of the reference: the rows of two components by turns. -/
import Derived.Test.YtaedpadkpclldaaLines
namespace Go.Proofs.Ytaedpadkpclldaa
open Go.RowKit

def wovenL (a b : List Int) (wd : Nat) : Nat → List Int
  | 0 => []
  | r + 1 => wovenL a b wd r ++ (a.drop (r * wd)).take wd ++ (b.drop (r * wd)).take wd
theorem wovenL_rng {a b : List Int} {wd : Nat} (ha : ∀ x ∈ a, 0 ≤ x ∧ x ≤ 255) (hb : ∀ x ∈ b, 0 ≤ x ∧ x ≤ 255) : ∀ (r : Nat), ∀ x ∈ wovenL a b wd r, 0 ≤ x ∧ x ≤ 255
  | 0 => by intro x hx; cases hx
  | r + 1 => by
    intro x hx
    simp only [wovenL, List.mem_append] at hx
    rcases hx with (hx | hx) | hx
    · exact wovenL_rng ha hb r x hx
    · exact ha x (List.mem_of_mem_drop (List.mem_of_mem_take hx))
    · exact hb x (List.mem_of_mem_drop (List.mem_of_mem_take hx))
theorem wovenL_len {a b : List Int} {wd h : Nat} (ha : a.length = h * wd) (hb : b.length = h * wd) : ∀ (r : Nat), r ≤ h → (wovenL a b wd r).length = r * (2 * wd)
  | 0, _ => by simp [wovenL]
  | r + 1, hr => by
    have ih := wovenL_len ha hb r (by omega)
    have e1 : (r + 1) * wd ≤ h * wd := Nat.mul_le_mul_right _ hr
    rw [Nat.succ_mul] at e1
    simp only [wovenL, List.length_append, ih, List.length_take, List.length_drop, Nat.succ_mul]
    omega

set_option maxHeartbeats 2000000 in
theorem ref_woven {p : Nat → Prop} (A : Option Addr) (n c : Nat) (B : Option Addr) (d cols h : Nat) (la lb : List Int) (w : World) (hl : Byt p w A n la) (hnc : n ≤ c) (hl2 : Byt p w B n lb) (hnd : n ≤ d) (hw : 0 < cols) (hwd : cols ≤ 64) (hh : h ≤ 64) (hn : n = h * cols) :
    Calls Try.prog 50 #[.slice A n c, .slice B n d, .int .i64 cols] w (RetC w (wovenL la lb cols h)) := by
  have HN := Lib.hid hn
  have hn4 : n ≤ 4096 := by have := HN.out; rw [this]; exact Nat.le_trans (Nat.mul_le_mul hh hwd) (by omega)
  clear hn
  go_enter Try.func50, Try.ntmps50
  go_wp2
  go_loopw [7, 8] (fun v i wr => ∃ r s : Nat, r ≤ h ∧ Hid (s = r * cols) ∧ i = .int .i64 s ∧ Below w.heap.size w wr ∧ OwB wr w.heap.size 5 v (wovenL la lb cols r)) (fun _ i _ => n + 200 - (intOf i).toNat)
  case atStart => exact ⟨0, 0, Nat.zero_le _, by show 0 = _; omega, rfl, Below.refl _ _, OwB.nil⟩
  case round =>
    obtain ⟨r, s, hr, HS, rfl, hbel, hown⟩ := hrel
    have hs := HS.out
    by_cases hlt : r < h
    · have hrl : (r + 1) * cols ≤ h * cols := Nat.mul_le_mul_right _ (by omega)
      have hfit : s + cols ≤ n := by rw [Nat.succ_mul] at hrl; have := HN.out; omega
      have hsn : s < n := by omega
      clear hs hrl
      obtain ⟨bb, oo, rfl, _, hbb, _⟩ := hl.addr (by omega)
      obtain ⟨b2, o2, rfl, _, hbb2, _⟩ := hl2.addr (by omega)
      have hz := hbel.size
      obtain ⟨t, ht⟩ : ∃ t, t = s + cols := ⟨_, rfl⟩
      have e1 : IntKind.i64.wrap ((s : Int) + (cols : Int)) = (t : Int) := by rw [show ((s : Int) + (cols : Int)) = ((t : Nat) : Int) by omega]; exact IntWalk.i64_in _ (by omega)
      have htc : t - s = cols := by omega
      have hsrc := ((hl.ext hbel).sub (k := s) (m := t - s) (by omega)).drew
      have j1 : s < t := by omega
      have j2 : t ≤ n := by omega
      have j3 : t ≤ c := by omega
      have j4 : s ≤ t := by omega
      have j5 : ¬ c = s := by omega
      have j6 : t ≤ d := by omega
      have j7 : ¬ d = s := by omega
      have HT := Lib.hid ht
      have HTC := Lib.hid htc
      have hlenr : (wovenL la lb cols r).length ≤ 8192 := by
        rw [wovenL_len (h := h) (by rw [hl.len, HN.out]) (by rw [hl2.len, HN.out]) r hr]
        exact Nat.le_trans (Nat.mul_le_mul (show r ≤ 64 by omega) (Nat.mul_le_mul_left 2 hwd)) (by omega)
      have hlc : ((la.drop s).take (t - s)).length = cols := by rw [List.length_take, List.length_drop, hl.len]; omega
      have hg0 := hbel.drew
      clear ht htc
      go_wp2
      go_region_held3 (fun _ => True) (exact True.intro)
        (first
         | (refine step_appB (p := p) _ (by rfl) _ _ _ (by rfl) _ Try.underlying22 Try.infoB w.heap.size _ _ (by rfl) hown.drew _ _ _ _ (by rfl) (Byt.cast hsrc (by first | rfl | (simp; done) | (simp; omega)) (by first | rfl | (simp; done) | (simp; omega))) (by omega) (by first | omega | (show w.heap.size ≤ wr.heap.size; omega)) ?_; intro v1 w1 hown1 hg1 hat1)
         | (go_must (refine step_appB (p := p) _ (by rfl) _ _ _ (by rfl) _ Try.underlying22 Try.infoB w.heap.size _ _ (by rfl) hown1 _ _ _ _ (by rfl) (Byt.cast (((hl2.ext (hbel.drew.grown hg1 (by simpa using hz) (fun b hb => (hown.lt b hb).1))).sub (k := s) (m := t - s) (by omega))) (by first | rfl | (simp; done) | (simp; omega)) (by first | rfl | (simp; done) | (simp; omega))) (by simp only [List.length_append, hlc]; omega) (by have := hg1.size; simp at this; omega) ?_); intro v2 w2 hown2 hg2 hat2))
      clear e1
      go_wp2
      go_roundw
      case rel =>
        refine ⟨r + 1, s + cols, by omega, ?_, by have := HT.out; go_num, ?_, ?_⟩
        · show s + cols = _
          have h1 := HS.out
          rw [Nat.succ_mul, h1]
        · exact (hbel.drew.grown hg1 (by simpa using hz) (fun b hb => (hown.lt b hb).1)).grown hg2 (by have := hg1.size; simp at this; omega) (fun b hb => (hown1.lt b hb).1)
        · unfold wovenL
          rw [HTC.out, HS.out] at hown2
          exact hown2
      case measure => simp [intOf]; omega
    · obtain rfl : r = h := by omega
      have hge : n ≤ s := by have := HN.out; omega
      clear hs
      go_wp2
      go_ret
      obtain ⟨A1, c1, rfl, hcap, hB⟩ := hown.retC (p := (w.heap.size ≤ ·)) (fun _ h => h) (wovenL_rng hl.rng hl2.rng r)
      exact ⟨_, _, _, rfl, hcap, hB, hbel⟩
end Go.Proofs.Ytaedpadkpclldaa
