/- The contract of plane.paste: an area of a plane is replaced. -/
import Derived.Test.YtaedpadkpclldaaLines
import Derived.Maps.AppendAt
import Derived.Great.Walk
namespace Go.Proofs.Ytaedpadkpclldaa
open Go.RowKit

def pasteL (m l : List Int) (fr st wd : Nat) : Nat → List Int
  | 0 => m
  | r + 1 => spl (pasteL m l fr st wd r) (fr + r * st) ((l.drop (r * wd)).take wd)
theorem pasteL_len {m l : List Int} {fr st wd : Nat} : ∀ (r : Nat), (∀ j, j < r → fr + j * st + wd ≤ m.length) → (pasteL m l fr st wd r).length = m.length
  | 0, _ => rfl
  | r + 1, h => by
    have ih := pasteL_len (l := l) r (fun j hj => h j (by omega))
    have h1 := h r (by omega)
    unfold pasteL
    rw [spl_len, ih]
    rw [ih]
    have : ((l.drop (r * wd)).take wd).length ≤ wd := by rw [List.length_take]; omega
    omega
theorem pasteL_rng {m l : List Int} {fr st wd : Nat} (hm : ∀ x ∈ m, 0 ≤ x ∧ x ≤ 255) (hl : ∀ x ∈ l, 0 ≤ x ∧ x ≤ 255) : ∀ (r : Nat), ∀ x ∈ pasteL m l fr st wd r, 0 ≤ x ∧ x ≤ 255
  | 0 => hm
  | r + 1 => by
    unfold pasteL
    exact spl_rng (pasteL_rng hm hl r) (fun x hx => hl x (List.mem_of_mem_drop (List.mem_of_mem_take hx)))

set_option maxHeartbeats 2000000 in
theorem plane_paste {p : Nat → Prop} (g dn dc fr st wd ht : Nat) (A : Option Addr) (n c : Nat) (m l : List Int) (w : World) (hk : Bk w 5 g m) (hm : m.length = dn) (hdc : dn ≤ dc) (hl : Byt p w A n l) (hnp : ¬ p g) (hn : n ≤ c) (hw : 0 < wd) (hwd : wd ≤ 64) (hht : ht ≤ 64) (hfr : fr ≤ 100000) (hst : st ≤ 1000) (hdn : dn ≤ 100000)
    (hlen : n = ht * wd) (hfit : ∀ r, r < ht → fr + r * st + wd ≤ dn) :
    Calls Try.prog 48 #[.slice (some ⟨g, 0, none⟩) dn dc, .agg #[.int .i64 fr, .int .i64 st, .int .i64 wd, .int .i64 ht], .slice A n c] w (fun e w' => e = .returned (.tuple #[]) ∧ Bk w' 5 g (pasteL m l fr st wd ht) ∧ w.grownBy w' (some g)) := by
  have HN := Lib.hid hlen
  have HM := Lib.hid hm
  have HF := Lib.hid hfit
  have hnn : n ≤ 4096 := by rw [hlen]; exact Nat.le_trans (Nat.mul_le_mul hht hwd) (by omega)
  clear hlen hfit hm
  have hgl := hk.lt
  go_enter Try.func48, Try.ntmps48
  go_wp2
  have xb : Bx (w.alloc (.cells #[.int .i64 fr, .int .i64 st, .int .i64 wd, .int .i64 ht] 68)) w.heap.size 68 #[.int .i64 fr, .int .i64 st, .int .i64 wd, .int .i64 ht] := Bx.new w _ _
  have kb := hk.alloc (.cells #[.int .i64 fr, .int .i64 st, .int .i64 wd, .int .i64 ht] 68)
  have hG0 : w.grownBy (w.alloc (.cells #[.int .i64 fr, .int .i64 st, .int .i64 wd, .int .i64 ht] 68)) (some g) := World.grownBy_alloc w _ _
  generalize hWA : w.alloc (.cells #[.int .i64 fr, .int .i64 st, .int .i64 wd, .int .i64 ht] 68) = wA at *
  clear hWA
  go_loopw [9] (fun i wr => ∃ r : Nat, r ≤ ht ∧ i = .int .i64 r ∧ w.grownBy wr (some g) ∧ Bx wr w.heap.size 68 #[.int .i64 fr, .int .i64 st, .int .i64 wd, .int .i64 ht] ∧ Bk wr 5 g (pasteL m l fr st wd r)) (fun i _ => ht - (intOf i).toNat)
  case atStart => exact ⟨0, Nat.zero_le _, rfl, hG0, xb, kb⟩
  case round =>
    clear xb kb hG0
    obtain ⟨r, hr, rfl, hgr, xb, kb⟩ := hrel
    have hxl := xb.lt
    have c0 := xb.cell 0 rfl
    have c1 := xb.cell 1 rfl
    have c2 := xb.cell 2 rfl
    by_cases hlt : r < ht
    · have hf := HF.out r hlt
      obtain ⟨a, ha⟩ : ∃ a, a = r * wd := ⟨_, rfl⟩
      obtain ⟨b, hb⟩ : ∃ b, b = (r + 1) * wd := ⟨_, rfl⟩
      obtain ⟨t, ht'⟩ : ∃ t, t = r * st := ⟨_, rfl⟩
      obtain ⟨s, hs⟩ : ∃ s, s = fr + t := ⟨_, rfl⟩
      have hab : b = a + wd := by rw [hb, ha, Nat.succ_mul]
      have hbN : b ≤ n := by rw [hb, HN.out]; exact Nat.mul_le_mul_right _ (by omega)
      have hts : t ≤ 64 * 1000 := by rw [ht']; exact Nat.mul_le_mul (by omega) hst
      have hsn : s + wd ≤ dn := by rw [hs, ht']; exact hf
      have hlp : (pasteL m l fr st wd r).length = dn := by rw [pasteL_len r (fun j hj => by rw [HM.out]; exact HF.out j (by omega))]; exact HM.out
      have HLP := Lib.hid hlp
      clear hlp
      have e1 : IntKind.i64.wrap ((r : Int) * (wd : Int)) = (a : Int) := by rw [← Int.natCast_mul, ← ha]; exact IntWalk.i64_in _ (by omega)
      have e2 : IntKind.i64.wrap ((r : Int) + 1) = (r : Int) + 1 := IntWalk.i64_in _ (by omega)
      have e3 : IntKind.i64.wrap (((r : Int) + 1) * (wd : Int)) = (b : Int) := by rw [show ((r : Int) + 1) * (wd : Int) = ((b : Nat) : Int) by rw [hb, Int.natCast_mul]; rfl]; exact IntWalk.i64_in _ (by omega)
      have e4 : IntKind.i64.wrap ((r : Int) * (st : Int)) = (t : Int) := by rw [← Int.natCast_mul, ← ht']; exact IntWalk.i64_in _ (by omega)
      have e5 : IntKind.i64.wrap ((fr : Int) + (t : Int)) = (s : Int) := by rw [show ((fr : Int) + (t : Int)) = ((s : Nat) : Int) by omega]; exact IntWalk.i64_in _ (by omega)
      have Ha := Lib.hid ha
      have Hb := Lib.hid hb
      have Ht := Lib.hid ht'
      have Hs := Lib.hid hs
      have Hab := Lib.hid hab
      have j1 : a < b := by omega
      have j2 : (0 : Int) ≤ (a : Int) := by omega
      have j3 : (a : Int) ≤ (b : Int) := by omega
      have j4 : (b : Int) ≤ (c : Int) := by omega
      have j5 : (0 : Int) ≤ (s : Int) := by omega
      have j6 : (s : Int) ≤ (dn : Int) := by omega
      have j7 : (dn : Int) ≤ (dc : Int) := by omega
      have j8 : s < dn := by omega
      have hdn' : b - a = wd := by omega
      have Hdn := Lib.hid hdn'
      clear ha hb ht' hs hab hf hdn'
      have hl2 := hl.grown hgr (fun b hb _ e => by cases e; exact hnp hb)
      obtain ⟨bb, oo, rfl, _, hbb, _⟩ := hl.addr (by omega)
      have hsrc := (hl2.sub (k := a) (m := b - a) (by omega)).drew
      go_wp2
      go_region_held3 (fun w' => w'.cell? ⟨w.heap.size, 0, none⟩ = some (.int .i64 fr) ∧ w'.cell? ⟨w.heap.size, 1, none⟩ = some (.int .i64 st) ∧ w'.cell? ⟨w.heap.size, 2, none⟩ = some (.int .i64 wd))
        (first | go_keep | (go_split_ands; refine ⟨?_, ?_, ?_⟩ <;> (rw [hg2.cell_far _ (by simp; omega) (by simp; omega)]; assumption)))
        (first | (refine step_copyB (p := p) _ (by rfl) _ _ _ (by rfl) _ Try.underlying22 Try.infoB _ _ _ _ _ _ (by rfl) (by rfl) g s _ kb.drew ((l.drop a).take (b - a)) (Byt.cast hsrc (by first | rfl | (simp; done) | (simp; omega)) (by first | rfl | (simp; done) | (simp; omega))) (fun _ => (by first | rfl | (simp; done) | (simp; omega))) (by rw [HLP.out]; first | omega | (simp; omega)) ?_; intro w2 kb2 hg2))
      clear e1 e2 e3 e4 e5
      go_wp2
      go_roundw
      case rel =>
        refine ⟨r + 1, by omega, by go_num, hgr.trans ?_, xb.drew.grown hg2 (by simp; omega), ?_⟩
        · exact ⟨hg2.os, hg2.tape, hg2.output, hg2.size, hg2.block⟩
        · unfold pasteL
          rw [Hdn.out, Ha.out, Hs.out, Ht.out] at kb2
          rw [List.take_of_length_le (by rw [List.length_take]; have h1 := Hs.out; have h2 := Ht.out; rw [h2] at h1; omega)] at kb2
          exact kb2
      case measure => simp [intOf]; omega
    · obtain rfl : r = ht := by omega
      go_wp2
      exact Great.bodyPost_end0 rfl rfl ⟨rfl, kb, hgr⟩
end Go.Proofs.Ytaedpadkpclldaa
