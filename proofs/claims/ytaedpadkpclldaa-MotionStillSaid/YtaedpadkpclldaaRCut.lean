/- The contract of cut of the reference: a rectangle is copied into a row of the call's own. -/
import Derived.Test.YtaedpadkpclldaaPasteM
import Derived.Test.YtaedpadkpclldaaSetB
namespace Go.Proofs.Ytaedpadkpclldaa
open Go.RowKit

theorem grown_set {w wr : World} {g : Nat} {k : Nat} {u : Value} (h : w.grownBy wr (some g)) : w.grownBy (wr.setCell ⟨g, k, none⟩ u) (some g) :=
  ⟨h.os, h.tape, h.output, by rw [World.size_setCell]; exact h.size, fun b hb hne => (Below.heap_setCell wr ⟨g, k, none⟩ u b (fun e => hne (by rw [e]))).trans (h.block b hb hne)⟩

set_option maxHeartbeats 4000000 in
theorem ref_cut {p : Nat → Prop} (g dn dc tw tx ty fw fx fy wd ht B : Nat) (A : Option Addr) (n c : Nat) (m l : List Int) (w : World) (ho : OwB w B 5 (.slice (some ⟨g, 0, none⟩) dn dc) m) (hl : Byt p w A n l) (hnp : ¬ p g)
    (b1 : tw ≤ 64) (b2 : tx ≤ 64) (b3 : ty ≤ 64) (b4 : fw ≤ 64) (b5 : fx ≤ 64) (b6 : fy ≤ 64) (b7 : wd ≤ 64) (b8 : ht ≤ 64)
    (f1 : ∀ r, r < ht → ty * tw + tx + r * tw + wd ≤ m.length) (f2 : ∀ r, r < ht → fy * fw + fx + r * fw + wd ≤ l.length) :
    Calls Try.prog 36 #[.slice (some ⟨g, 0, none⟩) dn dc, .int .i64 tw, .int .i64 tx, .int .i64 ty, .slice A n c, .int .i64 fw, .int .i64 fx, .int .i64 fy, .int .i64 wd, .int .i64 ht] w
      (fun e w' => e = .returned (.tuple #[]) ∧ OwB w' B 5 (.slice (some ⟨g, 0, none⟩) dn dc) (pasteL m (cutL l (fy * fw + fx) fw wd ht) (ty * tw + tx) tw wd ht) ∧ w.grownBy w' (some g)) := by
  have hdn : dn = m.length := by
    rcases ho.2 with ⟨h, _⟩ | ⟨g', cap, cur, h, _⟩
    · cases h
    · injection h
  have HF1 := Lib.hid f1
  have HF2 := Lib.hid f2
  have HDN := Lib.hid hdn
  clear f1 f2 hdn
  obtain ⟨fr, hfr⟩ : ∃ fr, fr = ty * tw + tx := ⟨_, rfl⟩
  obtain ⟨ff, hff⟩ : ∃ ff, ff = fy * fw + fx := ⟨_, rfl⟩
  rw [← hfr] at HF1 ⊢
  rw [← hff] at HF2 ⊢
  have HFR := Lib.hid hfr
  have HFF := Lib.hid hff
  clear hfr hff
  go_enter Try.func36, Try.ntmps36
  go_wp2_with fail
  go_loopw [20] (fun i wr => ∃ r : Nat, r ≤ ht ∧ i = .int .i64 r ∧ w.grownBy wr (some g) ∧ OwB wr B 5 (.slice (some ⟨g, 0, none⟩) dn dc) (pasteL m (cutL l ff fw wd ht) fr tw wd r)) (fun i _ => ht - (intOf i).toNat)
  case atStart => exact ⟨0, Nat.zero_le _, rfl, World.grownBy.refl w _, ho⟩
  case round =>
    obtain ⟨r, hr, rfl, hg, hor⟩ := hrel
    by_cases hlt : r < ht
    · have hlt' : (r : Int) < (ht : Int) := by omega
      obtain ⟨K, hK⟩ : ∃ K, K = (ty + r) * tw := ⟨_, rfl⟩
      obtain ⟨L, hL⟩ : ∃ L, L = (fy + r) * fw := ⟨_, rfl⟩
      have bK : K ≤ 128 * 64 := by rw [hK]; exact Nat.mul_le_mul (by omega) b1
      have bL : L ≤ 128 * 64 := by rw [hL]; exact Nat.mul_le_mul (by omega) b4
      have eK : ((ty : Int) + (r : Int)) * (tw : Int) = (K : Int) := by rw [hK]; push_cast; rfl
      have eL : ((fy : Int) + (r : Int)) * (fw : Int) = (L : Int) := by rw [hL]; push_cast; rfl
      have sK : K + tx = fr + r * tw := by rw [hK, Nat.add_mul, HFR.out]; omega
      have sL : L + fx = ff + r * fw := by rw [hL, Nat.add_mul, HFF.out]; omega
      have HSK := Lib.hid sK
      have HSL := Lib.hid sL
      have HEK := Lib.hid eK
      have HEL := Lib.hid eL
      clear hK hL sK sL eK eL
      have h0 : OwB wr B 5 (.slice (some ⟨g, 0, none⟩) dn dc) (pasteJ m l fr tw ff fw wd ht r 0) := by rw [pasteJ_zero]; exact hor
      go_wp2_with fail
      obtain ⟨wo, hwo⟩ : ∃ wo : World, wo = wr := ⟨_, rfl⟩
      go_loopw [21] (fun i wr => ∃ j : Nat, j ≤ wd ∧ i = .int .i64 j ∧ w.grownBy wr (some g) ∧ OwB wr B 5 (.slice (some ⟨g, 0, none⟩) dn dc) (pasteJ m l fr tw ff fw wd ht r j)) (fun i _ => wd - (intOf i).toNat)
      case atStart => exact ⟨0, Nat.zero_le _, rfl, hg, h0⟩
      case round =>
        clear hg hor h0
        obtain ⟨j, hj, rfl, hg, hor⟩ := hrel
        by_cases hlj : j < wd
        · have hlj' : (j : Int) < (wd : Int) := by omega
          have hf1 := HF1.out r hlt
          have hf2 := HF2.out r hlt
          have hlen := pasteJ_len (l := l) (ffr := ff) (fst := fw) hlt hj HF1.out
          have hk1 : K + tx + j < (pasteJ m l fr tw ff fw wd ht r j).length := by rw [hlen, HSK.out]; omega
          have hk2 : L + fx + j < n := by rw [HSL.out, ← hl.len]; omega
          have hlr := hl.grown hg (fun b hb _ => fun e => hnp (by injection e with e; exact e ▸ hb))
          obtain ⟨b, off, x, rfl, hpb, hbl, hx, hx0, hx1, hcx⟩ := hlr.at_ hk2
          obtain ⟨g2, cap2, hv2, hBg, hgl, _, hcells, hfz⟩ := hor.form (by omega)
          injection hv2 with hv3 hv4 hv5
          injection hv3 with hv3
          injection hv3 with hv3
          subst hv3
          obtain ⟨z, hz⟩ : ∃ z, (pasteJ m l fr tw ff fw wd ht r j)[K + tx + j]? = some z := ⟨_, List.getElem?_eq_getElem hk1⟩
          have hcz := hcells _ _ hz
          have hfzz := hfz (K + tx + j)
          have hdlt : K + tx + j < dn := by rw [HDN.out, ← hlen]; exact hk1
          have hnx := hor.set_ (K + tx + j) hk1 x
          have hgd : l.getD (ff + r * fw + j) 0 = x := by rw [← HSL.out, List.getD_eq_getElem?_getD, hx]; rfl
          have hst := pasteJ_step (m := m) (l := l) (ffr := ff) (fst := fw) hlt hlj HF1.out
          rw [hgd, ← HSK.out] at hst
          rw [← hst] at hnx
          have HNX := Lib.hid hnx
          have eK := HEK.out
          have eL := HEL.out
          clear hnx hst hgd hz hcells hfz hlen hv4 hv5 hlr hx
          go_wp2_with fail
          clear eK eL
          go_roundw
          case rel => exact ⟨j + 1, by omega, by go_num, grown_set hg, HNX.out⟩
          case measure => simp [intOf]; omega
        · obtain rfl : j = wd := by omega
          have hlj' : ¬ (j : Int) < (j : Int) := by omega
          go_wp2_with fail
          go_roundw
          case rel => exact ⟨r + 1, by omega, by go_num, hg, by rw [← pasteJ_row]; exact hor⟩
          case measure => simp [intOf]; omega
    · obtain rfl : r = ht := by omega
      have hlt' : ¬ (r : Int) < (r : Int) := by omega
      go_wp2_with fail
      refine Great.bodyPost_end0 rfl rfl ?_
      exact ⟨rfl, hor, hg⟩
end Go.Proofs.Ytaedpadkpclldaa
