/- The reference's Payload. -/
import Derived.Test.YtdnchjmopkhnaaaPayM
namespace Go.Proofs.Ytdnchjmopkhnaaa
open Go.RowKit

def PyRel (w : World) (l : List Int) (n : Nat) (i : Value) (wr : World) : Prop :=
  ∃ k : Nat, k ≤ n + 1 ∧ i = .int .i64 (k : Int) ∧ Bk wr 5 w.heap.size (payS l k) ∧ Below w.heap.size w wr

theorem py_on {w wr : World} {l : List Int} {n k q r : Nat} (hB : Bk wr 5 w.heap.size (payS l k)) (hb : Below w.heap.size w wr)
    (ho : byteV l (k + 1) q = byteV l k q + 128 / 2 ^ r ∧ bits .or .u8 (byteV l k q) (128 / 2 ^ r) = byteV l k q + 128 / 2 ^ r) (hp : payS l (k + 1) = (payS l k).set q (byteV l k q + 128 / 2 ^ r)) (hk : k + 1 ≤ n + 1) :
    PyRel w l n (.int .i64 ((k : Int) + 1)) (wr.setCell ⟨w.heap.size, q, none⟩ (.int .u8 (bits .or .u8 (byteV l k q) (128 / 2 ^ r)))) := by
  refine ⟨k + 1, hk, by go_num, ?_, hb.setCell (Nat.le_refl _) _⟩
  rw [ho.2, hp]
  exact hB.set_ q _

set_option maxRecDepth 100000 in
set_option maxHeartbeats 1000000 in
theorem ref_Payload {p : Nat → Prop} (A : Option Addr) (n c : Nat) (l : List Int) (w : World) (h : Byt p w A n l) (hn : n ≤ 1000) :
    Calls Try.prog 54 #[.slice A n c] w fun e w' => e = .returned (.slice (some ⟨w.heap.size, 0, none⟩) (n / 8 + 1) (n / 8 + 1)) ∧ Bk w' 5 w.heap.size (payL l) ∧ Below w.heap.size w w' := by
  have mk1 := run_mkBn (P := Try.prog) (t := 22) Try.underlying22 Try.infoB (n / 8 + 1) (n / 8 + 1) (Nat.le_refl _) (by omega)
  obtain ⟨N, hN⟩ : ∃ N, N = n / 8 + 1 := ⟨_, rfl⟩
  rw [← hN] at mk1 ⊢
  have q0 : (n : Int) / 8 + 1 = (N : Int) := by omega
  have HN := Lib.hid hN
  clear hN
  have hl := h.len
  have HL := Lib.hid hl
  have H := Lib.hid h
  clear hl h
  go_enter Try.func54, Try.ntmps54
  go_wp2
  clear q0 mk1
  go_loopw [4] (fun i wr => PyRel w l n i wr) (fun i _ => n + 1 - (intOf i).toNat)
  case atStart =>
    refine ⟨0, by omega, rfl, ?_, (Below.refl _ _).alloc (Nat.le_refl _) _⟩
    rw [payS_zero, HL.out, ← HN.out]
    exact Bk.made w _ _
  case round =>
    obtain ⟨k, hk, rfl, hB, hb⟩ := hrel
    have hz := hb.size
    by_cases hkn : k ≤ n
    · obtain ⟨q, hq⟩ : ∃ q : Nat, q = k / 8 := ⟨_, rfl⟩
      obtain ⟨r, hr⟩ : ∃ r : Nat, r = k % 8 := ⟨_, rfl⟩
      have q1 : (k : Int) / 8 = (q : Int) := by omega
      have r1 : (k : Int) % 8 = (r : Int) := by omega
      have rb : r < 8 := by omega
      have qb : q < N := by have := HN.out; omega
      have hcell := hB.cell q
      rw [payS_at l k q (by rw [HL.out, ← HN.out]; exact qb)] at hcell
      simp only [Option.map_some] at hcell
      have hfr := hB.frozen q
      have hbr := byteV_rng l k q
      by_cases hkl : k = n
      · subst hkl
        have bb : bitB l k = true := by simp [bitB, HL.out]
        have HO := Lib.hid (byteV_on l k bb)
        have HP := Lib.hid (payS_on l k bb)
        rw [← hq, ← hr] at HO HP
        have HQ := Lib.hid hq
        have HR := Lib.hid hr
        clear hq hr
        go_wp2_with fail
        go_roundw
        case rel => exact py_on hB hb HO.out HP.out (by omega)
        case measure => (simp [intOf]; try omega)
      · have hlt : k < n := by omega
        obtain ⟨b, off, x, rfl, _, hbl, hx, hx0, hx1, hc⟩ := H.out.at_ hlt
        have hcx := (hb.cell (p := ⟨b, off + k, none⟩) hbl).trans hc
        have hne : b ≠ w.heap.size := by omega
        clear hc
        by_cases hx1 : x = 1
        · subst hx1
          have bb : bitB l k = true := by simp [bitB, hx]
          have HO := Lib.hid (byteV_on l k bb)
          have HP := Lib.hid (payS_on l k bb)
          rw [← hq, ← hr] at HO HP
          clear hq hr hx
          go_wp2_with fail
          go_roundw
          case rel => exact py_on hB hb HO.out HP.out (by omega)
          case measure => (simp [intOf]; try omega)
        · have bb : bitB l k = false := by simp [bitB, hx, HL.out, hkl, hx1]
          have HP := Lib.hid (payS_off l k bb)
          clear hq hr hx
          have t1 : (x == 1) = false := by simp [hx1]
          go_wp2_with fail
          go_roundw
          case rel => exact ⟨k + 1, by omega, by go_num, by rw [HP.out]; exact hB, hb⟩
          case measure => (simp [intOf]; try omega)
    · have hkn1 : k = n + 1 := by omega
      have HK := Lib.hid hkn1
      clear hkn1
      go_wp2_with fail
      go_ret
      refine ⟨rfl, ?_, hb⟩
      unfold payL
      rw [HL.out, ← HK.out]
      exact hB

end Go.Proofs.Ytdnchjmopkhnaaa
