/- loudness.Peak. -/
import Derived.Test.YtcgejbnmbamchaaLdB
namespace Go.Proofs.Ytcgejbnmbamchaa
open Go.RowKit
attribute [local go_sem ↓] run_max_mm

theorem absI_bound {x : Int} (h : -32768 ≤ x ∧ x ≤ 32767) : 0 ≤ absI x ∧ absI x ≤ 32768 := by unfold absI; omega
theorem peakC_snoc (m : Int) (l : List Int) (x : Int) : peakC m (l ++ [x]) = max (peakC m l) (absI x) := by simp [peakC]
theorem peakC_bound : ∀ {l : List Int} {m : Int}, Smp l → 0 ≤ m ∧ m ≤ 32768 → 0 ≤ peakC m l ∧ peakC m l ≤ 32768
  | [], m, _, hm => hm
  | x :: l, m, h, hm => by
    have h1 := absI_bound (h x (by simp))
    exact peakC_bound (l := l) (m := max m (absI x)) (fun y hy => h y (by simp [hy])) (by omega)
theorem peakL_snoc (X : Snd) (c : List Int) : peakL (X ++ [c]) = peakC (peakL X) c := by simp [peakL]
theorem peakFold_bound : ∀ {X : Snd} {m : Int}, (∀ c ∈ X, Smp c) → 0 ≤ m ∧ m ≤ 32768 → 0 ≤ X.foldl peakC m ∧ X.foldl peakC m ≤ 32768
  | [], m, _, hm => hm
  | c :: X, m, h, hm => peakFold_bound (X := X) (m := peakC m c) (fun d hd => h d (by simp [hd])) (peakC_bound (h c (by simp)) hm)
theorem peakL_bound {X : Snd} (h : ∀ c ∈ X, Smp c) : 0 ≤ peakL X ∧ peakL X ≤ 32768 := peakFold_bound h (by omega)
theorem peakF_bound {X : Snd} (h : ∀ c ∈ X, Smp c) : 0 ≤ peakF X ∧ peakF X ≤ 32768 := by
  unfold peakF
  split
  · exact peakL_bound h
  · omega
def PkRel (w : World) (X : Snd) (i acc : Value) (wr : World) : Prop :=
  ∃ (k m : Nat) (z : Int), i = .int .i64 (k : Int) ∧ k ≤ X.length ∧ acc = .int .i64 z ∧ z = peakL (X.take k) ∧ wr = w.drewN m
def PkRel2 (w : World) (z0 : Int) (l : List Int) (i acc : Value) (wr : World) : Prop :=
  ∃ (s m : Nat) (z : Int), i = .int .i64 (s : Int) ∧ s ≤ l.length ∧ acc = .int .i64 z ∧ z = peakC z0 (l.take s) ∧ wr = w.drewN m

set_option maxRecDepth 100000 in
set_option maxHeartbeats 2000000 in
theorem ld_Peak {p : Nat → Prop} (A : Option Addr) (n c : Nat) (xs : List Ch) (w : World) (h : Pcm p w A n xs) :
    Calls Try.prog 17 #[.slice A n c] w fun e w' => e = .returned (.int .i64 (peakF (sndOf xs))) ∧ ∃ m, w' = w.drewN m := by
  obtain ⟨X, hX⟩ : ∃ X, X = sndOf xs := ⟨_, rfl⟩
  have HP := Lib.hid h
  have HX := Lib.hid hX
  have HSM : Hid (∀ c ∈ X, Smp c) := Lib.hid (by rw [hX]; exact h.smp)
  have HSL : Hid (X.length = n) := Lib.hid (by rw [hX]; exact h.slen)
  rw [← hX]
  clear h hX
  go_enter Try.func17, Try.ntmps17
  go_wp2_with fail
  refine (ld_proper A n c xs _ HP.out).mono ?_
  rintro e w1 ⟨rfl, m, rfl⟩
  rw [← HX.out]
  cases hp : properB X with
  | false =>
    have hz : peakF X = 0 := by unfold peakF; rw [hp]; rfl
    have HZ := Lib.hid hz
    clear hz
    go_wp2_with fail
    go_ret
    exact ⟨ret_i64 HZ.out.symm, m, rfl⟩
  | true =>
    have hz : peakF X = peakL X := by unfold peakF; rw [hp]; rfl
    have HZF := Lib.hid hz
    have HPR := Lib.hid (proper_spec hp)
    clear hz hp
    have hn4 : n ≤ 4 := by have := HPR.out.2.1; rwa [HSL.out] at this
    obtain ⟨N, hN⟩ : ∃ N, N = wide X := ⟨_, rfl⟩
    have hNb : N ≤ 1048576 := by rw [hN]; exact HPR.out.2.2.1
    have HN := Lib.hid hN
    clear hN
    go_wp2_with fail
    go_loopw [13, 3] (fun i acc wr => PkRel w X i acc wr) (fun i _ _ => n - (intOf i).toNat)
    case atStart => exact ⟨0, m, 0, rfl, Nat.zero_le _, rfl, rfl, rfl⟩
    case round =>
      obtain ⟨k, m2, z, rfl, hk, rfl, hz, rfl⟩ := hrel
      rw [HSL.out] at hk
      have hzb := peakL_bound (X := X.take k) (fun c hc => HSM.out c (List.mem_of_mem_take hc))
      rw [← hz] at hzb
      have HZ := Lib.hid hz
      clear hz
      by_cases hkn : k < n
      · obtain ⟨b, off, x, rfl, _, hb, hx, hc, hi, hs, hxc, hxl⟩ := (HP.out.drewN m2).at_ hkn
        have hxl' : X[k]? = some x.l := by rw [HX.out]; exact hxl
        have hxn : x.n = N := by
          have := HPR.out.2.2.2 x.l (List.mem_of_getElem? hxl')
          rw [← HN.out, hi.len] at this
          exact this
        have hxll := hi.len
        rw [hxn] at hc hxc hi hxll
        have HI := Lib.hid hi
        have HS := Lib.hid hs
        have HLL := Lib.hid hxll
        have HUP : Hid (peakL (X.take (k + 1)) = peakC z x.l) := Lib.hid (by rw [take_snoc_at hxl', peakL_snoc, HZ.out])
        clear hx hi hs hxl hxl' hxll
        go_wp2_with fail
        go_loopw [19, 3] (fun i acc w2 => PkRel2 (w.drewN m2) z x.l i acc w2) (fun i _ _ => N - (intOf i).toNat)
        case atStart => exact ⟨0, 0, z, rfl, Nat.zero_le _, rfl, rfl, rfl⟩
        case round =>
          obtain ⟨s, m3, z3, rfl, hsN, rfl, hz3, rfl⟩ := hrel
          rw [HLL.out] at hsN
          have hz3b := peakC_bound (l := x.l.take s) (m := z) (fun y hy => HS.out y (List.mem_of_mem_take hy)) hzb
          rw [← hz3] at hz3b
          have HZ3 := Lib.hid hz3
          clear hz3
          by_cases hsl : s < N
          · obtain ⟨b1, off1, y, hA1, _, hb1, hy, hcy⟩ := HI.out.at_ hsl
            rw [hA1]
            have hyb := HS.out _ (List.mem_of_getElem? hy)
            have hcy' : (w.drewN (m2 + m3)).cell? ⟨b1, off1 + s, none⟩ = some (.int .i16 y) := hcy
            have hab := absI_bound hyb
            have HY := Lib.hid hy
            clear hcy hy
            go_wp2_with fail
            refine (ld_absolute y _ hyb).mono ?_
            rintro e w4 ⟨rfl, rfl⟩
            go_wp2_with fail
            go_roundw
            case rel =>
              refine ⟨s + 1, m3, max z3 (absI y), by go_num, by rw [HLL.out]; omega, by go_num, ?_, (World.drewN_drewN _ _ _).symm⟩
              rw [take_snoc_at HY.out, peakC_snoc, ← HZ3.out]
            case measure => simp [intOf]; omega
          · obtain rfl : s = N := by omega
            have hz4 : z3 = peakL (X.take (k + 1)) := by rw [HUP.out, HZ3.out, List.take_of_length_le (by rw [HLL.out]; omega)]
            go_wp2_with fail
            go_roundw
            case rel => exact ⟨k + 1, m2 + m3, z3, by go_num, by rw [HSL.out]; omega, rfl, hz4, rfl⟩
            case measure => simp [intOf]; omega
      · obtain rfl : k = n := by omega
        have hz2 : z = peakL X := by rw [HZ.out, List.take_of_length_le (by rw [HSL.out]; omega)]
        have HZ2 := Lib.hid hz2
        clear hz2
        go_wp2_with fail
        go_ret
        exact ⟨ret_i64 (HZ2.out.trans HZF.out.symm), m2, rfl⟩
end Go.Proofs.Ytcgejbnmbamchaa
