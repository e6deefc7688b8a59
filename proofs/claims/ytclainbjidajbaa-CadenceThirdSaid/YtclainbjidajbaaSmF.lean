/- Same and Frames of the reference: frames are equal. -/
import Derived.Test.YtclainbjidajbaaJnR
namespace Go.Proofs.Ytclainbjidajbaa
open Go.RowKit

theorem strB {a b : List Int} (ha : ∀ x ∈ a, 0 ≤ x ∧ x ≤ 255) (hb : ∀ x ∈ b, 0 ≤ x ∧ x ≤ 255) : ((strOfNums a).toList == (strOfNums b).toList) = decide (a = b) := by
  rw [Bool.eq_iff_iff]
  simp only [beq_iff_eq, decide_eq_true_eq]
  constructor
  · intro h
    exact strOfNums_inj ha hb (by rw [← ByteArray.toList_eq, ← ByteArray.toList_eq]; exact h)
  · rintro rfl; rfl

set_option maxRecDepth 100000 in
set_option maxHeartbeats 2000000 in
theorem ref_SameF {p q : Nat → Prop} (x y : FA) (w : World) (hx : FrmOk p w x) (hy : FrmOk q w y) :
    Calls Try.prog 19 #[x.val, y.val] w fun e w' => e = .returned (.bool (decide (x.f = y.f))) ∧ Below w.heap.size w w' := by
  obtain ⟨⟨W, H, Y, U, V⟩, ya, yn, yc, ua, un, uc, va, vn, vc⟩ := x
  obtain ⟨⟨W2, H2, Y2, U2, V2⟩, ya2, yn2, yc2, ua2, un2, uc2, va2, vn2, vc2⟩ := y
  obtain ⟨px, pu, pv, cx1, cx2, cx3⟩ := hx
  obtain ⟨py, pu2, pv2, cy1, cy2, cy3⟩ := hy
  dsimp only at px pu pv py pu2 pv2
  show Calls _ _ #[.agg #[.int .i64 W, .int .i64 H, .slice ya yn yc, .slice ua un uc, .slice va vn vc], .agg #[.int .i64 W2, .int .i64 H2, .slice ya2 yn2 yc2, .slice ua2 un2 uc2, .slice va2 vn2 vc2]] w _
  have hd : decide ((⟨W, H, Y, U, V⟩ : Fr) = ⟨W2, H2, Y2, U2, V2⟩) = (decide (W = W2) && (decide (H = H2) && (decide (Y = Y2) && (decide (U = U2) && decide (V = V2))))) := by
    rw [Bool.eq_iff_iff]; simp
  rw [hd]
  have B0 := ((Below.refl w.heap.size w).alloc (Nat.le_refl _) (.cells #[.int .i64 W, .int .i64 H, .slice ya yn yc, .slice ua un uc, .slice va vn vc] 27)).alloc (by simp) (.cells #[.int .i64 W2, .int .i64 H2, .slice ya2 yn2 yc2, .slice ua2 un2 uc2, .slice va2 vn2 vc2] 27)
  have b1 := (Bx.new w 27 #[.int .i64 W, .int .i64 H, .slice ya yn yc, .slice ua un uc, .slice va vn vc]).alloc (.cells #[.int .i64 W2, .int .i64 H2, .slice ya2 yn2 yc2, .slice ua2 un2 uc2, .slice va2 vn2 vc2] 27)
  have b2 := Bx.new' (w.alloc (.cells #[.int .i64 W, .int .i64 H, .slice ya yn yc, .slice ua un uc, .slice va vn vc] 27)) 27 #[.int .i64 W2, .int .i64 H2, .slice ya2 yn2 yc2, .slice ua2 un2 uc2, .slice va2 vn2 vc2] (w.heap.size + 1) (by simp)
  have px := px.ext B0
  have pu := pu.ext B0
  have pv := pv.ext B0
  have py := py.ext B0
  have pu2 := pu2.ext B0
  have pv2 := pv2.ext B0
  have s1 := strB px.rng py.rng
  have s2 := strB pu.rng pu2.rng
  have s3 := strB pv.rng pv2.rng
  go_enter Try.func19, Try.ntmps19
  go_upto_region 1 with fail
  generalize (w.alloc (.cells #[.int .i64 W, .int .i64 H, .slice ya yn yc, .slice ua un uc, .slice va vn vc] 27)).alloc (.cells #[.int .i64 W2, .int .i64 H2, .slice ya2 yn2 yc2, .slice ua2 un2 uc2, .slice va2 vn2 vc2] 27) = Wx at *
  have h1 := run_convB (P := Try.prog) px 25 5 9 yc Try.underlying25 Try.underlying5 Try.underlying9
  have h2 := run_convB (P := Try.prog) py 25 5 9 yc2 Try.underlying25 Try.underlying5 Try.underlying9
  have h3 := run_convB (P := Try.prog) pu 25 5 9 uc Try.underlying25 Try.underlying5 Try.underlying9
  have h4 := run_convB (P := Try.prog) pu2 25 5 9 uc2 Try.underlying25 Try.underlying5 Try.underlying9
  have h5 := run_convB (P := Try.prog) pv 25 5 9 vc Try.underlying25 Try.underlying5 Try.underlying9
  have h6 := run_convB (P := Try.prog) pv2 25 5 9 vc2 Try.underlying25 Try.underlying5 Try.underlying9
  generalize strOfNums Y = sY at *
  generalize strOfNums Y2 = sY2 at *
  generalize strOfNums U = sU at *
  generalize strOfNums U2 = sU2 at *
  generalize strOfNums V = sV at *
  generalize strOfNums V2 = sV2 at *
  obtain ⟨c0, c1, c2, c3, c4⟩ := b1.cells5
  obtain ⟨d0, d1, d2, d3, d4⟩ := b2.cells5
  have HB := Lib.hid B0
  clear px pu pv py pu2 pv2 b1 b2 B0 hd
  by_cases e1 : W = W2
  · subst e1
    by_cases e2 : H = H2
    · subst e2
      cases hY : decide (Y = Y2) with
      | false =>
        rw [hY] at s1
        have s1p := s1
        simp only [beq_iff_eq, beq_eq_false_iff_ne, ne_eq] at s1p
        go_wp2_with fail
        go_ret
        exact ⟨ret_bool (by simp), HB.out⟩
      | true =>
        rw [hY] at s1
        have s1p := s1
        simp only [beq_iff_eq, beq_eq_false_iff_ne, ne_eq] at s1p
        cases hU : decide (U = U2) with
        | false =>
          rw [hU] at s2
          have s2p := s2
          simp only [beq_iff_eq, beq_eq_false_iff_ne, ne_eq] at s2p
          go_wp2_with fail
          go_ret
          exact ⟨ret_bool (by simp), HB.out⟩
        | true =>
          rw [hU] at s2
          have s2p := s2
          simp only [beq_iff_eq, beq_eq_false_iff_ne, ne_eq] at s2p
          cases hV : decide (V = V2) with
          | false =>
            rw [hV] at s3
            have s3p := s3
            simp only [beq_iff_eq, beq_eq_false_iff_ne, ne_eq] at s3p
            go_wp2_with fail
            go_ret
            exact ⟨ret_bool (by simp), HB.out⟩
          | true =>
            rw [hV] at s3
            have s3p := s3
            simp only [beq_iff_eq, beq_eq_false_iff_ne, ne_eq] at s3p
            go_wp2_with fail
            go_ret
            exact ⟨ret_bool (by simp), HB.out⟩
    · have t2 : (H == H2) = false := by simp [e2]
      go_wp2_with fail
      go_ret
      exact ⟨ret_bool (by simp [e2]), HB.out⟩
  · have t1 : (W == W2) = false := by simp [e1]
    go_wp2_with fail
    go_ret
    exact ⟨ret_bool (by simp [e1]), HB.out⟩

set_option maxRecDepth 100000 in
set_option maxHeartbeats 2000000 in
/-- Frames of two lists that are equal. -/
theorem ref_Frames_eq {p q p' q' : Nat → Prop} (A B : Option Addr) (n c n' c' : Nat) (xs ys : List FA) (w : World) (h : Frs p q w A n xs) (h' : Frs p' q' w B n' ys) (he : frs xs = frs ys) (hn : n ≤ 100000000000000) :
    Calls Try.prog 15 #[.slice A n c, .slice B n' c'] w fun e w' => e = .returned (.bool true) ∧ Below w.heap.size w w' := by
  have hnn : n' = n := by
    have := congrArg List.length he
    simp only [frs, List.length_map] at this
    rw [← h.1, ← h'.1]
    exact this.symm
  subst hnn
  have H := Lib.hid h
  have H' := Lib.hid h'
  have HE := Lib.hid he
  clear h h' he
  have tnn : ((n' : Int) != (n' : Int)) = false := by simp
  go_enter Try.func15, Try.ntmps15
  go_wp2_with fail
  go_loopw [5] (fun i wr => ∃ k : Nat, k ≤ n' ∧ i = .int .i64 (k : Int) ∧ Below w.heap.size w wr) (fun i _ => n' - (intOf i).toNat)
  case atStart => exact ⟨0, Nat.zero_le _, rfl, Below.refl _ _⟩
  case round =>
    obtain ⟨k, hk, rfl, hb⟩ := hrel
    by_cases hlt : k < n'
    · obtain ⟨b, off, x, rfl, hbl, hx, hox, hc0, hc1, hc2, hc3, hc4⟩ := (H.out.ext hb).at_ hlt
      obtain ⟨b2, off2, y, rfl, hbl2, hy, hoy, hd0, hd1, hd2, hd3, hd4⟩ := (H'.out.ext hb).at_ hlt
      have hxy : x.f = y.f := by
        have h1 := frs_at hx
        have h2 := frs_at hy
        rw [HE.out, h2] at h1
        injection h1 with h1
        exact h1.symm
      have i0 : (0 : Int) ≤ (k : Int) := by omega
      have i1 : (k : Int) < (n' : Int) := by omega
      have hcall := fun w' (h : Below wr.drew.heap.size wr.drew w') => ref_SameF x y w' (hox.drew.ext h) (hoy.drew.ext h)
      rw [decide_eq_true hxy] at hcall
      have HC := Lib.hid (hcall wr.drew (Below.refl _ _))
      have HF : Hid (∀ w', Below wr.drew.heap.size wr.drew w' → (w'.cell? ⟨b, off + k * 5, none⟩ = some (.int .i64 x.f.W) ∧ w'.cell? ⟨b, off + k * 5 + 1, none⟩ = some (.int .i64 x.f.H) ∧ w'.cell? ⟨b, off + k * 5 + 2, none⟩ = some (.slice x.ya x.yn x.yc) ∧ w'.cell? ⟨b, off + k * 5 + 3, none⟩ = some (.slice x.ua x.un x.uc) ∧ w'.cell? ⟨b, off + k * 5 + 4, none⟩ = some (.slice x.va x.vn x.vc)) ∧ (w'.cell? ⟨b2, off2 + k * 5, none⟩ = some (.int .i64 y.f.W) ∧ w'.cell? ⟨b2, off2 + k * 5 + 1, none⟩ = some (.int .i64 y.f.H) ∧ w'.cell? ⟨b2, off2 + k * 5 + 2, none⟩ = some (.slice y.ya y.yn y.yc) ∧ w'.cell? ⟨b2, off2 + k * 5 + 3, none⟩ = some (.slice y.ua y.un y.uc) ∧ w'.cell? ⟨b2, off2 + k * 5 + 4, none⟩ = some (.slice y.va y.vn y.vc))) := Lib.hid (fun w' hw =>
        have e : ∀ (bb o : Nat) (v : Value), bb < wr.heap.size → wr.cell? ⟨bb, o, none⟩ = some v → w'.cell? ⟨bb, o, none⟩ = some v := fun bb o v h1 h2 => (hw.cell (p := ⟨bb, o, none⟩) h1).trans h2
        ⟨⟨e _ _ _ hbl hc0, e _ _ _ hbl hc1, e _ _ _ hbl hc2, e _ _ _ hbl hc3, e _ _ _ hbl hc4⟩, e _ _ _ hbl2 hd0, e _ _ _ hbl2 hd1, e _ _ _ hbl2 hd2, e _ _ _ hbl2 hd3, e _ _ _ hbl2 hd4⟩)
      simp only [FA.val] at HC
      clear hx hy hox hoy hxy hcall hc0 hc1 hc2 hc3 hc4 hd0 hd1 hd2 hd3 hd4
      go_wp2_with fail
      go_region_held3 (fun w' => (w'.cell? ⟨b, off + k * 5, none⟩ = some (.int .i64 x.f.W) ∧ w'.cell? ⟨b, off + k * 5 + 1, none⟩ = some (.int .i64 x.f.H) ∧ w'.cell? ⟨b, off + k * 5 + 2, none⟩ = some (.slice x.ya x.yn x.yc) ∧ w'.cell? ⟨b, off + k * 5 + 3, none⟩ = some (.slice x.ua x.un x.uc) ∧ w'.cell? ⟨b, off + k * 5 + 4, none⟩ = some (.slice x.va x.vn x.vc)) ∧ (w'.cell? ⟨b2, off2 + k * 5, none⟩ = some (.int .i64 y.f.W) ∧ w'.cell? ⟨b2, off2 + k * 5 + 1, none⟩ = some (.int .i64 y.f.H) ∧ w'.cell? ⟨b2, off2 + k * 5 + 2, none⟩ = some (.slice y.ya y.yn y.yc) ∧ w'.cell? ⟨b2, off2 + k * 5 + 3, none⟩ = some (.slice y.ua y.un y.uc) ∧ w'.cell? ⟨b2, off2 + k * 5 + 4, none⟩ = some (.slice y.va y.vn y.vc))) (first | with_reducible exact HF.out _ (Below.refl _ _) | with_reducible exact HF.out _ hb3 | go_keep)
        ((go_at_call 19; ((with_reducible refine HC.out.mono ?_); rintro e w3 ⟨rfl, hb3⟩)))
      go_wp2_with fail
      go_roundw
      case rel => exact ⟨k + 1, by omega, by go_num, hb.drew.trans (hb3.mono hb.size)⟩
      case measure => (simp [intOf]; try omega)
    · have hkn : k = n' := by omega
      subst hkn
      go_wp2_with fail
      go_ret
      exact ⟨rfl, hb⟩
end Go.Proofs.Ytclainbjidajbaa
