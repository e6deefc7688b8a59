/- TransportResync. -/
import Derived.Test.YtdnchjmopkhnaaaTrBa
namespace Go.Proofs.Ytdnchjmopkhnaaa
open Go.RowKit
attribute [local go_sem ↓] Go.wp_at_zero Go.wp_at_succ

theorem scan_resync {l : List Int} {qs : List TA} (h : ∀ x ∈ qs, x.p.ok = true) (hx : ∀ y ∈ l, y ≠ 71) (h0 : 0 < l.length) (h1 : 0 < qs.length) :
    scanL (l ++ catL (datas qs)) = (datas qs, [(0, l.length)]) := by
  have hd := datas_ok h
  cases qs with
  | nil => simp at h1
  | cons a qs => exact scanL_pre hx hd h0

set_option maxRecDepth 100000 in
set_option maxHeartbeats 4000000 in
theorem law_TransportResync (A : Option Addr) (n c : Nat) (l : List Int) (A' : Option Addr) (n' c' : Nat) (qs : List TA) (w : World) (hl : Byt (fun _ => True) w A n l) (h : TPks (fun _ => True) (fun _ => True) w A' n' qs) :
    Calls Try.prog 7 #[.slice A n c, .slice A' n' c'] w fun e w' => e = .returned (.bool true) ∧ Below w.heap.size w w' := by
  have H := Lib.hid h
  have HL := Lib.hid hl
  clear h hl
  by_cases h1 : 150 < n
  · go_enter Try.func7, Try.ntmps7
    go_wp2_with fail
    all_goals
      refine (law_awake _).mono ?_
      rintro e w5 ⟨rfl, hb5⟩
      go_wp2_with fail
      go_ret
      exact ⟨rfl, hb5⟩
  by_cases h2 : n' = 0
  · subst h2
    go_enter Try.func7, Try.ntmps7
    go_wp2_with fail
    all_goals
      refine (law_awake _).mono ?_
      rintro e w5 ⟨rfl, hb5⟩
      go_wp2_with fail
      go_ret
      exact ⟨rfl, hb5⟩
  have h2i : ¬ ((n' : Int) = 0) := by omega
  have hn : n ≤ 150 := by omega
  go_enter Try.func7, Try.ntmps7
  go_wp2_with fail
  refine (law_few A' n' c' qs w H.out).mono ?_
  rintro e w1 ⟨B, rfl, hB, hb1⟩
  cases B with
  | false =>
    clear hB
    go_wp2_with fail
    refine (law_awake _).mono ?_
    rintro e w5 ⟨rfl, hb5⟩
    go_wp2_with fail
    go_ret
    exact ⟨rfl, hb1.trans (hb5.mono hb1.size)⟩
  | true =>
    obtain ⟨hn', hok⟩ := hB rfl
    have HOK := Lib.hid hok
    clear hB hok
    go_wp2_with fail
    go_loopw [5] (fun i wr => ∃ k : Nat, k ≤ n ∧ i = .int .i64 (k : Int) ∧ (∀ j x, j < k → l[j]? = some x → x ≠ 71) ∧ Below w.heap.size w wr) (fun i _ => n - (intOf i).toNat)
    case atStart => exact ⟨0, Nat.zero_le _, rfl, fun j x hj => absurd hj (Nat.not_lt_zero _), hb1⟩
    case round =>
      obtain ⟨k, hk, rfl, hno, hb⟩ := hrel
      have HNO := Lib.hid hno
      clear hno
      by_cases hlt : k < n
      · obtain ⟨b, off, y, rfl, _, hbl, hy, hy0, hy1, hc0⟩ := (HL.out.ext hb).at_ hlt
        have HY := Lib.hid hy
        have i0 : (0 : Int) ≤ (k : Int) := by omega
        have i1 : (k : Int) < (n : Int) := by omega
        clear hy
        by_cases h71 : y = 71
        · subst h71
          go_wp2_with fail
          refine (law_awake _).mono ?_
          rintro e w5 ⟨rfl, hb5⟩
          go_wp2_with fail
          go_ret
          exact ⟨rfl, hb.trans (hb5.mono hb.size)⟩
        · go_wp2_with fail
          go_roundw
          case rel =>
            refine ⟨k + 1, by omega, by go_num, fun j z hj hz => ?_, hb⟩
            rcases Nat.lt_succ_iff_lt_or_eq.1 hj with h | rfl
            · exact HNO.out j z h hz
            · rw [HY.out] at hz
              injection hz with hz
              subst hz
              exact h71
          case measure => (simp [intOf]; try omega)
      · have hkn : k = n := by omega
        subst hkn
        rename_i wr
        have HNO' := Lib.hid (mem_of_idx HL.out.len HNO.out)
        clear hb1
        go_wp2_with fail
        refine (law_written A' n' c' qs _ (H.out.ext hb) hn' HOK.out).mono ?_
        rintro e w2 ⟨A2, n2, c2, rfl, hB2, hb2, hk2⟩
        have B2 := hb.trans (hb2.mono hb.size)
        have hn2 : n2 ≤ 2256 := by
          have h1 := hB2.len
          have h2 := cat_take_len HOK.out 12 (Nat.le_refl _)
          rw [List.take_of_length_le (by rw [H.out.1]; exact hn')] at h2
          omega
        have HB2 := Lib.hid hB2
        have L2 := Lib.hid (HL.out.ext B2)
        have z2 := B2.size
        clear hB2 hb2 hk2
        have tok : True := trivial
        go_wp2_with (first
          | (at_builtin; have _t := tok; go_must (refine wpList_appB _ rfl _ _ 22 rfl 5 Try.underlying22 Try.infoB w2.heap.size _ [] rfl (OwB.lit w2 w2.heap.size 5 [] 0 rfl rfl rfl (Nat.le_refl _) (by omega)) A k c _ rfl (L2.out.alloc _) (by simp; omega) (by simp) ?_; intro v6 w6 ho6 hg6 hat6; have B6 : Below w2.heap.size w2 w6 := ((Below.refl _ _).alloc (Nat.le_refl _) _).grown hg6 (by simp) (fun k hk => ((OwB.lit w2 w2.heap.size 5 [] 0 rfl rfl rfl (Nat.le_refl _) (by omega)).lt k hk).1); have z6 := B6.size; clear tok))
          | (at_builtin; go_must (refine wpList_appB _ rfl _ _ 22 rfl 5 Try.underlying22 Try.infoB w2.heap.size _ _ rfl ho6 A2 n2 c2 _ rfl (HB2.out.ext B6) (by have := HL.out.len; simp; omega) z6 ?_; intro v7 w7 ho7 hg7 hat7)))
        have B7 : Below w2.heap.size w2 w7 := B6.grown hg7 z6 (fun k hk => (ho6.lt k hk).1)
        rw [List.nil_append] at ho7
        have R7 : ∀ x ∈ l ++ catL (datas qs), 0 ≤ x ∧ x ≤ 255 := by
          intro x hx
          rcases List.mem_append.1 hx with hx | hx
          · exact HL.out.rng x hx
          · exact HB2.out.rng x hx
        obtain ⟨A7, c7, hv7, hc7⟩ := ho7.slice
        subst hv7
        have hB7 := ho7.byt (p := fun _ => True) (fun _ _ => trivial) R7
        have hl7 : (l ++ catL (datas qs)).length = k + n2 := by rw [List.length_append, HL.out.len, HB2.out.len]
        rw [hl7] at hB7 hc7 ⊢
        have B7' := B2.trans (B7.mono z2)
        refine (tr_Scan A7 (k + n2) c7 _ w7 hB7 hc7 (by omega)).mono ?_
        rintro e w3 ⟨A3, n3, c3, A4, n4, c4, rs, ds, rfl, hp, hr, hlen, e1, e2, hb3⟩
        have B3 := B7'.trans (hb3.mono B7'.size)
        clear hB7 ho7 ho6 hg6 hg7 hat6 hat7 R7
        by_cases hk0 : k = 0
        · subst hk0
          have hnil : l = [] := List.eq_nil_of_length_eq_zero HL.out.len
          subst hnil
          have HS := scanL_cat (datas_ok HOK.out)
          rw [List.nil_append] at e1 e2
          have e1' : datas rs = datas qs := by rw [e1, HS]
          have hn4 : n4 = 0 := by rw [← hlen, e2, HS]; rfl
          subst hn4
          have hn3 : n3 ≤ 100000 := by
            have h1 := hp.1
            have h2 := congrArg List.length e1'
            simp only [datas, List.length_map] at h2
            have h3 := H.out.1
            omega
          have HP := Lib.hid hp
          have HE := Lib.hid e1'
          clear hp hr hlen e1 e2 e1' HS
          go_wp2_with fail
          refine (law_awake _).mono ?_
          rintro e w4 ⟨rfl, hb4⟩
          have B4 := B3.trans (hb4.mono B3.size)
          go_wp2_with fail
          refine (law_sameAll A3 A' n3 c3 n' c' rs qs w4 (HP.out.ext hb4) (H.out.below B4 (fun _ h _ => h) (fun _ h _ => h)) HE.out hn3).mono ?_
          rintro e w5 ⟨rfl, hb5⟩
          go_wp2_with fail
          go_ret
          exact ⟨rfl, B4.trans (hb5.mono B4.size)⟩
        · have hk0i : ¬ ((k : Int) = 0) := by omega
          have HS := scan_resync HOK.out HNO'.out (by rw [HL.out.len]; omega) (by rw [H.out.1]; omega)
          have e1' : datas rs = datas qs := by rw [e1, HS]
          have e2' : ds = [(0, k)] := by rw [e2, HS, HL.out.len]
          subst e2'
          have hn4 : n4 = 1 := by rw [← hlen]; rfl
          subst hn4
          have hn3 : n3 ≤ 100000 := by
            have h1 := hp.1
            have h2 := congrArg List.length e1'
            simp only [datas, List.length_map] at h2
            have h3 := H.out.1
            omega
          have HP := Lib.hid hp
          have HR := Lib.hid hr
          have HE := Lib.hid e1'
          clear hp hr hlen e1 e2 e1' HS
          go_wp2_with fail
          refine (law_awake _).mono ?_
          rintro e w4 ⟨rfl, hb4⟩
          have B4 := B3.trans (hb4.mono B3.size)
          go_wp2_with fail
          refine (law_sameAll A3 A' n3 c3 n' c' rs qs w4 (HP.out.ext hb4) (H.out.below B4 (fun _ h _ => h) (fun _ h _ => h)) HE.out hn3).mono ?_
          rintro e w5 ⟨rfl, hb5⟩
          obtain ⟨b, off, x, rfl, hbl, hx, hc1, hc2⟩ := df_at ((HR.out.ext hb4).ext hb5) rfl (k := 0) (by omega)
          have hxx : x = (0, k) := by simpa using hx.symm
          subst hxx
          clear hx
          have hd1 : w5.cell? ⟨b, off, none⟩ = some (.int .i64 0) := by simpa using hc1
          have hd2 : w5.cell? ⟨b, off + 1, none⟩ = some (.int .i64 (k : Int)) := by simpa using hc2
          go_wp2_with fail
          go_ret
          exact ⟨rfl, B4.trans (hb5.mono B4.size)⟩
end Go.Proofs.Ytdnchjmopkhnaaa
