/- TransportBack. -/
import Derived.Test.YtdnchjmopkhnaaaTrWr
namespace Go.Proofs.Ytdnchjmopkhnaaa
open Go.RowKit

theorem datas_ok {qs : List TA} (h : ∀ x ∈ qs, x.p.ok = true) : ∀ p ∈ datas qs, p.ok = true := by
  intro p hp
  obtain ⟨x, hx, rfl⟩ := List.mem_map.1 hp
  exact h x hx

set_option maxRecDepth 100000 in
set_option maxHeartbeats 2000000 in
theorem law_TransportBack (A : Option Addr) (n c : Nat) (qs : List TA) (w : World) (h : TPks (fun _ => True) (fun _ => True) w A n qs) :
    Calls Try.prog 6 #[.slice A n c] w fun e w' => e = .returned (.bool true) ∧ Below w.heap.size w w' := by
  have H := Lib.hid h
  clear h
  go_enter Try.func6, Try.ntmps6
  go_wp2_with fail
  refine (law_few A n c qs w H.out).mono ?_
  rintro e w1 ⟨B, rfl, hB, hb1⟩
  cases B with
  | false =>
    clear hB
    go_wp2_with fail
    refine (law_awake _).mono ?_
    rintro e w5 ⟨rfl, hb5⟩
    go_wp2_with fail
    go_ret
    exact ⟨rfl, hb1.trans (hb5.mono hb1.size)⟩
  | true =>
    obtain ⟨hn, hok⟩ := hB rfl
    have HOK := Lib.hid hok
    clear hB hok
    go_wp2_with fail
    refine (law_written A n c qs w1 (H.out.ext hb1) hn HOK.out).mono ?_
    rintro e w2 ⟨A2, n2, c2, rfl, hB2, hb2, hk2⟩
    have B2 := hb1.trans (hb2.mono hb1.size)
    have HS := Lib.hid (scanL_cat (datas_ok HOK.out))
    have hn2 : n2 ≤ 5000 := by
      have h1 := hB2.len
      have h2 := cat_take_len HOK.out 12 (Nat.le_refl _)
      rw [List.take_of_length_le (by rw [H.out.1]; exact hn)] at h2
      omega
    have HB2 := Lib.hid hB2
    clear hB2
    go_wp2_with fail
    refine (tr_Scan A2 n2 c2 _ w2 HB2.out hk2 hn2).mono ?_
    rintro e w3 ⟨A3, n3, c3, A4, n4, c4, rs, ds, rfl, hp, hr, hl, e1, e2, hb3⟩
    have B3 := B2.trans (hb3.mono B2.size)
    have e1' : datas rs = datas qs := by rw [e1, HS.out]
    have hn4 : n4 = 0 := by rw [← hl, e2, HS.out]; rfl
    subst hn4
    have hn3 : n3 ≤ 100000 := by
      have h1 := hp.1
      have h2 := congrArg List.length e1'
      simp only [datas, List.length_map] at h2
      have h3 := H.out.1
      omega
    have HP := Lib.hid hp
    have HE := Lib.hid e1'
    clear hp hr hl e1 e2 e1'
    go_wp2_with fail
    refine (law_awake _).mono ?_
    rintro e w4 ⟨rfl, hb4⟩
    have B4 := B3.trans (hb4.mono B3.size)
    go_wp2_with fail
    refine (law_sameAll A3 A n3 c3 n c rs qs w4 (HP.out.ext hb4) (H.out.below B4 (fun _ h _ => h) (fun _ h _ => h)) HE.out hn3).mono ?_
    rintro e w5 ⟨rfl, hb5⟩
    go_wp2_with fail
    go_ret
    exact ⟨rfl, B4.trans (hb5.mono B4.size)⟩
end Go.Proofs.Ytdnchjmopkhnaaa
