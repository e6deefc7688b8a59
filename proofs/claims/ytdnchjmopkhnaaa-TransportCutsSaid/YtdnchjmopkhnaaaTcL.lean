/- TransportCuts. -/
import Derived.Test.YtdnchjmopkhnaaaTcJ
import Derived.Test.YtdnchjmopkhnaaaTcS
import Derived.Test.YtdnchjmopkhnaaaTrSa
namespace Go.Proofs.Ytdnchjmopkhnaaa
open Go.RowKit

set_option maxRecDepth 100000 in
set_option maxHeartbeats 2000000 in
theorem law_Cuts_no (pid cnt : Int) (A : Option Addr) (n c : Nat) (l : List Int) (clk : Int) (w : World) (hl : Byt (fun _ => True) w A n l) (hc : n ≤ c) (hn : n ≤ 2000) (hno : n = 0 ∨ validT pid cnt false clk 0 = false) :
    Calls Try.prog 8 #[.int .i64 pid, .int .i64 cnt, .slice A n c, .int .i64 clk] w fun e w' => e = .returned (.bool true) ∧ Below w.heap.size w w' := by
  have d1 : decide ((2000 : Int) < (n : Int)) = false := decide_eq_false (by omega)
  have H := Lib.hid hl
  have HNO := Lib.hid hno
  clear hl hno
  go_enter Try.func8, Try.ntmps8
  go_wp2_with fail
  refine (tr_TCut_no pid cnt A n c clk w HNO.out).mono ?_
  rintro e w1 ⟨rfl, hb1⟩
  go_wp2_with fail
  refine (ref_TCut_no pid cnt A n c l clk w1 (H.out.ext hb1) hc HNO.out).mono ?_
  rintro e w2 ⟨rfl, hb2⟩
  have B2 := hb1.trans (hb2.mono hb1.size)
  clear hb1 hb2
  go_wp2_with fail
  refine (law_sameAll (p := fun _ => True) (q := fun _ => True) (p' := fun _ => True) (q' := fun _ => True) none none 0 0 0 0 [] [] w2 ⟨rfl, ⟨rfl, fun h => absurd h (Nat.lt_irrefl 0)⟩, fun x hx => by cases hx⟩ ⟨rfl, ⟨rfl, fun h => absurd h (Nat.lt_irrefl 0)⟩, fun x hx => by cases hx⟩ rfl (by omega)).mono ?_
  rintro e w3 ⟨rfl, hb3⟩
  have B3 := B2.trans (hb3.mono B2.size)
  clear B2 hb3
  go_wp2_with fail
  refine (law_awake _).mono ?_
  rintro e w4 ⟨rfl, hb4⟩
  have B4 := B3.trans (hb4.mono B3.size)
  clear B3 hb4
  go_wp2_with fail
  go_ret
  exact ⟨rfl, B4⟩

set_option maxRecDepth 100000 in
set_option maxHeartbeats 2000000 in
theorem law_Cuts_yes (pid cnt : Int) (A : Option Addr) (n c : Nat) (l : List Int) (clk : Int) (w : World) (hl : Byt (fun _ => True) w A n l) (hc : n ≤ c) (hn : n ≤ 2000) (hn0 : 0 < n) (hv : validT pid cnt false clk 0 = true) :
    Calls Try.prog 8 #[.int .i64 pid, .int .i64 cnt, .slice A n c, .int .i64 clk] w fun e w' => e = .returned (.bool true) ∧ Below w.heap.size w w' := by
  have d1 : decide ((2000 : Int) < (n : Int)) = false := decide_eq_false (by omega)
  have H := Lib.hid hl
  have HV := Lib.hid hv
  have hr1 : 1 ≤ (roomT clk).toNat := by have := roomT_cases clk; omega
  have HR1 := Lib.hid hr1
  clear hl hv hr1
  go_enter Try.func8, Try.ntmps8
  go_wp2_with fail
  refine (tr_TCut_yes pid cnt A n c l clk w H.out hc (by omega) hn0 HV.out).mono ?_
  rintro e w1 ⟨A1, m1, c1, ks, N, rfl, hp1, hL1, hd1, hb1⟩
  have HP1 := Lib.hid hp1
  have HL1 := Lib.hid hL1
  have HD1 := Lib.hid hd1
  clear hp1 hL1 hd1
  go_wp2_with fail
  refine (ref_TCut_yes pid cnt A n c l clk w1 (H.out.ext hb1) hc (by omega) hn0 HV.out).mono ?_
  rintro e w2 ⟨A2, m2, c2, ks', N', rfl, hp2, hL2, hd2, hb2⟩
  obtain rfl : N' = N := hL2.unique HL1.out
  have hdd : datas ks = datas ks' := HD1.out.trans hd2.symm
  have hm1 : m1 = N' := by
    have h1 := HP1.out.1
    have h2 := congrArg List.length HD1.out
    rw [cutT_len] at h2
    simp only [datas, List.length_map] at h2
    omega
  subst hm1
  have hle := HL1.out.le HR1.out
  have HP2 := Lib.hid hp2
  have HDD := Lib.hid hdd
  have HPX := Lib.hid (HP1.out.ext hb2)
  have B2 := hb1.trans (hb2.mono hb1.size)
  clear hb1 hb2 hp2 hL2 hd2 hdd
  go_wp2_with fail
  refine (law_sameAll A1 A2 m1 c1 m2 c2 ks ks' w2 HPX.out HP2.out HDD.out (by omega)).mono ?_
  rintro e w3 ⟨rfl, hb3⟩
  have HP3 := Lib.hid (HPX.out.ext hb3)
  have B3 := B2.trans (hb3.mono B2.size)
  have hvs := validT_spec HV.out
  clear B2 hb3
  go_wp2_with fail
  refine (tr_Join A1 m1 c1 ks pid cnt clk l (roomT clk).toNat n w3 HP3.out HD1.out HL1.out H.out.len hn0 (by omega) HR1.out (by omega) H.out.rng ⟨by omega, by omega⟩ ⟨by omega, by omega⟩).mono ?_
  rintro e w4 ⟨A', c', Au, nu, cu, rfl, hrw, hby, hb4⟩
  have B4 := B3.trans (hb4.mono B3.size)
  have HRW := Lib.hid hrw
  have HBY := Lib.hid hby
  clear B3 hb4 hrw hby hvs
  go_wp2_with fail
  refine (law_awake _).mono ?_
  rintro e w5 ⟨rfl, hb5⟩
  have B5 := B4.trans (hb5.mono B4.size)
  obtain ⟨b, off, rfl, _, hbl, hcl⟩ := (HRW.out.ext hb5).addr (by omega)
  have u0 : w5.cell? ⟨b, off, none⟩ = some (.slice Au nu cu) := hcl 0 _ rfl
  have HBY5 := Lib.hid (HBY.out.ext hb5)
  have H5 := Lib.hid (H.out.ext B5)
  clear B4 hb5 hcl
  go_wp2_with fail
  refine (ref_SameBytes _ _ _ _ _ _ _ _ _ HBY5.out H5.out).mono ?_
  rintro e w6 ⟨rfl, rfl⟩
  go_wp2_with fail
  go_ret
  exact ⟨by simp, B5⟩

set_option maxRecDepth 100000 in
theorem law_TransportCuts (pid cnt : Int) (A : Option Addr) (n c : Nat) (l : List Int) (clk : Int) (w : World) (hl : Byt (fun _ => True) w A n l) (hc : n ≤ c) :
    Calls Try.prog 8 #[.int .i64 pid, .int .i64 cnt, .slice A n c, .int .i64 clk] w fun e w' => e = .returned (.bool true) ∧ Below w.heap.size w w' := by
  by_cases h1 : 2000 < n
  · have d1 : decide ((2000 : Int) < (n : Int)) = true := decide_eq_true (by omega)
    go_enter Try.func8, Try.ntmps8
    go_wp2_with fail
    go_ret
    exact ⟨rfl, Below.refl _ _⟩
  · rcases Nat.eq_zero_or_pos n with h0 | h0
    · exact law_Cuts_no pid cnt A n c l clk w hl hc (by omega) (.inl h0)
    · cases hv : validT pid cnt false clk 0 with
      | false => exact law_Cuts_no pid cnt A n c l clk w hl hc (by omega) (.inr hv)
      | true => exact law_Cuts_yes pid cnt A n c l clk w hl hc (by omega) h0 hv
end Go.Proofs.Ytdnchjmopkhnaaa
