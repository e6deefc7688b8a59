/- PesTakes. -/
import Derived.Test.YtojfaonlgkicfaaTakeBoth
import Derived.Test.YtojfaonlgkicfaaGiven
import Derived.Test.YtojfaonlgkicfaaPesAwake
namespace Go.Proofs.Ytojfaonlgkicfaa
open Go.RowKit

set_option maxRecDepth 10000 in
set_option maxHeartbeats 2000000 in
theorem law_PesTakes_no (A : Option Addr) (n c : Nat) (l : List Int) (code : Int) (w : World) (h : Byt (fun _ => True) w A n l) (hn : n ≤ 2000) (hcode : code ≠ 0)
    (hall : ∀ W, Byt (fun _ => True) W A n l → Calls Try.prog 22 #[.slice A n c] W (RetT W 0 0 0 [] 0 code) ∧ Calls Try.prog 23 #[.slice A n c] W (RetT W 0 0 0 [] 0 code)) :
    Calls Try.prog 7 #[.slice A n c] w fun e w' => e = .returned (.bool true) ∧ Below w.heap.size w w' := by
  have HALL := Lib.hid hall
  clear hall
  have h1 : (code != code) = false := by simp
  have h2 : (code == 0) = false := by simpa using hcode
  have h3 : (code != 0) = true := by simpa using hcode
  clear hcode
  go_enter Try.func7, Try.ntmps7
  go_wp2_with fail
  refine (HALL.out _ h).1.mono ?_
  rintro e w1 ⟨A1, n1, c1, rfl, hB1, hb1⟩
  have z1 := hb1.size
  have e1 : n1 = 0 := hB1.len.symm
  subst e1
  have hw1 := (h.ext hb1).alloc (.cells #[.int .i64 0, .int .i64 0, .int .i64 0, .slice A1 0 c1] 30)
  have x1 := Bx.new w1 30 #[.int .i64 0, .int .i64 0, .int .i64 0, .slice A1 0 c1]
  have B1 := hb1.alloc z1 (.cells #[.int .i64 0, .int .i64 0, .int .i64 0, .slice A1 0 c1] 30)
  go_wp2_with fail
  refine (HALL.out _ hw1).2.mono ?_
  rintro e w2 ⟨A2, n2, c2, rfl, hB2, hb2⟩
  have e2 : n2 = 0 := hB2.len.symm
  subst e2
  have x2 := x1.ext hb2
  have B2 := B1.trans (hb2.mono B1.size)
  have x2 := x2.alloc (.cells #[.int .i64 0, .int .i64 0, .int .i64 0, .slice A2 0 c2] 29)
  have B2 := B2.alloc B2.size (.cells #[.int .i64 0, .int .i64 0, .int .i64 0, .slice A2 0 c2] 29)
  go_wp2_with fail
  refine (pes_awake _).mono ?_
  rintro e w3 ⟨rfl, hb3⟩
  have x3 := x2.ext hb3
  obtain ⟨g0, g1, g2, g3⟩ := x3.cells4
  have s3 := x3.lt
  go_wp2_with fail
  go_ret
  exact ⟨rfl, B2.trans (hb3.mono B2.size)⟩

set_option maxRecDepth 10000 in
set_option maxHeartbeats 2000000 in
theorem law_PesTakes_yes (b off : Nat) (n c : Nat) (l : List Int) (s p d : Int) (data : List Int) (m : Int) (w : World) (h : Byt (fun _ => True) w (some ⟨b, off, none⟩) n l) (hn : n ≤ 2000) (hnc : n ≤ c)
    (hv : validP s p d = true) (hnum : putNum p d data ≤ 65535) (hm0 : 0 ≤ m) (hm1 : m ≤ n) (heq : putL s p d data = l.take m.toNat)
    (hall : ∀ W, Byt (fun _ => True) W (some ⟨b, off, none⟩) n l → Calls Try.prog 22 #[.slice (some ⟨b, off, none⟩) n c] W (RetT W s p d data m 0) ∧ Calls Try.prog 23 #[.slice (some ⟨b, off, none⟩) n c] W (RetT W s p d data m 0)) :
    Calls Try.prog 7 #[.slice (some ⟨b, off, none⟩) n c] w fun e w' => e = .returned (.bool true) ∧ Below w.heap.size w w' := by
  have HALL := Lib.hid hall
  have HV := Lib.hid hv
  have HEQ := Lib.hid heq
  have HNUM := Lib.hid hnum
  have hdat : data.length ≤ 65535 := by unfold putNum at hnum; omega
  have hslh := sub_head b off n c m hm0 (by omega)
  obtain ⟨H, hH⟩ : ∃ H : Nat, m.toNat = H := ⟨_, rfl⟩
  rw [hH] at hslh HEQ
  have HH := Lib.hid hH
  have bH : H ≤ n := by omega
  clear hall hv heq hnum hH
  go_enter Try.func7, Try.ntmps7
  go_wp2_with fail
  refine (HALL.out _ h).1.mono ?_
  rintro e w1 ⟨A1, n1, c1, rfl, hB1, hb1⟩
  have z1 := hb1.size
  have hw1 := (h.ext hb1).alloc (.cells #[.int .i64 s, .int .i64 p, .int .i64 d, .slice A1 n1 c1] 30)
  have x1 := Bx.new w1 30 #[.int .i64 s, .int .i64 p, .int .i64 d, .slice A1 n1 c1]
  have B1 := hb1.alloc z1 (.cells #[.int .i64 s, .int .i64 p, .int .i64 d, .slice A1 n1 c1] 30)
  have d1 := hB1.alloc (.cells #[.int .i64 s, .int .i64 p, .int .i64 d, .slice A1 n1 c1] 30)
  have bn1 : n1 ≤ 65535 := by have := hB1.len; omega
  go_wp2_with fail
  refine (HALL.out _ hw1).2.mono ?_
  rintro e w2 ⟨A2, n2, c2, rfl, hB2, hb2⟩
  have x2 := (x1.ext hb2).alloc (.cells #[.int .i64 s, .int .i64 p, .int .i64 d, .slice A2 n2 c2] 29)
  have y2 := Bx.new w2 29 #[.int .i64 s, .int .i64 p, .int .i64 d, .slice A2 n2 c2]
  have B2' := B1.trans (hb2.mono B1.size)
  have B2 := B2'.alloc B2'.size (.cells #[.int .i64 s, .int .i64 p, .int .i64 d, .slice A2 n2 c2] 29)
  have d2 := (d1.ext hb2).alloc (.cells #[.int .i64 s, .int .i64 p, .int .i64 d, .slice A2 n2 c2] 29)
  have f2 := hB2.alloc (.cells #[.int .i64 s, .int .i64 p, .int .i64 d, .slice A2 n2 c2] 29)
  have l2 := (hw1.ext hb2).alloc (.cells #[.int .i64 s, .int .i64 p, .int .i64 d, .slice A2 n2 c2] 29)
  obtain ⟨a0, a1, a2, a3⟩ := (x1.ext hb2).cells4
  have s1 := (x1.ext hb2).lt
  go_wp2_with fail
  refine (law_same s p d A1 A2 n1 c1 n2 c2 data data _ d2 f2 rfl).mono ?_
  rintro e w3 ⟨rfl, hb3⟩
  have x3 := x2.ext hb3
  have d3 := d2.ext hb3
  have l3 := l2.ext hb3
  have B3 := B2.trans (hb3.mono B2.size)
  clear a0 a1 a2 a3
  obtain ⟨a0, a1, a2, a3⟩ := x3.cells4
  have s3 := x3.lt
  go_wp2_with fail
  refine (pes_Put_ok s p d A1 n1 c1 data _ d3 HV.out (by omega) HNUM.out).mono ?_
  rintro e w4 ⟨A4, n4, c4, rfl, hB4, hb4⟩
  have B4 := B3.trans (hb4.mono B3.size)
  have l4 := l3.ext hb4
  clear a0 a1 a2 a3
  go_wp2_with fail
  refine (pes_awake _).mono ?_
  rintro e w5 ⟨rfl, hb5⟩
  have B5 := B4.trans (hb5.mono B4.size)
  have l5 := l4.ext hb5
  have p5 := hB4.ext hb5
  have t5 : Byt (fun _ => True) w5 (some ⟨b, off, none⟩) H (l.take H) := by
    have h := Byt.sub (k := 0) (m := H) l5 (by omega)
    simpa using h
  go_wp2_with fail
  refine (ref_SameBytes _ _ _ _ _ _ _ _ _ t5 p5).mono ?_
  rintro e w6 ⟨rfl, rfl⟩
  rw [show decide (l.take H = putL s p d data) = true by rw [decide_eq_true_eq, HEQ.out]]
  go_wp2_with fail
  go_ret
  exact ⟨rfl, B5⟩

theorem law_PesTakes (A : Option Addr) (n c : Nat) (l : List Int) (w : World) (h : Byt (fun _ => True) w A n l) (hnc : n ≤ c) :
    Calls Try.prog 7 #[.slice A n c] w fun e w' => e = .returned (.bool true) ∧ Below w.heap.size w w' := by
  by_cases h1 : 2000 < n
  · go_enter Try.func7, Try.ntmps7
    go_wp2_with fail
    go_ret
    exact ⟨rfl, Below.refl _ _⟩
  obtain ⟨s, p, d, data, m, code, ha, hall⟩ := both_any A n c l w h hnc (by omega)
  by_cases hc : code = 0
  · subst hc
    obtain ⟨hv, hnum, hm0, hm1, heq⟩ := ha.yes rfl
    have hpos : 0 < n := by
      have := congrArg List.length heq
      rw [putL_len, List.length_take, h.len] at this
      omega
    obtain ⟨b, off, rfl, _⟩ := h.addr hpos
    exact law_PesTakes_yes b off n c l s p d data m w h (by omega) hnc hv hnum hm0 hm1 heq hall
  · obtain ⟨rfl, rfl, rfl, rfl, rfl⟩ := ha.no hc
    exact law_PesTakes_no A n c l code w h (by omega) hc hall

end Go.Proofs.Ytojfaonlgkicfaa
