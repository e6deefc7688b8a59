/- PesPuts. -/
import Derived.Test.YtojfaonlgkicfaaGiven
import Derived.Test.YtojfaonlgkicfaaTakePut
import Derived.Test.YtojfaonlgkicfaaPesAwake
namespace Go.Proofs.Ytojfaonlgkicfaa
open Go.RowKit

theorem RetP.cap {w : World} {l : List Int} {code : Int} {e : Ending} {w' : World} (h : RetP w l code e w') : ∃ A n c, e = .returned (.tuple #[.slice A n c, .int .i64 code]) ∧ Byt (w.heap.size ≤ ·) w' A n l ∧ Below w.heap.size w w' := h

set_option maxRecDepth 10000 in
set_option maxHeartbeats 2000000 in
theorem law_PesPuts_no {q q' : Nat → Prop} (s p d : Int) (A : Option Addr) (n c : Nat) (l : List Int) (B : Option Addr) (m k : Nat) (more : List Int) (code : Int) (w : World) (hl : Byt q w A n l) (hm : Byt q' w B m more) (hn : n ≤ 70000) (hmm : m ≤ 1000) (hcode : code = 1 ∨ code = 5)
    (h1 : ∀ W, Byt q W A n l → Calls Try.prog 20 #[.agg #[.int .i64 s, .int .i64 p, .int .i64 d, .slice A n c]] W (RetP W [] code)) (h2 : ∀ W, Byt q W A n l → Calls Try.prog 21 #[.agg #[.int .i64 s, .int .i64 p, .int .i64 d, .slice A n c]] W (RetP W [] code)) :
    Calls Try.prog 6 #[.agg #[.int .i64 s, .int .i64 p, .int .i64 d, .slice A n c], .slice B m k] w fun e w' => e = .returned (.bool true) ∧ Below w.heap.size w w' := by
  have H1 := Lib.hid h1
  have H2 := Lib.hid h2
  clear h1 h2
  have hc0 : (code != 0) = true := by rcases hcode with rfl | rfl <;> rfl
  have hcc : (code != code) = false := by simp
  clear hcode
  go_enter Try.func6, Try.ntmps6
  go_wp2_with fail
  refine (law_given s p d A n c _).mono ?_
  rintro e w1 ⟨rfl, hb1⟩
  have B1 : Below w.heap.size w w1 := ((Below.refl _ w).alloc (Nat.le_refl _) _).trans (hb1.mono (by simp))
  have x1 := (Bx.new w 29 #[.int .i64 s, .int .i64 p, .int .i64 d, .slice A n c]).ext hb1
  have l1 := hl.below B1 (fun b h _ => h)
  have z1 := B1.size
  go_wp2_with fail
  refine (H1.out _ l1).mono ?_
  rintro e w2 ⟨A2, n2, c2, rfl, hB2, hb2⟩
  have B2 := B1.trans (hb2.mono z1)
  have z2 := B2.size
  have x2 := x1.ext hb2
  obtain ⟨g0, g1, g2, g3⟩ := x2.cells4
  have s2 := x2.lt
  have l2 := l1.ext hb2
  go_wp2_with fail
  refine (H2.out _ l2).mono ?_
  rintro e w3 ⟨A3, n3, c3, rfl, hB3, hb3⟩
  have B3 := B2.trans (hb3.mono z2)
  have z3 := B3.size
  go_wp2_with fail
  refine (ref_SameBytes _ _ _ _ _ _ _ _ _ (hB2.ext hb3) hB3).mono ?_
  rintro e w4 ⟨rfl, rfl⟩
  simp only [decide_true]
  go_wp2_with fail
  refine (pes_awake _).mono ?_
  rintro e w5 ⟨rfl, hb5⟩
  go_wp2_with fail
  go_ret
  exact ⟨rfl, B3.trans (hb5.mono z3)⟩

theorem OwB.slice {w : World} {base : Nat} {e : TypeId} {v : Value} {l : List Int} (h : OwB w base e v l) : ∃ A c, v = .slice A l.length c ∧ l.length ≤ c := by
  rcases h.2 with ⟨rfl, hn⟩ | ⟨g, cap, cur, rfl, _, _, hnc, _⟩
  · exact ⟨none, 0, by rw [hn], by omega⟩
  · exact ⟨_, _, rfl, hnc⟩

set_option maxRecDepth 10000 in
set_option maxHeartbeats 2000000 in
theorem law_PesPuts_ok {q q' : Nat → Prop} (s p d : Int) (A : Option Addr) (n c : Nat) (l : List Int) (B : Option Addr) (m k : Nat) (more : List Int) (w : World) (hl : Byt q w A n l) (hm : Byt q' w B m more) (hn : n ≤ 70000) (hmm : m ≤ 1000)
    (hv : validP s p d = true) (hsm : putNum p d l ≤ 65535) :
    Calls Try.prog 6 #[.agg #[.int .i64 s, .int .i64 p, .int .i64 d, .slice A n c], .slice B m k] w fun e w' => e = .returned (.bool true) ∧ Below w.heap.size w w' := by
  have hpl := putL_len s p d l
  have HV := Lib.hid hv
  clear hv
  go_enter Try.func6, Try.ntmps6
  go_wp2_with fail
  refine (law_given s p d A n c _).mono ?_
  rintro e w1 ⟨rfl, hb1⟩
  have B1 : Below w.heap.size w w1 := ((Below.refl _ w).alloc (Nat.le_refl _) _).trans (hb1.mono (by simp))
  have x1 := (Bx.new w 29 #[.int .i64 s, .int .i64 p, .int .i64 d, .slice A n c]).ext hb1
  have l1 := hl.below B1 (fun b h _ => h)
  have z1 := B1.size
  go_wp2_with fail
  refine (pes_Put_ok s p d A n c l _ l1 HV.out (by omega) hsm).mono ?_
  rintro e w2 ⟨A2, n2, c2, rfl, hB2, hb2⟩
  have B2 := B1.trans (hb2.mono z1)
  have z2 := B2.size
  have x2 := x1.ext hb2
  obtain ⟨g0, g1, g2, g3⟩ := x2.cells4
  have s2 := x2.lt
  have l2 := l1.ext hb2
  have hn2 : n2 ≤ 65541 := by have := hB2.len; omega
  go_wp2_with fail
  refine (ref_Put_ok s p d A n c l _ l2 HV.out (by omega) hsm).mono ?_
  rintro e w3 ⟨A3, n3, c3, rfl, hB3, hb3⟩
  have B3 := B2.trans (hb3.mono z2)
  have z3 := B3.size
  have x3 := x2.ext hb3
  have l3 := l2.ext hb3
  have b3 := hB2.ext hb3
  have m3 := hm.below B3 (fun b h _ => h)
  clear g0 g1 g2 g3
  go_wp2_with fail
  refine (ref_SameBytes _ _ _ _ _ _ _ _ _ b3 hB3).mono ?_
  rintro e w4 ⟨rfl, rfl⟩
  simp only [decide_true]
  have hlen2 := hB2.len
  have HL2 := Lib.hid hlen2
  have HPL := Lib.hid hpl
  clear hlen2 hpl
  have tok : True := trivial
  go_wp2_with (first
    | (at_builtin; have _t := tok; go_must (refine wpList_appB _ rfl (.tmp 45) (.tmp 46) 27 rfl 5 Try.underlying27 Try.infoB w3.heap.size _ [] rfl (OwB.lit w3 w3.heap.size 5 [] 0 rfl rfl rfl (Nat.le_refl _) (by omega)) A2 n2 c2 _ rfl (b3.alloc _) (by simp; omega) (by simp) ?_; intro v6 w6 ho6 hg6 hat6; have B6 : Below w3.heap.size w3 w6 := ((Below.refl _ _).alloc (Nat.le_refl _) _).grown hg6 (by simp) (fun k hk => ((OwB.lit w3 w3.heap.size 5 [] 0 rfl rfl rfl (Nat.le_refl _) (by omega)).lt k hk).1); have z6 := B6.size; clear tok))
    | (at_builtin; go_must (refine wpList_appB _ rfl (.tmp 47) (.tmp 48) 27 rfl 5 Try.underlying27 Try.infoB w3.heap.size _ _ rfl ho6 B m k more rfl (m3.ext B6) (by have := HL2.out; simp; omega) z6 ?_; intro v7 w7 ho7 hg7 hat7)))
  have B7 : Below w3.heap.size w3 w7 := B6.grown hg7 z6 (fun k hk => (ho6.lt k hk).1)
  have R7 : ∀ x ∈ [] ++ putL s p d l ++ more, 0 ≤ x ∧ x ≤ 255 := by
    intro x hx
    rcases List.mem_append.1 hx with hx | hx
    · exact hB2.rng x (by simpa using hx)
    · exact hm.rng x hx
  obtain ⟨A7, c7, hv7, hc7⟩ := ho7.slice
  subst hv7
  have hB7 := ho7.byt (p := fun _ => True) (fun _ _ => trivial) R7
  have hl7 : ([] ++ putL s p d l ++ more).length = n2 + m := by simp [HL2.out, hm.len]
  rw [hl7] at hB7 hc7 ⊢
  have z7 := B7.size
  refine (pes_Take_put s p d A7 (n2 + m) c7 l more w7 (by simpa using hB7) hc7 (by omega) HV.out hsm).mono ?_
  rintro e w8 ⟨A8, n8, c8, rfl, hB8, hb8⟩
  rw [HL2.out]
  have B8 := B7.trans (hb8.mono z7)
  have x8 := x3.ext B8
  obtain ⟨g0, g1, g2, g3⟩ := x8.cells4
  have s8 := x8.lt
  have l8 := l3.ext B8
  have z8 := B8.size
  go_wp2_with fail
  refine (pes_awake _).mono ?_
  rintro e w9 ⟨rfl, hb9⟩
  have y8 := (Bx.new w8 30 #[.int .i64 s, .int .i64 p, .int .i64 d, .slice A8 n8 c8]).ext hb9
  have y9 := (x8.alloc (.cells #[.int .i64 s, .int .i64 p, .int .i64 d, .slice A8 n8 c8] 30)).ext hb9
  obtain ⟨a0, a1, a2, a3⟩ := y8.cells4
  obtain ⟨e0, e1, e2, e3⟩ := y9.cells4
  clear g0 g1 g2 g3
  have s9 := y8.lt
  have s10 := y9.lt
  go_wp2_with fail
  refine (law_same s p d A8 A n8 c8 n c l l _ ((hB8.alloc _).ext hb9) ((l8.alloc _).ext hb9) rfl).mono ?_
  rintro e w10 ⟨rfl, hb10⟩
  go_wp2_with fail
  go_ret
  refine ⟨rfl, ?_⟩
  have D8 := B3.trans (B8.mono z3)
  have D9 := (D8.alloc D8.size (.cells #[.int .i64 s, .int .i64 p, .int .i64 d, .slice A8 n8 c8] 30)).trans (hb9.mono (by have := D8.size; simp; omega))
  exact D9.trans (hb10.mono D9.size)

theorem law_PesPuts (s p d : Int) (A : Option Addr) (n c : Nat) (l : List Int) (B : Option Addr) (m k : Nat) (more : List Int) (w : World) (hl : Byt (fun _ => True) w A n l) (hm : Byt (fun _ => True) w B m more) :
    Calls Try.prog 6 #[.agg #[.int .i64 s, .int .i64 p, .int .i64 d, .slice A n c], .slice B m k] w fun e w' => e = .returned (.bool true) ∧ Below w.heap.size w w' := by
  by_cases h1 : 70000 < n
  · go_enter Try.func6, Try.ntmps6
    go_wp2_with fail
    go_ret
    exact ⟨rfl, (Below.refl _ _).alloc (Nat.le_refl _) _⟩
  by_cases h2 : 1000 < m
  · go_enter Try.func6, Try.ntmps6
    go_wp2_with fail
    all_goals
      go_ret
      exact ⟨rfl, (Below.refl _ _).alloc (Nat.le_refl _) _⟩
  rcases hv : validP s p d with _ | _
  · exact law_PesPuts_no s p d A n c l B m k more 1 w hl hm (by omega) (by omega) (.inl rfl) (fun W _ => pes_Put_arg s p d _ W hv) (fun W _ => ref_Put_arg s p d _ W hv)
  · by_cases h3 : 65535 < putNum p d l
    · exact law_PesPuts_no s p d A n c l B m k more 5 w hl hm (by omega) (by omega) (.inr rfl) (fun W h => pes_Put_size s p d A n c l W h hv (by omega) h3) (fun W h => ref_Put_size s p d A n c l W h hv (by omega) h3)
    · exact law_PesPuts_ok s p d A n c l B m k more w hl hm (by omega) (by omega) hv (by omega)

end Go.Proofs.Ytojfaonlgkicfaa
