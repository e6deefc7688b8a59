/- The law PlaneFields returns true for every frame and number. -/
import Derived.Test.YtcboppldclknjaaPWeave
import Derived.Test.YtcboppldclknjaaRWeave
import Derived.Test.YtcboppldclknjaaPAwake
namespace Go.Proofs.Ytcboppldclknjaa
open Go.RowKit

theorem fields_ok {f : Fr} (h1 : formedB f = true) (h4 : f.H % 4 = 0) : fieldF f 0 = (fieldFr f 0, 0) ∧ fieldF f 1 = (fieldFr f 1, 0) ∧ weaveF (fieldFr f 0) (fieldFr f 1) = (f, 0) := by
  refine ⟨?_, ?_, ?_⟩
  · unfold fieldF; rw [if_pos ⟨h1, h4, .inl rfl⟩]; rfl
  · unfold fieldF; rw [if_pos ⟨h1, h4, .inr rfl⟩]; rfl
  · obtain ⟨W, H, Y, U, V⟩ := f
    obtain ⟨a, q, rfl, rfl, b1, b2, b3, b4, lY, lU, lV⟩ := field_sizes h1 h4
    rw [fieldFr_of, fieldFr_of]
    have F0 : ∀ k : Nat, formedB ⟨((2 * a : Nat) : Int), ((2 * q : Nat) : Int), cutL Y (k * (2 * a)) (2 * (2 * a)) (2 * a) (2 * q), cutL U (k * a) (2 * a) a q, cutL V (k * a) (2 * a) a q⟩ = true := fun k => formed_mk b1 b2 b3 (by omega) (cutL_len _ _ _ _ _) (cutL_len _ _ _ _ _) (cutL_len _ _ _ _ _)
    unfold weaveF
    rw [if_pos ⟨F0 0, F0 1, rfl, rfl, by show 2 * ((2 * q : Nat) : Int) ≤ 64; omega⟩, weaveFr_of]
    dsimp only
    rw [woven_cut (by omega) lY, woven_cut (by omega) lU, woven_cut (by omega) lV]
theorem fields_no {f : Fr} (h : ¬ (formedB f = true ∧ f.H % 4 = 0)) : fieldF f 0 = (zeroFr, 1) ∧ fieldF f 1 = (zeroFr, 1) := by
  constructor <;> (unfold fieldF; rw [if_neg (fun hc => h ⟨hc.1, hc.2.1⟩)])

set_option maxRecDepth 100000 in
set_option maxHeartbeats 8000000 in
theorem law_PlaneFields {p : Nat → Prop} (v : Value) (f : Fr) (par : Int) (w : World) (hf : IsFr p w v f) (hc : CapsOK v) :
    Calls Try.prog 7 #[v, .int .i64 par] w fun e w' => e = .returned (.bool true) ∧ Below w.heap.size w w' := by
  have hf0 := hf
  obtain ⟨b1, b2, b3, b4, b5, b6, b7, b8, b9, rfl, _, _, _⟩ := hf
  by_cases hl : lightB f = true
  · by_cases hk : formedB f = true ∧ f.H % 4 = 0
    · obtain ⟨P, pe, hR⟩ : ∃ P pe, fieldF f par = (P, pe) := ⟨_, _, rfl⟩
      have HR := Lib.hid hR
      clear hR
      have gpe : (pe != pe) = false := by simp
      have gP : eqB P P = true := eqB_self P
      have gf : eqB f f = true := eqB_self f
      obtain ⟨k0, k1, k2⟩ := fields_ok hk.1 hk.2
      generalize fieldFr f 0 = F0 at *
      generalize fieldFr f 1 = F1 at *
      have H2 := Lib.hid k2
      have H0 := Lib.hid k0
      have H1 := Lib.hid k1
      clear k0 k1 hk k2
      have BB : Below w.heap.size w w := Below.refl _ w
      go_enter Try.func7, Try.ntmps7
      go_wp2_with fail
      replace hf0 := hf0.alloc (.cells #[.int .i64 f.W, .int .i64 f.H, .slice b1 b2 b3, .slice b4 b5 b6, .slice b7 b8 b9] 24)
      have x0 := Bx.new w 24 #[.int .i64 f.W, .int .i64 f.H, .slice b1 b2 b3, .slice b4 b5 b6, .slice b7 b8 b9]
      replace BB := BB.alloc BB.size (.cells #[.int .i64 f.W, .int .i64 f.H, .slice b1 b2 b3, .slice b4 b5 b6, .slice b7 b8 b9] 24)
      generalize w.alloc (.cells #[.int .i64 f.W, .int .i64 f.H, .slice b1 b2 b3, .slice b4 b5 b6, .slice b7 b8 b9] 24) = wa0 at *
      refine (law_light _ f _ hf0).mono ?_
      rintro e w1 ⟨rfl, hb1⟩
      replace x0 := x0.ext hb1
      replace hf0 := hf0.ext hb1
      replace BB := BB.trans (hb1.mono BB.size)
      clear hb1
      obtain ⟨c00, c01, c02, c03, c04⟩ := x0.cells5
      have l0 := x0.lt
      go_wp2_with fail
      clear c00 c01 c02 c03 c04 l0
      refine (plane_Field _ f par _ hf0 hc).mono ?_
      rw [HR.out]
      rintro e w2 ⟨v2, rfl, hc2, hf2, hb2⟩
      replace x0 := x0.ext hb2
      replace hf0 := hf0.ext hb2
      replace BB := BB.trans (hb2.mono BB.size)
      clear hb2
      have hf20 := hf2
      obtain ⟨a21, a22, a23, a24, a25, a26, a27, a28, a29, rfl, _, _, _⟩ := hf20
      obtain ⟨c00, c01, c02, c03, c04⟩ := x0.cells5
      have l0 := x0.lt
      go_wp2_with fail
      clear c00 c01 c02 c03 c04 l0
      replace x0 := x0.alloc (.cells #[.int .i64 P.W, .int .i64 P.H, .slice a21 a22 a23, .slice a24 a25 a26, .slice a27 a28 a29] 24)
      replace hf0 := hf0.alloc (.cells #[.int .i64 P.W, .int .i64 P.H, .slice a21 a22 a23, .slice a24 a25 a26, .slice a27 a28 a29] 24)
      replace hf2 := hf2.alloc (.cells #[.int .i64 P.W, .int .i64 P.H, .slice a21 a22 a23, .slice a24 a25 a26, .slice a27 a28 a29] 24)
      have x2 := Bx.new w2 24 #[.int .i64 P.W, .int .i64 P.H, .slice a21 a22 a23, .slice a24 a25 a26, .slice a27 a28 a29]
      replace BB := BB.alloc BB.size (.cells #[.int .i64 P.W, .int .i64 P.H, .slice a21 a22 a23, .slice a24 a25 a26, .slice a27 a28 a29] 24)
      generalize w2.alloc (.cells #[.int .i64 P.W, .int .i64 P.H, .slice a21 a22 a23, .slice a24 a25 a26, .slice a27 a28 a29] 24) = wa2 at *
      refine (ref_Field _ f par _ hf0 hc).mono ?_
      rw [HR.out]
      rintro e w3 ⟨v3, rfl, hc3, hf3, hb3⟩
      replace x0 := x0.ext hb3
      replace x2 := x2.ext hb3
      replace hf0 := hf0.ext hb3
      replace hf2 := hf2.ext hb3
      replace BB := BB.trans (hb3.mono BB.size)
      clear hb3
      have hf30 := hf3
      obtain ⟨a31, a32, a33, a34, a35, a36, a37, a38, a39, rfl, _, _, _⟩ := hf30
      obtain ⟨c00, c01, c02, c03, c04⟩ := x0.cells5
      have l0 := x0.lt
      obtain ⟨c10, c11, c12, c13, c14⟩ := x2.cells5
      have l1 := x2.lt
      go_wp2_with fail
      clear c00 c01 c02 c03 c04 l0
      clear c10 c11 c12 c13 c14 l1
      replace x0 := x0.alloc (.cells #[.int .i64 P.W, .int .i64 P.H, .slice a31 a32 a33, .slice a34 a35 a36, .slice a37 a38 a39] 24)
      replace x2 := x2.alloc (.cells #[.int .i64 P.W, .int .i64 P.H, .slice a31 a32 a33, .slice a34 a35 a36, .slice a37 a38 a39] 24)
      replace hf0 := hf0.alloc (.cells #[.int .i64 P.W, .int .i64 P.H, .slice a31 a32 a33, .slice a34 a35 a36, .slice a37 a38 a39] 24)
      replace hf2 := hf2.alloc (.cells #[.int .i64 P.W, .int .i64 P.H, .slice a31 a32 a33, .slice a34 a35 a36, .slice a37 a38 a39] 24)
      replace hf3 := hf3.alloc (.cells #[.int .i64 P.W, .int .i64 P.H, .slice a31 a32 a33, .slice a34 a35 a36, .slice a37 a38 a39] 24)
      have x3 := Bx.new w3 24 #[.int .i64 P.W, .int .i64 P.H, .slice a31 a32 a33, .slice a34 a35 a36, .slice a37 a38 a39]
      replace BB := BB.alloc BB.size (.cells #[.int .i64 P.W, .int .i64 P.H, .slice a31 a32 a33, .slice a34 a35 a36, .slice a37 a38 a39] 24)
      generalize w3.alloc (.cells #[.int .i64 P.W, .int .i64 P.H, .slice a31 a32 a33, .slice a34 a35 a36, .slice a37 a38 a39] 24) = wa3 at *
      refine (ref_Equal _ _ P P _ hf2 hf3).mono ?_
      rintro e w4 ⟨rfl, hb4⟩
      replace x0 := x0.ext hb4
      replace x2 := x2.ext hb4
      replace x3 := x3.ext hb4
      replace hf0 := hf0.ext hb4
      replace hf2 := hf2.ext hb4
      replace hf3 := hf3.ext hb4
      replace BB := BB.trans (hb4.mono BB.size)
      clear hb4
      obtain ⟨c00, c01, c02, c03, c04⟩ := x0.cells5
      have l0 := x0.lt
      obtain ⟨c10, c11, c12, c13, c14⟩ := x2.cells5
      have l1 := x2.lt
      obtain ⟨c20, c21, c22, c23, c24⟩ := x3.cells5
      have l2 := x3.lt
      go_wp2_with fail
      clear c00 c01 c02 c03 c04 l0
      clear c10 c11 c12 c13 c14 l1
      clear c20 c21 c22 c23 c24 l2
      refine (plane_Field _ f 0 _ hf0 hc).mono ?_
      rw [H0.out]
      rintro e w5 ⟨v5, rfl, hc5, hf5, hb5⟩
      replace x0 := x0.ext hb5
      replace x2 := x2.ext hb5
      replace x3 := x3.ext hb5
      replace hf0 := hf0.ext hb5
      replace hf2 := hf2.ext hb5
      replace hf3 := hf3.ext hb5
      replace BB := BB.trans (hb5.mono BB.size)
      clear hb5
      have hf50 := hf5
      obtain ⟨a51, a52, a53, a54, a55, a56, a57, a58, a59, rfl, _, _, _⟩ := hf50
      obtain ⟨c00, c01, c02, c03, c04⟩ := x0.cells5
      have l0 := x0.lt
      obtain ⟨c10, c11, c12, c13, c14⟩ := x2.cells5
      have l1 := x2.lt
      obtain ⟨c20, c21, c22, c23, c24⟩ := x3.cells5
      have l2 := x3.lt
      go_wp2_with fail
      clear c00 c01 c02 c03 c04 l0
      clear c10 c11 c12 c13 c14 l1
      clear c20 c21 c22 c23 c24 l2
      replace x0 := x0.alloc (.cells #[.int .i64 F0.W, .int .i64 F0.H, .slice a51 a52 a53, .slice a54 a55 a56, .slice a57 a58 a59] 24)
      replace x2 := x2.alloc (.cells #[.int .i64 F0.W, .int .i64 F0.H, .slice a51 a52 a53, .slice a54 a55 a56, .slice a57 a58 a59] 24)
      replace x3 := x3.alloc (.cells #[.int .i64 F0.W, .int .i64 F0.H, .slice a51 a52 a53, .slice a54 a55 a56, .slice a57 a58 a59] 24)
      replace hf0 := hf0.alloc (.cells #[.int .i64 F0.W, .int .i64 F0.H, .slice a51 a52 a53, .slice a54 a55 a56, .slice a57 a58 a59] 24)
      replace hf2 := hf2.alloc (.cells #[.int .i64 F0.W, .int .i64 F0.H, .slice a51 a52 a53, .slice a54 a55 a56, .slice a57 a58 a59] 24)
      replace hf3 := hf3.alloc (.cells #[.int .i64 F0.W, .int .i64 F0.H, .slice a51 a52 a53, .slice a54 a55 a56, .slice a57 a58 a59] 24)
      replace hf5 := hf5.alloc (.cells #[.int .i64 F0.W, .int .i64 F0.H, .slice a51 a52 a53, .slice a54 a55 a56, .slice a57 a58 a59] 24)
      have x5 := Bx.new w5 24 #[.int .i64 F0.W, .int .i64 F0.H, .slice a51 a52 a53, .slice a54 a55 a56, .slice a57 a58 a59]
      replace BB := BB.alloc BB.size (.cells #[.int .i64 F0.W, .int .i64 F0.H, .slice a51 a52 a53, .slice a54 a55 a56, .slice a57 a58 a59] 24)
      generalize w5.alloc (.cells #[.int .i64 F0.W, .int .i64 F0.H, .slice a51 a52 a53, .slice a54 a55 a56, .slice a57 a58 a59] 24) = wa5 at *
      refine (plane_Field _ f 1 _ hf0 hc).mono ?_
      rw [H1.out]
      rintro e w6 ⟨v6, rfl, hc6, hf6, hb6⟩
      replace x0 := x0.ext hb6
      replace x2 := x2.ext hb6
      replace x3 := x3.ext hb6
      replace x5 := x5.ext hb6
      replace hf0 := hf0.ext hb6
      replace hf2 := hf2.ext hb6
      replace hf3 := hf3.ext hb6
      replace hf5 := hf5.ext hb6
      replace BB := BB.trans (hb6.mono BB.size)
      clear hb6
      have hf60 := hf6
      obtain ⟨a61, a62, a63, a64, a65, a66, a67, a68, a69, rfl, _, _, _⟩ := hf60
      obtain ⟨c00, c01, c02, c03, c04⟩ := x0.cells5
      have l0 := x0.lt
      obtain ⟨c10, c11, c12, c13, c14⟩ := x2.cells5
      have l1 := x2.lt
      obtain ⟨c20, c21, c22, c23, c24⟩ := x3.cells5
      have l2 := x3.lt
      obtain ⟨c30, c31, c32, c33, c34⟩ := x5.cells5
      have l3 := x5.lt
      go_wp2_with fail
      clear c00 c01 c02 c03 c04 l0
      clear c10 c11 c12 c13 c14 l1
      clear c20 c21 c22 c23 c24 l2
      clear c30 c31 c32 c33 c34 l3
      replace x0 := x0.alloc (.cells #[.int .i64 F1.W, .int .i64 F1.H, .slice a61 a62 a63, .slice a64 a65 a66, .slice a67 a68 a69] 24)
      replace x2 := x2.alloc (.cells #[.int .i64 F1.W, .int .i64 F1.H, .slice a61 a62 a63, .slice a64 a65 a66, .slice a67 a68 a69] 24)
      replace x3 := x3.alloc (.cells #[.int .i64 F1.W, .int .i64 F1.H, .slice a61 a62 a63, .slice a64 a65 a66, .slice a67 a68 a69] 24)
      replace x5 := x5.alloc (.cells #[.int .i64 F1.W, .int .i64 F1.H, .slice a61 a62 a63, .slice a64 a65 a66, .slice a67 a68 a69] 24)
      replace hf0 := hf0.alloc (.cells #[.int .i64 F1.W, .int .i64 F1.H, .slice a61 a62 a63, .slice a64 a65 a66, .slice a67 a68 a69] 24)
      replace hf2 := hf2.alloc (.cells #[.int .i64 F1.W, .int .i64 F1.H, .slice a61 a62 a63, .slice a64 a65 a66, .slice a67 a68 a69] 24)
      replace hf3 := hf3.alloc (.cells #[.int .i64 F1.W, .int .i64 F1.H, .slice a61 a62 a63, .slice a64 a65 a66, .slice a67 a68 a69] 24)
      replace hf5 := hf5.alloc (.cells #[.int .i64 F1.W, .int .i64 F1.H, .slice a61 a62 a63, .slice a64 a65 a66, .slice a67 a68 a69] 24)
      replace hf6 := hf6.alloc (.cells #[.int .i64 F1.W, .int .i64 F1.H, .slice a61 a62 a63, .slice a64 a65 a66, .slice a67 a68 a69] 24)
      have x6 := Bx.new w6 24 #[.int .i64 F1.W, .int .i64 F1.H, .slice a61 a62 a63, .slice a64 a65 a66, .slice a67 a68 a69]
      replace BB := BB.alloc BB.size (.cells #[.int .i64 F1.W, .int .i64 F1.H, .slice a61 a62 a63, .slice a64 a65 a66, .slice a67 a68 a69] 24)
      generalize w6.alloc (.cells #[.int .i64 F1.W, .int .i64 F1.H, .slice a61 a62 a63, .slice a64 a65 a66, .slice a67 a68 a69] 24) = wa6 at *
      refine (plane_Weave (p := fun _ => True) _ _ F0 F1 _ (hf5.mono fun _ _ _ => True.intro) (hf6.mono fun _ _ _ => True.intro) hc5 hc6).mono ?_
      rw [H2.out]
      rintro e w7 ⟨v7, rfl, hc7, hf7, hb7⟩
      replace x0 := x0.ext hb7
      replace x2 := x2.ext hb7
      replace x3 := x3.ext hb7
      replace x5 := x5.ext hb7
      replace x6 := x6.ext hb7
      replace hf0 := hf0.ext hb7
      replace hf2 := hf2.ext hb7
      replace hf3 := hf3.ext hb7
      replace hf5 := hf5.ext hb7
      replace hf6 := hf6.ext hb7
      replace BB := BB.trans (hb7.mono BB.size)
      clear hb7
      have hf70 := hf7
      obtain ⟨a71, a72, a73, a74, a75, a76, a77, a78, a79, rfl, _, _, _⟩ := hf70
      obtain ⟨c00, c01, c02, c03, c04⟩ := x0.cells5
      have l0 := x0.lt
      obtain ⟨c10, c11, c12, c13, c14⟩ := x2.cells5
      have l1 := x2.lt
      obtain ⟨c20, c21, c22, c23, c24⟩ := x3.cells5
      have l2 := x3.lt
      obtain ⟨c30, c31, c32, c33, c34⟩ := x5.cells5
      have l3 := x5.lt
      obtain ⟨c40, c41, c42, c43, c44⟩ := x6.cells5
      have l4 := x6.lt
      go_wp2_with fail
      clear c00 c01 c02 c03 c04 l0
      clear c10 c11 c12 c13 c14 l1
      clear c20 c21 c22 c23 c24 l2
      clear c30 c31 c32 c33 c34 l3
      clear c40 c41 c42 c43 c44 l4
      replace x0 := x0.alloc (.cells #[.int .i64 f.W, .int .i64 f.H, .slice a71 a72 a73, .slice a74 a75 a76, .slice a77 a78 a79] 24)
      replace x2 := x2.alloc (.cells #[.int .i64 f.W, .int .i64 f.H, .slice a71 a72 a73, .slice a74 a75 a76, .slice a77 a78 a79] 24)
      replace x3 := x3.alloc (.cells #[.int .i64 f.W, .int .i64 f.H, .slice a71 a72 a73, .slice a74 a75 a76, .slice a77 a78 a79] 24)
      replace x5 := x5.alloc (.cells #[.int .i64 f.W, .int .i64 f.H, .slice a71 a72 a73, .slice a74 a75 a76, .slice a77 a78 a79] 24)
      replace x6 := x6.alloc (.cells #[.int .i64 f.W, .int .i64 f.H, .slice a71 a72 a73, .slice a74 a75 a76, .slice a77 a78 a79] 24)
      replace hf0 := hf0.alloc (.cells #[.int .i64 f.W, .int .i64 f.H, .slice a71 a72 a73, .slice a74 a75 a76, .slice a77 a78 a79] 24)
      replace hf2 := hf2.alloc (.cells #[.int .i64 f.W, .int .i64 f.H, .slice a71 a72 a73, .slice a74 a75 a76, .slice a77 a78 a79] 24)
      replace hf3 := hf3.alloc (.cells #[.int .i64 f.W, .int .i64 f.H, .slice a71 a72 a73, .slice a74 a75 a76, .slice a77 a78 a79] 24)
      replace hf5 := hf5.alloc (.cells #[.int .i64 f.W, .int .i64 f.H, .slice a71 a72 a73, .slice a74 a75 a76, .slice a77 a78 a79] 24)
      replace hf6 := hf6.alloc (.cells #[.int .i64 f.W, .int .i64 f.H, .slice a71 a72 a73, .slice a74 a75 a76, .slice a77 a78 a79] 24)
      replace hf7 := hf7.alloc (.cells #[.int .i64 f.W, .int .i64 f.H, .slice a71 a72 a73, .slice a74 a75 a76, .slice a77 a78 a79] 24)
      have x7 := Bx.new w7 24 #[.int .i64 f.W, .int .i64 f.H, .slice a71 a72 a73, .slice a74 a75 a76, .slice a77 a78 a79]
      replace BB := BB.alloc BB.size (.cells #[.int .i64 f.W, .int .i64 f.H, .slice a71 a72 a73, .slice a74 a75 a76, .slice a77 a78 a79] 24)
      generalize w7.alloc (.cells #[.int .i64 f.W, .int .i64 f.H, .slice a71 a72 a73, .slice a74 a75 a76, .slice a77 a78 a79] 24) = wa7 at *
      refine (plane_awake _).mono ?_
      rintro e w8 ⟨rfl, hb8⟩
      replace x0 := x0.ext hb8
      replace x2 := x2.ext hb8
      replace x3 := x3.ext hb8
      replace x5 := x5.ext hb8
      replace x6 := x6.ext hb8
      replace x7 := x7.ext hb8
      replace hf0 := hf0.ext hb8
      replace hf2 := hf2.ext hb8
      replace hf3 := hf3.ext hb8
      replace hf5 := hf5.ext hb8
      replace hf6 := hf6.ext hb8
      replace hf7 := hf7.ext hb8
      replace BB := BB.trans (hb8.mono BB.size)
      clear hb8
      obtain ⟨c00, c01, c02, c03, c04⟩ := x0.cells5
      have l0 := x0.lt
      obtain ⟨c10, c11, c12, c13, c14⟩ := x2.cells5
      have l1 := x2.lt
      obtain ⟨c20, c21, c22, c23, c24⟩ := x3.cells5
      have l2 := x3.lt
      obtain ⟨c30, c31, c32, c33, c34⟩ := x5.cells5
      have l3 := x5.lt
      obtain ⟨c40, c41, c42, c43, c44⟩ := x6.cells5
      have l4 := x6.lt
      obtain ⟨c50, c51, c52, c53, c54⟩ := x7.cells5
      have l5 := x7.lt
      go_wp2_with fail
      clear c00 c01 c02 c03 c04 l0
      clear c10 c11 c12 c13 c14 l1
      clear c20 c21 c22 c23 c24 l2
      clear c30 c31 c32 c33 c34 l3
      clear c40 c41 c42 c43 c44 l4
      clear c50 c51 c52 c53 c54 l5
      refine (ref_Equal _ _ f f _ hf7 hf0).mono ?_
      rintro e w9 ⟨rfl, hb9⟩
      replace x0 := x0.ext hb9
      replace x2 := x2.ext hb9
      replace x3 := x3.ext hb9
      replace x5 := x5.ext hb9
      replace x6 := x6.ext hb9
      replace x7 := x7.ext hb9
      replace hf0 := hf0.ext hb9
      replace hf2 := hf2.ext hb9
      replace hf3 := hf3.ext hb9
      replace hf5 := hf5.ext hb9
      replace hf6 := hf6.ext hb9
      replace hf7 := hf7.ext hb9
      replace BB := BB.trans (hb9.mono BB.size)
      clear hb9
      obtain ⟨c00, c01, c02, c03, c04⟩ := x0.cells5
      have l0 := x0.lt
      obtain ⟨c10, c11, c12, c13, c14⟩ := x2.cells5
      have l1 := x2.lt
      obtain ⟨c20, c21, c22, c23, c24⟩ := x3.cells5
      have l2 := x3.lt
      obtain ⟨c30, c31, c32, c33, c34⟩ := x5.cells5
      have l3 := x5.lt
      obtain ⟨c40, c41, c42, c43, c44⟩ := x6.cells5
      have l4 := x6.lt
      obtain ⟨c50, c51, c52, c53, c54⟩ := x7.cells5
      have l5 := x7.lt
      go_wp2_with fail
      clear c00 c01 c02 c03 c04 l0
      clear c10 c11 c12 c13 c14 l1
      clear c20 c21 c22 c23 c24 l2
      clear c30 c31 c32 c33 c34 l3
      clear c40 c41 c42 c43 c44 l4
      clear c50 c51 c52 c53 c54 l5
      go_ret
      exact ⟨rfl, BB⟩
    · obtain ⟨P, pe, hR⟩ : ∃ P pe, fieldF f par = (P, pe) := ⟨_, _, rfl⟩
      have HR := Lib.hid hR
      clear hR
      have gpe : (pe != pe) = false := by simp
      have gP : eqB P P = true := eqB_self P
      obtain ⟨k0, k1⟩ := fields_no hk
      generalize hz : zeroFr = Z at *
      clear hz
      have H0 := Lib.hid k0
      have H1 := Lib.hid k1
      clear k0 k1 hk
      have BB : Below w.heap.size w w := Below.refl _ w
      go_enter Try.func7, Try.ntmps7
      go_wp2_with fail
      replace hf0 := hf0.alloc (.cells #[.int .i64 f.W, .int .i64 f.H, .slice b1 b2 b3, .slice b4 b5 b6, .slice b7 b8 b9] 24)
      have x0 := Bx.new w 24 #[.int .i64 f.W, .int .i64 f.H, .slice b1 b2 b3, .slice b4 b5 b6, .slice b7 b8 b9]
      replace BB := BB.alloc BB.size (.cells #[.int .i64 f.W, .int .i64 f.H, .slice b1 b2 b3, .slice b4 b5 b6, .slice b7 b8 b9] 24)
      generalize w.alloc (.cells #[.int .i64 f.W, .int .i64 f.H, .slice b1 b2 b3, .slice b4 b5 b6, .slice b7 b8 b9] 24) = wa0 at *
      refine (law_light _ f _ hf0).mono ?_
      rintro e w1 ⟨rfl, hb1⟩
      replace x0 := x0.ext hb1
      replace hf0 := hf0.ext hb1
      replace BB := BB.trans (hb1.mono BB.size)
      clear hb1
      obtain ⟨c00, c01, c02, c03, c04⟩ := x0.cells5
      have l0 := x0.lt
      go_wp2_with fail
      clear c00 c01 c02 c03 c04 l0
      refine (plane_Field _ f par _ hf0 hc).mono ?_
      rw [HR.out]
      rintro e w2 ⟨v2, rfl, hc2, hf2, hb2⟩
      replace x0 := x0.ext hb2
      replace hf0 := hf0.ext hb2
      replace BB := BB.trans (hb2.mono BB.size)
      clear hb2
      have hf20 := hf2
      obtain ⟨a21, a22, a23, a24, a25, a26, a27, a28, a29, rfl, _, _, _⟩ := hf20
      obtain ⟨c00, c01, c02, c03, c04⟩ := x0.cells5
      have l0 := x0.lt
      go_wp2_with fail
      clear c00 c01 c02 c03 c04 l0
      replace x0 := x0.alloc (.cells #[.int .i64 P.W, .int .i64 P.H, .slice a21 a22 a23, .slice a24 a25 a26, .slice a27 a28 a29] 24)
      replace hf0 := hf0.alloc (.cells #[.int .i64 P.W, .int .i64 P.H, .slice a21 a22 a23, .slice a24 a25 a26, .slice a27 a28 a29] 24)
      replace hf2 := hf2.alloc (.cells #[.int .i64 P.W, .int .i64 P.H, .slice a21 a22 a23, .slice a24 a25 a26, .slice a27 a28 a29] 24)
      have x2 := Bx.new w2 24 #[.int .i64 P.W, .int .i64 P.H, .slice a21 a22 a23, .slice a24 a25 a26, .slice a27 a28 a29]
      replace BB := BB.alloc BB.size (.cells #[.int .i64 P.W, .int .i64 P.H, .slice a21 a22 a23, .slice a24 a25 a26, .slice a27 a28 a29] 24)
      generalize w2.alloc (.cells #[.int .i64 P.W, .int .i64 P.H, .slice a21 a22 a23, .slice a24 a25 a26, .slice a27 a28 a29] 24) = wa2 at *
      refine (ref_Field _ f par _ hf0 hc).mono ?_
      rw [HR.out]
      rintro e w3 ⟨v3, rfl, hc3, hf3, hb3⟩
      replace x0 := x0.ext hb3
      replace x2 := x2.ext hb3
      replace hf0 := hf0.ext hb3
      replace hf2 := hf2.ext hb3
      replace BB := BB.trans (hb3.mono BB.size)
      clear hb3
      have hf30 := hf3
      obtain ⟨a31, a32, a33, a34, a35, a36, a37, a38, a39, rfl, _, _, _⟩ := hf30
      obtain ⟨c00, c01, c02, c03, c04⟩ := x0.cells5
      have l0 := x0.lt
      obtain ⟨c10, c11, c12, c13, c14⟩ := x2.cells5
      have l1 := x2.lt
      go_wp2_with fail
      clear c00 c01 c02 c03 c04 l0
      clear c10 c11 c12 c13 c14 l1
      replace x0 := x0.alloc (.cells #[.int .i64 P.W, .int .i64 P.H, .slice a31 a32 a33, .slice a34 a35 a36, .slice a37 a38 a39] 24)
      replace x2 := x2.alloc (.cells #[.int .i64 P.W, .int .i64 P.H, .slice a31 a32 a33, .slice a34 a35 a36, .slice a37 a38 a39] 24)
      replace hf0 := hf0.alloc (.cells #[.int .i64 P.W, .int .i64 P.H, .slice a31 a32 a33, .slice a34 a35 a36, .slice a37 a38 a39] 24)
      replace hf2 := hf2.alloc (.cells #[.int .i64 P.W, .int .i64 P.H, .slice a31 a32 a33, .slice a34 a35 a36, .slice a37 a38 a39] 24)
      replace hf3 := hf3.alloc (.cells #[.int .i64 P.W, .int .i64 P.H, .slice a31 a32 a33, .slice a34 a35 a36, .slice a37 a38 a39] 24)
      have x3 := Bx.new w3 24 #[.int .i64 P.W, .int .i64 P.H, .slice a31 a32 a33, .slice a34 a35 a36, .slice a37 a38 a39]
      replace BB := BB.alloc BB.size (.cells #[.int .i64 P.W, .int .i64 P.H, .slice a31 a32 a33, .slice a34 a35 a36, .slice a37 a38 a39] 24)
      generalize w3.alloc (.cells #[.int .i64 P.W, .int .i64 P.H, .slice a31 a32 a33, .slice a34 a35 a36, .slice a37 a38 a39] 24) = wa3 at *
      refine (ref_Equal _ _ P P _ hf2 hf3).mono ?_
      rintro e w4 ⟨rfl, hb4⟩
      replace x0 := x0.ext hb4
      replace x2 := x2.ext hb4
      replace x3 := x3.ext hb4
      replace hf0 := hf0.ext hb4
      replace hf2 := hf2.ext hb4
      replace hf3 := hf3.ext hb4
      replace BB := BB.trans (hb4.mono BB.size)
      clear hb4
      obtain ⟨c00, c01, c02, c03, c04⟩ := x0.cells5
      have l0 := x0.lt
      obtain ⟨c10, c11, c12, c13, c14⟩ := x2.cells5
      have l1 := x2.lt
      obtain ⟨c20, c21, c22, c23, c24⟩ := x3.cells5
      have l2 := x3.lt
      go_wp2_with fail
      clear c00 c01 c02 c03 c04 l0
      clear c10 c11 c12 c13 c14 l1
      clear c20 c21 c22 c23 c24 l2
      refine (plane_Field _ f 0 _ hf0 hc).mono ?_
      rw [H0.out]
      rintro e w5 ⟨v5, rfl, hc5, hf5, hb5⟩
      replace x0 := x0.ext hb5
      replace x2 := x2.ext hb5
      replace x3 := x3.ext hb5
      replace hf0 := hf0.ext hb5
      replace hf2 := hf2.ext hb5
      replace hf3 := hf3.ext hb5
      replace BB := BB.trans (hb5.mono BB.size)
      clear hb5
      have hf50 := hf5
      obtain ⟨a51, a52, a53, a54, a55, a56, a57, a58, a59, rfl, _, _, _⟩ := hf50
      obtain ⟨c00, c01, c02, c03, c04⟩ := x0.cells5
      have l0 := x0.lt
      obtain ⟨c10, c11, c12, c13, c14⟩ := x2.cells5
      have l1 := x2.lt
      obtain ⟨c20, c21, c22, c23, c24⟩ := x3.cells5
      have l2 := x3.lt
      go_wp2_with fail
      clear c00 c01 c02 c03 c04 l0
      clear c10 c11 c12 c13 c14 l1
      clear c20 c21 c22 c23 c24 l2
      replace x0 := x0.alloc (.cells #[.int .i64 Z.W, .int .i64 Z.H, .slice a51 a52 a53, .slice a54 a55 a56, .slice a57 a58 a59] 24)
      replace x2 := x2.alloc (.cells #[.int .i64 Z.W, .int .i64 Z.H, .slice a51 a52 a53, .slice a54 a55 a56, .slice a57 a58 a59] 24)
      replace x3 := x3.alloc (.cells #[.int .i64 Z.W, .int .i64 Z.H, .slice a51 a52 a53, .slice a54 a55 a56, .slice a57 a58 a59] 24)
      replace hf0 := hf0.alloc (.cells #[.int .i64 Z.W, .int .i64 Z.H, .slice a51 a52 a53, .slice a54 a55 a56, .slice a57 a58 a59] 24)
      replace hf2 := hf2.alloc (.cells #[.int .i64 Z.W, .int .i64 Z.H, .slice a51 a52 a53, .slice a54 a55 a56, .slice a57 a58 a59] 24)
      replace hf3 := hf3.alloc (.cells #[.int .i64 Z.W, .int .i64 Z.H, .slice a51 a52 a53, .slice a54 a55 a56, .slice a57 a58 a59] 24)
      replace hf5 := hf5.alloc (.cells #[.int .i64 Z.W, .int .i64 Z.H, .slice a51 a52 a53, .slice a54 a55 a56, .slice a57 a58 a59] 24)
      have x5 := Bx.new w5 24 #[.int .i64 Z.W, .int .i64 Z.H, .slice a51 a52 a53, .slice a54 a55 a56, .slice a57 a58 a59]
      replace BB := BB.alloc BB.size (.cells #[.int .i64 Z.W, .int .i64 Z.H, .slice a51 a52 a53, .slice a54 a55 a56, .slice a57 a58 a59] 24)
      generalize w5.alloc (.cells #[.int .i64 Z.W, .int .i64 Z.H, .slice a51 a52 a53, .slice a54 a55 a56, .slice a57 a58 a59] 24) = wa5 at *
      refine (plane_Field _ f 1 _ hf0 hc).mono ?_
      rw [H1.out]
      rintro e w6 ⟨v6, rfl, hc6, hf6, hb6⟩
      replace x0 := x0.ext hb6
      replace x2 := x2.ext hb6
      replace x3 := x3.ext hb6
      replace x5 := x5.ext hb6
      replace hf0 := hf0.ext hb6
      replace hf2 := hf2.ext hb6
      replace hf3 := hf3.ext hb6
      replace hf5 := hf5.ext hb6
      replace BB := BB.trans (hb6.mono BB.size)
      clear hb6
      have hf60 := hf6
      obtain ⟨a61, a62, a63, a64, a65, a66, a67, a68, a69, rfl, _, _, _⟩ := hf60
      obtain ⟨c00, c01, c02, c03, c04⟩ := x0.cells5
      have l0 := x0.lt
      obtain ⟨c10, c11, c12, c13, c14⟩ := x2.cells5
      have l1 := x2.lt
      obtain ⟨c20, c21, c22, c23, c24⟩ := x3.cells5
      have l2 := x3.lt
      obtain ⟨c30, c31, c32, c33, c34⟩ := x5.cells5
      have l3 := x5.lt
      go_wp2_with fail
      clear c00 c01 c02 c03 c04 l0
      clear c10 c11 c12 c13 c14 l1
      clear c20 c21 c22 c23 c24 l2
      clear c30 c31 c32 c33 c34 l3
      replace x0 := x0.alloc (.cells #[.int .i64 Z.W, .int .i64 Z.H, .slice a61 a62 a63, .slice a64 a65 a66, .slice a67 a68 a69] 24)
      replace x2 := x2.alloc (.cells #[.int .i64 Z.W, .int .i64 Z.H, .slice a61 a62 a63, .slice a64 a65 a66, .slice a67 a68 a69] 24)
      replace x3 := x3.alloc (.cells #[.int .i64 Z.W, .int .i64 Z.H, .slice a61 a62 a63, .slice a64 a65 a66, .slice a67 a68 a69] 24)
      replace x5 := x5.alloc (.cells #[.int .i64 Z.W, .int .i64 Z.H, .slice a61 a62 a63, .slice a64 a65 a66, .slice a67 a68 a69] 24)
      replace hf0 := hf0.alloc (.cells #[.int .i64 Z.W, .int .i64 Z.H, .slice a61 a62 a63, .slice a64 a65 a66, .slice a67 a68 a69] 24)
      replace hf2 := hf2.alloc (.cells #[.int .i64 Z.W, .int .i64 Z.H, .slice a61 a62 a63, .slice a64 a65 a66, .slice a67 a68 a69] 24)
      replace hf3 := hf3.alloc (.cells #[.int .i64 Z.W, .int .i64 Z.H, .slice a61 a62 a63, .slice a64 a65 a66, .slice a67 a68 a69] 24)
      replace hf5 := hf5.alloc (.cells #[.int .i64 Z.W, .int .i64 Z.H, .slice a61 a62 a63, .slice a64 a65 a66, .slice a67 a68 a69] 24)
      replace hf6 := hf6.alloc (.cells #[.int .i64 Z.W, .int .i64 Z.H, .slice a61 a62 a63, .slice a64 a65 a66, .slice a67 a68 a69] 24)
      have x6 := Bx.new w6 24 #[.int .i64 Z.W, .int .i64 Z.H, .slice a61 a62 a63, .slice a64 a65 a66, .slice a67 a68 a69]
      replace BB := BB.alloc BB.size (.cells #[.int .i64 Z.W, .int .i64 Z.H, .slice a61 a62 a63, .slice a64 a65 a66, .slice a67 a68 a69] 24)
      generalize w6.alloc (.cells #[.int .i64 Z.W, .int .i64 Z.H, .slice a61 a62 a63, .slice a64 a65 a66, .slice a67 a68 a69] 24) = wa6 at *
      refine (plane_awake _).mono ?_
      rintro e w8 ⟨rfl, hb8⟩
      replace x0 := x0.ext hb8
      replace x2 := x2.ext hb8
      replace x3 := x3.ext hb8
      replace x5 := x5.ext hb8
      replace x6 := x6.ext hb8
      replace hf0 := hf0.ext hb8
      replace hf2 := hf2.ext hb8
      replace hf3 := hf3.ext hb8
      replace hf5 := hf5.ext hb8
      replace hf6 := hf6.ext hb8
      replace BB := BB.trans (hb8.mono BB.size)
      clear hb8
      obtain ⟨c00, c01, c02, c03, c04⟩ := x0.cells5
      have l0 := x0.lt
      obtain ⟨c10, c11, c12, c13, c14⟩ := x2.cells5
      have l1 := x2.lt
      obtain ⟨c20, c21, c22, c23, c24⟩ := x3.cells5
      have l2 := x3.lt
      obtain ⟨c30, c31, c32, c33, c34⟩ := x5.cells5
      have l3 := x5.lt
      obtain ⟨c40, c41, c42, c43, c44⟩ := x6.cells5
      have l4 := x6.lt
      go_wp2_with fail
      clear c00 c01 c02 c03 c04 l0
      clear c10 c11 c12 c13 c14 l1
      clear c20 c21 c22 c23 c24 l2
      clear c30 c31 c32 c33 c34 l3
      clear c40 c41 c42 c43 c44 l4
      go_ret
      exact ⟨rfl, BB⟩
  · have hl' : lightB f = false := by simpa using hl
    have BB : Below w.heap.size w w := Below.refl _ w
    go_enter Try.func7, Try.ntmps7
    go_wp2_with fail
    replace hf0 := hf0.alloc (.cells #[.int .i64 f.W, .int .i64 f.H, .slice b1 b2 b3, .slice b4 b5 b6, .slice b7 b8 b9] 24)
    have x0 := Bx.new w 24 #[.int .i64 f.W, .int .i64 f.H, .slice b1 b2 b3, .slice b4 b5 b6, .slice b7 b8 b9]
    replace BB := BB.alloc BB.size (.cells #[.int .i64 f.W, .int .i64 f.H, .slice b1 b2 b3, .slice b4 b5 b6, .slice b7 b8 b9] 24)
    generalize w.alloc (.cells #[.int .i64 f.W, .int .i64 f.H, .slice b1 b2 b3, .slice b4 b5 b6, .slice b7 b8 b9] 24) = wa0 at *
    refine (law_light _ f _ hf0).mono ?_
    rintro e w1 ⟨rfl, hb1⟩
    replace x0 := x0.ext hb1
    replace hf0 := hf0.ext hb1
    replace BB := BB.trans (hb1.mono BB.size)
    clear hb1
    obtain ⟨c00, c01, c02, c03, c04⟩ := x0.cells5
    have l0 := x0.lt
    go_wp2_with fail
    clear c00 c01 c02 c03 c04 l0
    go_ret
    exact ⟨rfl, BB⟩
end Go.Proofs.Ytcboppldclknjaa
