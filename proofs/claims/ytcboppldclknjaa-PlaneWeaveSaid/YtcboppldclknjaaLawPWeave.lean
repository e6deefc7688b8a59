/- The law PlaneWeave returns true for every two frames. -/
import Derived.Test.YtcboppldclknjaaPWeave
import Derived.Test.YtcboppldclknjaaRWeave
import Derived.Test.YtcboppldclknjaaPAwake
namespace Go.Proofs.Ytcboppldclknjaa
open Go.RowKit

theorem weave_ok {f g : Fr} (h : weaveOk f g) : weaveF f g = (weaveFr f g, 0) ∧ fieldF (weaveFr f g) 0 = (f, 0) ∧ fieldF (weaveFr f g) 1 = (g, 0) := by
  have h0 := h
  obtain ⟨W, H, Y, U, V⟩ := f
  obtain ⟨W2, H2, Y2, U2, V2⟩ := g
  obtain ⟨h1, h2, h3, h4, h5⟩ := h
  dsimp only at h3 h4 h5
  subst h3 h4
  refine ⟨by unfold weaveF; rw [if_pos h0], ?_⟩
  obtain ⟨a, q, rfl, rfl, b1, b2, b3, b4, lY, lU, lV⟩ := formed_sizes h1
  obtain ⟨a', q', e1, e2, _, _, _, _, lY2, lU2, lV2⟩ := formed_sizes h2
  obtain rfl : a = a' := by omega
  obtain rfl : q = q' := by omega
  have mY := wovenL_len lY lY2 (2 * q) (Nat.le_refl _)
  have mU := wovenL_len lU lU2 q (Nat.le_refl _)
  have mV := wovenL_len lV lV2 q (Nat.le_refl _)
  rw [weaveFr_of]
  dsimp only
  have hF : formedB ⟨((2 * a : Nat) : Int), ((4 * q : Nat) : Int), wovenL Y Y2 (2 * a) (2 * q), wovenL U U2 a q, wovenL V V2 a q⟩ = true := by
    have := formed_mk (a := a) (q := 2 * q) (Y := wovenL Y Y2 (2 * a) (2 * q)) (U := wovenL U U2 a q) (V := wovenL V V2 a q) b1 b2 (by omega) (by omega) (by rw [mY, show 2 * (2 * q) = (2 * q) * 2 from Nat.mul_comm _ _, Nat.mul_assoc (2 * q)]) (by rw [mU, Nat.mul_comm 2 q, Nat.mul_assoc]) (by rw [mV, Nat.mul_comm 2 q, Nat.mul_assoc])
    rwa [show 2 * (2 * q) = 4 * q by omega] at this
  have h4q : ((4 * q : Nat) : Int) % 4 = 0 := by omega
  constructor
  · unfold fieldF
    rw [if_pos ⟨hF, h4q, .inl rfl⟩, show (0 : Int).toNat = 0 from rfl, fieldFr_of, cut_woven0 (by omega) lY lY2, cut_woven0 (by omega) lU lU2, cut_woven0 (by omega) lV lV2]
  · unfold fieldF
    rw [if_pos ⟨hF, h4q, .inr rfl⟩, show (1 : Int).toNat = 1 from rfl, fieldFr_of, cut_woven1 (by omega) lY lY2, cut_woven1 (by omega) lU lU2, cut_woven1 (by omega) lV lV2]

set_option maxRecDepth 100000 in
set_option maxHeartbeats 8000000 in
theorem law_PlaneWeave {p : Nat → Prop} (v u : Value) (f g : Fr) (w : World) (hf : IsFr p w v f) (hg : IsFr p w u g) (hc : CapsOK v) (hd : CapsOK u) :
    Calls Try.prog 8 #[v, u] w fun e w' => e = .returned (.bool true) ∧ Below w.heap.size w w' := by
  have hf0 := hf
  have hg0 := hg
  obtain ⟨b1, b2, b3, b4, b5, b6, b7, b8, b9, rfl, _, _, _⟩ := hf
  obtain ⟨d1, d2, d3, d4, d5, d6, d7, d8, d9, rfl, _, _, _⟩ := hg
  by_cases hl : lightB f = true
  · by_cases hl2 : lightB g = true
    · by_cases hk : weaveOk f g
      · have gf : eqB f f = true := eqB_self f
        have gg : eqB g g = true := eqB_self g
        obtain ⟨k0, k1, k2⟩ := weave_ok hk
        generalize weaveFr f g = M at *
        have H1 := Lib.hid k1
        have H2 := Lib.hid k2
        clear k1 k2
        have gM : eqB M M = true := eqB_self M
        have H0 := Lib.hid k0
        clear k0 hk
        have BB : Below w.heap.size w w := Below.refl _ w
        go_enter Try.func8, Try.ntmps8
        go_wp2_with fail
        replace hf0 := hf0.alloc (.cells #[.int .i64 f.W, .int .i64 f.H, .slice b1 b2 b3, .slice b4 b5 b6, .slice b7 b8 b9] 24)
        replace hg0 := hg0.alloc (.cells #[.int .i64 f.W, .int .i64 f.H, .slice b1 b2 b3, .slice b4 b5 b6, .slice b7 b8 b9] 24)
        replace hf0 := hf0.alloc (.cells #[.int .i64 g.W, .int .i64 g.H, .slice d1 d2 d3, .slice d4 d5 d6, .slice d7 d8 d9] 24)
        replace hg0 := hg0.alloc (.cells #[.int .i64 g.W, .int .i64 g.H, .slice d1 d2 d3, .slice d4 d5 d6, .slice d7 d8 d9] 24)
        have x0 := (Bx.new w 24 #[.int .i64 f.W, .int .i64 f.H, .slice b1 b2 b3, .slice b4 b5 b6, .slice b7 b8 b9]).alloc (.cells #[.int .i64 g.W, .int .i64 g.H, .slice d1 d2 d3, .slice d4 d5 d6, .slice d7 d8 d9] 24)
        have x1 := Bx.new' (w.alloc (.cells #[.int .i64 f.W, .int .i64 f.H, .slice b1 b2 b3, .slice b4 b5 b6, .slice b7 b8 b9] 24)) 24 #[.int .i64 g.W, .int .i64 g.H, .slice d1 d2 d3, .slice d4 d5 d6, .slice d7 d8 d9] (w.heap.size + 1) (by simp)
        replace BB := (BB.alloc BB.size (.cells #[.int .i64 f.W, .int .i64 f.H, .slice b1 b2 b3, .slice b4 b5 b6, .slice b7 b8 b9] 24)).alloc (by simp) (.cells #[.int .i64 g.W, .int .i64 g.H, .slice d1 d2 d3, .slice d4 d5 d6, .slice d7 d8 d9] 24)
        generalize (w.alloc (.cells #[.int .i64 f.W, .int .i64 f.H, .slice b1 b2 b3, .slice b4 b5 b6, .slice b7 b8 b9] 24)).alloc (.cells #[.int .i64 g.W, .int .i64 g.H, .slice d1 d2 d3, .slice d4 d5 d6, .slice d7 d8 d9] 24) = wa1 at *
        refine (law_light _ f _ hf0).mono ?_
        rintro e w2 ⟨rfl, hb2⟩
        replace x0 := x0.ext hb2
        replace x1 := x1.ext hb2
        replace hf0 := hf0.ext hb2
        replace hg0 := hg0.ext hb2
        replace BB := BB.trans (hb2.mono BB.size)
        clear hb2
        obtain ⟨c00, c01, c02, c03, c04⟩ := x0.cells5
        have l0 := x0.lt
        obtain ⟨c10, c11, c12, c13, c14⟩ := x1.cells5
        have l1 := x1.lt
        go_wp2_with fail
        clear c00 c01 c02 c03 c04 l0
        clear c10 c11 c12 c13 c14 l1
        refine (law_light _ g _ hg0).mono ?_
        rintro e w3 ⟨rfl, hb3⟩
        replace x0 := x0.ext hb3
        replace x1 := x1.ext hb3
        replace hf0 := hf0.ext hb3
        replace hg0 := hg0.ext hb3
        replace BB := BB.trans (hb3.mono BB.size)
        clear hb3
        obtain ⟨c00, c01, c02, c03, c04⟩ := x0.cells5
        have l0 := x0.lt
        obtain ⟨c10, c11, c12, c13, c14⟩ := x1.cells5
        have l1 := x1.lt
        go_wp2_with fail
        clear c00 c01 c02 c03 c04 l0
        clear c10 c11 c12 c13 c14 l1
        refine (plane_Weave (p := p) _ _ f g _ hf0 hg0 hc hd).mono ?_
        rw [H0.out]
        rintro e w4 ⟨v4, rfl, hc4, hf4, hb4⟩
        replace x0 := x0.ext hb4
        replace x1 := x1.ext hb4
        replace hf0 := hf0.ext hb4
        replace hg0 := hg0.ext hb4
        replace BB := BB.trans (hb4.mono BB.size)
        clear hb4
        have hf40 := hf4
        obtain ⟨a41, a42, a43, a44, a45, a46, a47, a48, a49, rfl, _, _, _⟩ := hf40
        obtain ⟨c00, c01, c02, c03, c04⟩ := x0.cells5
        have l0 := x0.lt
        obtain ⟨c10, c11, c12, c13, c14⟩ := x1.cells5
        have l1 := x1.lt
        go_wp2_with fail
        clear c00 c01 c02 c03 c04 l0
        clear c10 c11 c12 c13 c14 l1
        replace x0 := x0.alloc (.cells #[.int .i64 M.W, .int .i64 M.H, .slice a41 a42 a43, .slice a44 a45 a46, .slice a47 a48 a49] 24)
        replace x1 := x1.alloc (.cells #[.int .i64 M.W, .int .i64 M.H, .slice a41 a42 a43, .slice a44 a45 a46, .slice a47 a48 a49] 24)
        replace hf0 := hf0.alloc (.cells #[.int .i64 M.W, .int .i64 M.H, .slice a41 a42 a43, .slice a44 a45 a46, .slice a47 a48 a49] 24)
        replace hg0 := hg0.alloc (.cells #[.int .i64 M.W, .int .i64 M.H, .slice a41 a42 a43, .slice a44 a45 a46, .slice a47 a48 a49] 24)
        replace hf4 := hf4.alloc (.cells #[.int .i64 M.W, .int .i64 M.H, .slice a41 a42 a43, .slice a44 a45 a46, .slice a47 a48 a49] 24)
        have x4 := Bx.new w4 24 #[.int .i64 M.W, .int .i64 M.H, .slice a41 a42 a43, .slice a44 a45 a46, .slice a47 a48 a49]
        replace BB := BB.alloc BB.size (.cells #[.int .i64 M.W, .int .i64 M.H, .slice a41 a42 a43, .slice a44 a45 a46, .slice a47 a48 a49] 24)
        generalize w4.alloc (.cells #[.int .i64 M.W, .int .i64 M.H, .slice a41 a42 a43, .slice a44 a45 a46, .slice a47 a48 a49] 24) = wa4 at *
        refine (ref_Weave (p := p) _ _ f g _ hf0 hg0 hc hd).mono ?_
        rw [H0.out]
        rintro e w5 ⟨v5, rfl, hc5, hf5, hb5⟩
        replace x0 := x0.ext hb5
        replace x1 := x1.ext hb5
        replace x4 := x4.ext hb5
        replace hf0 := hf0.ext hb5
        replace hg0 := hg0.ext hb5
        replace hf4 := hf4.ext hb5
        replace BB := BB.trans (hb5.mono BB.size)
        clear hb5
        have hf50 := hf5
        obtain ⟨a51, a52, a53, a54, a55, a56, a57, a58, a59, rfl, _, _, _⟩ := hf50
        obtain ⟨c00, c01, c02, c03, c04⟩ := x0.cells5
        have l0 := x0.lt
        obtain ⟨c10, c11, c12, c13, c14⟩ := x1.cells5
        have l1 := x1.lt
        obtain ⟨c20, c21, c22, c23, c24⟩ := x4.cells5
        have l2 := x4.lt
        go_wp2_with fail
        clear c00 c01 c02 c03 c04 l0
        clear c10 c11 c12 c13 c14 l1
        clear c20 c21 c22 c23 c24 l2
        replace x0 := x0.alloc (.cells #[.int .i64 M.W, .int .i64 M.H, .slice a51 a52 a53, .slice a54 a55 a56, .slice a57 a58 a59] 24)
        replace x1 := x1.alloc (.cells #[.int .i64 M.W, .int .i64 M.H, .slice a51 a52 a53, .slice a54 a55 a56, .slice a57 a58 a59] 24)
        replace x4 := x4.alloc (.cells #[.int .i64 M.W, .int .i64 M.H, .slice a51 a52 a53, .slice a54 a55 a56, .slice a57 a58 a59] 24)
        replace hf0 := hf0.alloc (.cells #[.int .i64 M.W, .int .i64 M.H, .slice a51 a52 a53, .slice a54 a55 a56, .slice a57 a58 a59] 24)
        replace hg0 := hg0.alloc (.cells #[.int .i64 M.W, .int .i64 M.H, .slice a51 a52 a53, .slice a54 a55 a56, .slice a57 a58 a59] 24)
        replace hf4 := hf4.alloc (.cells #[.int .i64 M.W, .int .i64 M.H, .slice a51 a52 a53, .slice a54 a55 a56, .slice a57 a58 a59] 24)
        replace hf5 := hf5.alloc (.cells #[.int .i64 M.W, .int .i64 M.H, .slice a51 a52 a53, .slice a54 a55 a56, .slice a57 a58 a59] 24)
        have x5 := Bx.new w5 24 #[.int .i64 M.W, .int .i64 M.H, .slice a51 a52 a53, .slice a54 a55 a56, .slice a57 a58 a59]
        replace BB := BB.alloc BB.size (.cells #[.int .i64 M.W, .int .i64 M.H, .slice a51 a52 a53, .slice a54 a55 a56, .slice a57 a58 a59] 24)
        generalize w5.alloc (.cells #[.int .i64 M.W, .int .i64 M.H, .slice a51 a52 a53, .slice a54 a55 a56, .slice a57 a58 a59] 24) = wa5 at *
        refine (ref_Equal _ _ M M _ hf4 hf5).mono ?_
        rintro e w6 ⟨rfl, hb6⟩
        replace x0 := x0.ext hb6
        replace x1 := x1.ext hb6
        replace x4 := x4.ext hb6
        replace x5 := x5.ext hb6
        replace hf0 := hf0.ext hb6
        replace hg0 := hg0.ext hb6
        replace hf4 := hf4.ext hb6
        replace hf5 := hf5.ext hb6
        replace BB := BB.trans (hb6.mono BB.size)
        clear hb6
        obtain ⟨c00, c01, c02, c03, c04⟩ := x0.cells5
        have l0 := x0.lt
        obtain ⟨c10, c11, c12, c13, c14⟩ := x1.cells5
        have l1 := x1.lt
        obtain ⟨c20, c21, c22, c23, c24⟩ := x4.cells5
        have l2 := x4.lt
        obtain ⟨c30, c31, c32, c33, c34⟩ := x5.cells5
        have l3 := x5.lt
        go_wp2_with fail
        clear c00 c01 c02 c03 c04 l0
        clear c10 c11 c12 c13 c14 l1
        clear c20 c21 c22 c23 c24 l2
        clear c30 c31 c32 c33 c34 l3
        refine (plane_Field _ M 0 _ hf4 hc4).mono ?_
        rw [H1.out]
        rintro e w7 ⟨v7, rfl, hc7, hf7, hb7⟩
        replace x0 := x0.ext hb7
        replace x1 := x1.ext hb7
        replace x4 := x4.ext hb7
        replace x5 := x5.ext hb7
        replace hf0 := hf0.ext hb7
        replace hg0 := hg0.ext hb7
        replace hf4 := hf4.ext hb7
        replace hf5 := hf5.ext hb7
        replace BB := BB.trans (hb7.mono BB.size)
        clear hb7
        have hf70 := hf7
        obtain ⟨a71, a72, a73, a74, a75, a76, a77, a78, a79, rfl, _, _, _⟩ := hf70
        obtain ⟨c00, c01, c02, c03, c04⟩ := x0.cells5
        have l0 := x0.lt
        obtain ⟨c10, c11, c12, c13, c14⟩ := x1.cells5
        have l1 := x1.lt
        obtain ⟨c20, c21, c22, c23, c24⟩ := x4.cells5
        have l2 := x4.lt
        obtain ⟨c30, c31, c32, c33, c34⟩ := x5.cells5
        have l3 := x5.lt
        go_wp2_with fail
        clear c00 c01 c02 c03 c04 l0
        clear c10 c11 c12 c13 c14 l1
        clear c20 c21 c22 c23 c24 l2
        clear c30 c31 c32 c33 c34 l3
        replace x0 := x0.alloc (.cells #[.int .i64 f.W, .int .i64 f.H, .slice a71 a72 a73, .slice a74 a75 a76, .slice a77 a78 a79] 24)
        replace x1 := x1.alloc (.cells #[.int .i64 f.W, .int .i64 f.H, .slice a71 a72 a73, .slice a74 a75 a76, .slice a77 a78 a79] 24)
        replace x4 := x4.alloc (.cells #[.int .i64 f.W, .int .i64 f.H, .slice a71 a72 a73, .slice a74 a75 a76, .slice a77 a78 a79] 24)
        replace x5 := x5.alloc (.cells #[.int .i64 f.W, .int .i64 f.H, .slice a71 a72 a73, .slice a74 a75 a76, .slice a77 a78 a79] 24)
        replace hf0 := hf0.alloc (.cells #[.int .i64 f.W, .int .i64 f.H, .slice a71 a72 a73, .slice a74 a75 a76, .slice a77 a78 a79] 24)
        replace hg0 := hg0.alloc (.cells #[.int .i64 f.W, .int .i64 f.H, .slice a71 a72 a73, .slice a74 a75 a76, .slice a77 a78 a79] 24)
        replace hf4 := hf4.alloc (.cells #[.int .i64 f.W, .int .i64 f.H, .slice a71 a72 a73, .slice a74 a75 a76, .slice a77 a78 a79] 24)
        replace hf5 := hf5.alloc (.cells #[.int .i64 f.W, .int .i64 f.H, .slice a71 a72 a73, .slice a74 a75 a76, .slice a77 a78 a79] 24)
        replace hf7 := hf7.alloc (.cells #[.int .i64 f.W, .int .i64 f.H, .slice a71 a72 a73, .slice a74 a75 a76, .slice a77 a78 a79] 24)
        have x7 := Bx.new w7 24 #[.int .i64 f.W, .int .i64 f.H, .slice a71 a72 a73, .slice a74 a75 a76, .slice a77 a78 a79]
        replace BB := BB.alloc BB.size (.cells #[.int .i64 f.W, .int .i64 f.H, .slice a71 a72 a73, .slice a74 a75 a76, .slice a77 a78 a79] 24)
        generalize w7.alloc (.cells #[.int .i64 f.W, .int .i64 f.H, .slice a71 a72 a73, .slice a74 a75 a76, .slice a77 a78 a79] 24) = wa7 at *
        refine (plane_Field _ M 1 _ hf4 hc4).mono ?_
        rw [H2.out]
        rintro e w8 ⟨v8, rfl, hc8, hf8, hb8⟩
        replace x0 := x0.ext hb8
        replace x1 := x1.ext hb8
        replace x4 := x4.ext hb8
        replace x5 := x5.ext hb8
        replace x7 := x7.ext hb8
        replace hf0 := hf0.ext hb8
        replace hg0 := hg0.ext hb8
        replace hf4 := hf4.ext hb8
        replace hf5 := hf5.ext hb8
        replace hf7 := hf7.ext hb8
        replace BB := BB.trans (hb8.mono BB.size)
        clear hb8
        have hf80 := hf8
        obtain ⟨a81, a82, a83, a84, a85, a86, a87, a88, a89, rfl, _, _, _⟩ := hf80
        obtain ⟨c00, c01, c02, c03, c04⟩ := x0.cells5
        have l0 := x0.lt
        obtain ⟨c10, c11, c12, c13, c14⟩ := x1.cells5
        have l1 := x1.lt
        obtain ⟨c20, c21, c22, c23, c24⟩ := x4.cells5
        have l2 := x4.lt
        obtain ⟨c30, c31, c32, c33, c34⟩ := x5.cells5
        have l3 := x5.lt
        obtain ⟨c40, c41, c42, c43, c44⟩ := x7.cells5
        have l4 := x7.lt
        go_wp2_with fail
        clear c00 c01 c02 c03 c04 l0
        clear c10 c11 c12 c13 c14 l1
        clear c20 c21 c22 c23 c24 l2
        clear c30 c31 c32 c33 c34 l3
        clear c40 c41 c42 c43 c44 l4
        replace x0 := x0.alloc (.cells #[.int .i64 g.W, .int .i64 g.H, .slice a81 a82 a83, .slice a84 a85 a86, .slice a87 a88 a89] 24)
        replace x1 := x1.alloc (.cells #[.int .i64 g.W, .int .i64 g.H, .slice a81 a82 a83, .slice a84 a85 a86, .slice a87 a88 a89] 24)
        replace x4 := x4.alloc (.cells #[.int .i64 g.W, .int .i64 g.H, .slice a81 a82 a83, .slice a84 a85 a86, .slice a87 a88 a89] 24)
        replace x5 := x5.alloc (.cells #[.int .i64 g.W, .int .i64 g.H, .slice a81 a82 a83, .slice a84 a85 a86, .slice a87 a88 a89] 24)
        replace x7 := x7.alloc (.cells #[.int .i64 g.W, .int .i64 g.H, .slice a81 a82 a83, .slice a84 a85 a86, .slice a87 a88 a89] 24)
        replace hf0 := hf0.alloc (.cells #[.int .i64 g.W, .int .i64 g.H, .slice a81 a82 a83, .slice a84 a85 a86, .slice a87 a88 a89] 24)
        replace hg0 := hg0.alloc (.cells #[.int .i64 g.W, .int .i64 g.H, .slice a81 a82 a83, .slice a84 a85 a86, .slice a87 a88 a89] 24)
        replace hf4 := hf4.alloc (.cells #[.int .i64 g.W, .int .i64 g.H, .slice a81 a82 a83, .slice a84 a85 a86, .slice a87 a88 a89] 24)
        replace hf5 := hf5.alloc (.cells #[.int .i64 g.W, .int .i64 g.H, .slice a81 a82 a83, .slice a84 a85 a86, .slice a87 a88 a89] 24)
        replace hf7 := hf7.alloc (.cells #[.int .i64 g.W, .int .i64 g.H, .slice a81 a82 a83, .slice a84 a85 a86, .slice a87 a88 a89] 24)
        replace hf8 := hf8.alloc (.cells #[.int .i64 g.W, .int .i64 g.H, .slice a81 a82 a83, .slice a84 a85 a86, .slice a87 a88 a89] 24)
        have x8 := Bx.new w8 24 #[.int .i64 g.W, .int .i64 g.H, .slice a81 a82 a83, .slice a84 a85 a86, .slice a87 a88 a89]
        replace BB := BB.alloc BB.size (.cells #[.int .i64 g.W, .int .i64 g.H, .slice a81 a82 a83, .slice a84 a85 a86, .slice a87 a88 a89] 24)
        generalize w8.alloc (.cells #[.int .i64 g.W, .int .i64 g.H, .slice a81 a82 a83, .slice a84 a85 a86, .slice a87 a88 a89] 24) = wa8 at *
        refine (plane_awake _).mono ?_
        rintro e w9 ⟨rfl, hb9⟩
        replace x0 := x0.ext hb9
        replace x1 := x1.ext hb9
        replace x4 := x4.ext hb9
        replace x5 := x5.ext hb9
        replace x7 := x7.ext hb9
        replace x8 := x8.ext hb9
        replace hf0 := hf0.ext hb9
        replace hg0 := hg0.ext hb9
        replace hf4 := hf4.ext hb9
        replace hf5 := hf5.ext hb9
        replace hf7 := hf7.ext hb9
        replace hf8 := hf8.ext hb9
        replace BB := BB.trans (hb9.mono BB.size)
        clear hb9
        obtain ⟨c00, c01, c02, c03, c04⟩ := x0.cells5
        have l0 := x0.lt
        obtain ⟨c10, c11, c12, c13, c14⟩ := x1.cells5
        have l1 := x1.lt
        obtain ⟨c20, c21, c22, c23, c24⟩ := x4.cells5
        have l2 := x4.lt
        obtain ⟨c30, c31, c32, c33, c34⟩ := x5.cells5
        have l3 := x5.lt
        obtain ⟨c40, c41, c42, c43, c44⟩ := x7.cells5
        have l4 := x7.lt
        obtain ⟨c50, c51, c52, c53, c54⟩ := x8.cells5
        have l5 := x8.lt
        go_wp2_with fail
        clear c00 c01 c02 c03 c04 l0
        clear c10 c11 c12 c13 c14 l1
        clear c20 c21 c22 c23 c24 l2
        clear c30 c31 c32 c33 c34 l3
        clear c40 c41 c42 c43 c44 l4
        clear c50 c51 c52 c53 c54 l5
        refine (ref_Equal _ _ f f _ hf0 hf7).mono ?_
        rintro e w10 ⟨rfl, hb10⟩
        replace x0 := x0.ext hb10
        replace x1 := x1.ext hb10
        replace x4 := x4.ext hb10
        replace x5 := x5.ext hb10
        replace x7 := x7.ext hb10
        replace x8 := x8.ext hb10
        replace hf0 := hf0.ext hb10
        replace hg0 := hg0.ext hb10
        replace hf4 := hf4.ext hb10
        replace hf5 := hf5.ext hb10
        replace hf7 := hf7.ext hb10
        replace hf8 := hf8.ext hb10
        replace BB := BB.trans (hb10.mono BB.size)
        clear hb10
        obtain ⟨c00, c01, c02, c03, c04⟩ := x0.cells5
        have l0 := x0.lt
        obtain ⟨c10, c11, c12, c13, c14⟩ := x1.cells5
        have l1 := x1.lt
        obtain ⟨c20, c21, c22, c23, c24⟩ := x4.cells5
        have l2 := x4.lt
        obtain ⟨c30, c31, c32, c33, c34⟩ := x5.cells5
        have l3 := x5.lt
        obtain ⟨c40, c41, c42, c43, c44⟩ := x7.cells5
        have l4 := x7.lt
        obtain ⟨c50, c51, c52, c53, c54⟩ := x8.cells5
        have l5 := x8.lt
        go_wp2_with fail
        clear c00 c01 c02 c03 c04 l0
        clear c10 c11 c12 c13 c14 l1
        clear c20 c21 c22 c23 c24 l2
        clear c30 c31 c32 c33 c34 l3
        clear c40 c41 c42 c43 c44 l4
        clear c50 c51 c52 c53 c54 l5
        refine (ref_Equal _ _ g g _ hg0 hf8).mono ?_
        rintro e w11 ⟨rfl, hb11⟩
        replace x0 := x0.ext hb11
        replace x1 := x1.ext hb11
        replace x4 := x4.ext hb11
        replace x5 := x5.ext hb11
        replace x7 := x7.ext hb11
        replace x8 := x8.ext hb11
        replace hf0 := hf0.ext hb11
        replace hg0 := hg0.ext hb11
        replace hf4 := hf4.ext hb11
        replace hf5 := hf5.ext hb11
        replace hf7 := hf7.ext hb11
        replace hf8 := hf8.ext hb11
        replace BB := BB.trans (hb11.mono BB.size)
        clear hb11
        obtain ⟨c00, c01, c02, c03, c04⟩ := x0.cells5
        have l0 := x0.lt
        obtain ⟨c10, c11, c12, c13, c14⟩ := x1.cells5
        have l1 := x1.lt
        obtain ⟨c20, c21, c22, c23, c24⟩ := x4.cells5
        have l2 := x4.lt
        obtain ⟨c30, c31, c32, c33, c34⟩ := x5.cells5
        have l3 := x5.lt
        obtain ⟨c40, c41, c42, c43, c44⟩ := x7.cells5
        have l4 := x7.lt
        obtain ⟨c50, c51, c52, c53, c54⟩ := x8.cells5
        have l5 := x8.lt
        go_wp2_with fail
        clear c00 c01 c02 c03 c04 l0
        clear c10 c11 c12 c13 c14 l1
        clear c20 c21 c22 c23 c24 l2
        clear c30 c31 c32 c33 c34 l3
        clear c40 c41 c42 c43 c44 l4
        clear c50 c51 c52 c53 c54 l5
        go_ret
        exact ⟨rfl, BB⟩
      · have gf : eqB f f = true := eqB_self f
        have gg : eqB g g = true := eqB_self g
        have k0 : weaveF f g = (zeroFr, 1) := by unfold weaveF; rw [if_neg hk]
        generalize zeroFr = M at *
        have gM : eqB M M = true := eqB_self M
        have H0 := Lib.hid k0
        clear k0 hk
        have BB : Below w.heap.size w w := Below.refl _ w
        go_enter Try.func8, Try.ntmps8
        go_wp2_with fail
        replace hf0 := hf0.alloc (.cells #[.int .i64 f.W, .int .i64 f.H, .slice b1 b2 b3, .slice b4 b5 b6, .slice b7 b8 b9] 24)
        replace hg0 := hg0.alloc (.cells #[.int .i64 f.W, .int .i64 f.H, .slice b1 b2 b3, .slice b4 b5 b6, .slice b7 b8 b9] 24)
        replace hf0 := hf0.alloc (.cells #[.int .i64 g.W, .int .i64 g.H, .slice d1 d2 d3, .slice d4 d5 d6, .slice d7 d8 d9] 24)
        replace hg0 := hg0.alloc (.cells #[.int .i64 g.W, .int .i64 g.H, .slice d1 d2 d3, .slice d4 d5 d6, .slice d7 d8 d9] 24)
        have x0 := (Bx.new w 24 #[.int .i64 f.W, .int .i64 f.H, .slice b1 b2 b3, .slice b4 b5 b6, .slice b7 b8 b9]).alloc (.cells #[.int .i64 g.W, .int .i64 g.H, .slice d1 d2 d3, .slice d4 d5 d6, .slice d7 d8 d9] 24)
        have x1 := Bx.new' (w.alloc (.cells #[.int .i64 f.W, .int .i64 f.H, .slice b1 b2 b3, .slice b4 b5 b6, .slice b7 b8 b9] 24)) 24 #[.int .i64 g.W, .int .i64 g.H, .slice d1 d2 d3, .slice d4 d5 d6, .slice d7 d8 d9] (w.heap.size + 1) (by simp)
        replace BB := (BB.alloc BB.size (.cells #[.int .i64 f.W, .int .i64 f.H, .slice b1 b2 b3, .slice b4 b5 b6, .slice b7 b8 b9] 24)).alloc (by simp) (.cells #[.int .i64 g.W, .int .i64 g.H, .slice d1 d2 d3, .slice d4 d5 d6, .slice d7 d8 d9] 24)
        generalize (w.alloc (.cells #[.int .i64 f.W, .int .i64 f.H, .slice b1 b2 b3, .slice b4 b5 b6, .slice b7 b8 b9] 24)).alloc (.cells #[.int .i64 g.W, .int .i64 g.H, .slice d1 d2 d3, .slice d4 d5 d6, .slice d7 d8 d9] 24) = wa1 at *
        refine (law_light _ f _ hf0).mono ?_
        rintro e w2 ⟨rfl, hb2⟩
        replace x0 := x0.ext hb2
        replace x1 := x1.ext hb2
        replace hf0 := hf0.ext hb2
        replace hg0 := hg0.ext hb2
        replace BB := BB.trans (hb2.mono BB.size)
        clear hb2
        obtain ⟨c00, c01, c02, c03, c04⟩ := x0.cells5
        have l0 := x0.lt
        obtain ⟨c10, c11, c12, c13, c14⟩ := x1.cells5
        have l1 := x1.lt
        go_wp2_with fail
        clear c00 c01 c02 c03 c04 l0
        clear c10 c11 c12 c13 c14 l1
        refine (law_light _ g _ hg0).mono ?_
        rintro e w3 ⟨rfl, hb3⟩
        replace x0 := x0.ext hb3
        replace x1 := x1.ext hb3
        replace hf0 := hf0.ext hb3
        replace hg0 := hg0.ext hb3
        replace BB := BB.trans (hb3.mono BB.size)
        clear hb3
        obtain ⟨c00, c01, c02, c03, c04⟩ := x0.cells5
        have l0 := x0.lt
        obtain ⟨c10, c11, c12, c13, c14⟩ := x1.cells5
        have l1 := x1.lt
        go_wp2_with fail
        clear c00 c01 c02 c03 c04 l0
        clear c10 c11 c12 c13 c14 l1
        refine (plane_Weave (p := p) _ _ f g _ hf0 hg0 hc hd).mono ?_
        rw [H0.out]
        rintro e w4 ⟨v4, rfl, hc4, hf4, hb4⟩
        replace x0 := x0.ext hb4
        replace x1 := x1.ext hb4
        replace hf0 := hf0.ext hb4
        replace hg0 := hg0.ext hb4
        replace BB := BB.trans (hb4.mono BB.size)
        clear hb4
        have hf40 := hf4
        obtain ⟨a41, a42, a43, a44, a45, a46, a47, a48, a49, rfl, _, _, _⟩ := hf40
        obtain ⟨c00, c01, c02, c03, c04⟩ := x0.cells5
        have l0 := x0.lt
        obtain ⟨c10, c11, c12, c13, c14⟩ := x1.cells5
        have l1 := x1.lt
        go_wp2_with fail
        clear c00 c01 c02 c03 c04 l0
        clear c10 c11 c12 c13 c14 l1
        replace x0 := x0.alloc (.cells #[.int .i64 M.W, .int .i64 M.H, .slice a41 a42 a43, .slice a44 a45 a46, .slice a47 a48 a49] 24)
        replace x1 := x1.alloc (.cells #[.int .i64 M.W, .int .i64 M.H, .slice a41 a42 a43, .slice a44 a45 a46, .slice a47 a48 a49] 24)
        replace hf0 := hf0.alloc (.cells #[.int .i64 M.W, .int .i64 M.H, .slice a41 a42 a43, .slice a44 a45 a46, .slice a47 a48 a49] 24)
        replace hg0 := hg0.alloc (.cells #[.int .i64 M.W, .int .i64 M.H, .slice a41 a42 a43, .slice a44 a45 a46, .slice a47 a48 a49] 24)
        replace hf4 := hf4.alloc (.cells #[.int .i64 M.W, .int .i64 M.H, .slice a41 a42 a43, .slice a44 a45 a46, .slice a47 a48 a49] 24)
        have x4 := Bx.new w4 24 #[.int .i64 M.W, .int .i64 M.H, .slice a41 a42 a43, .slice a44 a45 a46, .slice a47 a48 a49]
        replace BB := BB.alloc BB.size (.cells #[.int .i64 M.W, .int .i64 M.H, .slice a41 a42 a43, .slice a44 a45 a46, .slice a47 a48 a49] 24)
        generalize w4.alloc (.cells #[.int .i64 M.W, .int .i64 M.H, .slice a41 a42 a43, .slice a44 a45 a46, .slice a47 a48 a49] 24) = wa4 at *
        refine (ref_Weave (p := p) _ _ f g _ hf0 hg0 hc hd).mono ?_
        rw [H0.out]
        rintro e w5 ⟨v5, rfl, hc5, hf5, hb5⟩
        replace x0 := x0.ext hb5
        replace x1 := x1.ext hb5
        replace x4 := x4.ext hb5
        replace hf0 := hf0.ext hb5
        replace hg0 := hg0.ext hb5
        replace hf4 := hf4.ext hb5
        replace BB := BB.trans (hb5.mono BB.size)
        clear hb5
        have hf50 := hf5
        obtain ⟨a51, a52, a53, a54, a55, a56, a57, a58, a59, rfl, _, _, _⟩ := hf50
        obtain ⟨c00, c01, c02, c03, c04⟩ := x0.cells5
        have l0 := x0.lt
        obtain ⟨c10, c11, c12, c13, c14⟩ := x1.cells5
        have l1 := x1.lt
        obtain ⟨c20, c21, c22, c23, c24⟩ := x4.cells5
        have l2 := x4.lt
        go_wp2_with fail
        clear c00 c01 c02 c03 c04 l0
        clear c10 c11 c12 c13 c14 l1
        clear c20 c21 c22 c23 c24 l2
        replace x0 := x0.alloc (.cells #[.int .i64 M.W, .int .i64 M.H, .slice a51 a52 a53, .slice a54 a55 a56, .slice a57 a58 a59] 24)
        replace x1 := x1.alloc (.cells #[.int .i64 M.W, .int .i64 M.H, .slice a51 a52 a53, .slice a54 a55 a56, .slice a57 a58 a59] 24)
        replace x4 := x4.alloc (.cells #[.int .i64 M.W, .int .i64 M.H, .slice a51 a52 a53, .slice a54 a55 a56, .slice a57 a58 a59] 24)
        replace hf0 := hf0.alloc (.cells #[.int .i64 M.W, .int .i64 M.H, .slice a51 a52 a53, .slice a54 a55 a56, .slice a57 a58 a59] 24)
        replace hg0 := hg0.alloc (.cells #[.int .i64 M.W, .int .i64 M.H, .slice a51 a52 a53, .slice a54 a55 a56, .slice a57 a58 a59] 24)
        replace hf4 := hf4.alloc (.cells #[.int .i64 M.W, .int .i64 M.H, .slice a51 a52 a53, .slice a54 a55 a56, .slice a57 a58 a59] 24)
        replace hf5 := hf5.alloc (.cells #[.int .i64 M.W, .int .i64 M.H, .slice a51 a52 a53, .slice a54 a55 a56, .slice a57 a58 a59] 24)
        have x5 := Bx.new w5 24 #[.int .i64 M.W, .int .i64 M.H, .slice a51 a52 a53, .slice a54 a55 a56, .slice a57 a58 a59]
        replace BB := BB.alloc BB.size (.cells #[.int .i64 M.W, .int .i64 M.H, .slice a51 a52 a53, .slice a54 a55 a56, .slice a57 a58 a59] 24)
        generalize w5.alloc (.cells #[.int .i64 M.W, .int .i64 M.H, .slice a51 a52 a53, .slice a54 a55 a56, .slice a57 a58 a59] 24) = wa5 at *
        refine (ref_Equal _ _ M M _ hf4 hf5).mono ?_
        rintro e w6 ⟨rfl, hb6⟩
        replace x0 := x0.ext hb6
        replace x1 := x1.ext hb6
        replace x4 := x4.ext hb6
        replace x5 := x5.ext hb6
        replace hf0 := hf0.ext hb6
        replace hg0 := hg0.ext hb6
        replace hf4 := hf4.ext hb6
        replace hf5 := hf5.ext hb6
        replace BB := BB.trans (hb6.mono BB.size)
        clear hb6
        obtain ⟨c00, c01, c02, c03, c04⟩ := x0.cells5
        have l0 := x0.lt
        obtain ⟨c10, c11, c12, c13, c14⟩ := x1.cells5
        have l1 := x1.lt
        obtain ⟨c20, c21, c22, c23, c24⟩ := x4.cells5
        have l2 := x4.lt
        obtain ⟨c30, c31, c32, c33, c34⟩ := x5.cells5
        have l3 := x5.lt
        go_wp2_with fail
        clear c00 c01 c02 c03 c04 l0
        clear c10 c11 c12 c13 c14 l1
        clear c20 c21 c22 c23 c24 l2
        clear c30 c31 c32 c33 c34 l3
        refine (plane_awake _).mono ?_
        rintro e w9 ⟨rfl, hb9⟩
        replace x0 := x0.ext hb9
        replace x1 := x1.ext hb9
        replace x4 := x4.ext hb9
        replace x5 := x5.ext hb9
        replace hf0 := hf0.ext hb9
        replace hg0 := hg0.ext hb9
        replace hf4 := hf4.ext hb9
        replace hf5 := hf5.ext hb9
        replace BB := BB.trans (hb9.mono BB.size)
        clear hb9
        obtain ⟨c00, c01, c02, c03, c04⟩ := x0.cells5
        have l0 := x0.lt
        obtain ⟨c10, c11, c12, c13, c14⟩ := x1.cells5
        have l1 := x1.lt
        obtain ⟨c20, c21, c22, c23, c24⟩ := x4.cells5
        have l2 := x4.lt
        obtain ⟨c30, c31, c32, c33, c34⟩ := x5.cells5
        have l3 := x5.lt
        go_wp2_with fail
        clear c00 c01 c02 c03 c04 l0
        clear c10 c11 c12 c13 c14 l1
        clear c20 c21 c22 c23 c24 l2
        clear c30 c31 c32 c33 c34 l3
        go_ret
        exact ⟨rfl, BB⟩
    · have hl' : lightB g = false := by simpa using hl2
      have BB : Below w.heap.size w w := Below.refl _ w
      go_enter Try.func8, Try.ntmps8
      go_wp2_with fail
      replace hf0 := hf0.alloc (.cells #[.int .i64 f.W, .int .i64 f.H, .slice b1 b2 b3, .slice b4 b5 b6, .slice b7 b8 b9] 24)
      replace hg0 := hg0.alloc (.cells #[.int .i64 f.W, .int .i64 f.H, .slice b1 b2 b3, .slice b4 b5 b6, .slice b7 b8 b9] 24)
      replace hf0 := hf0.alloc (.cells #[.int .i64 g.W, .int .i64 g.H, .slice d1 d2 d3, .slice d4 d5 d6, .slice d7 d8 d9] 24)
      replace hg0 := hg0.alloc (.cells #[.int .i64 g.W, .int .i64 g.H, .slice d1 d2 d3, .slice d4 d5 d6, .slice d7 d8 d9] 24)
      have x0 := (Bx.new w 24 #[.int .i64 f.W, .int .i64 f.H, .slice b1 b2 b3, .slice b4 b5 b6, .slice b7 b8 b9]).alloc (.cells #[.int .i64 g.W, .int .i64 g.H, .slice d1 d2 d3, .slice d4 d5 d6, .slice d7 d8 d9] 24)
      have x1 := Bx.new' (w.alloc (.cells #[.int .i64 f.W, .int .i64 f.H, .slice b1 b2 b3, .slice b4 b5 b6, .slice b7 b8 b9] 24)) 24 #[.int .i64 g.W, .int .i64 g.H, .slice d1 d2 d3, .slice d4 d5 d6, .slice d7 d8 d9] (w.heap.size + 1) (by simp)
      replace BB := (BB.alloc BB.size (.cells #[.int .i64 f.W, .int .i64 f.H, .slice b1 b2 b3, .slice b4 b5 b6, .slice b7 b8 b9] 24)).alloc (by simp) (.cells #[.int .i64 g.W, .int .i64 g.H, .slice d1 d2 d3, .slice d4 d5 d6, .slice d7 d8 d9] 24)
      generalize (w.alloc (.cells #[.int .i64 f.W, .int .i64 f.H, .slice b1 b2 b3, .slice b4 b5 b6, .slice b7 b8 b9] 24)).alloc (.cells #[.int .i64 g.W, .int .i64 g.H, .slice d1 d2 d3, .slice d4 d5 d6, .slice d7 d8 d9] 24) = wa1 at *
      refine (law_light _ f _ hf0).mono ?_
      rintro e w2 ⟨rfl, hb2⟩
      replace x0 := x0.ext hb2
      replace x1 := x1.ext hb2
      replace hf0 := hf0.ext hb2
      replace hg0 := hg0.ext hb2
      replace BB := BB.trans (hb2.mono BB.size)
      clear hb2
      obtain ⟨c00, c01, c02, c03, c04⟩ := x0.cells5
      have l0 := x0.lt
      obtain ⟨c10, c11, c12, c13, c14⟩ := x1.cells5
      have l1 := x1.lt
      go_wp2_with fail
      clear c00 c01 c02 c03 c04 l0
      clear c10 c11 c12 c13 c14 l1
      refine (law_light _ g _ hg0).mono ?_
      rintro e w3 ⟨rfl, hb3⟩
      replace x0 := x0.ext hb3
      replace x1 := x1.ext hb3
      replace hf0 := hf0.ext hb3
      replace hg0 := hg0.ext hb3
      replace BB := BB.trans (hb3.mono BB.size)
      clear hb3
      obtain ⟨c00, c01, c02, c03, c04⟩ := x0.cells5
      have l0 := x0.lt
      obtain ⟨c10, c11, c12, c13, c14⟩ := x1.cells5
      have l1 := x1.lt
      go_wp2_with fail
      clear c00 c01 c02 c03 c04 l0
      clear c10 c11 c12 c13 c14 l1
      go_ret
      exact ⟨rfl, BB⟩
  · have hl' : lightB f = false := by simpa using hl
    have BB : Below w.heap.size w w := Below.refl _ w
    go_enter Try.func8, Try.ntmps8
    go_wp2_with fail
    replace hf0 := hf0.alloc (.cells #[.int .i64 f.W, .int .i64 f.H, .slice b1 b2 b3, .slice b4 b5 b6, .slice b7 b8 b9] 24)
    replace hg0 := hg0.alloc (.cells #[.int .i64 f.W, .int .i64 f.H, .slice b1 b2 b3, .slice b4 b5 b6, .slice b7 b8 b9] 24)
    replace hf0 := hf0.alloc (.cells #[.int .i64 g.W, .int .i64 g.H, .slice d1 d2 d3, .slice d4 d5 d6, .slice d7 d8 d9] 24)
    replace hg0 := hg0.alloc (.cells #[.int .i64 g.W, .int .i64 g.H, .slice d1 d2 d3, .slice d4 d5 d6, .slice d7 d8 d9] 24)
    have x0 := (Bx.new w 24 #[.int .i64 f.W, .int .i64 f.H, .slice b1 b2 b3, .slice b4 b5 b6, .slice b7 b8 b9]).alloc (.cells #[.int .i64 g.W, .int .i64 g.H, .slice d1 d2 d3, .slice d4 d5 d6, .slice d7 d8 d9] 24)
    have x1 := Bx.new' (w.alloc (.cells #[.int .i64 f.W, .int .i64 f.H, .slice b1 b2 b3, .slice b4 b5 b6, .slice b7 b8 b9] 24)) 24 #[.int .i64 g.W, .int .i64 g.H, .slice d1 d2 d3, .slice d4 d5 d6, .slice d7 d8 d9] (w.heap.size + 1) (by simp)
    replace BB := (BB.alloc BB.size (.cells #[.int .i64 f.W, .int .i64 f.H, .slice b1 b2 b3, .slice b4 b5 b6, .slice b7 b8 b9] 24)).alloc (by simp) (.cells #[.int .i64 g.W, .int .i64 g.H, .slice d1 d2 d3, .slice d4 d5 d6, .slice d7 d8 d9] 24)
    generalize (w.alloc (.cells #[.int .i64 f.W, .int .i64 f.H, .slice b1 b2 b3, .slice b4 b5 b6, .slice b7 b8 b9] 24)).alloc (.cells #[.int .i64 g.W, .int .i64 g.H, .slice d1 d2 d3, .slice d4 d5 d6, .slice d7 d8 d9] 24) = wa1 at *
    refine (law_light _ f _ hf0).mono ?_
    rintro e w2 ⟨rfl, hb2⟩
    replace x0 := x0.ext hb2
    replace x1 := x1.ext hb2
    replace hf0 := hf0.ext hb2
    replace hg0 := hg0.ext hb2
    replace BB := BB.trans (hb2.mono BB.size)
    clear hb2
    obtain ⟨c00, c01, c02, c03, c04⟩ := x0.cells5
    have l0 := x0.lt
    obtain ⟨c10, c11, c12, c13, c14⟩ := x1.cells5
    have l1 := x1.lt
    go_wp2_with fail
    clear c00 c01 c02 c03 c04 l0
    clear c10 c11 c12 c13 c14 l1
    go_ret
    exact ⟨rfl, BB⟩
end Go.Proofs.Ytcboppldclknjaa
