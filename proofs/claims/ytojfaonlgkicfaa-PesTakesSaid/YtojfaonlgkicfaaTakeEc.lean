/- pes.Take: a packet with both timestamps. -/
import Derived.Test.YtojfaonlgkicfaaTakeC
namespace Go.Proofs.Ytojfaonlgkicfaa
open Go.RowKit

set_option maxRecDepth 100000 in
set_option maxHeartbeats 4000000 in
theorem pes_Take_badc {q : Nat → Prop} {b off n c N : Nat} {l : List Int} (x3 x4 x5 y0 y1 y2 y3 y4 yy0 yy1 yy2 yy3 yy4 : Int) (w : World) (hl : Byt q w (some ⟨b, off, none⟩) n l) (hn : 9 ≤ n) (hb : b < w.heap.size) (hnc : n ≤ c) (hn2 : n ≤ 1000000)
    (hc : w.cell? ⟨b, off, none⟩ = some (.int .u8 0) ∧ w.cell? ⟨b, off + 1, none⟩ = some (.int .u8 0) ∧ w.cell? ⟨b, off + 2, none⟩ = some (.int .u8 1) ∧ w.cell? ⟨b, off + 3, none⟩ = some (.int .u8 x3) ∧ w.cell? ⟨b, off + 4, none⟩ = some (.int .u8 x4) ∧ w.cell? ⟨b, off + 5, none⟩ = some (.int .u8 x5) ∧ w.cell? ⟨b, off + 6, none⟩ = some (.int .u8 128) ∧ w.cell? ⟨b, off + 7, none⟩ = some (.int .u8 192) ∧ w.cell? ⟨b, off + 8, none⟩ = some (.int .u8 10)) (hyc : (w.cell? ⟨b, off + 9, none⟩ = some (.int .u8 y0) ∧ w.cell? ⟨b, off + 9 + 1, none⟩ = some (.int .u8 y1) ∧ w.cell? ⟨b, off + 9 + 2, none⟩ = some (.int .u8 y2) ∧ w.cell? ⟨b, off + 9 + 3, none⟩ = some (.int .u8 y3) ∧ w.cell? ⟨b, off + 9 + 4, none⟩ = some (.int .u8 y4)) ∧ (w.cell? ⟨b, off + 14, none⟩ = some (.int .u8 yy0) ∧ w.cell? ⟨b, off + 14 + 1, none⟩ = some (.int .u8 yy1) ∧ w.cell? ⟨b, off + 14 + 2, none⟩ = some (.int .u8 yy2) ∧ w.cell? ⟨b, off + 14 + 3, none⟩ = some (.int .u8 yy3) ∧ w.cell? ⟨b, off + 14 + 4, none⟩ = some (.int .u8 yy4))) (hry0 : 0 ≤ y0 ∧ y0 ≤ 255) (hry1 : 0 ≤ y1 ∧ y1 ≤ 255) (hry2 : 0 ≤ y2 ∧ y2 ≤ 255) (hry3 : 0 ≤ y3 ∧ y3 ≤ 255) (hry4 : 0 ≤ y4 ∧ y4 ≤ 255) (hryy0 : 0 ≤ yy0 ∧ yy0 ≤ 255) (hryy1 : 0 ≤ yy1 ∧ yy1 ≤ 255) (hryy2 : 0 ≤ yy2 ∧ yy2 ≤ 255) (hryy3 : 0 ≤ yy3 ∧ yy3 ≤ 255) (hryy4 : 0 ≤ yy4 ∧ yy4 ≤ 255)
    (h3 : 192 ≤ x3 ∧ x3 ≤ 239) (h4 : 0 ≤ x4 ∧ x4 ≤ 255) (h5 : 0 ≤ x5 ∧ x5 ≤ 255) (hN : (N : Int) = x4 * 256 + x5) (hNz : 3 + 10 ≤ N) (hle : 6 + N ≤ n) (hoky : tsOk 3 y0 y2 y4 = true) (hokyy : tsOk 1 yy0 yy2 yy4 = false) :
    Calls Try.prog 22 #[.slice (some ⟨b, off, none⟩) n c] w (RetT w 0 0 0 [] 0 3) := by
  have hk : szK 192 = 10 ∧ okK 192 = true := by decide
  have hle' : 6 + (N : Int) ≤ (n : Int) := by omega
  have hcc : 6 + (N : Int) ≤ (c : Int) := by omega
  have h14 : (14 : Int) ≤ (n : Int) := by omega
  have h9 : (9 : Int) ≤ (n : Int) := by omega
  have h9c : (n : Int) ≤ (c : Int) := by omega
  have h9d : 19 ≤ c := by omega
  obtain ⟨M, hM⟩ : ∃ M : Int, 6 + (N : Int) = M := ⟨_, rfl⟩
  rw [hM] at hle' hcc
  have HYC := Lib.hid hyc
  clear hyc
  obtain ⟨c0, c1, c2, c3, c4, c5, c6, c7, c8⟩ := hc
  have C7 := Lib.hid c7
  have hcall := fun W => pes_sizeOf 192 W
  rw [hk.1, hk.2] at hcall
  have HCALL := Lib.hid hcall
  clear hcall hk
  have o1 : bits .or .i64 (x4 * 256) x5 = (N : Int) := by rw [i64_or_low 8 x4 x5 256 rfl (by omega) (by omega) (by omega) (by omega)]; omega
  have w1 : IntKind.i64.wrap (x4 * 256) = x4 * 256 := IntWalk.i64_in _ (by omega)
  have w2 : IntKind.i64.wrap x4 = x4 := IntWalk.i64_in _ (by omega)
  have w3 : IntKind.i64.wrap x5 = x5 := IntWalk.i64_in _ (by omega)
  have N2 : N ≤ 65535 := by omega
  have HNE := Lib.hid hN
  clear hN
  have hmf : ∀ (fn : Fn) (first cap : Array Value) (w : World), (Instr.makeFunc fn first cap).run Try.prog w = .ok (.func fn first cap) w := fun _ _ _ _ => rfl
  have B0 : Below w.heap.size w (((w.alloc (.cells #[.int .i64 0, .int .i64 0, .int .i64 0, .slice none 0 0] 30)).alloc (.cells #[.int .i64 0] 3)).alloc (.cells #[.int .i64 0] 38)) := (((Below.refl _ w).alloc (Nat.le_refl _) _).alloc (by simp) _).alloc (by simp; omega) _
  have X1 : Bx (((w.alloc (.cells #[.int .i64 0, .int .i64 0, .int .i64 0, .slice none 0 0] 30)).alloc (.cells #[.int .i64 0] 3)).alloc (.cells #[.int .i64 0] 38)) w.heap.size 30 #[.int .i64 0, .int .i64 0, .int .i64 0, .slice none 0 0] := ((Bx.new _ _ _).alloc _).alloc _
  have X2 : Bx (((w.alloc (.cells #[.int .i64 0, .int .i64 0, .int .i64 0, .slice none 0 0] 30)).alloc (.cells #[.int .i64 0] 3)).alloc (.cells #[.int .i64 0] 38)) (w.heap.size + 1) 3 #[.int .i64 0] := (Bx.new' _ _ _ _ (by simp)).alloc _
  have X3 : Bx (((w.alloc (.cells #[.int .i64 0, .int .i64 0, .int .i64 0, .slice none 0 0] 30)).alloc (.cells #[.int .i64 0] 3)).alloc (.cells #[.int .i64 0] 38)) (w.heap.size + 1 + 1) 38 #[.int .i64 0] := Bx.new' _ _ _ _ (by simp)
  go_enter_defers Try.func22, Try.ntmps22
  go_upto_region 2 with fail
  generalize ((w.alloc (.cells #[.int .i64 0, .int .i64 0, .int .i64 0, .slice none 0 0] 30)).alloc (.cells #[.int .i64 0] 3)).alloc (.cells #[.int .i64 0] 38) = W at *
  have q0 := B0.size
  obtain ⟨u0, u1, u2, u3⟩ := X1.cells4
  have u4 : W.cell? ⟨w.heap.size + 1, 0, none⟩ = some (.int .i64 0) := X2.cell 0 rfl
  have u5 : W.cell? ⟨w.heap.size + 1 + 1, 0, none⟩ = some (.int .i64 0) := X3.cell 0 rfl
  have v0 := X1.frozen 0
  have v1 := X1.frozen 1
  have v2 := X1.frozen 2
  have v3 := X1.frozen 3
  have v4 := X2.frozen 0
  have v5 := X3.frozen 0
  have t1 := X1.lt
  have t2 := X2.lt
  have t3 := X3.lt
  have c0 : W.cell? ⟨b, off, none⟩ = some (.int .u8 0) := (B0.cell (p := ⟨b, off, none⟩) hb).trans c0
  have c1 : W.cell? ⟨b, off + 1, none⟩ = some (.int .u8 0) := (B0.cell (p := ⟨b, off + 1, none⟩) hb).trans c1
  have c2 : W.cell? ⟨b, off + 2, none⟩ = some (.int .u8 1) := (B0.cell (p := ⟨b, off + 2, none⟩) hb).trans c2
  have c3 : W.cell? ⟨b, off + 3, none⟩ = some (.int .u8 x3) := (B0.cell (p := ⟨b, off + 3, none⟩) hb).trans c3
  have c4 : W.cell? ⟨b, off + 4, none⟩ = some (.int .u8 x4) := (B0.cell (p := ⟨b, off + 4, none⟩) hb).trans c4
  have c5 : W.cell? ⟨b, off + 5, none⟩ = some (.int .u8 x5) := (B0.cell (p := ⟨b, off + 5, none⟩) hb).trans c5
  have c6 : W.cell? ⟨b, off + 6, none⟩ = some (.int .u8 128) := (B0.cell (p := ⟨b, off + 6, none⟩) hb).trans c6
  have c7 : W.cell? ⟨b, off + 7, none⟩ = some (.int .u8 192) := (B0.cell (p := ⟨b, off + 7, none⟩) hb).trans c7
  have c8 : W.cell? ⟨b, off + 8, none⟩ = some (.int .u8 10) := (B0.cell (p := ⟨b, off + 8, none⟩) hb).trans c8
  go_wp2_with fail
  refine (HCALL.out _).mono ?_
  rintro e w1 ⟨rfl, rfl⟩
  go_wp2_with fail
  go_quiet (fail)
  clear o1 w1 w2 w3 c4 c5
  go_upto_region 12 with fail
  have HM := Lib.hid hM
  have hM9 : 9 + 10 ≤ M := by omega
  clear hM
  have Z1 := ((((((Bx.drewN X1 nq).far (a := ⟨w.heap.size + 1, 0, none⟩) (by dsimp only; omega) (.int .i64 M)).set_ 0 (.int .i64 x3)).set_ 1 (.int .i64 (-1))).set_ 2 (.int .i64 (-1))).set_ 3 (.slice none 0 0))
  have Z2 := ((((((Bx.drewN X2 nq).set_ 0 (.int .i64 M)).far (a := ⟨w.heap.size, 0, none⟩) (by dsimp only; omega) (.int .i64 x3)).far (a := ⟨w.heap.size, 1, none⟩) (by dsimp only; omega) (.int .i64 (-1))).far (a := ⟨w.heap.size, 2, none⟩) (by dsimp only; omega) (.int .i64 (-1))).far (a := ⟨w.heap.size, 3, none⟩) (by dsimp only; omega) (.slice none 0 0))
  have Z3 := ((((((Bx.drewN X3 nq).far (a := ⟨w.heap.size + 1, 0, none⟩) (by dsimp only; omega) (.int .i64 M)).far (a := ⟨w.heap.size, 0, none⟩) (by dsimp only; omega) (.int .i64 x3)).far (a := ⟨w.heap.size, 1, none⟩) (by dsimp only; omega) (.int .i64 (-1))).far (a := ⟨w.heap.size, 2, none⟩) (by dsimp only; omega) (.int .i64 (-1))).far (a := ⟨w.heap.size, 3, none⟩) (by dsimp only; omega) (.slice none 0 0))
  have BV := bset (bset (bset (bset (bset (bdrewN B0 nq) ⟨w.heap.size + 1, 0, none⟩ (by dsimp only; omega) (.int .i64 M)) ⟨w.heap.size, 0, none⟩ (Nat.le_refl _) (.int .i64 x3)) ⟨w.heap.size, 1, none⟩ (Nat.le_refl _) (.int .i64 (-1))) ⟨w.heap.size, 2, none⟩ (Nat.le_refl _) (.int .i64 (-1))) ⟨w.heap.size, 3, none⟩ (Nat.le_refl _) (.slice none 0 0)
  clear X1 X2 X3 B0 u0 u1 u2 u3 u4 u5 v0 v1 v2 v3 v4 v5 t1 t2 t3 c3 c7 q0
  generalize (((((W.drewN nq).setCell ⟨w.heap.size + 1, 0, none⟩ (.int .i64 M)).setCell ⟨w.heap.size, 0, none⟩ (.int .i64 x3)).setCell ⟨w.heap.size, 1, none⟩ (.int .i64 (-1))).setCell ⟨w.heap.size, 2, none⟩ (.int .i64 (-1))).setCell ⟨w.heap.size, 3, none⟩ (.slice none 0 0) = V at *
  have Z1 : Bx V w.heap.size 30 #[.int .i64 x3, .int .i64 (-1), .int .i64 (-1), .slice none 0 0] := Z1
  have Z2 : Bx V (w.heap.size + 1) 3 #[.int .i64 M] := Z2
  have Z3 : Bx V (w.heap.size + 1 + 1) 38 #[.int .i64 0] := Z3
  have q0 := BV.size
  have u4 : V.cell? ⟨w.heap.size + 1, 0, none⟩ = some (.int .i64 M) := Z2.cell 0 rfl
  obtain ⟨u0, u1, u2, u3⟩ := Z1.cells4
  have u5 : V.cell? ⟨w.heap.size + 1 + 1, 0, none⟩ = some (.int .i64 0) := Z3.cell 0 rfl
  have v0 := Z1.frozen 0
  have v1 := Z1.frozen 1
  have v2 := Z1.frozen 2
  have v3 := Z1.frozen 3
  have v4 := Z2.frozen 0
  have v5 := Z3.frozen 0
  have t1 := Z1.lt
  have t2 := Z2.lt
  have t3 := Z3.lt
  have c7 : V.cell? ⟨b, off + 7, none⟩ = some (.int .u8 192) := (BV.cell (p := ⟨b, off + 7, none⟩) hb).trans C7.out
  go_wp2_with fail
  refine (pes_takeStamp_yes 3 y0 y1 y2 y3 y4 _ (by omega) ((BV.cell (p := ⟨b, off + 9, none⟩) hb).trans HYC.out.1.1) ((BV.cell (p := ⟨b, off + 9 + 1, none⟩) hb).trans HYC.out.1.2.1) ((BV.cell (p := ⟨b, off + 9 + 2, none⟩) hb).trans HYC.out.1.2.2.1) ((BV.cell (p := ⟨b, off + 9 + 3, none⟩) hb).trans HYC.out.1.2.2.2.1) ((BV.cell (p := ⟨b, off + 9 + 4, none⟩) hb).trans HYC.out.1.2.2.2.2) hry0 hry1 hry2 hry3 hry4 hoky).mono ?_
  rintro e wt ⟨rfl, m1, rfl⟩
  generalize tsV y0 y1 y2 y3 y4 = P at *
  go_upto_region 18 with fail
  have Z1 := (Bx.drewN Z1 m1).set_ 1 (.int .i64 P)
  have Z2 := (Bx.drewN Z2 m1).far (a := ⟨w.heap.size, 1, none⟩) (by dsimp only; omega) (.int .i64 P)
  have Z3 := (Bx.drewN Z3 m1).far (a := ⟨w.heap.size, 1, none⟩) (by dsimp only; omega) (.int .i64 P)
  have BV := bset (bdrewN BV m1) ⟨w.heap.size, 1, none⟩ (Nat.le_refl _) (.int .i64 P)
  clear u0 u1 u2 u3 u4 u5 v0 v1 v2 v3 v4 v5 t1 t2 t3 c7 q0
  generalize (V.drewN m1).setCell ⟨w.heap.size, 1, none⟩ (.int .i64 P) = V1 at *
  have Z1 : Bx V1 w.heap.size 30 #[.int .i64 x3, .int .i64 P, .int .i64 (-1), .slice none 0 0] := Z1
  have Z2 : Bx V1 (w.heap.size + 1) 3 #[.int .i64 M] := Z2
  have Z3 : Bx V1 (w.heap.size + 1 + 1) 38 #[.int .i64 0] := Z3
  have q0 := BV.size
  have u4 : V1.cell? ⟨w.heap.size + 1, 0, none⟩ = some (.int .i64 M) := Z2.cell 0 rfl
  obtain ⟨u0, u1, u2, u3⟩ := Z1.cells4
  have u5 : V1.cell? ⟨w.heap.size + 1 + 1, 0, none⟩ = some (.int .i64 0) := Z3.cell 0 rfl
  have v0 := Z1.frozen 0
  have v1 := Z1.frozen 1
  have v2 := Z1.frozen 2
  have v3 := Z1.frozen 3
  have v4 := Z2.frozen 0
  have v5 := Z3.frozen 0
  have t1 := Z1.lt
  have t2 := Z2.lt
  have t3 := Z3.lt
  have c7 : V1.cell? ⟨b, off + 7, none⟩ = some (.int .u8 192) := (BV.cell (p := ⟨b, off + 7, none⟩) hb).trans C7.out
  go_wp2_with fail
  refine (pes_takeStamp_no 1 yy0 yy1 yy2 yy3 yy4 _ (by omega) ((BV.cell (p := ⟨b, off + 14, none⟩) hb).trans HYC.out.2.1) ((BV.cell (p := ⟨b, off + 14 + 1, none⟩) hb).trans HYC.out.2.2.1) ((BV.cell (p := ⟨b, off + 14 + 2, none⟩) hb).trans HYC.out.2.2.2.1) ((BV.cell (p := ⟨b, off + 14 + 3, none⟩) hb).trans HYC.out.2.2.2.2.1) ((BV.cell (p := ⟨b, off + 14 + 4, none⟩) hb).trans HYC.out.2.2.2.2.2) hryy0 hryy1 hryy2 hryy3 hryy4 (by omega) hokyy).mono ?_
  rintro e wt ⟨rfl, rfl⟩
  go_wp2_with fail
  exact take_zero 3 _ rfl rfl rfl rfl rfl (Z1.set_ 2 _) (Z2.far (by dsimp only; omega) _) (Z3.far (by dsimp only; omega) _) (bset BV _ (Nat.le_refl _) _)

end Go.Proofs.Ytojfaonlgkicfaa
