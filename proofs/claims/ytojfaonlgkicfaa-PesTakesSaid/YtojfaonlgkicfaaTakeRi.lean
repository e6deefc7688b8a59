/- The reference's Take: a packet with timestamps. -/
import Derived.Test.YtojfaonlgkicfaaTakeRe
namespace Go.Proofs.Ytojfaonlgkicfaa
open Go.RowKit
attribute [local go_sem ↓] Go.wp_at_zero Go.wp_at_succ

set_option maxRecDepth 100000 in
set_option maxHeartbeats 4000000 in
theorem ref_Take_k2n {q : Nat → Prop} {b off n c N : Nat} {l : List Int} (x3 x4 x5 y0 y1 y2 y3 y4 z0 z1 z2 z3 z4 : Int) (w : World) (hl : Byt q w (some ⟨b, off, none⟩) n l) (hn : 9 ≤ n) (hb : b < w.heap.size) (hnc : n ≤ c) (hn2 : n ≤ 1000000)
    (hc : w.cell? ⟨b, off, none⟩ = some (.int .u8 0) ∧ w.cell? ⟨b, off + 1, none⟩ = some (.int .u8 0) ∧ w.cell? ⟨b, off + 2, none⟩ = some (.int .u8 1) ∧ w.cell? ⟨b, off + 3, none⟩ = some (.int .u8 x3) ∧ w.cell? ⟨b, off + 4, none⟩ = some (.int .u8 x4) ∧ w.cell? ⟨b, off + 5, none⟩ = some (.int .u8 x5) ∧ w.cell? ⟨b, off + 6, none⟩ = some (.int .u8 128) ∧ w.cell? ⟨b, off + 7, none⟩ = some (.int .u8 192) ∧ w.cell? ⟨b, off + 8, none⟩ = some (.int .u8 10))
    (hyc : w.cell? ⟨b, off + 9, none⟩ = some (.int .u8 y0) ∧ w.cell? ⟨b, off + 9 + 1, none⟩ = some (.int .u8 y1) ∧ w.cell? ⟨b, off + 9 + 2, none⟩ = some (.int .u8 y2) ∧ w.cell? ⟨b, off + 9 + 3, none⟩ = some (.int .u8 y3) ∧ w.cell? ⟨b, off + 9 + 4, none⟩ = some (.int .u8 y4)) (hry0 : 0 ≤ y0 ∧ y0 ≤ 255) (hry1 : 0 ≤ y1 ∧ y1 ≤ 255) (hry2 : 0 ≤ y2 ∧ y2 ≤ 255) (hry3 : 0 ≤ y3 ∧ y3 ≤ 255) (hry4 : 0 ≤ y4 ∧ y4 ≤ 255) (hzc : w.cell? ⟨b, off + 14, none⟩ = some (.int .u8 z0) ∧ w.cell? ⟨b, off + 14 + 1, none⟩ = some (.int .u8 z1) ∧ w.cell? ⟨b, off + 14 + 2, none⟩ = some (.int .u8 z2) ∧ w.cell? ⟨b, off + 14 + 3, none⟩ = some (.int .u8 z3) ∧ w.cell? ⟨b, off + 14 + 4, none⟩ = some (.int .u8 z4)) (hrz0 : 0 ≤ z0 ∧ z0 ≤ 255) (hrz1 : 0 ≤ z1 ∧ z1 ≤ 255) (hrz2 : 0 ≤ z2 ∧ z2 ≤ 255) (hrz3 : 0 ≤ z3 ∧ z3 ≤ 255) (hrz4 : 0 ≤ z4 ∧ z4 ≤ 255)
    (h3 : 192 ≤ x3 ∧ x3 ≤ 239) (h4 : 0 ≤ x4 ∧ x4 ≤ 255) (h5 : 0 ≤ x5 ∧ x5 ≤ 255) (hN : (N : Int) = x4 * 256 + x5) (hNz : 13 ≤ N) (hle : 6 + N ≤ n) (heq : putL x3 (tsV y0 y1 y2 y3 y4) (tsV z0 z1 z2 z3 z4) ((l.drop 19).take (N - 13)) ≠ l.take (6 + N)) :
    Calls Try.prog 23 #[.slice (some ⟨b, off, none⟩) n c] w (RetT w 0 0 0 [] 0 3) := by
  have trY := tsV_rng hry0 hry1 hry2 hry3 hry4
  have HYC := Lib.hid hyc
  clear hyc
  have trZ := tsV_rng hrz0 hrz1 hrz2 hrz3 hrz4
  have HZC := Lib.hid hzc
  clear hzc
  have h14 : (14 : Int) ≤ (c : Int) := by omega
  have h14c : 14 ≤ c := by omega
  have h14n : (14 : Int) ≤ (n : Int) := by omega
  have h19 : (19 : Int) ≤ (c : Int) := by omega
  have h19c : 19 ≤ c := by omega
  have h19n : (19 : Int) ≤ (n : Int) := by omega
  obtain ⟨c0, c1, c2, c3, c4, c5, c6, c7, c8⟩ := hc
  have C3 := Lib.hid c3
  have o1 : bits .or .i64 (x4 * 256) x5 = (N : Int) := by rw [i64_or_low 8 x4 x5 256 rfl (by omega) (by omega) (by omega) (by omega)]; omega
  have w1 : IntKind.i64.wrap (x4 * 256) = x4 * 256 := IntWalk.i64_in _ (by omega)
  have w2 : IntKind.i64.wrap x4 = x4 := IntWalk.i64_in _ (by omega)
  have w3 : IntKind.i64.wrap x5 = x5 := IntWalk.i64_in _ (by omega)
  have N2 : N ≤ 65535 := by omega
  have hle' : 6 + (N : Int) ≤ (n : Int) := by omega
  have hcc : 6 + (N : Int) ≤ (c : Int) := by omega
  obtain ⟨M, hM⟩ : ∃ M : Int, 6 + (N : Int) = M := ⟨_, rfl⟩
  rw [hM] at hle' hcc
  have w4 : IntKind.i64.wrap M = M := IntWalk.i64_in _ (by omega)
  have w5 : IntKind.i64.wrap (6 + (N : Int)) = M := by rw [hM]; exact w4
  clear hN
  have HEQ := Lib.hid heq
  clear heq
  obtain ⟨A9, c9, hsl, HB9⟩ := sub_any b off n c (9 + 10) M (by omega) (by omega) (by omega)
  obtain ⟨D9, hD9⟩ : ∃ D : Nat, (M - (9 + 10)).toNat = D := ⟨_, rfl⟩
  rw [hD9] at hsl HB9
  have bD9 : D9 ≤ 1000000 := by omega
  have HD9 := Lib.hid hD9
  clear hD9
  have hsl : ∀ w, (Instr.slice 27 (.slice (some ⟨b, off, none⟩) n c) (some (.int .i64 19)) (some (.int .i64 M)) none).run Try.prog w = .ok (.slice A9 D9 c9) w := hsl
  have B0 : Below w.heap.size w (w.alloc (.cells #[.int .i64 0, .int .i64 0, .int .i64 0, .slice none 0 0] 29)) := (Below.refl _ w).alloc (Nat.le_refl _) _
  have X1 : Bx (w.alloc (.cells #[.int .i64 0, .int .i64 0, .int .i64 0, .slice none 0 0] 29)) w.heap.size 29 #[.int .i64 0, .int .i64 0, .int .i64 0, .slice none 0 0] := Bx.new _ _ _
  go_enter Try.func23, Try.ntmps23
  go_upto_region 1 with fail
  generalize w.alloc (.cells #[.int .i64 0, .int .i64 0, .int .i64 0, .slice none 0 0] 29) = W at *
  have q0 := B0.size
  obtain ⟨u0, u1, u2, u3⟩ := X1.cells4
  have v0 := X1.frozen 0
  have v1 := X1.frozen 1
  have v2 := X1.frozen 2
  have v3 := X1.frozen 3
  have t1 := X1.lt
  have c0 : W.cell? ⟨b, off, none⟩ = some (.int .u8 0) := (B0.cell (p := ⟨b, off, none⟩) hb).trans c0
  have c1 : W.cell? ⟨b, off + 1, none⟩ = some (.int .u8 0) := (B0.cell (p := ⟨b, off + 1, none⟩) hb).trans c1
  have c2 : W.cell? ⟨b, off + 2, none⟩ = some (.int .u8 1) := (B0.cell (p := ⟨b, off + 2, none⟩) hb).trans c2
  have c3 : W.cell? ⟨b, off + 3, none⟩ = some (.int .u8 x3) := (B0.cell (p := ⟨b, off + 3, none⟩) hb).trans c3
  have c4 : W.cell? ⟨b, off + 4, none⟩ = some (.int .u8 x4) := (B0.cell (p := ⟨b, off + 4, none⟩) hb).trans c4
  have c5 : W.cell? ⟨b, off + 5, none⟩ = some (.int .u8 x5) := (B0.cell (p := ⟨b, off + 5, none⟩) hb).trans c5
  have c6 : W.cell? ⟨b, off + 6, none⟩ = some (.int .u8 128) := (B0.cell (p := ⟨b, off + 6, none⟩) hb).trans c6
  have c7 : W.cell? ⟨b, off + 7, none⟩ = some (.int .u8 192) := (B0.cell (p := ⟨b, off + 7, none⟩) hb).trans c7
  have c8 : W.cell? ⟨b, off + 8, none⟩ = some (.int .u8 10) := (B0.cell (p := ⟨b, off + 8, none⟩) hb).trans c8
  go_wp2_with fail
  go_quiet (fail)
  clear o1 w1 w2 w3
  go_upto_region 10 with fail
  have X1 := Bx.drewN X1 nq
  have B0 := bdrewN B0 nq
  generalize W.drewN nq = V at *
  have HHL := Lib.hid (show (headL (tsV y0 y1 y2 y3 y4) (tsV z0 z1 z2 z3 z4)).2.length = 10 by unfold headL; rw [if_neg (by omega), if_neg (by omega)]; rfl)
  have HM := Lib.hid hM
  have hDV : Byt (· < w.heap.size) V A9 D9 ((l.drop 19).take (N - 13)) := by
    have h := HB9 _ _ _ hle' ((hl.mono (q := (· < w.heap.size)) (fun _ h _ => h)).below B0 (fun _ _ h => h))
    have e1 : ((9 : Int) + 10).toNat = 19 := rfl
    have e2 : D9 = N - 13 := by have := HD9.out; omega
    rw [e1] at h
    rw [← e2]
    exact h
  have HB9' := Lib.hid HB9
  clear HB9
  have c3V : V.cell? ⟨b, off + 3, none⟩ = some (.int .u8 x3) := (B0.cell (p := ⟨b, off + 3, none⟩) hb).trans C3.out
  have tV := X1.lt
  have i3 : (3 : Int) < (n : Int) := by omega
  have w6 : IntKind.i64.wrap (19 : Int) = 19 := by decide
  clear c0 c1 c2 c4 c5 c6 c7 c8 u0 u1 u2 u3 v0 v1 v2 v3 c3
  have hbase1 : w.heap.size + 1 ≤ V.heap.size := by omega
  have oE := OwB.lit V.drew (w.heap.size + 1) 5 [] 0 rfl rfl rfl hbase1 (by omega)
  have cE := ((Below.refl V.heap.size V).drew.alloc (Nat.le_refl _) (.cells #[] 5)).cell (p := ⟨b, off + 3, none⟩) (show b < V.heap.size by omega)
  have cB := ((Below.refl V.heap.size V).drew.alloc (Nat.le_refl _) (.cells #[.int .i64 0, .int .i64 0, .int .i64 0, .slice none 0 0] 29)).cell (p := ⟨b, off + 3, none⟩) (show b < V.heap.size by omega)
  have cEB := (((Below.refl V.heap.size V).drew.alloc (Nat.le_refl _) (.cells #[] 5)).alloc (by simp) (.cells #[.int .i64 0, .int .i64 0, .int .i64 0, .slice none 0 0] 29)).cell (p := ⟨b, off + 3, none⟩) (show b < V.heap.size by omega)
  have cBE := (((Below.refl V.heap.size V).drew.alloc (Nat.le_refl _) (.cells #[.int .i64 0, .int .i64 0, .int .i64 0, .slice none 0 0] 29)).alloc (by simp) (.cells #[] 5)).cell (p := ⟨b, off + 3, none⟩) (show b < V.heap.size by omega)
  have m1 : OwB (V.drew.alloc (.cells #[] 5)) (w.heap.size + 1) 5 (.slice (some ⟨V.heap.size, 0, none⟩) 0 0) [] ∧ Byt (· < w.heap.size) (V.drew.alloc (.cells #[] 5)) A9 D9 ((l.drop 19).take (N - 13)) ∧ D9 ≤ 100000000 ∧ w.heap.size + 1 ≤ (V.drew.alloc (.cells #[] 5)).heap.size ∧ Bx (V.drew.alloc (.cells #[] 5)) w.heap.size 29 #[.int .i64 0, .int .i64 0, .int .i64 0, .slice none 0 0] ∧ some w.heap.size ≠ (Value.slice (some ⟨V.heap.size, 0, none⟩) 0 0).ownBlock ∧ (V.drew.alloc (.cells #[] 5)).cell? ⟨b, off + 3, none⟩ = some (.int .u8 x3) ∧ (⟨b, off + 3, none⟩ : Addr).block < w.heap.size + 1 :=
    ⟨oE, hDV.drew.alloc _, by omega, by simp; omega, X1.drew.alloc _, by simp [Value.ownBlock]; omega, cE.trans c3V, by dsimp only; omega⟩
  have m2 : OwB ((V.drew.alloc (.cells #[] 5)).alloc (.cells #[.int .i64 0, .int .i64 0, .int .i64 0, .slice none 0 0] 29)) (w.heap.size + 1) 5 (.slice (some ⟨V.heap.size, 0, none⟩) 0 0) [] ∧ Byt (· < w.heap.size) ((V.drew.alloc (.cells #[] 5)).alloc (.cells #[.int .i64 0, .int .i64 0, .int .i64 0, .slice none 0 0] 29)) A9 D9 ((l.drop 19).take (N - 13)) ∧ D9 ≤ 100000000 ∧ w.heap.size + 1 ≤ ((V.drew.alloc (.cells #[] 5)).alloc (.cells #[.int .i64 0, .int .i64 0, .int .i64 0, .slice none 0 0] 29)).heap.size ∧ Bx ((V.drew.alloc (.cells #[] 5)).alloc (.cells #[.int .i64 0, .int .i64 0, .int .i64 0, .slice none 0 0] 29)) (V.heap.size + 1) 29 #[.int .i64 0, .int .i64 0, .int .i64 0, .slice none 0 0] ∧ some (V.heap.size + 1) ≠ (Value.slice (some ⟨V.heap.size, 0, none⟩) 0 0).ownBlock ∧ ((V.drew.alloc (.cells #[] 5)).alloc (.cells #[.int .i64 0, .int .i64 0, .int .i64 0, .slice none 0 0] 29)).cell? ⟨b, off + 3, none⟩ = some (.int .u8 x3) ∧ (⟨b, off + 3, none⟩ : Addr).block < w.heap.size + 1 :=
    ⟨oE.alloc _, (hDV.drew.alloc _).alloc _, by omega, by simp; omega, Bx.new' _ _ _ _ (by simp), by simp [Value.ownBlock], cEB.trans c3V, by dsimp only; omega⟩
  have m3 : OwB ((V.drew.alloc (.cells #[.int .i64 0, .int .i64 0, .int .i64 0, .slice none 0 0] 29)).alloc (.cells #[] 5)) (w.heap.size + 1) 5 (.slice (some ⟨V.heap.size + 1, 0, none⟩) 0 0) [] ∧ Byt (· < w.heap.size) ((V.drew.alloc (.cells #[.int .i64 0, .int .i64 0, .int .i64 0, .slice none 0 0] 29)).alloc (.cells #[] 5)) A9 D9 ((l.drop 19).take (N - 13)) ∧ D9 ≤ 100000000 ∧ w.heap.size + 1 ≤ ((V.drew.alloc (.cells #[.int .i64 0, .int .i64 0, .int .i64 0, .slice none 0 0] 29)).alloc (.cells #[] 5)).heap.size ∧ Bx ((V.drew.alloc (.cells #[.int .i64 0, .int .i64 0, .int .i64 0, .slice none 0 0] 29)).alloc (.cells #[] 5)) V.heap.size 29 #[.int .i64 0, .int .i64 0, .int .i64 0, .slice none 0 0] ∧ some V.heap.size ≠ (Value.slice (some ⟨V.heap.size + 1, 0, none⟩) 0 0).ownBlock ∧ ((V.drew.alloc (.cells #[.int .i64 0, .int .i64 0, .int .i64 0, .slice none 0 0] 29)).alloc (.cells #[] 5)).cell? ⟨b, off + 3, none⟩ = some (.int .u8 x3) ∧ (⟨b, off + 3, none⟩ : Addr).block < w.heap.size + 1 :=
    ⟨OwB.lit (V.drew.alloc (.cells #[.int .i64 0, .int .i64 0, .int .i64 0, .slice none 0 0] 29)) (w.heap.size + 1) 5 [] 0 rfl rfl (by simp) (by omega) (by omega), (hDV.drew.alloc _).alloc _, by omega, by simp; omega, (Bx.new' V.drew _ _ _ rfl).alloc _, by simp [Value.ownBlock], cBE.trans c3V, by dsimp only; omega⟩
  have M1 := Lib.hid m1
  have M2 := Lib.hid m2
  have M3 := Lib.hid m3
  clear m1 m2 m3 oE cE cB cEB cBE
  have nb1 : ¬ b = V.heap.size := by omega
  have nb2 : ¬ b = V.heap.size + 1 := by omega
  have w7 : IntKind.i64.wrap x3 = x3 := IntWalk.i64_in _ (by omega)
  go_cut [7] (fun s7 wx => TkMid w x3 ((l.drop 19).take (N - 13)) s7 wx)
  case first =>
    rename_i J K2 hJ hK2
    go_region_held3 (fun w' => w'.cell? ⟨b, off + 3, none⟩ = some (.int .u8 x3)) (first | go_keep | exact hc3' | exact cell_far4 nb2 hc3' | exact cell_far4 nb1 hc3')
      (first
        | (refine step_appM _ (by rfl) (.tmp 109) (.tmp 115) 27 (by rfl) 5 Try.underlying27 Try.infoB (w.heap.size + 1) _ (by rfl) A9 D9 c9 (by rfl) ((l.drop 19).take (N - 13)) w.heap.size 29 #[.int .i64 0, .int .i64 0, .int .i64 0, .slice none 0 0] ⟨b, off + 3, none⟩ (.int .u8 x3) M1 ?_; intro A3 k3 w3 ho3 xb hc3' hbe; obtain ⟨y0, y1, y2, y3⟩ := xb.cells4; have y4 := xb.frozen 0; have y5 := xb.frozen 1; have y6 := xb.frozen 2; have y7 := xb.frozen 3; have y8 := xb.lt)
        | (refine step_appM _ (by rfl) (.tmp 109) (.tmp 115) 27 (by rfl) 5 Try.underlying27 Try.infoB (w.heap.size + 1) _ (by rfl) A9 D9 c9 (by rfl) ((l.drop 19).take (N - 13)) (V.heap.size + 1) 29 #[.int .i64 0, .int .i64 0, .int .i64 0, .slice none 0 0] ⟨b, off + 3, none⟩ (.int .u8 x3) M2 ?_; intro A3 k3 w3 ho3 xb hc3' hbe; obtain ⟨y0, y1, y2, y3⟩ := xb.cells4; have y4 := xb.frozen 0; have y5 := xb.frozen 1; have y6 := xb.frozen 2; have y7 := xb.frozen 3; have y8 := xb.lt)
        | (refine step_appM _ (by rfl) (.tmp 109) (.tmp 115) 27 (by rfl) 5 Try.underlying27 Try.infoB (w.heap.size + 1) _ (by rfl) A9 D9 c9 (by rfl) ((l.drop 19).take (N - 13)) V.heap.size 29 #[.int .i64 0, .int .i64 0, .int .i64 0, .slice none 0 0] ⟨b, off + 3, none⟩ (.int .u8 x3) M3 ?_; intro A3 k3 w3 ho3 xb hc3' hbe; obtain ⟨y0, y1, y2, y3⟩ := xb.cells4; have y4 := xb.frozen 0; have y5 := xb.frozen 1; have y6 := xb.frozen 2; have y7 := xb.frozen 3; have y8 := xb.lt))
    all_goals
      refine hK2 _ _ (hJ _ _ ?_)
      clear hK2 hJ
      (repeat apply Exists.intro)
      refine ⟨?_, rfl⟩
    · exact tk1 rfl rfl ho3 xb hDV.rng hbe (B0.drew.alloc (show w.heap.size ≤ V.heap.size by omega) (.cells #[] 5))
    · exact tk2 rfl (by omega) ho3 xb hDV.rng hbe ((B0.drew.alloc (show w.heap.size ≤ V.heap.size by omega) (.cells #[] 5)).alloc (by simp; omega) (.cells #[.int .i64 0, .int .i64 0, .int .i64 0, .slice none 0 0] 29)) ((X1.drew.alloc _).alloc _)
    · exact tk2 rfl (by omega) ho3 xb hDV.rng hbe ((B0.drew.alloc (show w.heap.size ≤ V.heap.size by omega) (.cells #[.int .i64 0, .int .i64 0, .int .i64 0, .slice none 0 0] 29)).alloc (by simp; omega) (.cells #[] 5)) ((X1.drew.alloc _).alloc _)
  case rest =>
    obtain ⟨g7, Ad, nd, cd, rfl, xP, hDd, hg7, xR, BC⟩ := hcut
    have hlC := (hl.mono (q := (· < w.heap.size)) (fun _ h _ => h)).below BC (fun _ _ h => h)
    clear hDV X1 B0 M1 M2 M3 c3V tV hbase1 nb1 nb2 w7 w6 hsl HB9' t1 q0 hl
    obtain ⟨u0, u1, u2, u3⟩ := xP.cells4
    obtain ⟨r0, r1, r2, r3⟩ := xR.cells4
    have s7 := xP.lt
    have sR := xR.lt
    have p1 := xP.frozen 1
    have p2 := xP.frozen 2
    have hslh := sub_head b off n c M (by omega) hcc
    obtain ⟨H, hH⟩ : ∃ H : Nat, M.toNat = H := ⟨_, rfl⟩
    rw [hH] at hslh
    have HH := Lib.hid hH
    have bH : H ≤ 70000 := by omega
    clear hH
    go_wp2_with fail
    refine (ref_taken y0 y1 y2 y3 y4 _ (by omega) ((BC.cell (p := ⟨b, off + 9, none⟩) hb).trans HYC.out.1) ((BC.cell (p := ⟨b, off + 9 + 1, none⟩) hb).trans HYC.out.2.1) ((BC.cell (p := ⟨b, off + 9 + 2, none⟩) hb).trans HYC.out.2.2.1) ((BC.cell (p := ⟨b, off + 9 + 3, none⟩) hb).trans HYC.out.2.2.2.1) ((BC.cell (p := ⟨b, off + 9 + 4, none⟩) hb).trans HYC.out.2.2.2.2) hry0 hry1 hry2 hry3 hry4).mono ?_
    rintro e wt ⟨rfl, m1, rfl⟩
    generalize tsV y0 y1 y2 y3 y4 = P at *
    go_upto_region 14 with fail
    have xP := (Bx.drewN xP m1).set_ 1 (.int .i64 P)
    have xR := (Bx.drewN xR m1).far (a := ⟨g7, 1, none⟩) (by dsimp only; omega) (.int .i64 P)
    have BC := bset (bdrewN BC m1) ⟨g7, 1, none⟩ (by dsimp only; omega) (.int .i64 P)
    have hDd := (hDd.drewN m1).setCell (a := ⟨g7, 1, none⟩) (by simp) (.int .i64 P)
    have hlC := (hlC.drewN m1).setCell (a := ⟨g7, 1, none⟩) (by dsimp only; omega) (.int .i64 P)
    clear u0 u1 u2 u3 r0 r1 r2 r3 s7 sR p1 p2
    generalize (wc.drewN m1).setCell ⟨g7, 1, none⟩ (.int .i64 P) = wc1 at *
    have xP : Bx wc1 g7 29 #[.int .i64 x3, .int .i64 P, .int .i64 (-1), .slice Ad nd cd] := xP
    obtain ⟨u0, u1, u2, u3⟩ := xP.cells4
    obtain ⟨r0, r1, r2, r3⟩ := xR.cells4
    have s7 := xP.lt
    have sR := xR.lt
    have p1 := xP.frozen 1
    have p2 := xP.frozen 2
    go_wp2_with fail
    refine (ref_taken z0 z1 z2 z3 z4 _ (by omega) ((BC.cell (p := ⟨b, off + 14, none⟩) hb).trans HZC.out.1) ((BC.cell (p := ⟨b, off + 14 + 1, none⟩) hb).trans HZC.out.2.1) ((BC.cell (p := ⟨b, off + 14 + 2, none⟩) hb).trans HZC.out.2.2.1) ((BC.cell (p := ⟨b, off + 14 + 3, none⟩) hb).trans HZC.out.2.2.2.1) ((BC.cell (p := ⟨b, off + 14 + 4, none⟩) hb).trans HZC.out.2.2.2.2) hrz0 hrz1 hrz2 hrz3 hrz4).mono ?_
    rintro e wt ⟨rfl, m2, rfl⟩
    generalize tsV z0 z1 z2 z3 z4 = D at *
    go_upto_region 15 with fail
    have xP := (Bx.drewN xP m2).set_ 2 (.int .i64 D)
    have xR := (Bx.drewN xR m2).far (a := ⟨g7, 2, none⟩) (by dsimp only; omega) (.int .i64 D)
    have BC := bset (bdrewN BC m2) ⟨g7, 2, none⟩ (by dsimp only; omega) (.int .i64 D)
    have hDd := (hDd.drewN m2).setCell (a := ⟨g7, 2, none⟩) (by simp) (.int .i64 D)
    have hlC := (hlC.drewN m2).setCell (a := ⟨g7, 2, none⟩) (by dsimp only; omega) (.int .i64 D)
    clear u0 u1 u2 u3 r0 r1 r2 r3 s7 sR p1 p2
    generalize (wc1.drewN m2).setCell ⟨g7, 2, none⟩ (.int .i64 D) = wc2 at *
    have xP : Bx wc2 g7 29 #[.int .i64 x3, .int .i64 P, .int .i64 D, .slice Ad nd cd] := xP
    obtain ⟨u0, u1, u2, u3⟩ := xP.cells4
    obtain ⟨r0, r1, r2, r3⟩ := xR.cells4
    have s7 := xP.lt
    have sR := xR.lt
    have p1 := xP.frozen 1
    have p2 := xP.frozen 2
    have hdl : nd = N - 13 := by have h1 := hDd.len; have h2 := HM.out; have h3 := hlC.len; rw [List.length_take, List.length_drop] at h1; omega
    have hval : validP x3 P D = true := by simp [validP]; omega
    have hnum : putNum P D ((l.drop 19).take (N - 13)) ≤ 65535 := by
      have h1 := hDd.len
      unfold putNum
      rw [h1, hdl, HHL.out]
      omega
    have HVAL := Lib.hid hval
    have HNUM := Lib.hid hnum
    have HDL := Lib.hid hdl
    have bnd : nd ≤ 1000000 := by omega
    clear hval hnum hdl
    go_wp2_with fail
    refine (ref_Put_ok x3 P D Ad nd cd _ _ hDd HVAL.out bnd HNUM.out).mono ?_
    rintro e w5 ⟨A5, n5, c5, rfl, hB5, hb5⟩
    have yP := xP.ext hb5
    have yR := xR.ext hb5
    have BC5 := BC.trans (hb5.mono BC.size)
    have hD5 := hDd.ext hb5
    have hl5 := hlC.ext hb5
    have hT : Byt (· < w.heap.size) w5 (some ⟨b, off, none⟩) H (l.take H) := by
      have h := Byt.sub (k := 0) (m := H) hl5 (by have := HH.out; omega)
      simpa using h
    clear xP xR hDd hlC BC u0 u1 u2 u3 r0 r1 r2 r3 s7 sR p1 p2
    obtain ⟨u0, u1, u2, u3⟩ := yP.cells4
    obtain ⟨r0, r1, r2, r3⟩ := yR.cells4
    have z0 := yR.frozen 0
    have z1 := yR.frozen 1
    have z2 := yR.frozen 2
    have z3 := yR.frozen 3
    have s7 := yP.lt
    have sR := yR.lt
    go_wp2_with fail
    refine (ref_SameBytes _ _ _ _ _ _ _ _ _ hB5 hT).mono ?_
    rintro e w6 ⟨rfl, rfl⟩
    rw [show decide (putL x3 P D ((l.drop 19).take (N - 13)) = l.take H) = false by rw [decide_eq_false_iff_not, show H = 6 + N by have h1 := HH.out; have h2 := HM.out; omega]; exact HEQ.out]
    go_wp2_with fail
    exact rtake_zero 3 _ rfl rfl rfl rfl rfl yR BC5

end Go.Proofs.Ytojfaonlgkicfaa
