/- The reference's Take: a packet without timestamps. -/
import Derived.Test.YtojfaonlgkicfaaTakeRa
import Derived.Test.YtojfaonlgkicfaaSubS
import Derived.Deep.CutBlock
import Derived.Deep.DrawnRows
namespace Go.Proofs.Ytojfaonlgkicfaa
open Go.RowKit

attribute [local go_sem ↓] Go.wp_at_zero Go.wp_at_succ
theorem OwB.slice {w : World} {base : Nat} {e : TypeId} {v : Value} {l : List Int} (h : OwB w base e v l) : ∃ A c, v = .slice A l.length c ∧ l.length ≤ c := by
  rcases h.2 with ⟨rfl, hn⟩ | ⟨g, cap, cur, rfl, _, _, hnc, _⟩
  · exact ⟨none, 0, by rw [hn], by omega⟩
  · exact ⟨_, _, rfl, hnc⟩
set_option maxRecDepth 100000 in
set_option maxHeartbeats 4000000 in
theorem ref_Take_k0 {q : Nat → Prop} {b off n c N : Nat} {l : List Int} (x3 x4 x5 : Int) (w : World) (hl : Byt q w (some ⟨b, off, none⟩) n l) (hn : 9 ≤ n) (hb : b < w.heap.size) (hnc : n ≤ c) (hn2 : n ≤ 1000000)
    (hc : w.cell? ⟨b, off, none⟩ = some (.int .u8 0) ∧ w.cell? ⟨b, off + 1, none⟩ = some (.int .u8 0) ∧ w.cell? ⟨b, off + 2, none⟩ = some (.int .u8 1) ∧ w.cell? ⟨b, off + 3, none⟩ = some (.int .u8 x3) ∧ w.cell? ⟨b, off + 4, none⟩ = some (.int .u8 x4) ∧ w.cell? ⟨b, off + 5, none⟩ = some (.int .u8 x5) ∧ w.cell? ⟨b, off + 6, none⟩ = some (.int .u8 128) ∧ w.cell? ⟨b, off + 7, none⟩ = some (.int .u8 0) ∧ w.cell? ⟨b, off + 8, none⟩ = some (.int .u8 0))
    (h3 : 192 ≤ x3 ∧ x3 ≤ 239) (h4 : 0 ≤ x4 ∧ x4 ≤ 255) (h5 : 0 ≤ x5 ∧ x5 ≤ 255) (hN : (N : Int) = x4 * 256 + x5) (hNz : 3 ≤ N) (hle : 6 + N ≤ n) (heq : putL x3 (-1) (-1) ((l.drop 9).take (N - 3)) = l.take (6 + N)) :
    Calls Try.prog 23 #[.slice (some ⟨b, off, none⟩) n c] w (RetT w x3 (-1) (-1) ((l.drop 9).take (N - 3)) (6 + (N : Int)) 0) := by
  obtain ⟨c0, c1, c2, c3, c4, c5, c6, c7, c8⟩ := hc
  have C3 := Lib.hid c3
  have o1 : bits .or .i64 (x4 * 256) x5 = (N : Int) := by rw [i64_or_low 8 x4 x5 256 rfl (by omega) (by omega) (by omega) (by omega)]; omega
  have w1 : IntKind.i64.wrap (x4 * 256) = x4 * 256 := IntWalk.i64_in _ (by omega)
  have w2 : IntKind.i64.wrap x4 = x4 := IntWalk.i64_in _ (by omega)
  have w3 : IntKind.i64.wrap x5 = x5 := IntWalk.i64_in _ (by omega)
  have N2 : N ≤ 65535 := by omega
  have hle' : 6 + (N : Int) ≤ (n : Int) := by omega
  have hcc : 6 + (N : Int) ≤ (c : Int) := by omega
  obtain ⟨M, hM⟩ : ∃ M : Int, 6 + (N : Int) = M := ⟨_, rfl⟩
  rw [hM] at hle' hcc ⊢
  have w4 : IntKind.i64.wrap M = M := IntWalk.i64_in _ (by omega)
  have w5 : IntKind.i64.wrap (6 + (N : Int)) = M := by rw [hM]; exact w4
  clear hN
  have HEQ := Lib.hid heq
  clear heq
  obtain ⟨A9, c9, hsl, HB9⟩ := sub_any b off n c (9 + 0) M (by omega) (by omega) (by omega)
  obtain ⟨D9, hD9⟩ : ∃ D : Nat, (M - (9 + 0)).toNat = D := ⟨_, rfl⟩
  rw [hD9] at hsl HB9
  have bD9 : D9 ≤ 1000000 := by omega
  have HD9 := Lib.hid hD9
  clear hD9
  have hsl : ∀ w, (Instr.slice 27 (.slice (some ⟨b, off, none⟩) n c) (some (.int .i64 9)) (some (.int .i64 M)) none).run Try.prog w = .ok (.slice A9 D9 c9) w := hsl
  have B0 : Below w.heap.size w (w.alloc (.cells #[.int .i64 0, .int .i64 0, .int .i64 0, .slice none 0 0] 29)) := (Below.refl _ w).alloc (Nat.le_refl _) _
  have X1 : Bx (w.alloc (.cells #[.int .i64 0, .int .i64 0, .int .i64 0, .slice none 0 0] 29)) w.heap.size 29 #[.int .i64 0, .int .i64 0, .int .i64 0, .slice none 0 0] := Bx.new _ _ _
  go_enter Try.func23, Try.ntmps23
  go_upto_region 1 with fail
  generalize w.alloc (.cells #[.int .i64 0, .int .i64 0, .int .i64 0, .slice none 0 0] 29) = W at *
  have q0 := B0.size
  obtain ⟨u0, u1, u2, u3⟩ := X1.cells4
  have v0 := X1.frozen 0
  have v1 := X1.frozen 1
  have v2 := X1.frozen 2
  have v3 := X1.frozen 3
  have t1 := X1.lt
  have c0 : W.cell? ⟨b, off, none⟩ = some (.int .u8 0) := (B0.cell (p := ⟨b, off, none⟩) hb).trans c0
  have c1 : W.cell? ⟨b, off + 1, none⟩ = some (.int .u8 0) := (B0.cell (p := ⟨b, off + 1, none⟩) hb).trans c1
  have c2 : W.cell? ⟨b, off + 2, none⟩ = some (.int .u8 1) := (B0.cell (p := ⟨b, off + 2, none⟩) hb).trans c2
  have c3 : W.cell? ⟨b, off + 3, none⟩ = some (.int .u8 x3) := (B0.cell (p := ⟨b, off + 3, none⟩) hb).trans c3
  have c4 : W.cell? ⟨b, off + 4, none⟩ = some (.int .u8 x4) := (B0.cell (p := ⟨b, off + 4, none⟩) hb).trans c4
  have c5 : W.cell? ⟨b, off + 5, none⟩ = some (.int .u8 x5) := (B0.cell (p := ⟨b, off + 5, none⟩) hb).trans c5
  have c6 : W.cell? ⟨b, off + 6, none⟩ = some (.int .u8 128) := (B0.cell (p := ⟨b, off + 6, none⟩) hb).trans c6
  have c7 : W.cell? ⟨b, off + 7, none⟩ = some (.int .u8 0) := (B0.cell (p := ⟨b, off + 7, none⟩) hb).trans c7
  have c8 : W.cell? ⟨b, off + 8, none⟩ = some (.int .u8 0) := (B0.cell (p := ⟨b, off + 8, none⟩) hb).trans c8
  go_wp2_with fail
  go_quiet (fail)
  clear o1 w1 w2 w3
  go_upto_region 10 with fail
  have X1 := Bx.drewN X1 nq
  have B0 := bdrewN B0 nq
  generalize W.drewN nq = V at *
  have HHL := Lib.hid (show (headL (-1) (-1)).2.length = 0 from rfl)
  have HM := Lib.hid hM
  have hDV : Byt (· < w.heap.size) V A9 D9 ((l.drop 9).take (N - 3)) := by
    have h := HB9 _ _ _ hle' ((hl.mono (q := (· < w.heap.size)) (fun _ h _ => h)).below B0 (fun _ _ h => h))
    have e1 : ((9 : Int) + 0).toNat = 9 := rfl
    have e2 : D9 = N - 3 := by have := HD9.out; omega
    rw [e1] at h
    rw [← e2]
    exact h
  have HB9' := Lib.hid HB9
  clear HB9
  have c3V : V.cell? ⟨b, off + 3, none⟩ = some (.int .u8 x3) := (B0.cell (p := ⟨b, off + 3, none⟩) hb).trans C3.out
  have tV := X1.lt
  have i3 : (3 : Int) < (n : Int) := by omega
  have w6 : IntKind.i64.wrap (9 : Int) = 9 := by decide
  clear c0 c1 c2 c4 c5 c6 c7 c8 u0 u1 u2 u3 v0 v1 v2 v3 c3
  have hbase1 : w.heap.size + 1 ≤ V.heap.size := by omega
  have oE := OwB.lit V.drew (w.heap.size + 1) 5 [] 0 rfl rfl rfl hbase1 (by omega)
  have cE := ((Below.refl V.heap.size V).drew.alloc (Nat.le_refl _) (.cells #[] 5)).cell (p := ⟨b, off + 3, none⟩) (show b < V.heap.size by omega)
  have cB := ((Below.refl V.heap.size V).drew.alloc (Nat.le_refl _) (.cells #[.int .i64 0, .int .i64 0, .int .i64 0, .slice none 0 0] 29)).cell (p := ⟨b, off + 3, none⟩) (show b < V.heap.size by omega)
  have cEB := (((Below.refl V.heap.size V).drew.alloc (Nat.le_refl _) (.cells #[] 5)).alloc (by simp) (.cells #[.int .i64 0, .int .i64 0, .int .i64 0, .slice none 0 0] 29)).cell (p := ⟨b, off + 3, none⟩) (show b < V.heap.size by omega)
  have cBE := (((Below.refl V.heap.size V).drew.alloc (Nat.le_refl _) (.cells #[.int .i64 0, .int .i64 0, .int .i64 0, .slice none 0 0] 29)).alloc (by simp) (.cells #[] 5)).cell (p := ⟨b, off + 3, none⟩) (show b < V.heap.size by omega)
  have m1 : OwB (V.drew.alloc (.cells #[] 5)) (w.heap.size + 1) 5 (.slice (some ⟨V.heap.size, 0, none⟩) 0 0) [] ∧ Byt (· < w.heap.size) (V.drew.alloc (.cells #[] 5)) A9 D9 ((l.drop 9).take (N - 3)) ∧ D9 ≤ 100000000 ∧ w.heap.size + 1 ≤ (V.drew.alloc (.cells #[] 5)).heap.size ∧ Bx (V.drew.alloc (.cells #[] 5)) w.heap.size 29 #[.int .i64 0, .int .i64 0, .int .i64 0, .slice none 0 0] ∧ some w.heap.size ≠ (Value.slice (some ⟨V.heap.size, 0, none⟩) 0 0).ownBlock ∧ (V.drew.alloc (.cells #[] 5)).cell? ⟨b, off + 3, none⟩ = some (.int .u8 x3) ∧ (⟨b, off + 3, none⟩ : Addr).block < w.heap.size + 1 :=
    ⟨oE, hDV.drew.alloc _, by omega, by simp; omega, X1.drew.alloc _, by simp [Value.ownBlock]; omega, cE.trans c3V, by dsimp only; omega⟩
  have m2 : OwB ((V.drew.alloc (.cells #[] 5)).alloc (.cells #[.int .i64 0, .int .i64 0, .int .i64 0, .slice none 0 0] 29)) (w.heap.size + 1) 5 (.slice (some ⟨V.heap.size, 0, none⟩) 0 0) [] ∧ Byt (· < w.heap.size) ((V.drew.alloc (.cells #[] 5)).alloc (.cells #[.int .i64 0, .int .i64 0, .int .i64 0, .slice none 0 0] 29)) A9 D9 ((l.drop 9).take (N - 3)) ∧ D9 ≤ 100000000 ∧ w.heap.size + 1 ≤ ((V.drew.alloc (.cells #[] 5)).alloc (.cells #[.int .i64 0, .int .i64 0, .int .i64 0, .slice none 0 0] 29)).heap.size ∧ Bx ((V.drew.alloc (.cells #[] 5)).alloc (.cells #[.int .i64 0, .int .i64 0, .int .i64 0, .slice none 0 0] 29)) (V.heap.size + 1) 29 #[.int .i64 0, .int .i64 0, .int .i64 0, .slice none 0 0] ∧ some (V.heap.size + 1) ≠ (Value.slice (some ⟨V.heap.size, 0, none⟩) 0 0).ownBlock ∧ ((V.drew.alloc (.cells #[] 5)).alloc (.cells #[.int .i64 0, .int .i64 0, .int .i64 0, .slice none 0 0] 29)).cell? ⟨b, off + 3, none⟩ = some (.int .u8 x3) ∧ (⟨b, off + 3, none⟩ : Addr).block < w.heap.size + 1 :=
    ⟨oE.alloc _, (hDV.drew.alloc _).alloc _, by omega, by simp; omega, Bx.new' _ _ _ _ (by simp), by simp [Value.ownBlock], cEB.trans c3V, by dsimp only; omega⟩
  have m3 : OwB ((V.drew.alloc (.cells #[.int .i64 0, .int .i64 0, .int .i64 0, .slice none 0 0] 29)).alloc (.cells #[] 5)) (w.heap.size + 1) 5 (.slice (some ⟨V.heap.size + 1, 0, none⟩) 0 0) [] ∧ Byt (· < w.heap.size) ((V.drew.alloc (.cells #[.int .i64 0, .int .i64 0, .int .i64 0, .slice none 0 0] 29)).alloc (.cells #[] 5)) A9 D9 ((l.drop 9).take (N - 3)) ∧ D9 ≤ 100000000 ∧ w.heap.size + 1 ≤ ((V.drew.alloc (.cells #[.int .i64 0, .int .i64 0, .int .i64 0, .slice none 0 0] 29)).alloc (.cells #[] 5)).heap.size ∧ Bx ((V.drew.alloc (.cells #[.int .i64 0, .int .i64 0, .int .i64 0, .slice none 0 0] 29)).alloc (.cells #[] 5)) V.heap.size 29 #[.int .i64 0, .int .i64 0, .int .i64 0, .slice none 0 0] ∧ some V.heap.size ≠ (Value.slice (some ⟨V.heap.size + 1, 0, none⟩) 0 0).ownBlock ∧ ((V.drew.alloc (.cells #[.int .i64 0, .int .i64 0, .int .i64 0, .slice none 0 0] 29)).alloc (.cells #[] 5)).cell? ⟨b, off + 3, none⟩ = some (.int .u8 x3) ∧ (⟨b, off + 3, none⟩ : Addr).block < w.heap.size + 1 :=
    ⟨OwB.lit (V.drew.alloc (.cells #[.int .i64 0, .int .i64 0, .int .i64 0, .slice none 0 0] 29)) (w.heap.size + 1) 5 [] 0 rfl rfl (by simp) (by omega) (by omega), (hDV.drew.alloc _).alloc _, by omega, by simp; omega, (Bx.new' V.drew _ _ _ rfl).alloc _, by simp [Value.ownBlock], cBE.trans c3V, by dsimp only; omega⟩
  have M1 := Lib.hid m1
  have M2 := Lib.hid m2
  have M3 := Lib.hid m3
  clear m1 m2 m3 oE cE cB cEB cBE
  have nb1 : ¬ b = V.heap.size := by omega
  have nb2 : ¬ b = V.heap.size + 1 := by omega
  have w7 : IntKind.i64.wrap x3 = x3 := IntWalk.i64_in _ (by omega)
  go_cut [7] (fun s7 wx => TkMid w x3 ((l.drop 9).take (N - 3)) s7 wx)
  case first =>
    rename_i J K2 hJ hK2
    go_region_held3 (fun w' => w'.cell? ⟨b, off + 3, none⟩ = some (.int .u8 x3)) (first | go_keep | exact hc3' | exact cell_far4 nb2 hc3' | exact cell_far4 nb1 hc3')
      (first
        | (refine step_appM _ (by rfl) (.tmp 109) (.tmp 115) 27 (by rfl) 5 Try.underlying27 Try.infoB (w.heap.size + 1) _ (by rfl) A9 D9 c9 (by rfl) ((l.drop 9).take (N - 3)) w.heap.size 29 #[.int .i64 0, .int .i64 0, .int .i64 0, .slice none 0 0] ⟨b, off + 3, none⟩ (.int .u8 x3) M1 ?_; intro A3 k3 w3 ho3 xb hc3' hbe; obtain ⟨y0, y1, y2, y3⟩ := xb.cells4; have y4 := xb.frozen 0; have y5 := xb.frozen 1; have y6 := xb.frozen 2; have y7 := xb.frozen 3; have y8 := xb.lt)
        | (refine step_appM _ (by rfl) (.tmp 109) (.tmp 115) 27 (by rfl) 5 Try.underlying27 Try.infoB (w.heap.size + 1) _ (by rfl) A9 D9 c9 (by rfl) ((l.drop 9).take (N - 3)) (V.heap.size + 1) 29 #[.int .i64 0, .int .i64 0, .int .i64 0, .slice none 0 0] ⟨b, off + 3, none⟩ (.int .u8 x3) M2 ?_; intro A3 k3 w3 ho3 xb hc3' hbe; obtain ⟨y0, y1, y2, y3⟩ := xb.cells4; have y4 := xb.frozen 0; have y5 := xb.frozen 1; have y6 := xb.frozen 2; have y7 := xb.frozen 3; have y8 := xb.lt)
        | (refine step_appM _ (by rfl) (.tmp 109) (.tmp 115) 27 (by rfl) 5 Try.underlying27 Try.infoB (w.heap.size + 1) _ (by rfl) A9 D9 c9 (by rfl) ((l.drop 9).take (N - 3)) V.heap.size 29 #[.int .i64 0, .int .i64 0, .int .i64 0, .slice none 0 0] ⟨b, off + 3, none⟩ (.int .u8 x3) M3 ?_; intro A3 k3 w3 ho3 xb hc3' hbe; obtain ⟨y0, y1, y2, y3⟩ := xb.cells4; have y4 := xb.frozen 0; have y5 := xb.frozen 1; have y6 := xb.frozen 2; have y7 := xb.frozen 3; have y8 := xb.lt))
    all_goals
      refine hK2 _ _ (hJ _ _ ?_)
      clear hK2 hJ
      (repeat apply Exists.intro)
      refine ⟨?_, rfl⟩
    · exact tk1 rfl rfl ho3 xb hDV.rng hbe (B0.drew.alloc (show w.heap.size ≤ V.heap.size by omega) (.cells #[] 5))
    · exact tk2 rfl (by omega) ho3 xb hDV.rng hbe ((B0.drew.alloc (show w.heap.size ≤ V.heap.size by omega) (.cells #[] 5)).alloc (by simp; omega) (.cells #[.int .i64 0, .int .i64 0, .int .i64 0, .slice none 0 0] 29)) ((X1.drew.alloc _).alloc _)
    · exact tk2 rfl (by omega) ho3 xb hDV.rng hbe ((B0.drew.alloc (show w.heap.size ≤ V.heap.size by omega) (.cells #[.int .i64 0, .int .i64 0, .int .i64 0, .slice none 0 0] 29)).alloc (by simp; omega) (.cells #[] 5)) ((X1.drew.alloc _).alloc _)
  case rest =>
    obtain ⟨g7, Ad, nd, cd, rfl, xP, hDd, hg7, xR, BC⟩ := hcut
    have hlC := (hl.mono (q := (· < w.heap.size)) (fun _ h _ => h)).below BC (fun _ _ h => h)
    clear hDV X1 B0 M1 M2 M3 c3V tV hbase1 nb1 nb2 w7 w6 hsl HB9' t1 q0 hl
    obtain ⟨u0, u1, u2, u3⟩ := xP.cells4
    obtain ⟨r0, r1, r2, r3⟩ := xR.cells4
    have s7 := xP.lt
    have sR := xR.lt
    have hslh := sub_head b off n c M (by omega) hcc
    obtain ⟨H, hH⟩ : ∃ H : Nat, M.toNat = H := ⟨_, rfl⟩
    rw [hH] at hslh
    have HH := Lib.hid hH
    have bH : H ≤ 70000 := by omega
    clear hH
    have hdl : nd = N - 3 := by have h1 := hDd.len; have h2 := HM.out; have h3 := hlC.len; rw [List.length_take, List.length_drop] at h1; omega
    have hval : validP x3 (-1) (-1) = true := by simp [validP]; omega
    have hnum : putNum (-1) (-1) ((l.drop 9).take (N - 3)) ≤ 65535 := by
      have h1 := hDd.len
      unfold putNum
      rw [h1, hdl, HHL.out]
      omega
    have HVAL := Lib.hid hval
    have HNUM := Lib.hid hnum
    have HDL := Lib.hid hdl
    have bnd : nd ≤ 1000000 := by omega
    clear hval hnum hdl
    go_wp2_with fail
    refine (ref_Put_ok x3 (-1) (-1) Ad nd cd _ _ hDd HVAL.out bnd HNUM.out).mono ?_
    rintro e w5 ⟨A5, n5, c5, rfl, hB5, hb5⟩
    have yP := xP.ext hb5
    have yR := xR.ext hb5
    have BC5 := BC.trans (hb5.mono BC.size)
    have hD5 := hDd.ext hb5
    have hl5 := hlC.ext hb5
    have hT : Byt (· < w.heap.size) w5 (some ⟨b, off, none⟩) H (l.take H) := by
      have h := Byt.sub (k := 0) (m := H) hl5 (by have := HH.out; omega)
      simpa using h
    clear xP xR hDd hlC BC u0 u1 u2 u3 r0 r1 r2 r3 s7 sR
    obtain ⟨u0, u1, u2, u3⟩ := yP.cells4
    obtain ⟨r0, r1, r2, r3⟩ := yR.cells4
    have z0 := yR.frozen 0
    have z1 := yR.frozen 1
    have z2 := yR.frozen 2
    have z3 := yR.frozen 3
    have s7 := yP.lt
    have sR := yR.lt
    go_wp2_with fail
    refine (ref_SameBytes _ _ _ _ _ _ _ _ _ hB5 hT).mono ?_
    rintro e w6 ⟨rfl, rfl⟩
    rw [show decide (putL x3 (-1) (-1) ((l.drop 9).take (N - 3)) = l.take H) = true by rw [decide_eq_true_eq, HEQ.out, show H = 6 + N by have h1 := HH.out; have h2 := HM.out; omega]]
    go_wp2_with fail
    refine rtake_leave (w := w) _ _ (by rfl) (by rfl) (by rfl) (by rfl) ((((yR.set_ 0 _).set_ 1 _).set_ 2 _).set_ 3 _) ((((((hD5.mono (q := fun b => w.heap.size < b) (fun _ _ h => h.1)).setCell (by dsimp only; omega) _).setCell (by dsimp only; omega) _).setCell (by dsimp only; omega) _).setCell (by dsimp only; omega) _).mono (fun _ _ h => by omega)) (bset (bset (bset (bset BC5 _ (Nat.le_refl _) _) _ (Nat.le_refl _) _) _ (Nat.le_refl _) _) _ (Nat.le_refl _) _)

end Go.Proofs.Ytojfaonlgkicfaa
