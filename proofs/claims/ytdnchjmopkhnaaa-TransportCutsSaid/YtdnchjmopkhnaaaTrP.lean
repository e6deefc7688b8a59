/- transport.decode: its walk. -/
import Derived.Test.YtdnchjmopkhnaaaTrP0
namespace Go.Proofs.Ytdnchjmopkhnaaa
open Go.RowKit
attribute [local go_sem ↓] Go.wp_at_zero Go.wp_at_succ

set_option maxRecDepth 100000 in
set_option maxHeartbeats 4000000 in
theorem tr_decode_71 {q : Nat → Prop} (b off c : Nat) (l : List Int) {x0 x1 x2 x3 x4 x5 x6 x7 x8 x9 x10 x11 : Int} (hx : Read12 l x0 x1 x2 x3 x4 x5 x6 x7 x8 x9 x10 x11) (w : World) (hc : 188 ≤ c) (hl : Byt q w (some ⟨b, off, none⟩) 188 l) (h0 : x0 = 71) :
    Calls Try.prog 39 #[.slice (some ⟨b, off, none⟩) 188 c] w (RetD w b off l) := by
  obtain ⟨hbl, hcl⟩ := hl.cellsAt (by omega)
  have r1 := hl.rng _ (List.mem_of_getElem? hx.h1)
  have r2 := hl.rng _ (List.mem_of_getElem? hx.h2)
  have r3 := hl.rng _ (List.mem_of_getElem? hx.h3)
  have r4 := hl.rng _ (List.mem_of_getElem? hx.h4)
  have r5 := hl.rng _ (List.mem_of_getElem? hx.h5)
  have c0 := hcl 0 _ hx.h0
  rw [Nat.add_zero] at c0
  have c1 := hcl 1 _ hx.h1
  have c2 := hcl 2 _ hx.h2
  have c3 := hcl 3 _ hx.h3
  have c4 := hcl 4 _ hx.h4
  have c5 := hcl 5 _ hx.h5
  have HCL := Lib.hid hcl
  have HL := Lib.hid hl
  have HX := Lib.hid hx
  clear hcl hl hx
  obtain ⟨PID, hPID⟩ : ∃ x, x = x1 % 32 * 256 + x2 := ⟨_, rfl⟩
  obtain ⟨CNT, hCNT⟩ : ∃ x, x = x3 % 16 := ⟨_, rfl⟩
  obtain ⟨ST, hST⟩ : ∃ x, x = decide (x1 / 64 % 2 = 1) := ⟨_, rfl⟩
  obtain ⟨M5, hM5⟩ : ∃ x, x = x1 % 32 := ⟨_, rfl⟩
  have bM5 : 0 ≤ M5 ∧ M5 < 32 := by omega
  have a1 : bits .and .u8 x1 31 = M5 := by rw [u8_mask5 x1 r1.1 r1.2, hM5]
  have a2 : bits .or .i64 (M5 * 256) x2 = PID := by rw [i64_or_low 8 M5 x2 256 rfl (by omega) (by omega) (by omega) (by omega), hM5, hPID]
  have a3 : bits .and .u8 x3 15 = CNT := by rw [u8_mask4 x3 r3.1 r3.2, hCNT]
  have a4 : (bits .and .u8 x1 64 != 0) = ST := by rw [u8_bit64 x1 r1.1 r1.2, hST]
  have w1 : IntKind.i64.wrap M5 = M5 := IntWalk.i64_in _ (by omega)
  have w2 : IntKind.i64.wrap (M5 * 256) = M5 * 256 := IntWalk.i64_in _ (by omega)
  have w3 : IntKind.i64.wrap x2 = x2 := IntWalk.i64_in _ (by omega)
  have bCNT : 0 ≤ CNT ∧ CNT < 16 := by omega
  have w4 : IntKind.i64.wrap CNT = CNT := IntWalk.i64_in _ (by omega)
  have HPID := Lib.hid hPID
  have HCNT := Lib.hid hCNT
  have HST := Lib.hid hST
  have HM5 := Lib.hid hM5
  clear hPID hCNT hST hM5
  have x2b : Bx (w.alloc (.cells #[.int .i64 0, .int .i64 0, .bool false, .int .i64 0, .slice none 0 0] 28)) w.heap.size 28 #[.int .i64 0, .int .i64 0, .bool false, .int .i64 0, .slice none 0 0] := Bx.new _ _ _
  have i1 : (1 : Int) < (188 : Int) := by omega
  have i2 : (2 : Int) < (188 : Int) := by omega
  have i3 : (3 : Int) < (188 : Int) := by omega
  have i4 : (4 : Int) < (188 : Int) := by omega
  have i5 : (5 : Int) < (188 : Int) := by omega
  have j1 : w.heap.size ≠ b := by omega
  go_enter Try.func39, Try.ntmps39
  go_wp2_with fail
  go_region_held3 (fun w' => w'.cell? ⟨b, off + 1, none⟩ = some (.int .u8 x1) ∧ w'.cell? ⟨b, off + 2, none⟩ = some (.int .u8 x2) ∧ w'.cell? ⟨b, off + 3, none⟩ = some (.int .u8 x3)) (go_keep) (fail)
  have xa : Bx (((w.alloc (.cells #[.int .i64 0, .int .i64 0, .bool false, .int .i64 0, .slice none 0 0] 28)).alloc (.cells #[.int .i64 PID, .int .i64 CNT, .bool ST, .int .i64 (-1), .slice none 0 0] 28)).drew) w.heap.size 28 #[.int .i64 0, .int .i64 0, .bool false, .int .i64 0, .slice none 0 0] := (x2b.alloc _).drew
  have xb : Bx (((w.alloc (.cells #[.int .i64 0, .int .i64 0, .bool false, .int .i64 0, .slice none 0 0] 28)).alloc (.cells #[.int .i64 PID, .int .i64 CNT, .bool ST, .int .i64 (-1), .slice none 0 0] 28)).drew) (w.heap.size + 1) 28 #[.int .i64 PID, .int .i64 CNT, .bool ST, .int .i64 (-1), .slice none 0 0] := (Bx.new' _ _ _ _ (by simp)).drew
  have B1 : Below w.heap.size w (((w.alloc (.cells #[.int .i64 0, .int .i64 0, .bool false, .int .i64 0, .slice none 0 0] 28)).alloc (.cells #[.int .i64 PID, .int .i64 CNT, .bool ST, .int .i64 (-1), .slice none 0 0] 28)).drew) := (((Below.refl _ w).alloc (Nat.le_refl _) _).alloc (by simp) _).drew
  generalize ((w.alloc (.cells #[.int .i64 0, .int .i64 0, .bool false, .int .i64 0, .slice none 0 0] 28)).alloc (.cells #[.int .i64 PID, .int .i64 CNT, .bool ST, .int .i64 (-1), .slice none 0 0] 28)).drew = W at *
  clear x2b a1 a2 a3 a4 w1 w2 w3 w4 c0 c1 c2
  have c3 : W.cell? ⟨b, off + 3, none⟩ = some (.int .u8 x3) := (B1.cell (p := ⟨b, off + 3, none⟩) hbl).trans c3
  have c4 : W.cell? ⟨b, off + 4, none⟩ = some (.int .u8 x4) := (B1.cell (p := ⟨b, off + 4, none⟩) hbl).trans c4
  have c5 : W.cell? ⟨b, off + 5, none⟩ = some (.int .u8 x5) := (B1.cell (p := ⟨b, off + 5, none⟩) hbl).trans c5
  obtain ⟨e0, e1, e2, e3, e4⟩ := xb.cells5
  have fr0 := xb.frozen 4
  have fr3 := xb.frozen 3
  have s1 := xb.lt
  have ne1 : b ≠ w.heap.size + 1 := by omega
  obtain ⟨F, hF⟩ : ∃ F, F = fromP x3 x4 := ⟨_, rfl⟩
  have bF : 4 ≤ F ∧ F ≤ 260 := by rw [hF]; unfold fromP; split <;> omega
  have HF := Lib.hid hF
  clear hF
  go_upto_if 40 with fail
  go_cut [5] (fun s5 wx => s5 = .int .i64 F ∧ W = wx)
  case first =>
    by_cases hf : x3 / 16 = 1
    · have hq : ((x3 / 16) != 1) = false := by simpa using hf
      have hF4 : F = 4 := by rw [HF.out]; unfold fromP; rw [if_pos hf]
      have HF4 := Lib.hid hF4
      clear hF4 hf
      go_wp2_with fail
      go_meet
      case rel => exact ⟨by rw [HF4.out], rfl⟩
    · have hq : ((x3 / 16) != 1) = true := by simpa using hf
      have hF4 : F = 4 + (1 + x4) := by rw [HF.out]; unfold fromP; rw [if_neg hf]; omega
      have HF4 := Lib.hid hF4
      clear hF4 hf
      go_wp2_with fail
      go_meet
      case rel => exact ⟨by rw [HF4.out], rfl⟩
  case rest =>
    obtain ⟨rfl, rfl⟩ := hcut
    have no_of : (188 < F ∨ x0 ≠ 71) → DecR l b off 0 0 false 0 none 0 false := by
      intro h pid cnt st clk pl n hv hpl hl
      have := cand_enc HX.out hv hpl hl
      obtain ⟨h71, _, _, _, hfp, _⟩ := this
      have h1 := HF.out
      omega
    have HNO := Lib.hid no_of
    clear no_of
    by_cases hbig : 188 < F
    · obtain ⟨d0, d1, d2, d3, d4⟩ := xa.cells5
      have q0 := xa.frozen 0
      have q1 := xa.frozen 1
      have q2 := xa.frozen 2
      have q3 := xa.frozen 3
      have q4 := xa.frozen 4
      have s0 := xa.lt
      go_wp2_with fail
      refine bodyPost_ret (v := .tuple #[.agg #[.int .i64 0, .int .i64 0, .bool false, .int .i64 0, .slice none 0 0], .bool false]) (by simp [results, Try.results39, go_sem, d0, d1, d2, d3, d4, s0]) rfl ⟨0, 0, false, 0, none, 0, 0, false, rfl, HNO.out (.inl hbig), ?_⟩
      exact bset (bset (bset (bset (bset B1 _ (by dsimp only; omega) _) _ (by dsimp only; omega) _) _ (by dsimp only; omega) _) _ (by dsimp only; omega) _) _ (by dsimp only; omega) _
    obtain ⟨A', c', hsl, hsb⟩ := sub_3 b off 188 c F (by omega) (by omega) (by omega) (by omega)
    obtain ⟨pn, hpn⟩ : ∃ pn : Nat, pn = (188 - F).toNat := ⟨_, rfl⟩
    rw [← hpn] at hsl hsb
    have HPN := Lib.hid hpn
    have HSB := Lib.hid hsb
    have b1 : F ≤ 188 := by omega
    obtain ⟨CK, hCK⟩ : ∃ CK, CK = clkP x3 x4 x5 (sixV x6 x7 x8 x9 x10 x11) := ⟨_, rfl⟩
    have HCK := Lib.hid hCK
    clear hpn hsb hCK hbig
    obtain ⟨FL, hFL⟩ : ∃ FL, FL = (decide (12 ≤ F) && (x5 == 16)) := ⟨_, rfl⟩
    have HFL := Lib.hid hFL
    clear hFL
    go_upto_region 10 with fail
    have xa1 := xa.far (a := ⟨w.heap.size + 1, 4, none⟩) (by dsimp only; omega) (.slice A' pn c')
    have xb1 := xb.set_ 4 (.slice A' pn c')
    have B2 := bset B1 ⟨w.heap.size + 1, 4, none⟩ (by dsimp only; omega) (.slice A' pn c')
    have c5 : (W.setCell ⟨w.heap.size + 1, 4, none⟩ (.slice A' pn c')).cell? ⟨b, off + 5, none⟩ = some (.int .u8 x5) := (World.cell?_of_block (Below.heap_setCell W ⟨w.heap.size + 1, 4, none⟩ _ b (by dsimp only; omega))).trans c5
    have xb1 : Bx (W.setCell ⟨w.heap.size + 1, 4, none⟩ (.slice A' pn c')) (w.heap.size + 1) 28 #[.int .i64 PID, .int .i64 CNT, .bool ST, .int .i64 (-1), .slice A' pn c'] := xb1
    clear c3 c4 e0 e1 e2 e3 e4 fr0 fr3 xa xb B1 s1 hsl
    generalize W.setCell ⟨w.heap.size + 1, 4, none⟩ (.slice A' pn c') = W1 at *
    have s1 := xb1.lt
    go_cut [62] (fun s wx => s = .bool FL ∧ W1 = wx)
    case first =>
      by_cases h12 : 12 ≤ F
      · have d12 : decide (12 ≤ F) = true := by simpa using h12
        go_wp2_with fail
        go_meet
        case rel => exact ⟨by rw [HFL.out, d12]; simp, rfl⟩
      · have d12 : decide (12 ≤ F) = false := by simpa using h12
        go_wp2_with fail
        go_meet
        case rel => exact ⟨by rw [HFL.out, d12]; simp, rfl⟩
    case rest =>
      obtain ⟨rfl, rfl⟩ := hcut
      go_upto_if 62 with fail
      go_cut [6] (fun _ wx => Bx wx w.heap.size 28 #[.int .i64 0, .int .i64 0, .bool false, .int .i64 0, .slice none 0 0] ∧ Bx wx (w.heap.size + 1) 28 #[.int .i64 PID, .int .i64 CNT, .bool ST, .int .i64 CK, .slice A' pn c'] ∧ Below w.heap.size w wx)
      case first =>
        cases hFLv : FL with
        | false =>
          have hck : CK = -1 := by
            rw [HCK.out]
            have h1 := HFL.out
            rw [hFLv] at h1
            unfold clkP
            rw [← HF.out, if_neg]
            rintro ⟨h2, h3⟩
            rw [h3] at h1
            simp [h2] at h1
          have HC := Lib.hid hck
          subst hFLv
          clear hck
          go_wp2_with fail
          go_meet
          case rel => exact ⟨xa1, by rw [HC.out]; exact xb1, B2⟩
        | true =>
          subst hFLv
          have h12 : 12 ≤ F ∧ x5 = 16 := by
            have h1 := HFL.out.symm
            simpa using h1
          have hck : CK = sixV x6 x7 x8 x9 x10 x11 / 32768 * 300 + sixV x6 x7 x8 x9 x10 x11 % 512 := by
            rw [HCK.out]
            unfold clkP
            rw [← HF.out, if_pos h12]
          have HC := Lib.hid hck
          obtain ⟨LS, hLS⟩ : ∃ LS : List Int, LS = [x6, x7, x8, x9, x10, x11] := ⟨_, rfl⟩
          have hLr : ∀ x ∈ LS, 0 ≤ x ∧ x ≤ 255 := by
            intro x hx'
            rw [hLS] at hx'
            simp only [List.mem_cons, List.not_mem_nil, or_false] at hx'
            rcases hx' with rfl | rfl | rfl | rfl | rfl | rfl
            · exact HL.out.rng _ (List.mem_of_getElem? HX.out.h6)
            · exact HL.out.rng _ (List.mem_of_getElem? HX.out.h7)
            · exact HL.out.rng _ (List.mem_of_getElem? HX.out.h8)
            · exact HL.out.rng _ (List.mem_of_getElem? HX.out.h9)
            · exact HL.out.rng _ (List.mem_of_getElem? HX.out.h10)
            · exact HL.out.rng _ (List.mem_of_getElem? HX.out.h11)
          have hcell : ∀ (k : Nat), k < 6 → ∃ x, LS[k]? = some x ∧ W1.cell? ⟨b, off + 6 + k, none⟩ = some (.int .u8 x) := by
            intro k hk
            have key : ∀ (j : Nat) (x : Int), l[j]? = some x → j = 6 + k → W1.cell? ⟨b, off + 6 + k, none⟩ = some (.int .u8 x) := by
              rintro j x hj rfl
              rw [show off + 6 + k = off + (6 + k) by omega]
              exact (B2.cell (p := ⟨b, off + (6 + k), none⟩) hbl).trans (HCL.out _ _ hj)
            rw [hLS]
            rcases (show k = 0 ∨ k = 1 ∨ k = 2 ∨ k = 3 ∨ k = 4 ∨ k = 5 by omega) with rfl | rfl | rfl | rfl | rfl | rfl
            · exact ⟨_, rfl, key 6 _ HX.out.h6 rfl⟩
            · exact ⟨_, rfl, key 7 _ HX.out.h7 rfl⟩
            · exact ⟨_, rfl, key 8 _ HX.out.h8 rfl⟩
            · exact ⟨_, rfl, key 9 _ HX.out.h9 rfl⟩
            · exact ⟨_, rfl, key 10 _ HX.out.h10 rfl⟩
            · exact ⟨_, rfl, key 11 _ HX.out.h11 rfl⟩
          have hsix : accS LS 6 = sixV x6 x7 x8 x9 x10 x11 := by rw [hLS]; exact accS_six _ _ _ _ _ _
          rw [← hsix] at HC
          have HLR := Lib.hid (accS_bd hLr)
          have HLRR := Lib.hid hLr
          have HCE := Lib.hid hcell
          have h6c : (6 : Int) ≤ (c : Int) := by omega
          have h12c : (12 : Int) ≤ (c : Int) := by omega
          have hne6 : ¬ c = 6 := by omega
          have e3 : W1.cell? ⟨w.heap.size + 1, 3, none⟩ = some (.int .i64 (-1)) := xb1.cell 3 rfl
          have fr3 := xb1.frozen 3
          clear hck hLS hLr hcell hsix h12
          go_wp2_with fail
          go_loop [66, 6] (fun i v => ∃ k : Nat, k ≤ 6 ∧ i = .int .i64 (k : Int) ∧ v = .int .u64 (accS LS k)) (fun i _ => 6 - (intOf i).toNat)
          case atStart => exact ⟨0, by omega, rfl, rfl⟩
          case round =>
            obtain ⟨k, hk, rfl, rfl⟩ := hrel
            obtain ⟨a, ha⟩ : ∃ a, a = accS LS k := ⟨_, rfl⟩
            have hb := HLR.out k
            rw [← ha] at hb
            by_cases hlt : k < 6
            · obtain ⟨y, hy, hcy⟩ := HCE.out k hlt
              have hyr := HLRR.out y (List.mem_of_getElem? hy)
              have hp : (256 : Int) ^ k ≤ 256 ^ 5 := by exact_mod_cast Nat.pow_le_pow_right (by decide) (by omega)
              have ba : 0 ≤ a ∧ a < 1099511627776 := ⟨hb.1, by have := hb.2; omega⟩
              have o1 : bits .or .u64 (a * 256) y = a * 256 + y := u64_or_low 8 a y 256 rfl ba.1 hyr.1 (by omega) (by omega)
              have hst := accS_step hy
              rw [← ha] at hst ⊢
              have HST2 := Lib.hid hst
              have i0 : (0 : Int) ≤ (k : Int) := by omega
              have i1 : (k : Int) < 6 := by omega
              clear hst ha hb hp hy
              go_wp2_with fail
              go_round
              case rel => exact ⟨k + 1, by omega, by go_num, by rw [HST2.out]⟩
              case measure => (simp [intOf]; try omega)
            · have hk6 : k = 6 := by omega
              subst hk6
              rw [← ha] at HC ⊢
              have ba : 0 ≤ a ∧ a < 281474976710656 := ⟨hb.1, by have := hb.2; omega⟩
              have a1 : bits .and .u64 a 511 = a % 512 := by
                have h := u64_and_mask 9 a 511 (by decide) (by omega) ba.1 (by omega)
                rw [h]
                rfl
              obtain ⟨q1, hq1⟩ : ∃ q1, q1 = a / 32768 := ⟨_, rfl⟩
              obtain ⟨q2, hq2⟩ : ∃ q2, q2 = a % 512 := ⟨_, rfl⟩
              have bq1 : 0 ≤ q1 ∧ q1 < 8589934592 := by omega
              have bq2 : 0 ≤ q2 ∧ q2 < 512 := by omega
              rw [← hq1, ← hq2] at HC
              rw [← hq2] at a1
              have eq1 : a / 32768 = q1 := hq1.symm
              clear hq1 hq2 ha hb
              go_wp2_with fail
              go_meet
              case rel =>
                rw [HC.out]
                exact ⟨xa1.far (by dsimp only; omega) _, xb1.set_ 3 _, bset B2 _ (by dsimp only; omega) _⟩
      case rest =>
        clear B2
        obtain ⟨xa2, xb2, B2⟩ := hcut
        have hpl : ∀ (q : Nat → Prop) (W : World), Byt q W (some ⟨b, off, none⟩) 188 l → Byt q W A' pn ((l.drop (188 - pn)).take pn) := fun q W h => by
          have h1 := HSB.out q W l h
          rw [show F.toNat = 188 - pn by have := HPN.out; omega] at h1
          exact h1
        clear xa1 xb1 c5
        go_wp2_with fail
        have HPL := Lib.hid hpl
        clear hpl
        obtain ⟨V, hV⟩ : ∃ V, V = validT PID CNT ST CK pn := ⟨_, rfl⟩
        have HV := Lib.hid hV
        obtain ⟨PL, hPL⟩ : ∃ PL, PL = (l.drop (188 - pn)).take pn := ⟨_, rfl⟩
        have hPLb : ∀ (q : Nat → Prop) (W : World), Byt q W (some ⟨b, off, none⟩) 188 l → Byt q W A' pn PL := by rw [hPL]; exact HPL.out
        have HPLB := Lib.hid hPLb
        have hPll : PL.length = pn := (HPLB.out _ _ HL.out).len
        obtain ⟨E, hE⟩ : ∃ E, E = encL PID CNT ST CK PL pn := ⟨_, rfl⟩
        have HE := Lib.hid hE
        have HPLE := Lib.hid hPL
        have HPLL := Lib.hid hPll
        obtain ⟨PK, hPK⟩ : ∃ PK : Value, PK = .agg #[.int .i64 PID, .int .i64 CNT, .bool ST, .int .i64 CK, .slice A' pn c'] := ⟨_, rfl⟩
        have HPK := Lib.hid hPK
        have hEl : V = true → E.length = 188 := fun h => by rw [hE]; exact encL_len _ _ _ _ _ _ hPll (validT_spec (hV.symm.trans h)).2.2.2.1
        have hlen188 := HL.out.len
        have wA : Below w.heap.size w wc.drew := B2.drew
        have bdl : ∀ W', Below w.heap.size w W' → Byt q W' (some ⟨b, off, none⟩) 188 l := fun W' h => ((HL.out.mono (q := fun b' => q b' ∧ b' < w.heap.size) (fun b' hb' hq => ⟨hq, hb'⟩)).below h (fun b' _ h => h.2)).mono (fun _ _ h => h.1)
        clear hPL
        refine wp_region_facts (by kernel_rfl) (by kernel_rfl) (by kernel_rfl) (fun _ _ => True) (fun k u _ => decV V PK E l b off c k (u k)) (fun D _ W' => Below w.heap.size w W' ∧ Bx W' w.heap.size 28 (if D 12 then #[.int .i64 PID, .int .i64 CNT, .bool ST, .int .i64 CK, .slice A' pn c'] else #[.int .i64 0, .int .i64 0, .bool false, .int .i64 0, .slice none 0 0]) ∧ Bx W' (w.heap.size + 1) 28 #[.int .i64 PID, .int .i64 CNT, .bool ST, .int .i64 CK, .slice A' pn c']) ?_ ?_ ?_ ?_
        · intro D k i u v w0 w1 hcl hk hi _ h
          have hne : k ≠ i := fun e => by rw [e, hi] at hk; cases hk
          show decV V PK E l b off c k (updU u i v k)
          rw [updU_ne hne]
          exact h
        · intro u
          exact ⟨wA, by simpa using xa2.drew, xb2.drew⟩
        · intro i o ho D u a wx fr hG hfacts hcl hDi hpre
          obtain ⟨gB, ga, gb⟩ := hG
          have lt1 := ga.lt
          have lt2 := gb.lt
          have s4 : a.eval (.tmp 4) = .pointer (some ⟨w.heap.size + 1, 0, none⟩) := fr.old 4 rfl
          have s2 : a.eval (.tmp 2) = .pointer (some ⟨w.heap.size, 0, none⟩) := fr.old 2 rfl
          have s0 : a.eval (.tmp 0) = .slice (some ⟨b, off, none⟩) 188 c := fr.old 0 rfl
          have hld : (Instr.loadAt 28 (.pointer (some ⟨w.heap.size + 1, 0, none⟩))).run Try.prog wx = .ok PK wx := by
            rw [hPK]
            exact run_loadAt_box gb Try.underlying28 rfl (by kernel_rfl)
          have gkeep : ∀ (wy : World), Below wx.heap.size wx wy → i ≠ 12 → Below w.heap.size w wy ∧ Bx wy w.heap.size 28 (if (updD D i) 12 then #[.int .i64 PID, .int .i64 CNT, .bool ST, .int .i64 CK, .slice A' pn c'] else #[.int .i64 0, .int .i64 0, .bool false, .int .i64 0, .slice none 0 0]) ∧ Bx wy (w.heap.size + 1) 28 #[.int .i64 PID, .int .i64 CNT, .bool ST, .int .i64 CK, .slice A' pn c'] := by
            intro wy hy hi12
            have e12 : updD D i 12 = D 12 := by unfold updD; rw [if_neg (fun e => hi12 e.symm)]
            exact ⟨gB.trans (hy.mono gB.size), by rw [e12]; exact ga.ext hy, gb.ext hy⟩
          have gsame : i ≠ 12 → Below w.heap.size w wx ∧ Bx wx w.heap.size 28 (if (updD D i) 12 then #[.int .i64 PID, .int .i64 CNT, .bool ST, .int .i64 CK, .slice A' pn c'] else #[.int .i64 0, .int .i64 0, .bool false, .int .i64 0, .slice none 0 0]) ∧ Bx wx (w.heap.size + 1) 28 #[.int .i64 PID, .int .i64 CNT, .bool ST, .int .i64 CK, .slice A' pn c'] := fun h => gkeep wx (Below.refl _ _) h
          have hi14 : i < 14 := (List.getElem?_eq_some_iff.1 ho).1
          rcases (show i = 0 ∨ i = 1 ∨ i = 2 ∨ i = 3 ∨ i = 4 ∨ i = 5 ∨ i = 6 ∨ i = 7 ∨ i = 8 ∨ i = 9 ∨ i = 10 ∨ i = 11 ∨ i = 12 ∨ i = 13 by omega) with rfl | rfl | rfl | rfl | rfl | rfl | rfl | rfl | rfl | rfl | rfl | rfl | rfl | rfl
          all_goals (simp only [List.getElem?_cons_zero, List.getElem?_cons_succ, Option.some.injEq] at ho; subst ho)
          · refine wpOp_G rfl true rfl (fun _ => ?_) (fun h => by cases h)
            refine wp_value (v := PK) (w' := wx) ?_ ⟨_, rfl, True.intro, gsame (by omega), updU_same⟩
            simp [execOp, s4, hld]
          · refine wpOp_G rfl true rfl (fun _ => ?_) (fun h => by cases h)
            refine wp_value (v := PK) (w' := wx) ?_ ⟨_, rfl, True.intro, gsame (by omega), updU_same⟩
            simp [execOp, s4, hld]
          · refine wpOp_G rfl true rfl (fun _ => ?_) (fun h => by cases h)
            have d1 : D 1 = true := hpre ⟨1, .data⟩ (by simp) rfl
            have f1 : a.eval (.tmp 86) = PK := (fr.at_ 1 d1 rfl).trans (hfacts 1 d1)
            have f1' : a.tmps[86]?.getD undef = PK := by simpa [Act.eval] using f1
            refine wp_enter (f := 33) (args := #[PK]) (R := fun e w' => e = .returned (.bool V) ∧ Below wx.heap.size wx w') ?_ (by rw [hPK, hV]; exact tr_valid PID CNT ST CK A' pn c' wx) ?_
            · simp [execOp, resolve, invoke, f1, f1', go_sem]
            · rintro e w' ⟨rfl, hb⟩
              exact ⟨_, rfl, _, rfl, True.intro, gkeep _ hb (by omega), updU_same⟩
          · refine wpOp_G rfl true rfl (fun _ => ?_) (fun h => by cases h)
            have d2 : D 2 = true := hpre ⟨2, .data⟩ (by simp) rfl
            have f2 : a.eval (.tmp 87) = .bool V := (fr.at_ 2 d2 rfl).trans (hfacts 2 d2)
            refine wp_value (v := .bool V) (w' := wx) ?_ ⟨_, rfl, True.intro, gsame (by omega), updU_same⟩
            simp [execOp, f2]
          · have d3 : D 3 = true := hpre ⟨3, .guard⟩ (by simp) rfl
            refine wpOp_G rfl (V == true) (wanted_of fr rfl d3 rfl (hfacts 3 d3)) (fun h => ?_) (fun h => ⟨_, rfl, True.intro, gsame (by omega), fun hV' => absurd hV' (by simpa using h)⟩)
            refine wp_value (v := PK) (w' := wx) ?_ ⟨_, rfl, True.intro, gsame (by omega), fun _ => updU_same⟩
            simp [execOp, s4, hld]
          · have d3 : D 3 = true := hpre ⟨3, .guard⟩ (by simp) rfl
            refine wpOp_G rfl (V == true) (wanted_of fr rfl d3 rfl (hfacts 3 d3)) (fun h => ?_) (fun h => ⟨_, rfl, True.intro, gsame (by omega), fun hV' => absurd hV' (by simpa using h)⟩)
            have hVt : V = true := by simpa using h
            have d4 : D 4 = true := hpre ⟨4, .data⟩ (by simp) rfl
            have f4 : a.eval (.tmp 89) = PK := (fr.at_ 4 d4 rfl).trans (hfacts 4 d4 hVt)
            have f4' : a.tmps[89]?.getD undef = PK := by simpa [Act.eval] using f4
            refine wp_enter (f := 34) (args := #[PK]) (R := fun e w' => e = .returned (.agg (rowN .u8 E)) ∧ Below wx.heap.size wx w') ?_ (by rw [hPK, hE]; exact tr_enc PID CNT ST CK A' pn c' PL wx (HPLB.out _ wx (bdl wx gB)) (hV.symm.trans hVt)) ?_
            · simp [execOp, resolve, invoke, f4, f4', go_sem]
            · rintro e w' ⟨rfl, hb⟩
              exact ⟨_, rfl, _, rfl, True.intro, gkeep _ hb (by omega), fun _ => updU_same⟩
          · have d3 : D 3 = true := hpre ⟨3, .guard⟩ (by simp) rfl
            refine wpOp_G rfl (V == true) (wanted_of fr rfl d3 rfl (hfacts 3 d3)) (fun h => ?_) (fun h => ⟨_, rfl, True.intro, gsame (by omega), fun hV' => absurd hV' (by simpa using h)⟩)
            refine wp_value (v := .slice (some ⟨b, off, none⟩) 188 c) (w' := wx) ?_ ⟨_, rfl, True.intro, gsame (by omega), fun _ => updU_same⟩
            simp [execOp, s0]
          · have d3 : D 3 = true := hpre ⟨3, .guard⟩ (by simp) rfl
            refine wpOp_G rfl (V == true) (wanted_of fr rfl d3 rfl (hfacts 3 d3)) (fun h => ?_) (fun h => ⟨_, rfl, True.intro, gsame (by omega), fun hV' => absurd hV' (by simpa using h)⟩)
            have hVt : V = true := by simpa using h
            have d6 : D 6 = true := hpre ⟨6, .data⟩ (by simp) rfl
            have f6 : a.eval (.tmp 91) = .slice (some ⟨b, off, none⟩) 188 c := (fr.at_ 6 d6 rfl).trans (hfacts 6 d6 hVt)
            refine wp_value (v := .slice (some ⟨b, off, none⟩) 188 c) (w' := wx) ?_ ⟨_, rfl, True.intro, gsame (by omega), fun _ => updU_same⟩
            have hs := sub_head b off 188 c 188 (by omega) (by omega) wx
            have hs2 : (Instr.sliceAt 22 (.slice (some ⟨b, off, none⟩) 188 c) none (some (.int .i64 188)) none).run Try.prog wx = .ok (.slice (some ⟨b, off, none⟩) 188 c) wx := by
              rw [run_sliceAt_slice (P := Try.prog) _ _ _ _ _ _ Try.underlying22]
              exact hs
            simp [execOp, f6, Operand.const, hs2]
            simp [Act.eval, hs2]
          · have d3 : D 3 = true := hpre ⟨3, .guard⟩ (by simp) rfl
            refine wpOp_G rfl (V == true) (wanted_of fr rfl d3 rfl (hfacts 3 d3)) (fun h => ?_) (fun h => ⟨_, rfl, True.intro, gsame (by omega), fun hV' => absurd hV' (by simpa using h)⟩)
            have hVt : V = true := by simpa using h
            have d7 : D 7 = true := hpre ⟨7, .data⟩ (by simp) rfl
            have f7 : a.eval (.tmp 92) = .slice (some ⟨b, off, none⟩) 188 c := (fr.at_ 7 d7 rfl).trans (hfacts 7 d7 hVt)
            refine wp_value (v := .pointer (some ⟨b, off, none⟩)) (w' := wx) ?_ ⟨_, rfl, True.intro, gsame (by omega), fun _ => updU_same⟩
            have hs : (Instr.arrayAt 73 (.slice (some ⟨b, off, none⟩) 188 c)).run Try.prog wx = .ok (.pointer (some ⟨b, off, none⟩)) wx := run_arrayAt _ _ _ 188 _ _ _ Try.underlying73 (Nat.le_refl _)
            simp [execOp, f7, hs]
          · have d3 : D 3 = true := hpre ⟨3, .guard⟩ (by simp) rfl
            refine wpOp_G rfl (V == true) (wanted_of fr rfl d3 rfl (hfacts 3 d3)) (fun h => ?_) (fun h => ⟨_, rfl, True.intro, gsame (by omega), fun hV' => absurd hV' (by simpa using h)⟩)
            have hVt : V = true := by simpa using h
            have d8 : D 8 = true := hpre ⟨8, .data⟩ (by simp) rfl
            have f8 : a.eval (.tmp 93) = .pointer (some ⟨b, off, none⟩) := (fr.at_ 8 d8 rfl).trans (hfacts 8 d8 hVt)
            refine wp_value (v := .agg (rowN .u8 l)) (w' := wx) ?_ ⟨_, rfl, True.intro, gsame (by omega), fun _ => updU_same⟩
            have hr : wx.rangeAt b off (l.map (Value.int .u8)) := by
              intro j v hv
              rw [List.getElem?_map] at hv
              rcases hj : l[j]? with _ | x <;> simp [hj] at hv
              subst hv
              exact ((bdl wx gB).cellsAt (by omega)).2 j x hj
            have hs := run_loadAt_mid (P := Try.prog) wx b off 73 (l.map (Value.int .u8)) _ hr Try.underlying73 rfl (by rw [List.length_map, hlen188]; exact Try.info188)
            have hs2 : (Instr.loadAt 73 (.pointer (some ⟨b, off, none⟩))).run Try.prog wx = .ok (.agg (rowN .u8 l)) wx := hs
            simp [execOp, f8, hs2]
          · have d3 : D 3 = true := hpre ⟨3, .guard⟩ (by simp) rfl
            refine wpOp_G rfl (V == true) (wanted_of fr rfl d3 rfl (hfacts 3 d3)) (fun h => ?_) (fun h => ⟨_, rfl, True.intro, gsame (by omega), fun hV' => absurd hV' (by simpa using h)⟩)
            have hVt : V = true := by simpa using h
            have d5 : D 5 = true := hpre ⟨5, .data⟩ (by simp) rfl
            have d9 : D 9 = true := hpre ⟨9, .data⟩ (by simp) rfl
            have f5 : a.eval (.tmp 90) = .agg (rowN .u8 E) := (fr.at_ 5 d5 rfl).trans (hfacts 5 d5 hVt)
            have f9 : a.eval (.tmp 94) = .agg (rowN .u8 l) := (fr.at_ 9 d9 rfl).trans (hfacts 9 d9 hVt)
            refine wp_value (v := .bool (decide (E = l))) (w' := wx) ?_ ⟨_, rfl, True.intro, gsame (by omega), fun _ => updU_same⟩
            have hs := eqin188 wx E l (hEl hVt) hlen188
            have f5' : a.tmps[90]?.getD undef = .agg (rowN .u8 E) := by simpa [Act.eval] using f5
            have f9' : a.tmps[94]?.getD undef = .agg (rowN .u8 l) := by simpa [Act.eval] using f9
            simp [execOp, f5', f9', hs, go_sem]
          · refine wpOp_G rfl true rfl (fun _ => ?_) (fun h => by cases h)
            have d3 : D 3 = true := hpre ⟨3, .data⟩ (by simp) rfl
            have d10 : D 10 = true := hpre ⟨10, .data⟩ (by simp) rfl
            have f3 : a.eval (.tmp 88) = .bool V := (fr.at_ 3 d3 rfl).trans (hfacts 3 d3)
            have f10 : a.eval (.tmp 95) = u 10 := fr.at_ 10 d10 rfl
            have h10 := hfacts 10 d10
            have f3' : a.tmps[88]?.getD undef = .bool V := by simpa [Act.eval] using f3
            have f10' : a.tmps[95]?.getD undef = u 10 := by simpa [Act.eval] using f10
            refine wp_value (v := .bool (V && decide (E = l))) (w' := wx) ?_ ⟨_, rfl, True.intro, gsame (by omega), updU_same⟩
            cases V with
            | true => simp [execOp, f3', f10', h10 rfl, go_sem]
            | false => simp [execOp, f3', go_sem]
          · refine wpOp_G rfl true rfl (fun _ => ?_) (fun h => by cases h)
            have d0 : D 0 = true := hpre ⟨0, .data⟩ (by simp) rfl
            have f0 : a.eval (.tmp 85) = .agg #[.int .i64 PID, .int .i64 CNT, .bool ST, .int .i64 CK, .slice A' pn c'] := by rw [← hPK]; exact (fr.at_ 0 d0 rfl).trans (hfacts 0 d0)
            refine wp_store_row 28 (.tmp 2) (.tmp 85) rfl w.heap.size _ s2 f0 28 _ ga (by kernel_rfl) (by cases D 12 <;> rfl) (by simp [Value.oneCell']) ⟨_, rfl, True.intro, ⟨below_row gB (Nat.le_refl _), ?_, gb.rowFar (by omega)⟩, True.intro⟩
            have e12 : updD D 12 12 = true := by unfold updD; rw [if_pos rfl]
            rw [e12]
            exact setRow_heap _ _ _ _ _ _ ga
          · refine wpOp_G rfl true rfl (fun _ => ?_) (fun h => by cases h)
            have d11 : D 11 = true := hpre ⟨11, .data⟩ (by simp) rfl
            have f11 : a.eval (.tmp 96) = .bool (V && decide (E = l)) := (fr.at_ 11 d11 rfl).trans (hfacts 11 d11)
            refine wp_value (v := .bool (V && decide (E = l))) (w' := wx) ?_ ⟨_, rfl, True.intro, gsame (by omega), updU_same⟩
            simp [execOp, f11]
        · intro D u wz hall hG hfacts
          obtain ⟨gB, ga, gb⟩ := hG
          rw [if_pos (hall 12 (by simp))] at ga
          have h13 : u 13 = .bool (V && decide (E = l)) := hfacts 13 (by simp)
          obtain ⟨f0, f1, f2, f3, f4⟩ := ga.cells5
          clear hfacts hall
          simp only [putsU, Act.put, List.setIfInBounds_toArray, List.set_cons_succ, List.set_cons_zero, Nat.zero_add, Nat.reduceAdd, h13]
          go_wp2_with fail
          refine bodyPost_ret (v := .tuple #[.agg #[.int .i64 PID, .int .i64 CNT, .bool ST, .int .i64 CK, .slice A' pn c'], .bool (V && decide (E = l))]) (by simp [results, Try.results39, go_sem, f0, f1, f2, f3, f4, ga.lt]) rfl ⟨PID, CNT, ST, CK, A', pn, c', _, rfl, ?_, gB⟩
          cases hok : (V && decide (E = l)) with
          | true =>
            obtain ⟨hV1, hEl1⟩ : V = true ∧ E = l := by simpa using hok
            have hvt : validT PID CNT ST CK pn = true := HV.out.symm.trans hV1
            have hs := validT_spec hvt
            refine ⟨PL, hvt, ?_, HPLL.out, HPLB.out⟩
            rw [← encL_form PID CNT ST CK PL pn HPLL.out hs.2.2.2.1 hs.2.2.2.2.1, ← HE.out]
            exact hEl1
          | false =>
            intro pid cnt st clk pl n hv hpl2 hl2
            obtain ⟨k0, k1, k2, k3, k4, k5, _, _, k8⟩ := cand_enc HX.out hv hpl2 hl2
            have hs := validT_spec hv
            have e1 : PID = pid := HPID.out.trans k1
            have e2 : CNT = cnt := HCNT.out.trans k2
            have e3 : ST = st := by
              rw [HST.out, Bool.eq_iff_iff, decide_eq_true_eq]
              exact k3
            have e4 : CK = clk := HCK.out.trans k5
            have e5 : pn = n := by
              have h1 := HPN.out
              have h2 := HF.out.trans k4
              omega
            have e6 : PL = pl := by
              rw [HPLE.out, e5, k8]
              exact List.take_of_length_le (by omega)
            subst e1 e2 e3 e4 e5 e6
            have hVt : V = true := HV.out.trans hv
            have hEe : E = l := by
              rw [HE.out, encL_form _ _ _ _ _ _ hpl2 hs.2.2.2.1 hs.2.2.2.2.1]
              exact hl2
            simp [hVt, hEe] at hok
set_option maxRecDepth 100000 in
set_option maxHeartbeats 4000000 in
theorem tr_decode_no71 {q : Nat → Prop} (b off c : Nat) (l : List Int) {x0 x1 x2 x3 x4 x5 x6 x7 x8 x9 x10 x11 : Int} (hx : Read12 l x0 x1 x2 x3 x4 x5 x6 x7 x8 x9 x10 x11) (w : World) (hl : Byt q w (some ⟨b, off, none⟩) 188 l) (h0 : x0 ≠ 71) :
    Calls Try.prog 39 #[.slice (some ⟨b, off, none⟩) 188 c] w (RetD w b off l) := by
  obtain ⟨hbl, hcl⟩ := hl.cellsAt (by omega)
  have c0 := hcl 0 _ hx.h0
  rw [Nat.add_zero] at c0
  have t0 : (x0 != 71) = true := by simpa using h0
  have hno : DecR l b off 0 0 false 0 none 0 false := by
    intro pid cnt st clk pl n hv hpl hl
    exact h0 (cand_enc hx hv hpl hl).1
  have HNO := Lib.hid hno
  clear hcl h0 hno hx hl
  have j1 : w.heap.size ≠ b := by omega
  go_enter Try.func39, Try.ntmps39
  go_wp2_with fail
  refine bodyPost_ret (v := .tuple #[.agg #[.int .i64 0, .int .i64 0, .bool false, .int .i64 0, .slice none 0 0], .bool false]) (by simp [results, Try.results39, go_sem]) rfl ⟨0, 0, false, 0, none, 0, 0, false, rfl, HNO.out, ?_⟩
  exact (Below.refl _ w).alloc (Nat.le_refl _) _
theorem tr_decode {q : Nat → Prop} (b off c : Nat) (l : List Int) (w : World) (hc : 188 ≤ c) (hl : Byt q w (some ⟨b, off, none⟩) 188 l) :
    Calls Try.prog 39 #[.slice (some ⟨b, off, none⟩) 188 c] w (RetD w b off l) := by
  obtain ⟨x0, x1, x2, x3, x4, x5, x6, x7, x8, x9, x10, x11, hx⟩ := read12 l hl.len
  by_cases h0 : x0 = 71
  · exact tr_decode_71 b off c l hx w hc hl h0
  · exact tr_decode_no71 b off c l hx w hl h0
end Go.Proofs.Ytdnchjmopkhnaaa
