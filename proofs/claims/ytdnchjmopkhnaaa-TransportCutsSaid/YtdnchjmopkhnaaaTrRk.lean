/- The reference's Take of a packet. -/
import Derived.Test.YtdnchjmopkhnaaaTrTk
import Derived.Test.YtdnchjmopkhnaaaTrW
namespace Go.Proofs.Ytdnchjmopkhnaaa
open Go.RowKit
attribute [local go_sem ↓] Go.wp_at_zero Go.wp_at_succ run_min_mm

theorem ref_TPut {q : Nat → Prop} (pid cnt : Int) (st : Bool) (clk : Int) (A : Option Addr) (n c : Nat) (l : List Int) (w : World) (hl : Byt q w A n l) (hv : validT pid cnt st clk n = true) :
    Calls Try.prog 13 #[.agg #[.int .i64 pid, .int .i64 cnt, .bool st, .int .i64 clk, .slice A n c]] w (RetP w (pktL pid cnt st clk l n) 0) := by
  obtain ⟨hp, hcn, hck, hn, hrm, hst⟩ := validT_spec hv
  by_cases h1 : n = 184
  · subst h1
    cases st
    · exact ref_TPut_184 pid cnt clk A c l w hl hp hcn hv
    · exact ref_TPut_184s pid cnt clk A c l w hl hp hcn hv
  by_cases h2 : n = 183
  · subst h2
    cases st
    · exact ref_TPut_183 pid cnt clk A c l w hl hp hcn hv
    · exact ref_TPut_183s pid cnt clk A c l w hl hp hcn hv
  rcases Nat.eq_zero_or_pos n with h0 | h0
  · cases st
    · exact ref_TPut_0 pid cnt clk A n c l w hl hp hcn hck (by omega) hrm h0 hv
    · rcases hst with h | h
      · cases h
      · omega
  · cases st
    · exact ref_TPut_182 pid cnt clk A n c l w hl hp hcn hck (by omega) hrm h0 hv
    · exact ref_TPut_182s pid cnt clk A n c l w hl hp hcn hck (by omega) hrm h0 hv

set_option maxRecDepth 100000 in
theorem sub_tail (b off n c : Nat) (lo : Int) (h0 : 0 ≤ lo) (h1 : lo ≤ n) (hc : n ≤ c) :
    ∃ A' c', (∀ w, (Instr.slice 22 (.slice (some ⟨b, off, none⟩) n c) (some (.int .i64 lo)) none none).run Try.prog w = .ok (.slice A' (n - lo).toNat c') w) ∧
      ∀ (q : Nat → Prop) (W : World) (l : List Int), Byt q W (some ⟨b, off, none⟩) n l → Byt q W A' (n - lo).toNat (l.drop lo.toNat) := by
  have hsz : ∀ w, (sizeOf 5).run Try.prog w = .ok 1 w := fun _ => by kernel_rfl
  by_cases he : c = lo.toNat
  · refine ⟨some ⟨b, off, none⟩, 0, fun w => ?_, fun q W l hB => ?_⟩
    · rw [run_slice_l (P := Try.prog) w 22 (some ⟨b, off, none⟩) n c Try.underlying22 .i64 lo (by omega) (by omega)]
      have hz := hsz w
      show ((sizeOf 5).run Try.prog w).andThen _ = _
      rw [hz]
      simp only [Result.andThen, sliced]
      rw [if_pos he, show c - lo.toNat = 0 by omega, show n - lo.toNat = (n - lo).toNat by omega]
    · rw [show ((n : Int) - lo).toNat = 0 by omega, List.drop_of_length_le (by have := hB.len; omega)]
      exact Byt.nil
  · refine ⟨some ⟨b, off + lo.toNat, none⟩, c - lo.toNat, fun w => ?_, fun q W l hB => ?_⟩
    · rw [run_slice_l (P := Try.prog) w 22 (some ⟨b, off, none⟩) n c Try.underlying22 .i64 lo (by omega) (by omega)]
      have hz := hsz w
      show ((sizeOf 5).run Try.prog w).andThen _ = _
      rw [hz]
      simp only [Result.andThen, sliced]
      rw [if_neg he, show n - lo.toNat = (n - lo).toNat by omega]
      simp [Addr.add]
    · have := Byt.sub (k := lo.toNat) (m := (n - lo).toNat) hB (by omega)
      rwa [List.take_of_length_le (by rw [List.length_drop, hB.len]; omega)] at this

set_option maxRecDepth 100000 in
set_option maxHeartbeats 4000000 in
theorem ref_Take_188 {q : Nat → Prop} (b off c : Nat) (l : List Int) {x0 x1 x2 x3 x4 x5 x6 x7 x8 x9 x10 x11 : Int} (hx : Read12 l x0 x1 x2 x3 x4 x5 x6 x7 x8 x9 x10 x11) (w : World) (hc : 188 ≤ c) (hl : Byt q w (some ⟨b, off, none⟩) 188 l) :
    Calls Try.prog 18 #[.slice (some ⟨b, off, none⟩) 188 c] w (RetK w l) := by
  obtain ⟨hbl, hcl⟩ := hl.cellsAt (by omega)
  have r1 := hl.rng _ (List.mem_of_getElem? hx.h1)
  have r2 := hl.rng _ (List.mem_of_getElem? hx.h2)
  have r3 := hl.rng _ (List.mem_of_getElem? hx.h3)
  have r4 := hl.rng _ (List.mem_of_getElem? hx.h4)
  have r5 := hl.rng _ (List.mem_of_getElem? hx.h5)
  have c1 := hcl 1 _ hx.h1
  have c2 := hcl 2 _ hx.h2
  have c3 := hcl 3 _ hx.h3
  have c4 := hcl 4 _ hx.h4
  have c5 := hcl 5 _ hx.h5
  have HCL := Lib.hid hcl
  have HL := Lib.hid hl
  have HX := Lib.hid hx
  clear hcl hl hx
  obtain ⟨PID, hPID⟩ : ∃ x, x = x1 % 32 * 256 + x2 := ⟨_, rfl⟩
  obtain ⟨CNT, hCNT⟩ : ∃ x, x = x3 % 16 := ⟨_, rfl⟩
  obtain ⟨ST, hST⟩ : ∃ x, x = decide (x1 / 64 % 2 = 1) := ⟨_, rfl⟩
  obtain ⟨M5, hM5⟩ : ∃ x, x = x1 % 32 := ⟨_, rfl⟩
  have bM5 : 0 ≤ M5 ∧ M5 < 32 := by omega
  have a1 : bits .and .u8 x1 31 = M5 := by rw [u8_mask5 x1 r1.1 r1.2, hM5]
  have a2 : bits .or .i64 (M5 * 256) x2 = PID := by rw [i64_or_low 8 M5 x2 256 rfl (by omega) (by omega) (by omega) (by omega), hM5, hPID]
  have a3 : bits .and .u8 x3 15 = CNT := by rw [u8_mask4 x3 r3.1 r3.2, hCNT]
  have a4 : (bits .and .u8 x1 64 != 0) = ST := by rw [u8_bit64 x1 r1.1 r1.2, hST]
  have w1 : IntKind.i64.wrap M5 = M5 := IntWalk.i64_in _ (by omega)
  have w2 : IntKind.i64.wrap (M5 * 256) = M5 * 256 := IntWalk.i64_in _ (by omega)
  have w3 : IntKind.i64.wrap x2 = x2 := IntWalk.i64_in _ (by omega)
  have bCNT : 0 ≤ CNT ∧ CNT < 16 := by omega
  have w4 : IntKind.i64.wrap CNT = CNT := IntWalk.i64_in _ (by omega)
  have HPID := Lib.hid hPID
  have HCNT := Lib.hid hCNT
  have HST := Lib.hid hST
  have HM5 := Lib.hid hM5
  clear hPID hCNT hST hM5
  have x2b : Bx (w.alloc (.cells #[.int .i64 0, .int .i64 0, .bool false, .int .i64 0, .slice none 0 0] 24)) w.heap.size 24 #[.int .i64 0, .int .i64 0, .bool false, .int .i64 0, .slice none 0 0] := Bx.new _ _ _
  have i1 : (1 : Int) < (188 : Int) := by omega
  have i2 : (2 : Int) < (188 : Int) := by omega
  have i3 : (3 : Int) < (188 : Int) := by omega
  have i4 : (4 : Int) < (188 : Int) := by omega
  have i5 : (5 : Int) < (188 : Int) := by omega
  have j1 : w.heap.size ≠ b := by omega
  go_enter Try.func18, Try.ntmps18
  go_wp2_with fail
  go_region_held3 (fun w' => w'.cell? ⟨b, off + 1, none⟩ = some (.int .u8 x1) ∧ w'.cell? ⟨b, off + 2, none⟩ = some (.int .u8 x2) ∧ w'.cell? ⟨b, off + 3, none⟩ = some (.int .u8 x3)) (go_keep) (fail)
  have xa : Bx (((w.alloc (.cells #[.int .i64 0, .int .i64 0, .bool false, .int .i64 0, .slice none 0 0] 24)).alloc (.cells #[.int .i64 PID, .int .i64 CNT, .bool ST, .int .i64 (-1), .slice none 0 0] 24)).drew) w.heap.size 24 #[.int .i64 0, .int .i64 0, .bool false, .int .i64 0, .slice none 0 0] := (x2b.alloc _).drew
  have xb : Bx (((w.alloc (.cells #[.int .i64 0, .int .i64 0, .bool false, .int .i64 0, .slice none 0 0] 24)).alloc (.cells #[.int .i64 PID, .int .i64 CNT, .bool ST, .int .i64 (-1), .slice none 0 0] 24)).drew) (w.heap.size + 1) 24 #[.int .i64 PID, .int .i64 CNT, .bool ST, .int .i64 (-1), .slice none 0 0] := (Bx.new' _ _ _ _ (by simp)).drew
  have B1 : Below w.heap.size w (((w.alloc (.cells #[.int .i64 0, .int .i64 0, .bool false, .int .i64 0, .slice none 0 0] 24)).alloc (.cells #[.int .i64 PID, .int .i64 CNT, .bool ST, .int .i64 (-1), .slice none 0 0] 24)).drew) := (((Below.refl _ w).alloc (Nat.le_refl _) _).alloc (by simp) _).drew
  generalize ((w.alloc (.cells #[.int .i64 0, .int .i64 0, .bool false, .int .i64 0, .slice none 0 0] 24)).alloc (.cells #[.int .i64 PID, .int .i64 CNT, .bool ST, .int .i64 (-1), .slice none 0 0] 24)).drew = W at *
  clear x2b a1 a2 a3 a4 w1 w2 w3 w4 c1 c2
  have c3 : W.cell? ⟨b, off + 3, none⟩ = some (.int .u8 x3) := (B1.cell (p := ⟨b, off + 3, none⟩) hbl).trans c3
  have c4 : W.cell? ⟨b, off + 4, none⟩ = some (.int .u8 x4) := (B1.cell (p := ⟨b, off + 4, none⟩) hbl).trans c4
  have c5 : W.cell? ⟨b, off + 5, none⟩ = some (.int .u8 x5) := (B1.cell (p := ⟨b, off + 5, none⟩) hbl).trans c5
  have s1 := xb.lt
  have ne1 : b ≠ w.heap.size + 1 := by omega
  obtain ⟨AT, hAT⟩ : ∃ F, F = fromR x3 x4 := ⟨_, rfl⟩
  obtain ⟨CK, hCK⟩ : ∃ CK, CK = clkR x3 x4 x5 (sixV x6 x7 x8 x9 x10 x11) := ⟨_, rfl⟩
  have bAT : 4 ≤ AT ∧ AT ≤ 188 := by rw [hAT]; unfold fromR; split <;> omega
  have HAT := Lib.hid hAT
  have HCK := Lib.hid hCK
  clear hAT hCK
  have g32 := u8_bit32 x3 r3.1 r3.2
  have g16 := u8_bit16 x5 r5.1 r5.2
  go_upto_if 43 with fail
  go_cut [5] (fun s5 wx => s5 = .int .i64 AT ∧ Bx wx w.heap.size 24 #[.int .i64 0, .int .i64 0, .bool false, .int .i64 0, .slice none 0 0] ∧ Bx wx (w.heap.size + 1) 24 #[.int .i64 PID, .int .i64 CNT, .bool ST, .int .i64 CK, .slice none 0 0] ∧ Below w.heap.size w wx)
  case first =>
    by_cases h32 : x3 / 32 % 2 = 1
    · have d32 : decide (x3 / 32 % 2 = 1) = true := by simpa using h32
      rw [d32] at g32
      have hA : AT = min (5 + x4) 188 := by rw [HAT.out]; unfold fromR; rw [if_pos h32]
      have HA := Lib.hid hA
      clear hA d32
      by_cases h6 : 6 < x4
      · have d6 : decide (6 < x4) = true := by simpa using h6
        by_cases h16 : x5 / 16 % 2 = 1
        · have d16 : decide (x5 / 16 % 2 = 1) = true := by simpa using h16
          rw [d16] at g16
          have hck : CK = sixV x6 x7 x8 x9 x10 x11 / 32768 * 300 + sixV x6 x7 x8 x9 x10 x11 % 512 := by
            rw [HCK.out]; unfold clkR; rw [if_pos ⟨h32, h6, h16⟩]
          have HC := Lib.hid hck
          clear hck d16
          have r6 := HL.out.rng _ (List.mem_of_getElem? HX.out.h6)
          have r7 := HL.out.rng _ (List.mem_of_getElem? HX.out.h7)
          have r8 := HL.out.rng _ (List.mem_of_getElem? HX.out.h8)
          have r9 := HL.out.rng _ (List.mem_of_getElem? HX.out.h9)
          have r10 := HL.out.rng _ (List.mem_of_getElem? HX.out.h10)
          have r11 := HL.out.rng _ (List.mem_of_getElem? HX.out.h11)
          have c6 : W.cell? ⟨b, off + 6, none⟩ = some (.int .u8 x6) := (B1.cell (p := ⟨b, off + 6, none⟩) hbl).trans (HCL.out _ _ HX.out.h6)
          have c7 : W.cell? ⟨b, off + 7, none⟩ = some (.int .u8 x7) := (B1.cell (p := ⟨b, off + 7, none⟩) hbl).trans (HCL.out _ _ HX.out.h7)
          have c8 : W.cell? ⟨b, off + 8, none⟩ = some (.int .u8 x8) := (B1.cell (p := ⟨b, off + 8, none⟩) hbl).trans (HCL.out _ _ HX.out.h8)
          have c9 : W.cell? ⟨b, off + 9, none⟩ = some (.int .u8 x9) := (B1.cell (p := ⟨b, off + 9, none⟩) hbl).trans (HCL.out _ _ HX.out.h9)
          have c10 : W.cell? ⟨b, off + 10, none⟩ = some (.int .u8 x10) := (B1.cell (p := ⟨b, off + 10, none⟩) hbl).trans (HCL.out _ _ HX.out.h10)
          have c11 : W.cell? ⟨b, off + 11, none⟩ = some (.int .u8 x11) := (B1.cell (p := ⟨b, off + 11, none⟩) hbl).trans (HCL.out _ _ HX.out.h11)
          obtain ⟨y10, hy10⟩ : ∃ y, y = x10 / 128 := ⟨_, rfl⟩
          obtain ⟨z10, hz10⟩ : ∃ z, z = x10 % 2 := ⟨_, rfl⟩
          have by10 : 0 ≤ y10 ∧ y10 ≤ 1 := by omega
          have bz10 : 0 ≤ z10 ∧ z10 ≤ 1 := by omega
          have ey10 : x10 / 128 = y10 := hy10.symm
          have az10 : bits .and .u8 x10 1 = z10 := by rw [u8_and x10 1 (by omega) (by omega) (by omega) (by omega), hz10]; simp; omega
          have o1 : bits .or .i64 (x6 * 33554432) (x7 * 131072) = x6 * 33554432 + x7 * 131072 := i64_or_low 25 x6 (x7 * 131072) 33554432 rfl (by omega) (by omega) (by omega) (by omega)
          have o2 : bits .or .i64 (x6 * 33554432 + x7 * 131072) (x8 * 512) = x6 * 33554432 + x7 * 131072 + x8 * 512 := by
            have := i64_or_low 17 (x6 * 256 + x7) (x8 * 512) 131072 rfl (by omega) (by omega) (by omega) (by omega)
            rwa [show (x6 * 256 + x7) * 131072 = x6 * 33554432 + x7 * 131072 by omega] at this
          have o3 : bits .or .i64 (x6 * 33554432 + x7 * 131072 + x8 * 512) (x9 * 2) = x6 * 33554432 + x7 * 131072 + x8 * 512 + x9 * 2 := by
            have := i64_or_low 9 (x6 * 65536 + x7 * 256 + x8) (x9 * 2) 512 rfl (by omega) (by omega) (by omega) (by omega)
            rwa [show (x6 * 65536 + x7 * 256 + x8) * 512 = x6 * 33554432 + x7 * 131072 + x8 * 512 by omega] at this
          obtain ⟨BS, hBS⟩ : ∃ y, y = x6 * 33554432 + x7 * 131072 + x8 * 512 + x9 * 2 + y10 := ⟨_, rfl⟩
          have bBS : 0 ≤ BS ∧ BS < 8589934592 := by omega
          have o4 : bits .or .i64 (x6 * 33554432 + x7 * 131072 + x8 * 512 + x9 * 2) y10 = BS := by
            have := i64_or_low 1 (x6 * 16777216 + x7 * 65536 + x8 * 256 + x9) y10 2 rfl (by omega) (by omega) (by omega) (by omega)
            rw [show (x6 * 16777216 + x7 * 65536 + x8 * 256 + x9) * 2 = x6 * 33554432 + x7 * 131072 + x8 * 512 + x9 * 2 by omega] at this
            rw [this, hBS]
          have v6 : IntKind.i64.wrap x6 = x6 := IntWalk.i64_in _ (by omega)
          have v7 : IntKind.i64.wrap x7 = x7 := IntWalk.i64_in _ (by omega)
          have v8 : IntKind.i64.wrap x8 = x8 := IntWalk.i64_in _ (by omega)
          have v9 : IntKind.i64.wrap x9 = x9 := IntWalk.i64_in _ (by omega)
          have v10 : IntKind.i64.wrap y10 = y10 := IntWalk.i64_in _ (by omega)
          have v11 : IntKind.i64.wrap x11 = x11 := IntWalk.i64_in _ (by omega)
          have v12 : IntKind.i64.wrap z10 = z10 := IntWalk.i64_in _ (by omega)
          have v13 : IntKind.i64.wrap (x6 * 33554432) = x6 * 33554432 := IntWalk.i64_in _ (by omega)
          have v14 : IntKind.i64.wrap (x7 * 131072) = x7 * 131072 := IntWalk.i64_in _ (by omega)
          have v15 : IntKind.i64.wrap (x8 * 512) = x8 * 512 := IntWalk.i64_in _ (by omega)
          have v16 : IntKind.i64.wrap (x9 * 2) = x9 * 2 := IntWalk.i64_in _ (by omega)
          have v17 : IntKind.i64.wrap (z10 * 256) = z10 * 256 := IntWalk.i64_in _ (by omega)
          have v18 : IntKind.i64.wrap (BS * 300) = BS * 300 := IntWalk.i64_in _ (by omega)
          have v19 : IntKind.i64.wrap (BS * 300 + z10 * 256) = BS * 300 + z10 * 256 := IntWalk.i64_in _ (by omega)
          have v20 : IntKind.i64.wrap (BS * 300 + z10 * 256 + x11) = BS * 300 + z10 * 256 + x11 := IntWalk.i64_in _ (by omega)
          have i6 : (6 : Int) < (188 : Int) := by omega
          have i7 : (7 : Int) < (188 : Int) := by omega
          have i8 : (8 : Int) < (188 : Int) := by omega
          have i9 : (9 : Int) < (188 : Int) := by omega
          have i10 : (10 : Int) < (188 : Int) := by omega
          have i11 : (11 : Int) < (188 : Int) := by omega
          have HBS : Hid (BS * 300 + z10 * 256 + x11 = sixV x6 x7 x8 x9 x10 x11 / 32768 * 300 + sixV x6 x7 x8 x9 x10 x11 % 512) := Lib.hid (by unfold sixV; omega)
          clear hy10 hz10 hBS r6 r7 r8 r9 r10 r11
          rw [← HBS.out] at HC
          go_wp2_with fail
          go_quiet (fail)
          go_wp2_with fail
          have xa := xa.drewN nq
          have xb := xb.drewN nq
          have B1 := bdrewN B1 nq
          have c10 : (W.drewN nq).cell? ⟨b, off + 10, none⟩ = some (.int .u8 x10) := c10
          have c11 : (W.drewN nq).cell? ⟨b, off + 11, none⟩ = some (.int .u8 x11) := c11
          generalize W.drewN nq = Wq at *
          have e3 := xb.cell 3 rfl
          have fr3 := xb.frozen 3
          have s2 := xb.lt
          have k10 : ∀ v : Value, ((Wq.setCell ⟨w.heap.size + 1, 3, none⟩ v).drew.cell? ⟨b, off + 10, none⟩ = some (.int .u8 x10) ∧ (Wq.setCell ⟨w.heap.size + 1, 3, none⟩ v).drew.cell? ⟨b, off + 11, none⟩ = some (.int .u8 x11)) := fun v =>
            ⟨(World.cell?_of_block (Below.heap_setCell Wq ⟨w.heap.size + 1, 3, none⟩ v b (by dsimp only; omega))).trans c10, (World.cell?_of_block (Below.heap_setCell Wq ⟨w.heap.size + 1, 3, none⟩ v b (by dsimp only; omega))).trans c11⟩
          have K10 := Lib.hid k10
          clear k10
          go_region_held3 (fun w' => w'.cell? ⟨b, off + 10, none⟩ = some (.int .u8 x10) ∧ w'.cell? ⟨b, off + 11, none⟩ = some (.int .u8 x11)) (first | exact K10.out _ | exact ⟨c10, c11⟩ | go_keep) (fail)
          go_wp2_with fail
          go_meet
          case rel => exact ⟨by rw [HA.out], (xa.far (by dsimp only; omega) _).drew, by rw [HC.out]; exact (xb.set_ 3 _).drew, (bset B1 _ (by dsimp only; omega) _).drew⟩
        · have d16 : decide (x5 / 16 % 2 = 1) = false := by simpa using h16
          rw [d16] at g16
          have hck : CK = -1 := by
            rw [HCK.out]; unfold clkR; rw [if_neg (fun h => h16 h.2.2)]
          have HC := Lib.hid hck
          clear hck d16
          go_wp2_with fail
          go_meet
          case rel => exact ⟨by rw [HA.out], xa, by rw [HC.out]; exact xb, B1⟩
      · have d6 : decide (6 < x4) = false := by simpa using h6
        have hck : CK = -1 := by
          rw [HCK.out]; unfold clkR; rw [if_neg (fun h => h6 h.2.1)]
        have HC := Lib.hid hck
        clear hck
        go_wp2_with fail
        go_meet
        case rel => exact ⟨by rw [HA.out], xa, by rw [HC.out]; exact xb, B1⟩
    · have d32 : decide (x3 / 32 % 2 = 1) = false := by simpa using h32
      rw [d32] at g32
      have hA : AT = 4 := by rw [HAT.out]; unfold fromR; rw [if_neg h32]
      have hck : CK = -1 := by
        rw [HCK.out]; unfold clkR; rw [if_neg (fun h => h32 h.1)]
      have HA := Lib.hid hA
      have HC := Lib.hid hck
      clear hA hck d32
      go_wp2_with fail
      go_meet
      case rel => exact ⟨by rw [HA.out], xa, by rw [HC.out]; exact xb, B1⟩
  case rest =>
    obtain ⟨rfl, xa2, xb2, B2⟩ := hcut
    clear xa xb B1 c3 c4 c5 s1 g32 g16
    obtain ⟨A', c', hsl, hsb⟩ := sub_tail b off 188 c AT (by omega) (by omega) (by omega)
    obtain ⟨pn, hpn⟩ : ∃ pn : Nat, pn = (188 - AT).toNat := ⟨_, rfl⟩
    have hsl' : ∀ w, (Instr.slice 22 (.slice (some ⟨b, off, none⟩) 188 c) (some (.int .i64 AT)) none none).run Try.prog w = .ok (.slice A' pn c') w := by rw [hpn]; exact hsl
    have hsb' : ∀ (q : Nat → Prop) (W : World) (l : List Int), Byt q W (some ⟨b, off, none⟩) 188 l → Byt q W A' pn (l.drop AT.toNat) := by rw [hpn]; exact hsb
    obtain ⟨PL, hPL⟩ : ∃ PL, PL = l.drop AT.toNat := ⟨_, rfl⟩
    have hbd := (HL.out.mono (q := (· < w.heap.size)) (fun b h _ => h)).below B2 (fun _ _ h => h)
    have hPb := hsb' _ _ _ hbd
    rw [← hPL] at hPb
    have HPL := Lib.hid hPL
    have HPN := Lib.hid hpn
    have HPB := Lib.hid hPb
    have bpn : pn ≤ 184 := by omega
    have s2 := xb2.lt
    have e4 := xb2.cell 4 rfl
    have fr4 := xb2.frozen 4
    have z2 := B2.size
    have o3 := OwB.lit wc (w.heap.size + 1 + 1) 5 [] 0 rfl rfl rfl (by omega) (by omega)
    have HBA := Lib.hid (HPB.out.alloc (.cells #[] 5))
    clear hsl hsb hsb' hPL hpn hPb hbd
    have HXB := Lib.hid (xb2.alloc (.cells #[] 5))
    have HNE : Hid (some (w.heap.size + 1) ≠ (Value.slice (some ⟨wc.heap.size, 0, none⟩) 0 0).ownBlock) := Lib.hid (own_ne o3 (.inl (by omega)))
    go_upto_region 13 with (at_builtin; go_must (refine wpList_appB _ rfl (.tmp 105) (.tmp 108) 22 rfl 5 Try.underlying22 Try.infoB (w.heap.size + 1 + 1) _ [] rfl o3 A' pn c' PL rfl HBA.out (by simp; omega) (by simp; omega) ?_; intro v4 w4 ho4 hg4 hat4; obtain ⟨A4, k4, rfl, hk4⟩ := OwB.slice ho4; have x4 := HXB.out.grown hg4 HNE.out; have e4 := x4.cell 4 rfl; have fr4 := x4.frozen 4; have s4 := x4.lt))
    have x5 : Bx (w4.setCell ⟨w.heap.size + 1, 4, none⟩ (.slice A4 PL.length k4)) (w.heap.size + 1) 24 #[.int .i64 PID, .int .i64 CNT, .bool ST, .int .i64 CK, .slice A4 PL.length k4] := x4.set_ 4 (.slice A4 PL.length k4)
    have xa5 := ((xa2.alloc (.cells #[] 5)).grown hg4 (own_ne o3 (.inl (by omega)))).far (a := ⟨w.heap.size + 1, 4, none⟩) (by dsimp only; omega) (.slice A4 PL.length k4)
    have B5 := bset ((B2.alloc z2 (.cells #[] 5)).grown hg4 (by simp; omega) (fun k hk => by have := (o3.lt k hk).1; omega)) ⟨w.heap.size + 1, 4, none⟩ (by dsimp only; omega) (.slice A4 PL.length k4)
    have P5 := Byt.setCell (a := ⟨w.heap.size + 1, 4, none⟩) (OwB.byt (p := fun b => w.heap.size + 1 + 1 ≤ b) ho4 (fun _ h => h) (by rw [List.nil_append]; exact HPB.out.rng)) (by dsimp only; omega) (.slice A4 PL.length k4)
    rw [List.nil_append] at P5
    generalize w4.setCell ⟨w.heap.size + 1, 4, none⟩ (.slice A4 PL.length k4) = W5 at *
    have P5 : Byt (fun b => w.heap.size + 1 + 1 ≤ b) W5 A4 PL.length PL := P5
    have hd5 := (HL.out.mono (q := (· < w.heap.size)) (fun b h _ => h)).below B5 (fun _ _ h => h)
    have HD5 := Lib.hid hd5
    have HP5 := Lib.hid P5
    have z5 := B5.size
    obtain ⟨e0, e1, e2, e3, e4⟩ := x5.cells5
    have s5 := x5.lt
    have no_of : (∀ pl : List Int, pl = PL → validT PID CNT ST CK pl.length = true → pktL PID CNT ST CK pl pl.length ≠ l) → NoPkt l := by
      intro hno pid cnt st clk pl n hv hpl2 hl2
      obtain ⟨k0, k1, k2, k3, _, _, k6, k7, k8⟩ := cand_enc HX.out hv hpl2 hl2
      have f1 : PID = pid := HPID.out.trans k1
      have f2 : CNT = cnt := HCNT.out.trans k2
      have f3 : ST = st := by
        rw [HST.out, Bool.eq_iff_iff, decide_eq_true_eq]
        exact k3
      have f4 : CK = clk := HCK.out.trans k7
      have f5 : pl = PL := by
        have hn := (validT_spec hv).2.2.2.1
        have h2 := HAT.out.trans k6
        rw [HPL.out, ← k8]
        congr 1
        omega
      subst f1 f2 f3 f4 hpl2
      exact hno pl f5 hv hl2
    have HNO := Lib.hid no_of
    clear x4 hg4 hat4 ho4 xa2 xb2 B2 z2 HBA HXB HNE o3 hd5 P5 no_of s4 hsl' fr4 s2
    rcases hV : validT PID CNT ST CK PL.length with _ | _
    · have hno : NoPkt l := HNO.out (fun pl hp hv => by rw [hp, hV] at hv; cases hv)
      have HN := Lib.hid hno
      clear hno
      go_wp2_with fail
      refine (ref_TPut_arg PID CNT ST CK A4 PL.length k4 W5 hV).mono ?_
      rintro e w6 ⟨A6, n6, c6, rfl, hB6, hb6⟩
      have xa6 := xa5.ext hb6
      have B6 := B5.trans (hb6.mono z5)
      clear e0 e1 e2 e3 e4 s5 hb6 x5 xa5 B5
      obtain ⟨d0, d1, d2, d3, d4⟩ := xa6.cells5
      have q0 := xa6.frozen 0
      have q1 := xa6.frozen 1
      have q2 := xa6.frozen 2
      have q3 := xa6.frozen 3
      have q4 := xa6.frozen 4
      have q5 := xa6.lt
      go_wp2_with fail
      refine bodyPost_ret (v := .tuple #[.agg #[.int .i64 0, .int .i64 0, .bool false, .int .i64 0, .slice none 0 0], .int .i64 3]) (by simp [results, Try.results18, go_sem, d0, d1, d2, d3, d4, q5]) rfl ⟨0, 0, false, 0, none, 0, 0, [], 3, rfl, Byt.nil, bset5 B6 (Nat.le_refl _) _ _ _ _ _, .inr ⟨by omega, by rw [HL.out.len]; rfl, HN.out, rfl, rfl, rfl, rfl, rfl⟩⟩
    · have HV := Lib.hid hV
      clear hV
      obtain ⟨E, hE⟩ : ∃ E, E = pktL PID CNT ST CK PL PL.length := ⟨_, rfl⟩
      have hput : ∀ W, Byt (fun b => w.heap.size + 1 + 1 ≤ b) W A4 PL.length PL → Calls Try.prog 13 #[.agg #[.int .i64 PID, .int .i64 CNT, .bool ST, .int .i64 CK, .slice A4 PL.length k4]] W (RetP W E 0) := by
        intro W hW
        rw [hE]
        exact ref_TPut PID CNT ST CK A4 PL.length k4 PL W hW HV.out
      have HPUT := Lib.hid hput
      have HE := Lib.hid hE
      clear hput hE
      go_wp2_with fail
      refine (HPUT.out W5 HP5.out).mono ?_
      rintro e w6 ⟨A6, n6, c6, rfl, hB6, hb6⟩
      have xa6 := xa5.ext hb6
      have x6 := x5.ext hb6
      have B6 := B5.trans (hb6.mono z5)
      have P6 := HP5.out.ext hb6
      have d6 := HD5.out.ext hb6
      clear e0 e1 e2 e3 e4 s5 hb6 x5 xa5 B5
      have HP6 := Lib.hid P6
      clear P6
      go_wp2_with fail
      refine (ref_SameBytes _ _ _ _ _ _ _ _ _ d6 hB6).mono ?_
      rintro e w7 ⟨rfl, rfl⟩
      by_cases hEq : l = E
      · have dE : decide (l = E) = true := by simpa using hEq
        rw [dE]
        have HEQ := Lib.hid hEq
        clear hEq dE d6 hB6
        obtain ⟨e0, e1, e2, e3, e4⟩ := x6.cells5
        have s5 := x6.lt
        obtain ⟨d0, d1, d2, d3, d4⟩ := xa6.cells5
        have q0 := xa6.frozen 0
        have q1 := xa6.frozen 1
        have q2 := xa6.frozen 2
        have q3 := xa6.frozen 3
        have q4 := xa6.frozen 4
        have q5 := xa6.lt
        go_wp2_with fail
        refine bodyPost_ret (v := .tuple #[.agg #[.int .i64 PID, .int .i64 CNT, .bool ST, .int .i64 CK, .slice A4 PL.length k4], .int .i64 0]) (by simp [results, Try.results18, go_sem, d0, d1, d2, d3, d4, q5]) rfl ⟨PID, CNT, ST, CK, A4, PL.length, k4, PL, 0, rfl, ?_, bset5 B6 (Nat.le_refl _) _ _ _ _ _, .inl ⟨rfl, HV.out, by rw [← HE.out]; exact HEQ.out.symm⟩⟩
        refine Byt.mono (p := fun b => w.heap.size + 1 + 1 ≤ b) ?_ (fun b _ h => by omega)
        repeat refine Byt.setCell ?_ (by dsimp only; omega) _
        exact HP6.out
      · have dE : decide (l = E) = false := by simpa using hEq
        rw [dE]
        have hno : NoPkt l := HNO.out (fun pl hp hv h => hEq (by rw [HE.out, ← hp]; exact h.symm))
        have HN := Lib.hid hno
        clear hno hEq dE d6 hB6
        obtain ⟨d0, d1, d2, d3, d4⟩ := xa6.cells5
        have q0 := xa6.frozen 0
        have q1 := xa6.frozen 1
        have q2 := xa6.frozen 2
        have q3 := xa6.frozen 3
        have q4 := xa6.frozen 4
        have q5 := xa6.lt
        go_wp2_with fail
        refine bodyPost_ret (v := .tuple #[.agg #[.int .i64 0, .int .i64 0, .bool false, .int .i64 0, .slice none 0 0], .int .i64 3]) (by simp [results, Try.results18, go_sem, d0, d1, d2, d3, d4, q5]) rfl ⟨0, 0, false, 0, none, 0, 0, [], 3, rfl, Byt.nil, bset5 B6 (Nat.le_refl _) _ _ _ _ _, .inr ⟨by omega, by rw [HL.out.len]; rfl, HN.out, rfl, rfl, rfl, rfl, rfl⟩⟩
set_option maxRecDepth 100000 in
theorem ref_TTake {q : Nat → Prop} (A : Option Addr) (n c : Nat) (l : List Int) (w : World) (hl : Byt q w A n l) (hc : n ≤ c) :
    Calls Try.prog 18 #[.slice A n c] w (RetK w l) := by
  by_cases hn : n = 188
  · subst hn
    obtain ⟨b, off, rfl, _⟩ := hl.addr (by omega)
    obtain ⟨x0, x1, x2, x3, x4, x5, x6, x7, x8, x9, x10, x11, hx⟩ := read12 l hl.len
    exact ref_Take_188 b off c l hx w hc hl
  · have hT : TakS l 0 0 false 0 [] (if n < 188 then 4 else 3) := by
      refine .inr ⟨by split <;> omega, by rw [hl.len], noPkt_len (by rw [hl.len]; exact hn), rfl, rfl, rfl, rfl, rfl⟩
    have x2b : Bx (w.alloc (.cells #[.int .i64 0, .int .i64 0, .bool false, .int .i64 0, .slice none 0 0] 24)) w.heap.size 24 #[.int .i64 0, .int .i64 0, .bool false, .int .i64 0, .slice none 0 0] := Bx.new _ _ _
    have HT := Lib.hid hT
    clear hT hl
    go_enter Try.func18, Try.ntmps18
    by_cases h1 : n < 188
    · have HT2 := HT.out
      rw [if_pos h1] at HT2
      have HT3 := Lib.hid HT2
      clear HT2
      go_wp2_with fail
      refine bodyPost_ret (v := .tuple #[.agg #[.int .i64 0, .int .i64 0, .bool false, .int .i64 0, .slice none 0 0], .int .i64 4]) (by simp [results, Try.results18, go_sem]) rfl ⟨0, 0, false, 0, none, 0, 0, [], 4, rfl, Byt.nil, ?_, HT3.out⟩
      exact (Below.refl _ w).alloc (Nat.le_refl _) _
    · have HT2 := HT.out
      rw [if_neg h1] at HT2
      have HT3 := Lib.hid HT2
      clear HT2
      have h2 : 188 < n := by omega
      go_wp2_with fail
      refine bodyPost_ret (v := .tuple #[.agg #[.int .i64 0, .int .i64 0, .bool false, .int .i64 0, .slice none 0 0], .int .i64 3]) (by simp [results, Try.results18, go_sem]) rfl ⟨0, 0, false, 0, none, 0, 0, [], 3, rfl, Byt.nil, ?_, HT3.out⟩
      exact (Below.refl _ w).alloc (Nat.le_refl _) _
end Go.Proofs.Ytdnchjmopkhnaaa
