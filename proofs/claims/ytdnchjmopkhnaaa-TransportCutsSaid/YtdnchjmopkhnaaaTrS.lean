/- The reference's adaptation. -/
import Derived.Test.YtdnchjmopkhnaaaTrR
namespace Go.Proofs.Ytdnchjmopkhnaaa
open Go.RowKit

set_option maxHeartbeats 1000000 in
theorem ref_adapt_no (clk : Int) (w : World) (h : clk < 0) : Calls Try.prog 37 #[.int .i64 clk] w (RetB w [0]) := by
  go_enter Try.func37, Try.ntmps37
  go_wp2_with fail
  go_ret
  exact ⟨_, _, _, rfl, Byt.mono (p := fun b => b = w.heap.size) ⟨rfl, by simp, fun _ => ⟨_, _, rfl, rfl, fun j y hy => by
    rcases j with _ | j <;> simp at hy
    subst hy
    exact cell_one_new w (.int .u8 0) 5 0 _ rfl⟩⟩ (fun b _ h => by subst h; exact Nat.le_refl _), (Below.refl _ _).alloc (Nat.le_refl _) _⟩

set_option maxRecDepth 100000 in
set_option maxHeartbeats 4000000 in
theorem ref_adapt_yes (clk : Int) (w : World) (h : 0 ≤ clk) (h2 : clk < 2576980377600) : Calls Try.prog 37 #[.int .i64 clk] w (RetB w (16 :: clkB (clkV clk))) := by
  have HP := Lib.hid (clkPay clk)
  have HPL := Lib.hid (clkBits_len clk)
  have HPR := Lib.hid (clkBits_rng clk)
  have HPD := Lib.hid (show clkBits clk = bitsF (clk / 300 / 4294967296) 1 ++ bitsF (clk / 300 % 4294967296) 32 ++ bitsF 63 6 ++ bitsF (clk % 300) 9 from rfl)
  obtain ⟨X, hX⟩ : ∃ X, X = clk / 300 := ⟨_, rfl⟩
  obtain ⟨R, hR⟩ : ∃ R, R = clk % 300 := ⟨_, rfl⟩
  have bX : 0 ≤ X ∧ X < 8589934592 := by omega
  have bR : 0 ≤ R ∧ R < 300 := by omega
  rw [← hX, ← hR] at HPD
  obtain ⟨Y, hY⟩ : ∃ Y, Y = X / 4294967296 := ⟨_, rfl⟩
  obtain ⟨Z, hZ⟩ : ∃ Z, Z = X % 4294967296 := ⟨_, rfl⟩
  have bY : 0 ≤ Y ∧ Y < 2 := by omega
  have bZ : 0 ≤ Z ∧ Z < 4294967296 := by omega
  rw [← hY, ← hZ] at HPD
  have a1 : bits .and .u64 X 4294967295 = Z := by
    have h := u64_and_mask 32 X 4294967295 (by decide) (by omega) (by omega) (by omega)
    rw [h, hZ]
    rfl
  have a2 : IntKind.u32.wrap Z = Z := by simp [IntKind.wrap, IntKind.signed, IntKind.bits]; omega
  have a3 : IntKind.u32.wrap Y = Y := by simp [IntKind.wrap, IntKind.signed, IntKind.bits]; omega
  have a4 : IntKind.u32.wrap R = R := by simp [IntKind.wrap, IntKind.signed, IntKind.bits]; omega
  have eX : clk / 300 = X := hX.symm
  have eR : clk % 300 = R := hR.symm
  have eY : X / 4294967296 = Y := hY.symm
  clear hX hR hY hZ
  have C1 : Hid (∀ W, Calls Try.prog 53 #[.int .u32 Y, .int .i64 1] W fun e w' => ∃ o, e = .returned o ∧ OwB w' W.heap.size 5 o (bitsF Y 1) ∧ Below W.heap.size W w') := Lib.hid (fun W => ref_Bits Y 1 W bY.1 (by omega) (by omega))
  have C2 : Hid (∀ W, Calls Try.prog 53 #[.int .u32 Z, .int .i64 32] W fun e w' => ∃ o, e = .returned o ∧ OwB w' W.heap.size 5 o (bitsF Z 32) ∧ Below W.heap.size W w') := Lib.hid (fun W => ref_Bits Z 32 W bZ.1 (by omega) (by omega))
  have C3 : Hid (∀ W, Calls Try.prog 53 #[.int .u32 63, .int .i64 6] W fun e w' => ∃ o, e = .returned o ∧ OwB w' W.heap.size 5 o (bitsF 63 6) ∧ Below W.heap.size W w') := Lib.hid (fun W => ref_Bits 63 6 W (by omega) (by omega) (by omega))
  have C4 : Hid (∀ W, Calls Try.prog 53 #[.int .u32 R, .int .i64 9] W fun e w' => ∃ o, e = .returned o ∧ OwB w' W.heap.size 5 o (bitsF R 9) ∧ Below W.heap.size W w') := Lib.hid (fun W => ref_Bits R 9 W bR.1 (by omega) (by omega))
  go_enter Try.func37, Try.ntmps37
  go_wp2_with fail
  refine (C1.out _).mono ?_
  rintro e w1 ⟨o, rfl, ho, hb1⟩
  obtain ⟨A1, c1, rfl, _⟩ := ho.slice
  have hl1 : (bitsF Y 1).length = 1 := bitsF_len _ _
  rw [hl1] at ho ⊢
  have O1 := ho
  have B1 := hb1
  clear hl1
  go_wp2_with fail
  refine (C2.out _).mono ?_
  rintro e w2 ⟨o, rfl, ho, hb2⟩
  obtain ⟨A2, c2, rfl, _⟩ := ho.slice
  have hl2 : (bitsF Z 32).length = 32 := bitsF_len _ _
  rw [hl2] at ho ⊢
  have O1 := O1.ext hb2
  have S2 := ho.byt (p := fun _ => True) (fun _ _ => trivial) (fun x hx => by have := bitsF_rng _ _ x hx; omega)
  have B2 := B1.trans (hb2.mono B1.size)
  have L1 : (bitsF Y 1).length + 32 ≤ 100000000 := by rw [bitsF_len]; omega
  have Z2 := B2.size
  have HS2 := Lib.hid S2
  have HL1 := Lib.hid L1
  clear hl2 hb1 hb2 B1 S2 L1 ho
  go_wp2_with (at_builtin; go_must (refine wpList_appB _ rfl (.tmp 15) (.tmp 19) 22 rfl 5 Try.underlying22 Try.infoB w.heap.size _ (bitsF Y 1) rfl O1 A2 32 c2 (bitsF Z 32) rfl HS2.out HL1.out Z2 ?_; intro v3 w3 ho3 hg3 hat3))
  have B3 := B2.grown hg3 Z2 (fun k hk => (O1.lt k hk).1)
  obtain ⟨A3, c3, rfl, _⟩ := ho3.slice
  have hl3 : (bitsF Y 1 ++ bitsF Z 32).length = 33 := by rw [List.length_append, bitsF_len, bitsF_len]
  rw [hl3] at ho3 ⊢
  refine (C3.out _).mono ?_
  rintro e w4 ⟨o, rfl, ho, hb4⟩
  obtain ⟨A4, c4, rfl, _⟩ := ho.slice
  have hl4 : (bitsF 63 6).length = 6 := bitsF_len _ _
  rw [hl4] at ho ⊢
  have O3 := ho3.ext hb4
  have S4 := ho.byt (p := fun _ => True) (fun _ _ => trivial) (fun x hx => by have := bitsF_rng _ _ x hx; omega)
  have B4 := B3.trans (hb4.mono B3.size)
  have L3 : (bitsF Y 1 ++ bitsF Z 32).length + 6 ≤ 100000000 := by rw [hl3]; omega
  have Z4 := B4.size
  have HS4 := Lib.hid S4
  have HL3 := Lib.hid L3
  clear hl3 hl4 hb4 B2 B3 S4 L3 ho hg3 hat3 ho3 O1 Z2 HS2 HL1
  go_wp2_with (at_builtin; go_must (refine wpList_appB _ rfl (.tmp 21) (.tmp 22) 22 rfl 5 Try.underlying22 Try.infoB w.heap.size _ (bitsF Y 1 ++ bitsF Z 32) rfl O3 A4 6 c4 (bitsF 63 6) rfl HS4.out HL3.out Z4 ?_; intro v5 w5 ho5 hg5 hat5))
  have B5 := B4.grown hg5 Z4 (fun k hk => (O3.lt k hk).1)
  obtain ⟨A5, c5, rfl, _⟩ := ho5.slice
  have hl5 : (bitsF Y 1 ++ bitsF Z 32 ++ bitsF 63 6).length = 39 := by rw [List.length_append, List.length_append, bitsF_len, bitsF_len, bitsF_len]
  rw [hl5] at ho5 ⊢
  refine (C4.out _).mono ?_
  rintro e w6 ⟨o, rfl, ho, hb6⟩
  obtain ⟨A6, c6, rfl, _⟩ := ho.slice
  have hl6 : (bitsF R 9).length = 9 := bitsF_len _ _
  rw [hl6] at ho ⊢
  have O5 := ho5.ext hb6
  have S6 := ho.byt (p := fun _ => True) (fun _ _ => trivial) (fun x hx => by have := bitsF_rng _ _ x hx; omega)
  have B6 := B5.trans (hb6.mono B5.size)
  have L5 : (bitsF Y 1 ++ bitsF Z 32 ++ bitsF 63 6).length + 9 ≤ 100000000 := by rw [hl5]; omega
  have Z6 := B6.size
  have HS6 := Lib.hid S6
  have HL5 := Lib.hid L5
  clear hl5 hl6 hb6 B4 B5 S6 L5 ho hg5 hat5 ho5 O3 Z4 HS4 HL3
  go_wp2_with (at_builtin; go_must (refine wpList_appB _ rfl (.tmp 24) (.tmp 28) 22 rfl 5 Try.underlying22 Try.infoB w.heap.size _ (bitsF Y 1 ++ bitsF Z 32 ++ bitsF 63 6) rfl O5 A6 9 c6 (bitsF R 9) rfl HS6.out HL5.out Z6 ?_; intro v7 w7 ho7 hg7 hat7))
  have B7 := B6.grown hg7 Z6 (fun k hk => (O5.lt k hk).1)
  rw [← HPD.out] at ho7
  obtain ⟨A7, c7, rfl, _⟩ := ho7.slice
  rw [HPL.out] at ho7 ⊢
  have S7 := (ho7.byt (p := fun _ => True) (fun _ _ => trivial) (fun x hx => by have := HPR.out x hx; omega)).alloc (.cells #[.int .u8 16] 5)
  have o8 := OwB.lit w7 w.heap.size 5 [16] 1 rfl rfl rfl B7.size (by omega)
  have B8 := B7.alloc B7.size (.cells #[.int .u8 16] 5)
  have Z7 := B7.size
  clear hg7 hat7 ho7 O5 Z6 HS6 HL5 B6 B7
  refine (ref_Payload A7 48 c7 (clkBits clk) _ S7 (by omega)).mono ?_
  rintro e w9 ⟨rfl, hk9, hb9⟩
  obtain ⟨g9, hg9⟩ : ∃ g, g = (w7.alloc (.cells #[.int .u8 16] 5)).heap.size := ⟨_, rfl⟩
  rw [← hg9] at hk9 ⊢
  have B9 := B8.trans (hb9.mono B8.size)
  have o9 := o8.ext hb9
  have hs := sub_head g9 0 7 7 6 (by omega) (by omega)
  have S9 : Byt (fun _ => True) w9 (some ⟨g9, 0, none⟩) 6 (clkB (clkV clk)) := by
    have h1 := hk9.byt (p := fun _ => True) trivial (by unfold payL; exact payS_rng _ _)
    have hl : (payL (clkBits clk)).length = 7 := by unfold payL; rw [payS_len, HPL.out]
    rw [hl] at h1
    have h2 := Byt.sub (k := 0) (m := 6) h1 (by omega)
    rw [List.drop_zero, HP.out] at h2
    exact h2
  have HS9 := Lib.hid S9
  have Z9 := B9.size
  clear hg9 hk9 S9 hb9 S7 o8
  go_wp2_with (at_builtin; go_must (refine wpList_appB _ rfl (.tmp 30) (.tmp 33) 22 rfl 5 Try.underlying22 Try.infoB w.heap.size _ [16] rfl o9 (some ⟨g9, 0, none⟩) 6 7 (clkB (clkV clk)) rfl HS9.out (by simp) Z9 ?_; intro v10 w10 ho10 hg10 hat10))
  obtain ⟨A10, c10, rfl, hB10⟩ := ho10.ret (p := (w.heap.size ≤ ·)) (fun b hb => hb) (by
    intro x hx
    rcases List.mem_append.1 hx with hx | hx
    · simp at hx; omega
    · exact HS9.out.rng x hx)
  go_ret
  exact ⟨_, _, _, rfl, hB10, B9.grown hg10 Z9 (fun k hk => (o9.lt k hk).1)⟩
theorem ref_adapt (clk : Int) (w : World) (h2 : clk < 2576980377600) : Calls Try.prog 37 #[.int .i64 clk] w (RetB w (adL clk)) := by
  unfold adL
  by_cases h : clk < 0
  · rw [if_pos h]; exact ref_adapt_no clk w h
  · rw [if_neg h]; exact ref_adapt_yes clk w (by omega) h2
end Go.Proofs.Ytdnchjmopkhnaaa
