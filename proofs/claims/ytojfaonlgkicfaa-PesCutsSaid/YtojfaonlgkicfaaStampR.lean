/- The reference's stamped: the walk. -/
import Derived.Test.YtojfaonlgkicfaaPayS
namespace Go.Proofs.Ytojfaonlgkicfaa
open Go.RowKit

theorem u64_and_mask (i : Nat) (x m : Int) (hm : m = ((2 ^ i : Nat) : Int) - 1) (hi : i ≤ 63) (h0 : 0 ≤ x) (h1 : x < 18446744073709551616) : bits .and .u64 x m = x % ((2 ^ i : Nat) : Int) := by
  have hp : 2 ^ i ≤ 2 ^ 63 := Nat.pow_le_pow_right (by decide) hi
  have hq : 0 < 2 ^ i := Nat.pos_of_ne_zero (by simp)
  rw [u64_and x m h0 h1 (by omega) (by omega), show m.toNat = 2 ^ i - 1 by omega, Nat.and_two_pow_sub_one_eq_mod, Int.natCast_emod, Int.toNat_of_nonneg h0]
theorem owB_slice5 {w : World} {base g : Nat} {e : TypeId} {l m : List Int} (h : Bk w e g l) (hb : base ≤ g) (hl : l.length = 6) (ht : l.take 5 = m) : OwB w base e (.slice (some ⟨g, 0, none⟩) 5 6) m := by
  have hm : m.length = 5 := by rw [← ht, List.length_take]; omega
  unfold OwB
  rw [hm]
  refine ⟨by simp [hm], .inr ⟨g, 6, (l.map (Value.int .u8)).toArray, rfl, hb, h, by omega, by simp only [maxLen]; omega, by simp [hl], ?_⟩⟩
  simp [← ht, List.map_take]
def RetO (w : World) (n : Nat) (l : List Int) (e : Ending) (w' : World) : Prop := ∃ A c, e = .returned (.slice A n c) ∧ OwB w' w.heap.size 5 (.slice A n c) l ∧ Below w.heap.size w w'

set_option maxRecDepth 100000 in
set_option maxHeartbeats 2000000 in
theorem ref_stamped (k t : Int) (w : World) (hk0 : 0 ≤ k) (hk : k ≤ 15) (h0 : 0 ≤ t) (h1 : t < 8589934592) :
    Calls Try.prog 54 #[.int .u32 k, .int .i64 t] w (RetO w 5 (stampL k t)) := by
  have e1 : bits .and .u64 (t / 1073741824) 7 = t / 1073741824 := by rw [u64_and_mask 3 _ 7 rfl (by omega) (by omega) (by omega)]; omega
  have e2 : bits .and .u64 (t / 32768) 32767 = t / 32768 % 32768 := u64_and_mask 15 _ _ rfl (by omega) (by omega) (by omega)
  have e3 : bits .and .u64 t 32767 = t % 32768 := u64_and_mask 15 _ _ rfl (by omega) (by omega) (by omega)
  have HS := Lib.hid (stampBits_pay k t hk0 hk h0 h1)
  go_enter Try.func54, Try.ntmps54
  go_wp2_with fail
  refine (ref_Bits k 4 _ hk0 (by omega) (by omega)).mono ?_
  rintro e w1 ⟨v1, rfl, ho1, hb1⟩
  have z1 := hb1.size
  have B1 : Below w.heap.size w w1 := hb1
  have tok2 : True := trivial
  go_wp2_with fail
  refine (ref_Bits (t / 1073741824) 3 _ (by omega) (by omega) (by omega)).mono ?_
  rintro e w2 ⟨v2, rfl, ho2, hb2⟩
  obtain ⟨A2, c2, rfl, hB2⟩ := ho2.ret (p := fun _ => True) (fun _ _ => trivial) (fun x hx => by have := bitsF_rng _ _ x hx; omega)
  have z2 := hb2.size
  have B2 := B1.trans (hb2.mono B1.size)
  have y2 := B2.size
  have ho1' := ho1.ext hb2
  go_wp2_with (first
    | (at_builtin; have _t := tok2; go_must (refine wpList_appB _ rfl (.tmp 11) (.tmp 16) 27 rfl 5 Try.underlying27 Try.infoB w.heap.size _ _ rfl ho1' A2 _ c2 _ rfl hB2 (by simp [bitsF_len]) y2 ?_; intro v3 w3 ho3 hg3 hat3; have B3 := B2.grown hg3 y2 (fun k hk => (ho1'.lt k hk).1); have y3 := B3.size; clear tok2))
    | (at_builtin; go_must (refine wpList_appB _ rfl (.tmp 17) (.tmp 18) 27 rfl 5 Try.underlying27 Try.infoB w.heap.size _ _ rfl (ho3.alloc _) (some ⟨w3.heap.size, 0, none⟩) 1 1 [1] rfl (Byt.one w3 5 1 (by omega) (by omega)) (by simp [bitsF_len]) (by simp; omega) ?_; intro v4 w4 ho4 hg4 hat4; have B4 := (B3.alloc y3 _).grown hg4 (by simp; omega) (fun k hk => (ho3.lt k hk).1))))
  have tok5 : True := trivial
  go_wp2_with fail
  refine (ref_Bits (t / 32768 % 32768) 15 _ (by omega) (by omega) (by omega)).mono ?_
  rintro e w5 ⟨v5, rfl, ho5, hb5⟩
  obtain ⟨A5, c5, rfl, hB5⟩ := ho5.ret (p := fun _ => True) (fun _ _ => trivial) (fun x hx => by have := bitsF_rng _ _ x hx; omega)
  have z5 := hb5.size
  have B5 := B4.trans (hb5.mono B4.size)
  have y5 := B5.size
  have ho4' := ho4.ext hb5
  go_wp2_with (first
    | (at_builtin; have _t := tok5; go_must (refine wpList_appB _ rfl (.tmp 20) (.tmp 25) 27 rfl 5 Try.underlying27 Try.infoB w.heap.size _ _ rfl ho4' A5 _ c5 _ rfl hB5 (by simp [bitsF_len]) y5 ?_; intro v6 w6 ho6 hg6 hat6; have B6 := B5.grown hg6 y5 (fun k hk => (ho4'.lt k hk).1); have y6 := B6.size; clear tok5))
    | (at_builtin; go_must (refine wpList_appB _ rfl (.tmp 26) (.tmp 27) 27 rfl 5 Try.underlying27 Try.infoB w.heap.size _ _ rfl (ho6.alloc _) (some ⟨w6.heap.size, 0, none⟩) 1 1 [1] rfl (Byt.one w6 5 1 (by omega) (by omega)) (by simp [bitsF_len]) (by simp; omega) ?_; intro v7 w7 ho7 hg7 hat7; have B7 := (B6.alloc y6 _).grown hg7 (by simp; omega) (fun k hk => (ho6.lt k hk).1))))
  have tok8 : True := trivial
  go_wp2_with fail
  refine (ref_Bits (t % 32768) 15 _ (by omega) (by omega) (by omega)).mono ?_
  rintro e w8 ⟨v8, rfl, ho8, hb8⟩
  obtain ⟨A8, c8, rfl, hB8⟩ := ho8.ret (p := fun _ => True) (fun _ _ => trivial) (fun x hx => by have := bitsF_rng _ _ x hx; omega)
  have z8 := hb8.size
  have B8 := B7.trans (hb8.mono B7.size)
  have y8 := B8.size
  have ho7' := ho7.ext hb8
  go_wp2_with (first
    | (at_builtin; have _t := tok8; go_must (refine wpList_appB _ rfl (.tmp 29) (.tmp 33) 27 rfl 5 Try.underlying27 Try.infoB w.heap.size _ _ rfl ho7' A8 _ c8 _ rfl hB8 (by simp [bitsF_len]) y8 ?_; intro v9 w9 ho9 hg9 hat9; have B9 := B8.grown hg9 y8 (fun k hk => (ho7'.lt k hk).1); have y9 := B9.size; clear tok8))
    | (at_builtin; go_must (refine wpList_appB _ rfl (.tmp 34) (.tmp 35) 27 rfl 5 Try.underlying27 Try.infoB w.heap.size _ _ rfl (ho9.alloc _) (some ⟨w9.heap.size, 0, none⟩) 1 1 [1] rfl (Byt.one w9 5 1 (by omega) (by omega)) (by simp [bitsF_len]) (by simp; omega) ?_; intro v10 w10 ho10 hg10 hat10; have B10 := (B9.alloc y9 _).grown hg10 (by simp; omega) (fun k hk => (ho9.lt k hk).1))))
  have hos : OwB w10 w.heap.size 5 v10 (stampBits k t) := ho10
  have hlen : (stampBits k t).length = 40 := by simp [stampBits, bitsF_len]
  obtain ⟨A11, c11, hv11, hB11⟩ := hos.ret (p := fun _ => True) (fun _ _ => trivial) (fun x hx => by have := stampBits_rng k t x hx; omega)
  rw [hlen] at hv11 hB11
  subst hv11
  refine (ref_Payload A11 40 c11 _ _ hB11 (by omega)).mono ?_
  rintro e w12 ⟨rfl, hK12, hb12⟩
  have z12 := hK12.lt
  have hl6 : (payL (stampBits k t)).length = 6 := by unfold payL; rw [payS_len, hlen]
  have HL6 := Lib.hid hl6
  clear hl6 hlen
  go_wp2_with fail
  go_ret
  refine ⟨_, _, rfl, owB_slice5 hK12 B10.size HL6.out HS.out, B10.trans (hb12.mono B10.size)⟩

end Go.Proofs.Ytojfaonlgkicfaa
