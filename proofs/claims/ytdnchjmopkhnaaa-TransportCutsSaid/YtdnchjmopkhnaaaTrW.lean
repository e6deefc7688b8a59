/- The reference's Put of a packet with fewer bytes. -/
import Derived.Test.YtdnchjmopkhnaaaTrU
namespace Go.Proofs.Ytdnchjmopkhnaaa
open Go.RowKit

set_option maxRecDepth 100000 in
set_option maxHeartbeats 2000000 in
theorem ref_TPut_182 {q : Nat → Prop} (pid cnt : Int) (clk : Int) (A : Option Addr) (n c : Nat) (l : List Int) (w : World) (hl : Byt q w A n l) (hp : 0 ≤ pid ∧ pid < 8192) (hcn : 0 ≤ cnt ∧ cnt < 16) (hck : -1 ≤ clk ∧ clk < 2576980377600) (hn : n ≤ 182) (hrm : clk = -1 ∨ n ≤ 176) (hn0 : 0 < n) (hv : validT pid cnt false clk n = true) :
    Calls Try.prog 13 #[.agg #[.int .i64 pid, .int .i64 cnt, .bool false, .int .i64 clk, .slice A n c]] w (RetP w (pktL pid cnt false clk l n) 0) := by
  have q184 : ((n : Int) == 184) = false := by simp; omega
  have q0 : ((n : Int) == 0) = false := by simp; omega
  have hrl := hl.rng
  have HRL := Lib.hid hrl
  clear hrl
  have hl1 := hl.mono (q := (· < w.heap.size)) (fun b h _ => h)
  have HL1 := Lib.hid hl1
  have hle := hl.len
  have HLE := Lib.hid hle
  clear hl hl1 hle
  go_enter Try.func13, Try.ntmps13
  go_wp2_with fail
  refine (ref_TValid pid cnt false clk A _ c _).mono ?_
  rintro e w1 ⟨rfl, hb1⟩
  rw [hv]
  have x1 := (Bx.new w 24 #[.int .i64 pid, .int .i64 cnt, .bool false, .int .i64 clk, .slice A _ c]).ext hb1
  obtain ⟨f0, f1, f2, f3, f4⟩ := x1.cells5
  have s1 := x1.lt
  have B1 : Below w.heap.size w w1 := ((Below.refl _ w).alloc (Nat.le_refl _) _).trans (hb1.mono (by simp))
  have Z1 := B1.size
  go_upto_region 13 with fail
  have k4 : Bk (w1.alloc (.cells #[.int .u8 71, .int .u8 (pid / 256), .int .u8 (pid % 256), .int .u8 (cnt + 48)] 5)) 5 w1.heap.size [71, pid / 256, pid % 256, cnt + 48] := heap_alloc_new w1 _
  have o4 := OwB.ofBk (base := w.heap.size + 1) k4 (by omega) (by simp)
  have x4 := x1.alloc (.cells #[.int .u8 71, .int .u8 (pid / 256), .int .u8 (pid % 256), .int .u8 (cnt + 48)] 5)
  have B4 := B1.alloc Z1 (.cells #[.int .u8 71, .int .u8 (pid / 256), .int .u8 (pid % 256), .int .u8 (cnt + 48)] 5)
  generalize w1.alloc (.cells #[.int .u8 71, .int .u8 (pid / 256), .int .u8 (pid % 256), .int .u8 (cnt + 48)] 5) = W at *
  clear hb1 f0 f1 f2 f3 f4 x1 B1 k4
  have x4 : Bx W w.heap.size 24 #[.int .i64 pid, .int .i64 cnt, .bool false, .int .i64 clk, .slice A _ c] := x4
  have HR4 : Hid (∀ x ∈ ([71, pid / 256, pid % 256, cnt + 48] : List Int), 0 ≤ x ∧ x ≤ 255) := Lib.hid (by
    intro x hx
    simp only [List.mem_cons, List.not_mem_nil, or_false] at hx
    rcases hx with rfl | rfl | rfl | rfl <;> omega)
  have o4 : OwB W (w.heap.size + 1) 5 (.slice (some ⟨w1.heap.size, 0, none⟩) 4 4) [71, pid / 256, pid % 256, cnt + 48] := o4
  obtain ⟨H4, hH4⟩ : ∃ H : List Int, H = [71, pid / 256, pid % 256, cnt + 48] := ⟨_, rfl⟩
  rw [← hH4] at o4 HR4
  have hH4l : H4.length = 4 := by rw [hH4]; rfl
  have HH4 := Lib.hid hH4
  have HH4L := Lib.hid hH4l
  clear hH4 hH4l
  obtain ⟨f0, f1, f2, f3, f4⟩ := x4.cells5
  have s1 := x4.lt
  have Z4 := B4.size
  obtain ⟨K, hK⟩ : ∃ K : Int, K = 183 - (n : Int) := ⟨_, rfl⟩
  have bK : 0 ≤ K ∧ K ≤ 183 := by omega
  have eK : 183 - (n : Int) = K := hK.symm
  have wK : K % 256 = K := by omega
  have HK := Lib.hid hK
  clear hK
  have LL : H4.length + 1 ≤ 100000000 := by rw [HH4L.out]; omega
  have HLL := Lib.hid LL
  clear LL
  have bx4 := x4.alloc (.cells #[.int .u8 K] 5)
  have by4 := Byt.one W 5 K bK.1 (by omega)
  have bo4 := o4.alloc (.cells #[.int .u8 K] 5)
  have B5 := B4.alloc Z4 (.cells #[.int .u8 K] 5)
  have s5 : w.heap.size + 1 ≤ (W.alloc (.cells #[.int .u8 K] 5)).heap.size := by simp; omega
  have ne4 : some w.heap.size ≠ (Value.slice (some ⟨w1.heap.size, 0, none⟩) 4 4).ownBlock := own_ne o4 (.inl (by omega))
  go_upto_region 15 with (at_builtin; go_must (refine wpList_appB _ rfl (.tmp 52) (.tmp 56) 22 rfl 5 Try.underlying22 Try.infoB (w.heap.size + 1) _ H4 rfl bo4 (some ⟨W.heap.size, 0, none⟩) 1 1 [K] rfl by4 HLL.out s5 ?_; intro v5 w5 ho5 hg5 hat5))
  have x5 := bx4.grown hg5 ne4
  have B6 := B5.grown hg5 (by have := B5.size; omega) (fun k hk => by have := (bo4.lt k hk).1; omega)
  obtain ⟨A5, c5, rfl, _⟩ := ho5.slice
  have h5l : (H4 ++ [K]).length = 5 := by rw [List.length_append, HH4L.out]; rfl
  rw [h5l] at ho5 ⊢
  have H5L := Lib.hid h5l
  clear f0 f1 f2 f3 f4 s1 Z4 bx4 by4 bo4 B5 s5 ne4 hg5 hat5 x4 B4 HLL h5l o4 eK wK
  obtain ⟨f0, f1, f2, f3, f4⟩ := x5.cells5
  have s1 := x5.lt
  have Z6 := B6.size
  go_wp2_with fail
  refine (ref_adapt clk _ hck.2).mono ?_
  rintro e w7 ⟨A7, n7, c7, rfl, hB7, hb7⟩
  have x7 := x5.ext hb7
  have o7 := ho5.ext hb7
  have B7 := B6.trans (hb7.mono Z6)
  have s7 := x7.lt
  have Z7 := B7.size
  have hn7 : n7 = 1 ∧ clk = -1 ∨ n7 = 7 ∧ 0 ≤ clk := by
    have := hB7.len
    unfold adL at this
    split at this <;> simp [clkB] at this <;> omega
  have HN7 := Lib.hid hn7
  have bn7 : n7 ≤ 7 := by omega
  have m7 : 5 + n7 ≤ 188 - n := by omega
  have HB7 := Lib.hid hB7
  have LL : (H4 ++ [K]).length + n7 ≤ 100000000 := by rw [H5L.out]; omega
  have HLL := Lib.hid LL
  have HAL := Lib.hid hB7.len
  have HAR := Lib.hid hB7.rng
  have ne7 : some w.heap.size ≠ (Value.slice A5 5 c5).ownBlock := own_ne o7 (.inl (by omega))
  clear f0 f1 f2 f3 f4 s1 Z6 hb7 ho5 x5 B6 LL hB7 hn7
  go_upto_region 17 with (at_builtin; go_must (refine wpList_appB _ rfl (.tmp 60) (.tmp 63) 22 rfl 5 Try.underlying22 Try.infoB (w.heap.size + 1) _ (H4 ++ [K]) rfl o7 A7 n7 c7 (adL clk) rfl HB7.out HLL.out s7 ?_; intro v8 w8 ho8 hg8 hat8))
  have x8 := x7.grown hg8 ne7
  have B8 := B7.grown hg8 Z7 (fun k hk => by have := (o7.lt k hk).1; omega)
  obtain ⟨H8, hH8⟩ : ∃ H : List Int, H = H4 ++ [K] ++ adL clk := ⟨_, rfl⟩
  rw [← hH8] at ho8
  have hH8l : H8.length = 5 + n7 := by rw [hH8, List.length_append, H5L.out, HAL.out]
  have HH8 := Lib.hid hH8
  have HH8L := Lib.hid hH8l
  clear x7 hg8 hat8 B7 ne7 s7 Z7 HLL HB7 o7 hH8 hH8l
  go_loopw [4] (fun o wr => ∃ (k : Nat) (A' : Option Addr) (c' : Nat), 5 + n7 + k ≤ 188 - n ∧ o = .slice A' (5 + n7 + k) c' ∧ OwB wr (w.heap.size + 1) 5 (.slice A' (5 + n7 + k) c') (H8 ++ List.replicate k 255) ∧ Bx wr w.heap.size 24 #[.int .i64 pid, .int .i64 cnt, .bool false, .int .i64 clk, .slice A n c] ∧ Below w.heap.size w wr) (fun o _ => 188 - slen o)
  case atStart =>
    obtain ⟨A8, c8, rfl, _⟩ := ho8.slice
    rw [HH8L.out] at ho8 ⊢
    exact ⟨0, A8, c8, m7, rfl, by simpa using ho8, x8, B8⟩
  case round =>
    obtain ⟨k, A', c', hk, rfl, ok, xk, Bk⟩ := hrel
    clear x8 B8 ho8
    have Lk : (H8 ++ List.replicate k 255).length = 5 + n7 + k := by rw [List.length_append, HH8L.out, List.length_replicate]
    have HLK := Lib.hid Lk
    clear Lk
    have sk := xk.lt
    have Zk := Bk.size
    by_cases hlt : 5 + n7 + k < 188 - n
    · have t1 : decide (((5 + n7 + k : Nat) : Int) < 188 - (n : Int)) = true := by simp; omega
      have by4 := Byt.one wr 5 255 (by omega) (by omega)
      have bok := ok.alloc (.cells #[.int .u8 255] 5)
      have LL : (H8 ++ List.replicate k 255).length + 1 ≤ 100000000 := by rw [HLK.out]; omega
      have HLL := Lib.hid LL
      have ss : w.heap.size + 1 ≤ (wr.alloc (.cells #[.int .u8 255] 5)).heap.size := by simp; omega
      have nek : some w.heap.size ≠ (Value.slice A' (5 + n7 + k) c').ownBlock := own_ne ok (.inl (by omega))
      clear LL
      go_wp2_with (at_builtin; go_must (refine wpList_appB _ rfl (.tmp 70) (.tmp 71) 22 rfl 5 Try.underlying22 Try.infoB (w.heap.size + 1) _ (H8 ++ List.replicate k 255) rfl bok (some ⟨wr.heap.size, 0, none⟩) 1 1 [255] rfl by4 HLL.out ss ?_; intro v5 w5 ho5 hg5 hat5))
      obtain ⟨A5, c5, rfl, _⟩ := ho5.slice
      have e5 : (H8 ++ List.replicate k 255 ++ [255]).length = 5 + n7 + (k + 1) := by rw [List.length_append, HLK.out]; rfl
      rw [e5] at ho5 ⊢
      go_roundw
      case rel =>
        refine ⟨k + 1, A5, c5, by omega, rfl, ?_, (xk.alloc _).grown hg5 nek, (Bk.alloc Zk _).grown hg5 (by simp; omega) (fun j hj => by have := (bok.lt j hj).1; omega)⟩
        rw [List.replicate_succ', ← List.append_assoc]
        exact ho5
      case measure => (simp [slen]; try omega)
    · have hke : 5 + n7 + k = 188 - n := by omega
      have t1 : decide (((5 + n7 + k : Nat) : Int) < 188 - (n : Int)) = false := by simp; omega
      have HKE := Lib.hid hke
      clear hke
      obtain ⟨f0, f1, f2, f3, f4⟩ := xk.cells5
      have l6 := HL1.out.below Bk (fun _ _ h => h)
      have HL6 := Lib.hid l6
      have LL : (H8 ++ List.replicate k 255).length + n ≤ 100000000 := by rw [HLK.out]; omega
      have HLL := Lib.hid LL
      clear l6 LL
      go_wp2_with (at_builtin; go_must (refine wpList_appB _ rfl (.tmp 73) (.tmp 75) 22 rfl 5 Try.underlying22 Try.infoB (w.heap.size + 1) _ (H8 ++ List.replicate k 255) rfl ok A n c l rfl HL6.out HLL.out sk ?_; intro v7 w7 ho7 hg7 hat7))
      obtain ⟨A7, c7, rfl, hB7⟩ := ho7.ret (p := (w.heap.size ≤ ·)) (fun b hb => by omega) (by
        intro x hx
        rw [HH8.out] at hx
        simp only [List.mem_append] at hx
        rcases hx with (((hx | hx) | hx) | hx) | hx
        · exact HR4.out x hx
        · simp at hx; omega
        · exact HAR.out x hx
        · have := List.eq_of_mem_replicate hx; omega
        · exact HRL.out x hx)
      go_ret2
      refine ⟨_, _, _, rfl, ?_, Bk.grown hg7 Zk (fun j hj => by have := (ok.lt j hj).1; omega)⟩
      have hfin : pktL pid cnt false clk l n = H8 ++ List.replicate k 255 ++ l := by
        rw [HH8.out, HH4.out, HK.out]
        exact pkt_small pid cnt false clk l n k n7 _ _ hn HN7.out HKE.out (by unfold ctlT; rw [if_neg (by omega)]; rw [if_neg (by omega)]; omega) (by simp)
      rw [hfin]
      exact hB7

end Go.Proofs.Ytdnchjmopkhnaaa
