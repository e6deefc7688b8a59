/- The reference's Put of a packet with 183 bytes. -/
import Derived.Test.YtdnchjmopkhnaaaTrT
namespace Go.Proofs.Ytdnchjmopkhnaaa
open Go.RowKit

theorem pkt_small (pid cnt : Int) (st : Bool) (clk : Int) (l : List Int) (n k m : Nat) (AA CC : Int) (hn : n ≤ 182) (hm : m = 1 ∧ clk = -1 ∨ m = 7 ∧ 0 ≤ clk) (hk : 5 + m + k = 188 - n) (hc : ctlT (n : Int) * 16 + cnt = CC) (ha : pid / 256 + (if st then 64 else 0) = AA) :
    pktL pid cnt st clk l n = [71, AA, pid % 256, CC] ++ [183 - (n : Int)] ++ adL clk ++ List.replicate k 255 ++ l := by
  unfold pktL headT midT adL
  rw [hc, ha, if_neg (show ¬ n = 184 by omega), if_neg (show ¬ n = 183 by omega), show ((183 - n : Nat) : Int) = 183 - (n : Int) by omega]
  rcases hm with ⟨h4, h5⟩ | ⟨h4, h5⟩
  · rw [if_pos h5, if_pos (show clk < 0 by omega), show 182 - n = k by omega]
    simp
  · rw [if_neg (show ¬ clk = -1 by omega), if_neg (show ¬ clk < 0 by omega), show 176 - n = k by omega]
    simp
set_option maxRecDepth 100000 in
set_option maxHeartbeats 2000000 in
theorem ref_TPut_183 {q : Nat → Prop} (pid cnt : Int) (clk : Int) (A : Option Addr) (c : Nat) (l : List Int) (w : World) (hl : Byt q w A 183 l) (hp : 0 ≤ pid ∧ pid < 8192) (hcn : 0 ≤ cnt ∧ cnt < 16) (hv : validT pid cnt false clk 183 = true) :
    Calls Try.prog 13 #[.agg #[.int .i64 pid, .int .i64 cnt, .bool false, .int .i64 clk, .slice A 183 c]] w (RetP w (pktL pid cnt false clk l 183) 0) := by
  have hrl := hl.rng
  have HRL := Lib.hid hrl
  clear hrl
  have hl1 := hl.mono (q := (· < w.heap.size)) (fun b h _ => h)
  have HL1 := Lib.hid hl1
  have hle := hl.len
  have HLE := Lib.hid hle
  clear hl hl1 hle
  go_enter Try.func13, Try.ntmps13
  go_wp2_with fail
  refine (ref_TValid pid cnt false clk A _ c _).mono ?_
  rintro e w1 ⟨rfl, hb1⟩
  rw [hv]
  have x1 := (Bx.new w 24 #[.int .i64 pid, .int .i64 cnt, .bool false, .int .i64 clk, .slice A _ c]).ext hb1
  obtain ⟨f0, f1, f2, f3, f4⟩ := x1.cells5
  have s1 := x1.lt
  have B1 : Below w.heap.size w w1 := ((Below.refl _ w).alloc (Nat.le_refl _) _).trans (hb1.mono (by simp))
  have Z1 := B1.size
  go_upto_region 13 with fail
  have k4 : Bk (w1.alloc (.cells #[.int .u8 71, .int .u8 (pid / 256), .int .u8 (pid % 256), .int .u8 (cnt + 48)] 5)) 5 w1.heap.size [71, pid / 256, pid % 256, cnt + 48] := heap_alloc_new w1 _
  have o4 := OwB.ofBk (base := w.heap.size + 1) k4 (by omega) (by simp)
  have x4 := x1.alloc (.cells #[.int .u8 71, .int .u8 (pid / 256), .int .u8 (pid % 256), .int .u8 (cnt + 48)] 5)
  have B4 := B1.alloc Z1 (.cells #[.int .u8 71, .int .u8 (pid / 256), .int .u8 (pid % 256), .int .u8 (cnt + 48)] 5)
  generalize w1.alloc (.cells #[.int .u8 71, .int .u8 (pid / 256), .int .u8 (pid % 256), .int .u8 (cnt + 48)] 5) = W at *
  clear hb1 f0 f1 f2 f3 f4 x1 B1 k4
  have x4 : Bx W w.heap.size 24 #[.int .i64 pid, .int .i64 cnt, .bool false, .int .i64 clk, .slice A _ c] := x4
  have HR4 : Hid (∀ x ∈ ([71, pid / 256, pid % 256, cnt + 48] : List Int), 0 ≤ x ∧ x ≤ 255) := Lib.hid (by
    intro x hx
    simp only [List.mem_cons, List.not_mem_nil, or_false] at hx
    rcases hx with rfl | rfl | rfl | rfl <;> omega)
  have o4 : OwB W (w.heap.size + 1) 5 (.slice (some ⟨w1.heap.size, 0, none⟩) 4 4) [71, pid / 256, pid % 256, cnt + 48] := o4
  obtain ⟨H4, hH4⟩ : ∃ H : List Int, H = [71, pid / 256, pid % 256, cnt + 48] := ⟨_, rfl⟩
  rw [← hH4] at o4 HR4
  have hH4l : H4.length = 4 := by rw [hH4]; rfl
  have HH4 := Lib.hid hH4
  have HH4L := Lib.hid hH4l
  clear hH4 hH4l
  obtain ⟨f0, f1, f2, f3, f4⟩ := x4.cells5
  have s1 := x4.lt
  have Z4 := B4.size
  have LL : H4.length + 1 ≤ 100000000 := by rw [HH4L.out]; omega
  have HLL := Lib.hid LL
  clear LL
  have bx4 := x4.alloc (.cells #[.int .u8 0] 5)
  have by4 := Byt.one W 5 0 (by omega) (by omega)
  have bo4 := o4.alloc (.cells #[.int .u8 0] 5)
  have B5 := B4.alloc Z4 (.cells #[.int .u8 0] 5)
  have s5 : w.heap.size + 1 ≤ (W.alloc (.cells #[.int .u8 0] 5)).heap.size := by simp; omega
  have ne4 : some w.heap.size ≠ (Value.slice (some ⟨w1.heap.size, 0, none⟩) 4 4).ownBlock := own_ne o4 (.inl (by omega))
  go_upto_region 15 with (at_builtin; go_must (refine wpList_appB _ rfl (.tmp 52) (.tmp 56) 22 rfl 5 Try.underlying22 Try.infoB (w.heap.size + 1) _ H4 rfl bo4 (some ⟨W.heap.size, 0, none⟩) 1 1 [0] rfl by4 HLL.out s5 ?_; intro v5 w5 ho5 hg5 hat5))
  have x5 := bx4.grown hg5 ne4
  have B6 := B5.grown hg5 (by have := B5.size; omega) (fun k hk => by have := (bo4.lt k hk).1; omega)
  obtain ⟨A5, c5, rfl, _⟩ := ho5.slice
  have h5l : (H4 ++ [0]).length = 5 := by rw [List.length_append, HH4L.out]; rfl
  rw [h5l] at ho5 ⊢
  clear f0 f1 f2 f3 f4 s1 Z4 bx4 by4 bo4 B5 s5 ne4 hg5 hat5 x4 B4 HLL h5l o4
  obtain ⟨f0, f1, f2, f3, f4⟩ := x5.cells5
  have s1 := x5.lt
  have Z6 := B6.size
  have l6 := HL1.out.below B6 (fun _ _ h => h)
  have HL6 := Lib.hid l6
  have LL : (H4 ++ [0]).length + 183 ≤ 100000000 := by rw [List.length_append, HH4L.out]; simp
  have HLL := Lib.hid LL
  clear l6 LL
  go_wp2_with (at_builtin; go_must (refine wpList_appB _ rfl (.tmp 73) (.tmp 75) 22 rfl 5 Try.underlying22 Try.infoB (w.heap.size + 1) _ (H4 ++ [0]) rfl ho5 A 183 c l rfl HL6.out HLL.out s1 ?_; intro v7 w7 ho7 hg7 hat7))
  obtain ⟨A7, c7, rfl, hB7⟩ := ho7.ret (p := (w.heap.size ≤ ·)) (fun b hb => by omega) (by
    intro x hx
    rcases List.mem_append.1 hx with hx | hx
    · rcases List.mem_append.1 hx with hx | hx
      · exact HR4.out x hx
      · simp at hx; omega
    · exact HRL.out x hx)
  go_ret2
  refine ⟨_, _, _, rfl, ?_, B6.grown hg7 Z6 (fun k hk => by have := (ho5.lt k hk).1; omega)⟩
  rw [show pktL pid cnt false clk l 183 = H4 ++ [0] ++ l by rw [HH4.out]; simp [pktL, headT, midT, ctlT]; omega]
  exact hB7
set_option maxRecDepth 100000 in
set_option maxHeartbeats 2000000 in
theorem ref_TPut_183s {q : Nat → Prop} (pid cnt : Int) (clk : Int) (A : Option Addr) (c : Nat) (l : List Int) (w : World) (hl : Byt q w A 183 l) (hp : 0 ≤ pid ∧ pid < 8192) (hcn : 0 ≤ cnt ∧ cnt < 16) (hv : validT pid cnt true clk 183 = true) :
    Calls Try.prog 13 #[.agg #[.int .i64 pid, .int .i64 cnt, .bool true, .int .i64 clk, .slice A 183 c]] w (RetP w (pktL pid cnt true clk l 183) 0) := by
  have hrl := hl.rng
  have HRL := Lib.hid hrl
  clear hrl
  have hl1 := hl.mono (q := (· < w.heap.size)) (fun b h _ => h)
  have HL1 := Lib.hid hl1
  have hle := hl.len
  have HLE := Lib.hid hle
  clear hl hl1 hle
  go_enter Try.func13, Try.ntmps13
  go_wp2_with fail
  refine (ref_TValid pid cnt true clk A _ c _).mono ?_
  rintro e w1 ⟨rfl, hb1⟩
  rw [hv]
  have x1 := (Bx.new w 24 #[.int .i64 pid, .int .i64 cnt, .bool true, .int .i64 clk, .slice A _ c]).ext hb1
  obtain ⟨f0, f1, f2, f3, f4⟩ := x1.cells5
  have s1 := x1.lt
  have B1 : Below w.heap.size w w1 := ((Below.refl _ w).alloc (Nat.le_refl _) _).trans (hb1.mono (by simp))
  have Z1 := B1.size
  go_upto_region 13 with fail
  have k4 : Bk (w1.alloc (.cells #[.int .u8 71, .int .u8 (pid / 256 + 64), .int .u8 (pid % 256), .int .u8 (cnt + 48)] 5)) 5 w1.heap.size [71, pid / 256 + 64, pid % 256, cnt + 48] := heap_alloc_new w1 _
  have o4 := OwB.ofBk (base := w.heap.size + 1) k4 (by omega) (by simp)
  have x4 := x1.alloc (.cells #[.int .u8 71, .int .u8 (pid / 256 + 64), .int .u8 (pid % 256), .int .u8 (cnt + 48)] 5)
  have B4 := B1.alloc Z1 (.cells #[.int .u8 71, .int .u8 (pid / 256 + 64), .int .u8 (pid % 256), .int .u8 (cnt + 48)] 5)
  generalize w1.alloc (.cells #[.int .u8 71, .int .u8 (pid / 256 + 64), .int .u8 (pid % 256), .int .u8 (cnt + 48)] 5) = W at *
  clear hb1 f0 f1 f2 f3 f4 x1 B1 k4
  have x4 : Bx W w.heap.size 24 #[.int .i64 pid, .int .i64 cnt, .bool true, .int .i64 clk, .slice A _ c] := x4
  have HR4 : Hid (∀ x ∈ ([71, pid / 256 + 64, pid % 256, cnt + 48] : List Int), 0 ≤ x ∧ x ≤ 255) := Lib.hid (by
    intro x hx
    simp only [List.mem_cons, List.not_mem_nil, or_false] at hx
    rcases hx with rfl | rfl | rfl | rfl <;> omega)
  have o4 : OwB W (w.heap.size + 1) 5 (.slice (some ⟨w1.heap.size, 0, none⟩) 4 4) [71, pid / 256 + 64, pid % 256, cnt + 48] := o4
  obtain ⟨H4, hH4⟩ : ∃ H : List Int, H = [71, pid / 256 + 64, pid % 256, cnt + 48] := ⟨_, rfl⟩
  rw [← hH4] at o4 HR4
  have hH4l : H4.length = 4 := by rw [hH4]; rfl
  have HH4 := Lib.hid hH4
  have HH4L := Lib.hid hH4l
  clear hH4 hH4l
  obtain ⟨f0, f1, f2, f3, f4⟩ := x4.cells5
  have s1 := x4.lt
  have Z4 := B4.size
  have LL : H4.length + 1 ≤ 100000000 := by rw [HH4L.out]; omega
  have HLL := Lib.hid LL
  clear LL
  have bx4 := x4.alloc (.cells #[.int .u8 0] 5)
  have by4 := Byt.one W 5 0 (by omega) (by omega)
  have bo4 := o4.alloc (.cells #[.int .u8 0] 5)
  have B5 := B4.alloc Z4 (.cells #[.int .u8 0] 5)
  have s5 : w.heap.size + 1 ≤ (W.alloc (.cells #[.int .u8 0] 5)).heap.size := by simp; omega
  have ne4 : some w.heap.size ≠ (Value.slice (some ⟨w1.heap.size, 0, none⟩) 4 4).ownBlock := own_ne o4 (.inl (by omega))
  go_upto_region 15 with (at_builtin; go_must (refine wpList_appB _ rfl (.tmp 52) (.tmp 56) 22 rfl 5 Try.underlying22 Try.infoB (w.heap.size + 1) _ H4 rfl bo4 (some ⟨W.heap.size, 0, none⟩) 1 1 [0] rfl by4 HLL.out s5 ?_; intro v5 w5 ho5 hg5 hat5))
  have x5 := bx4.grown hg5 ne4
  have B6 := B5.grown hg5 (by have := B5.size; omega) (fun k hk => by have := (bo4.lt k hk).1; omega)
  obtain ⟨A5, c5, rfl, _⟩ := ho5.slice
  have h5l : (H4 ++ [0]).length = 5 := by rw [List.length_append, HH4L.out]; rfl
  rw [h5l] at ho5 ⊢
  clear f0 f1 f2 f3 f4 s1 Z4 bx4 by4 bo4 B5 s5 ne4 hg5 hat5 x4 B4 HLL h5l o4
  obtain ⟨f0, f1, f2, f3, f4⟩ := x5.cells5
  have s1 := x5.lt
  have Z6 := B6.size
  have l6 := HL1.out.below B6 (fun _ _ h => h)
  have HL6 := Lib.hid l6
  have LL : (H4 ++ [0]).length + 183 ≤ 100000000 := by rw [List.length_append, HH4L.out]; simp
  have HLL := Lib.hid LL
  clear l6 LL
  go_wp2_with (at_builtin; go_must (refine wpList_appB _ rfl (.tmp 73) (.tmp 75) 22 rfl 5 Try.underlying22 Try.infoB (w.heap.size + 1) _ (H4 ++ [0]) rfl ho5 A 183 c l rfl HL6.out HLL.out s1 ?_; intro v7 w7 ho7 hg7 hat7))
  obtain ⟨A7, c7, rfl, hB7⟩ := ho7.ret (p := (w.heap.size ≤ ·)) (fun b hb => by omega) (by
    intro x hx
    rcases List.mem_append.1 hx with hx | hx
    · rcases List.mem_append.1 hx with hx | hx
      · exact HR4.out x hx
      · simp at hx; omega
    · exact HRL.out x hx)
  go_ret2
  refine ⟨_, _, _, rfl, ?_, B6.grown hg7 Z6 (fun k hk => by have := (ho5.lt k hk).1; omega)⟩
  rw [show pktL pid cnt true clk l 183 = H4 ++ [0] ++ l by rw [HH4.out]; simp [pktL, headT, midT, ctlT]; omega]
  exact hB7

end Go.Proofs.Ytdnchjmopkhnaaa
