/- The reference's Put of a packet. -/
import Derived.Test.YtdnchjmopkhnaaaTrS
import Derived.Test.YtdnchjmopkhnaaaTrG
namespace Go.Proofs.Ytdnchjmopkhnaaa
open Go.RowKit

def slen : Value → Nat
  | .slice _ n _ => n
  | _ => 0
/-- A block of bytes that is known whole is a row of the call's own. -/
theorem OwB.ofBk {w : World} {e : TypeId} {g base : Nat} {l : List Int} (h : Bk w e g l) (hb : base ≤ g) (hm : l.length ≤ 100000000) : OwB w base e (.slice (some ⟨g, 0, none⟩) l.length l.length) l := by
  refine ⟨by simp, .inr ⟨g, l.length, _, rfl, hb, h, Nat.le_refl _, by simp only [maxLen]; omega, by simp, ?_⟩⟩
  simp only [Nat.mul_one]
  exact List.take_of_length_le (by simp)

set_option maxHeartbeats 1000000 in
theorem ref_TPut_arg (pid cnt : Int) (st : Bool) (clk : Int) (A : Option Addr) (n c : Nat) (w : World) (hv : validT pid cnt st clk n = false) :
    Calls Try.prog 13 #[.agg #[.int .i64 pid, .int .i64 cnt, .bool st, .int .i64 clk, .slice A n c]] w (RetP w [] 1) := by
  go_enter Try.func13, Try.ntmps13
  go_wp2_with fail
  refine (ref_TValid pid cnt st clk A n c _).mono ?_
  rintro e w1 ⟨rfl, hb1⟩
  rw [hv]
  go_wp2_with fail
  go_ret2
  exact ⟨_, _, _, rfl, Byt.nil, ((Below.refl _ w).alloc (Nat.le_refl _) _).trans (hb1.mono (by simp))⟩

set_option maxRecDepth 100000 in
set_option maxHeartbeats 2000000 in
theorem ref_TPut_184 {q : Nat → Prop} (pid cnt : Int) (clk : Int) (A : Option Addr) (c : Nat) (l : List Int) (w : World) (hl : Byt q w A 184 l) (hp : 0 ≤ pid ∧ pid < 8192) (hcn : 0 ≤ cnt ∧ cnt < 16) (hv : validT pid cnt false clk 184 = true) :
    Calls Try.prog 13 #[.agg #[.int .i64 pid, .int .i64 cnt, .bool false, .int .i64 clk, .slice A 184 c]] w (RetP w (pktL pid cnt false clk l 184) 0) := by
  have hrl := hl.rng
  have HRL := Lib.hid hrl
  clear hrl
  have hl1 := hl.mono (q := (· < w.heap.size)) (fun b h _ => h)
  have HL1 := Lib.hid hl1
  have hle := hl.len
  have HLE := Lib.hid hle
  clear hl hl1 hle
  go_enter Try.func13, Try.ntmps13
  go_wp2_with fail
  refine (ref_TValid pid cnt false clk A _ c _).mono ?_
  rintro e w1 ⟨rfl, hb1⟩
  rw [hv]
  have x1 := (Bx.new w 24 #[.int .i64 pid, .int .i64 cnt, .bool false, .int .i64 clk, .slice A _ c]).ext hb1
  obtain ⟨f0, f1, f2, f3, f4⟩ := x1.cells5
  have s1 := x1.lt
  have B1 : Below w.heap.size w w1 := ((Below.refl _ w).alloc (Nat.le_refl _) _).trans (hb1.mono (by simp))
  have Z1 := B1.size
  go_upto_region 13 with fail
  have k4 : Bk (w1.alloc (.cells #[.int .u8 71, .int .u8 (pid / 256), .int .u8 (pid % 256), .int .u8 (cnt + 16)] 5)) 5 w1.heap.size [71, pid / 256, pid % 256, cnt + 16] := heap_alloc_new w1 _
  have o4 := OwB.ofBk (base := w.heap.size + 1) k4 (by omega) (by simp)
  have x4 := x1.alloc (.cells #[.int .u8 71, .int .u8 (pid / 256), .int .u8 (pid % 256), .int .u8 (cnt + 16)] 5)
  have B4 := B1.alloc Z1 (.cells #[.int .u8 71, .int .u8 (pid / 256), .int .u8 (pid % 256), .int .u8 (cnt + 16)] 5)
  generalize w1.alloc (.cells #[.int .u8 71, .int .u8 (pid / 256), .int .u8 (pid % 256), .int .u8 (cnt + 16)] 5) = W at *
  clear hb1 f0 f1 f2 f3 f4 x1 B1 k4
  have x4 : Bx W w.heap.size 24 #[.int .i64 pid, .int .i64 cnt, .bool false, .int .i64 clk, .slice A _ c] := x4
  have HR4 : Hid (∀ x ∈ ([71, pid / 256, pid % 256, cnt + 16] : List Int), 0 ≤ x ∧ x ≤ 255) := Lib.hid (by
    intro x hx
    simp only [List.mem_cons, List.not_mem_nil, or_false] at hx
    rcases hx with rfl | rfl | rfl | rfl <;> omega)
  have o4 : OwB W (w.heap.size + 1) 5 (.slice (some ⟨w1.heap.size, 0, none⟩) 4 4) [71, pid / 256, pid % 256, cnt + 16] := o4
  obtain ⟨H4, hH4⟩ : ∃ H : List Int, H = [71, pid / 256, pid % 256, cnt + 16] := ⟨_, rfl⟩
  rw [← hH4] at o4 HR4
  have hH4l : H4.length = 4 := by rw [hH4]; rfl
  have HH4 := Lib.hid hH4
  have HH4L := Lib.hid hH4l
  clear hH4 hH4l
  obtain ⟨f0, f1, f2, f3, f4⟩ := x4.cells5
  have s1 := x4.lt
  have Z4 := B4.size
  have l4 := HL1.out.below B4 (fun _ _ h => h)
  have HL4 := Lib.hid l4
  have LL : H4.length + 184 ≤ 100000000 := by rw [HH4L.out]; omega
  have HLL := Lib.hid LL
  clear l4 LL
  go_wp2_with (at_builtin; go_must (refine wpList_appB _ rfl (.tmp 73) (.tmp 75) 22 rfl 5 Try.underlying22 Try.infoB (w.heap.size + 1) _ H4 rfl o4 A 184 c l rfl HL4.out HLL.out s1 ?_; intro v5 w5 ho5 hg5 hat5))
  obtain ⟨A5, c5, rfl, hB5⟩ := ho5.ret (p := (w.heap.size ≤ ·)) (fun b hb => by omega) (by
    intro x hx
    rcases List.mem_append.1 hx with hx | hx
    · exact HR4.out x hx
    · exact HRL.out x hx)
  go_ret2
  refine ⟨_, _, _, rfl, ?_, B4.grown hg5 Z4 (fun k hk => by have := (o4.lt k hk).1; omega)⟩
  rw [show pktL pid cnt false clk l 184 = H4 ++ l by rw [HH4.out]; simp [pktL, headT, midT, ctlT]; omega]
  exact hB5
set_option maxRecDepth 100000 in
set_option maxHeartbeats 2000000 in
theorem ref_TPut_184s {q : Nat → Prop} (pid cnt : Int) (clk : Int) (A : Option Addr) (c : Nat) (l : List Int) (w : World) (hl : Byt q w A 184 l) (hp : 0 ≤ pid ∧ pid < 8192) (hcn : 0 ≤ cnt ∧ cnt < 16) (hv : validT pid cnt true clk 184 = true) :
    Calls Try.prog 13 #[.agg #[.int .i64 pid, .int .i64 cnt, .bool true, .int .i64 clk, .slice A 184 c]] w (RetP w (pktL pid cnt true clk l 184) 0) := by
  have hrl := hl.rng
  have HRL := Lib.hid hrl
  clear hrl
  have hl1 := hl.mono (q := (· < w.heap.size)) (fun b h _ => h)
  have HL1 := Lib.hid hl1
  have hle := hl.len
  have HLE := Lib.hid hle
  clear hl hl1 hle
  go_enter Try.func13, Try.ntmps13
  go_wp2_with fail
  refine (ref_TValid pid cnt true clk A _ c _).mono ?_
  rintro e w1 ⟨rfl, hb1⟩
  rw [hv]
  have x1 := (Bx.new w 24 #[.int .i64 pid, .int .i64 cnt, .bool true, .int .i64 clk, .slice A _ c]).ext hb1
  obtain ⟨f0, f1, f2, f3, f4⟩ := x1.cells5
  have s1 := x1.lt
  have B1 : Below w.heap.size w w1 := ((Below.refl _ w).alloc (Nat.le_refl _) _).trans (hb1.mono (by simp))
  have Z1 := B1.size
  go_upto_region 13 with fail
  have k4 : Bk (w1.alloc (.cells #[.int .u8 71, .int .u8 (pid / 256 + 64), .int .u8 (pid % 256), .int .u8 (cnt + 16)] 5)) 5 w1.heap.size [71, pid / 256 + 64, pid % 256, cnt + 16] := heap_alloc_new w1 _
  have o4 := OwB.ofBk (base := w.heap.size + 1) k4 (by omega) (by simp)
  have x4 := x1.alloc (.cells #[.int .u8 71, .int .u8 (pid / 256 + 64), .int .u8 (pid % 256), .int .u8 (cnt + 16)] 5)
  have B4 := B1.alloc Z1 (.cells #[.int .u8 71, .int .u8 (pid / 256 + 64), .int .u8 (pid % 256), .int .u8 (cnt + 16)] 5)
  generalize w1.alloc (.cells #[.int .u8 71, .int .u8 (pid / 256 + 64), .int .u8 (pid % 256), .int .u8 (cnt + 16)] 5) = W at *
  clear hb1 f0 f1 f2 f3 f4 x1 B1 k4
  have x4 : Bx W w.heap.size 24 #[.int .i64 pid, .int .i64 cnt, .bool true, .int .i64 clk, .slice A _ c] := x4
  have HR4 : Hid (∀ x ∈ ([71, pid / 256 + 64, pid % 256, cnt + 16] : List Int), 0 ≤ x ∧ x ≤ 255) := Lib.hid (by
    intro x hx
    simp only [List.mem_cons, List.not_mem_nil, or_false] at hx
    rcases hx with rfl | rfl | rfl | rfl <;> omega)
  have o4 : OwB W (w.heap.size + 1) 5 (.slice (some ⟨w1.heap.size, 0, none⟩) 4 4) [71, pid / 256 + 64, pid % 256, cnt + 16] := o4
  obtain ⟨H4, hH4⟩ : ∃ H : List Int, H = [71, pid / 256 + 64, pid % 256, cnt + 16] := ⟨_, rfl⟩
  rw [← hH4] at o4 HR4
  have hH4l : H4.length = 4 := by rw [hH4]; rfl
  have HH4 := Lib.hid hH4
  have HH4L := Lib.hid hH4l
  clear hH4 hH4l
  obtain ⟨f0, f1, f2, f3, f4⟩ := x4.cells5
  have s1 := x4.lt
  have Z4 := B4.size
  have l4 := HL1.out.below B4 (fun _ _ h => h)
  have HL4 := Lib.hid l4
  have LL : H4.length + 184 ≤ 100000000 := by rw [HH4L.out]; omega
  have HLL := Lib.hid LL
  clear l4 LL
  go_wp2_with (at_builtin; go_must (refine wpList_appB _ rfl (.tmp 73) (.tmp 75) 22 rfl 5 Try.underlying22 Try.infoB (w.heap.size + 1) _ H4 rfl o4 A 184 c l rfl HL4.out HLL.out s1 ?_; intro v5 w5 ho5 hg5 hat5))
  obtain ⟨A5, c5, rfl, hB5⟩ := ho5.ret (p := (w.heap.size ≤ ·)) (fun b hb => by omega) (by
    intro x hx
    rcases List.mem_append.1 hx with hx | hx
    · exact HR4.out x hx
    · exact HRL.out x hx)
  go_ret2
  refine ⟨_, _, _, rfl, ?_, B4.grown hg5 Z4 (fun k hk => by have := (o4.lt k hk).1; omega)⟩
  rw [show pktL pid cnt true clk l 184 = H4 ++ l by rw [HH4.out]; simp [pktL, headT, midT, ctlT]; omega]
  exact hB5

end Go.Proofs.Ytdnchjmopkhnaaa
