/- transport.Put of a valid packet. -/
import Derived.Test.YtdnchjmopkhnaaaTrF
namespace Go.Proofs.Ytdnchjmopkhnaaa
open Go.RowKit

theorem tr_enc {q : Nat → Prop} (pid cnt : Int) (st : Bool) (clk : Int) (A : Option Addr) (n c : Nat) (l : List Int) (w : World) (hl : Byt q w A n l) (hv : validT pid cnt st clk n = true) :
    Calls Try.prog 34 #[.agg #[.int .i64 pid, .int .i64 cnt, .bool st, .int .i64 clk, .slice A n c]] w fun e w' => e = .returned (.agg (rowN .u8 (encL pid cnt st clk l n))) ∧ Below w.heap.size w w' := by
  unfold validT at hv
  have hv := of_decide_eq_true hv
  unfold roomT at hv
  obtain ⟨h1, h2, h3, h4, h5, h6, h7, _⟩ := hv
  have h8 : n ≤ 184 ∧ (clk = -1 ∨ n ≤ 176) := by split at h7 <;> omega
  cases st
  · exact tr_encode pid cnt clk A n c l w hl ⟨h1, h2⟩ ⟨h3, h4⟩ ⟨h5, h6⟩ h8.1 h8.2
  · exact tr_encode_st pid cnt clk A n c l w hl ⟨h1, h2⟩ ⟨h3, h4⟩ ⟨h5, h6⟩ h8.1 h8.2

theorem wpList_st188new {ops : Array Oper} {rest : List Oper} {o : Oper} {a : Act} {w : World} {Q : Exit → Act → World → Prop} {old : Array Value} {t : TypeId} (hgd : o.guard = none) (x y : Operand) (ho : o.op = .store 73 x y)
    (m : List Int) (hx : a.eval x = .pointer (some ⟨w.heap.size, 0, none⟩)) (hy : a.eval y = .agg (rowN .u8 m)) (hold : old.size = 188) (hm : m.length = 188)
    (hk : ∀ w', Bk w' t w.heap.size m → Below w.heap.size w w' → wpList Try.prog ops Q rest (a.put o.dst undef) w') : wpList Try.prog ops Q (o :: rest) a (w.alloc (.cells old t)) := by
  refine wpList_store_row hgd 73 x y ho w.heap.size _ hx hy t _ (heap_alloc_new w _) (by rw [rowN_size, hm]; exact Try.info188) (by rw [rowN_size, hold, hm]) (rowN_one _ _) (hk _ ?_ ?_)
  · exact bn_bk (setRow_heap _ _ _ _ t (0, 0) (heap_alloc_new w _))
  · exact below_row ((Below.refl _ w).alloc (Nat.le_refl _) _) (Nat.le_refl _)
theorem zero188_size : Try.zeroCells73.size = 188 := by rw [zero188, rowN_size]; exact z188_len
set_option maxRecDepth 100000 in
theorem all_arr (g : Nat) (w : World) : (Instr.sliceAt 73 (.pointer (some ⟨g, 0, none⟩)) none none none).run Try.prog w = .ok (.slice (some ⟨g, 0, none⟩) 188 188) w := by
  have hal : Try.prog.arrayLen 73 = 188 := by kernel_rfl
  have h := run_sliceAt_array_all (P := Try.prog) w 73 ⟨g, 0, none⟩ Try.underlying73
  rw [hal] at h
  rw [h]
  have hz : (sizeOf 5).run Try.prog w = .ok 1 w := by kernel_rfl
  show ((sizeOf 5).run Try.prog w).andThen _ = _
  rw [hz]
  rfl
theorem encL_rng (pid cnt : Int) (st : Bool) (clk : Int) (l : List Int) (n : Nat) (hl : ∀ x ∈ l, 0 ≤ x ∧ x ≤ 255) (hp : 0 ≤ pid ∧ pid < 8192) (hcn : 0 ≤ cnt ∧ cnt < 16) (hn : n ≤ 184) : ∀ x ∈ encL pid cnt st clk l n, 0 ≤ x ∧ x ≤ 255 := by
  have set_rng : ∀ {l : List Int} {i : Nat} {y : Int}, (∀ x ∈ l, 0 ≤ x ∧ x ≤ 255) → 0 ≤ y ∧ y ≤ 255 → ∀ x ∈ l.set i y, 0 ≤ x ∧ x ≤ 255 := by
    intro l i y h hy x hx
    rcases List.mem_or_eq_of_mem_set hx with hx | rfl
    · exact h x hx
    · exact hy
  have hz : ∀ x ∈ z188, (0 : Int) ≤ x ∧ x ≤ 255 := by intro x hx; rw [List.eq_of_mem_replicate hx]; omega
  have h3 : ∀ x ∈ enc3 pid st, 0 ≤ x ∧ x ≤ 255 := by
    unfold enc3
    refine set_rng (set_rng (set_rng hz (by omega)) ?_) (by omega)
    split <;> omega
  have hct := ctlT_rng (n : Int)
  have h4 : ∀ x ∈ enc4 pid cnt st n, 0 ≤ x ∧ x ≤ 255 := set_rng h3 (by omega)
  have h5 : ∀ x ∈ enc5 pid cnt st l n, 0 ≤ x ∧ x ≤ 255 := spl_rng h4 hl
  have hfill : ∀ (m : List Int), (∀ x ∈ m, 0 ≤ x ∧ x ≤ 255) → ∀ j, ∀ x ∈ fillL m j, 0 ≤ x ∧ x ≤ 255 := by
    intro m hm j
    induction j with
    | zero => exact hm
    | succ j ih => exact set_rng ih (by omega)
  have h8 : ∀ (m : List Int) (k : Nat), (∀ x ∈ m, 0 ≤ x ∧ x ≤ 255) → ∀ x ∈ enc8 m k, 0 ≤ x ∧ x ≤ 255 := by
    intro m k hm
    unfold enc8
    split
    · exact set_rng (hfill m hm k) (by omega)
    · exact hfill m hm k
  have hclk : ∀ (m : List Int) (v : Int), (∀ x ∈ m, 0 ≤ x ∧ x ≤ 255) → ∀ i, ∀ x ∈ clkL m v i, 0 ≤ x ∧ x ≤ 255 := by
    intro m v hm i
    induction i with
    | zero => exact hm
    | succ i ih => exact set_rng ih (by omega)
  unfold encL
  split
  · exact h5
  · dsimp only
    have h9 := h8 ((enc5 pid cnt st l n).set 4 ((183 - n : Nat) : Int)) (183 - n) (set_rng h5 (by omega))
    split
    · exact h9
    · exact hclk _ _ (set_rng h9 (by omega)) 6

set_option maxRecDepth 100000 in
set_option maxHeartbeats 2000000 in
theorem tr_Put_okC {q : Nat → Prop} (pid cnt : Int) (st : Bool) (clk : Int) (A : Option Addr) (n c : Nat) (l : List Int) (w : World) (hl : Byt q w A n l) (hv : validT pid cnt st clk n = true) :
    Calls Try.prog 11 #[.agg #[.int .i64 pid, .int .i64 cnt, .bool st, .int .i64 clk, .slice A n c]] w (RetPc w (encL pid cnt st clk l n) 0) := by
  have hn : n ≤ 184 := by
    have h := hv
    unfold validT at h
    have h := of_decide_eq_true h
    unfold roomT at h
    obtain ⟨_, _, _, _, _, _, h7, _⟩ := h
    split at h7 <;> omega
  have hlen := encL_len pid cnt st clk l n hl.len hn
  have hrg : ∀ x ∈ encL pid cnt st clk l n, 0 ≤ x ∧ x ≤ 255 := by
    have h := hv
    unfold validT at h
    have h := of_decide_eq_true h
    obtain ⟨h1, h2, h3, h4, _⟩ := h
    exact encL_rng pid cnt st clk l n hl.rng ⟨h1, h2⟩ ⟨h3, h4⟩ hn
  have HV := Lib.hid hv
  have hmf : ∀ (fn : Fn) (first cap : Array Value) (w : World), (Instr.makeFunc fn first cap).run Try.prog w = .ok (.func fn first cap) w := fun _ _ _ _ => rfl
  have XP : Bx (((w.alloc (.cells #[.int .i64 pid, .int .i64 cnt, .bool st, .int .i64 clk, .slice A n c] 28)).alloc (.cells #[.slice none 0 0] 22)).alloc (.cells #[.int .i64 0] 25)) w.heap.size 28 #[.int .i64 pid, .int .i64 cnt, .bool st, .int .i64 clk, .slice A n c] := ((Bx.new _ _ _).alloc _).alloc _
  have X1 : Bx (((w.alloc (.cells #[.int .i64 pid, .int .i64 cnt, .bool st, .int .i64 clk, .slice A n c] 28)).alloc (.cells #[.slice none 0 0] 22)).alloc (.cells #[.int .i64 0] 25)) (w.heap.size + 1) 22 #[.slice none 0 0] := (Bx.new' _ _ _ _ (by simp)).alloc _
  have X2 : Bx (((w.alloc (.cells #[.int .i64 pid, .int .i64 cnt, .bool st, .int .i64 clk, .slice A n c] 28)).alloc (.cells #[.slice none 0 0] 22)).alloc (.cells #[.int .i64 0] 25)) (w.heap.size + 1 + 1) 25 #[.int .i64 0] := Bx.new' _ _ _ _ (by simp)
  have B0 : Below w.heap.size w (((w.alloc (.cells #[.int .i64 pid, .int .i64 cnt, .bool st, .int .i64 clk, .slice A n c] 28)).alloc (.cells #[.slice none 0 0] 22)).alloc (.cells #[.int .i64 0] 25)) := (((Below.refl _ w).alloc (Nat.le_refl _) _).alloc (by simp) _).alloc (by simp; omega) _
  go_enter_defers Try.func11, Try.ntmps11
  go_upto_region 2 with fail
  generalize ((w.alloc (.cells #[.int .i64 pid, .int .i64 cnt, .bool st, .int .i64 clk, .slice A n c] 28)).alloc (.cells #[.slice none 0 0] 22)).alloc (.cells #[.int .i64 0] 25) = W at *
  obtain ⟨f0, f1, f2, f3, f4⟩ := XP.cells5
  have s1 := XP.lt
  go_wp2_with fail
  refine (tr_valid pid cnt st clk A n c _).mono ?_
  rintro e w1 ⟨rfl, hb1⟩
  rw [hv]
  have XP := XP.ext hb1
  have X1 := X1.ext hb1
  have X2 := X2.ext hb1
  have B1 := B0.trans (hb1.mono B0.size)
  clear f0 f1 f2 f3 f4 s1 B0
  obtain ⟨f0, f1, f2, f3, f4⟩ := XP.cells5
  have u1 : w1.cell? ⟨w.heap.size + 1, 0, none⟩ = some (.slice none 0 0) := X1.cell 0 rfl
  have u2 : w1.cell? ⟨w.heap.size + 1 + 1, 0, none⟩ = some (.int .i64 0) := X2.cell 0 rfl
  have v1 := X1.frozen 0
  have v2 := X2.frozen 0
  have s1 := XP.lt
  have s2 := X1.lt
  have s3 := X2.lt
  have l1 := hl.below B1 (fun b h _ => h)
  obtain ⟨E, hE⟩ : ∃ E, E = encL pid cnt st clk l n := ⟨_, rfl⟩
  have hcall := tr_enc pid cnt st clk A n c l w1 l1 HV.out
  rw [← hE] at hcall hlen hrg ⊢
  have HC := Lib.hid hcall
  have HL := Lib.hid hlen
  have HG := Lib.hid hrg
  have HE := Lib.hid hE
  clear hcall hlen hrg hE
  go_wp2_with fail
  refine HC.out.mono ?_
  rintro e w2 ⟨rfl, hb2⟩
  have X1 := X1.ext hb2
  have X2 := X2.ext hb2
  have B2 := B1.trans (hb2.mono B1.size)
  clear f0 f1 f2 f3 f4 u1 u2 v1 v2 s1 s2 s3 B1
  go_upto_region 5 with (refine wpList_st188new rfl (.tmp 4) (.tmp 10) rfl E rfl rfl zero188_size HL.out ?_; intro w3 k3 hb3)
  have X1 := X1.ext hb3
  have X2 := X2.ext hb3
  have B3 := B2.trans (hb3.mono B2.size)
  have s2 := X1.lt
  have s3 := X2.lt
  have s4 := k3.lt
  have hsl := all_arr w2.heap.size
  have hby : Byt (fun _ => True) w3 (some ⟨w2.heap.size, 0, none⟩) 188 E := Byt.cast (k3.byt (p := fun _ => True) True.intro HG.out) rfl HL.out.symm
  have HC2 := Lib.hid (bytes_CloneC (some ⟨w2.heap.size, 0, none⟩) 188 188 E w3 hby (by omega))
  clear hb3 B2 hb2 hby
  go_wp2_with fail
  refine HC2.out.mono ?_
  rintro e w4 ⟨A4, n4, c4, rfl, hB4, hb4, hk4⟩
  have X1 := X1.ext hb4
  have X2 := X2.ext hb4
  have B4 := B3.trans (hb4.mono B3.size)
  have u1 : w4.cell? ⟨w.heap.size + 1, 0, none⟩ = some (.slice none 0 0) := X1.cell 0 rfl
  have u2 : w4.cell? ⟨w.heap.size + 1 + 1, 0, none⟩ = some (.int .i64 0) := X2.cell 0 rfl
  have v1 := X1.frozen 0
  have v2 := X2.frozen 0
  go_wp2_with fail
  refine trput_leave (w := w) (g := w.heap.size + 1) _ _ rfl rfl rfl ((X1.set_ 0 _).far (by dsimp only; omega) _) ((X2.far (by dsimp only; omega) _).set_ 0 _) ?_ (bset (bset B4 _ (by dsimp only; omega) _) _ (by dsimp only; omega) _) hk4
  refine Byt.mono (p := (w3.heap.size ≤ ·)) ?_ (fun b _ h => by have := B3.size; omega)
  rw [← HE.out]
  refine Byt.setCell (Byt.setCell hB4 ?_ _) ?_ _ <;> (dsimp only; omega)

theorem tr_Put_ok {q : Nat → Prop} (pid cnt : Int) (st : Bool) (clk : Int) (A : Option Addr) (n c : Nat) (l : List Int) (w : World) (hl : Byt q w A n l) (hv : validT pid cnt st clk n = true) :
    Calls Try.prog 11 #[.agg #[.int .i64 pid, .int .i64 cnt, .bool st, .int .i64 clk, .slice A n c]] w (RetP w (encL pid cnt st clk l n) 0) := (tr_Put_okC pid cnt st clk A n c l w hl hv).mono fun _ _ h => h.p
end Go.Proofs.Ytdnchjmopkhnaaa
