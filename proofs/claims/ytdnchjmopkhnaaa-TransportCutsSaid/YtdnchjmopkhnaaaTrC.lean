/- transport.encode. -/
import Derived.Test.YtdnchjmopkhnaaaTrB
import Derived.Deep.DrawnRows
namespace Go.Proofs.Ytdnchjmopkhnaaa
open Go.RowKit
attribute [local go_sem ↓] Go.wp_at_zero Go.wp_at_succ

def enc3 (pid : Int) (st : Bool) : List Int := ((z188.set 0 71).set 1 (pid / 256 + if st then 64 else 0)).set 2 (pid % 256)
theorem z188_len : z188.length = 188 := List.length_replicate
theorem z188_at (i : Nat) (hi : i < 188) : z188[i]? = some 0 := by unfold z188; rw [List.getElem?_replicate, if_pos hi]
theorem zero188 : Try.zeroCells73 = rowN .u8 z188 := by kernel_rfl
theorem enc3_len (pid : Int) (st : Bool) : (enc3 pid st).length = 188 := by unfold enc3; rw [List.length_set, List.length_set, List.length_set, z188_len]
theorem enc3_at3 (pid : Int) (st : Bool) : (enc3 pid st)[3]? = some 0 := by unfold enc3; rw [List.getElem?_set_ne (by decide), List.getElem?_set_ne (by decide), List.getElem?_set_ne (by decide), z188_at 3 (by decide)]
theorem ctlT_rng (n : Int) : 1 ≤ ctlT n ∧ ctlT n ≤ 3 := by
  unfold ctlT
  by_cases h : n = 184
  · rw [if_pos h]; omega
  · rw [if_neg h]
    by_cases h2 : n = 0
    · rw [if_pos h2]; omega
    · rw [if_neg h2]; omega
def enc4 (pid cnt : Int) (st : Bool) (n : Nat) : List Int := (enc3 pid st).set 3 (ctlT n * 16 + cnt)
theorem enc4_len (pid cnt : Int) (st : Bool) (n : Nat) : (enc4 pid cnt st n).length = 188 := by unfold enc4; rw [List.length_set, enc3_len]

def enc5 (pid cnt : Int) (st : Bool) (l : List Int) (n : Nat) : List Int := spl (enc4 pid cnt st n) (188 - n) l

def fillL (m : List Int) : Nat → List Int
  | 0 => m
  | j + 1 => (fillL m j).set (5 + j) 255
theorem fillL_len (m : List Int) : ∀ j, (fillL m j).length = m.length
  | 0 => rfl
  | j + 1 => by unfold fillL; rw [List.length_set]; exact fillL_len m j

theorem u64_or_low (i : Nat) (a b : Int) (n : Int) (hn : n = ((2 ^ i : Nat) : Int)) (ha : 0 ≤ a) (hb : 0 ≤ b) (hbn : b < n) (h : a * n + n ≤ 18446744073709551616) : bits .or .u64 (a * n) b = a * n + b := by
  obtain ⟨a, rfl⟩ := Int.eq_ofNat_of_zero_le ha
  obtain ⟨b, rfl⟩ := Int.eq_ofNat_of_zero_le hb
  subst hn
  have hc : b < 2 ^ i := Int.ofNat_lt.1 hbn
  have he : a * 2 ^ i ||| b = a * 2 ^ i + b := by rw [Nat.mul_comm, ← Nat.two_pow_add_eq_or_of_lt hc]
  have hm : ((a * 2 ^ i : Nat) : Int) + ((2 ^ i : Nat) : Int) ≤ 18446744073709551616 := by rw [Int.natCast_mul]; exact h
  rw [← Int.natCast_mul, u64_or_nat _ _ (by omega) (by omega), he, Int.natCast_add]
def enc8 (m : List Int) (k : Nat) : List Int := if 0 < k then (fillL m k).set 5 0 else fillL m k
theorem enc8_len (m : List Int) (k : Nat) : (enc8 m k).length = m.length := by
  unfold enc8
  split
  · rw [List.length_set, fillL_len]
  · rw [fillL_len]
def clkV (clk : Int) : Int := clk / 300 * 32768 + 32256 + clk % 300
def clkL (m : List Int) (v : Int) : Nat → List Int
  | 0 => m
  | i + 1 => (clkL m v i).set (6 + i) (v / 2 ^ (8 * (5 - i)) % 256)
theorem clkL_len (m : List Int) (v : Int) : ∀ i, (clkL m v i).length = m.length
  | 0 => rfl
  | i + 1 => by unfold clkL; rw [List.length_set]; exact clkL_len m v i
theorem clk_next {w : World} {e : TypeId} {g : Nat} {m : List Int} {V : Int} {i : Nat} (_hi : i < 6) (h : Bk w e g (clkL m V i)) : Bk (w.setCell ⟨g, 5 + (1 + i), none⟩ (.int .u8 (V / 2 ^ (8 * (5 - i)) % 256))) e g (clkL m V (i + 1)) := by
  have e2 : 5 + (1 + i) = 6 + i := by omega
  rw [e2]
  exact h.set_ (6 + i) _
def encL (pid cnt : Int) (st : Bool) (clk : Int) (l : List Int) (n : Nat) : List Int :=
  if n = 184 then enc5 pid cnt st l n else
    let e8 := enc8 ((enc5 pid cnt st l n).set 4 ((183 - n : Nat) : Int)) (183 - n)
    if clk = -1 then e8 else clkL (e8.set 5 16) (clkV clk) 6

set_option maxRecDepth 100000 in
set_option maxHeartbeats 4000000 in
theorem tr_encode {q : Nat → Prop} (pid cnt : Int) (clk : Int) (A : Option Addr) (n c : Nat) (l : List Int) (w : World) (hl : Byt q w A n l) (hp : 0 ≤ pid ∧ pid < 8192) (hcn : 0 ≤ cnt ∧ cnt < 16) (hck : -1 ≤ clk ∧ clk < 2576980377600) (hn : n ≤ 184) (hrm : clk = -1 ∨ n ≤ 176) :
    Calls Try.prog 34 #[.agg #[.int .i64 pid, .int .i64 cnt, .bool false, .int .i64 clk, .slice A n c]] w fun e w' => e = .returned (.agg (rowN .u8 (encL pid cnt false clk l n))) ∧ Below w.heap.size w w' := by
  have XP : Bx (((w.alloc (.cells #[.int .i64 pid, .int .i64 cnt, .bool false, .int .i64 clk, .slice A n c] 28)).alloc (.cells Try.zeroCells73 73)).alloc (.cells Try.zeroCells73 73)) w.heap.size 28 #[.int .i64 pid, .int .i64 cnt, .bool false, .int .i64 clk, .slice A n c] := ((Bx.new _ _ _).alloc _).alloc _
  have KR : Bk (((w.alloc (.cells #[.int .i64 pid, .int .i64 cnt, .bool false, .int .i64 clk, .slice A n c] 28)).alloc (.cells Try.zeroCells73 73)).alloc (.cells Try.zeroCells73 73)) 73 (w.heap.size + 1) z188 := by
    rw [zero188]
    exact bn_bk ((Bn.new' _ _ _ _ _ (by simp)).alloc _)
  have KB : Bk (((w.alloc (.cells #[.int .i64 pid, .int .i64 cnt, .bool false, .int .i64 clk, .slice A n c] 28)).alloc (.cells Try.zeroCells73 73)).alloc (.cells Try.zeroCells73 73)) 73 (w.heap.size + 1 + 1) z188 := by
    rw [zero188]
    exact bn_bk (Bn.new' _ _ _ _ _ (by simp))
  have B0 : Below w.heap.size w (((w.alloc (.cells #[.int .i64 pid, .int .i64 cnt, .bool false, .int .i64 clk, .slice A n c] 28)).alloc (.cells Try.zeroCells73 73)).alloc (.cells Try.zeroCells73 73)) := (((Below.refl _ w).alloc (Nat.le_refl _) _).alloc (by simp) _).alloc (by simp; omega) _
  go_enter Try.func34, Try.ntmps34
  go_upto_region 2 with fail
  generalize ((w.alloc (.cells #[.int .i64 pid, .int .i64 cnt, .bool false, .int .i64 clk, .slice A n c] 28)).alloc (.cells Try.zeroCells73 73)).alloc (.cells Try.zeroCells73 73) = W at *
  obtain ⟨f0, f1, f2, f3, f4⟩ := XP.cells5
  have k0 : W.cell? ⟨w.heap.size + 1 + 1, 0, none⟩ = some (.int .u8 0) := by rw [KB.cell, z188_at 0 (by decide)]; rfl
  have k1 : W.cell? ⟨w.heap.size + 1 + 1, 1, none⟩ = some (.int .u8 0) := by rw [KB.cell, z188_at 1 (by decide)]; rfl
  have k2 : W.cell? ⟨w.heap.size + 1 + 1, 2, none⟩ = some (.int .u8 0) := by rw [KB.cell, z188_at 2 (by decide)]; rfl
  have k3 : W.cell? ⟨w.heap.size + 1 + 1, 3, none⟩ = some (.int .u8 0) := by rw [KB.cell, z188_at 3 (by decide)]; rfl
  have g0 := KB.frozen 0
  have g1 := KB.frozen 1
  have g2 := KB.frozen 2
  have g3 := KB.frozen 3
  have s1 := XP.lt
  have s2 := KR.lt
  have s3 := KB.lt
  go_upto_region 7 with fail
  have KB := ((KB.set_ 0 71).set_ 1 (pid / 256)).set_ 2 (pid % 256)
  have XP := ((XP.far (a := ⟨w.heap.size + 1 + 1, 0, none⟩) (by dsimp only; omega) (.int .u8 71)).far (a := ⟨w.heap.size + 1 + 1, 1, none⟩) (by dsimp only; omega) (.int .u8 (pid / 256))).far (a := ⟨w.heap.size + 1 + 1, 2, none⟩) (by dsimp only; omega) (.int .u8 (pid % 256))
  have KR := ((KR.far (a := ⟨w.heap.size + 1 + 1, 0, none⟩) (by dsimp only; omega) (.int .u8 71)).far (a := ⟨w.heap.size + 1 + 1, 1, none⟩) (by dsimp only; omega) (.int .u8 (pid / 256))).far (a := ⟨w.heap.size + 1 + 1, 2, none⟩) (by dsimp only; omega) (.int .u8 (pid % 256))
  have B0 := bset (bset (bset B0 ⟨w.heap.size + 1 + 1, 0, none⟩ (by dsimp only; omega) (.int .u8 71)) ⟨w.heap.size + 1 + 1, 1, none⟩ (by dsimp only; omega) (.int .u8 (pid / 256))) ⟨w.heap.size + 1 + 1, 2, none⟩ (by dsimp only; omega) (.int .u8 (pid % 256))
  generalize ((W.setCell ⟨w.heap.size + 1 + 1, 0, none⟩ (.int .u8 71)).setCell ⟨w.heap.size + 1 + 1, 1, none⟩ (.int .u8 (pid / 256))).setCell ⟨w.heap.size + 1 + 1, 2, none⟩ (.int .u8 (pid % 256)) = W1 at *
  have KB : Bk W1 73 (w.heap.size + 1 + 1) (enc3 pid false) := by
    unfold enc3
    rw [show pid / 256 + (if false = true then 64 else 0) = pid / 256 by simp]
    exact KB
  have XP : Bx W1 w.heap.size 28 #[.int .i64 pid, .int .i64 cnt, .bool false, .int .i64 clk, .slice A n c] := XP
  have KR : Bk W1 73 (w.heap.size + 1) z188 := KR
  clear f0 f1 f2 f3 f4 k0 k1 k2 k3 g0 g1 g2 g3 s1 s2 s3
  obtain ⟨f0, f1, f2, f3, f4⟩ := XP.cells5
  have k3 : W1.cell? ⟨w.heap.size + 1 + 1, 3, none⟩ = some (.int .u8 0) := by rw [KB.cell, enc3_at3]; rfl
  have g3 := KB.frozen 3
  have s1 := XP.lt
  have s2 := KR.lt
  have s3 := KB.lt
  have hct := ctlT_rng n
  have hcall := fun W => tr_control (n : Int) W
  obtain ⟨K, hK⟩ : ∃ K, K = ctlT (n : Int) := ⟨_, rfl⟩
  rw [← hK] at hct hcall
  have HK := Lib.hid hK
  have HC := Lib.hid hcall
  clear hK hcall
  have o1 : bits .or .u8 (K * 16) cnt = K * 16 + cnt := u8_or_low 4 K cnt 16 rfl (by omega) (by omega) (by omega) (by omega) (by omega)
  have o2 : IntKind.u8.wrap (K * 16) = K * 16 := u8_in (by omega) (by omega)
  have o3 : IntKind.u8.wrap cnt = cnt := u8_in (by omega) (by omega)
  have o4 : IntKind.u8.wrap (K * 16 + cnt) = K * 16 + cnt := u8_in (by omega) (by omega)
  have XP7 := XP.far (a := ⟨w.heap.size + 1 + 1, 3, none⟩) (by dsimp only; omega) (.int .u8 (K * 16 + cnt))
  have KPH := Lib.hid (show (W1.setCell ⟨w.heap.size + 1 + 1, 3, none⟩ (.int .u8 (K * 16 + cnt))).drew.cell? ⟨w.heap.size, 4, none⟩ = some (.slice A n c) ∧ (W1.setCell ⟨w.heap.size + 1 + 1, 3, none⟩ (.int .u8 (K * 16 + cnt))).drew.cell? ⟨w.heap.size, 1, none⟩ = some (.int .i64 cnt) from ⟨XP7.drew.cell 4 rfl, XP7.drew.cell 1 rfl⟩)
  go_region_held3 (fun w' => w'.cell? ⟨w.heap.size, 4, none⟩ = some (.slice A n c) ∧ w'.cell? ⟨w.heap.size, 1, none⟩ = some (.int .i64 cnt)) (first | exact KPH.out | exact ⟨f4, f1⟩ | go_keep)
    ((go_at_call 52; ((with_reducible refine (HC.out _).mono ?_); rintro e w' ⟨rfl, rfl⟩)))
  go_upto_region 9 with fail
  have KB := (KB.set_ 3 (K * 16 + cnt)).drew
  have XP := XP7.drew
  have KR := (KR.far (a := ⟨w.heap.size + 1 + 1, 3, none⟩) (by dsimp only; omega) (.int .u8 (K * 16 + cnt))).drew
  have B0 := (bset B0 ⟨w.heap.size + 1 + 1, 3, none⟩ (by dsimp only; omega) (.int .u8 (K * 16 + cnt))).drew
  clear f0 f1 f2 f3 f4 k3 g3 s1 s2 s3 KPH XP7 o1 o2 o3 o4 HC
  generalize (W1.setCell ⟨w.heap.size + 1 + 1, 3, none⟩ (.int .u8 (K * 16 + cnt))).drew = W2 at *
  have KB : Bk W2 73 (w.heap.size + 1 + 1) (enc4 pid cnt false n) := by
    unfold enc4
    rw [← HK.out]
    exact KB
  have XP : Bx W2 w.heap.size 28 #[.int .i64 pid, .int .i64 cnt, .bool false, .int .i64 clk, .slice A n c] := XP
  have KR : Bk W2 73 (w.heap.size + 1) z188 := KR
  obtain ⟨f0, f1, f2, f3, f4⟩ := XP.cells5
  have s1 := XP.lt
  have s2 := KR.lt
  have s3 := KB.lt
  have hl2 := (hl.mono (q := (· < w.heap.size)) (fun _ h _ => h)).below B0 (fun _ _ h => h)
  obtain ⟨D, hsa, hD⟩ := sub_arr (w.heap.size + 1 + 1) n (by omega)
  have HD := Lib.hid hD
  clear hD
  have hw1 : IntKind.i64.wrap (188 - (n : Int)) = 188 - (n : Int) := IntWalk.i64_in _ (by omega)
  have fit : 188 - n + n ≤ (enc4 pid cnt false n).length := by rw [enc4_len]; omega
  have nePB : some w.heap.size ≠ some (w.heap.size + 1 + 1) := by simp; omega
  have neRB : some (w.heap.size + 1) ≠ some (w.heap.size + 1 + 1) := by simp
  go_region_held3 (fun w' => w'.cell? ⟨w.heap.size, 4, none⟩ = some (.slice A n c)) (first | exact f4 | exact (XP.drew.grown hg5 nePB).cell 4 rfl | go_keep)
    ((refine step_copyB _ (by rfl) (.tmp 40) (.tmp 42) 22 (by rfl) 5 73 Try.underlying22 Try.infoB D n n A n c (by rfl) (by rfl) (w.heap.size + 1 + 1) (188 - n) _ KB.drew l hl2.drew HD.out fit ?_; intro w5 kb5 hg5))
  have XP := XP.drew.grown hg5 nePB
  have KR := KR.drew.grown hg5 neRB
  have B0 := B0.drew.grown hg5 (by have := B0.size; simp; omega) (fun k hk => by injection hk with hk; omega)
  have e5 : spl (enc4 pid cnt false n) (188 - n) (l.take n) = enc5 pid cnt false l n := by unfold enc5; rw [List.take_of_length_le (by rw [hl.len]; exact Nat.le_refl _)]
  rw [e5] at kb5
  clear KB f0 f1 f2 f3 f4 hl2 hsa HD fit e5 hw1 s1 s2 s3 hg5
  obtain ⟨f0, f1, f2, f3, f4⟩ := XP.cells5
  have s1 := XP.lt
  have s2 := KR.lt
  have s3 := kb5.lt
  go_upto_region 10 with fail
  by_cases h184 : n = 184
  · subst h184
    have L8 : (enc5 pid cnt false l 184).length = 188 := by unfold enc5; rw [spl_len (by rw [enc4_len, hl.len]; omega), enc4_len]
    go_wp2_with (first
      | (with_reducible refine wpList_ld188 rfl (.tmp 3) rfl (w.heap.size + 1 + 1) rfl kb5 L8 ?_)
      | (with_reducible refine wpList_st188 rfl (.tmp 2) (.tmp 46) rfl (w.heap.size + 1) _ rfl rfl KR z188_len L8 ?_))
    refine bodyPost_ret (results_row1 Try.results34 _ _ (w.heap.size + 1) _ rfl (Try.load188 (KR.row _) L8)) rfl ⟨?_, below_row B0 (by omega)⟩
    rw [show encL pid cnt false clk l 184 = enc5 pid cnt false l 184 by unfold encL; rw [if_pos rfl]]
  have hlen5 : (enc5 pid cnt false l n).length = 188 := by unfold enc5; rw [spl_len (by rw [enc4_len, hl.len]; omega), enc4_len]
  obtain ⟨k, hk⟩ : ∃ k : Nat, k = 183 - n := ⟨_, rfl⟩
  have eF : (188 : Int) - (n : Int) = (k : Int) + 5 := by omega
  rw [eF]
  have hkb : k ≤ 183 := by omega
  have HK5 := Lib.hid hk
  have HL5 := Lib.hid hlen5
  clear eF
  obtain ⟨x4, _, c4⟩ := kb5.cell_some (i := 4) (by omega)
  have g4 := kb5.frozen 4
  have H184 := Lib.hid h184
  clear hk hlen5 h184
  have w1 : (k : Int) % 256 = (k : Int) := by omega
  have hsb := sub_arr5 (w.heap.size + 1 + 1) k hkb
  have w2 : (k : Int) + 5 - 4 - 1 = (k : Int) := by omega
  have t5 : ((k : Int) + 5 == 4) = false := by simp; omega
  go_upto_region 14 with fail
  have KB := kb5.set_ 4 (k : Int)
  have XP := XP.far (a := ⟨w.heap.size + 1 + 1, 4, none⟩) (by dsimp only; omega) (.int .u8 (k : Int))
  have KR := KR.far (a := ⟨w.heap.size + 1 + 1, 4, none⟩) (by dsimp only; omega) (.int .u8 (k : Int))
  have B0 := bset B0 ⟨w.heap.size + 1 + 1, 4, none⟩ (by dsimp only; omega) (.int .u8 (k : Int))
  clear f0 f1 f2 f3 f4 c4 g4 s1 s2 s3 kb5 w1 w2 t5 hsb
  generalize w5.setCell ⟨w.heap.size + 1 + 1, 4, none⟩ (.int .u8 (k : Int)) = W6 at *
  obtain ⟨e6, he6⟩ : ∃ e6, e6 = (enc5 pid cnt false l n).set 4 (k : Int) := ⟨_, rfl⟩
  rw [← he6] at KB
  have he6l : e6.length = 188 := by rw [he6, List.length_set, HL5.out]
  have HE6 := Lib.hid he6
  have HE6L := Lib.hid he6l
  clear he6 he6l
  go_wp2_with fail
  go_loopw [56] (fun i wr => ∃ j : Nat, j ≤ k ∧ i = .int .i64 (j : Int) ∧ Bk wr 73 (w.heap.size + 1 + 1) (fillL e6 j) ∧ Bx wr w.heap.size 28 #[.int .i64 pid, .int .i64 cnt, .bool false, .int .i64 clk, .slice A n c] ∧ Bk wr 73 (w.heap.size + 1) z188 ∧ Below w.heap.size w wr) (fun i _ => k - (intOf i).toNat)
  case atStart => exact ⟨0, Nat.zero_le _, rfl, KB, XP, KR, B0⟩
  case round =>
    obtain ⟨j, hj, rfl, kj, xj, rj, bj⟩ := hrel
    clear KB XP KR B0
    by_cases hlt : j < k
    · obtain ⟨x5, _, c5⟩ := kj.cell_some (i := 5 + j) (by rw [fillL_len, HE6L.out]; omega)
      have g5 := kj.frozen (5 + j)
      have i0 : (0 : Int) ≤ (j : Int) := by omega
      have i1 : (j : Int) < (k : Int) := by omega
      go_wp2_with fail
      go_roundw
      case rel => exact ⟨j + 1, by omega, by go_num, kj.set_ (5 + j) 255, xj.far (by dsimp only; omega) _, rj.far (by dsimp only; omega) _, bset bj _ (by dsimp only; omega) _⟩
      case measure => (simp [intOf]; try omega)
    · have hjk : j = k := by omega
      subst hjk
      obtain ⟨f0, f1, f2, f3, f4⟩ := xj.cells5
      have s1 := xj.lt
      have s2 := rj.lt
      have s3 := kj.lt
      by_cases hck1 : clk = -1
      · have hcb : (clk != -1) = false := by simp [hck1]
        have HCK := Lib.hid hck1
        clear hck1
        by_cases hj0 : 0 < j
        · obtain ⟨x5, _, c5⟩ := kj.cell_some (i := 5) (by rw [fillL_len, HE6L.out]; omega)
          have g5 := kj.frozen 5
          have K8 := kj.set_ 5 0
          have R8 := rj.far (a := ⟨w.heap.size + 1 + 1, 5, none⟩) (by dsimp only; omega) (.int .u8 0)
          have B8 := bset bj ⟨w.heap.size + 1 + 1, 5, none⟩ (by dsimp only; omega) (.int .u8 0)
          have L8 : ((fillL e6 j).set 5 0).length = 188 := by rw [List.length_set, fillL_len, HE6L.out]
          go_wp2_with (first
            | (with_reducible refine wpList_ld188 rfl (.tmp 3) rfl (w.heap.size + 1 + 1) rfl K8 L8 ?_)
            | (with_reducible refine wpList_st188 rfl (.tmp 2) (.tmp 98) rfl (w.heap.size + 1) _ rfl rfl R8 z188_len L8 ?_))
          refine bodyPost_ret (results_row1 Try.results34 _ _ (w.heap.size + 1) _ rfl (Try.load188 (R8.row _) L8)) rfl ⟨?_, below_row B8 (by omega)⟩
          rw [show encL pid cnt false clk l n = (fillL e6 j).set 5 0 by unfold encL; rw [if_neg H184.out, if_pos HCK.out, ← HK5.out, ← HE6.out]; unfold enc8; rw [if_pos hj0]]
        · have L8 : (fillL e6 j).length = 188 := by rw [fillL_len, HE6L.out]
          go_wp2_with (first
            | (with_reducible refine wpList_ld188 rfl (.tmp 3) rfl (w.heap.size + 1 + 1) rfl kj L8 ?_)
            | (with_reducible refine wpList_st188 rfl (.tmp 2) (.tmp 98) rfl (w.heap.size + 1) _ rfl rfl rj z188_len L8 ?_))
          refine bodyPost_ret (results_row1 Try.results34 _ _ (w.heap.size + 1) _ rfl (Try.load188 (rj.row _) L8)) rfl ⟨?_, below_row bj (by omega)⟩
          rw [show encL pid cnt false clk l n = fillL e6 j by unfold encL; rw [if_neg H184.out, if_pos HCK.out, ← HK5.out, ← HE6.out]; unfold enc8; rw [if_neg hj0]]
      · have hcb : (clk != -1) = true := by simp [hck1]
        have hc0 : 0 ≤ clk := by omega
        have HCK := Lib.hid hck1
        have h176 : n ≤ 176 := hrm.resolve_left hck1
        have hj7 : 7 ≤ j := by have := HK5.out; omega
        have hj0 : 0 < j := by omega
        clear hck1 hrm
        obtain ⟨x5, _, c5⟩ := kj.cell_some (i := 5) (by rw [fillL_len, HE6L.out]; omega)
        have g5 := kj.frozen 5
        obtain ⟨X, hX⟩ : ∃ X, X = clk / 300 := ⟨_, rfl⟩
        obtain ⟨R, hR⟩ : ∃ R, R = clk % 300 := ⟨_, rfl⟩
        have bX : 0 ≤ X ∧ X < 8589934592 := by omega
        have bR : 0 ≤ R ∧ R < 300 := by omega
        have o1 : bits .or .u64 (X * 32768) 32256 = X * 32768 + 32256 := u64_or_low 15 X 32256 32768 rfl (by omega) (by omega) (by omega) (by omega)
        have o2 : bits .or .u64 (X * 32768 + 32256) R = X * 32768 + 32256 + R := by
          have := u64_or_low 9 (X * 64 + 63) R 512 rfl (by omega) (by omega) (by omega) (by omega)
          rwa [show (X * 64 + 63) * 512 = X * 32768 + 32256 by omega] at this
        have eX : clk / 300 = X := hX.symm
        have eR : clk % 300 = R := hR.symm
        have HX := Lib.hid hX
        have HR := Lib.hid hR
        clear hX hR
        go_upto_region 24 with fail
        have K7 := (kj.set_ 5 0).set_ 5 16
        have X7 := (xj.far (a := ⟨w.heap.size + 1 + 1, 5, none⟩) (by dsimp only; omega) (.int .u8 0)).far (a := ⟨w.heap.size + 1 + 1, 5, none⟩) (by dsimp only; omega) (.int .u8 16)
        have R7 := (rj.far (a := ⟨w.heap.size + 1 + 1, 5, none⟩) (by dsimp only; omega) (.int .u8 0)).far (a := ⟨w.heap.size + 1 + 1, 5, none⟩) (by dsimp only; omega) (.int .u8 16)
        have B7 := bset (bset bj ⟨w.heap.size + 1 + 1, 5, none⟩ (by dsimp only; omega) (.int .u8 0)) ⟨w.heap.size + 1 + 1, 5, none⟩ (by dsimp only; omega) (.int .u8 16)
        have e7 : ((fillL e6 j).set 5 0).set 5 16 = (enc8 e6 j).set 5 16 := by unfold enc8; rw [if_pos hj0]
        rw [e7] at K7
        clear f0 f1 f2 f3 f4 c5 g5 s1 s2 s3 o1 o2 eX eR e7 xj rj kj bj
        generalize (wr.setCell ⟨w.heap.size + 1 + 1, 5, none⟩ (.int .u8 0)).setCell ⟨w.heap.size + 1 + 1, 5, none⟩ (.int .u8 16) = W7 at *
        obtain ⟨m7, hm7⟩ : ∃ m7, m7 = (enc8 e6 j).set 5 16 := ⟨_, rfl⟩
        rw [← hm7] at K7
        have hm7l : m7.length = 188 := by rw [hm7, List.length_set, enc8_len, HE6L.out]
        obtain ⟨V, hV⟩ : ∃ V, V = X * 32768 + 32256 + R := ⟨_, rfl⟩
        rw [← hV]
        have bV : 0 ≤ V ∧ V < 281474976710656 := by omega
        have HV := Lib.hid hV
        have HM7 := Lib.hid hm7
        have HM7L := Lib.hid hm7l
        clear hV hm7 hm7l
        have s1 := X7.lt
        have s2 := R7.lt
        have s3 := K7.lt
        go_wp2_with fail
        go_loopw [84] (fun i wr => ∃ i' : Nat, i' ≤ 6 ∧ i = .int .i64 (i' : Int) ∧ Bk wr 73 (w.heap.size + 1 + 1) (clkL m7 V i') ∧ Bk wr 73 (w.heap.size + 1) z188 ∧ Below w.heap.size w wr) (fun i _ => 6 - (intOf i).toNat)
        case atStart => exact ⟨0, by omega, rfl, K7, R7, B7⟩
        case round =>
          obtain ⟨i, hi, rfl, ki, ri, bi⟩ := hrel
          clear K7 X7 R7 B7
          have L8 : (clkL m7 V i).length = 188 := by rw [clkL_len, HM7L.out]
          have s2 := ri.lt
          have s3 := ki.lt
          by_cases hlt : i < 6
          · obtain ⟨x5, _, c5⟩ := ki.cell_some (i := 5 + (1 + i)) (by omega)
            have g5 := ki.frozen (5 + (1 + i))
            have i0 : (0 : Int) ≤ (i : Int) := by omega
            have i1 : 1 + (i : Int) < (j : Int) := by omega
            go_wp2_with fail
            go_roundw
            case rel => exact ⟨i + 1, by omega, by go_num, clk_next hlt ki, ri.far (by dsimp only; omega) _, bset bi _ (by dsimp only; omega) _⟩
            case measure => (simp [intOf]; try omega)
          · have hi6 : i = 6 := by omega
            subst hi6
            go_wp2_with (first
              | (with_reducible refine wpList_ld188 rfl (.tmp 3) rfl (w.heap.size + 1 + 1) rfl ki L8 ?_)
              | (with_reducible refine wpList_st188 rfl (.tmp 2) (.tmp 98) rfl (w.heap.size + 1) _ rfl rfl ri z188_len L8 ?_))
            refine bodyPost_ret (results_row1 Try.results34 _ _ (w.heap.size + 1) _ rfl (Try.load188 (ri.row _) L8)) rfl ⟨?_, below_row bi (by omega)⟩
            rw [show encL pid cnt false clk l n = clkL m7 V 6 by unfold encL; rw [if_neg H184.out, if_neg HCK.out, ← HK5.out, ← HE6.out, ← HM7.out]; unfold clkV; rw [← HX.out, ← HR.out, ← HV.out]]

end Go.Proofs.Ytdnchjmopkhnaaa
