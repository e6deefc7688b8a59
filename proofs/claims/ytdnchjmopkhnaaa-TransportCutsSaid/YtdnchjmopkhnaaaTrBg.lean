/- begins of both. -/
import Derived.Test.YtdnchjmopkhnaaaTrScM
import Derived.Test.YtdnchjmopkhnaaaTrRk
namespace Go.Proofs.Ytdnchjmopkhnaaa
open Go.RowKit

/-- What the program's begins returns. -/
def BgR (l : List Int) (b off n j : Nat) (pid cnt : Int) (st : Bool) (clk : Int) (A' : Option Addr) (n' : Nat) : Bool → Prop
  | true => ∃ pl, begF l j = some ⟨pid, cnt, st, clk, pl⟩ ∧ pl.length = n' ∧ ∀ (q : Nat → Prop) (W : World), Byt q W (some ⟨b, off, none⟩) n l → Byt q W A' n' pl
  | false => begF l j = none
def RetBg (w : World) (b off n j : Nat) (l : List Int) (e : Ending) (w' : World) : Prop :=
  ∃ pid cnt st clk A' n' c' ok, e = .returned (.tuple #[.agg #[.int .i64 pid, .int .i64 cnt, .bool st, .int .i64 clk, .slice A' n' c'], .bool ok]) ∧ BgR l b off n j pid cnt st clk A' n' ok ∧ Below w.heap.size w w'
def RetRg (w : World) (j : Nat) (l : List Int) (e : Ending) (w' : World) : Prop :=
  ∃ pid cnt st clk A n c pl ok, e = .returned (.tuple #[.agg #[.int .i64 pid, .int .i64 cnt, .bool st, .int .i64 clk, .slice A n c], .bool ok]) ∧ Byt (w.heap.size ≤ ·) w' A n pl ∧ Below w.heap.size w w' ∧ begF l j = (if ok then some ⟨pid, cnt, st, clk, pl⟩ else none)

set_option maxRecDepth 100000 in
theorem sub_188 (b off n c j : Nat) (h : j + 188 ≤ c) :
    ∀ w, (Instr.slice 22 (.slice (some ⟨b, off, none⟩) n c) (some (.int .i64 (j : Int))) (some (.int .i64 ((j : Int) + 188))) none).run Try.prog w = .ok (.slice (some ⟨b, off + j, none⟩) 188 (c - j)) w := by
  intro w
  have hsz : ∀ w, (sizeOf 5).run Try.prog w = .ok 1 w := fun _ => by kernel_rfl
  rw [run_slice_lh (P := Try.prog) w 22 (some ⟨b, off, none⟩) n c Try.underlying22 .i64 .i64 (j : Int) ((j : Int) + 188) (by omega) (by omega) (by omega)]
  have hz := hsz w
  show ((sizeOf 5).run Try.prog w).andThen _ = _
  rw [hz]
  simp only [Result.andThen, sliced]
  rw [if_neg (by omega)]
  simp [Addr.add]
  omega

set_option maxRecDepth 100000 in
set_option maxHeartbeats 2000000 in
theorem tr_begins_no {q : Nat → Prop} (b off n c j : Nat) (l : List Int) (w : World) (hl : Byt q w (some ⟨b, off, none⟩) n l) (hj : j < n) (hn : n ≤ 5000) (hno : n < j + 188 ∨ j + 188 < n ∧ l[j + 188]? ≠ some 71) :
    Calls Try.prog 41 #[.slice (some ⟨b, off, none⟩) n c, .int .i64 (j : Int)] w (RetBg w b off n j l) := by
  have hbg : begF l j = none := by
    unfold begF
    rw [if_neg]
    rw [hl.len]
    rintro ⟨h1, h2⟩
    rcases hno with h3 | ⟨h3, h4⟩
    · omega
    · rcases h2 with h2 | h2
      · omega
      · exact h4 h2
  have HBG := Lib.hid hbg
  have hbl : b < w.heap.size := (hl.cellsAt (by omega)).1
  have e0 : w.heap.size ≠ b := by omega
  rcases hno with h1 | ⟨h1, h2⟩
  · have t1 : decide ((n : Int) < (j : Int) + 188) = true := by simp; omega
    clear hbg hl
    go_enter Try.func41, Try.ntmps41
    go_wp2_with fail
    refine bodyPost_ret (v := .tuple #[.agg #[.int .i64 0, .int .i64 0, .bool false, .int .i64 0, .slice none 0 0], .bool false]) (by simp [results, Try.results41, go_sem]) rfl ⟨0, 0, false, 0, none, 0, 0, false, rfl, HBG.out, (Below.refl _ w).alloc (Nat.le_refl _) _⟩
  · have t1 : decide ((n : Int) < (j : Int) + 188) = false := by simp; omega
    have t2 : decide ((j : Int) + 188 < (n : Int)) = true := by simp; omega
    obtain ⟨b', off', x, hA, _, _, hx, hx0, hx1, hc⟩ := hl.at_ h1
    injection hA with hA
    injection hA with hA1 hA2
    subst hA1 hA2
    have hx71 : (x != 71) = true := by
      rw [hx] at h2
      simpa using h2
    have i1 : (0 : Int) ≤ (j : Int) + 188 := by omega
    have i2 : (j : Int) + 188 < (n : Int) := by omega
    have hcc : w.cell? ⟨b, off + ((j : Int) + 188).toNat, none⟩ = some (.int .u8 x) := by
      rw [show ((j : Int) + 188).toNat = j + 188 by omega]
      exact hc
    clear hbg hl hx h2
    go_enter Try.func41, Try.ntmps41
    go_wp2_with fail
    refine bodyPost_ret (v := .tuple #[.agg #[.int .i64 0, .int .i64 0, .bool false, .int .i64 0, .slice none 0 0], .bool false]) (by simp [results, Try.results41, go_sem]) rfl ⟨0, 0, false, 0, none, 0, 0, false, rfl, HBG.out, (Below.refl _ w).alloc (Nat.le_refl _) _⟩

set_option maxRecDepth 100000 in
set_option maxHeartbeats 2000000 in
theorem tr_begins_yes {q : Nat → Prop} (b off n c j : Nat) (l : List Int) (w : World) (hl : Byt q w (some ⟨b, off, none⟩) n l) (hc : n ≤ c) (hn : n ≤ 5000) (hy : j + 188 ≤ n) (hy2 : j + 188 = n ∨ l[j + 188]? = some 71) :
    Calls Try.prog 41 #[.slice (some ⟨b, off, none⟩) n c, .int .i64 (j : Int)] w (RetBg w b off n j l) := by
  have hbg : begF l j = decF ((l.drop j).take 188) := by
    unfold begF
    rw [if_pos (by rw [hl.len]; exact ⟨hy, hy2⟩)]
  have HBG := Lib.hid hbg
  have hbl : b < w.heap.size := (hl.cellsAt (by omega)).1
  have e0 : w.heap.size ≠ b := by omega
  have t1 : decide ((n : Int) < (j : Int) + 188) = false := by simp; omega
  have hs188 := sub_188 b off n c j (by omega)
  have xa : Bx (w.alloc (.cells #[.int .i64 0, .int .i64 0, .bool false, .int .i64 0, .slice none 0 0] 28)) w.heap.size 28 #[.int .i64 0, .int .i64 0, .bool false, .int .i64 0, .slice none 0 0] := Bx.new _ _ _
  have hsub := Byt.sub (k := j) (m := 188) (hl.alloc (.cells #[.int .i64 0, .int .i64 0, .bool false, .int .i64 0, .slice none 0 0] 28)) (by omega)
  have HSUB := Lib.hid hsub
  have hbytes : ∀ (q : Nat → Prop) (W : World), Byt q W (some ⟨b, off, none⟩) n l → Byt q W (some ⟨b, off + j, none⟩) 188 ((l.drop j).take 188) := fun q W h => Byt.sub h (by omega)
  have HBY := Lib.hid hbytes
  have B0 : Below w.heap.size w (w.alloc (.cells #[.int .i64 0, .int .i64 0, .bool false, .int .i64 0, .slice none 0 0] 28)) := (Below.refl _ w).alloc (Nat.le_refl _) _
  have b0 : (0 : Int) ≤ (j : Int) := by omega
  have b1 : (j : Int) ≤ (j : Int) + 188 := by omega
  have b2 : (j : Int) + 188 ≤ (c : Int) := by omega
  have key : ∀ W, W = w.alloc (.cells #[.int .i64 0, .int .i64 0, .bool false, .int .i64 0, .slice none 0 0] 28) → Calls Try.prog 39 #[.slice (some ⟨b, off + j, none⟩) 188 (c - j)] W (RetD W b (off + j) ((l.drop j).take 188)) := fun W h => by
    subst h
    exact tr_decode b (off + j) (c - j) _ _ (by omega) HSUB.out
  have KEY := Lib.hid key
  have fin : ∀ (pid cnt : Int) (st : Bool) (clk : Int) (A' : Option Addr) (n' : Nat) (ok : Bool), DecR ((l.drop j).take 188) b (off + j) pid cnt st clk A' n' ok → BgR l b off n j pid cnt st clk A' n' ok := by
    intro pid cnt st clk A' n' ok h
    cases ok with
    | false =>
      show begF l j = none
      rw [HBG.out]
      exact decF_none h
    | true =>
      obtain ⟨pl, hv, hp, hpl, hb⟩ := h
      subst hpl
      refine ⟨pl, ?_, rfl, fun q W hW => hb q W (HBY.out q W hW)⟩
      rw [HBG.out]
      exact decF_some (p := ⟨pid, cnt, st, clk, pl⟩) hv hp
  have FIN := Lib.hid fin
  have go : ∀ (W : World) (ok : Bool) (pid cnt : Int) (st : Bool) (clk : Int) (A' : Option Addr) (n' c' : Nat), True := fun _ _ _ _ _ _ _ _ _ => trivial
  clear hbg hsub hbytes key fin go
  rcases hy2 with h2 | h2
  · have t2 : decide ((j : Int) + 188 < (n : Int)) = false := by simp; omega
    clear hl h2
    go_enter Try.func41, Try.ntmps41
    go_wp2_with fail
    refine (KEY.out _ rfl).mono ?_
    rintro e w1 ⟨pid, cnt, st, clk, A', n', c', ok, rfl, hD, hb1⟩
    have xa1 := xa.ext hb1
    obtain ⟨d0, d1, d2, d3, d4⟩ := xa1.cells5
    have q0 := xa1.frozen 0
    have q1 := xa1.frozen 1
    have q2 := xa1.frozen 2
    have q3 := xa1.frozen 3
    have q4 := xa1.frozen 4
    have s0 := xa1.lt
    have B1 := B0.trans (hb1.mono B0.size)
    have HD := Lib.hid hD
    clear hD hb1 xa B0
    go_wp2_with fail
    refine bodyPost_ret (v := .tuple #[.agg #[.int .i64 pid, .int .i64 cnt, .bool st, .int .i64 clk, .slice A' n' c'], .bool ok]) (by simp [results, Try.results41, go_sem, d0, d1, d2, d3, d4, s0]) rfl ⟨pid, cnt, st, clk, A', n', c', ok, rfl, FIN.out _ _ _ _ _ _ _ HD.out, bset5 B1 (Nat.le_refl _) _ _ _ _ _⟩
  · have h1 : j + 188 < n := by
      have := (List.getElem?_eq_some_iff.1 h2).1
      rw [hl.len] at this
      exact this
    have t2 : decide ((j : Int) + 188 < (n : Int)) = true := by simp; omega
    obtain ⟨b', off', x, hA, _, _, hx, hx0, hx1, hcx⟩ := hl.at_ h1
    injection hA with hA
    injection hA with hA1 hA2
    subst hA1 hA2
    have hx71 : x = 71 := by
      rw [hx] at h2
      injection h2
    subst hx71
    have i1 : (0 : Int) ≤ (j : Int) + 188 := by omega
    have i2 : (j : Int) + 188 < (n : Int) := by omega
    have hcc : w.cell? ⟨b, off + ((j : Int) + 188).toNat, none⟩ = some (.int .u8 71) := by
      rw [show ((j : Int) + 188).toNat = j + 188 by omega]
      exact hcx
    clear hl hx h2
    go_enter Try.func41, Try.ntmps41
    go_wp2_with fail
    refine (KEY.out _ rfl).mono ?_
    rintro e w1 ⟨pid, cnt, st, clk, A', n', c', ok, rfl, hD, hb1⟩
    have xa1 := xa.ext hb1
    obtain ⟨d0, d1, d2, d3, d4⟩ := xa1.cells5
    have q0 := xa1.frozen 0
    have q1 := xa1.frozen 1
    have q2 := xa1.frozen 2
    have q3 := xa1.frozen 3
    have q4 := xa1.frozen 4
    have s0 := xa1.lt
    have B1 := B0.trans (hb1.mono B0.size)
    have HD := Lib.hid hD
    clear hD hb1 xa B0
    go_wp2_with fail
    refine bodyPost_ret (v := .tuple #[.agg #[.int .i64 pid, .int .i64 cnt, .bool st, .int .i64 clk, .slice A' n' c'], .bool ok]) (by simp [results, Try.results41, go_sem, d0, d1, d2, d3, d4, s0]) rfl ⟨pid, cnt, st, clk, A', n', c', ok, rfl, FIN.out _ _ _ _ _ _ _ HD.out, bset5 B1 (Nat.le_refl _) _ _ _ _ _⟩
theorem tr_begins {q : Nat → Prop} (b off n c j : Nat) (l : List Int) (w : World) (hl : Byt q w (some ⟨b, off, none⟩) n l) (hc : n ≤ c) (hj : j < n) (hn : n ≤ 5000) :
    Calls Try.prog 41 #[.slice (some ⟨b, off, none⟩) n c, .int .i64 (j : Int)] w (RetBg w b off n j l) := by
  by_cases h1 : n < j + 188
  · exact tr_begins_no b off n c j l w hl hj hn (.inl h1)
  · by_cases h2 : j + 188 = n ∨ l[j + 188]? = some 71
    · exact tr_begins_yes b off n c j l w hl hc hn (by omega) h2
    · exact tr_begins_no b off n c j l w hl hj hn (.inr ⟨by omega, fun h => h2 (.inr h)⟩)
set_option maxRecDepth 100000 in
set_option maxHeartbeats 2000000 in
theorem ref_begins_no {q : Nat → Prop} (b off n c j : Nat) (l : List Int) (w : World) (hl : Byt q w (some ⟨b, off, none⟩) n l) (hj : j < n) (hn : n ≤ 5000) (hno : n < j + 188 ∨ j + 188 < n ∧ l[j + 188]? ≠ some 71) :
    Calls Try.prog 42 #[.slice (some ⟨b, off, none⟩) n c, .int .i64 (j : Int)] w (RetRg w j l) := by
  have hbg : begF l j = none := by
    unfold begF
    rw [if_neg]
    rw [hl.len]
    rintro ⟨h1, h2⟩
    rcases hno with h3 | ⟨h3, h4⟩
    · omega
    · rcases h2 with h2 | h2
      · omega
      · exact h4 h2
  have HBG : Hid (begF l j = (if false = true then some ⟨0, 0, false, 0, []⟩ else none)) := Lib.hid (by simpa using hbg)
  have hbl : b < w.heap.size := (hl.cellsAt (by omega)).1
  have e0 : w.heap.size ≠ b := by omega
  rcases hno with h1 | ⟨h1, h2⟩
  · have t1 : decide ((n : Int) < (j : Int) + 188) = true := by simp; omega
    clear hbg hl
    go_enter Try.func42, Try.ntmps42
    go_wp2_with fail
    refine bodyPost_ret (v := .tuple #[.agg #[.int .i64 0, .int .i64 0, .bool false, .int .i64 0, .slice none 0 0], .bool false]) (by simp [results, Try.results42, go_sem]) rfl ⟨0, 0, false, 0, none, 0, 0, [], false, rfl, Byt.nil, (Below.refl _ w).alloc (Nat.le_refl _) _, HBG.out⟩
  · have t1 : decide ((n : Int) < (j : Int) + 188) = false := by simp; omega
    have t2 : decide ((j : Int) + 188 < (n : Int)) = true := by simp; omega
    obtain ⟨b', off', x, hA, _, _, hx, hx0, hx1, hc⟩ := hl.at_ h1
    injection hA with hA
    injection hA with hA1 hA2
    subst hA1 hA2
    have hx71 : (x != 71) = true := by
      rw [hx] at h2
      simpa using h2
    have i1 : (0 : Int) ≤ (j : Int) + 188 := by omega
    have i2 : (j : Int) + 188 < (n : Int) := by omega
    clear hbg hl hx h2
    go_enter Try.func42, Try.ntmps42
    go_wp2_with fail
    refine bodyPost_ret (v := .tuple #[.agg #[.int .i64 0, .int .i64 0, .bool false, .int .i64 0, .slice none 0 0], .bool false]) (by simp [results, Try.results42, go_sem]) rfl ⟨0, 0, false, 0, none, 0, 0, [], false, rfl, Byt.nil, (Below.refl _ w).alloc (Nat.le_refl _) _, HBG.out⟩

set_option maxRecDepth 100000 in
set_option maxHeartbeats 2000000 in
theorem ref_begins_yes {q : Nat → Prop} (b off n c j : Nat) (l : List Int) (w : World) (hl : Byt q w (some ⟨b, off, none⟩) n l) (hc : n ≤ c) (hn : n ≤ 5000) (hy : j + 188 ≤ n) (hy2 : j + 188 = n ∨ l[j + 188]? = some 71) :
    Calls Try.prog 42 #[.slice (some ⟨b, off, none⟩) n c, .int .i64 (j : Int)] w (RetRg w j l) := by
  have hbg : begF l j = decF ((l.drop j).take 188) := by
    unfold begF
    rw [if_pos (by rw [hl.len]; exact ⟨hy, hy2⟩)]
  have HBG := Lib.hid hbg
  have hbl : b < w.heap.size := (hl.cellsAt (by omega)).1
  have e0 : w.heap.size ≠ b := by omega
  have t1 : decide ((n : Int) < (j : Int) + 188) = false := by simp; omega
  have hs188 := sub_188 b off n c j (by omega)
  have xa : Bx (w.alloc (.cells #[.int .i64 0, .int .i64 0, .bool false, .int .i64 0, .slice none 0 0] 24)) w.heap.size 24 #[.int .i64 0, .int .i64 0, .bool false, .int .i64 0, .slice none 0 0] := Bx.new _ _ _
  have hsub := Byt.sub (k := j) (m := 188) (hl.alloc (.cells #[.int .i64 0, .int .i64 0, .bool false, .int .i64 0, .slice none 0 0] 24)) (by omega)
  have HSUB := Lib.hid hsub
  have B0 : Below w.heap.size w (w.alloc (.cells #[.int .i64 0, .int .i64 0, .bool false, .int .i64 0, .slice none 0 0] 24)) := (Below.refl _ w).alloc (Nat.le_refl _) _
  have b0 : (0 : Int) ≤ (j : Int) := by omega
  have b1 : (j : Int) ≤ (j : Int) + 188 := by omega
  have b2 : (j : Int) + 188 ≤ (c : Int) := by omega
  have key : ∀ W, W = w.alloc (.cells #[.int .i64 0, .int .i64 0, .bool false, .int .i64 0, .slice none 0 0] 24) → Calls Try.prog 18 #[.slice (some ⟨b, off + j, none⟩) 188 (c - j)] W (RetK W ((l.drop j).take 188)) := fun W h => by
    subst h
    exact ref_TTake (some ⟨b, off + j, none⟩) 188 (c - j) _ _ HSUB.out (by omega)
  have KEY := Lib.hid key
  have fin : ∀ (pid cnt : Int) (st : Bool) (clk : Int) (pl : List Int) (code : Int), TakS ((l.drop j).take 188) pid cnt st clk pl code → begF l j = (if (code == 0) = true then some ⟨pid, cnt, st, clk, pl⟩ else none) := by
    rintro pid cnt st clk pl code (⟨rfl, hv, hp⟩ | ⟨hne, _, hno, _⟩)
    · rw [HBG.out]
      exact decF_some (p := ⟨pid, cnt, st, clk, pl⟩) hv hp
    · rw [HBG.out, if_neg (by simpa using hne)]
      exact decF_none hno
  have FIN := Lib.hid fin
  clear hbg hsub key fin
  rcases hy2 with h2 | h2
  · have t2 : decide ((j : Int) + 188 < (n : Int)) = false := by simp; omega
    clear hl h2
    go_enter Try.func42, Try.ntmps42
    go_wp2_with fail
    refine (KEY.out _ rfl).mono ?_
    rintro e w1 ⟨pid, cnt, st, clk, A1, n1, c1, pl, code, rfl, hB1, hb1, hT⟩
    have xa1 := xa.ext hb1
    have B1 := B0.trans (hb1.mono B0.size)
    have HT := Lib.hid (FIN.out _ _ _ _ _ _ hT)
    have HB1 := Lib.hid hB1
    clear hT hB1 xa
    go_upto_region 4 with fail
    have xa2 := xa1.alloc (.cells #[.int .i64 pid, .int .i64 cnt, .bool st, .int .i64 clk, .slice A1 n1 c1] 24)
    have xb2 := Bx.new w1 24 #[.int .i64 pid, .int .i64 cnt, .bool st, .int .i64 clk, .slice A1 n1 c1]
    have B2 := B1.alloc B1.size (.cells #[.int .i64 pid, .int .i64 cnt, .bool st, .int .i64 clk, .slice A1 n1 c1] 24)
    have HB2 := Lib.hid (HB1.out.alloc (.cells #[.int .i64 pid, .int .i64 cnt, .bool st, .int .i64 clk, .slice A1 n1 c1] 24))
    have z0 := B0.size
    have z1 : w.heap.size < w1.heap.size := xa1.lt
    have z2 : w.heap.size + 1 ≤ (w.alloc (.cells #[.int .i64 0, .int .i64 0, .bool false, .int .i64 0, .slice none 0 0] 24)).heap.size := by simp
    generalize w1.alloc (.cells #[.int .i64 pid, .int .i64 cnt, .bool st, .int .i64 clk, .slice A1 n1 c1] 24) = w2 at *
    obtain ⟨d0, d1, d2, d3, d4⟩ := xa2.cells5
    have q0 := xa2.frozen 0
    have q1 := xa2.frozen 1
    have q2 := xa2.frozen 2
    have q3 := xa2.frozen 3
    have q4 := xa2.frozen 4
    have s0 := xa2.lt
    obtain ⟨g0, g1, g2, g3, g4⟩ := xb2.cells5
    have s1 := xb2.lt
    clear B0 B1 xa1 hb1
    go_wp2_with fail
    refine bodyPost_ret (v := .tuple #[.agg #[.int .i64 pid, .int .i64 cnt, .bool st, .int .i64 clk, .slice A1 n1 c1], .bool (code == 0)]) (by simp [results, Try.results42, go_sem, d0, d1, d2, d3, d4, s0]) rfl ⟨pid, cnt, st, clk, A1, n1, c1, pl, code == 0, rfl, ?_, bset5 B2 (Nat.le_refl _) _ _ _ _ _, HT.out⟩
    refine Byt.mono (p := fun b => (w.alloc (.cells #[.int .i64 0, .int .i64 0, .bool false, .int .i64 0, .slice none 0 0] 24)).heap.size ≤ b) ?_ (fun b _ h => by omega)
    repeat refine Byt.setCell ?_ (by dsimp only; omega) _
    exact HB2.out
  · have h1 : j + 188 < n := by
      have := (List.getElem?_eq_some_iff.1 h2).1
      rw [hl.len] at this
      exact this
    have t2 : decide ((j : Int) + 188 < (n : Int)) = true := by simp; omega
    obtain ⟨b', off', x, hA, _, _, hx, hx0, hx1, hcx⟩ := hl.at_ h1
    injection hA with hA
    injection hA with hA1 hA2
    subst hA1 hA2
    have hx71 : x = 71 := by
      rw [hx] at h2
      injection h2
    subst hx71
    have i1 : (0 : Int) ≤ (j : Int) + 188 := by omega
    have i2 : (j : Int) + 188 < (n : Int) := by omega
    clear hl hx h2
    go_enter Try.func42, Try.ntmps42
    go_wp2_with fail
    refine (KEY.out _ rfl).mono ?_
    rintro e w1 ⟨pid, cnt, st, clk, A1, n1, c1, pl, code, rfl, hB1, hb1, hT⟩
    have xa1 := xa.ext hb1
    have B1 := B0.trans (hb1.mono B0.size)
    have HT := Lib.hid (FIN.out _ _ _ _ _ _ hT)
    have HB1 := Lib.hid hB1
    clear hT hB1 xa
    go_upto_region 4 with fail
    have xa2 := xa1.alloc (.cells #[.int .i64 pid, .int .i64 cnt, .bool st, .int .i64 clk, .slice A1 n1 c1] 24)
    have xb2 := Bx.new w1 24 #[.int .i64 pid, .int .i64 cnt, .bool st, .int .i64 clk, .slice A1 n1 c1]
    have B2 := B1.alloc B1.size (.cells #[.int .i64 pid, .int .i64 cnt, .bool st, .int .i64 clk, .slice A1 n1 c1] 24)
    have HB2 := Lib.hid (HB1.out.alloc (.cells #[.int .i64 pid, .int .i64 cnt, .bool st, .int .i64 clk, .slice A1 n1 c1] 24))
    have z0 := B0.size
    have z1 : w.heap.size < w1.heap.size := xa1.lt
    have z2 : w.heap.size + 1 ≤ (w.alloc (.cells #[.int .i64 0, .int .i64 0, .bool false, .int .i64 0, .slice none 0 0] 24)).heap.size := by simp
    generalize w1.alloc (.cells #[.int .i64 pid, .int .i64 cnt, .bool st, .int .i64 clk, .slice A1 n1 c1] 24) = w2 at *
    obtain ⟨d0, d1, d2, d3, d4⟩ := xa2.cells5
    have q0 := xa2.frozen 0
    have q1 := xa2.frozen 1
    have q2 := xa2.frozen 2
    have q3 := xa2.frozen 3
    have q4 := xa2.frozen 4
    have s0 := xa2.lt
    obtain ⟨g0, g1, g2, g3, g4⟩ := xb2.cells5
    have s1 := xb2.lt
    clear B0 B1 xa1 hb1
    go_wp2_with fail
    refine bodyPost_ret (v := .tuple #[.agg #[.int .i64 pid, .int .i64 cnt, .bool st, .int .i64 clk, .slice A1 n1 c1], .bool (code == 0)]) (by simp [results, Try.results42, go_sem, d0, d1, d2, d3, d4, s0]) rfl ⟨pid, cnt, st, clk, A1, n1, c1, pl, code == 0, rfl, ?_, bset5 B2 (Nat.le_refl _) _ _ _ _ _, HT.out⟩
    refine Byt.mono (p := fun b => (w.alloc (.cells #[.int .i64 0, .int .i64 0, .bool false, .int .i64 0, .slice none 0 0] 24)).heap.size ≤ b) ?_ (fun b _ h => by omega)
    repeat refine Byt.setCell ?_ (by dsimp only; omega) _
    exact HB2.out
theorem ref_begins {q : Nat → Prop} (b off n c j : Nat) (l : List Int) (w : World) (hl : Byt q w (some ⟨b, off, none⟩) n l) (hc : n ≤ c) (hj : j < n) (hn : n ≤ 5000) :
    Calls Try.prog 42 #[.slice (some ⟨b, off, none⟩) n c, .int .i64 (j : Int)] w (RetRg w j l) := by
  by_cases h1 : n < j + 188
  · exact ref_begins_no b off n c j l w hl hj hn (.inl h1)
  · by_cases h2 : j + 188 = n ∨ l[j + 188]? = some 71
    · exact ref_begins_yes b off n c j l w hl hc hn (by omega) h2
    · exact ref_begins_no b off n c j l w hl hj hn (.inr ⟨by omega, fun h => h2 (.inr h)⟩)
end Go.Proofs.Ytdnchjmopkhnaaa
