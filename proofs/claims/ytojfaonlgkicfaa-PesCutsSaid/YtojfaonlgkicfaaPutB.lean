/- pes.Put at every packet. -/
import Derived.Test.YtojfaonlgkicfaaPutR
namespace Go.Proofs.Ytojfaonlgkicfaa
open Go.RowKit

set_option maxRecDepth 4000 in
set_option maxHeartbeats 1000000 in
theorem pes_Put_none {q : Nat → Prop} (s : Int) (A : Option Addr) (n c : Nat) (l : List Int) (w : World) (hl : Byt q w A n l) (hs : 192 ≤ s ∧ s ≤ 239) (hn : n + 3 ≤ 65535) :
    Calls Try.prog 20 #[.agg #[.int .i64 s, .int .i64 (-1), .int .i64 (-1), .slice A n c]] w fun e w' => ∃ A' n' c', e = .returned (.tuple #[.slice A' n' c', .int .i64 0]) ∧ Byt (w.heap.size ≤ ·) w' A' n' ([0, 0, 1, s, (3 + (n : Int)) / 256, (3 + (n : Int)) % 256, 128, 0, 0] ++ l) ∧ Below w.heap.size w w' := by
  have hv : validP s (-1) (-1) = true := by simp [validP]; omega
  have hst : stampsP (-1) (-1) = (0, 0) := by unfold stampsP; rw [if_neg (by simp), if_neg (by simp)]
  have hmk : ∀ w : World, (Instr.makeSlice 27 (.int .i64 0) (.int .i64 (6 + (3 + (n : Int))))).run Try.prog w = .ok (.slice (some ⟨w.heap.size, 0, none⟩) 0 (n + 9)) (w.alloc (zeroB 5 (n + 9))) := by
    intro w
    rw [run_mkB (P := Try.prog) Try.underlying27 Try.infoB 0 _ (by omega) (by omega) (by omega) w, show (6 + (3 + (n : Int))).toNat = n + 9 by omega]
    rfl
  go_enter Try.func20, Try.ntmps20
  go_wp2_with fail
  refine (pes_valid s (-1) (-1) _ _).mono ?_
  rintro e w1 ⟨rfl, hb1⟩
  rw [hv]
  have x1 := (Bx.new w 30 #[.int .i64 s, .int .i64 (-1), .int .i64 (-1), .slice A n c]).ext hb1
  obtain ⟨f0, f1, f2, f3⟩ := x1.cells4
  have s1 := x1.lt
  go_wp2_with fail
  refine (pes_stamps s (-1) (-1) _ _).mono ?_
  rintro e w2 ⟨rfl, hb2⟩
  rw [hst]
  have x2 := x1.ext hb2
  obtain ⟨g0, g1, g2, g3⟩ := x2.cells4
  have s2 := x2.lt
  have lw2 := ((hl.alloc _).ext hb1).ext hb2
  clear f0 f1 f2 f3
  have lw2 := lw2.mono (q := (· < w2.heap.size)) (fun b h _ => h)
  have rngs := hl.rng
  have lens := hl.len
  have HRN := Lib.hid rngs
  clear rngs hl
  dsimp only
  have tok : True := trivial
  go_wp2_with (first
    | (at_builtin; have _t := tok; go_loud (refine wpList_appB _ rfl (.tmp 27) (.tmp 39) 27 rfl 5 Try.underlying27 Try.infoB w2.heap.size _ _ rfl ((OwB.made w2 w2.heap.size 5 (n + 9) (Nat.le_refl _) (by omega)).alloc _) _ 9 9 [0, 0, 1, s, (3 + (n : Int)) / 256, (3 + (n : Int)) % 256, 128, 0, 0] rfl (Byt.lit' _ 5 _ (by intro x hx; simp only [List.mem_cons, List.not_mem_nil, or_false] at hx; omega) rfl (by simp)) (by simp) (by simp; omega) ?_; intro v3 w3 hown3 hg3 hat3; have HB3 : Below w2.heap.size w2 w3 := ((((Below.refl _ _).alloc (Nat.le_refl _) _).alloc (by simp) _).grown hg3 (by simp; omega) (fun k hk => ((OwB.made w2 w2.heap.size 5 (n + 9) (Nat.le_refl _) (by omega)).lt k hk).1)); have x3 := x2.ext HB3; obtain ⟨i0, i1, i2, i3⟩ := x3.cells4; have s3 := x3.lt; have z3 := HB3.size; have lw3 := lw2.ext HB3; clear tok))
    | (at_builtin; go_loud (refine wpList_appB _ rfl (.tmp 58) (.tmp 60) 27 rfl 5 Try.underlying27 Try.infoB w2.heap.size v3 _ rfl hown3 A n c l rfl lw3 (by simp [stampL]; omega) (by omega) ?_; intro v5 w5 hown5 hg5 hat5)))
  obtain ⟨A5, c5, rfl, hB5⟩ := hown5.ret (p := (w.heap.size ≤ ·)) (fun _ h => by omega) (by
    intro x hx
    rcases List.mem_append.1 hx with hx | hx
    · simp only [List.nil_append, List.mem_cons, List.not_mem_nil, or_false] at hx; omega
    · exact HRN.out x hx)
  go_ret2
  refine ⟨_, _, _, rfl, hB5, ?_⟩
  have B2 : Below w.heap.size w w2 := (((Below.refl _ w).alloc (Nat.le_refl _) _).trans (hb1.mono (by simp))).trans (hb2.mono (by omega))
  exact (B2.trans (HB3.mono (by omega))).grown hg5 (by omega) (fun k hk => by have := (hown3.lt k hk).1; omega)


set_option maxRecDepth 4000 in
set_option maxHeartbeats 1000000 in
theorem pes_Put_both {q : Nat → Prop} (s p d : Int) (A : Option Addr) (n c : Nat) (l : List Int) (w : World) (hl : Byt q w A n l) (hs : 192 ≤ s ∧ s ≤ 239) (hp : 0 ≤ p) (hp2 : p < 8589934592) (hd : 0 ≤ d) (hd2 : d < 8589934592) (hn : n + 13 ≤ 65535) :
    Calls Try.prog 20 #[.agg #[.int .i64 s, .int .i64 p, .int .i64 d, .slice A n c]] w fun e w' => ∃ A' n' c', e = .returned (.tuple #[.slice A' n' c', .int .i64 0]) ∧ Byt (w.heap.size ≤ ·) w' A' n' ([0, 0, 1, s, (13 + (n : Int)) / 256, (13 + (n : Int)) % 256, 128, 192, 10] ++ stampL 3 p ++ stampL 1 d ++ l) ∧ Below w.heap.size w w' := by
  have hv : validP s p d = true := by simp [validP]; omega
  have hst : stampsP p d = (192, 10) := by unfold stampsP; rw [if_pos (by omega)]
  have hmk : ∀ w : World, (Instr.makeSlice 27 (.int .i64 0) (.int .i64 (6 + (13 + (n : Int))))).run Try.prog w = .ok (.slice (some ⟨w.heap.size, 0, none⟩) 0 (n + 19)) (w.alloc (zeroB 5 (n + 19))) := by
    intro w
    rw [run_mkB (P := Try.prog) Try.underlying27 Try.infoB 0 _ (by omega) (by omega) (by omega) w, show (6 + (13 + (n : Int))).toNat = n + 19 by omega]
    rfl
  go_enter Try.func20, Try.ntmps20
  go_wp2_with fail
  refine (pes_valid s p d _ _).mono ?_
  rintro e w1 ⟨rfl, hb1⟩
  rw [hv]
  have x1 := (Bx.new w 30 #[.int .i64 s, .int .i64 p, .int .i64 d, .slice A n c]).ext hb1
  obtain ⟨f0, f1, f2, f3⟩ := x1.cells4
  have s1 := x1.lt
  go_wp2_with fail
  refine (pes_stamps s p d _ _).mono ?_
  rintro e w2 ⟨rfl, hb2⟩
  rw [hst]
  have x2 := x1.ext hb2
  obtain ⟨g0, g1, g2, g3⟩ := x2.cells4
  have s2 := x2.lt
  have lw2 := ((hl.alloc _).ext hb1).ext hb2
  clear f0 f1 f2 f3
  have lw2 := lw2.mono (q := (· < w2.heap.size)) (fun b h _ => h)
  have rngs := hl.rng
  have lens := hl.len
  have HRN := Lib.hid rngs
  clear rngs hl
  dsimp only
  go_wp2_with (first | (at_builtin; go_loud (refine wpList_appB _ rfl (.tmp 27) (.tmp 39) 27 rfl 5 Try.underlying27 Try.infoB w2.heap.size _ _ rfl ((OwB.made w2 w2.heap.size 5 (n + 19) (Nat.le_refl _) (by omega)).alloc _) _ 9 9 [0, 0, 1, s, (13 + (n : Int)) / 256, (13 + (n : Int)) % 256, 128, 192, 10] rfl (Byt.lit' _ 5 _ (by intro x hx; simp only [List.mem_cons, List.not_mem_nil, or_false] at hx; omega) rfl (by simp)) (by simp) (by simp; omega) ?_; intro v3 w3 hown3 hg3 hat3; have HB3 : Below w2.heap.size w2 w3 := ((((Below.refl _ _).alloc (Nat.le_refl _) _).alloc (by simp) _).grown hg3 (by simp; omega) (fun k hk => ((OwB.made w2 w2.heap.size 5 (n + 19) (Nat.le_refl _) (by omega)).lt k hk).1)); have x3 := x2.ext HB3; obtain ⟨i0, i1, i2, i3⟩ := x3.cells4; have s3 := x3.lt; have z3 := HB3.size; have lw3 := lw2.ext HB3)))
  refine (pes_appendStamp w2.heap.size v3 _ 3 p _ hown3 z3 (by simp) (by omega) (by omega) hp hp2).mono ?_
  rintro e w4 ⟨v4, rfl, hown4, hb4⟩
  have x4 := x3.below hb4 s2
  obtain ⟨j0, j1, j2, j3⟩ := x4.cells4
  have s4 := x4.lt
  have z4 := hb4.size
  have lw4 := lw3.below hb4 (fun b _ h => h)
  go_wp2_with fail
  refine (pes_appendStamp w2.heap.size v4 _ 1 d _ hown4 (by omega) (by simp [stampL]) (by omega) (by omega) hd hd2).mono ?_
  rintro e w6 ⟨v6, rfl, hown6, hb6⟩
  have x6 := x4.below hb6 s2
  obtain ⟨k0, k1, k2, k3⟩ := x6.cells4
  have s6 := x6.lt
  have z6 := hb6.size
  have lw6 := lw4.below hb6 (fun b _ h => h)
  go_wp2_with (first | (at_builtin; go_loud (refine wpList_appB _ rfl (.tmp 58) (.tmp 60) 27 rfl 5 Try.underlying27 Try.infoB w2.heap.size v6 _ rfl hown6 A n c l rfl lw6 (by simp [stampL]; omega) (by omega) ?_; intro v5 w5 hown5 hg5 hat5)))
  obtain ⟨A5, c5, rfl, hB5⟩ := hown5.ret (p := (w.heap.size ≤ ·)) (fun _ h => by omega) (by
    intro x hx
    rcases List.mem_append.1 hx with hx | hx
    · rcases List.mem_append.1 hx with hx | hx
      · rcases List.mem_append.1 hx with hx | hx
        · simp only [List.nil_append, List.mem_cons, List.not_mem_nil, or_false] at hx; omega
        · exact stampL_rng (by omega) (by omega) hp hp2 x hx
      · exact stampL_rng (by omega) (by omega) hd hd2 x hx
    · exact HRN.out x hx)
  go_ret2
  refine ⟨_, _, _, rfl, hB5, ?_⟩
  have B2 : Below w.heap.size w w2 := (((Below.refl _ w).alloc (Nat.le_refl _) _).trans (hb1.mono (by simp))).trans (hb2.mono (by omega))
  exact (((B2.trans (HB3.mono (by omega))).trans (hb4.mono (by omega))).trans (hb6.mono (by omega))).grown hg5 (by omega) (fun k hk => by have := (hown6.lt k hk).1; omega)


set_option maxHeartbeats 1000000 in
theorem pes_Put_arg (s p d : Int) (x : Value) (w : World) (hv : validP s p d = false) :
    Calls Try.prog 20 #[.agg #[.int .i64 s, .int .i64 p, .int .i64 d, x]] w (RetP w [] 1) := by
  go_enter Try.func20, Try.ntmps20
  go_wp2_with fail
  refine (pes_valid s p d _ _).mono ?_
  rintro e w1 ⟨rfl, hb1⟩
  rw [hv]
  go_wp2_with fail
  go_ret2
  exact ⟨_, _, _, rfl, Byt.nil, ((Below.refl _ w).alloc (Nat.le_refl _) _).trans (hb1.mono (by simp))⟩

theorem stamps_head {s p d : Int} (hv : validP s p d = true) : (stampsP p d).1 = (headL p d).1 ∧ (stampsP p d).2 = ((headL p d).2.length : Int) := by
  have h : 192 ≤ s ∧ s ≤ 239 ∧ -1 ≤ p ∧ p < 8589934592 ∧ -1 ≤ d ∧ d < 8589934592 ∧ (p ≠ -1 ∨ d = -1) := by simpa [validP] using hv
  unfold stampsP headL
  by_cases h1 : p < 0
  · rw [if_pos h1, if_neg (by omega), if_neg (by omega)]; simp
  · rw [if_neg h1]
    by_cases h2 : d < 0
    · rw [if_pos h2, if_neg (by omega), if_pos (by omega)]; simp [stampL]
    · rw [if_neg h2, if_pos (by omega)]; simp [stampL]

set_option maxHeartbeats 1000000 in
theorem pes_Put_size {q : Nat → Prop} (s p d : Int) (A : Option Addr) (n c : Nat) (l : List Int) (w : World) (hl : Byt q w A n l) (hv : validP s p d = true) (hn : n ≤ 1000000) (hbig : 65535 < putNum p d l) :
    Calls Try.prog 20 #[.agg #[.int .i64 s, .int .i64 p, .int .i64 d, .slice A n c]] w (RetP w [] 5) := by
  have hlen := hl.len
  have hsh := stamps_head hv
  unfold putNum at hbig
  have hH := headL_len p d
  obtain ⟨m, hm⟩ : ∃ m : Nat, m = (headL p d).2.length := ⟨_, rfl⟩
  obtain ⟨K, hK⟩ : ∃ K : Int, K = (stampsP p d).1 := ⟨_, rfl⟩
  rw [← hm] at hbig hH hsh
  go_enter Try.func20, Try.ntmps20
  go_wp2_with fail
  refine (pes_valid s p d _ _).mono ?_
  rintro e w1 ⟨rfl, hb1⟩
  rw [hv]
  have x1 := (Bx.new w 30 #[.int .i64 s, .int .i64 p, .int .i64 d, .slice A n c]).ext hb1
  obtain ⟨f0, f1, f2, f3⟩ := x1.cells4
  have s1 := x1.lt
  go_wp2_with fail
  refine (pes_stamps s p d _ _).mono ?_
  rintro e w2 ⟨rfl, hb2⟩
  rw [hsh.2, ← hK]
  have x2 := x1.ext hb2
  obtain ⟨g0, g1, g2, g3⟩ := x2.cells4
  have s2 := x2.lt
  have hbig' : 65535 < 3 + m + n := by omega
  clear f0 f1 f2 f3 hlen hbig hsh hm hK
  dsimp only
  go_wp2_with fail
  go_ret2
  have B1 : Below w.heap.size w w1 := ((Below.refl _ w).alloc (Nat.le_refl _) _).trans (hb1.mono (by simp))
  exact ⟨_, _, _, rfl, Byt.nil, B1.trans (hb2.mono B1.size)⟩

theorem pes_Put_ok {q : Nat → Prop} (s p d : Int) (A : Option Addr) (n c : Nat) (l : List Int) (w : World) (hl : Byt q w A n l) (hv : validP s p d = true) (hn : n ≤ 1000000) (hsm : putNum p d l ≤ 65535) :
    Calls Try.prog 20 #[.agg #[.int .i64 s, .int .i64 p, .int .i64 d, .slice A n c]] w (RetP w (putL s p d l) 0) := by
  have h : 192 ≤ s ∧ s ≤ 239 ∧ -1 ≤ p ∧ p < 8589934592 ∧ -1 ≤ d ∧ d < 8589934592 ∧ (p ≠ -1 ∨ d = -1) := by simpa [validP] using hv
  have hlen := hl.len
  by_cases h1 : p < 0
  · obtain rfl : p = -1 := by omega
    obtain rfl : d = -1 := by omega
    have e : headL (-1) (-1) = (0, []) := rfl
    have eN : (putNum (-1) (-1) l : Int) = 3 + (n : Int) := by unfold putNum; rw [e, ← hlen]; simp
    have eP : putL s (-1) (-1) l = [0, 0, 1, s, (3 + (n : Int)) / 256, (3 + (n : Int)) % 256, 128, 0, 0] ++ l := by unfold putL; rw [eN, e]; simp
    rw [eP]
    exact pes_Put_none s A n c l w hl (by omega) (by omega)
  · by_cases h2 : d < 0
    · obtain rfl : d = -1 := by omega
      have e : headL p (-1) = (128, stampL 2 p) := by unfold headL; rw [if_neg h1, if_pos (by omega)]
      have eN : (putNum p (-1) l : Int) = 8 + (n : Int) := by unfold putNum; rw [e, ← hlen]; simp [stampL]
      have eP : putL s p (-1) l = [0, 0, 1, s, (8 + (n : Int)) / 256, (8 + (n : Int)) % 256, 128, 128, 5] ++ stampL 2 p ++ l := by unfold putL; rw [eN, e]; simp [stampL]
      rw [eP]
      exact pes_Put_one s p A n c l w hl (by omega) (by omega) (by omega) (by omega)
    · have e : headL p d = (192, stampL 3 p ++ stampL 1 d) := by unfold headL; rw [if_neg h1, if_neg h2]
      have eN : (putNum p d l : Int) = 13 + (n : Int) := by unfold putNum; rw [e, ← hlen]; simp [stampL]
      have eP : putL s p d l = [0, 0, 1, s, (13 + (n : Int)) / 256, (13 + (n : Int)) % 256, 128, 192, 10] ++ stampL 3 p ++ stampL 1 d ++ l := by unfold putL; rw [eN, e]; simp [stampL]
      rw [eP]
      exact pes_Put_both s p d A n c l w hl (by omega) (by omega) (by omega) (by omega) (by omega) (by omega)

end Go.Proofs.Ytojfaonlgkicfaa
