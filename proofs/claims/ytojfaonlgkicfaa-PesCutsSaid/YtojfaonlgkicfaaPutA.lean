/- pes.Put at a packet with a PTS alone. -/
import Derived.Test.YtojfaonlgkicfaaStamp
import Derived.Laws.MakeOwn
namespace Go.Proofs.Ytojfaonlgkicfaa
open Go.RowKit

theorem Bx.cells4 {w : World} {g : Nat} {t : TypeId} {a0 a1 a2 a3 : Value} (h : Bx w g t #[a0, a1, a2, a3]) :
    w.cell? ⟨g, 0, none⟩ = some a0 ∧ w.cell? ⟨g, 1, none⟩ = some a1 ∧ w.cell? ⟨g, 2, none⟩ = some a2 ∧ w.cell? ⟨g, 3, none⟩ = some a3 :=
  ⟨h.cell 0 rfl, h.cell 1 rfl, h.cell 2 rfl, h.cell 3 rfl⟩
theorem OwB.made (w : World) (base : Nat) (e : TypeId) (c : Nat) (hb : base ≤ w.heap.size) (hc : c ≤ 100000000) : OwB (w.alloc (zeroB e c)) base e (.slice (some ⟨w.heap.size, 0, none⟩) 0 c) [] :=
  World.ownsRow_made w _ c hb (by simp only [maxLen]; omega) (by simp)

theorem Byt.lit' (w : World) (e : TypeId) (l : List Int) (hr : ∀ x ∈ l, 0 ≤ x ∧ x ≤ 255) {cs : Array Value} (hc : cs = (l.map (Value.int .u8)).toArray) {g : Nat} (hg : g = w.heap.size) :
    Byt (fun _ => True) (w.alloc (.cells cs e)) (some ⟨g, 0, none⟩) l.length l := by
  subst hg
  exact Byt.lit w e l hr hc

set_option maxRecDepth 4000 in
set_option maxHeartbeats 1000000 in
theorem pes_Put_one {q : Nat → Prop} (s p : Int) (A : Option Addr) (n c : Nat) (l : List Int) (w : World) (hl : Byt q w A n l) (hs : 192 ≤ s ∧ s ≤ 239) (hp : 0 ≤ p) (hp2 : p < 8589934592) (hn : n + 8 ≤ 65535) :
    Calls Try.prog 20 #[.agg #[.int .i64 s, .int .i64 p, .int .i64 (-1), .slice A n c]] w fun e w' => ∃ A' n' c', e = .returned (.tuple #[.slice A' n' c', .int .i64 0]) ∧ Byt (w.heap.size ≤ ·) w' A' n' ([0, 0, 1, s, (8 + (n : Int)) / 256, (8 + (n : Int)) % 256, 128, 128, 5] ++ stampL 2 p ++ l) ∧ Below w.heap.size w w' := by
  have hv : validP s p (-1) = true := by simp [validP]; omega
  have hst : stampsP p (-1) = (128, 5) := by unfold stampsP; rw [if_neg (by simp), if_pos (by omega)]
  have hmk : ∀ w : World, (Instr.makeSlice 27 (.int .i64 0) (.int .i64 (6 + (8 + (n : Int))))).run Try.prog w = .ok (.slice (some ⟨w.heap.size, 0, none⟩) 0 (n + 14)) (w.alloc (zeroB 5 (n + 14))) := by
    intro w
    rw [run_mkB (P := Try.prog) Try.underlying27 Try.infoB 0 _ (by omega) (by omega) (by omega) w, show (6 + (8 + (n : Int))).toNat = n + 14 by omega]
    rfl
  go_enter Try.func20, Try.ntmps20
  go_wp2_with fail
  refine (pes_valid s p (-1) _ _).mono ?_
  rintro e w1 ⟨rfl, hb1⟩
  rw [hv]
  have x1 := (Bx.new w 30 #[.int .i64 s, .int .i64 p, .int .i64 (-1), .slice A n c]).ext hb1
  obtain ⟨f0, f1, f2, f3⟩ := x1.cells4
  have s1 := x1.lt
  go_wp2_with fail
  refine (pes_stamps s p (-1) _ _).mono ?_
  rintro e w2 ⟨rfl, hb2⟩
  rw [hst]
  have x2 := x1.ext hb2
  obtain ⟨g0, g1, g2, g3⟩ := x2.cells4
  have s2 := x2.lt
  have lw2 := ((hl.alloc _).ext hb1).ext hb2
  clear f0 f1 f2 f3
  have lw2 := lw2.mono (q := (· < w2.heap.size)) (fun b h _ => h)
  have rngs := hl.rng
  have lens := hl.len
  have HRN := Lib.hid rngs
  clear rngs hl
  dsimp only
  go_wp2_with (first | (at_builtin; go_loud (refine wpList_appB _ rfl (.tmp 27) (.tmp 39) 27 rfl 5 Try.underlying27 Try.infoB w2.heap.size _ _ rfl ((OwB.made w2 w2.heap.size 5 (n + 14) (Nat.le_refl _) (by omega)).alloc _) _ 9 9 [0, 0, 1, s, (8 + (n : Int)) / 256, (8 + (n : Int)) % 256, 128, 128, 5] rfl (Byt.lit' _ 5 _ (by intro x hx; simp only [List.mem_cons, List.not_mem_nil, or_false] at hx; omega) rfl (by simp)) (by simp) (by simp; omega) ?_; intro v3 w3 hown3 hg3 hat3; have HB3 : Below w2.heap.size w2 w3 := ((((Below.refl _ _).alloc (Nat.le_refl _) _).alloc (by simp) _).grown hg3 (by simp; omega) (fun k hk => ((OwB.made w2 w2.heap.size 5 (n + 14) (Nat.le_refl _) (by omega)).lt k hk).1)); have x3 := x2.ext HB3; obtain ⟨i0, i1, i2, i3⟩ := x3.cells4; have s3 := x3.lt; have z3 := HB3.size; have lw3 := lw2.ext HB3)))
  refine (pes_appendStamp w2.heap.size v3 _ 2 p _ hown3 z3 (by simp) (by omega) (by omega) hp hp2).mono ?_
  rintro e w4 ⟨v4, rfl, hown4, hb4⟩
  have x4 := x3.below hb4 s2
  obtain ⟨j0, j1, j2, j3⟩ := x4.cells4
  have s4 := x4.lt
  have z4 := hb4.size
  have lw4 := lw3.below hb4 (fun b _ h => h)
  go_wp2_with (first | (at_builtin; go_loud (refine wpList_appB _ rfl (.tmp 58) (.tmp 60) 27 rfl 5 Try.underlying27 Try.infoB w2.heap.size v4 _ rfl hown4 A n c l rfl lw4 (by simp [stampL]; omega) (by omega) ?_; intro v5 w5 hown5 hg5 hat5)))
  obtain ⟨A5, c5, rfl, hB5⟩ := hown5.ret (p := (w.heap.size ≤ ·)) (fun _ h => by omega) (by
    intro x hx
    rcases List.mem_append.1 hx with hx | hx
    · rcases List.mem_append.1 hx with hx | hx
      · simp only [List.nil_append, List.mem_cons, List.not_mem_nil, or_false] at hx; omega
      · exact stampL_rng (by omega) (by omega) hp hp2 x hx
    · exact HRN.out x hx)
  go_ret2
  refine ⟨_, _, _, rfl, hB5, ?_⟩
  have B2 : Below w.heap.size w w2 := (((Below.refl _ w).alloc (Nat.le_refl _) _).trans (hb1.mono (by simp))).trans (hb2.mono (by omega))
  exact ((B2.trans (HB3.mono (by omega))).trans (hb4.mono (by omega))).grown hg5 (by omega) (fun k hk => by have := (hown4.lt k hk).1; omega)

end Go.Proofs.Ytojfaonlgkicfaa
