/- transport.Jitter. -/
import Derived.Test.YtdnchjmopkhnaaaClkB
namespace Go.Proofs.Ytdnchjmopkhnaaa
open Go.RowKit
attribute [local go_sem ↓] Go.wp_at_zero Go.wp_at_succ run_min_mm run_max_mm

theorem jitter_idle (p q : Addr) (w : World) :
    CallsD Try.prog 50 #[.pointer (some p), .pointer (some q)] .returning w fun e u' w' => e = .returned (.tuple #[]) ∧ u' = .returning ∧ w' = w := by
  refine callsD_of_wpS Try.func50 rfl fun c₀ cs hu => ?_
  apply wpS_seq
  apply wpS_region
  simp [wpOpsS, go_sem, recoverD, hu, Try.ntmps50, Exit.thenS]
  refine wpS_cond (t := false) (by simp [Act.eval, Array.replicate]) ?_
  simp only [Bool.false_eq_true, if_false]
  refine wpS_of_wp (wp_skip ?_)
  cases c₀
  simp_all [bodyPostS, results, Try.results50]

/-- The boxes of transport.Jitter: its two results. -/
structure JB (w : World) (m : Int) (W : World) : Prop where
  b1 : Bx W w.heap.size 2 #[.int .i64 m]
  b2 : Bx W (w.heap.size + 1) 25 #[.int .i64 0]
  be : Below w.heap.size w W
section
variable {w W W' : World} {m m' : Int}
theorem JB.ext (h : JB w m W) (hb : Below W.heap.size W W') : JB w m W' := ⟨h.b1.ext hb, h.b2.ext hb, h.be.trans (hb.mono h.be.size)⟩
theorem JB.drew (h : JB w m W) : JB w m W.drew := ⟨h.b1.drew, h.b2.drew, h.be.drew⟩
theorem JB.alloc (h : JB w m W) (o : Obj) : JB w m (W.alloc o) := h.ext ((Below.refl _ _).alloc (Nat.le_refl _) _)
theorem JB.set_ (h : JB w m W) : JB w m' (W.setCell ⟨w.heap.size, 0, none⟩ (.int .i64 m')) :=
  ⟨h.b1.set_ 0 _, h.b2.far (by simp) _, h.be.setCell (Nat.le_refl _) _⟩
theorem JB.ok (h : JB w m W) : JB w m (W.setCell ⟨w.heap.size + 1, 0, none⟩ (.int .i64 0)) :=
  ⟨h.b1.far (by simp) _, h.b2.set_ 0 _, h.be.setCell (by show w.heap.size ≤ w.heap.size + 1; omega) _⟩
theorem JB.facts (h : JB w m W) : W.cell? ⟨w.heap.size, 0, none⟩ = some (.int .i64 m) ∧ W.frozen? ⟨w.heap.size, 0, none⟩ = false ∧ w.heap.size < W.heap.size ∧ W.cell? ⟨w.heap.size + 1, 0, none⟩ = some (.int .i64 0) ∧ W.frozen? ⟨w.heap.size + 1, 0, none⟩ = false ∧ w.heap.size + 1 < W.heap.size :=
  ⟨h.b1.cell 0 rfl, h.b1.frozen 0, h.b1.lt, h.b2.cell 0 rfl, h.b2.frozen 0, h.b2.lt⟩
end

def firstV : Option (Nat × Int) → Int
  | none => -1
  | some (f, _) => (f : Int)
def beginV (B : Nat) : Option (Nat × Int) → Int → Prop
  | none, _ => True
  | some (f, c), b => b = c - ((arrN f B % 2576980377600 : Nat) : Int)
def JitRel (w : World) (B : Nat) (pid : Int) (n : Nat) (ps : List TP) (a b i : Value) (wr : World) : Prop :=
  ∃ (k : Nat) (bv : Int), k ≤ n ∧ i = .int .i64 (k : Int) ∧ a = .int .i64 (firstV (jSt B pid ps k).1) ∧ b = .int .i64 bv ∧ beginV B (jSt B pid ps k).1 bv ∧ JB w (jSt B pid ps k).2 wr
theorem jit_none {B : Nat} {pid : Int} {ps : List TP} {k : Nat} {x : TP} (hx : ps[k]? = some x) (h : ¬ (x.pid = pid ∧ 0 ≤ x.clk ∧ x.clk < 2576980377600)) : jSt B pid ps (k + 1) = jSt B pid ps k := by
  rw [jSt_succ hx]; unfold jStep; rw [if_neg h]
theorem jit_first {B : Nat} {pid : Int} {ps : List TP} {k : Nat} {x : TP} (hx : ps[k]? = some x) (h : x.pid = pid ∧ 0 ≤ x.clk ∧ x.clk < 2576980377600) (hs : (jSt B pid ps k).1 = none) :
    jSt B pid ps (k + 1) = (some (k, x.clk), max (jSt B pid ps k).2 (jErr (jD B k x.clk k x.clk))) := by
  rw [jSt_succ hx]; unfold jStep; rw [if_pos h, hs]; rfl
theorem jit_later {B : Nat} {pid : Int} {ps : List TP} {k f : Nat} {c : Int} {x : TP} (hx : ps[k]? = some x) (h : x.pid = pid ∧ 0 ≤ x.clk ∧ x.clk < 2576980377600) (hs : (jSt B pid ps k).1 = some (f, c)) :
    jSt B pid ps (k + 1) = (some (f, c), max (jSt B pid ps k).2 (jErr (jD B f c k x.clk))) := by
  rw [jSt_succ hx]; unfold jStep; rw [if_pos h, hs]; rfl
theorem tmod_rng (x : Int) : -2576980377600 < x.tmod 2576980377600 ∧ x.tmod 2576980377600 < 2576980377600 := by
  rcases Int.lt_or_le x 0 with h | h
  · have e : x.tmod 2576980377600 = -((-x) % 2576980377600) := by
      rw [← Int.neg_neg x, Int.neg_tmod, Int.tmod_eq_emod_of_nonneg (by omega), Int.neg_neg]
    rw [e]
    omega
  · rw [Int.tmod_eq_emod_of_nonneg h]
    omega
theorem rw5_at {p : Nat → Prop} {w : World} {A : Option Addr} {n : Nat} {ps : List TA} (h : Rw p w A n 5 (tpCells ps)) (hl : ps.length = n) {k : Nat} (hk : k < n) :
    ∃ b off x, A = some ⟨b, off, none⟩ ∧ b < w.heap.size ∧ ps[k]? = some x ∧ (w.cell? ⟨b, off + k * 5, none⟩ = some (.int .i64 x.p.pid) ∧ w.cell? ⟨b, off + k * 5 + 1, none⟩ = some (.int .i64 x.p.cnt) ∧ w.cell? ⟨b, off + k * 5 + 2, none⟩ = some (.bool x.p.st) ∧ w.cell? ⟨b, off + k * 5 + 3, none⟩ = some (.int .i64 x.p.clk) ∧ w.cell? ⟨b, off + k * 5 + 4, none⟩ = some (.slice x.A x.n x.c)) := by
  obtain ⟨b, off, hA, _, hb, hc⟩ := h.addr (by omega)
  have hx : ps[k]? = some (ps[k]'(by omega)) := List.getElem?_eq_getElem _
  obtain ⟨e0, e1, e2, e3, e4⟩ := tpCells_at hx
  have c0 := hc _ _ e0
  have c1 := hc _ _ e1
  have c2 := hc _ _ e2
  have c3 := hc _ _ e3
  have c4 := hc _ _ e4
  rw [← Nat.add_assoc] at c1 c2 c3 c4
  exact ⟨b, off, _, hA, hb, hx, c0, c1, c2, c3, c4⟩

set_option maxRecDepth 100000 in
set_option maxHeartbeats 4000000 in
theorem tr_Jitter {p : Nat → Prop} (A : Option Addr) (n c : Nat) (qs : List TA) (pid : Int) (B : Nat) (w : World) (h : Rw p w A n 5 (tpCells qs)) (hl : qs.length = n) (h1 : 1 ≤ B) (h2 : B ≤ 1073741824) (hn : n ≤ 100000) :
    Calls Try.prog 29 #[.slice A n c, .int .i64 pid, .int .i64 (B : Int)] w fun e w' => e = .returned (.tuple #[.int .i64 (jSt B pid (datas qs) n).2, .int .i64 0]) ∧ Below w.heap.size w w' := by
  have hmf : ∀ (fn : Fn) (first cap : Array Value) (w : World), (Instr.makeFunc fn first cap).run Try.prog w = .ok (.func fn first cap) w := fun _ _ _ _ => rfl
  have H := Lib.hid h
  have HL := Lib.hid hl
  have t1 : decide ((B : Int) < 1) = false := decide_eq_false (by omega)
  have t2 : decide (1073741824 < (B : Int)) = false := decide_eq_false (by omega)
  clear h hl
  go_enter_defers Try.func29, Try.ntmps29
  go_wp2_with fail
  go_loopw [8, 9, 22] (fun a b i wr => JitRel w B pid n (datas qs) a b i wr) (fun _ _ i _ => n - (intOf i).toNat)
  case atStart =>
    refine ⟨0, 0, Nat.zero_le _, rfl, rfl, rfl, trivial, ?_⟩
    exact ⟨(Bx.new _ _ _).alloc _, Bx.new' _ _ _ _ (by simp), ((Below.refl _ _).alloc (Nat.le_refl _) _).alloc (by simp) _⟩
  case round =>
    obtain ⟨k, bv, hk, rfl, rfl, rfl, hbv, hJ⟩ := hrel
    by_cases hlt : k < n
    · obtain ⟨b, off, x, rfl, hbl, hx, hc0, hc1, hc2, hc3, hc4⟩ := rw5_at (H.out.ext hJ.be) HL.out hlt
      obtain ⟨⟨pd, cnt, st, clk, pl⟩, A1, n1, c1⟩ := x
      dsimp only at hc0 hc1 hc2 hc3 hc4
      have hxd : (datas qs)[k]? = some ⟨pd, cnt, st, clk, pl⟩ := by simp [datas, hx]
      have HX := Lib.hid hxd
      have HJ := Lib.hid hJ
      have HBV := Lib.hid hbv
      obtain ⟨g1, g2, g3, g4, g5, g6⟩ := hJ.facts
      have HOK := Lib.hid (jSt_ok B pid (datas qs) k)
      have i0 : (0 : Int) ≤ (k : Int) := by omega
      have i1 : (k : Int) < (n : Int) := by omega
      clear hx hxd hbv hJ
      by_cases hin : pd = pid ∧ 0 ≤ clk ∧ clk < 2576980377600
      · obtain ⟨rfl, hk0, hkW⟩ := hin
        obtain ⟨m, hm⟩ : ∃ m, (jSt B pd (datas qs) k).2 = m := ⟨_, rfl⟩
        have hmr : 0 ≤ m ∧ m < 2576980377600 := by rw [← hm]; exact HOK.out.2
        rw [hm] at g1
        have HM := Lib.hid hm
        have hJ := HJ.out
        rw [hm] at hJ
        obtain ⟨M, hM⟩ : ∃ M, arrN k B % 2576980377600 = M := ⟨_, rfl⟩
        have hMr : M < 2576980377600 := by omega
        have hc := fun w => tr_arrival k B w h1 h2 (by omega)
        rw [hM] at hc
        have HC := Lib.hid hc
        have HMM := Lib.hid hM
        have HOK2 := HOK
        clear hm hM hc HOK
        have hin2 : (⟨pd, cnt, st, clk, pl⟩ : TP).pid = pd ∧ 0 ≤ (⟨pd, cnt, st, clk, pl⟩ : TP).clk ∧ (⟨pd, cnt, st, clk, pl⟩ : TP).clk < 2576980377600 := ⟨rfl, hk0, hkW⟩
        have cl0 : decide (clk < 0) = false := decide_eq_false (by omega)
        have clW : decide (2576980377600 ≤ clk) = false := decide_eq_false (by omega)
        have hbx := Bx.new wr 28 #[.int .i64 pd, .int .i64 cnt, .bool st, .int .i64 clk, .slice A1 n1 c1]
        have hJa := hJ.alloc (.cells #[.int .i64 pd, .int .i64 cnt, .bool st, .int .i64 clk, .slice A1 n1 c1] 28)
        rcases hfo : (jSt B pd (datas qs) k).1 with _ | ⟨f, cf⟩
        · obtain ⟨b0, hb0⟩ : ∃ b0, b0 = clk - (M : Int) := ⟨_, rfl⟩
          have w0 : IntKind.i64.wrap (clk - (M : Int)) = b0 := by rw [hb0]; exact IntWalk.i64_in _ (by omega)
          have HB0 : Hid (b0 = clk - ((arrN k B % 2576980377600 : Nat) : Int)) := Lib.hid (by rw [HMM.out]; exact hb0)
          have HN : Hid (jSt B pd (datas qs) (k + 1) = (some (k, clk), max m (jErr (jD B k clk k clk)))) := Lib.hid (by rw [← HM.out]; exact jit_first HX.out hin2 hfo)
          have hbr : -2576980377600 < b0 ∧ b0 < 2576980377600 := by omega
          clear hin2 hb0
          have fv : firstV (none : Option (Nat × Int)) = -1 := rfl
          clear hfo
          rw [fv]
          go_upto_region 12 with fail
          generalize wr.alloc (.cells #[.int .i64 pd, .int .i64 cnt, .bool st, .int .i64 clk, .slice A1 n1 c1] 28) = W at *
          have c3 : W.cell? ⟨wr.heap.size, 3, none⟩ = some (.int .i64 clk) := hbx.cell 3 rfl
          have l3 := hbx.lt
          clear g1 g2 g3 g4 g5 g6
          obtain ⟨g1, g2, g3, g4, g5, g6⟩ := hJa.facts
          have HF := Lib.hid (fun w' (h : Below W.drew.heap.size W.drew w') => And.intro (hJa.drew.ext h).facts ((h.cell (p := ⟨wr.heap.size, 3, none⟩) l3).trans c3))
          have HC1 := Lib.hid (HC.out W.drew)
          have HJA := Lib.hid hJa
          have HBX := Lib.hid hbx
          clear hJa hbx hJ
          go_region_held3 (fun w' => (w'.cell? ⟨w.heap.size, 0, none⟩ = some (.int .i64 m) ∧ w'.frozen? ⟨w.heap.size, 0, none⟩ = false ∧ w.heap.size < w'.heap.size ∧ w'.cell? ⟨w.heap.size + 1, 0, none⟩ = some (.int .i64 0) ∧ w'.frozen? ⟨w.heap.size + 1, 0, none⟩ = false ∧ w.heap.size + 1 < w'.heap.size) ∧ w'.cell? ⟨wr.heap.size, 3, none⟩ = some (.int .i64 clk)) (first | exact HF.out _ (Below.refl _ _) | exact HF.out _ hb3 | go_keep)
            ((go_at_call 51; ((with_reducible refine HC1.out.mono ?_); rintro e w3 ⟨rfl, hb3⟩)))
          have hJ3 := HJA.out.drew.ext hb3
          have hX3 := HBX.out.drew.ext hb3
          clear c3 l3
          have hJt := hJ3
          have c3t : w3.cell? ⟨wr.heap.size, 3, none⟩ = some (.int .i64 clk) := Bx.cell hX3 3 rfl
          have l3t := Bx.lt hX3
          clear g1 g2 g3 g4 g5 g6
          obtain ⟨g1, g2, g3, g4, g5, g6⟩ := hJt.facts
          have u1 : IntKind.i64.wrap (clk - b0) = clk - b0 := IntWalk.i64_in _ (by omega)
          have u2 : IntKind.i64.wrap (clk - b0 - (M : Int)) = clk - b0 - (M : Int) := IntWalk.i64_in _ (by omega)
          obtain ⟨t, ht⟩ : ∃ t, (clk - b0 - (M : Int)).tmod 2576980377600 = t := ⟨_, rfl⟩
          have htr : -2576980377600 < t ∧ t < 2576980377600 := by rw [← ht]; exact tmod_rng _
          have wt1 : IntKind.i64.wrap t = t := IntWalk.i64_in _ (by omega)
          have HD := Lib.hid (jD_prog B k clk k clk t _ (by rw [← HB0.out, HMM.out]; exact ht) rfl)
          go_upto_region 13 with fail
          have HF2 := Lib.hid (fun w' (h : Below w3.drew.heap.size w3.drew w') => And.intro (hJt.drew.ext h).facts ((h.cell (p := ⟨wr.heap.size, 3, none⟩) l3t).trans c3t))
          have HC2 := Lib.hid (HC.out w3.drew)
          have HJT := Lib.hid hJt
          clear hJt
          go_region_held3 (fun w' => (w'.cell? ⟨w.heap.size, 0, none⟩ = some (.int .i64 m) ∧ w'.frozen? ⟨w.heap.size, 0, none⟩ = false ∧ w.heap.size < w'.heap.size ∧ w'.cell? ⟨w.heap.size + 1, 0, none⟩ = some (.int .i64 0) ∧ w'.frozen? ⟨w.heap.size + 1, 0, none⟩ = false ∧ w.heap.size + 1 < w'.heap.size) ∧ w'.cell? ⟨wr.heap.size, 3, none⟩ = some (.int .i64 clk)) (first | exact HF2.out _ (Below.refl _ _) | exact HF2.out _ hb4 | go_keep)
            ((go_at_call 51; ((with_reducible refine HC2.out.mono ?_); rintro e w4 ⟨rfl, hb4⟩)))
          clear g1 g2 g3 g4 g5 g6
          have hJ4 := HJT.out.drew.ext hb4
          obtain ⟨g1, g2, g3, g4, g5, g6⟩ := hJ4.facts
          have HJ4 := Lib.hid hJ4
          clear hJ4
          rcases Int.lt_or_le t 0 with ht0 | ht0
          · have hd0 := HD.out
            rw [if_pos ht0] at hd0
            have u4 : IntKind.i64.wrap (t + 2576980377600) = t + 2576980377600 := IntWalk.i64_in _ (by omega)
            obtain ⟨d, hd⟩ : ∃ d, t + 2576980377600 = d := ⟨_, rfl⟩
            rw [hd] at hd0 u4
            have u5 : IntKind.i64.wrap (2576980377600 - d) = 2576980377600 - d := IntWalk.i64_in _ (by omega)
            have HD0 := Lib.hid hd0
            have hdr : 0 ≤ d ∧ d < 2576980377600 := by omega
            clear hd0
            go_wp2_with fail
            go_roundw
            case rel =>
              refine ⟨k + 1, b0, by omega, by go_num, by rw [HN.out]; rfl, rfl, by rw [HN.out]; exact HB0.out, ?_⟩
              rw [HN.out]
              simp only [jErr]
              rw [← HD0.out]
              exact HJ4.out.set_
            case measure => (simp [intOf]; try omega)
          · have hd0 := HD.out
            rw [if_neg (by omega)] at hd0
            have u5 : IntKind.i64.wrap (2576980377600 - t) = 2576980377600 - t := IntWalk.i64_in _ (by omega)
            have HD0 := Lib.hid hd0
            clear hd0
            go_wp2_with fail
            go_roundw
            case rel =>
              refine ⟨k + 1, b0, by omega, by go_num, by rw [HN.out]; rfl, rfl, by rw [HN.out]; exact HB0.out, ?_⟩
              rw [HN.out]
              simp only [jErr]
              rw [← HD0.out]
              exact HJ4.out.set_
            case measure => (simp [intOf]; try omega)
        · have fv : firstV (some (f, cf)) = (f : Int) := rfl
          have hf0 : decide ((f : Int) < 0) = false := decide_eq_false (by omega)
          have hcf := (HOK2.out.1 f cf hfo).2
          have hb0 : bv = cf - ((arrN f B % 2576980377600 : Nat) : Int) := by have h := HBV.out; rw [hfo] at h; exact h
          have hbr : -2576980377600 < bv ∧ bv < 2576980377600 := by omega
          have HB0 := Lib.hid hb0
          have HN : Hid (jSt B pd (datas qs) (k + 1) = (some (f, cf), max m (jErr (jD B f cf k clk)))) := Lib.hid (by rw [← HM.out]; exact jit_later HX.out hin2 hfo)
          clear hfo hb0 hin2
          rw [fv]
          go_upto_region 13 with fail
          generalize wr.alloc (.cells #[.int .i64 pd, .int .i64 cnt, .bool st, .int .i64 clk, .slice A1 n1 c1] 28) = W at *
          have hJt := hJa
          have c3t : W.cell? ⟨wr.heap.size, 3, none⟩ = some (.int .i64 clk) := Bx.cell hbx 3 rfl
          have l3t := Bx.lt hbx
          clear g1 g2 g3 g4 g5 g6
          obtain ⟨g1, g2, g3, g4, g5, g6⟩ := hJt.facts
          have u1 : IntKind.i64.wrap (clk - bv) = clk - bv := IntWalk.i64_in _ (by omega)
          have u2 : IntKind.i64.wrap (clk - bv - (M : Int)) = clk - bv - (M : Int) := IntWalk.i64_in _ (by omega)
          obtain ⟨t, ht⟩ : ∃ t, (clk - bv - (M : Int)).tmod 2576980377600 = t := ⟨_, rfl⟩
          have htr : -2576980377600 < t ∧ t < 2576980377600 := by rw [← ht]; exact tmod_rng _
          have wt1 : IntKind.i64.wrap t = t := IntWalk.i64_in _ (by omega)
          have HD := Lib.hid (jD_prog B f cf k clk t _ (by rw [← HB0.out, HMM.out]; exact ht) rfl)
          skip
          have HF2 := Lib.hid (fun w' (h : Below W.drew.heap.size W.drew w') => And.intro (hJt.drew.ext h).facts ((h.cell (p := ⟨wr.heap.size, 3, none⟩) l3t).trans c3t))
          have HC2 := Lib.hid (HC.out W.drew)
          have HJT := Lib.hid hJt
          clear hJt
          go_region_held3 (fun w' => (w'.cell? ⟨w.heap.size, 0, none⟩ = some (.int .i64 m) ∧ w'.frozen? ⟨w.heap.size, 0, none⟩ = false ∧ w.heap.size < w'.heap.size ∧ w'.cell? ⟨w.heap.size + 1, 0, none⟩ = some (.int .i64 0) ∧ w'.frozen? ⟨w.heap.size + 1, 0, none⟩ = false ∧ w.heap.size + 1 < w'.heap.size) ∧ w'.cell? ⟨wr.heap.size, 3, none⟩ = some (.int .i64 clk)) (first | exact HF2.out _ (Below.refl _ _) | exact HF2.out _ hb4 | go_keep)
            ((go_at_call 51; ((with_reducible refine HC2.out.mono ?_); rintro e w4 ⟨rfl, hb4⟩)))
          clear g1 g2 g3 g4 g5 g6
          have hJ4 := HJT.out.drew.ext hb4
          obtain ⟨g1, g2, g3, g4, g5, g6⟩ := hJ4.facts
          have HJ4 := Lib.hid hJ4
          clear hJ4
          rcases Int.lt_or_le t 0 with ht0 | ht0
          · have hd0 := HD.out
            rw [if_pos ht0] at hd0
            have u4 : IntKind.i64.wrap (t + 2576980377600) = t + 2576980377600 := IntWalk.i64_in _ (by omega)
            obtain ⟨d, hd⟩ : ∃ d, t + 2576980377600 = d := ⟨_, rfl⟩
            rw [hd] at hd0 u4
            have u5 : IntKind.i64.wrap (2576980377600 - d) = 2576980377600 - d := IntWalk.i64_in _ (by omega)
            have HD0 := Lib.hid hd0
            have hdr : 0 ≤ d ∧ d < 2576980377600 := by omega
            clear hd0
            go_wp2_with fail
            go_roundw
            case rel =>
              refine ⟨k + 1, bv, by omega, by go_num, by rw [HN.out]; rfl, rfl, by rw [HN.out]; exact HB0.out, ?_⟩
              rw [HN.out]
              simp only [jErr]
              rw [← HD0.out]
              exact HJ4.out.set_
            case measure => (simp [intOf]; try omega)
          · have hd0 := HD.out
            rw [if_neg (by omega)] at hd0
            have u5 : IntKind.i64.wrap (2576980377600 - t) = 2576980377600 - t := IntWalk.i64_in _ (by omega)
            have HD0 := Lib.hid hd0
            clear hd0
            go_wp2_with fail
            go_roundw
            case rel =>
              refine ⟨k + 1, bv, by omega, by go_num, by rw [HN.out]; rfl, rfl, by rw [HN.out]; exact HB0.out, ?_⟩
              rw [HN.out]
              simp only [jErr]
              rw [← HD0.out]
              exact HJ4.out.set_
            case measure => (simp [intOf]; try omega)
      · have HN : Hid (jSt B pid (datas qs) (k + 1) = jSt B pid (datas qs) k) := Lib.hid (jit_none HX.out hin)
        rcases (by omega : pd ≠ pid ∨ pd = pid ∧ clk < 0 ∨ pd = pid ∧ 0 ≤ clk ∧ 2576980377600 ≤ clk) with hq | ⟨rfl, hq⟩ | ⟨rfl, hq, hq2⟩
        all_goals
          clear hin
          go_wp2_with fail
          go_roundw
          case rel => exact ⟨k + 1, bv, by omega, by go_num, by rw [HN.out], rfl, by rw [HN.out]; exact HBV.out, by rw [HN.out]; exact HJ.out.alloc _⟩
          case measure => (simp [intOf]; try omega)
    · have hkn : k = n := by omega
      subst hkn
      obtain ⟨g1, g2, g3, g4, g5, g6⟩ := hJ.facts
      have HJ := Lib.hid hJ
      clear hJ
      go_wp2_with fail
      have hb := JB.ok (JB.set_ (m' := (jSt B pid (datas qs) k).2) HJ.out)
      obtain ⟨q1, q2, q3, q4, q5, q6⟩ := hb.facts
      refine leaves_cons (f := 50) (args := #[.pointer (some ⟨w.heap.size, 0, none⟩), .pointer (some ⟨w.heap.size + 1, 0, none⟩)]) (by simp) (by simp [go_sem]) ?_
      refine (jitter_idle _ _ _).mono ?_
      rintro e u' w'' ⟨rfl, rfl, rfl⟩
      exact ⟨.tuple #[.int .i64 (jSt B pid (datas qs) k).2, .int .i64 0], by simp [results, Try.results29, go_sem, q1, q4], rfl, hb.be⟩
end Go.Proofs.Ytdnchjmopkhnaaa
