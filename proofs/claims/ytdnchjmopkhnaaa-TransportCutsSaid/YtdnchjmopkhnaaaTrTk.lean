/- transport.Take. -/
import Derived.Test.YtdnchjmopkhnaaaTrP
namespace Go.Proofs.Ytdnchjmopkhnaaa
open Go.RowKit

def NoPkt (l : List Int) : Prop := ∀ pid cnt st clk pl n, validT pid cnt st clk n = true → pl.length = n → pktL pid cnt st clk pl n ≠ l
/-- What bytes are read as. -/
def TakS (l : List Int) (pid cnt : Int) (st : Bool) (clk : Int) (pl : List Int) (code : Int) : Prop :=
  (code = 0 ∧ validT pid cnt st clk pl.length = true ∧ pktL pid cnt st clk pl pl.length = l) ∨
  (code ≠ 0 ∧ code = (if l.length < 188 then 4 else 3) ∧ NoPkt l ∧ pid = 0 ∧ cnt = 0 ∧ st = false ∧ clk = 0 ∧ pl = [])
theorem pktL_len {pid cnt : Int} {st : Bool} {clk : Int} {pl : List Int} {n : Nat} (hv : validT pid cnt st clk n = true) (hpl : pl.length = n) : (pktL pid cnt st clk pl n).length = 188 := by
  obtain ⟨_, _, _, hn, hrm, _⟩ := validT_spec hv
  rw [← encL_form pid cnt st clk pl n hpl hn hrm, encL_len _ _ _ _ _ _ hpl hn]
theorem noPkt_len {l : List Int} (h : l.length ≠ 188) : NoPkt l := by
  intro pid cnt st clk pl n hv hpl hl
  exact h (by rw [← hl]; exact pktL_len hv hpl)
theorem pkt_inj {pid cnt pid' cnt' : Int} {st st' : Bool} {clk clk' : Int} {pl pl' : List Int} (hv : validT pid cnt st clk pl.length = true) (hv' : validT pid' cnt' st' clk' pl'.length = true) (h : pktL pid cnt st clk pl pl.length = pktL pid' cnt' st' clk' pl' pl'.length) :
    pid = pid' ∧ cnt = cnt' ∧ st = st' ∧ clk = clk' ∧ pl = pl' := by
  obtain ⟨x0, x1, x2, x3, x4, x5, x6, x7, x8, x9, x10, x11, hx⟩ := read12 _ (pktL_len hv rfl)
  obtain ⟨_, a1, a2, a3, a4, a5, _, _, a8⟩ := cand_enc hx hv rfl rfl
  obtain ⟨_, b1, b2, b3, b4, b5, _, _, b8⟩ := cand_enc hx hv' rfl h.symm
  have hn : pl.length = pl'.length := by
    have h1 := (validT_spec hv).2.2.2.1
    have h2 := (validT_spec hv').2.2.2.1
    omega
  refine ⟨a1.symm.trans b1, a2.symm.trans b2, ?_, a5.symm.trans b5, by rw [← a8, ← b8, hn]⟩
  rw [Bool.eq_iff_iff]
  exact a3.symm.trans b3
theorem takS_uniq {l : List Int} {pid cnt pid' cnt' : Int} {st st' : Bool} {clk clk' : Int} {pl pl' : List Int} {code code' : Int} (h : TakS l pid cnt st clk pl code) (h' : TakS l pid' cnt' st' clk' pl' code') : pid = pid' ∧ cnt = cnt' ∧ st = st' ∧ clk = clk' ∧ pl = pl' ∧ code = code' := by
  rcases h with ⟨rfl, hv, hl⟩ | ⟨_, rfl, hn, rfl, rfl, rfl, rfl, rfl⟩
  · rcases h' with ⟨rfl, hv', hl'⟩ | ⟨_, _, hn', _⟩
    · obtain ⟨a, b, c, d, e⟩ := pkt_inj hv hv' (hl.trans hl'.symm)
      exact ⟨a, b, c, d, e, rfl⟩
    · exact absurd hl (hn' _ _ _ _ _ _ hv rfl)
  · rcases h' with ⟨rfl, hv', hl'⟩ | ⟨_, rfl, hn', rfl, rfl, rfl, rfl, rfl⟩
    · exact absurd hl' (hn _ _ _ _ _ _ hv' rfl)
    · exact ⟨rfl, rfl, rfl, rfl, rfl, rfl⟩
def RetK (w : World) (l : List Int) (e : Ending) (w' : World) : Prop :=
  ∃ pid cnt st clk A n c pl code, e = .returned (.tuple #[.agg #[.int .i64 pid, .int .i64 cnt, .bool st, .int .i64 clk, .slice A n c], .int .i64 code]) ∧ Byt (w.heap.size ≤ ·) w' A n pl ∧ Below w.heap.size w w' ∧ TakS l pid cnt st clk pl code

theorem trtake_idle (p q : Addr) (w : World) :
    CallsD Try.prog 38 #[.pointer (some p), .pointer (some q)] .returning w fun e u' w' => e = .returned (.tuple #[]) ∧ u' = .returning ∧ w' = w := by
  refine callsD_of_wpS Try.func38 rfl fun c₀ cs hu => ?_
  apply wpS_seq
  apply wpS_region
  simp [wpOpsS, go_sem, recoverD, hu, Try.ntmps38, Exit.thenS]
  refine wpS_cond (t := false) (by simp [Act.eval, Array.replicate]) ?_
  simp only [Bool.false_eq_true, if_false]
  refine wpS_of_wp (wp_skip ?_)
  cases c₀
  simp_all [bodyPostS, results, Try.results38]

theorem trtake_leave {w : World} {l : List Int} {pid cnt : Int} {st : Bool} {clk code : Int} {A : Option Addr} {k c : Nat} {pl : List Int} (a : Act) (W : World) (h2 : a.tmps[2]? = some (.pointer (some ⟨w.heap.size, 0, none⟩))) (h3 : a.tmps[3]? = some (.pointer (some ⟨w.heap.size + 1, 0, none⟩)))
    (hd : a.defers = [{ target := Target.fn (Fn.func 38) #[.pointer (some ⟨w.heap.size, 0, none⟩), .pointer (some ⟨w.heap.size + 1, 0, none⟩)], args := #[] }])
    (X1 : Bx W w.heap.size 28 #[.int .i64 pid, .int .i64 cnt, .bool st, .int .i64 clk, .slice A k c]) (X2 : Bx W (w.heap.size + 1) 25 #[.int .i64 code]) (hB : Byt (w.heap.size ≤ ·) W A k pl) (hb : Below w.heap.size w W) (hT : TakS l pid cnt st clk pl code) :
    bodyPostD Try.prog Try.f16 (RetK w l) .ret a W := by
  obtain ⟨u0, u1, u2, u3, u4⟩ := X1.cells5
  have u5 : W.cell? ⟨w.heap.size + 1, 0, none⟩ = some (.int .i64 code) := X2.cell 0 rfl
  have s1 := X1.lt
  obtain ⟨tmps, defers⟩ := a
  dsimp only at h2 h3 hd
  subst hd
  refine leaves_cons (f := 38) (args := #[.pointer (some ⟨w.heap.size, 0, none⟩), .pointer (some ⟨w.heap.size + 1, 0, none⟩)]) (by simp) (by simp [go_sem]) ?_
  refine (trtake_idle _ _ _).mono ?_
  rintro e u' w'' ⟨rfl, rfl, rfl⟩
  refine ⟨.tuple #[.agg #[.int .i64 pid, .int .i64 cnt, .bool st, .int .i64 clk, .slice A k c], .int .i64 code], by simp [results, Try.results16, go_sem, h2, h3, u0, u1, u2, u3, u4, u5, s1], ?_⟩
  exact ⟨_, _, _, _, _, _, _, _, _, rfl, hB, hb, hT⟩

theorem Bx.set5 {w : World} {g : Nat} {t : TypeId} {a0 a1 a2 a3 a4 : Value} (h : Bx w g t #[a0, a1, a2, a3, a4]) (b0 b1 b2 b3 b4 : Value) :
    Bx (((((w.setCell ⟨g, 0, none⟩ b0).setCell ⟨g, 1, none⟩ b1).setCell ⟨g, 2, none⟩ b2).setCell ⟨g, 3, none⟩ b3).setCell ⟨g, 4, none⟩ b4) g t #[b0, b1, b2, b3, b4] :=
  ((((h.set_ 0 b0).set_ 1 b1).set_ 2 b2).set_ 3 b3).set_ 4 b4
theorem Bx.far5 {w : World} {g g' : Nat} {t : TypeId} {cs : Array Value} (h : Bx w g t cs) (hne : g ≠ g') (b0 b1 b2 b3 b4 : Value) :
    Bx (((((w.setCell ⟨g', 0, none⟩ b0).setCell ⟨g', 1, none⟩ b1).setCell ⟨g', 2, none⟩ b2).setCell ⟨g', 3, none⟩ b3).setCell ⟨g', 4, none⟩ b4) g t cs :=
  ((((h.far (a := ⟨g', 0, none⟩) hne b0).far (a := ⟨g', 1, none⟩) hne b1).far (a := ⟨g', 2, none⟩) hne b2).far (a := ⟨g', 3, none⟩) hne b3).far (a := ⟨g', 4, none⟩) hne b4
theorem bset5 {B : Nat} {w W : World} {g : Nat} (h : Below B w W) (hg : B ≤ g) (b0 b1 b2 b3 b4 : Value) : Below B w (((((W.setCell ⟨g, 0, none⟩ b0).setCell ⟨g, 1, none⟩ b1).setCell ⟨g, 2, none⟩ b2).setCell ⟨g, 3, none⟩ b3).setCell ⟨g, 4, none⟩ b4) :=
  bset (bset (bset (bset (bset h ⟨g, 0, none⟩ hg b0) ⟨g, 1, none⟩ hg b1) ⟨g, 2, none⟩ hg b2) ⟨g, 3, none⟩ hg b3) ⟨g, 4, none⟩ hg b4

set_option maxRecDepth 10000 in
set_option maxHeartbeats 2000000 in
theorem tr_Take_short {q : Nat → Prop} (A : Option Addr) (n c : Nat) (l : List Int) (w : World) (hl : Byt q w A n l) (hn : n ≠ 188) :
    Calls Try.prog 16 #[.slice A n c] w (RetK w l) := by
  have hT : TakS l 0 0 false 0 [] (if n < 188 then 4 else 3) := by
    refine .inr ⟨by split <;> omega, by rw [hl.len], noPkt_len (by rw [hl.len]; exact hn), rfl, rfl, rfl, rfl, rfl⟩
  have HT := Lib.hid hT
  clear hT hl
  have hmf : ∀ (fn : Fn) (first cap : Array Value) (w : World), (Instr.makeFunc fn first cap).run Try.prog w = .ok (.func fn first cap) w := fun _ _ _ _ => rfl
  have B0 : Below w.heap.size w ((w.alloc (.cells #[.int .i64 0, .int .i64 0, .bool false, .int .i64 0, .slice none 0 0] 28)).alloc (.cells #[.int .i64 0] 25)) := ((Below.refl _ w).alloc (Nat.le_refl _) _).alloc (by simp) _
  have X1 : Bx ((w.alloc (.cells #[.int .i64 0, .int .i64 0, .bool false, .int .i64 0, .slice none 0 0] 28)).alloc (.cells #[.int .i64 0] 25)) w.heap.size 28 #[.int .i64 0, .int .i64 0, .bool false, .int .i64 0, .slice none 0 0] := (Bx.new _ _ _).alloc _
  have X2 : Bx ((w.alloc (.cells #[.int .i64 0, .int .i64 0, .bool false, .int .i64 0, .slice none 0 0] 28)).alloc (.cells #[.int .i64 0] 25)) (w.heap.size + 1) 25 #[.int .i64 0] := Bx.new' _ _ _ _ (by simp)
  go_enter_defers Try.func16, Try.ntmps16
  go_upto_region 2 with fail
  generalize (w.alloc (.cells #[.int .i64 0, .int .i64 0, .bool false, .int .i64 0, .slice none 0 0] 28)).alloc (.cells #[.int .i64 0] 25) = W at *
  obtain ⟨u0, u1, u2, u3, u4⟩ := X1.cells5
  have u5 := X2.cell 0 rfl
  have v0 := X1.frozen 0
  have v1 := X1.frozen 1
  have v2 := X1.frozen 2
  have v3 := X1.frozen 3
  have v4 := X1.frozen 4
  have v5 := X2.frozen 0
  have t1 := X1.lt
  have t2 := X2.lt
  by_cases h1 : n < 188
  · have HT2 := HT.out
    rw [if_pos h1] at HT2
    have HT3 := Lib.hid HT2
    clear HT2
    go_wp2_with fail
    exact trtake_leave (w := w) _ _ rfl rfl rfl (X1.set5 _ _ _ _ _ |>.far (by dsimp only; omega) _) ((X2.far5 (by omega) _ _ _ _ _).set_ 0 _) Byt.nil (bset (bset5 B0 (Nat.le_refl _) _ _ _ _ _) _ (by dsimp only; omega) _) HT3.out
  · have HT2 := HT.out
    rw [if_neg h1] at HT2
    have HT3 := Lib.hid HT2
    clear HT2
    have h2 : 188 < n := by omega
    go_wp2_with fail
    exact trtake_leave (w := w) _ _ rfl rfl rfl (X1.set5 _ _ _ _ _ |>.far (by dsimp only; omega) _) ((X2.far5 (by omega) _ _ _ _ _).set_ 0 _) Byt.nil (bset (bset5 B0 (Nat.le_refl _) _ _ _ _ _) _ (by dsimp only; omega) _) HT3.out

set_option maxRecDepth 10000 in
set_option maxHeartbeats 2000000 in
theorem tr_Take_188 {q : Nat → Prop} (b off c : Nat) (l : List Int) (w : World) (hl : Byt q w (some ⟨b, off, none⟩) 188 l) (hc : 188 ≤ c) :
    Calls Try.prog 16 #[.slice (some ⟨b, off, none⟩) 188 c] w (RetK w l) := by
  have hl1 := hl.mono (q := (· < w.heap.size)) (fun b h _ => h)
  have HL1 := Lib.hid hl1
  have HLEN := Lib.hid hl.len
  clear hl hl1
  have hmf : ∀ (fn : Fn) (first cap : Array Value) (w : World), (Instr.makeFunc fn first cap).run Try.prog w = .ok (.func fn first cap) w := fun _ _ _ _ => rfl
  have B0 : Below w.heap.size w ((w.alloc (.cells #[.int .i64 0, .int .i64 0, .bool false, .int .i64 0, .slice none 0 0] 28)).alloc (.cells #[.int .i64 0] 25)) := ((Below.refl _ w).alloc (Nat.le_refl _) _).alloc (by simp) _
  have X1 : Bx ((w.alloc (.cells #[.int .i64 0, .int .i64 0, .bool false, .int .i64 0, .slice none 0 0] 28)).alloc (.cells #[.int .i64 0] 25)) w.heap.size 28 #[.int .i64 0, .int .i64 0, .bool false, .int .i64 0, .slice none 0 0] := (Bx.new _ _ _).alloc _
  have X2 : Bx ((w.alloc (.cells #[.int .i64 0, .int .i64 0, .bool false, .int .i64 0, .slice none 0 0] 28)).alloc (.cells #[.int .i64 0] 25)) (w.heap.size + 1) 25 #[.int .i64 0] := Bx.new' _ _ _ _ (by simp)
  go_enter_defers Try.func16, Try.ntmps16
  go_upto_region 2 with fail
  generalize (w.alloc (.cells #[.int .i64 0, .int .i64 0, .bool false, .int .i64 0, .slice none 0 0] 28)).alloc (.cells #[.int .i64 0] 25) = W at *
  have HLW := Lib.hid (HL1.out.below B0 (fun _ _ h => h))
  go_wp2_with fail
  refine (tr_decode b off c l W hc HLW.out).mono ?_
  rintro e w1 ⟨pid, cnt, st, clk, A', n', c', ok, rfl, hD, hb1⟩
  have X1 := X1.ext hb1
  have X2 := X2.ext hb1
  have B1 := B0.trans (hb1.mono B0.size)
  clear B0 hb1
  obtain ⟨u0, u1, u2, u3, u4⟩ := X1.cells5
  have u5 := X2.cell 0 rfl
  have v0 := X1.frozen 0
  have v1 := X1.frozen 1
  have v2 := X1.frozen 2
  have v3 := X1.frozen 3
  have v4 := X1.frozen 4
  have v5 := X2.frozen 0
  have t1 := X1.lt
  have t2 := X2.lt
  cases ok with
  | false =>
    have hT : TakS l 0 0 false 0 [] 3 := .inr ⟨by omega, by rw [HLEN.out]; rfl, hD, rfl, rfl, rfl, rfl, rfl⟩
    have HT := Lib.hid hT
    clear hT hD
    go_wp2_with fail
    exact trtake_leave (w := w) _ _ rfl rfl rfl ((X1.set5 _ _ _ _ _).set5 _ _ _ _ _ |>.far (by dsimp only; omega) _) (((X2.far5 (by omega) _ _ _ _ _).far5 (by omega) _ _ _ _ _).set_ 0 _) Byt.nil (bset (bset5 (bset5 B1 (Nat.le_refl _) _ _ _ _ _) (Nat.le_refl _) _ _ _ _ _) _ (by dsimp only; omega) _) HT.out
  | true =>
    obtain ⟨pl, hv, hpk, hpl, hby⟩ := hD
    have hn' := (validT_spec hv).2.2.2.1
    subst hpl
    have HV := Lib.hid hv
    have HPK := Lib.hid hpk
    have HBY := Lib.hid hby
    clear hv hpk hby
    go_wp2_with fail
    have X1 := X1.set5 (.int .i64 pid) (.int .i64 cnt) (.bool st) (.int .i64 clk) (.slice A' pl.length c')
    have X2 := X2.far5 (g' := w.heap.size) (by omega) (.int .i64 pid) (.int .i64 cnt) (.bool st) (.int .i64 clk) (.slice A' pl.length c')
    have B1 := bset5 (g := w.heap.size) B1 (Nat.le_refl _) (.int .i64 pid) (.int .i64 cnt) (.bool st) (.int .i64 clk) (.slice A' pl.length c')
    clear u0 u1 u2 u3 u4 u5 v0 v1 v2 v3 v4 v5 t1 t2
    generalize ((((w1.setCell ⟨w.heap.size, 0, none⟩ (.int .i64 pid)).setCell ⟨w.heap.size, 1, none⟩ (.int .i64 cnt)).setCell ⟨w.heap.size, 2, none⟩ (.bool st)).setCell ⟨w.heap.size, 3, none⟩ (.int .i64 clk)).setCell ⟨w.heap.size, 4, none⟩ (.slice A' pl.length c') = W5 at *
    have hB5 := HBY.out (· < w.heap.size) W5 (HL1.out.below B1 (fun _ _ h => h))
    refine (bytes_Clone A' pl.length c' pl W5 hB5 (by omega)).mono ?_
    rintro e w6 ⟨A6, n6, c6, rfl, hB6, hb6⟩
    obtain rfl : pl.length = n6 := hB6.len
    have z2 := X2.lt
    have X1 := X1.ext hb6
    have X2 := X2.ext hb6
    have z1 := B1.size
    have B6 := B1.trans (hb6.mono z1)
    clear hB5 B1 hb6
    obtain ⟨u0, u1, u2, u3, u4⟩ := X1.cells5
    have u5 := X2.cell 0 rfl
    have v0 := X1.frozen 0
    have v1 := X1.frozen 1
    have v2 := X1.frozen 2
    have v3 := X1.frozen 3
    have v4 := X1.frozen 4
    have v5 := X2.frozen 0
    have t1 := X1.lt
    have t2 := X2.lt
    go_wp2_with fail
    have Y1 : Bx (w6.setCell ⟨w.heap.size, 4, none⟩ (.slice A6 pl.length c6)) w.heap.size 28 #[.int .i64 pid, .int .i64 cnt, .bool st, .int .i64 clk, .slice A6 pl.length c6] := X1.set_ 4 (.slice A6 pl.length c6)
    have Z1 := (Y1.set5 (.int .i64 pid) (.int .i64 cnt) (.bool st) (.int .i64 clk) (.slice A6 pl.length c6)).far (a := ⟨w.heap.size + 1, 0, none⟩) (by dsimp only; omega) (.int .i64 0)
    have Y2 := (X2.far (a := ⟨w.heap.size, 4, none⟩) (by dsimp only; omega) (.slice A6 pl.length c6)).far5 (g' := w.heap.size) (by omega) (.int .i64 pid) (.int .i64 cnt) (.bool st) (.int .i64 clk) (.slice A6 pl.length c6)
    have Z2 : Bx _ (w.heap.size + 1) 25 #[.int .i64 0] := Y2.set_ 0 (.int .i64 0)
    have B7 := bset (bset5 (g := w.heap.size) (bset B6 ⟨w.heap.size, 4, none⟩ (Nat.le_refl _) (.slice A6 pl.length c6)) (Nat.le_refl _) (.int .i64 pid) (.int .i64 cnt) (.bool st) (.int .i64 clk) (.slice A6 pl.length c6)) ⟨w.heap.size + 1, 0, none⟩ (by dsimp only; omega) (.int .i64 0)
    have HB7 := Lib.hid hB6
    clear hB6 X1 X2 B6 Y1 Y2
    have hfin : TakS l pid cnt st clk pl 0 := .inl ⟨rfl, HV.out, HPK.out⟩
    refine trtake_leave (w := w) (pl := pl) (code := 0) _ _ rfl rfl rfl Z1 Z2 ?_ B7 hfin
    have hB6 := HB7.out
    refine Byt.mono (p := (W5.heap.size ≤ ·)) ?_ (fun b _ h => by omega)
    repeat refine Byt.setCell ?_ (by dsimp only; omega) _
    exact hB6
theorem tr_Take {q : Nat → Prop} (A : Option Addr) (n c : Nat) (l : List Int) (w : World) (hl : Byt q w A n l) (hc : n ≤ c) :
    Calls Try.prog 16 #[.slice A n c] w (RetK w l) := by
  by_cases hn : n = 188
  · subst hn
    obtain ⟨b, off, rfl, _⟩ := hl.addr (by omega)
    exact tr_Take_188 b off c l w hl hc
  · exact tr_Take_short A n c l w hl hn
end Go.Proofs.Ytdnchjmopkhnaaa
