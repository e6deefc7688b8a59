/- loudness.Gated. -/
import Derived.Test.YtcgejbnmbamchaaLdMe
namespace Go.Proofs.Ytcgejbnmbamchaa
open Go.RowKit
attribute [local go_sem ↓] Go.wp_at_zero Go.wp_at_succ

def gateO (X : Snd) : List Nat := if properB X = true then gateL (powersL X) else []
theorem gtd_idle (p q : Addr) (w : World) :
    CallsD Try.prog 46 #[.pointer (some p), .pointer (some q)] .returning w fun e u' w' => e = .returned (.tuple #[]) ∧ u' = .returning ∧ w' = w := by
  refine callsD_of_wpS Try.func46 rfl fun c₀ cs hu => ?_
  apply wpS_seq
  apply wpS_region
  simp [wpOpsS, go_sem, recoverD, hu, Try.ntmps46, Exit.thenS]
  refine wpS_cond (t := false) (by simp [Act.eval, Array.replicate]) ?_
  simp only [Bool.false_eq_true, if_false]
  refine wpS_of_wp (wp_skip ?_)
  cases c₀
  simp_all [bodyPostS, results, Try.results46]
theorem gtd_leave {w : World} {B : Option Addr} {m k : Nat} {er : Int} (a : Act) (W : World) (h2 : a.tmps[2]? = some (.pointer (some ⟨w.heap.size, 0, none⟩))) (h3 : a.tmps[3]? = some (.pointer (some ⟨w.heap.size + 1, 0, none⟩)))
    (hd : a.defers = [{ target := Target.fn (Fn.func 46) #[.pointer (some ⟨w.heap.size, 0, none⟩), .pointer (some ⟨w.heap.size + 1, 0, none⟩)], args := #[] }])
    (X1 : Bx W w.heap.size 23 #[.slice B m k]) (X2 : Bx W (w.heap.size + 1) 27 #[.int .i64 er]) {R : Ending → World → Prop} (hR : R (.returned (.tuple #[.slice B m k, .int .i64 er])) W) :
    bodyPostD Try.prog Try.f23 R .ret a W := by
  have u0 : W.cell? ⟨w.heap.size, 0, none⟩ = some (.slice B m k) := X1.cell 0 rfl
  have u1 : W.cell? ⟨w.heap.size + 1, 0, none⟩ = some (.int .i64 er) := X2.cell 0 rfl
  obtain ⟨tmps, defers⟩ := a
  dsimp only at h2 h3 hd
  subst hd
  refine leaves_cons (f := 46) (args := #[.pointer (some ⟨w.heap.size, 0, none⟩), .pointer (some ⟨w.heap.size + 1, 0, none⟩)]) (by simp) (by simp [go_sem]) ?_
  refine (gtd_idle _ _ _).mono ?_
  rintro e u' w'' ⟨rfl, rfl, rfl⟩
  exact ⟨.tuple #[.slice B m k, .int .i64 er], by simp [results, Try.results23, go_sem, h2, h3, u0, u1], hR⟩
set_option maxRecDepth 100000 in
set_option maxHeartbeats 4000000 in
theorem ld_Gated {p : Nat → Prop} (A : Option Addr) (n c : Nat) (xs : List Ch) (w : World) (h : Pcm p w A n xs) :
    Calls Try.prog 23 #[.slice A n c] w (RetPw w (natI (gateO (sndOf xs))) (powE (sndOf xs))) := by
  have hmf : ∀ (fn : Fn) (first cap : Array Value) (w : World), (Instr.makeFunc fn first cap).run Try.prog w = .ok (.func fn first cap) w := fun _ _ _ _ => rfl
  have B0 : Below w.heap.size w ((w.alloc (.cells #[.slice none 0 0] 23)).alloc (.cells #[.int .i64 0] 27)) := ((Below.refl _ w).alloc (Nat.le_refl _) _).alloc (by simp) _
  have X1 : Bx ((w.alloc (.cells #[.slice none 0 0] 23)).alloc (.cells #[.int .i64 0] 27)) w.heap.size 23 #[.slice none 0 0] := (Bx.new _ _ _).alloc _
  have X2 : Bx ((w.alloc (.cells #[.slice none 0 0] 23)).alloc (.cells #[.int .i64 0] 27)) (w.heap.size + 1) 27 #[.int .i64 0] := Bx.new' _ _ _ _ (by simp)
  obtain ⟨X, hX⟩ : ∃ X, X = sndOf xs := ⟨_, rfl⟩
  have HP := Lib.hid h
  have HX := Lib.hid hX
  have HSM : Hid (∀ c ∈ X, Smp c) := Lib.hid (by rw [hX]; exact h.smp)
  rw [← hX]
  clear h hX
  go_enter_defers Try.func23, Try.ntmps23
  go_upto_region 2 with fail
  have HP2 := Lib.hid (HP.out.ext (B0.mono (Nat.le_refl _)))
  generalize (w.alloc (.cells #[.slice none 0 0] 23)).alloc (.cells #[.int .i64 0] 27) = W at *
  have z1 := X2.lt
  go_wp2_with fail
  refine (ld_Powers A n c xs _ HP2.out).mono ?_
  rintro e w1 ⟨B, m, k, rfl, hits, hb1, hmk⟩
  rw [← HX.out] at hits ⊢
  have x1 := X1.ext hb1
  have x2 := X2.ext hb1
  have b1 := B0.trans (hb1.mono B0.size)
  have l2 := x2.lt
  have f2 := x2.frozen 0
  have c2 := x2.cell 0 rfl
  have HI := Lib.hid hits
  clear hits B0 X1 X2 hb1
  go_upto_region 3 with fail
  have x2 := x2.set_ 0 (.int .i64 (powE X))
  have x1 := x1.far (a := ⟨w.heap.size + 1, 0, none⟩) (by dsimp only; omega) (.int .i64 (powE X))
  have b1 := bset b1 ⟨w.heap.size + 1, 0, none⟩ (by dsimp only; omega) (.int .i64 (powE X))
  have HI2 := Lib.hid ((HI.out.mono (q := (w.heap.size + 1 < ·)) (fun b _ h => by omega)).setCell (a := ⟨w.heap.size + 1, 0, none⟩) (by dsimp only; omega) (.int .i64 (powE X)))
  generalize w1.setCell ⟨w.heap.size + 1, 0, none⟩ (.int .i64 (powE X)) = w2 at *
  clear f2 c2 HI l2
  have l2 := x2.lt
  cases hp : properB X with
  | false =>
    have e1 : powE X = 1 := by unfold powE; rw [hp]; rfl
    have e2 : gateO X = [] := by unfold gateO; rw [hp]; rfl
    rw [e1] at x2
    have c2 := x2.cell 0 rfl
    have c1 := x1.cell 0 rfl
    have f1 := x1.frozen 0
    have f2 := x2.frozen 0
    have Y1 := ((x1.set_ 0 (.slice none 0 0)).far (a := ⟨w.heap.size + 1, 0, none⟩) (by dsimp only; omega) (.int .i64 1)).drew
    have Y2 := ((x2.far (a := ⟨w.heap.size, 0, none⟩) (by dsimp only; omega) (.slice none 0 0)).set_ 0 (.int .i64 1)).drew
    have BZ := (bset (bset b1 ⟨w.heap.size, 0, none⟩ (Nat.le_refl _) (.slice none 0 0)) ⟨w.heap.size + 1, 0, none⟩ (by dsimp only; omega) (.int .i64 1)).drew
    have HE := Lib.hid (And.intro e1 e2)
    rw [e1]
    clear e1 e2 hp HI2
    go_wp2_with fail
    go_region
    all_goals (try go_wp2_with fail)
    all_goals exact gtd_leave _ _ rfl rfl rfl Y1 Y2 ⟨_, _, _, by rw [HE.out.1], by rw [HE.out.2]; exact Its.nil, BZ, Nat.le_refl _⟩
  | true =>
    have e1 : powE X = 0 := by unfold powE; rw [hp]; rfl
    have e4 : powOut X = powersL X := by unfold powOut; rw [hp]; rfl
    have hpw := powOut_pws HSM.out
    rw [e4] at hpw
    have e2 : gateO X = gateL (powersL X) := by unfold gateO; rw [hp]; rfl
    have HI3 : Hid (Its .i64 (w.heap.size + 1 < ·) w2 B m (powersL X)) := Lib.hid (by have := HI2.out; rw [e4] at this; exact this)
    rw [e1] at x2
    have c2 := x2.cell 0 rfl
    have HE := Lib.hid (And.intro e1 e2)
    have HPW := Lib.hid hpw
    rw [e1]
    clear e1 e2 e4 hp HI2 hpw
    go_wp2_with fail
    refine (ld_gate B m k (powersL X) _ HI3.out HPW.out).mono ?_
    rintro e w3 ⟨B3, m3, k3, rfl, hg3, hb3, hmk3⟩
    have x13 := x1.ext hb3
    have x23 := x2.ext hb3
    have b3 := b1.trans (hb3.mono b1.size)
    have HG := Lib.hid hg3
    clear hg3 x1 x2 b1 hb3 c2
    have l3 := x23.lt
    have c2 := x23.cell 0 rfl
    have c1 := x13.cell 0 rfl
    have f1 := x13.frozen 0
    have f2 := x23.frozen 0
    have Y1 := (x13.set_ 0 (.slice B3 m3 k3)).far (a := ⟨w.heap.size + 1, 0, none⟩) (by dsimp only; omega) (.int .i64 0)
    have Y2 := (x23.far (a := ⟨w.heap.size, 0, none⟩) (by dsimp only; omega) (.slice B3 m3 k3)).set_ 0 (.int .i64 0)
    have BZ := bset (bset b3 ⟨w.heap.size, 0, none⟩ (Nat.le_refl _) (.slice B3 m3 k3)) ⟨w.heap.size + 1, 0, none⟩ (by dsimp only; omega) (.int .i64 0)
    have GZ := ((HG.out.setCell (a := ⟨w.heap.size, 0, none⟩) (by dsimp only; omega) (.slice B3 m3 k3)).setCell (a := ⟨w.heap.size + 1, 0, none⟩) (by dsimp only; omega) (.int .i64 0)).mono (q := (w.heap.size ≤ ·)) (fun _ _ h => by omega)
    have HGZ := Lib.hid GZ
    clear GZ
    go_wp2_with fail
    exact gtd_leave _ _ rfl rfl rfl Y1 Y2 ⟨_, _, _, by rw [HE.out.1], by rw [HE.out.2]; exact HGZ.out, BZ, hmk3⟩
end Go.Proofs.Ytcgejbnmbamchaa
