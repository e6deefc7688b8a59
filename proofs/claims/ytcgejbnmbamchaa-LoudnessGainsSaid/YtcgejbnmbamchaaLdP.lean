/- loudness.Powers of proper sound. -/
import Derived.Test.YtcgejbnmbamchaaLdB
import Derived.Deep.DrawnRows
namespace Go.Proofs.Ytcgejbnmbamchaa
open Go.RowKit
attribute [local go_sem ↓] Go.wp_at_zero Go.wp_at_succ

theorem pow_idle (p q : Addr) (w : World) :
    CallsD Try.prog 32 #[.pointer (some p), .pointer (some q)] .returning w fun e u' w' => e = .returned (.tuple #[]) ∧ u' = .returning ∧ w' = w := by
  refine callsD_of_wpS Try.func32 rfl fun c₀ cs hu => ?_
  apply wpS_seq
  apply wpS_region
  simp [wpOpsS, go_sem, recoverD, hu, Try.ntmps32, Exit.thenS]
  refine wpS_cond (t := false) (by simp [Act.eval, Array.replicate]) ?_
  simp only [Bool.false_eq_true, if_false]
  refine wpS_of_wp (wp_skip ?_)
  cases c₀
  simp_all [bodyPostS, results, Try.results32]
/-- What Powers hands back. -/
def RetPw (w : World) (l : List Int) (er : Int) (e : Ending) (w' : World) : Prop :=
  ∃ B m k, e = .returned (.tuple #[.slice B m k, .int .i64 er]) ∧ Its .i64 (w.heap.size ≤ ·) w' B m l ∧ Below w.heap.size w w' ∧ m ≤ k
theorem pow_leave {w : World} {l : List Int} {er : Int} {B : Option Addr} {m k : Nat} (a : Act) (W : World) (h2 : a.tmps[2]? = some (.pointer (some ⟨w.heap.size, 0, none⟩))) (h3 : a.tmps[3]? = some (.pointer (some ⟨w.heap.size + 1, 0, none⟩)))
    (hd : a.defers = [{ target := Target.fn (Fn.func 32) #[.pointer (some ⟨w.heap.size, 0, none⟩), .pointer (some ⟨w.heap.size + 1, 0, none⟩)], args := #[] }])
    (X1 : Bx W w.heap.size 26 #[.slice B m k]) (X2 : Bx W (w.heap.size + 1) 27 #[.int .i64 er])
    (hp : Its .i64 (w.heap.size ≤ ·) W B m l) (hb : Below w.heap.size w W) (hmk : m ≤ k) :
    bodyPostD Try.prog Try.f14 (RetPw w l er) .ret a W := by
  have u0 : W.cell? ⟨w.heap.size, 0, none⟩ = some (.slice B m k) := X1.cell 0 rfl
  have u1 : W.cell? ⟨w.heap.size + 1, 0, none⟩ = some (.int .i64 er) := X2.cell 0 rfl
  obtain ⟨tmps, defers⟩ := a
  dsimp only at h2 h3 hd
  subst hd
  refine leaves_cons (f := 32) (args := #[.pointer (some ⟨w.heap.size, 0, none⟩), .pointer (some ⟨w.heap.size + 1, 0, none⟩)]) (by simp) (by simp [go_sem]) ?_
  refine (pow_idle _ _ _).mono ?_
  rintro e u' w'' ⟨rfl, rfl, rfl⟩
  exact ⟨.tuple #[.slice B m k, .int .i64 er], by simp [results, Try.results14, go_sem, h2, h3, u0, u1], _, _, _, rfl, hp, hb, hmk⟩
/-- A row of numbers of the call's own. -/
def OwI (w : World) (base : Nat) (e : TypeId) (v : Value) (l : List Int) : Prop := w.ownsRow base e 1 v l.length (l.map (Value.int .i64))
theorem OwI.its {w : World} {base : Nat} {e : TypeId} {A : Option Addr} {n c : Nat} {l : List Int} {p : Nat → Prop} (h : OwI w base e (.slice A n c) l) (hp : ∀ b, base ≤ b → p b) : Its .i64 p w A n l ∧ n ≤ c := by
  obtain ⟨A', c', hv, hr⟩ := own_rw h hp
  injection hv with e1 e2 e3
  subst e1 e2 e3
  refine ⟨⟨rfl, fun hn => ?_⟩, ?_⟩
  · obtain ⟨b, off, hA, hpb, _, hc⟩ := hr.2 hn
    exact ⟨b, off, hA, hpb, fun j x hx => hc j _ (by rw [List.getElem?_map, hx]; rfl)⟩
  · rcases h.2 with ⟨hv, hn⟩ | ⟨g, cap, cur, hv, _, _, hnc, _⟩
    · injection hv with _ _ e3; omega
    · injection hv with _ _ e3; omega
theorem OwI.nil {w : World} {base : Nat} {e : TypeId} : OwI w base e (.slice none 0 0) [] := World.ownsRow_nil w base e 1

set_option maxRecDepth 100000 in
set_option maxHeartbeats 1000000 in
theorem ld_Powers_no {p : Nat → Prop} (A : Option Addr) (n c : Nat) (xs : List Ch) (w : World) (h : Pcm p w A n xs) (hp : properB (sndOf xs) = false) :
    Calls Try.prog 14 #[.slice A n c] w (RetPw w [] 1) := by
  have hmf : ∀ (fn : Fn) (first cap : Array Value) (w : World), (Instr.makeFunc fn first cap).run Try.prog w = .ok (.func fn first cap) w := fun _ _ _ _ => rfl
  have B0 : Below w.heap.size w ((w.alloc (.cells #[.slice none 0 0] 26)).alloc (.cells #[.int .i64 0] 27)) := ((Below.refl _ w).alloc (Nat.le_refl _) _).alloc (by simp) _
  have X1 : Bx ((w.alloc (.cells #[.slice none 0 0] 26)).alloc (.cells #[.int .i64 0] 27)) w.heap.size 26 #[.slice none 0 0] := (Bx.new _ _ _).alloc _
  have X2 : Bx ((w.alloc (.cells #[.slice none 0 0] 26)).alloc (.cells #[.int .i64 0] 27)) (w.heap.size + 1) 27 #[.int .i64 0] := Bx.new' _ _ _ _ (by simp)
  have HP := Lib.hid h
  clear h
  go_enter_defers Try.func14, Try.ntmps14
  go_upto_region 2 with fail
  have HP2 := Lib.hid (HP.out.ext (B0.mono (Nat.le_refl _)))
  generalize (w.alloc (.cells #[.slice none 0 0] 26)).alloc (.cells #[.int .i64 0] 27) = W at *
  go_wp2_with fail
  refine (ld_proper A n c xs _ HP2.out).mono ?_
  rintro e w1 ⟨rfl, m, rfl⟩
  rw [hp]
  have c1 : (W.drewN m).cell? ⟨w.heap.size, 0, none⟩ = some (.slice none 0 0) := X1.cell 0 rfl
  have c2 : (W.drewN m).cell? ⟨w.heap.size + 1, 0, none⟩ = some (.int .i64 0) := X2.cell 0 rfl
  have z1 := X1.lt
  have z2 := X2.lt
  have f1 := (X1 : Bx (W.drewN m) _ _ _).frozen 0
  have f2 := (X2 : Bx (W.drewN m) _ _ _).frozen 0
  go_wp2_with fail
  have Y1 := ((X1 : Bx (W.drewN m) _ _ _).set_ 0 (.slice none 0 0)).far (a := ⟨w.heap.size + 1, 0, none⟩) (by dsimp only; omega) (.int .i64 1)
  have Y2 := ((X2 : Bx (W.drewN m) _ _ _).far (a := ⟨w.heap.size, 0, none⟩) (by dsimp only; omega) (.slice none 0 0)).set_ 0 (.int .i64 1)
  have BZ := bset (bset (bdrewN B0 m) ⟨w.heap.size, 0, none⟩ (Nat.le_refl _) (.slice none 0 0)) ⟨w.heap.size + 1, 0, none⟩ (by dsimp only; omega) (.int .i64 1)
  exact pow_leave _ _ rfl rfl rfl Y1 Y2 Its.nil BZ (Nat.le_refl _)
end Go.Proofs.Ytcgejbnmbamchaa
