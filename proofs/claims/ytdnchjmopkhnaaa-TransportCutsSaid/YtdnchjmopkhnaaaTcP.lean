/- Cut of transport packets. -/
import Derived.Test.YtdnchjmopkhnaaaTcM
import Derived.Test.YtdnchjmopkhnaaaOrd
import Derived.Test.YtdnchjmopkhnaaaTrN
namespace Go.Proofs.Ytdnchjmopkhnaaa
open Go.RowKit

attribute [local go_sem ↓] run_min_mm

theorem drop_next (l : List Int) (r j : Nat) : (l.drop (offT r j)).drop (min (roomJ r j) (l.length - offT r j)) = l.drop (offT r (j + 1)) := by
  rw [List.drop_drop, offT_succ]
  rcases Nat.le_total (roomJ r j) (l.length - offT r j) with h | h
  · rw [Nat.min_eq_left h]
  · rw [Nat.min_eq_right h, List.drop_of_length_le (by omega), List.drop_of_length_le (by omega)]
theorem take_next (l : List Int) (r j : Nat) : (l.drop (offT r j)).take (min (roomJ r j) (l.length - offT r j)) = pcT l r j := by
  unfold pcT
  rcases Nat.le_total (roomJ r j) (l.length - offT r j) with h | h
  · rw [Nat.min_eq_left h]
  · rw [Nat.min_eq_right h, List.take_of_length_le (by rw [List.length_drop]; exact Nat.le_refl _), List.take_of_length_le (by rw [List.length_drop]; exact h)]
theorem roomT_at (clk : Int) (j : Nat) : roomT (if j = 0 then clk else -1) = ((roomJ (roomT clk).toNat j : Nat) : Int) := by
  unfold roomJ
  have := roomT_cases clk
  by_cases h : j = 0
  · rw [if_pos h, if_pos h]; omega
  · rw [if_neg h, if_neg h]; rfl
/-- The boxes of the results. -/
structure TBx (w : World) (T : TypeId) (v : Value) (T2 : TypeId) (v2 : Value) (W : World) : Prop where
  b1 : Bx W w.heap.size T #[v]
  b2 : Bx W (w.heap.size + 1) T2 #[v2]
  be : Below w.heap.size w W
section
variable {w W W' : World} {T T2 : TypeId} {v v2 : Value}
theorem TBx.ext (h : TBx w T v T2 v2 W) (hb : Below W.heap.size W W') : TBx w T v T2 v2 W' := ⟨h.b1.ext hb, h.b2.ext hb, h.be.trans (hb.mono h.be.size)⟩
theorem TBx.drew (h : TBx w T v T2 v2 W) : TBx w T v T2 v2 W.drew := ⟨h.b1.drew, h.b2.drew, h.be.drew⟩
theorem TBx.alloc (h : TBx w T v T2 v2 W) (o : Obj) : TBx w T v T2 v2 (W.alloc o) := h.ext ((Below.refl _ _).alloc (Nat.le_refl _) _)
theorem TBx.start (w : World) (T T2 : TypeId) (v v2 : Value) : TBx w T v T2 v2 ((w.alloc (.cells #[v] T)).alloc (.cells #[v2] T2)) :=
  ⟨(Bx.new _ _ _).alloc _, Bx.new' _ _ _ _ (by simp), ((Below.refl _ _).alloc (Nat.le_refl _) _).alloc (by simp) _⟩
theorem TBx.facts (h : TBx w T v T2 v2 W) : W.cell? ⟨w.heap.size, 0, none⟩ = some v ∧ W.frozen? ⟨w.heap.size, 0, none⟩ = false ∧ w.heap.size < W.heap.size ∧ W.cell? ⟨w.heap.size + 1, 0, none⟩ = some v2 ∧ W.frozen? ⟨w.heap.size + 1, 0, none⟩ = false ∧ w.heap.size + 1 < W.heap.size :=
  ⟨h.b1.cell 0 rfl, h.b1.frozen 0, h.b1.lt, h.b2.cell 0 rfl, h.b2.frozen 0, h.b2.lt⟩
theorem TBx.leave (h : TBx w T v T2 v2 W) (u u2 : Value) : ((W.setCell ⟨w.heap.size, 0, none⟩ u).setCell ⟨w.heap.size + 1, 0, none⟩ u2).cell? ⟨w.heap.size, 0, none⟩ = some u ∧
    ((W.setCell ⟨w.heap.size, 0, none⟩ u).setCell ⟨w.heap.size + 1, 0, none⟩ u2).cell? ⟨w.heap.size + 1, 0, none⟩ = some u2 ∧
    Below w.heap.size w ((W.setCell ⟨w.heap.size, 0, none⟩ u).setCell ⟨w.heap.size + 1, 0, none⟩ u2) :=
  ⟨((h.b1.set_ 0 u).far (by simp) _).cell 0 rfl, ((h.b2.far (by simp) u).set_ 0 u2).cell 0 rfl, bset (bset h.be ⟨w.heap.size, 0, none⟩ (Nat.le_refl _) u) ⟨w.heap.size + 1, 0, none⟩ (by dsimp only; omega) _⟩
end
theorem tcut_idle (p q : Addr) (w : World) :
    CallsD Try.prog 43 #[.pointer (some p), .pointer (some q)] .returning w fun e u' w' => e = .returned (.tuple #[]) ∧ u' = .returning ∧ w' = w := by
  refine callsD_of_wpS Try.func43 rfl fun c₀ cs hu => ?_
  apply wpS_seq
  apply wpS_region
  simp [wpOpsS, go_sem, recoverD, hu, Try.ntmps43, Exit.thenS]
  refine wpS_cond (t := false) (by simp [Act.eval, Array.replicate]) ?_
  simp only [Bool.false_eq_true, if_false]
  refine wpS_of_wp (wp_skip ?_)
  cases c₀
  simp_all [bodyPostS, results, Try.results43]
/-- What comes up while a packet is appended. -/
structure TE where
  Ad : Option Addr
  cd : Nat
  gb : Nat
  A3 : Option Addr
  c3 : Nat
structure TG (w : World) (base : Nat) (pid C ck : Int) (st : Bool) (v : Value) (j nj : Nat) (ks : List TA) (dt : List Int) (env : TE) (d10 d12 d13 d14 : Bool) (W : World) : Prop where
  be : Below w.heap.size w W
  bs : base ≤ W.heap.size
  r0 : d13 = false → OwnT W base 28 v none ks
  z : d10 = true → d13 = false → Byt (fun b => base ≤ b ∧ some b ≠ v.ownBlock ∧ some b ≠ none) W env.Ad nj dt
  zb : d12 = true → d13 = false → Bx W env.gb 28 #[.int .i64 pid, .int .i64 C, .bool st, .int .i64 ck, .slice env.Ad nj env.cd] ∧ some env.gb ≠ v.ownBlock
  r1 : d13 = true → OwnT W base 28 (.slice env.A3 (j + 1) env.c3) none (ks ++ [⟨⟨pid, C, st, ck, dt⟩, env.Ad, nj, env.cd⟩])
  b0 : d14 = false → Bx W w.heap.size 40 #[v]
  b1 : d14 = true → Bx W w.heap.size 40 #[.slice env.A3 (j + 1) env.c3]
  b2 : Bx W (w.heap.size + 1) 25 #[.int .i64 0]
def tuV (A1 : Option Addr) (j c1 b off nu cu nj g8 : Nat) (pid C ck : Int) (st : Bool) (env : TE) : Nat → Value
  | 0 => .slice A1 j c1
  | 1 => .int .i64 pid
  | 2 => .int .i64 C
  | 3 => .slice A1 j c1
  | 4 => .int .i64 (j : Int)
  | 5 => .bool st
  | 6 => .int .i64 ck
  | 7 => .slice (some ⟨b, off, none⟩) nu cu
  | 8 => .int .i64 (nj : Int)
  | 9 => .slice (some ⟨b, off, none⟩) nj cu
  | 10 => .slice env.Ad nj env.cd
  | 11 => .agg #[.int .i64 pid, .int .i64 C, .bool st, .int .i64 ck, .slice env.Ad nj env.cd]
  | 12 => .slice (some ⟨env.gb, 0, none⟩) 1 1
  | 13 => .slice env.A3 (j + 1) env.c3
  | _ => undef
theorem tuV_env {A1 : Option Addr} {j c1 b off nu cu nj g8 : Nat} {pid C ck : Int} {st : Bool} {env : TE} {Ad : Option Addr} {cd : Nat} {i : Nat} (h5 : i ≠ 10) (h6 : i ≠ 11) (h7 : i ≠ 12) (h8 : i ≠ 13) (hl : i < 15) : tuV A1 j c1 b off nu cu nj g8 pid C ck st ⟨Ad, cd, env.gb, env.A3, env.c3⟩ i = tuV A1 j c1 b off nu cu nj g8 pid C ck st env i := by
  rcases (show i = 0 ∨ i = 1 ∨ i = 2 ∨ i = 3 ∨ i = 4 ∨ i = 5 ∨ i = 6 ∨ i = 7 ∨ i = 8 ∨ i = 9 ∨ i = 10 ∨ i = 11 ∨ i = 12 ∨ i = 13 ∨ i = 14 by omega) with rfl | rfl | rfl | rfl | rfl | rfl | rfl | rfl | rfl | rfl | rfl | rfl | rfl | rfl | rfl <;> first | rfl | exact absurd rfl h5 | exact absurd rfl h6 | exact absurd rfl h7 | exact absurd rfl h8
theorem tuV_env' {A1 : Option Addr} {j c1 b off nu cu nj g8 : Nat} {pid C ck : Int} {st : Bool} {env : TE} {Ad : Option Addr} {cd gb : Nat} {i : Nat} (h1 : Ad = env.Ad) (h2 : cd = env.cd) (h7 : i ≠ 12) (h8 : i ≠ 13) (hl : i < 15) : tuV A1 j c1 b off nu cu nj g8 pid C ck st ⟨Ad, cd, gb, env.A3, env.c3⟩ i = tuV A1 j c1 b off nu cu nj g8 pid C ck st env i := by
  subst h1 h2
  rcases (show i = 0 ∨ i = 1 ∨ i = 2 ∨ i = 3 ∨ i = 4 ∨ i = 5 ∨ i = 6 ∨ i = 7 ∨ i = 8 ∨ i = 9 ∨ i = 10 ∨ i = 11 ∨ i = 12 ∨ i = 13 ∨ i = 14 by omega) with rfl | rfl | rfl | rfl | rfl | rfl | rfl | rfl | rfl | rfl | rfl | rfl | rfl | rfl | rfl <;> first | rfl | exact absurd rfl h7 | exact absurd rfl h8
theorem tuV_env2 {A1 : Option Addr} {j c1 b off nu cu nj g8 : Nat} {pid C ck : Int} {st : Bool} {env : TE} {Ad A3 : Option Addr} {cd gb c3 : Nat} {i : Nat} (h1 : Ad = env.Ad) (h2 : cd = env.cd) (h3 : gb = env.gb) (h8 : i ≠ 13) (hl : i < 15) : tuV A1 j c1 b off nu cu nj g8 pid C ck st ⟨Ad, cd, gb, A3, c3⟩ i = tuV A1 j c1 b off nu cu nj g8 pid C ck st env i := by
  subst h1 h2 h3
  rcases (show i = 0 ∨ i = 1 ∨ i = 2 ∨ i = 3 ∨ i = 4 ∨ i = 5 ∨ i = 6 ∨ i = 7 ∨ i = 8 ∨ i = 9 ∨ i = 10 ∨ i = 11 ∨ i = 12 ∨ i = 13 ∨ i = 14 by omega) with rfl | rfl | rfl | rfl | rfl | rfl | rfl | rfl | rfl | rfl | rfl | rfl | rfl | rfl | rfl <;> first | rfl | exact absurd rfl h8
def lenV : Value → Nat
  | .slice _ n _ => n
  | _ => 0

set_option maxRecDepth 100000 in
set_option maxHeartbeats 4000000 in
theorem tr_TCut_no (pid cnt : Int) (A : Option Addr) (n c : Nat) (clk : Int) (w : World) (hno : n = 0 ∨ validT pid cnt false clk 0 = false) :
    Calls Try.prog 24 #[.int .i64 pid, .int .i64 cnt, .slice A n c, .int .i64 clk] w fun e w' => e = .returned (.tuple #[.slice none 0 0, .int .i64 1]) ∧ Below w.heap.size w w' := by
  have hmf : ∀ (fn : Fn) (first cap : Array Value) (w : World), (Instr.makeFunc fn first cap).run Try.prog w = .ok (.func fn first cap) w := fun _ _ _ _ => rfl
  have HP0 := Lib.hid (TBx.start w 40 25 (.slice none 0 0) (.int .i64 0))
  have HV := Lib.hid (fun w' => tr_valid pid cnt false clk none 0 0 w')
  by_cases hn : n = 0
  · subst hn
    clear hno
    go_enter_defers Try.func24, Try.ntmps24
    go_upto_region 2 with fail
    generalize (w.alloc (.cells #[.slice none 0 0] 40)).alloc (.cells #[.int .i64 0] 25) = W0 at *
    have HPX := HP0
    obtain ⟨g1, g2, g3, g4, g5, g6⟩ := HPX.out.facts
    have HRT := Lib.hid (HPX.out.leave (.slice none 0 0) (.int .i64 1))
    go_wp2_with fail
    obtain ⟨z1, z2, zb⟩ := HRT.out
    refine leaves_cons (f := 43) (args := #[.pointer (some ⟨w.heap.size, 0, none⟩), .pointer (some ⟨w.heap.size + 1, 0, none⟩)]) (by simp) (by simp [go_sem]) ?_
    refine (tcut_idle _ _ _).mono ?_
    rintro e u' w'' ⟨rfl, rfl, rfl⟩
    exact ⟨.tuple #[.slice none 0 0, .int .i64 1], by simp [results, Try.results24, go_sem, z1, z2], rfl, zb⟩
  · have d0 : ((n : Int) == 0) = false := by simp; omega
    rw [hno.resolve_left hn] at HV
    clear hno
    go_enter_defers Try.func24, Try.ntmps24
    go_upto_region 2 with fail
    generalize (w.alloc (.cells #[.slice none 0 0] 40)).alloc (.cells #[.int .i64 0] 25) = W0 at *
    go_wp2_with fail
    refine (HV.out _).mono ?_
    rintro e w1 ⟨rfl, hb1⟩
    have HPX := Lib.hid (HP0.out.ext hb1)
    clear hb1
    obtain ⟨g1, g2, g3, g4, g5, g6⟩ := HPX.out.facts
    have HRT := Lib.hid (HPX.out.leave (.slice none 0 0) (.int .i64 1))
    go_wp2_with fail
    obtain ⟨z1, z2, zb⟩ := HRT.out
    refine leaves_cons (f := 43) (args := #[.pointer (some ⟨w.heap.size, 0, none⟩), .pointer (some ⟨w.heap.size + 1, 0, none⟩)]) (by simp) (by simp [go_sem]) ?_
    refine (tcut_idle _ _ _).mono ?_
    rintro e u' w'' ⟨rfl, rfl, rfl⟩
    exact ⟨.tuple #[.slice none 0 0, .int .i64 1], by simp [results, Try.results24, go_sem, z1, z2], rfl, zb⟩

set_option maxRecDepth 100000 in
set_option maxHeartbeats 8000000 in
theorem tr_TCut_yes {p : Nat → Prop} (pid cnt : Int) (A : Option Addr) (n c : Nat) (l : List Int) (clk : Int) (w : World) (hA : Byt p w A n l) (hnc : n ≤ c) (hn : n ≤ 3000) (hn0 : 0 < n) (hv : validT pid cnt false clk 0 = true) :
    Calls Try.prog 24 #[.int .i64 pid, .int .i64 cnt, .slice A n c, .int .i64 clk] w fun e w' => ∃ A' m c' ks N, e = .returned (.tuple #[.slice A' m c', .int .i64 0]) ∧ TPks (w.heap.size ≤ ·) (w.heap.size ≤ ·) w' A' m ks ∧ LastT (roomT clk).toNat n N ∧ datas ks = cutT pid cnt clk l (roomT clk).toNat N ∧ Below w.heap.size w w' := by
  have hmf : ∀ (fn : Fn) (first cap : Array Value) (w : World), (Instr.makeFunc fn first cap).run Try.prog w = .ok (.func fn first cap) w := fun _ _ _ _ => rfl
  have HP0 := Lib.hid (TBx.start w 40 25 (.slice none 0 0) (.int .i64 0))
  have hcn := (validT_spec hv).2.1
  have HV := Lib.hid (fun w' => tr_valid pid cnt false clk none 0 0 w')
  rw [hv] at HV
  have HB := Lib.hid (hA.mono (q := (· < w.heap.size)) (fun b h _ => h))
  have HLN := Lib.hid hA.len
  have HCN := Lib.hid hcn
  have HRT := Lib.hid (fun j => roomT_at clk j)
  have hr1 : 176 ≤ (roomT clk).toNat ∧ (roomT clk).toNat ≤ 184 := by have := roomT_cases clk; omega
  obtain ⟨r, hr⟩ : ∃ r, (roomT clk).toNat = r := ⟨_, rfl⟩
  rw [hr] at HRT hr1 ⊢
  have HR1 := Lib.hid hr1
  clear hr hr1 hv hA hcn
  have d0 : ((n : Int) == 0) = false := by simp; omega
  go_enter_defers Try.func24, Try.ntmps24
  go_upto_region 2 with fail
  generalize (w.alloc (.cells #[.slice none 0 0] 40)).alloc (.cells #[.int .i64 0] 25) = W0 at *
  go_wp2_with fail
  refine (HV.out _).mono ?_
  rintro e w1 ⟨rfl, hb1⟩
  have HPX := Lib.hid (HP0.out.ext hb1)
  clear hb1 d0
  go_wp2_with fail
  go_loopw [1, 2, 3, 10] (fun ct u ck _ wr => ∃ (j : Nat) (Au : Option Addr) (cu : Nat) (A1 : Option Addr) (c1 : Nat) (ks : List TA), (∀ q, q < j → offT r q < n) ∧ ct = .int .i64 ((cnt + (j : Int)) % 16) ∧ u = .slice Au (n - offT r j) cu ∧ n - offT r j ≤ cu ∧ ck = .int .i64 (if j = 0 then clk else -1) ∧ Byt (· < w.heap.size) w Au (n - offT r j) (l.drop (offT r j)) ∧ ks.length = j ∧ datas ks = cutT pid cnt clk l r j ∧ OwnT wr (w.heap.size + 2) 28 (.slice A1 j c1) none ks ∧ TBx w 40 (.slice A1 j c1) 25 (.int .i64 0) wr) (fun _ u _ _ _ => lenV u)
  case atStart =>
    refine ⟨0, A, c, none, 0, [], fun q hq => absurd hq (Nat.not_lt_zero _), ?_, rfl, by rw [offT_zero]; exact hnc, rfl, by rw [offT_zero]; exact HB.out, rfl, rfl, OwnT.nil, HPX.out⟩
    have hcn := HCN.out
    rw [show (cnt + ((0 : Nat) : Int)) % 16 = cnt by omega]
  case round =>
    obtain ⟨j, Au, cu, A1, c1, ks, hq, rfl, rfl, hcu, rfl, hby, hkl, hkv, ho, hP⟩ := hrel
    have hof := offT_ge r (by have := HR1.out; omega) j
    obtain ⟨nu, hnu⟩ : ∃ q, n - offT r j = q := ⟨_, rfl⟩
    obtain ⟨C, hC⟩ : ∃ C, (cnt + (j : Int)) % 16 = C := ⟨_, rfl⟩
    obtain ⟨C', hC'⟩ : ∃ C', (cnt + ((j + 1 : Nat) : Int)) % 16 = C' := ⟨_, rfl⟩
    obtain ⟨ck, hck⟩ : ∃ ck, (if j = 0 then clk else -1) = ck := ⟨_, rfl⟩
    have hrt := HRT.out j
    rw [hck] at hrt
    rw [hnu] at hcu hby ⊢
    rw [hC, hck]
    have HQ := Lib.hid hq
    have HO := Lib.hid ho
    have HKL := Lib.hid hkl
    have HKV := Lib.hid hkv
    have HNU := Lib.hid hnu
    have HCK := Lib.hid hck
    by_cases hlt : 0 < nu
    · have d3 : decide ((0 : Int) < (nu : Int)) = true := decide_eq_true (by omega)
      obtain ⟨b, off, rfl, hpb, hbl, hcells⟩ := hby.addr hlt
      obtain ⟨nj, hnj⟩ : ∃ q, min (roomJ r j) nu = q := ⟨_, rfl⟩
      have hmin : min (nu : Int) (roomT ck) = (nj : Int) := by rw [hrt]; omega
      have hC0 : 0 ≤ C ∧ C < 16 := by omega
      have hCC : (C + 1).tmod 16 = C' := by rw [Int.tmod_eq_emod_of_nonneg (by omega)]; omega
      have wC : IntKind.i64.wrap (C + 1) = C + 1 := IntWalk.i64_in _ (by omega)
      have hnjn : nj ≤ nu := by omega
      have HRH : Hid (∀ w, (Instr.slice 22 (.slice (some ⟨b, off, none⟩) nu cu) none (some (.int .i64 (nj : Int))) none).run Try.prog w = .ok (.slice (some ⟨b, off, none⟩) nj cu) w) := Lib.hid (by
        have := sub_head b off nu cu (nj : Int) (by omega) (by omega)
        simpa using this)
      obtain ⟨A', c', runt, hc', hbt⟩ := sub_tailC b off nu cu nj hnjn hcu
      have hBT := hbt _ _ _ hby
      have HBT : Hid (Byt (· < w.heap.size) w A' (nu - nj) (l.drop (offT r (j + 1)))) := Lib.hid (by
        have e := drop_next l r j
        rw [HLN.out, HNU.out, hnj] at e
        rwa [e] at hBT)
      obtain ⟨dt, hdt⟩ : ∃ q, pcT l r j = q := ⟨_, rfl⟩
      have hBH : Byt (· < w.heap.size) w (some ⟨b, off, none⟩) nj dt := by
        have h2 := Byt.sub (k := 0) (m := nj) hby (by omega)
        rw [Nat.add_zero, List.drop_zero] at h2
        have e := take_next l r j
        rw [HLN.out, HNU.out, hnj, hdt] at e
        rwa [e] at h2
      have HND : Hid (dt.length = nj) := Lib.hid hBH.len
      have HDT := Lib.hid hdt
      have HNJ := Lib.hid hnj
      have HCX := Lib.hid hC
      have HCY := Lib.hid hC'
      have HC' := Lib.hid hc'
      have HRUNT := Lib.hid runt
      have HJ : Hid (j ≤ 3000) := Lib.hid (by omega)
      have HCL : Hid (∀ W', Below w.heap.size w W' → Calls Try.prog 35 #[.slice (some ⟨b, off, none⟩) nj cu] W' (RetB W' dt)) := Lib.hid (fun W' hW' => bytes_Clone _ nj cu dt W' (hBH.below hW' (fun _ _ h => h)) (by omega))
      obtain ⟨st, hst⟩ : ∃ st, ((j : Int) == 0) = st := ⟨_, rfl⟩
      have HST := Lib.hid hst
      have HP := Lib.hid hP
      clear hq ho hkl hkv hnu hck hrt hby hcells hnj hBT hbt hdt hBH hC hC' hc' runt hst hP hof
      go_wp2_with fail
      refine (tr_room ck wr).mono ?_
      rintro e w2 ⟨rfl, rfl⟩
      go_upto_region 6 with fail
      refine wp_region_fixedE (tuV A1 j c1 b off nu cu nj w.heap.size pid C ck st) (fun env D W => TG w (w.heap.size + 2) pid C ck st (.slice A1 j c1) j nj ks dt env (D 10) (D 12) (D 13) (D 14) W) ⟨none, 0, 0, none, 0⟩ (by kernel_rfl) (by kernel_rfl) (by kernel_rfl) ?h0 ?hstep ?hend
      case h0 => exact ⟨HP.out.be.drew, by have := HP.out.b2.lt; show w.heap.size + 2 ≤ wr.heap.size; omega, fun _ => HO.out.ext ((Below.refl _ _).drew), fun h => (by cases h), fun h => (by cases h), fun h => (by cases h), fun _ => HP.out.b1.drew, fun h => (by cases h), HP.out.b2.drew⟩
      case hstep =>
        intro k o ho env D ac wx fr hG hcl hDi hpre hun
        have o0 : ac.tmps[0]?.getD undef = .int .i64 pid := fr.oldT 0 rfl
        have o1 : ac.tmps[1]?.getD undef = .int .i64 C := fr.oldT 1 rfl
        have o2 : ac.tmps[2]?.getD undef = .slice (some ⟨b, off, none⟩) nu cu := fr.oldT 2 rfl
        have o3 : ac.tmps[3]?.getD undef = .int .i64 ck := fr.oldT 3 rfl
        have o8 : ac.tmps[8]?.getD undef = .pointer (some ⟨w.heap.size, 0, none⟩) := fr.oldT 8 rfl
        have o10 : ac.tmps[10]?.getD undef = .int .i64 (nj : Int) := fr.oldT 10 rfl
        have hkn : k < 15 := (List.getElem?_eq_some_iff.1 ho).1
        rcases (show k = 0 ∨ k = 1 ∨ k = 2 ∨ k = 3 ∨ k = 4 ∨ k = 5 ∨ k = 6 ∨ k = 7 ∨ k = 8 ∨ k = 9 ∨ k = 10 ∨ k = 11 ∨ k = 12 ∨ k = 13 ∨ k = 14 by omega) with rfl | rfl | rfl | rfl | rfl | rfl | rfl | rfl | rfl | rfl | rfl | rfl | rfl | rfl | rfl
        all_goals (simp only [List.getElem?_cons_zero, List.getElem?_cons_succ, Option.some.injEq] at ho; subst ho)
        · refine ⟨true, rfl, fun _ => ?_, (fun h => by cases h)⟩
          have n14 : D 14 = false := by
            cases h0 : D 14 with
            | false => rfl
            | true => have h1 := hcl 14 _ rfl h0 ⟨0, .phase⟩ (by simp) rfl; rw [hDi] at h1; cases h1
          have q1 := (hG.b0 n14).cell 0 rfl
          exact wp_value (w' := wx) (by simp [execOp, o8, tuV, go_sem, q1]) ⟨env, fun _ _ _ => rfl, rfl, hG⟩
        · refine ⟨true, rfl, fun _ => wp_value (w' := wx) ?_ ⟨env, fun _ _ _ => rfl, rfl, hG⟩, (fun h => by cases h)⟩
          simp [execOp, o0, tuV, go_sem]
        · refine ⟨true, rfl, fun _ => wp_value (w' := wx) ?_ ⟨env, fun _ _ _ => rfl, rfl, hG⟩, (fun h => by cases h)⟩
          simp [execOp, o1, tuV, go_sem]
        · refine ⟨true, rfl, fun _ => ?_, (fun h => by cases h)⟩
          have n14 : D 14 = false := by
            cases h0 : D 14 with
            | false => rfl
            | true => have h1 := hcl 14 _ rfl h0 ⟨3, .phase⟩ (by simp) rfl; rw [hDi] at h1; cases h1
          have q1 := (hG.b0 n14).cell 0 rfl
          exact wp_value (w' := wx) (by simp [execOp, o8, tuV, go_sem, q1]) ⟨env, fun _ _ _ => rfl, rfl, hG⟩
        · have f3 := fr.atT 3 (hpre ⟨3, .data⟩ (by simp) rfl) rfl
          refine ⟨true, rfl, fun _ => wp_value (w' := wx) ?_ ⟨env, fun _ _ _ => rfl, rfl, hG⟩, (fun h => by cases h)⟩
          simp [execOp, f3, tuV, go_sem]
        · have f4 := fr.atT 4 (hpre ⟨4, .data⟩ (by simp) rfl) rfl
          refine ⟨true, rfl, fun _ => wp_value (w' := wx) ?_ ⟨env, fun _ _ _ => rfl, rfl, hG⟩, (fun h => by cases h)⟩
          simp [execOp, f4, tuV, go_sem, HST.out]
        · refine ⟨true, rfl, fun _ => wp_value (w' := wx) ?_ ⟨env, fun _ _ _ => rfl, rfl, hG⟩, (fun h => by cases h)⟩
          simp [execOp, o3, tuV, go_sem]
        · refine ⟨true, rfl, fun _ => wp_value (w' := wx) ?_ ⟨env, fun _ _ _ => rfl, rfl, hG⟩, (fun h => by cases h)⟩
          simp [execOp, o2, tuV, go_sem]
        · refine ⟨true, rfl, fun _ => wp_value (w' := wx) ?_ ⟨env, fun _ _ _ => rfl, rfl, hG⟩, (fun h => by cases h)⟩
          simp [execOp, o10, tuV, go_sem]
        · have f7 := fr.atT 7 (hpre ⟨7, .data⟩ (by simp) rfl) rfl
          have f8 := fr.atT 8 (hpre ⟨8, .data⟩ (by simp) rfl) rfl
          refine ⟨true, rfl, fun _ => ?_, (fun h => by cases h)⟩
          have e7 := fr.at_ 7 (hpre ⟨7, .data⟩ (by simp) rfl) rfl
          have e8 := fr.at_ 8 (hpre ⟨8, .data⟩ (by simp) rfl) rfl
          simp only [tuV] at e7 e8
          have run := HRH.out wx
          exact wp_value (w' := wx) (by simp [execOp, e7, e8, run, tuV, Instr.sliceAt, Sem.run_bind, Sem.run_pure, Result.andThen]) ⟨env, fun _ _ _ => rfl, rfl, hG⟩
        · have f9 := fr.atT 9 (hpre ⟨9, .data⟩ (by simp) rfl) rfl
          have e9 := fr.at_ 9 (hpre ⟨9, .data⟩ (by simp) rfl) rfl
          refine ⟨true, rfl, fun _ => ?_, (fun h => by cases h)⟩
          have n14 : D 14 = false := by
            cases h0 : D 14 with
            | false => rfl
            | true => have h1 := hcl 14 _ rfl h0 ⟨13, .data⟩ (by simp) rfl; have h2 := hcl 13 _ rfl h1 ⟨12, .data⟩ (by simp) rfl; have h3 := hcl 12 _ rfl h2 ⟨11, .data⟩ (by simp) rfl; have h4 := hcl 11 _ rfl h3 ⟨10, .data⟩ (by simp) rfl; rw [hDi] at h4; cases h4
          have n13 : D 13 = false := by
            cases h0 : D 13 with
            | false => rfl
            | true => have h1 := hcl 13 _ rfl h0 ⟨12, .data⟩ (by simp) rfl; have h2 := hcl 12 _ rfl h1 ⟨11, .data⟩ (by simp) rfl; have h3 := hcl 11 _ rfl h2 ⟨10, .data⟩ (by simp) rfl; rw [hDi] at h3; cases h3
          have n12 : D 12 = false := by
            cases h0 : D 12 with
            | false => rfl
            | true => have h1 := hcl 12 _ rfl h0 ⟨11, .data⟩ (by simp) rfl; have h2 := hcl 11 _ rfl h1 ⟨10, .data⟩ (by simp) rfl; rw [hDi] at h2; cases h2
          have n11 : D 11 = false := by
            cases h0 : D 11 with
            | false => rfl
            | true => have h1 := hcl 11 _ rfl h0 ⟨10, .data⟩ (by simp) rfl; rw [hDi] at h1; cases h1
          refine wp_called (f := 35) (args := #[.slice (some ⟨b, off, none⟩) nj cu]) ?_ (HCL.out wx hG.be) ?_
          · simp [execOp, resolve, invoke, f9, e9, tuV, go_sem]
          · rintro e w' ⟨Ad, nd', cd, rfl, hby, hb9⟩
            obtain rfl : nd' = nj := hby.len.symm.trans HND.out
            have hr0 := hG.r0 n13
            refine ⟨_, rfl, ⟨Ad, cd, env.gb, env.A3, env.c3⟩, fun i hil hi => tuV_env (fun e => by rw [e, hDi] at hi; cases hi) (fun e => by rw [e, n11] at hi; cases hi) (fun e => by rw [e, n12] at hi; cases hi) (fun e => by rw [e, n13] at hi; cases hi) hil, rfl, ?_⟩
            exact ⟨hG.be.trans (hb9.mono hG.be.size), Nat.le_trans hG.bs hb9.size, fun _ => hr0.ext hb9,
              fun _ _ => hby.mono (fun b _ hb => ⟨Nat.le_trans hG.bs hb, fun e => by have := (World.ownsRow.lt hr0.1 b e.symm).2; omega, by simp⟩), fun h => absurd (show D 12 = true from h) (by rw [n12]; exact Bool.false_ne_true), fun h => absurd (show D 13 = true from h) (by rw [n13]; exact Bool.false_ne_true),
              fun h => (hG.b0 h).ext hb9, fun h => absurd (show D 14 = true from h) (by rw [n14]; exact Bool.false_ne_true), hG.b2.ext hb9⟩
        · have f1 := fr.atT 1 (hpre ⟨1, .data⟩ (by simp) rfl) rfl
          have f2 := fr.atT 2 (hpre ⟨2, .data⟩ (by simp) rfl) rfl
          have f5 := fr.atT 5 (hpre ⟨5, .data⟩ (by simp) rfl) rfl
          have f6 := fr.atT 6 (hpre ⟨6, .data⟩ (by simp) rfl) rfl
          have f10 := fr.atT 10 (hpre ⟨10, .data⟩ (by simp) rfl) rfl
          refine ⟨true, rfl, fun _ => wp_value (w' := wx) ?_ ⟨env, fun _ _ _ => rfl, rfl, hG⟩, (fun h => by cases h)⟩
          simp [execOp, f1, f2, f5, f6, f10, tuV, go_sem]
        · have f11 := fr.atT 11 (hpre ⟨11, .data⟩ (by simp) rfl) rfl
          refine ⟨true, rfl, fun _ => ?_, (fun h => by cases h)⟩
          have n14 : D 14 = false := by
            cases h0 : D 14 with
            | false => rfl
            | true => have h1 := hcl 14 _ rfl h0 ⟨13, .data⟩ (by simp) rfl; have h2 := hcl 13 _ rfl h1 ⟨12, .data⟩ (by simp) rfl; rw [hDi] at h2; cases h2
          have n13 : D 13 = false := by
            cases h0 : D 13 with
            | false => rfl
            | true => have h1 := hcl 13 _ rfl h0 ⟨12, .data⟩ (by simp) rfl; rw [hDi] at h1; cases h1
          have d11 : D 11 = true := hpre ⟨11, .data⟩ (by simp) rfl
          have d10 : D 10 = true := hcl 11 _ rfl d11 ⟨10, .data⟩ (by simp) rfl
          have hr0 := hG.r0 n13
          have hz := hG.z d10 n13
          have hb9 := (Below.refl wx.heap.size wx).alloc (Nat.le_refl _) (.cells #[.int .i64 pid, .int .i64 C, .bool st, .int .i64 ck, .slice env.Ad nj env.cd] 28)
          refine wp_value (v := .slice (some ⟨wx.heap.size, 0, none⟩) 1 1) (w' := wx.alloc (.cells #[.int .i64 pid, .int .i64 C, .bool st, .int .i64 ck, .slice env.Ad nj env.cd] 28)) ?_ ⟨⟨env.Ad, env.cd, wx.heap.size, env.A3, env.c3⟩, fun i hil hi => tuV_env' rfl rfl (fun e => by rw [e, hDi] at hi; cases hi) (fun e => by rw [e, n13] at hi; cases hi) hil, rfl, ?_⟩
          · simp [execOp, f11, tuV, go_sem]
          · exact ⟨hG.be.trans (hb9.mono hG.be.size), Nat.le_trans hG.bs hb9.size, fun _ => hr0.ext hb9,
              fun _ _ => hz.ext hb9, fun _ _ => ⟨Bx.new _ _ _, fun e => Nat.lt_irrefl _ (World.ownsRow.lt hr0.1 wx.heap.size e.symm).2⟩, fun h => absurd (show D 13 = true from h) (by rw [n13]; exact Bool.false_ne_true),
              fun h => (hG.b0 h).ext hb9, fun h => absurd (show D 14 = true from h) (by rw [n14]; exact Bool.false_ne_true), hG.b2.ext hb9⟩
        · have f0 := fr.atT 0 (hpre ⟨0, .data⟩ (by simp) rfl) rfl
          have f12 := fr.atT 12 (hpre ⟨12, .data⟩ (by simp) rfl) rfl
          refine ⟨true, rfl, fun _ => ?_, (fun h => by cases h)⟩
          have n14 : D 14 = false := by
            cases h0 : D 14 with
            | false => rfl
            | true => have h1 := hcl 14 _ rfl h0 ⟨13, .data⟩ (by simp) rfl; rw [hDi] at h1; cases h1
          have d12 : D 12 = true := hpre ⟨12, .data⟩ (by simp) rfl
          have d11 : D 11 = true := hcl 12 _ rfl d12 ⟨11, .data⟩ (by simp) rfl
          have d10 : D 10 = true := hcl 11 _ rfl d11 ⟨10, .data⟩ (by simp) rfl
          have hr0 := hG.r0 hDi
          have hz := hG.z d10 hDi
          have hzb := hG.zb d12 hDi
          have hrw : Rw (fun _ => True) wx (some ⟨env.gb, 0, none⟩) 1 5 [.int .i64 pid, .int .i64 C, .bool st, .int .i64 ck, .slice env.Ad nj env.cd] := ⟨rfl, fun _ => ⟨env.gb, 0, rfl, trivial, hzb.1.lt, fun i u hu => by rw [Nat.zero_add]; exact hzb.1.cell i (by simpa using hu)⟩⟩
          obtain ⟨v', w', hrun, ho', hg', ha'⟩ := run_appR (P := Try.prog) wx 40 40 28 (.agg #[.int .i64 0, .int .i64 0, .bool false, .int .i64 0, .slice none 0 0]) 5 56 Try.underlying40 Try.infoTP rfl (by decide) (w.heap.size + 2) (.slice A1 j c1) j (tpCells ks) (by have h := hr0.1; rw [HKL.out] at h; exact h) (some ⟨env.gb, 0, none⟩) 1 1 _ hrw (by simp [Value.oneCell']) (by have := HJ.out; omega) (by omega) hG.bs
          obtain ⟨A3, c3, rfl⟩ := own_slice ho'
          refine wp_value (v := .slice A3 (j + 1) c3) (w' := w') ?_ ?_
          · have e0 := fr.at_ 0 (hpre ⟨0, .data⟩ (by simp) rfl) rfl
            have e1 := fr.at_ 12 (hpre ⟨12, .data⟩ (by simp) rfl) rfl
            simp only [tuV] at e0 e1
            simp only [execOp, resolve, invoke, builtin, Sem.run_bind, Sem.run_pure, Result.andThen_ok, List.map_toArray, List.map_cons, List.map_nil, e0, e1, hrun]
          · refine ⟨⟨env.Ad, env.cd, env.gb, A3, c3⟩, fun i hil hi => tuV_env2 rfl rfl rfl (fun e => by rw [e, hDi] at hi; cases hi) hil, rfl, ?_⟩
            have ob : ∀ g, g < w.heap.size + 2 → some g ≠ (Value.slice A1 j c1).ownBlock := fun g hg e => by have := (World.ownsRow.lt hr0.1 g e.symm).1; omega
            exact ⟨hG.be.grown hg' hG.be.size (fun i hi => by have := (World.ownsRow.lt hr0.1 i hi).1; omega), Nat.le_trans hG.bs hg'.size,
              fun h => (by cases h), fun _ h => (by cases h), fun _ h => (by cases h), fun _ => OwnT.app (x := ⟨⟨pid, C, st, ck, dt⟩, env.Ad, nj, env.cd⟩) hr0 (by rw [HKL.out]; simpa [TA.cells] using ho') hg' ha' hz,
              fun h => (hG.b0 h).grown hg' (ob _ (by omega)), fun h => absurd (show D 14 = true from h) (by rw [n14]; exact Bool.false_ne_true), hG.b2.grown hg' (ob _ (by omega))⟩
        · have f13 := fr.atT 13 (hpre ⟨13, .data⟩ (by simp) rfl) rfl
          refine ⟨true, rfl, fun _ => ?_, (fun h => by cases h)⟩
          have d13 : D 13 = true := hpre ⟨13, .data⟩ (by simp) rfl
          have h0 := hG.b0 hDi
          have hr1 := hG.r1 d13
          have q1 := h0.cell 0 rfl
          have q2 := h0.frozen 0
          refine wp_skipF (w' := wx.setCell ⟨w.heap.size, 0, none⟩ (.slice env.A3 (j + 1) env.c3)) ?_ ⟨env, fun _ _ _ => rfl, rfl, ?_⟩
          · simp [execOp, o8, f13, tuV, go_sem, q1, q2]
          · exact ⟨hG.be.setCell (p := ⟨w.heap.size, 0, none⟩) (Nat.le_refl _) _, by simp only [World.setCell, Array.size_modify]; exact hG.bs,
              fun h => absurd (show D 13 = false from h) (by rw [d13]; exact (fun h => by cases h)), fun _ h => absurd (show D 13 = false from h) (by rw [d13]; exact (fun h => by cases h)), fun _ h => absurd (show D 13 = false from h) (by rw [d13]; exact (fun h => by cases h)),
              fun _ => hr1.setCell (by dsimp only; omega) _, fun h => (by cases h), fun _ => h0.set_ 0 _, hG.b2.far (by simp) _⟩
      case hend =>
        intro env D w7 hG hall
        have h1 := hG.r1 (hall 13 (by decide))
        have HR1' := Lib.hid h1
        have HP7 : Hid (TBx w 40 (.slice env.A3 (j + 1) env.c3) 25 (.int .i64 0) w7) := Lib.hid ⟨hG.b1 (hall 14 (by decide)), hG.b2, hG.be⟩
        simp only [putsU, Act.put, List.setIfInBounds_toArray, List.set_cons_succ, List.set_cons_zero, Nat.zero_add, Nat.reduceAdd, tuV]
        clear hG hall h1 d3 hmin
        have runt := HRUNT.out
        go_wp2_with fail
        go_roundw
        case rel =>
          refine ⟨j + 1, A', c', env.A3, env.c3, ks ++ [⟨⟨pid, C, st, ck, dt⟩, env.Ad, nj, env.cd⟩], fun q hq => ?_, by rw [HCY.out], ?_, ?_, by rw [if_neg (by omega)], ?_, by simp [HKL.out], ?_, HR1'.out, HP7.out⟩
          · rcases Nat.lt_succ_iff_lt_or_eq.1 hq with h | rfl
            · exact HQ.out q h
            · have := HNU.out; omega
          · rw [offT_succ, show n - (offT r j + roomJ r j) = nu - nj by have := HNU.out; have := HNJ.out; omega]
          · rw [offT_succ, show n - (offT r j + roomJ r j) = nu - nj by have := HNU.out; have := HNJ.out; omega]
            exact HC'.out
          · rw [show n - offT r (j + 1) = nu - nj by rw [offT_succ]; have := HNU.out; have := HNJ.out; omega]
            exact HBT.out
          · rw [cutT_succ, ← HKV.out]
            have h2 : decide (j = 0) = st := by
              rw [← HST.out, Bool.eq_iff_iff]
              simp
            simp only [datas, List.map_append, List.map_cons, List.map_nil, pktT, HCX.out, h2, HCK.out, HDT.out]
        case measure =>
          have h1 := HNJ.out
          have h2 := HR1.out
          simp only [lenV]
          unfold roomJ at h1
          split at h1 <;> omega
    · have d3 : decide ((0 : Int) < (nu : Int)) = false := decide_eq_false (by omega)
      have HL : Hid (LastT r n j) := Lib.hid ⟨by omega, hq⟩
      obtain ⟨g1, g2, g3, g4, g5, g6⟩ := hP.facts
      have HRT := Lib.hid (hP.leave (.slice A1 j c1) (.int .i64 0))
      have HO2 := Lib.hid ((HO.out.setCell (a := ⟨w.heap.size, 0, none⟩) (by dsimp only; omega) (.slice A1 j c1)).setCell (a := ⟨w.heap.size + 1, 0, none⟩) (by dsimp only; omega) (.int .i64 0))
      clear hq ho hkl hkv hnu hck hrt hby hC hC' hP hof
      go_wp2_with fail
      obtain ⟨z1, z2, zb⟩ := HRT.out
      refine leaves_cons (f := 43) (args := #[.pointer (some ⟨w.heap.size, 0, none⟩), .pointer (some ⟨w.heap.size + 1, 0, none⟩)]) (by simp) (by simp [go_sem]) ?_
      refine (tcut_idle _ _ _).mono ?_
      rintro e u' w'' ⟨rfl, rfl, rfl⟩
      obtain ⟨A2, c2, hv, hfr⟩ := OwnT.pks HO2.out
      injection hv with q1 q2 q3
      subst q1 q3
      refine ⟨.tuple #[.slice A1 j c1, .int .i64 0], by simp [results, Try.results24, go_sem, z1, z2], A1, j, c1, ks, j, rfl, ?_, HL.out, HKV.out, zb⟩
      have h3 := hfr
      rw [HKL.out] at h3
      exact ⟨h3.1, h3.2.1.mono (fun _ _ h => by omega), fun x hx => (h3.2.2 x hx).mono (fun _ _ h => by omega)⟩
end Go.Proofs.Ytdnchjmopkhnaaa
