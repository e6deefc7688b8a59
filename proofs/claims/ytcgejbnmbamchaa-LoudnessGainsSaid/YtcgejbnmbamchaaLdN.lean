/- loudness.Gain of proper sound with limits in range. -/
import Derived.Test.YtcgejbnmbamchaaLdC
namespace Go.Proofs.Ytcgejbnmbamchaa
open Go.RowKit
attribute [local go_sem ↓] Go.wp_at_zero Go.wp_at_succ

theorem run_store_func {P : Program} {w : World} {a : Addr} {m : Mode} (f : Fn) (x y : Array Value) : (store a (.func f x y) m).run P w = stored P w a (.func f x y) m := run_store P w a _ m rfl
attribute [local go_sem] run_store_func
def measNn (l : List Int) : Nat := if (gateL l).length = 0 then 0 else (gateSum l).toNat / Nat.gcd (gateSum l).toNat (480 * (gateL l).length)
def measDn (l : List Int) : Nat := if (gateL l).length = 0 then 1 else (480 * (gateL l).length) / Nat.gcd (gateSum l).toNat (480 * (gateL l).length)
theorem measN_nat (l : List Int) : measN l = (measNn l : Int) := by unfold measN measNn; split <;> rfl
theorem measD_nat (l : List Int) : measD l = (measDn l : Int) := by unfold measD measDn; split <;> rfl
theorem measN_bound {l : List Int} (h : Pws l) : measNn l ≤ 18007938878668800 := by
  unfold measNn
  split
  · omega
  · have h1 := sumAt_bound h.2 (gateL l)
    have h2 := gateL_len l
    have h3 := h.1
    have h4 : gateSum l = sumAt l (gateL l) := rfl
    exact Nat.le_trans (Nat.div_le_self _ _) (by rw [h4]; omega)
theorem measD_bound {l : List Int} (h : Pws l) : 1 ≤ measDn l ∧ measDn l ≤ 4192800 := by
  unfold measDn
  split
  · omega
  · rename_i hz
    have h2 := gateL_len l
    have h3 := h.1
    refine ⟨?_, Nat.le_trans (Nat.div_le_self _ _) (by omega)⟩
    have hp : 0 < Nat.gcd (gateSum l).toNat (480 * (gateL l).length) := Nat.gcd_pos_of_pos_right _ (by omega)
    exact (Nat.le_div_iff_mul_le hp).2 (by rw [Nat.one_mul]; exact Nat.gcd_le_right _ (by omega))
/-- r is the greatest gain that keeps both limits. -/
def GainIs (l : List Int) (p T pk r : Nat) : Prop := r ≤ 65536 ∧ gainB r (measNn l) (measDn l) T p pk = true ∧ (r < 65536 → gainB (r + 1) (measNn l) (measDn l) T p pk = false)
theorem gain_uniq {l : List Int} {p T pk r s : Nat} (h1 : GainIs l p T pk r) (h2 : GainIs l p T pk s) : r = s := by
  obtain ⟨a1, a2, a3⟩ := h1
  obtain ⟨b1, b2, b3⟩ := h2
  rcases Nat.lt_trichotomy r s with h | h | h
  · have := gainB_mono (a := r + 1) (b := s) (by omega) b2
    rw [a3 (by omega)] at this
    cases this
  · exact h
  · have := gainB_mono (a := s + 1) (b := r) (by omega) a2
    rw [b3 (by omega)] at this
    cases this
theorem gainB_zero (num den T p pk : Nat) : gainB 0 num den T p pk = true := by simp [gainB]
theorem ld_notfits (t num den T p pk gm gt gl gp gf : Nat) (W : World) (b1 : t + 1 ≤ 65536) (b2 : num ≤ 9223372036854775807) (b3 : den ≤ 9223372036854775807) (b4 : T ≤ 4294967296) (b5 : p ≤ 32768) (b6 : pk ≤ 32767)
    (c1 : W.cell? ⟨gm, 0, none⟩ = some (.int .i64 (num : Int))) (c2 : W.cell? ⟨gm, 1, none⟩ = some (.int .i64 (den : Int))) (c3 : W.cell? ⟨gt, 0, none⟩ = some (.int .i64 (T : Int))) (c4 : W.cell? ⟨gl, 0, none⟩ = some (.int .i64 (p : Int))) (c5 : W.cell? ⟨gp, 0, none⟩ = some (.int .i64 (pk : Int)))
    (c6 : W.cell? ⟨gf, 0, none⟩ = some (.func (Fn.func 38) #[] #[.pointer (some ⟨gm, 0, none⟩), .pointer (some ⟨gt, 0, none⟩), .pointer (some ⟨gl, 0, none⟩), .pointer (some ⟨gp, 0, none⟩)])) :
    Calls Try.prog 42 #[.int .i64 (t : Int), .pointer (some ⟨gf, 0, none⟩)] W fun e w' => e = .returned (.bool (!gainB (t + 1) num den T p pk)) ∧ ∃ m, w' = W.drewN m := by
  have hc := ld_fits (t + 1) num den T p pk gm gt gl gp W b1 b2 b3 b4 b5 b6 c1 c2 c3 c4 c5
  have e1 : ((t : Int) + 1) = ((t + 1 : Nat) : Int) := by omega
  have HC := Lib.hid hc
  have HE := Lib.hid e1
  clear hc e1 c1 c2 c3 c4 c5
  go_enter Try.func42, Try.ntmps42
  go_wp2_with fail
  rw [HE.out]
  refine HC.out.mono ?_
  rintro e w1 ⟨rfl, m, rfl⟩
  go_wp2_with fail
  go_ret
  exact ⟨rfl, m, rfl⟩
theorem gain_idle (p q : Addr) (w : World) :
    CallsD Try.prog 37 #[.pointer (some p), .pointer (some q)] .returning w fun e u' w' => e = .returned (.tuple #[]) ∧ u' = .returning ∧ w' = w := by
  refine callsD_of_wpS Try.func37 rfl fun c₀ cs hu => ?_
  apply wpS_seq
  apply wpS_region
  simp [wpOpsS, go_sem, recoverD, hu, Try.ntmps37, Exit.thenS]
  refine wpS_cond (t := false) (by simp [Act.eval, Array.replicate]) ?_
  simp only [Bool.false_eq_true, if_false]
  refine wpS_of_wp (wp_skip ?_)
  cases c₀
  simp_all [bodyPostS, results, Try.results37]
theorem gain_leave {w : World} {r er : Int} (a : Act) (W : World) (h2 : a.tmps[6]? = some (.pointer (some ⟨w.heap.size + 1 + 1, 0, none⟩))) (h3 : a.tmps[7]? = some (.pointer (some ⟨w.heap.size + 1 + 1 + 1, 0, none⟩)))
    (hd : a.defers = [{ target := Target.fn (Fn.func 37) #[.pointer (some ⟨w.heap.size + 1 + 1, 0, none⟩), .pointer (some ⟨w.heap.size + 1 + 1 + 1, 0, none⟩)], args := #[] }])
    (X1 : Bx W (w.heap.size + 1 + 1) 3 #[.int .i64 r]) (X2 : Bx W (w.heap.size + 1 + 1 + 1) 27 #[.int .i64 er]) {R : Ending → World → Prop} (hR : R (.returned (.tuple #[.int .i64 r, .int .i64 er])) W) :
    bodyPostD Try.prog Try.f20 R .ret a W := by
  have u0 : W.cell? ⟨w.heap.size + 1 + 1, 0, none⟩ = some (.int .i64 r) := X1.cell 0 rfl
  have u1 : W.cell? ⟨w.heap.size + 1 + 1 + 1, 0, none⟩ = some (.int .i64 er) := X2.cell 0 rfl
  obtain ⟨tmps, defers⟩ := a
  dsimp only at h2 h3 hd
  subst hd
  refine leaves_cons (f := 37) (args := #[.pointer (some ⟨w.heap.size + 1 + 1, 0, none⟩), .pointer (some ⟨w.heap.size + 1 + 1 + 1, 0, none⟩)]) (by simp) (by simp [go_sem]) ?_
  refine (gain_idle _ _ _).mono ?_
  rintro e u' w'' ⟨rfl, rfl, rfl⟩
  exact ⟨.tuple #[.int .i64 r, .int .i64 er], by simp [results, Try.results20, go_sem, h2, h3, u0, u1], hR⟩

set_option maxRecDepth 100000 in
set_option maxHeartbeats 4000000 in
theorem ld_Gain_yes {p : Nat → Prop} (A : Option Addr) (n c : Nat) (xs : List Ch) (T pk : Nat) (w : World) (h : Pcm p w A n xs) (hp : properB (sndOf xs) = true) (hT : T ≤ 4294967296) (hpk : pk ≤ 32767) :
    Calls Try.prog 20 #[.slice A n c, .int .i64 (T : Int), .int .i64 (pk : Int)] w fun e w' => ∃ r : Nat, GainIs (powersL (sndOf xs)) (peakF (sndOf xs)).toNat T pk r ∧ e = .returned (.tuple #[.int .i64 (r : Int), .int .i64 0]) ∧ Below w.heap.size w w' := by
  have hmf : ∀ (fn : Fn) (first cap : Array Value) (w : World), (Instr.makeFunc fn first cap).run Try.prog w = .ok (.func fn first cap) w := fun _ _ _ _ => rfl
  obtain ⟨X, hX⟩ : ∃ X, X = sndOf xs := ⟨_, rfl⟩
  have HP := Lib.hid (h.mono (q := (· < w.heap.size)) (fun b hb _ => hb))
  have HX := Lib.hid hX
  have HSM : Hid (∀ c ∈ X, Smp c) := Lib.hid (by rw [hX]; exact h.smp)
  have HPR : Hid (properB X = true) := Lib.hid (by rw [hX]; exact hp)
  rw [← hX]
  clear h hX hp
  go_enter_defers Try.func20, Try.ntmps20
  go_upto_region 2 with fail
  have X4 : Bx ((((w.alloc (.cells #[.int .i64 (T : Int)] 2)).alloc (.cells #[.int .i64 (pk : Int)] 3)).alloc (.cells #[.int .i64 0] 3)).alloc (.cells #[.int .i64 0] 27)) w.heap.size 2 #[.int .i64 (T : Int)] := (((Bx.new w _ _).alloc _).alloc _).alloc _
  have X5 : Bx ((((w.alloc (.cells #[.int .i64 (T : Int)] 2)).alloc (.cells #[.int .i64 (pk : Int)] 3)).alloc (.cells #[.int .i64 0] 3)).alloc (.cells #[.int .i64 0] 27)) (w.heap.size + 1) 3 #[.int .i64 (pk : Int)] := ((Bx.new' _ _ _ _ (by simp)).alloc _).alloc _
  have X6 : Bx ((((w.alloc (.cells #[.int .i64 (T : Int)] 2)).alloc (.cells #[.int .i64 (pk : Int)] 3)).alloc (.cells #[.int .i64 0] 3)).alloc (.cells #[.int .i64 0] 27)) (w.heap.size + 1 + 1) 3 #[.int .i64 0] := (Bx.new' _ _ _ _ (by simp)).alloc _
  have X7 : Bx ((((w.alloc (.cells #[.int .i64 (T : Int)] 2)).alloc (.cells #[.int .i64 (pk : Int)] 3)).alloc (.cells #[.int .i64 0] 3)).alloc (.cells #[.int .i64 0] 27)) (w.heap.size + 1 + 1 + 1) 27 #[.int .i64 0] := Bx.new' _ _ _ _ (by simp)
  have B0 := ((((Below.refl _ w).alloc (Nat.le_refl _) (.cells #[.int .i64 (T : Int)] 2)).alloc (by simp) (.cells #[.int .i64 (pk : Int)] 3)).alloc (by simp; omega) (.cells #[.int .i64 0] 3)).alloc (by simp; omega) (.cells #[.int .i64 0] 27)
  generalize (((w.alloc (.cells #[.int .i64 (T : Int)] 2)).alloc (.cells #[.int .i64 (pk : Int)] 3)).alloc (.cells #[.int .i64 0] 3)).alloc (.cells #[.int .i64 0] 27) = W at *
  have HP2 := Lib.hid (HP.out.ext (B0.mono (Nat.le_refl _)))
  go_wp2_with fail
  refine (ld_proper A n c xs _ HP2.out).mono ?_
  rintro e w1 ⟨rfl, m, rfl⟩
  rw [← HX.out, HPR.out]
  have X4 := X4.drewN m
  have X5 := X5.drewN m
  have X6 := X6.drewN m
  have X7 := X7.drewN m
  have B1 := bdrewN B0 m
  have HP3 := Lib.hid (HP2.out.drewN m)
  generalize W.drewN m = w1 at *
  clear B0 HP2
  have c4 := X4.cell 0 rfl
  have c5 := X5.cell 0 rfl
  have l7 := X7.lt
  have k1 : decide ((T : Int) < 0) = false := decide_eq_false (by omega)
  have k2 : decide (4294967296 < (T : Int)) = false := decide_eq_false (by omega)
  have k3 : decide ((pk : Int) < 0) = false := decide_eq_false (by omega)
  have k4 : decide (32767 < (pk : Int)) = false := decide_eq_false (by omega)
  go_wp2_with fail
  refine (ld_Measure A n c xs _ HP3.out).mono ?_
  rintro e w2 ⟨rfl, hb2⟩
  have hpw := powOut_pws HSM.out
  have e0 : powOut X = powersL X := by unfold powOut; rw [HPR.out]; rfl
  rw [e0] at hpw
  obtain ⟨l, hl⟩ : ∃ l, l = powersL X := ⟨_, rfl⟩
  rw [← hl] at hpw
  have e1 : powE X = 0 := by unfold powE; rw [HPR.out]; rfl
  have e2 : measOutN X = (measNn l : Int) := by unfold measOutN; rw [HPR.out, hl]; exact measN_nat _
  have e3 : measOutD X = (measDn l : Int) := by unfold measOutD; rw [HPR.out, hl]; exact measD_nat _
  rw [← HX.out, e1, e2, e3]
  have hnb := measN_bound hpw
  have hdb := measD_bound hpw
  obtain ⟨num, hnum⟩ : ∃ num, num = measNn l := ⟨_, rfl⟩
  obtain ⟨den, hden⟩ : ∃ den, den = measDn l := ⟨_, rfl⟩
  rw [← hnum] at hnb ⊢
  rw [← hden] at hdb ⊢
  have HL := Lib.hid (And.intro hl (And.intro hnum hden))
  have X4 := X4.ext hb2
  have X5 := X5.ext hb2
  have X6 := X6.ext hb2
  have X7 := X7.ext hb2
  have B2 := B1.trans (hb2.mono B1.size)
  have HP4 := Lib.hid (HP3.out.ext hb2)
  clear B1 HP3 hb2 e0 e1 e2 e3 hl hnum hden hpw c4 c5 l7 k1 k2 k3 k4
  have c7 := X7.cell 0 rfl
  have f7 := X7.frozen 0
  have l7 := X7.lt
  go_upto_region 5 with fail
  have hne4 : w.heap.size + 1 + 1 + 1 ≠ w.heap.size := by omega
  have X8 : Bx ((w2.setCell ⟨w.heap.size + 1 + 1 + 1, 0, none⟩ (.int .i64 0)).alloc (.cells #[.int .i64 (num : Int), .int .i64 (den : Int)] 38)) w2.heap.size 38 #[.int .i64 (num : Int), .int .i64 (den : Int)] := Bx.new' _ _ _ _ (by simp [World.setCell])
  have X4 := (X4.far (a := ⟨w.heap.size + 1 + 1 + 1, 0, none⟩) (by dsimp only; omega) (.int .i64 0)).alloc (.cells #[.int .i64 (num : Int), .int .i64 (den : Int)] 38)
  have X5 := (X5.far (a := ⟨w.heap.size + 1 + 1 + 1, 0, none⟩) (by dsimp only; omega) (.int .i64 0)).alloc (.cells #[.int .i64 (num : Int), .int .i64 (den : Int)] 38)
  have X6 := (X6.far (a := ⟨w.heap.size + 1 + 1 + 1, 0, none⟩) (by dsimp only; omega) (.int .i64 0)).alloc (.cells #[.int .i64 (num : Int), .int .i64 (den : Int)] 38)
  have X7 : Bx ((w2.setCell ⟨w.heap.size + 1 + 1 + 1, 0, none⟩ (.int .i64 0)).alloc (.cells #[.int .i64 (num : Int), .int .i64 (den : Int)] 38)) (w.heap.size + 1 + 1 + 1) 27 #[.int .i64 0] := (X7.set_ 0 (.int .i64 0)).alloc (.cells #[.int .i64 (num : Int), .int .i64 (den : Int)] 38)
  have B3 := bset B2 ⟨w.heap.size + 1 + 1 + 1, 0, none⟩ (by dsimp only; omega) (.int .i64 0)
  have HP5 := Lib.hid ((HP4.out.setCell (a := ⟨w.heap.size + 1 + 1 + 1, 0, none⟩) (by dsimp only; omega) (.int .i64 0)).alloc (.cells #[.int .i64 (num : Int), .int .i64 (den : Int)] 38))
  have B4 := B3.alloc B3.size (.cells #[.int .i64 (num : Int), .int .i64 (den : Int)] 38)
  have hgm : w.heap.size + 1 + 1 + 1 < w2.heap.size := l7
  clear B2 B3 HP4 c7 f7 l7
  generalize (w2.setCell ⟨w.heap.size + 1 + 1 + 1, 0, none⟩ (.int .i64 0)).alloc (.cells #[.int .i64 (num : Int), .int .i64 (den : Int)] 38) = w3 at *
  generalize w2.heap.size = gm at *
  have c7 := X7.cell 0 rfl
  go_wp2_with fail
  refine (ld_Peak A n c xs _ HP5.out).mono ?_
  rintro e w4 ⟨rfl, m4, rfl⟩
  have hpb := peakF_bound HSM.out
  obtain ⟨pp, hpp⟩ := Int.eq_ofNat_of_zero_le hpb.1
  rw [← HX.out, hpp]
  rw [hpp] at hpb
  have HPP := Lib.hid hpp
  have X4 := X4.drewN m4
  have X5 := X5.drewN m4
  have X6 := X6.drewN m4
  have X7 := X7.drewN m4
  have X8 := X8.drewN m4
  have B4 := bdrewN B4 m4
  generalize w3.drewN m4 = w3 at *
  have X4 := X4.alloc (.cells #[.int .i64 (pp : Int)] 3)
  have X5 := X5.alloc (.cells #[.int .i64 (pp : Int)] 3)
  have X6 := X6.alloc (.cells #[.int .i64 (pp : Int)] 3)
  have X7 := X7.alloc (.cells #[.int .i64 (pp : Int)] 3)
  have hg8 := X8.lt
  have X8 := X8.alloc (.cells #[.int .i64 (pp : Int)] 3)
  have X9 : Bx (w3.alloc (.cells #[.int .i64 (pp : Int)] 3)) w3.heap.size 3 #[.int .i64 (pp : Int)] := Bx.new _ _ _
  have B5 := B4.alloc B4.size (.cells #[.int .i64 (pp : Int)] 3)
  clear hpp B4 HP5 c7
  go_upto_region 8 with fail
  generalize w3.alloc (.cells #[.int .i64 (pp : Int)] 3) = w5 at *
  generalize w3.heap.size = gl at *
  have hg9 := X9.lt
  have Z1 := Bx.new w5 63 #[.nilFunc]
  have z1 := Z1.cell 0 rfl
  have z2 := Z1.frozen 0
  go_upto_region 9 with fail
  obtain ⟨fv, hfv⟩ : ∃ fv, fv = Value.func (Fn.func 38) #[] #[.pointer (some ⟨gm, 0, none⟩), .pointer (some ⟨w.heap.size, 0, none⟩), .pointer (some ⟨gl, 0, none⟩), .pointer (some ⟨w.heap.size + 1, 0, none⟩)] := ⟨_, rfl⟩
  rw [← hfv]
  have X10 : Bx (w5.alloc (.cells #[fv] 63)) w5.heap.size 63 #[fv] := Bx.new _ _ _
  have X4 := X4.alloc (.cells #[fv] 63)
  have X5 := X5.alloc (.cells #[fv] 63)
  have X6 := X6.alloc (.cells #[fv] 63)
  have X7 := X7.alloc (.cells #[fv] 63)
  have X8 := X8.alloc (.cells #[fv] 63)
  have X9 := X9.alloc (.cells #[fv] 63)
  have B6 := B5.alloc B5.size (.cells #[fv] 63)
  clear B5 z1 z2 Z1
  generalize w5.alloc (.cells #[fv] 63) = w6 at *
  generalize w5.heap.size = gf at *
  have d6 := X10.cell 0 rfl
  rw [hfv] at d6
  have hS := sort_Search 65536 (by omega) ⟨gf, 0, none⟩ (fun t => !gainB (t + 1) num den T pp pk) w6
    (fun s t hst ht hq => by
      simp only [Bool.not_eq_true'] at hq ⊢
      cases hg : gainB (t + 1) num den T pp pk with
      | false => rfl
      | true => rw [gainB_mono (show s + 1 ≤ t + 1 by omega) hg] at hq; cases hq)
    (fun t m ht => (ld_notfits t num den T pp pk gm w.heap.size gl (w.heap.size + 1) gf (w6.drewN m) (by omega) (by omega) (by omega) hT (by omega) hpk (X8.cell 0 rfl) (X8.cell 1 rfl) (X4.cell 0 rfl) (X9.cell 0 rfl) (X5.cell 0 rfl) d6).mono fun e w' ⟨h1, k, h2⟩ => ⟨h1, m + k, by rw [h2, World.drewN_drewN]⟩)
  have HS := Lib.hid hS
  clear hS hfv d6
  go_wp2_with fail
  refine HS.out.mono ?_
  rintro e w7 ⟨r, rfl, hr, hlo, hhi, m7, rfl⟩
  have HR : Hid (GainIs l pp T pk r) := Lib.hid (by
    refine ⟨hr, ?_, fun hlt => ?_⟩
    · rw [← HL.out.2.1, ← HL.out.2.2]
      rcases Nat.eq_zero_or_pos r with h0 | h0
      · subst h0; exact gainB_zero _ _ _ _ _
      · have := hlo (r - 1) (by omega)
        rw [show r - 1 + 1 = r by omega] at this
        simpa using this
    · rw [← HL.out.2.1, ← HL.out.2.2]
      have := hhi r (Nat.le_refl _) hlt
      simpa using this)
  clear hlo hhi
  have X6 := X6.drewN m7
  have X7 := X7.drewN m7
  have B7 := bdrewN B6 m7
  generalize w6.drewN m7 = w7 at *
  have c6 := X6.cell 0 rfl
  have c7 := X7.cell 0 rfl
  have f6 := X6.frozen 0
  have f7 := X7.frozen 0
  have l7 := X7.lt
  have Y6 := (X6.set_ 0 (.int .i64 (r : Int))).far (a := ⟨w.heap.size + 1 + 1 + 1, 0, none⟩) (by dsimp only; omega) (.int .i64 0)
  have Y7 := (X7.far (a := ⟨w.heap.size + 1 + 1, 0, none⟩) (by dsimp only; omega) (.int .i64 (r : Int))).set_ 0 (.int .i64 0)
  have BZ := bset (bset B7 ⟨w.heap.size + 1 + 1, 0, none⟩ (by dsimp only; omega) (.int .i64 (r : Int))) ⟨w.heap.size + 1 + 1 + 1, 0, none⟩ (by dsimp only; omega) (.int .i64 0)
  have HPF : Hid ((peakF X).toNat = pp) := Lib.hid (by rw [HPP.out]; rfl)
  clear X4 X5 X8 X9 X10 B6 B7
  go_wp2_with fail
  exact gain_leave _ _ rfl rfl rfl Y6 Y7 ⟨r, by rw [← HL.out.1, HPF.out]; exact HR.out, rfl, BZ⟩
end Go.Proofs.Ytcgejbnmbamchaa
