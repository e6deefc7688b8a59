/- LoudnessGreatest. -/
import Derived.Test.YtcgejbnmbamchaaLdKe
namespace Go.Proofs.Ytcgejbnmbamchaa
open Go.RowKit
attribute [local go_sem ↓] Go.wp_at_zero Go.wp_at_succ

theorem sqs_abs {m : Nat} : ∀ {l : List Int}, Abs m l → sqs l ≤ l.length * ((m * m : Nat) : Int)
  | [], _ => by simp [sqs]
  | x :: l, h => by
    have h1 := h x (by simp)
    have h2 := sqs_abs (l := l) (fun y hy => h y (by simp [hy]))
    have h3 : x * x ≤ ((m * m : Nat) : Int) := by
      have e : x * x = ((x.natAbs * x.natAbs : Nat) : Int) := by rw [Int.natCast_mul]; exact (Int.natAbs_mul_self' x).symm
      rw [e]
      exact_mod_cast Nat.mul_le_mul (show x.natAbs ≤ m by omega) (show x.natAbs ≤ m by omega)
    rw [sqs_cons, List.length_cons]
    push_cast at h2 h3 ⊢
    rw [Int.add_mul, Int.one_mul]
    omega
theorem powAt_abs {m : Nat} : ∀ {X : Snd}, (∀ c ∈ X, Abs m c) → (a : Nat) → powAt X a ≤ X.length * (480 * ((m * m : Nat) : Int))
  | [], _, a => by simp [powAt]
  | c :: X, h, a => by
    have h1 : powC a c ≤ 480 * ((m * m : Nat) : Int) := by
      have h1 := sqs_abs (l := (c.drop a).take 480) (fun x hx => h c (by simp) x (List.mem_of_mem_drop (List.mem_of_mem_take hx)))
      have h2 : ((c.drop a).take 480).length ≤ 480 := by rw [List.length_take]; omega
      exact Int.le_trans h1 (Int.mul_le_mul_of_nonneg_right (by omega) (by omega))
    have h2 := powAt_abs (X := X) (fun d hd => h d (by simp [hd])) a
    simp only [powAt, List.map_cons, List.sum_cons, List.length_cons] at h2 ⊢
    push_cast at h1 h2 ⊢
    rw [Int.add_mul, Int.one_mul]
    omega
theorem madeS_pow {L : List Int} {most : Nat} (h : 3 ≤ most) : ∀ x ∈ powersL (madeS L most), x ≤ 960 * ((most * most : Nat) : Int) := by
  intro x hx
  obtain ⟨k, _, rfl⟩ := List.mem_map.1 hx
  have h1 := powAt_abs (X := madeS L most) (m := most) (fun c hc => by obtain ⟨i, _, rfl⟩ := madeS_mem hc; exact chanK_abs L h i _) (120 * k)
  rw [madeS_len] at h1
  have h2 := chans_le L
  refine Int.le_trans h1 ?_
  rw [← Int.mul_assoc]
  exact Int.mul_le_mul_of_nonneg_right (by omega) (by omega)
theorem sumAt_le {l : List Int} {B : Int} (hB : 0 ≤ B) (h : ∀ x ∈ l, x ≤ B) : ∀ (g : List Nat), sumAt l g ≤ g.length * B
  | [] => by simp [sumAt]
  | i :: g => by
    have h1 : l.getD i 0 ≤ B := by
      rw [List.getD_eq_getElem?_getD]
      cases hi : l[i]? with
      | none => exact hB
      | some x => exact h x (List.mem_of_getElem? hi)
    have h2 := sumAt_le hB h g
    simp only [sumAt, List.map_cons, List.sum_cons, List.length_cons] at h2 ⊢
    push_cast
    rw [Int.add_mul, Int.one_mul]
    omega
/-- The measure is at most B where no window has more than 480 B. -/
theorem meas_le {l : List Int} {B : Nat} (h0 : ∀ x ∈ l, 0 ≤ x ∧ x ≤ 2061584302080) (h : ∀ x ∈ l, x ≤ 480 * (B : Int)) : measNn l ≤ B * measDn l := by
  unfold measNn measDn
  split
  · omega
  · rename_i hz
    have h1 := sumAt_le (by omega) h (gateL l)
    have h2 := sumAt_bound h0 (gateL l)
    obtain ⟨c, hc⟩ : ∃ c, c = (gateL l).length := ⟨_, rfl⟩
    have h3 : gateSum l = sumAt l (gateL l) := rfl
    rw [← hc] at h1 hz ⊢
    rw [← h3] at h1 h2
    obtain ⟨S, hS⟩ := Int.eq_ofNat_of_zero_le h2.1
    rw [hS] at h1 ⊢
    rw [Int.toNat_natCast]
    have h4 : S ≤ B * (480 * c) := by
      have e : (c : Int) * (480 * (B : Int)) = ((c * (480 * B) : Nat) : Int) := by rw [Int.natCast_mul, Int.natCast_mul]; rfl
      rw [e] at h1
      have e2 : B * (480 * c) = c * (480 * B) := by rw [Nat.mul_left_comm, Nat.mul_comm B c, Nat.mul_left_comm]
      rw [e2]
      exact Int.ofNat_le.1 h1
    have hg : 0 < Nat.gcd S (480 * c) := Nat.gcd_pos_of_pos_right _ (by omega)
    have hd := Nat.gcd_dvd_right S (480 * c)
    rw [← Nat.mul_div_assoc _ hd]
    exact Nat.div_le_div_right h4
set_option maxRecDepth 100000 in
set_option maxHeartbeats 4000000 in
theorem law_LoudnessGreatest (A : Option Addr) (n c : Nat) (L : List Int) (t p : Int) (w : World) (h : Its .i64 (fun _ => True) w A n L) (ht : 0 ≤ t ∧ t ≤ 65535) (hp : 0 ≤ p ∧ p ≤ 65535) (hok : IntsOk L) :
    Calls Try.prog 4 #[.slice A n c, .int .u16 t, .int .u16 p] w fun e w' => e = .returned (.bool true) ∧ Below w.heap.size w w' := by
  obtain ⟨T, rfl⟩ := Int.eq_ofNat_of_zero_le ht.1
  obtain ⟨P, rfl⟩ := Int.eq_ofNat_of_zero_le hp.1
  have hand := u16_and P (by omega)
  obtain ⟨pk, hpk⟩ : ∃ pk, pk = P % 32768 := ⟨_, rfl⟩
  rw [← hpk] at hand
  have hpkb : pk ≤ 32767 := by omega
  have hTb : T ≤ 65535 := by omega
  have hmade := law_made A n c L 200 w (h.mono (fun b hb _ => hb)) hok (by omega) (by omega)
  have HMD := Lib.hid hmade
  clear hpk hmade h ht hp
  go_enter Try.func4, Try.ntmps4
  go_wp2_with fail
  refine HMD.out.mono ?_
  rintro e w1 ⟨B, m1, k1, xs, rfl, hxs, hpc, -, -, hb1⟩
  have HPC := Lib.hid hpc
  have hprop := made_ok hxs
  have hpw := powOut_pws hpc.smp
  have e0 : powOut (sndOf xs) = powersL (sndOf xs) := by unfold powOut; rw [hprop]; rfl
  rw [e0] at hpw
  have hsm : ∀ x ∈ powersL (sndOf xs), x ≤ 480 * ((80000 : Nat) : Int) := by
    intro x hx
    rw [hxs] at hx
    have := madeS_pow (most := 200) (by omega) x hx
    omega
  have hml := meas_le hpw.2 hsm
  have hnb := measN_bound hpw
  have hdb := measD_bound hpw
  obtain ⟨X, hX⟩ : ∃ X, X = sndOf xs := ⟨_, rfl⟩
  rw [← hX] at hprop hpw hml hnb hdb
  have e1 : powE X = 0 := by unfold powE; rw [hprop]; rfl
  have e2 : measOutN X = (measNn (powersL X) : Int) := by unfold measOutN; rw [hprop]; exact measN_nat _
  have e3 : measOutD X = (measDn (powersL X) : Int) := by unfold measOutD; rw [hprop]; exact measD_nat _
  have hpb := peakF_bound (X := X) (by rw [hX]; exact hpc.smp)
  obtain ⟨pp, hpp⟩ := Int.eq_ofNat_of_zero_le hpb.1
  rw [hpp] at hpb
  have hppb : pp ≤ 32768 := by omega
  obtain ⟨num, hnum⟩ : ∃ num, num = measNn (powersL X) := ⟨_, rfl⟩
  obtain ⟨den, hden⟩ : ∃ den, den = measDn (powersL X) := ⟨_, rfl⟩
  rw [← hnum] at hml hnb e2
  rw [← hden] at hml hdb e3
  have HPR := Lib.hid hprop
  have HX := Lib.hid hX
  have HE := Lib.hid (And.intro e1 (And.intro e2 (And.intro e3 hpp)))
  have HND := Lib.hid (And.intro hnum hden)
  have hnb2 : num ≤ 1099511627776 := by omega
  clear hxs hpc hprop hpw e0 hsm hX e1 e2 e3 hpp hnum hden hnb hpb
  go_wp2_with fail
  refine (ld_Gain_yes B m1 k1 xs T pk _ HPC.out (by rw [← HX.out]; exact HPR.out) (by omega) hpkb).mono ?_
  rintro e w2 ⟨r, hr, rfl, hb2⟩
  rw [← HX.out, HE.out.2.2.2, Int.toNat_natCast] at hr
  have HR := Lib.hid hr
  have hrb := hr.1
  have HPC2 := Lib.hid (HPC.out.ext hb2)
  have B2 := hb1.trans (hb2.mono hb1.size)
  clear hr hb1 hb2
  go_wp2_with fail
  refine (ld_Measure B m1 k1 xs _ HPC2.out).mono ?_
  rintro e w3 ⟨rfl, hb3⟩
  rw [← HX.out, HE.out.1, HE.out.2.1, HE.out.2.2.1]
  have B3 := B2.trans (hb3.mono B2.size)
  have HPC3 := Lib.hid (HPC2.out.ext hb3)
  go_upto_region 5 with fail
  have x4 := Bx.new w3 38 #[.int .i64 (num : Int), .int .i64 (den : Int)]
  have B4 := B3.alloc B3.size (.cells #[.int .i64 (num : Int), .int .i64 (den : Int)] 38)
  have HPC4 := Lib.hid (HPC3.out.alloc (.cells #[.int .i64 (num : Int), .int .i64 (den : Int)] 38))
  generalize w3.alloc (.cells #[.int .i64 (num : Int), .int .i64 (den : Int)] 38) = w4 at *
  generalize w3.heap.size = gm at *
  clear hb3 B2 B3
  go_wp2_with fail
  refine (ld_Peak B m1 k1 xs _ HPC4.out).mono ?_
  rintro e w5 ⟨rfl, m5, rfl⟩
  rw [← HX.out, HE.out.2.2.2]
  have x5 := x4.drewN m5
  have B5 := bdrewN B4 m5
  generalize w4.drewN m5 = w5 at *
  have c0 := x5.cell 0 rfl
  have c1 := x5.cell 1 rfl
  have l5 := x5.lt
  have j1 : decide ((r : Int) < 0) = false := decide_eq_false (by omega)
  have j2 : decide (65536 < (r : Int)) = false := decide_eq_false (by omega)
  have j3 : decide ((den : Int) < 1) = false := decide_eq_false (by omega)
  have j4 : decide ((num : Int) < 0) = false := decide_eq_false (by omega)
  have j5 : decide (1099511627776 < (num : Int)) = false := decide_eq_false (by omega)
  have j6 : decide (4194304 < (den : Int)) = false := decide_eq_false (by omega)
  clear B4 x4
  go_wp2_with fail
  refine (law_keeps r num den T pp pk _ (by omega) hnb2 (by omega) hTb hppb hpkb (by omega)).mono ?_
  rintro e w6 ⟨rfl, hb6⟩
  have B6 := B5.trans (hb6.mono B5.size)
  have x6 := x5.ext hb6
  rw [show gainB r num den T pp pk = true by have := HR.out.2.1; rwa [← HND.out.1, ← HND.out.2] at this]
  clear c0 c1 hb6
  have c0 := x6.cell 0 rfl
  have c1 := x6.cell 1 rfl
  have l6 := x6.lt
  by_cases hr6 : r = 65536
  · subst hr6
    go_wp2_with fail
    refine (law_awake _).mono ?_
    rintro e w7 ⟨rfl, hb7⟩
    go_wp2_with fail
    go_ret
    exact ⟨rfl, B6.trans (hb7.mono B6.size)⟩
  · have hrz : ((r : Int) == 65536) = false := by simp; omega
    have hrz2 : ¬ (r : Int) = 65536 := by omega
    have HR1 : Hid ((r : Int) + 1 = ((r + 1 : Nat) : Int)) := Lib.hid (by omega)
    have hg1 : gainB (r + 1) num den T pp pk = false := by have := HR.out.2.2 (by omega); rwa [← HND.out.1, ← HND.out.2] at this
    have HG1 := Lib.hid hg1
    clear hg1
    go_wp2_with fail
    rw [HR1.out]
    refine (law_keeps (r + 1) num den T pp pk _ (by omega) hnb2 (by omega) hTb hppb hpkb (by omega)).mono ?_
    rintro e w7 ⟨rfl, hb7⟩
    rw [HG1.out]
    have B7 := B6.trans (hb7.mono B6.size)
    go_wp2_with fail
    refine (law_awake _).mono ?_
    rintro e w8 ⟨rfl, hb8⟩
    go_wp2_with fail
    go_ret
    exact ⟨rfl, B7.trans (hb8.mono B7.size)⟩
end Go.Proofs.Ytcgejbnmbamchaa
