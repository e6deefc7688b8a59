/- LoudnessApplies. -/
import Derived.Test.YtcgejbnmbamchaaLawPow
import Derived.Test.YtcgejbnmbamchaaLdY2
import Derived.Test.YtcgejbnmbamchaaLrY2
import Derived.Test.YtcgejbnmbamchaaLdSm
namespace Go.Proofs.Ytcgejbnmbamchaa
open Go.RowKit
attribute [local go_sem ↓] Go.wp_at_zero Go.wp_at_succ

set_option maxRecDepth 100000 in
set_option maxHeartbeats 4000000 in
theorem ld_Apply_no {p : Nat → Prop} (A : Option Addr) (n c : Nat) (g : Int) (xs : List Ch) (w : World) (h : Pcm p w A n xs) (hok : applOk (sndOf xs) g = false) :
    Calls Try.prog 27 #[.slice A n c, .int .i64 g] w (RetAq w [] 1) := by
  have hmf : ∀ (fn : Fn) (first cap : Array Value) (w : World), (Instr.makeFunc fn first cap).run Try.prog w = .ok (.func fn first cap) w := fun _ _ _ _ => rfl
  have B0 : Below w.heap.size w ((w.alloc (.cells #[.slice none 0 0] 22)).alloc (.cells #[.int .i64 0] 27)) := ((Below.refl _ w).alloc (Nat.le_refl _) _).alloc (by simp) _
  have X1 : Bx ((w.alloc (.cells #[.slice none 0 0] 22)).alloc (.cells #[.int .i64 0] 27)) w.heap.size 22 #[.slice none 0 0] := (Bx.new _ _ _).alloc _
  have X2 : Bx ((w.alloc (.cells #[.slice none 0 0] 22)).alloc (.cells #[.int .i64 0] 27)) (w.heap.size + 1) 27 #[.int .i64 0] := Bx.new' _ _ _ _ (by simp)
  have HP := Lib.hid h
  have HOK := Lib.hid hok
  clear h hok
  go_enter_defers Try.func27, Try.ntmps27
  go_upto_region 2 with fail
  generalize (w.alloc (.cells #[.slice none 0 0] 22)).alloc (.cells #[.int .i64 0] 27) = W at *
  go_wp2_with fail
  refine (ld_proper A n c xs _ (HP.out.ext (B0.mono (Nat.le_refl _)))).mono ?_
  rintro e w1 ⟨rfl, m, rfl⟩
  have B1 := bdrewN B0 m
  have X1 := X1.drewN m
  have X2 := X2.drewN m
  generalize W.drewN m = W at *
  have l2 := X2.lt
  have c1 := X1.cell 0 rfl
  have c2 := X2.cell 0 rfl
  have f1 := X1.frozen 0
  have f2 := X2.frozen 0
  have Z1 := (X1.set_ 0 (.slice none 0 0)).far (a := ⟨w.heap.size + 1, 0, none⟩) (by dsimp only; omega) (.int .i64 1)
  have Z2 := (X2.far (a := ⟨w.heap.size, 0, none⟩) (by dsimp only; omega) (.slice none 0 0)).set_ 0 (.int .i64 1)
  have ZB := bset (bset B1 ⟨w.heap.size, 0, none⟩ (Nat.le_refl _) (.slice none 0 0)) ⟨w.heap.size + 1, 0, none⟩ (by dsimp only; omega) (.int .i64 1)
  cases hp : properB (sndOf xs) with
  | false =>
    clear hp
    go_wp2_with fail
    all_goals exact app_leave ⟨_, _, _, rfl⟩ _ _ rfl rfl rfl Z1 Z2 ⟨_, _, _, [], rfl, rfl, ⟨Rw.nil, by simp⟩, Nat.le_refl _, by omega, ZB⟩
  | true =>
    have hgr : g < 0 ∨ 65536 < g := by
      have := HOK.out
      unfold applOk at this
      rw [hp, Bool.true_and, decide_eq_false_iff_not] at this
      omega
    clear hp
    by_cases h1 : g < 0
    · have d1 : decide (g < 0) = true := decide_eq_true h1
      go_wp2_with fail
      all_goals exact app_leave ⟨_, _, _, rfl⟩ _ _ rfl rfl rfl Z1 Z2 ⟨_, _, _, [], rfl, rfl, ⟨Rw.nil, by simp⟩, Nat.le_refl _, by omega, ZB⟩
    · have d1 : decide (g < 0) = false := decide_eq_false h1
      have d2 : decide (65536 < g) = true := decide_eq_true (by omega)
      go_wp2_with fail
      all_goals exact app_leave ⟨_, _, _, rfl⟩ _ _ rfl rfl rfl Z1 Z2 ⟨_, _, _, [], rfl, rfl, ⟨Rw.nil, by simp⟩, Nat.le_refl _, by omega, ZB⟩
theorem ld_Apply {p : Nat → Prop} (A : Option Addr) (n c : Nat) (g : Int) (xs : List Ch) (w : World) (h : Pcm p w A n xs) :
    Calls Try.prog 27 #[.slice A n c, .int .i64 g] w (RetAq w (applO (sndOf xs) g) (applE (sndOf xs) g)) := by
  unfold applO applE
  cases hok : applOk (sndOf xs) g with
  | false => exact ld_Apply_no A n c g xs w h hok
  | true =>
    have hh := hok
    unfold applOk at hh
    rw [Bool.and_eq_true, decide_eq_true_eq] at hh
    obtain ⟨G, rfl⟩ := Int.eq_ofNat_of_zero_le hh.2.1
    exact ld_Apply_yes A n c G xs w h hh.1 (by omega)
theorem applO_len {X : Snd} {g : Int} : ∀ c ∈ applO X g, c.length ≤ 1048576 := by
  intro c hc
  unfold applO at hc
  split at hc
  · rename_i h
    unfold applOk at h
    rw [Bool.and_eq_true] at h
    obtain ⟨_, _, hw, hall⟩ := proper_spec h.1
    obtain ⟨c', hc', rfl⟩ := List.mem_map.1 hc
    rw [applC_len, hall c' hc']
    exact hw
  · cases hc

set_option maxRecDepth 100000 in
set_option maxHeartbeats 4000000 in
theorem law_LoudnessApplies (A0 : Option Addr) (n0 c0 : Nat) (xs0 : List Ch) (A : Option Addr) (n c : Nat) (L : List Int) (g : Int) (w : World) (h0 : Pcm (fun _ => True) w A0 n0 xs0) (h : Its .i64 (fun _ => True) w A n L) (hm0 : n0 ≤ maxLen ∧ n0 ≤ c0) (hok : IntsOk L) :
    Calls Try.prog 10 #[.slice A0 n0 c0, .slice A n c, .int .i64 g] w fun e w' => e = .returned (.bool true) ∧ Below w.heap.size w w' := by
  have hmade := law_made A n c L 32767 w (h.mono (fun b hb _ => hb)) hok (by omega) (by omega)
  have HMD := Lib.hid hmade
  have HS0 : Hid (SndV w (.slice A0 n0 c0)) := Lib.hid ⟨_, _, _, xs0, rfl, h0, hm0.1, hm0.2⟩
  obtain ⟨g2, hg2⟩ : ∃ g2, bits .and .i64 g 65535 = g2 := ⟨_, rfl⟩
  clear hmade h hok h0 hm0
  go_enter Try.func10, Try.ntmps10
  go_wp2_with fail
  refine HMD.out.mono ?_
  rintro e w1 ⟨B1, m1, k1, xs1, rfl, -, hp1, hc1, hk1, hb1⟩
  have HS1 : Hid (SndV w1 (.slice B1 m1 k1)) := Lib.hid ⟨_, _, _, xs1, rfl, hp1.mono (fun _ _ _ => trivial), chans_max hc1, hk1⟩
  have HS01 := Lib.hid (HS0.out.ext hb1)
  clear hp1 hc1 hk1
  go_upto_region 2 with fail
  have x3 := Bx.new w1 22 #[.slice A0 n0 c0, .slice B1 m1 k1]
  have B3 := hb1.alloc hb1.size (.cells #[.slice A0 n0 c0, .slice B1 m1 k1] 22)
  have hbw := (Below.refl w1.heap.size w1).alloc (Nat.le_refl _) (.cells #[.slice A0 n0 c0, .slice B1 m1 k1] 22)
  have hS : ∀ i, i < 2 → ∃ v, #[.slice A0 n0 c0, .slice B1 m1 k1][i]? = some v ∧ SndV (w1.alloc (.cells #[.slice A0 n0 c0, .slice B1 m1 k1] 22)) v := by
    intro i hi
    rcases (by omega : i = 0 ∨ i = 1) with rfl | rfl
    · exact ⟨_, rfl, HS01.out.ext hbw⟩
    · exact ⟨_, rfl, HS1.out.ext hbw⟩
  have HSS := Lib.hid hS
  have HX3 := Lib.hid x3
  have hl3 := x3.lt
  generalize w1.alloc (.cells #[.slice A0 n0 c0, .slice B1 m1 k1] 22) = W at *
  generalize w1.heap.size = gl at *
  clear hS hbw x3 hb1
  go_loopw [20] (fun v wr => ∃ i : Nat, v = .int .i64 (i : Int) ∧ i ≤ 2 ∧ Below W.heap.size W wr) (fun v _ => 2 - (intOf v).toNat)
  case atStart => exact ⟨0, rfl, by omega, Below.refl _ _⟩
  case round =>
    obtain ⟨i, rfl, hi, hb⟩ := hrel
    by_cases hlt : i < 2
    · obtain ⟨v, hv, hsv⟩ := HSS.out i hlt
      obtain ⟨As, ns, cs, xs, rfl, hpc, hnm, -⟩ := hsv
      have hxx := HX3.out.ext hb
      have hce := hxx.cell i hv
      have hlx := hxx.lt
      have HPC := Lib.hid (hpc.ext hb)
      have HNM := Lib.hid hnm
      obtain ⟨X, hX⟩ : ∃ X, X = sndOf xs := ⟨_, rfl⟩
      have HX := Lib.hid hX
      have hiz : (i : Int) < 2 := by omega
      have hid : decide ((i : Int) < 2) = true := decide_eq_true hiz
      clear hv hpc hnm hxx hX
      go_upto_region 5 with fail
      have y3 := Bx.new wr 3 #[.int .i64 g, .int .i64 g2]
      have B4 := hb.alloc hb.size (.cells #[.int .i64 g, .int .i64 g2] 3)
      have HPC1 := Lib.hid (HPC.out.alloc (.cells #[.int .i64 g, .int .i64 g2] 3))
      have hG : ∀ j, j < 2 → ∃ u, (#[.int .i64 g, .int .i64 g2] : Array Value)[j]? = some (.int .i64 u) := by
        intro j hj
        rcases (by omega : j = 0 ∨ j = 1) with rfl | rfl
        · exact ⟨_, rfl⟩
        · exact ⟨_, rfl⟩
      have HGG := Lib.hid hG
      have HY3 := Lib.hid y3
      have hly := y3.lt
      generalize wr.alloc (.cells #[.int .i64 g, .int .i64 g2] 3) = V at *
      generalize wr.heap.size = gy at *
      clear hG y3 hce hlx
      go_loopw [29] (fun v wr => ∃ j : Nat, v = .int .i64 (j : Int) ∧ j ≤ 2 ∧ Below V.heap.size V wr) (fun v _ => 2 - (intOf v).toNat)
      case atStart => exact ⟨0, rfl, by omega, Below.refl _ _⟩
      case round =>
        obtain ⟨j, rfl, hj, hbv⟩ := hrel
        by_cases hjl : j < 2
        · obtain ⟨u, hu⟩ := HGG.out j hjl
          have hyy := HY3.out.ext hbv
          have hcu := hyy.cell j hu
          have hlu := hyy.lt
          have hjz : (j : Int) < 2 := by omega
          have hjd : decide ((j : Int) < 2) = true := decide_eq_true hjz
          have HP5 := Lib.hid (HPC1.out.ext hbv)
          clear hu hyy
          go_wp2_with fail
          refine (ld_Apply As ns cs u xs _ HP5.out).mono ?_
          rintro e w6 ⟨Ba, ma, ka, asx, rfl, has, hpa, -, hma, hb6⟩
          rw [← HX.out] at has ⊢
          have HAS := Lib.hid has
          have HPA := Lib.hid hpa
          have HP6 := Lib.hid (HP5.out.ext hb6)
          have B6 := hbv.trans (hb6.mono hbv.size)
          have hlen : ∀ y ∈ asx, y.n ≤ 1048576 := by
            intro y hy
            have := applO_len (X := X) (g := u) y.l (by rw [← has]; exact List.mem_map_of_mem hy)
            rw [(hpa.2 y hy).1.len] at this
            exact this
          have HLN := Lib.hid hlen
          clear has hpa hlen hb6 hcu hlu
          go_wp2_with fail
          refine (lr_Apply As ns cs u xs _ HP6.out HNM.out).mono ?_
          rintro e w7 ⟨Bb, mb, kb, bs, rfl, hbs, hpb, -, -, hb7⟩
          rw [← HX.out] at hbs ⊢
          have HBS := Lib.hid hbs
          have HPB := Lib.hid hpb
          have HPA7 := Lib.hid (HPA.out.ext hb7)
          have B7 := B6.trans (hb7.mono B6.size)
          clear hbs hpb hb7 B6
          go_wp2_with fail
          refine (r27_Same Ba Bb ma ka mb kb asx bs _ HPA7.out HPB.out hma HLN.out).mono ?_
          rintro e w8 ⟨rfl, m8, rfl⟩
          rw [HAS.out, HBS.out, decide_eq_true rfl]
          have B8 := bdrewN B7 m8
          generalize w7.drewN m8 = w8 at *
          go_wp2_with fail
          go_roundw
          case rel => exact ⟨j + 1, by go_num, by omega, B8⟩
          case measure => simp [intOf]; omega
        · obtain rfl : j = 2 := by omega
          have B9 : Below W.heap.size W wr := B4.trans (hbv.mono B4.size)
          go_wp2_with fail
          go_roundw
          case rel => exact ⟨i + 1, by go_num, by omega, B9⟩
          case measure => simp [intOf]; omega
    · obtain rfl : i = 2 := by omega
      have B9 : Below w.heap.size w wr := B3.trans (hb.mono B3.size)
      go_wp2_with fail
      refine (law_awake _).mono ?_
      rintro e wf ⟨rfl, hbf⟩
      go_wp2_with fail
      go_ret
      exact ⟨rfl, B9.trans (hbf.mono B9.size)⟩
end Go.Proofs.Ytcgejbnmbamchaa
