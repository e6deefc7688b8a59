/- LoudnessChannels. -/
import Derived.Test.YtcgejbnmbamchaaLawMono
import Derived.Test.YtcgejbnmbamchaaChanM
import Derived.Test.YtcgejbnmbamchaaLdI
namespace Go.Proofs.Ytcgejbnmbamchaa
open Go.RowKit
attribute [local go_sem ↓] Go.wp_at_zero Go.wp_at_succ

/-- A row of the call's own that is written out. -/
theorem own_lit (w : World) (base : Nat) (e : TypeId) (xs : List Value) (n : Nat) (hn : xs.length = n) {cs : Array Value} (hc : cs = xs.toArray) {g : Nat} (hg : g = w.heap.size) (hb : base ≤ g) (hm : n ≤ 100000000) :
    (w.alloc (.cells cs e)).ownsRow base e 1 (.slice (some ⟨g, 0, none⟩) n n) n xs := by
  subst hc hg hn
  refine ⟨by simp, .inr ⟨w.heap.size, xs.length, _, rfl, hb, heap_alloc_new w _, Nat.le_refl _, by simp only [maxLen]; omega, by simp, ?_⟩⟩
  simp only [Nat.mul_one]
  exact List.take_of_length_le (by simp)
/-- Channels, some of which came in. -/
theorem own_pcm {p : Nat → Prop} {w : World} {base : Nat} {v : Value} {n : Nat} {xs : List Ch} (h : w.ownsRow base 44 1 v n (xs.map Ch.val)) (hp : ∀ b, base ≤ b → p b) (hx : ∀ x ∈ xs, Its .i16 p w x.A x.n x.l ∧ Smp x.l ∧ x.n ≤ x.c) :
    ∃ A c, v = .slice A n c ∧ Pcm p w A n xs := by
  obtain ⟨A, c, hv, hr⟩ := own_rw h hp
  exact ⟨A, c, hv, hr, hx⟩
theorem rev_take {α : Type} {xs : List α} {j : Nat} {x : α} (hj : j < xs.length) (h : xs[xs.length - 1 - j]? = some x) : xs.reverse.take (j + 1) = xs.reverse.take j ++ [x] := by
  apply take_snoc_at
  rw [List.getElem?_reverse hj]
  exact h
theorem oneCell_slice (A : Option Addr) (n c : Nat) : (Value.slice A n c).oneCell' = true := rfl

def CnRel (w1 w2 : World) (C : Nat) (z : Ch) (xs : List Ch) (i y : Value) (wr : World) : Prop :=
  ∃ (j : Nat) (k : Int) (v : Value), i = .int .i64 k ∧ k = (C : Int) - 1 - (j : Int) ∧ v = y ∧ j ≤ C ∧ wr.ownsRow (w1.heap.size + 1) 44 1 v (1 + j) ((z :: xs.reverse.take j).map Ch.val) ∧ Below (w1.heap.size + 1) w2 wr
set_option maxRecDepth 100000 in
set_option maxHeartbeats 4000000 in
theorem law_LoudnessChannels (A : Option Addr) (n c : Nat) (L : List Int) (w : World) (h : Its .i64 (fun _ => True) w A n L) (hok : IntsOk L) :
    Calls Try.prog 6 #[.slice A n c] w fun e w' => e = .returned (.bool true) ∧ Below w.heap.size w w' := by
  have hmade := law_made A n c L 9000 w (h.mono (fun b hb _ => hb)) hok (by omega) (by omega)
  have HMD := Lib.hid hmade
  clear hmade h
  go_enter Try.func6, Try.ntmps6
  go_wp2_with fail
  refine HMD.out.mono ?_
  rintro e w1 ⟨B, C, k1, xs, rfl, hxs, hpc, hC, hCk, hb1⟩
  have hprop := made_ok hxs
  have hCb := chans_le L
  rw [← hC] at hCb
  obtain ⟨X, hX⟩ : ∃ X, X = sndOf xs := ⟨_, rfl⟩
  have hxl : xs.length = C := hpc.len
  rw [← hX] at hprop
  have hX3 : X.length ≤ 3 := by rw [hX]; simp [sndOf]; omega
  have hsmx := hpc.smp
  rw [← hX] at hsmx
  obtain ⟨N, hN⟩ : ∃ N, N = wide X := ⟨_, rfl⟩
  have hNb : N ≤ 1048576 := by rw [hN]; exact (proper_spec hprop).2.2.1
  obtain ⟨b, off, x0, rfl, hpb, hbl, hx0, hc0, hi0, _, _, _⟩ := hpc.at_ (i := 0) (by omega)
  have hx0n : x0.n = N := by rw [hN, hX, snd_head hx0, hi0.len]
  rw [hx0n, Nat.add_zero] at hc0
  have hmk := run_mk16 (N : Int) N rfl (by omega)
  have HPC := Lib.hid hpc
  have HPR := Lib.hid hprop
  have HX := Lib.hid (And.intro hX (And.intro hX3 (And.intro hsmx hN)))
  have HXL := Lib.hid hxl
  have hbX : b < w1.heap.size := hbl
  clear hpc hprop hX hX3 hsmx hxs hC hi0 hx0 hxl hN
  go_upto_region 3 with fail
  have Z := B16.made w1 N
  have zb := Z.ext ((Below.refl _ (w1.alloc (zero16 N))).alloc (Nat.le_refl _) (.cells #[.slice (some ⟨w1.heap.size, 0, none⟩) N N] 44))
  have B2 := (hb1.alloc hb1.size (zero16 N)).alloc (by have := hb1.size; simp; omega) (.cells #[.slice (some ⟨w1.heap.size, 0, none⟩) N N] 44)
  have P2 := ((HPC.out.mono (q := (· < w1.heap.size)) (fun b h _ => h)).alloc (zero16 N)).alloc (.cells #[.slice (some ⟨w1.heap.size, 0, none⟩) N N] 44)
  have O2 := own_lit (w1.alloc (zero16 N)) (w1.heap.size + 1) 44 [.slice (some ⟨w1.heap.size, 0, none⟩) N N] 1 rfl rfl (g := w1.heap.size + 1) (by simp) (by omega) (by omega)
  have hz2 : ((w1.alloc (zero16 N)).alloc (.cells #[.slice (some ⟨w1.heap.size, 0, none⟩) N N] 44)).heap.size = w1.heap.size + 1 + 1 := by simp
  generalize (w1.alloc (zero16 N)).alloc (.cells #[.slice (some ⟨w1.heap.size, 0, none⟩) N N] 44) = w2 at *
  have HO2 := Lib.hid O2
  have HZ2 := Lib.hid zb
  have HP2 := Lib.hid P2
  clear Z zb O2 P2 hc0
  obtain ⟨z, hz⟩ : ∃ z : Ch, z = ⟨some ⟨w1.heap.size, 0, none⟩, N, N, List.replicate N 0⟩ := ⟨_, rfl⟩
  have HZZ := Lib.hid hz
  have HO3 : Hid (w2.ownsRow (w1.heap.size + 1) 44 1 (.slice (some ⟨w1.heap.size + 1, 0, none⟩) 1 1) 1 ((z :: xs.reverse.take 0).map Ch.val)) := Lib.hid (by rw [hz]; exact HO2.out)
  clear hz HO2 hmk
  go_wp2_with fail
  go_loopw [5, 4] (fun i y wr => CnRel w1 w2 C z xs i y wr) (fun i _ _ => (intOf i + 1).toNat)
  case atStart => exact ⟨0, _, _, rfl, by omega, rfl, Nat.zero_le _, HO3.out, Below.refl _ _⟩
  case round =>
    obtain ⟨j, k, v, rfl, hk, hv, hj, ho, hbl2⟩ := hrel
    subst hv
    have HO := Lib.hid ho
    clear ho
    by_cases hlt : j < C
    · obtain ⟨ci, rfl⟩ : ∃ ci : Nat, k = (ci : Int) := ⟨k.toNat, by omega⟩
      have hcc : ci < C := by omega
      have hcix : ci = xs.length - 1 - j := by rw [HXL.out]; omega
      obtain ⟨b', off', x, hA, _, hbb, hx, hc, _, _, _, _⟩ := (HP2.out.below (B := w1.heap.size) (hbl2.mono (by omega)) (fun _ _ h => h)).at_ hcc
      injection hA with hA
      injection hA with e1 e2
      subst e1 e2
      have hciz : (ci : Int) < (C : Int) := by omega
      have h0z : decide (0 ≤ (ci : Int)) = true := decide_eq_true (by omega)
      have HX2 := Lib.hid (And.intro hx hcix)
      have YO := Lib.hid (World.ownsRow.alloc HO.out (.cells #[.slice x.A x.n x.c] 44))
      have hsz := hbl2.size
      have hbase : w1.heap.size + 1 ≤ (wr.alloc (.cells #[.slice x.A x.n x.c] 44)).heap.size := by simp; omega
      have YB := Lib.hid (hbl2.alloc (by omega) (.cells #[.slice x.A x.n x.c] 44))
      have YL := Lib.hid (World.ownsRow.lt HO.out)
      have hjb : 1 + j ≤ 3 := by omega
      have HK := Lib.hid hk
      clear hx hcix hk
      go_wp2_with (at_builtin; go_must (refine wpList_appR _ rfl (.tmp 29) (.tmp 34) 22 rfl 44 (.slice none 0 0) 1 24 Try.underlying22 Try.infoCh rfl (by decide) (w1.heap.size + 1) _ (1 + j) _ rfl YO.out (some ⟨wr.heap.size, 0, none⟩) 1 1 [.slice x.A x.n x.c] rfl (Rw.lit (p := fun _ => True) _ _ _ rfl 1 1 rfl rfl trivial) (by simp [Value.oneCell']) (by omega) (by omega) hbase ?_; intro v3 w3 ho3 hg3 ha3))
      have ZB := YB.out.grown hg3 hbase (fun k hk => (YL.out k hk).1)
      have ZO : w3.ownsRow (w1.heap.size + 1) 44 1 v3 (1 + (j + 1)) ((z :: xs.reverse.take (j + 1)).map Ch.val) := by
        rw [rev_take (j := j) (x := x) (by rw [HXL.out]; exact hlt) (by rw [← HX2.out.2]; exact HX2.out.1), ← Nat.add_assoc]
        simpa [Ch.val] using ho3
      go_roundw
      case rel => exact ⟨j + 1, _, _, rfl, by have := HK.out; omega, rfl, by omega, ZO, ZB⟩
      case measure => (simp [intOf]; try omega)
    · obtain rfl : j = C := by omega
      have hk1 : k = -1 := by omega
      subst hk1
      have hp5 := HP2.out.below (B := w1.heap.size) (hbl2.mono (by omega)) (fun _ _ h => h)
      have hz5 : B16 wr w1.heap.size (List.replicate N 0) := (hbl2.block _ (by omega)).trans HZ2.out
      have hlist : (z :: xs.reverse.take j) = z :: xs.reverse := by rw [List.take_of_length_le (by rw [List.length_reverse, HXL.out]; omega)]
      rw [hlist] at HO
      obtain ⟨yA, yc, rfl, hyp⟩ := own_pcm (p := fun _ => True) HO.out (fun _ _ => trivial) (fun x hx => by
        rcases List.mem_cons.1 hx with rfl | hx
        · rw [HZZ.out]
          have := hz5.its (p := fun _ => True) trivial
          rw [List.length_replicate] at this
          exact ⟨this, fun y hy => by rw [List.eq_of_mem_replicate hy]; omega, Nat.le_refl _⟩
        · obtain ⟨i1, i2, i3⟩ := hp5.2 x (List.mem_reverse.1 hx)
          exact ⟨i1.mono (fun _ _ _ => trivial), i2, i3⟩)
      have hys : sndOf (z :: xs.reverse) = turned X := by
        rw [HX.out.1, turned, ← HX.out.1, ← HX.out.2.2.2, HX.out.1, HZZ.out]
        simp [sndOf]
      have B5 : Below w.heap.size w wr := by
        have h1 := B2.size
        exact B2.trans (hbl2.mono (by omega))
      have HP5 := Lib.hid hp5
      have HY5 := Lib.hid hyp
      have HYS := Lib.hid hys
      have HTM := Lib.hid (turned_meas HPR.out HX.out.2.1)
      have HTP := Lib.hid (turned_peak HPR.out HX.out.2.1)
      clear hp5 hz5 hlist hyp hys
      go_wp2_with fail
      refine (ld_Powers _ _ _ xs _ HP5.out).mono ?_
      rintro e w6 ⟨Ba, ma, ka, rfl, hita, hb6, -⟩
      rw [← HX.out.1] at hita ⊢
      have B6 := B5.trans (hb6.mono B5.size)
      have HP6 := Lib.hid (HP5.out.ext hb6)
      have HY6 := Lib.hid (HY5.out.ext hb6)
      have HIA := Lib.hid hita
      clear hita hb6 B5
      go_wp2_with fail
      refine (ld_Powers _ _ _ (z :: xs.reverse) _ HY6.out).mono ?_
      rintro e w7 ⟨Bb, mb, kb, rfl, hitb, hb7, -⟩
      rw [HYS.out, HTM.out.2.2.2] at hitb
      rw [HYS.out, HTM.out.2.2.1]
      have B7 := B6.trans (hb7.mono B6.size)
      have HP7 := Lib.hid (HP6.out.ext hb7)
      have HY7 := Lib.hid (HY6.out.ext hb7)
      have HIA7 := Lib.hid (HIA.out.ext hb7)
      have HIB := Lib.hid hitb
      clear hitb hb7 B6
      go_wp2_with fail
      refine (ld_Measure _ _ _ xs _ HP7.out).mono ?_
      rintro e w8 ⟨rfl, hb8⟩
      rw [← HX.out.1]
      obtain ⟨num, hnum⟩ : ∃ num, num = measOutN X := ⟨_, rfl⟩
      obtain ⟨den, hden⟩ : ∃ den, den = measOutD X := ⟨_, rfl⟩
      rw [← hnum, ← hden]
      have HMM := Lib.hid (And.intro hnum hden)
      clear hnum hden
      have B8 := B7.trans (hb8.mono B7.size)
      have HP8 := Lib.hid (HP7.out.ext hb8)
      have HY8 := Lib.hid (HY7.out.ext hb8)
      have HIA8 := Lib.hid (HIA7.out.ext hb8)
      have HIB8 := Lib.hid (HIB.out.ext hb8)
      have er : powE X = 0 := by unfold powE; rw [HPR.out]; rfl
      rw [er]
      clear hb8 B7
      go_upto_region 10 with fail
      have x9 := Bx.new w8 38 #[.int .i64 num, .int .i64 den]
      have B9 := B8.alloc B8.size (.cells #[.int .i64 num, .int .i64 den] 38)
      have HP9 := Lib.hid (HP8.out.alloc (.cells #[.int .i64 num, .int .i64 den] 38))
      have HY9 := Lib.hid (HY8.out.alloc (.cells #[.int .i64 num, .int .i64 den] 38))
      have HIA9 := Lib.hid (HIA8.out.alloc (.cells #[.int .i64 num, .int .i64 den] 38))
      have HIB9 := Lib.hid (HIB8.out.alloc (.cells #[.int .i64 num, .int .i64 den] 38))
      generalize w8.alloc (.cells #[.int .i64 num, .int .i64 den] 38) = w9 at *
      generalize w8.heap.size = ga at *
      have l9 := x9.lt
      go_wp2_with fail
      refine (ld_Measure _ _ _ (z :: xs.reverse) _ HY9.out).mono ?_
      rintro e wa ⟨rfl, hba⟩
      rw [HYS.out, HTM.out.1, HTM.out.2.1, HTM.out.2.2.1, er, ← HMM.out.1, ← HMM.out.2]
      have BA := B9.trans (hba.mono B9.size)
      have HPA := Lib.hid (HP9.out.ext hba)
      have HYA := Lib.hid (HY9.out.ext hba)
      have HIAA := Lib.hid (HIA9.out.ext hba)
      have HIBA := Lib.hid (HIB9.out.ext hba)
      have xa := x9.ext hba
      clear hba B9 x9 B8
      go_upto_region 11 with fail
      have yb := Bx.new wa 38 #[.int .i64 num, .int .i64 den]
      have xb := xa.alloc (.cells #[.int .i64 num, .int .i64 den] 38)
      have BB := BA.alloc BA.size (.cells #[.int .i64 num, .int .i64 den] 38)
      have HPB := Lib.hid (HPA.out.alloc (.cells #[.int .i64 num, .int .i64 den] 38))
      have HYB := Lib.hid (HYA.out.alloc (.cells #[.int .i64 num, .int .i64 den] 38))
      have HIAB := Lib.hid (HIAA.out.alloc (.cells #[.int .i64 num, .int .i64 den] 38))
      have HIBB := Lib.hid (HIBA.out.alloc (.cells #[.int .i64 num, .int .i64 den] 38))
      generalize wa.alloc (.cells #[.int .i64 num, .int .i64 den] 38) = wb at *
      generalize wa.heap.size = gb at *
      have hma : ma ≤ 8735 := by
        have h1 := (powOut_pws HX.out.2.2.1).1
        rwa [HIAB.out.len] at h1
      go_wp2_with fail
      refine (law_ints _ _ _ _ _ _ _ _ _ HIAB.out HIBB.out (by omega)).mono ?_
      rintro e wc ⟨rfl, mc, rfl⟩
      rw [decide_eq_true rfl]
      have xc := xb.drewN mc
      have yc' := yb.drewN mc
      have BC := bdrewN BB mc
      have HPC' := Lib.hid (HPB.out.drewN mc)
      have HYC := Lib.hid (HYB.out.drewN mc)
      generalize wb.drewN mc = wc at *
      have c0 := xc.cell 0 rfl
      have c1 := xc.cell 1 rfl
      have d0 := yc'.cell 0 rfl
      have d1 := yc'.cell 1 rfl
      have lc := xc.lt
      have ld := yc'.lt
      clear xa xb yb BA BB
      go_wp2_with fail
      refine (ld_Peak _ _ _ xs _ HPC'.out).mono ?_
      rintro e wd ⟨rfl, md, rfl⟩
      rw [← HX.out.1]
      go_wp2_with fail
      refine (ld_Peak _ _ _ (z :: xs.reverse) _ (HYC.out.drewN md)).mono ?_
      rintro e we ⟨rfl, me, rfl⟩
      rw [HYS.out, HTP.out]
      have BE := bdrewN (bdrewN BC md) me
      generalize (wc.drewN md).drewN me = we at *
      go_wp2_with fail
      refine (law_awake _).mono ?_
      rintro e wf ⟨rfl, hbf⟩
      go_wp2_with fail
      go_ret
      exact ⟨rfl, BE.trans (hbf.mono BE.size)⟩
end Go.Proofs.Ytcgejbnmbamchaa
