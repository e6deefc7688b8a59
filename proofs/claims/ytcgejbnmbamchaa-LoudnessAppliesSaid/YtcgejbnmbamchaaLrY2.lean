/- Apply of the reference: the walk. -/
import Derived.Test.YtcgejbnmbamchaaLrY
namespace Go.Proofs.Ytcgejbnmbamchaa
open Go.RowKit
attribute [local go_sem ↓] Go.wp_at_zero Go.wp_at_succ run_min_mm run_max_mm

/-- What Apply hands back. -/
def RetAq (w : World) (X : Snd) (er : Int) (e : Ending) (w' : World) : Prop :=
  ∃ B m k ys, e = .returned (.tuple #[.slice B m k, .int .i64 er]) ∧ sndOf ys = X ∧ Pcm (w.heap.size ≤ ·) w' B m ys ∧ m ≤ k ∧ m ≤ 4 ∧ Below w.heap.size w w'
set_option maxRecDepth 100000 in
set_option maxHeartbeats 4000000 in
theorem lr_Apply {p : Nat → Prop} (A : Option Addr) (n c : Nat) (g : Int) (xs : List Ch) (w : World) (h : Pcm p w A n xs) (hn : n ≤ maxLen) :
    Calls Try.prog 28 #[.slice A n c, .int .i64 g] w (RetAq w (applO (sndOf xs) g) (applE (sndOf xs) g)) := by
  obtain ⟨X, hX⟩ : ∃ X, X = sndOf xs := ⟨_, rfl⟩
  have HP := Lib.hid (h.mono (q := (· < w.heap.size)) (fun b hb _ => hb))
  have HX := Lib.hid hX
  have HSL : Hid (X.length = n) := Lib.hid (by rw [hX]; exact h.slen)
  rw [← hX]
  clear h hX
  go_enter Try.func28, Try.ntmps28
  go_wp2_with fail
  refine (lr_Proper A n c xs _ HP.out hn).mono ?_
  rintro e w1 ⟨rfl, m, rfl⟩
  rw [← HX.out]
  have B1 := bdrewN (Below.refl w.heap.size w) m
  cases hok : applOk X g with
  | false =>
    have e1 : applO X g = [] := by unfold applO; rw [hok]; rfl
    have e2 : applE X g = 1 := by unfold applE; rw [hok]; rfl
    have HE := Lib.hid (And.intro e1 e2)
    have HOK := Lib.hid hok
    clear hok e1 e2
    cases hp : properB X with
    | false =>
      clear hp
      go_wp2_with fail
      all_goals
        refine bodyPost_ret (v := .tuple #[.slice none 0 0, .int .i64 1]) (by simp only [results, Try.results28]; go_simp) rfl ⟨none, 0, 0, [], by rw [HE.out.2], by rw [HE.out.1]; rfl, ⟨Rw.nil, by simp⟩, Nat.le_refl _, by omega, B1⟩
    | true =>
      have hgr : g < 0 ∨ 65536 < g := by
        have := HOK.out
        unfold applOk at this
        rw [hp, Bool.true_and, decide_eq_false_iff_not] at this
        omega
      clear hp
      by_cases h1 : g < 0
      · have d1 : decide (g < 0) = true := decide_eq_true h1
        go_wp2_with fail
        all_goals
          refine bodyPost_ret (v := .tuple #[.slice none 0 0, .int .i64 1]) (by simp only [results, Try.results28]; go_simp) rfl ⟨none, 0, 0, [], by rw [HE.out.2], by rw [HE.out.1]; rfl, ⟨Rw.nil, by simp⟩, Nat.le_refl _, by omega, B1⟩
      · have d1 : decide (g < 0) = false := decide_eq_false h1
        have d2 : decide (65536 < g) = true := decide_eq_true (by omega)
        go_wp2_with fail
        all_goals
          refine bodyPost_ret (v := .tuple #[.slice none 0 0, .int .i64 1]) (by simp only [results, Try.results28]; go_simp) rfl ⟨none, 0, 0, [], by rw [HE.out.2], by rw [HE.out.1]; rfl, ⟨Rw.nil, by simp⟩, Nat.le_refl _, by omega, B1⟩
  | true =>
    have hh := hok
    unfold applOk at hh
    rw [Bool.and_eq_true, decide_eq_true_eq] at hh
    obtain ⟨hp, hg0, hg1⟩ := hh
    have e1 : applO X g = applS g X := by unfold applO; rw [hok]; rfl
    have e2 : applE X g = 0 := by unfold applE; rw [hok]; rfl
    have HE := Lib.hid (And.intro e1 e2)
    have HPR := Lib.hid (proper_spec hp)
    have hn4 : n ≤ 4 := by have := HPR.out.2.1; rwa [HSL.out] at this
    obtain ⟨N, hN⟩ : ∃ N, N = wide X := ⟨_, rfl⟩
    have hNb : N ≤ 1048576 := by rw [hN]; exact HPR.out.2.2.1
    have HN := Lib.hid hN
    have d1 : decide (g < 0) = false := decide_eq_false (by omega)
    have d2 : decide (65536 < g) = false := decide_eq_false (by omega)
    have hmk := run_mkCh n (by omega)
    rw [hp]
    clear hok hp e1 e2 hN hn
    generalize w.drewN m = W at *
    go_upto_region 4 with fail
    obtain ⟨go, hgo⟩ : ∃ go, go = W.heap.size := ⟨_, rfl⟩
    have hgow : w.heap.size ≤ go := by have := B1.size; omega
    have I0 : ArInv w (W.alloc (.cells (Array.replicate n (.slice none 0 0)) 44)) go n (List.replicate n (.slice none 0 0)) (apCh g X 0 0) :=
      ⟨by simp, ⟨by rw [List.toArray_replicate]; exact Bx.new' _ _ _ _ hgo, fun d v hv => by rw [List.eq_of_mem_replicate (List.mem_of_getElem? hv), apCh_start]; exact OwS.nil, fun d e vd ve _ hd _ => by rw [List.eq_of_mem_replicate (List.mem_of_getElem? hd)]; exact .inl rfl, by omega⟩, B1.alloc B1.size _⟩
    rw [← hgo]
    generalize W.alloc (.cells (Array.replicate n (.slice none 0 0)) 44) = w2 at *
    have HI0 := Lib.hid I0
    clear I0 hmk hgo B1
    go_wp2_with fail
    go_loopw [7] (fun v wr => ArRel w go n g X v wr) (fun v _ => n - (intOf v).toNat)
    case atStart => exact ⟨0, _, rfl, Nat.zero_le _, HI0.out⟩
    case round =>
      obtain ⟨ci, rows, rfl, hci, hI⟩ := hrel
      have HI := Lib.hid hI
      clear hI HI0
      by_cases hcn : ci < n
      · have hcnz : (ci : Int) < (n : Int) := by omega
        have hcnd : decide ((ci : Int) < (n : Int)) = true := decide_eq_true hcnz
        obtain ⟨b0, off0, x0, hA0, _, _, hx0, _, hi0, hs0, _, hxl0⟩ := HP.out.at_ hcn
        subst hA0
        have hxl' : X[ci]? = some x0.l := by rw [HX.out]; exact hxl0
        have hxn : x0.n = N := by
          have := HPR.out.2.2.2 x0.l (List.mem_of_getElem? hxl')
          rw [← HN.out, hi0.len] at this
          exact this
        have HLL : Hid (x0.l.length = N) := Lib.hid (by rw [hi0.len, hxn])
        have HSX := Lib.hid hs0
        have HXL := Lib.hid hxl'
        have HCE : Hid (∀ W', Below w.heap.size w W' → W'.cell? ⟨b0, off0 + ci, none⟩ = some (.slice x0.A N x0.c) ∧ Its .i16 (· < w.heap.size) W' x0.A N x0.l) := Lib.hid (fun W' hb => by
          obtain ⟨b', off', x', hA', _, _, hx', hc', hi', _, _, _⟩ := (HP.out.below hb (fun _ _ h => h)).at_ hcn
          injection hA' with hA'
          injection hA' with e1 e2
          subst e1 e2
          rw [hx0] at hx'
          injection hx' with hx'
          subst hx'
          rw [hxn] at hc' hi'
          exact ⟨hc', hi'⟩)
        clear hx0 hi0 hs0 hxl0 hxl' hxn
        go_wp2_with fail
        go_loopw [8] (fun v wr => ArRel2 w go n g X ci N v wr) (fun v _ => N - (intOf v).toNat)
        case atStart => exact ⟨0, rows, rfl, Nat.zero_le _, HI.out⟩
        case round =>
          obtain ⟨i, rows6, rfl, hi, hI6⟩ := hrel
          have HI6 := Lib.hid hI6
          clear hI6 HI
          have hcc := (HCE.out wr HI6.out.2.2).1
          by_cases hiN : i < N
          · obtain ⟨b1, off1, y, hA1, _, hb1, hy, hcy⟩ := (HCE.out wr HI6.out.2.2).2.at_ hiN
            rw [hA1] at hcc
            have hyb := HSX.out _ (List.mem_of_getElem? hy)
            obtain ⟨Pm, hPm⟩ : ∃ Pm, Pm = y * g := ⟨_, rfl⟩
            have hPb : -2147483648 ≤ Pm ∧ Pm ≤ 2147483648 := by rw [hPm]; exact gain_mul' hyb ⟨hg0, hg1⟩
            obtain ⟨S, hS⟩ : ∃ S, S = Pm + 2048 := ⟨_, rfl⟩
            obtain ⟨Td, hTd⟩ : ∃ Td, Td = S.tdiv 4096 := ⟨_, rfl⟩
            obtain ⟨Tm, hTm⟩ : ∃ Tm, Tm = S.tmod 4096 := ⟨_, rfl⟩
            have hfl := floor_rest S
            rw [← hTd, ← hTm] at hfl
            obtain ⟨Q, hQ⟩ : ∃ Q, Q = S / 4096 := ⟨_, rfl⟩
            rw [← hQ] at hfl
            have hQb : -600000 ≤ Q ∧ Q ≤ 600000 := by omega
            obtain ⟨z, hz⟩ : ∃ z, z = max (-32768) (min 32767 Q) := ⟨_, rfl⟩
            have hzv : z = applV g y := by rw [hz, applV, hQ, hS, hPm]
            have hzb : -32768 ≤ z ∧ z ≤ 32767 := by omega
            have m1 : y * g = Pm := hPm.symm
            have m2 : Pm + 2048 = S := hS.symm
            have m3 : S.tdiv 4096 = Td := hTd.symm
            have m4 : S.tmod 4096 = Tm := hTm.symm
            have m5 : max (-32768) (min 32767 Q) = z := hz.symm
            have ez : IntKind.i16.wrap z = z := by simp [IntKind.wrap, IntKind.signed, IntKind.bits]; omega
            have ey : IntKind.i64.wrap y = y := IntWalk.i64_in _ (by omega)
            have w1' : IntKind.i64.wrap Pm = Pm := IntWalk.i64_in _ (by omega)
            have w2' : IntKind.i64.wrap S = S := IntWalk.i64_in _ (by omega)
            have hSb : -2147481600 ≤ S ∧ S ≤ 2147485696 := by omega
            have hTdb : -600000 ≤ Td ∧ Td ≤ 600000 := by split at hfl <;> omega
            have hTmb : -4096 < Tm ∧ Tm < 4096 := by rw [hTm]; exact ⟨by have := Int.lt_tmod_of_pos S (show (0 : Int) < 4096 by omega); omega, Int.tmod_lt_of_pos S (by omega)⟩
            have w3' : IntKind.i64.wrap Td = Td := IntWalk.i64_in _ (by omega)
            have w4' : IntKind.i64.wrap Tm = Tm := IntWalk.i64_in _ (by omega)
            obtain ⟨vc, hvc⟩ : ∃ vc, rows6[ci]? = some vc := ⟨_, List.getElem?_eq_getElem (by rw [HI6.out.1]; exact hcn)⟩
            have hown := HI6.out.2.1.own ci vc hvc
            obtain ⟨M, hM⟩ : ∃ M, M = (apCh g X ci i ci).length := ⟨_, rfl⟩
            have hMb : M ≤ 1048576 := by
              rw [hM]
              unfold apCh
              rw [if_neg (by omega), if_pos rfl, applC_len, List.length_take]
              omega
            have ho1 : wr.ownsRow (go + 1) 49 1 vc M ((apCh g X ci i ci).map (Value.int .i16)) := by rw [hM]; exact hown
            obtain ⟨A6, c6, rfl⟩ := own_slice ho1
            have hbx := HI6.out.2.1.box
            have hce : rows6.toArray[ci]? = some (.slice A6 M c6) := by simpa using hvc
            have hcell := hbx.cell ci hce
            have hsz := hbx.lt
            have hiz : (i : Int) < (N : Int) := by omega
            have hid : decide ((i : Int) < (N : Int)) = true := decide_eq_true hiz
            have YO := Lib.hid (World.ownsRow.alloc ho1 (.cells #[.int .i16 z] 49))
            have HBX := Lib.hid (hbx.alloc (.cells #[.int .i16 z] 49))
            have HNE : Hid (some go ≠ (Value.slice A6 M c6).ownBlock) := Lib.hid (own_ne ho1 (.inl (by omega)))
            have HVC := Lib.hid hvc
            have HM := Lib.hid hM
            have HCC := Lib.hid hce
            have HYZ := Lib.hid (And.intro hy hzv)
            have HFL := Lib.hid hfl
            have hbase : go + 1 ≤ (wr.alloc (.cells #[.int .i16 z] 49)).heap.size := by simp; omega
            clear hvc hown ho1 hbx hce hM hy hzv hPm hS hTd hTm hQ hz hfl
            cases hneg : decide (Tm < 0) with
            | true =>
              have hq : Td - 1 = Q := by have h := HFL.out; rw [if_pos (of_decide_eq_true hneg)] at h; exact h.symm
              have w5' : IntKind.i64.wrap (Td - 1) = Q := by rw [hq]; exact IntWalk.i64_in _ (by omega)
              clear hq
              go_wp2_with (at_builtin; go_must (refine wpList_appR _ rfl (.tmp 63) (.tmp 68) 44 rfl 49 (.int .i16 0) 1 2 Try.underlying44 Try.infoI16 rfl (by decide) (go + 1) _ M _ rfl YO.out (some ⟨wr.heap.size, 0, none⟩) 1 1 [.int .i16 z] rfl (Rw.lit (p := fun _ => True) _ _ _ rfl 1 1 rfl rfl trivial) (by simp [Value.oneCell']) (by omega) (by omega) hbase ?_; intro v3 w3 ho3 hg3 ha3; obtain ⟨A3, c3, rfl⟩ := own_slice ho3; have y13 := HBX.out.grown hg3 HNE.out; have c13 := y13.cell ci HCC.out; have f13 := y13.frozen ci; have l13 := y13.lt))
              go_roundw
              case rel => exact ⟨i + 1, _, by go_num, by omega, HI6.out.grow hgow HVC.out HM.out ho3 hg3 ha3 (by rw [HYZ.out.2]; exact apCh_step HXL.out HYZ.out.1) (fun d hd => apCh_other hd)⟩
              case measure => simp [intOf]; omega
            | false =>
              have hq : Td = Q := by have h := HFL.out; rw [if_neg (of_decide_eq_false hneg)] at h; exact h.symm
              subst hq
              go_wp2_with (at_builtin; go_must (refine wpList_appR _ rfl (.tmp 63) (.tmp 68) 44 rfl 49 (.int .i16 0) 1 2 Try.underlying44 Try.infoI16 rfl (by decide) (go + 1) _ M _ rfl YO.out (some ⟨wr.heap.size, 0, none⟩) 1 1 [.int .i16 z] rfl (Rw.lit (p := fun _ => True) _ _ _ rfl 1 1 rfl rfl trivial) (by simp [Value.oneCell']) (by omega) (by omega) hbase ?_; intro v3 w3 ho3 hg3 ha3; obtain ⟨A3, c3, rfl⟩ := own_slice ho3; have y13 := HBX.out.grown hg3 HNE.out; have c13 := y13.cell ci HCC.out; have f13 := y13.frozen ci; have l13 := y13.lt))
              go_roundw
              case rel => exact ⟨i + 1, _, by go_num, by omega, HI6.out.grow hgow HVC.out HM.out ho3 hg3 ha3 (by rw [HYZ.out.2]; exact apCh_step HXL.out HYZ.out.1) (fun d hd => apCh_other hd)⟩
              case measure => simp [intOf]; omega
          · obtain rfl : i = N := by omega
            have hid : decide ((i : Int) < (i : Int)) = false := decide_eq_false (by omega)
            have HI7 : Hid (ArInv w wr go n rows6 (apCh g X (ci + 1) 0)) := Lib.hid (HI6.out.cong (fun d _ => apCh_next HXL.out HLL.out d))
            go_wp2_with fail
            go_roundw
            case rel => exact ⟨ci + 1, rows6, by go_num, by omega, HI7.out⟩
            case measure => simp [intOf]; omega
      · obtain rfl : ci = n := by omega
        have hcnd : decide ((ci : Int) < (ci : Int)) = false := decide_eq_false (by omega)
        have hsm : ∀ d, d < rows.length → Smp (apCh g X ci 0 d) := fun d hd => by
          unfold apCh
          rw [if_pos (by rw [← HI.out.1]; exact hd)]
          exact applC_smp _ _
        obtain ⟨ys, hys, hpc⟩ := HI.out.2.1.pcm (B := w.heap.size) hsm hgow
        rw [HI.out.1, apCh_end HSL.out] at hys
        rw [HI.out.1] at hpc
        have HF := Lib.hid (And.intro hys (And.intro hpc HI.out.2.2))
        clear hys hpc hsm
        go_wp2_with fail
        refine bodyPost_ret (v := .tuple #[.slice (some ⟨go, 0, none⟩) ci ci, .int .i64 0]) (by simp only [results, Try.results28]; go_simp) rfl ⟨_, _, _, ys, by rw [HE.out.2], by rw [HE.out.1]; exact HF.out.1, HF.out.2.1, Nat.le_refl _, hn4, HF.out.2.2⟩
end Go.Proofs.Ytcgejbnmbamchaa
