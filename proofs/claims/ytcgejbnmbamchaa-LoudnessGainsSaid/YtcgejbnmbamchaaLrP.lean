/- Powers of the reference. -/
import Derived.Test.YtcgejbnmbamchaaLrA
import Derived.Test.YtcgejbnmbamchaaLdG
namespace Go.Proofs.Ytcgejbnmbamchaa
open Go.RowKit
attribute [local go_sem ↓] Go.wp_at_zero Go.wp_at_succ

def LrRel (w : World) (X : Snd) (f v : Value) (wr : World) : Prop :=
  ∃ (k F : Nat) (v0 : Value), f = .int .i64 (F : Int) ∧ F = 120 * k ∧ v0 = v ∧ k ≤ nWin (wide X) ∧ OwI wr w.heap.size 2 v0 (pwK X k) ∧ Below w.heap.size w wr
def LrRel2 (wr : World) (X : Snd) (F : Nat) (i acc : Value) (w2 : World) : Prop :=
  ∃ (ci m2 : Nat) (z : Int), i = .int .i64 (ci : Int) ∧ ci ≤ X.length ∧ acc = .int .i64 z ∧ z = powUp X F ci ∧ w2 = wr.drewN m2
def LrRel3 (wr : World) (z0 : Int) (F : Nat) (l : List Int) (i acc : Value) (w2 : World) : Prop :=
  ∃ (s m2 : Nat) (z : Int), i = .int .i64 ((F + s : Nat) : Int) ∧ s ≤ 480 ∧ acc = .int .i64 z ∧ z = z0 + sqs (l.take s) ∧ w2 = wr.drewN m2

set_option maxRecDepth 100000 in
set_option maxHeartbeats 4000000 in
theorem lr_Powers {p : Nat → Prop} (A : Option Addr) (n c : Nat) (xs : List Ch) (w : World) (h : Pcm p w A n xs) (hn : n ≤ maxLen) :
    Calls Try.prog 15 #[.slice A n c] w (RetPw w (powOut (sndOf xs)) (powE (sndOf xs))) := by
  obtain ⟨X, hX⟩ : ∃ X, X = sndOf xs := ⟨_, rfl⟩
  have HP := Lib.hid (h.mono (q := (· < w.heap.size)) (fun b hb _ => hb))
  have HX := Lib.hid hX
  have HSM : Hid (∀ c ∈ X, Smp c) := Lib.hid (by rw [hX]; exact h.smp)
  have HSL : Hid (X.length = n) := Lib.hid (by rw [hX]; exact h.slen)
  rw [← hX]
  clear h hX
  go_enter Try.func15, Try.ntmps15
  go_wp2_with fail
  refine (lr_Proper A n c xs _ HP.out hn).mono ?_
  rintro e w1 ⟨rfl, m, rfl⟩
  rw [← HX.out]
  cases hp : properB X with
  | false =>
    have e1 : powE X = 1 := by unfold powE; rw [hp]; rfl
    have e2 : powOut X = [] := by unfold powOut; rw [hp]; rfl
    have HE := Lib.hid (And.intro e1 e2)
    clear e1 e2 hp
    go_wp2_with fail
    refine bodyPost_ret (v := .tuple #[.slice none 0 0, .int .i64 1]) (by simp only [results, Try.results15]; go_simp) rfl ⟨none, 0, 0, by rw [HE.out.1], by rw [HE.out.2]; exact Its.nil, bdrewN (Below.refl _ _) m, Nat.le_refl _⟩
  | true =>
    have e1 : powE X = 0 := by unfold powE; rw [hp]; rfl
    have e2 : powOut X = powersL X := by unfold powOut; rw [hp]; rfl
    have HE := Lib.hid (And.intro e1 e2)
    have HPR := Lib.hid (proper_spec hp)
    have hn4 : n ≤ 4 := by have := HPR.out.2.1; rwa [HSL.out] at this
    have hn1 : 1 ≤ n := by have := HPR.out.1; rwa [HSL.out] at this
    obtain ⟨N, hN⟩ : ∃ N, N = wide X := ⟨_, rfl⟩
    have hNb : N ≤ 1048576 := by rw [hN]; exact HPR.out.2.2.1
    have HN := Lib.hid hN
    have B1 := bdrewN (Below.refl w.heap.size w) m
    clear e1 e2 hp hN hn
    generalize w.drewN m = W at *
    go_wp2_with fail
    go_loopw [5, 4] (fun f v wr => LrRel w X f v wr) (fun f _ _ => 2000000 - (intOf f).toNat)
    case atStart => exact ⟨0, 0, _, rfl, rfl, rfl, Nat.zero_le _, (OwI.nil : OwI _ _ _ _ []), B1⟩
    case round =>
      obtain ⟨k, F, v, rfl, hF, hv, hk, hown, hb⟩ := hrel
      subst hv
      clear B1
      have HF := Lib.hid hF
      have HO := Lib.hid hown
      have hpw := HP.out.below hb (fun _ _ h => h)
      obtain ⟨b, off, x0, rfl, hpb, hbl, hx0, hc0, hi0, _, _, _⟩ := hpw.at_ (i := 0) (by omega)
      have hx0n : x0.n = N := by
        have h1 := snd_head hx0
        rw [← HX.out, ← HN.out, hi0.len] at h1
        exact h1.symm
      rw [Nat.add_zero, hx0n] at hc0
      have HPW := Lib.hid hpw
      have hkw : k < nWin N ↔ F + 480 ≤ N := by rw [nWin_lt, hF]
      rw [← HN.out] at hk
      have hFb : F ≤ N := by rw [hF]; unfold nWin at hk; omega
      have hkk : k ≤ 8735 := by unfold nWin at hk; omega
      have h0z : (0 : Int) < (n : Int) := by omega
      clear hF hown hpw hi0 hx0
      by_cases hlt : F + 480 ≤ N
      · have hdl : decide ((F : Int) + 480 ≤ (N : Int)) = true := decide_eq_true (by omega)
        go_wp2_with fail
        go_loopw [7, 6] (fun i acc w2 => LrRel2 wr X F i acc w2) (fun i _ _ => n - (intOf i).toNat)
        case atStart => exact ⟨0, 0, 0, rfl, Nat.zero_le _, rfl, (powUp_zero X F).symm, rfl⟩
        case round =>
          obtain ⟨ci, m2, z, rfl, hci, rfl, hz, rfl⟩ := hrel
          rw [HSL.out] at hci
          have hzb := powUp_bound HSM.out F ci
          rw [← hz] at hzb
          have HZ := Lib.hid hz
          clear hz
          by_cases hcn : ci < n
          · obtain ⟨b', off', x, hA, _, _, hx, hc, hi, hs, hxc, hxl⟩ := HPW.out.at_ hcn
            injection hA with hA
            injection hA with e1 e2
            subst e1 e2
            have hxn : x.n = N := by
              have := HPR.out.2.2.2 x.l (List.mem_of_getElem? (by rw [HX.out]; exact hxl))
              rw [← HN.out, hi.len] at this
              exact this
            rw [hxn] at hc hxc hi
            obtain ⟨b1, off1, hA1, _, hb1, hcl⟩ := hi.addr (by omega)
            rw [hA1] at hc
            obtain ⟨win, hwin⟩ : ∃ win, win = (x.l.drop F).take 480 := ⟨_, rfl⟩
            have hwl : win.length = 480 := by rw [hwin, List.length_take, List.length_drop, hi.len]; omega
            have hws : Smp win := by rw [hwin]; exact fun y hy => hs y (List.mem_of_mem_drop (List.mem_of_mem_take hy))
            have hpc : powC F x.l = sqs win := by rw [hwin]; rfl
            have hcell : ∀ s y, win[s]? = some y → wr.cell? ⟨b1, off1 + (F + s), none⟩ = some (.int .i16 y) := by
              intro s y hy
              have hs480 : s < 480 := by
                have := (List.getElem?_eq_some_iff.1 hy).1
                omega
              rw [hwin, List.getElem?_take, if_pos hs480, List.getElem?_drop] at hy
              exact hcl (F + s) y hy
            have HC := Lib.hid hcell
            have HWS := Lib.hid hws
            have HWL := Lib.hid hwl
            have HUP : Hid (powUp X F (ci + 1) = z + sqs win) := Lib.hid (by rw [powUp_succ (by rw [HX.out]; exact hxl), hpc, HZ.out])
            have hcnd : decide ((ci : Int) < (n : Int)) = true := decide_eq_true (by omega)
            have hcnz : (ci : Int) < (n : Int) := by omega
            clear hx hi hs hxl hcl hcell hwin hwl hws hpc
            go_wp2_with fail
            go_loopw [8, 6] (fun i acc w2 => LrRel3 (wr.drewN m2) z F win i acc w2) (fun i _ _ => F + 480 - (intOf i).toNat)
            case atStart => exact ⟨0, 0, z, rfl, Nat.zero_le _, rfl, by simp [sqs], rfl⟩
            case round =>
              obtain ⟨s, m3, z3, rfl, hs480, rfl, hz3, rfl⟩ := hrel
              have hq := sqs_bound (l := win.take s) (fun y hy => HWS.out y (List.mem_of_mem_take hy))
              have hql : (win.take s).length ≤ 480 := by rw [List.length_take]; omega
              have hz3b : 0 ≤ z3 ∧ z3 ≤ 2576980377600 := by omega
              have HZ3 := Lib.hid hz3
              clear hz3 hq hql
              obtain ⟨G, hG⟩ : ∃ G, G = F + s := ⟨_, rfl⟩
              rw [← hG]
              by_cases hsl2 : s < 480
              · obtain ⟨y, hy⟩ : ∃ y, win[s]? = some y := ⟨_, List.getElem?_eq_getElem (by rw [HWL.out]; exact hsl2)⟩
                have hyb := HWS.out _ (List.mem_of_getElem? hy)
                have hcy := HC.out s y hy
                rw [← hG] at hcy
                have hsq := sq_bound hyb
                have HSQ := Lib.hid (And.intro hy hyb)
                obtain ⟨q, hq⟩ : ∃ q, q = y * y := ⟨_, rfl⟩
                rw [← hq] at hsq
                have ey : IntKind.i64.wrap y = y := IntWalk.i64_in _ (by omega)
                have hGz : (G : Int) < (N : Int) := by omega
                have hGd : decide ((G : Int) < (F : Int) + 480) = true := decide_eq_true (by omega)
                have hq' : y * y = q := hq.symm
                have HG := Lib.hid hG
                clear hy hq hG
                go_wp2_with fail
                go_quiet (fail)
                go_wp2_with fail
                go_roundw
                case rel =>
                  refine ⟨s + 1, _, z3 + q, by have := HG.out; go_num, by omega, by go_num, ?_, by first | rfl | exact (World.drewN_drewN _ _ _).symm | (simp [World.drewN_drewN, Nat.add_assoc]; rfl)⟩
                  rw [take_snoc_at HSQ.out.1, sqs_snoc, hq', ← Int.add_assoc, ← HZ3.out]
                case measure => have := HG.out; simp [intOf]; omega
              · obtain rfl : s = 480 := by omega
                have hz4 : z3 = powUp X F (ci + 1) := by rw [HUP.out, HZ3.out, List.take_of_length_le (by rw [HWL.out]; omega)]
                have hGd : decide ((G : Int) < (F : Int) + 480) = false := decide_eq_false (by omega)
                go_wp2_with fail
                go_roundw
                case rel => exact ⟨ci + 1, m2 + m3, z3, by go_num, by rw [HSL.out]; omega, rfl, hz4, rfl⟩
                case measure => simp [intOf]; omega
          · obtain rfl : ci = n := by omega
            have hz2 : z = powAt X F := by rw [HZ.out, powUp_all HSL.out]
            have hzb2 : 0 ≤ z ∧ z ≤ 2061584302080 := by omega
            have hkn : k < nWin N := hkw.2 hlt
            have yo : OwI (wr.drewN m2) w.heap.size 2 v (pwK X k) := HO.out
            have yb := bdrewN hb m2
            generalize wr.drewN m2 = wz at *
            have yo1 : wz.ownsRow w.heap.size 2 1 v k ((pwK X k).map (Value.int .i64)) := by have := yo; unfold OwI at this; rwa [pwK_len] at this
            have YO := Lib.hid (World.ownsRow.alloc yo1 (.cells #[.int .i64 z] 2))
            have hsz := yb.size
            have hbase : w.heap.size ≤ (wz.alloc (.cells #[.int .i64 z] 2)).heap.size := by simp; omega
            have YB := Lib.hid (yb.alloc yb.size (.cells #[.int .i64 z] 2))
            have YL := Lib.hid (World.ownsRow.lt yo1)
            have HZ2 := Lib.hid hz2
            have HKN := Lib.hid hkn
            have hcnd : decide ((ci : Int) < (ci : Int)) = false := decide_eq_false (by omega)
            clear yo yo1 hkw hz2 hkn hk
            go_wp2_with (at_builtin; go_must (refine wpList_appR _ rfl (.tmp 53) (.tmp 55) 26 rfl 2 (.int .i64 0) 1 8 Try.underlying26 Try.infoI64 rfl (by decide) w.heap.size v k _ rfl YO.out (some ⟨wz.heap.size, 0, none⟩) 1 1 [.int .i64 z] rfl (Rw.lit (p := fun _ => True) _ _ _ rfl 1 1 rfl rfl trivial) (by simp [Value.oneCell']) (by omega) (by omega) hbase ?_; intro v3 w3 ho3 hg3 ha3))
            have ZB := YB.out.grown hg3 hbase (fun k hk => (YL.out k hk).1)
            have ZO : OwI w3 w.heap.size 2 v3 (pwK X (k + 1)) := by
              unfold OwI
              rw [pwK_len, pwK_snoc, List.map_append, ← HF.out, ← HZ2.out]
              exact ho3
            go_roundw
            case rel => exact ⟨k + 1, F + 120, v3, by go_num, by have := HF.out; omega, rfl, by have := HKN.out; rw [← HN.out]; omega, ZO, ZB⟩
            case measure => simp [intOf]; omega
      · have hdl : decide ((F : Int) + 480 ≤ (N : Int)) = false := decide_eq_false (by omega)
        have hkN : k = nWin N := by
          have h1 : ¬ k < nWin N := fun h => hlt (hkw.1 h)
          omega
        have hv : pwK X k = powersL X := by unfold pwK powersL; rw [hkN, HN.out]
        obtain ⟨B, cc, rfl⟩ := own_slice HO.out
        have hits := OwI.its (p := (w.heap.size ≤ ·)) HO.out (fun _ h => h)
        have HI := Lib.hid (And.intro hits.1 (And.intro hits.2 (hv.trans HE.out.2.symm)))
        clear hv hkN hkw hk hits
        go_wp2_with fail
        refine bodyPost_ret (v := .tuple #[.slice B (pwK X k).length cc, .int .i64 0]) (by simp only [results, Try.results15]; go_simp) rfl ⟨B, _, cc, by rw [HE.out.1], by rw [← HI.out.2.2]; exact HI.out.1, hb, HI.out.2.1⟩
end Go.Proofs.Ytcgejbnmbamchaa
