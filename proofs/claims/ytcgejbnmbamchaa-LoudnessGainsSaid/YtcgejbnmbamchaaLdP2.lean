/- loudness.Powers of proper sound. -/
import Derived.Test.YtcgejbnmbamchaaLdP
namespace Go.Proofs.Ytcgejbnmbamchaa
open Go.RowKit
attribute [local go_sem ↓] Go.wp_at_zero Go.wp_at_succ

def pwK (X : Snd) (k : Nat) : List Int := (List.range k).map fun j => powAt X (120 * j)
theorem pwK_len (X : Snd) (k : Nat) : (pwK X k).length = k := by simp [pwK]
theorem pwK_snoc (X : Snd) (k : Nat) : pwK X (k + 1) = pwK X k ++ [powAt X (120 * k)] := powers_snoc
def PwRel (w : World) (X : Snd) (f : Value) (wr : World) : Prop :=
  ∃ (k F : Nat) (v : Value), f = .int .i64 (F : Int) ∧ F = 120 * k ∧ k ≤ nWin (wide X) ∧ Bx wr w.heap.size 26 #[v] ∧ Bx wr (w.heap.size + 1) 27 #[.int .i64 0] ∧ OwI wr (w.heap.size + 2) 2 v (pwK X k) ∧ Below w.heap.size w wr
def PwRel2 (wr : World) (X : Snd) (F : Nat) (i acc : Value) (w2 : World) : Prop :=
  ∃ (ci m2 : Nat) (z : Int), i = .int .i64 (ci : Int) ∧ ci ≤ X.length ∧ acc = .int .i64 z ∧ z = powUp X F ci ∧ w2 = wr.drewN m2
def PwRel3 (wr : World) (z0 : Int) (l : List Int) (i acc : Value) (w2 : World) : Prop :=
  ∃ (s m2 : Nat) (z : Int), i = .int .i64 (s : Int) ∧ s ≤ 480 ∧ acc = .int .i64 z ∧ z = z0 + sqs (l.take s) ∧ w2 = wr.drewN m2

set_option maxRecDepth 100000 in
set_option maxHeartbeats 4000000 in
theorem ld_Powers_yes {p : Nat → Prop} (A : Option Addr) (n c : Nat) (xs : List Ch) (w : World) (h : Pcm p w A n xs) (hp : properB (sndOf xs) = true) :
    Calls Try.prog 14 #[.slice A n c] w (RetPw w (powersL (sndOf xs)) 0) := by
  have hmf : ∀ (fn : Fn) (first cap : Array Value) (w : World), (Instr.makeFunc fn first cap).run Try.prog w = .ok (.func fn first cap) w := fun _ _ _ _ => rfl
  have B0 : Below w.heap.size w ((w.alloc (.cells #[.slice none 0 0] 26)).alloc (.cells #[.int .i64 0] 27)) := ((Below.refl _ w).alloc (Nat.le_refl _) _).alloc (by simp) _
  have X1 : Bx ((w.alloc (.cells #[.slice none 0 0] 26)).alloc (.cells #[.int .i64 0] 27)) w.heap.size 26 #[.slice none 0 0] := (Bx.new _ _ _).alloc _
  have X2 : Bx ((w.alloc (.cells #[.slice none 0 0] 26)).alloc (.cells #[.int .i64 0] 27)) (w.heap.size + 1) 27 #[.int .i64 0] := Bx.new' _ _ _ _ (by simp)
  have hps := proper_spec hp
  have hsl := h.slen
  obtain ⟨X, hX⟩ : ∃ X, X = sndOf xs := ⟨_, rfl⟩
  rw [← hX] at hp hps hsl ⊢
  obtain ⟨hn1, hn4, hwd, heq⟩ := hps
  rw [hsl] at hn1 hn4
  have HP := Lib.hid (h.mono (q := (· < w.heap.size)) (fun b hb _ => hb))
  have HPR := Lib.hid hp
  have HX := Lib.hid hX
  have HEQ := Lib.hid heq
  have HSM : Hid (∀ c ∈ X, Smp c) := Lib.hid (by rw [hX]; exact h.smp)
  have HSL := Lib.hid hsl
  obtain ⟨N, hN⟩ : ∃ N, N = wide X := ⟨_, rfl⟩
  rw [← hN] at hwd
  have HN := Lib.hid hN
  clear h hX hp heq hN hsl
  go_enter_defers Try.func14, Try.ntmps14
  go_upto_region 2 with fail
  generalize (w.alloc (.cells #[.slice none 0 0] 26)).alloc (.cells #[.int .i64 0] 27) = W at *
  go_wp2_with fail
  refine (ld_proper A n c xs _ (HP.out.ext (B0.mono (Nat.le_refl _)))).mono ?_
  rintro e w1 ⟨rfl, m, rfl⟩
  rw [← HX.out, HPR.out]
  have B1 := bdrewN B0 m
  have X1 : Bx (W.drewN m) w.heap.size 26 #[.slice none 0 0] := X1
  have X2 : Bx (W.drewN m) (w.heap.size + 1) 27 #[.int .i64 0] := X2
  generalize W.drewN m = W at *
  go_wp2_with fail
  go_loopw [4] (fun f wr => PwRel w X f wr) (fun f _ => 2000000 - (intOf f).toNat)
  case atStart => exact ⟨0, 0, _, rfl, rfl, Nat.zero_le _, X1, X2, OwI.nil, B1⟩
  case round =>
    obtain ⟨k, F, v, rfl, hF, hk, x1, x2, hown, hb⟩ := hrel
    clear X1 X2 B1 B0
    have HF := Lib.hid hF
    have HO := Lib.hid hown
    have hpw := HP.out.below hb (fun _ _ h => h)
    obtain ⟨b, off, x0, rfl, hpb, hbl, hx0, hc0, hi0, _, _, _⟩ := hpw.at_ (i := 0) (by omega)
    have hx0n : x0.n = N := by
      have h1 := snd_head hx0
      rw [← HX.out, ← HN.out, hi0.len] at h1
      exact h1.symm
    rw [Nat.add_zero, hx0n] at hc0
    have HPW := Lib.hid hpw
    have hkw : k < nWin N ↔ F + 480 ≤ N := by rw [nWin_lt, hF]
    rw [← HN.out] at hk
    have hFb : F ≤ N := by rw [hF]; unfold nWin at hk; omega
    clear hF hown hpw hi0 hx0
    by_cases hlt : F + 480 ≤ N
    · have hdl : decide ((F : Int) + 480 ≤ (N : Int)) = true := decide_eq_true (by omega)
      go_wp2_with fail
      go_loopw [25, 5] (fun i acc w2 => PwRel2 wr X F i acc w2) (fun i _ _ => n - (intOf i).toNat)
      case atStart => exact ⟨0, 0, 0, rfl, Nat.zero_le _, rfl, (powUp_zero X F).symm, rfl⟩
      case round =>
        obtain ⟨ci, m2, z, rfl, hci, rfl, hz, rfl⟩ := hrel
        rw [HSL.out] at hci
        have hzb := powUp_bound HSM.out F ci
        rw [← hz] at hzb
        have HZ := Lib.hid hz
        clear hz
        by_cases hcn : ci < n
        · obtain ⟨b', off', x, hA, _, _, hx, hc, hi, hs, hxc, hxl⟩ := (HPW.out.drewN m2).at_ hcn
          injection hA with hA
          injection hA with e1 e2
          subst e1 e2
          have hxn : x.n = N := by
            have := HEQ.out x.l (List.mem_of_getElem? (by rw [HX.out]; exact hxl))
            rw [← HN.out, hi.len] at this
            exact this
          rw [hxn] at hc hxc hi
          obtain ⟨b1, off1, hA1, _, hb1, _⟩ := hi.addr (by omega)
          rw [hA1] at hc hi
          have hsub := hi.sub (i := F) (m := 480) (by omega)
          obtain ⟨_, _, _, _, _, hcell⟩ := hsub.addr (by omega)
          rename_i hA2 _ _
          injection hA2 with hA2
          injection hA2 with e1 e2
          subst e1 e2
          have hsl := sub_ch b1 off1 N x.c (F : Int) ((F : Int) + 480) (by omega) (by omega) (by omega)
          simp only [Int.toNat_natCast, show ((F : Int) + 480 - (F : Int)).toNat = 480 by omega] at hsl
          obtain ⟨win, hwin⟩ : ∃ win, win = (x.l.drop F).take 480 := ⟨_, rfl⟩
          have hwl : win.length = 480 := by rw [hwin, hsub.len]
          have hws : Smp win := by rw [hwin]; exact fun y hy => hs y (List.mem_of_mem_drop (List.mem_of_mem_take hy))
          have hpc : powC F x.l = sqs win := by rw [hwin]; rfl
          rw [← hwin] at hcell
          have HC := Lib.hid hcell
          have HWS := Lib.hid hws
          have HWL := Lib.hid hwl
          have HUP : Hid (powUp X F (ci + 1) = z + sqs win) := Lib.hid (by rw [powUp_succ (by rw [HX.out]; exact hxl), hpc, HZ.out])
          clear hx hi hs hxl hsub hcell hwin hwl hws hpc
          go_wp2_with fail
          go_loopw [35, 5] (fun i acc w2 => PwRel3 (wr.drewN m2) z win i acc w2) (fun i _ _ => 480 - (intOf i).toNat)
          case atStart => exact ⟨0, 0, z, rfl, Nat.zero_le _, rfl, by simp [sqs], rfl⟩
          case round =>
            obtain ⟨s, m3, z3, rfl, hs480, rfl, hz3, rfl⟩ := hrel
            have hq := sqs_bound (l := win.take s) (fun y hy => HWS.out y (List.mem_of_mem_take hy))
            have hql : (win.take s).length ≤ 480 := by rw [List.length_take]; omega
            have hz3b : 0 ≤ z3 ∧ z3 ≤ 2576980377600 := by omega
            have HZ3 := Lib.hid hz3
            clear hz3 hq hql
            by_cases hsl2 : s < 480
            · obtain ⟨y, hy⟩ : ∃ y, win[s]? = some y := ⟨_, List.getElem?_eq_getElem (by rw [HWL.out]; exact hsl2)⟩
              have hyb := HWS.out _ (List.mem_of_getElem? hy)
              have hcy : (wr.drewN (m2 + m3)).cell? ⟨b1, off1 + F + s, none⟩ = some (.int .i16 y) := HC.out s y hy
              have hsq := sq_bound hyb
              have HSQ := Lib.hid (And.intro hy hyb)
              obtain ⟨q, hq⟩ : ∃ q, q = y * y := ⟨_, rfl⟩
              rw [← hq] at hsq
              clear hy
              go_wp2_with fail
              refine (ld_square16 y _ hyb).mono ?_
              rintro e w4 ⟨rfl, rfl⟩
              rw [← hq]
              go_wp2_with fail
              go_roundw
              case rel =>
                refine ⟨s + 1, m3, z3 + q, by go_num, by omega, by go_num, ?_, (World.drewN_drewN _ _ _).symm⟩
                rw [take_snoc_at HSQ.out.1, sqs_snoc, ← hq, ← Int.add_assoc, ← HZ3.out]
              case measure => simp [intOf]; omega
            · obtain rfl : s = 480 := by omega
              have hz4 : z3 = powUp X F (ci + 1) := by rw [HUP.out, HZ3.out, List.take_of_length_le (by rw [HWL.out]; omega)]
              go_wp2_with fail
              go_roundw
              case rel =>
                exact ⟨ci + 1, m2 + m3, z3, by go_num, by rw [HSL.out]; omega, rfl, hz4, rfl⟩
              case measure => simp [intOf]; omega
        · obtain rfl : ci = n := by omega
          have hz2 : z = powAt X F := by rw [HZ.out, powUp_all HSL.out]
          have hzb2 : 0 ≤ z ∧ z ≤ 2061584302080 := by omega
          have hkn : k < nWin N := hkw.2 hlt
          have hnw : nWin N ≤ 8735 := by unfold nWin; omega
          have l1 := x1.lt
          have l2 := x2.lt
          have c1 : (wr.drewN m2).cell? ⟨w.heap.size, 0, none⟩ = some v := x1.cell 0 rfl
          have f1 := (x1.drewN m2).frozen 0
          have y1 := x1.drewN m2
          have y2 := x2.drewN m2
          have yo : OwI (wr.drewN m2) (w.heap.size + 2) 2 v (pwK X k) := HO.out
          have yb := bdrewN hb m2
          have yl : ∀ k, v.ownBlock = some k → w.heap.size + 2 ≤ k ∧ k < wr.heap.size := World.ownsRow.lt HO.out
          generalize wr.drewN m2 = wz at *
          have yo1 : wz.ownsRow (w.heap.size + 2) 2 1 v k ((pwK X k).map (Value.int .i64)) := by have := yo; unfold OwI at this; rwa [pwK_len] at this
          have YO := Lib.hid (World.ownsRow.alloc yo1 (.cells #[.int .i64 z] 2))
          have Y1 := Lib.hid (y1.alloc (.cells #[.int .i64 z] 2))
          have Y2 := Lib.hid (y2.alloc (.cells #[.int .i64 z] 2))
          have hne1 : Hid (some w.heap.size ≠ v.ownBlock) := Lib.hid (fun e => by have := (yl _ e.symm).1; omega)
          have hne2 : Hid (some (w.heap.size + 1) ≠ v.ownBlock) := Lib.hid (fun e => by have := (yl _ e.symm).1; omega)
          have hsz := y2.lt
          have hbase : w.heap.size + 2 ≤ (wz.alloc (.cells #[.int .i64 z] 2)).heap.size := by simp; omega
          have YB := Lib.hid (yb.alloc yb.size (.cells #[.int .i64 z] 2))
          have YL := Lib.hid yl
          have HZ2 := Lib.hid hz2
          clear x1 x2 yo yo1 yl y2 hb l2 hkw hz2 hnw
          have hkk : k ≤ 8735 := by have := hkn; unfold nWin at this; omega
          have HKN := Lib.hid hkn
          clear hkn hk
          go_wp2_with (at_builtin; go_must (refine wpList_appR _ rfl (.tmp 45) (.tmp 47) 26 rfl 2 (.int .i64 0) 1 8 Try.underlying26 Try.infoI64 rfl (by decide) (w.heap.size + 2) v k _ rfl YO.out (some ⟨wz.heap.size, 0, none⟩) 1 1 [.int .i64 z] rfl (Rw.lit (p := fun _ => True) _ _ _ rfl 1 1 rfl rfl trivial) (by simp [Value.oneCell']) (by omega) (by omega) hbase ?_; intro v3 w3 ho3 hg3 ha3; obtain ⟨A3, c3, rfl⟩ := own_slice ho3; have y13 := Y1.out.grown hg3 hne1.out; have c13 := y13.cell 0 rfl; have f13 := y13.frozen 0; have l13 := y13.lt))
          have Z1 := y13.set_ 0 (.slice A3 (k + 1) c3)
          have Z2 := (Y2.out.grown hg3 hne2.out).far (a := ⟨w.heap.size, 0, none⟩) (by dsimp only; omega) (.slice A3 (k + 1) c3)
          have ZB := bset (YB.out.grown hg3 (by omega) (fun k hk => by have := (YL.out k hk).1; omega)) ⟨w.heap.size, 0, none⟩ (Nat.le_refl _) (.slice A3 (k + 1) c3)
          have ZO : OwI (w3.setCell ⟨w.heap.size, 0, none⟩ (.slice A3 (k + 1) c3)) (w.heap.size + 2) 2 (.slice A3 (k + 1) c3) (pwK X (k + 1)) := by
            unfold OwI
            rw [pwK_len, pwK_snoc, List.map_append, ← HF.out, ← HZ2.out]
            exact own_set ho3 (by dsimp only; omega)
          go_roundw
          case rel => exact ⟨k + 1, F + 120, (.slice A3 (k + 1) c3), by go_num, by have := HF.out; omega, by have := HKN.out; rw [← HN.out]; omega, Z1, Z2, ZO, ZB⟩
          case measure => simp [intOf]; omega
    · have hdl : decide ((F : Int) + 480 ≤ (N : Int)) = false := decide_eq_false (by omega)
      have hkN : k = nWin N := by
        have h1 : ¬ k < nWin N := fun h => hlt (hkw.1 h)
        omega
      have hv : pwK X k = powersL X := by unfold pwK powersL; rw [hkN, HN.out]
      obtain ⟨B, cc, rfl⟩ := own_slice HO.out
      have HO' : OwI wr (w.heap.size + 2) 2 (.slice B (pwK X k).length cc) (pwK X k) := HO.out
      rw [pwK_len] at HO' x1
      have HO := Lib.hid HO'
      clear HO'
      have l1 := x1.lt
      have l2 := x2.lt
      have c1 := x1.cell 0 rfl
      have c2 := x2.cell 0 rfl
      have f1 := x1.frozen 0
      have f2 := x2.frozen 0
      have HV := Lib.hid hv
      have Y1 := (x1.set_ 0 (.slice B k cc)).far (a := ⟨w.heap.size + 1, 0, none⟩) (by dsimp only; omega) (.int .i64 0)
      have Y2 := (x2.far (a := ⟨w.heap.size, 0, none⟩) (by dsimp only; omega) (.slice B k cc)).set_ 0 (.int .i64 0)
      have BZ := bset (bset hb ⟨w.heap.size, 0, none⟩ (Nat.le_refl _) (.slice B k cc)) ⟨w.heap.size + 1, 0, none⟩ (by dsimp only; omega) (.int .i64 0)
      have hits := OwI.its (p := (w.heap.size + 2 ≤ ·)) HO.out (fun _ h => h)
      have hits2 := ((hits.1.setCell (a := ⟨w.heap.size, 0, none⟩) (by dsimp only; omega) (.slice B k cc)).setCell (a := ⟨w.heap.size + 1, 0, none⟩) (by dsimp only; omega) (.int .i64 0)).mono (q := (w.heap.size ≤ ·)) (fun _ _ h => by omega)
      have HI := Lib.hid (And.intro hits2 hits.2)
      clear hv hkN hkw hk hits hits2
      go_wp2_with fail
      rw [HV.out] at HI
      exact pow_leave _ _ rfl rfl rfl Y1 Y2 HI.out.1 BZ HI.out.2
end Go.Proofs.Ytcgejbnmbamchaa
