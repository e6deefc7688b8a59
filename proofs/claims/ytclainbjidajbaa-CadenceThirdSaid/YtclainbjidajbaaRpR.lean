/- The reference's Repeats; SameInts of equal lists. -/
import Derived.Test.YtclainbjidajbaaRpP
namespace Go.Proofs.Ytclainbjidajbaa
open Go.RowKit

set_option maxHeartbeats 1000000 in
theorem ref_SameInts {p p' : Nat → Prop} (A A' : Option Addr) (n c c' : Nat) (l : List Int) (w : World) (hn : n = l.length) (hR : Rw p w A n 1 (l.map (Value.int .i64))) (hR' : Rw p' w A' n 1 (l.map (Value.int .i64))) (hle : n ≤ 4000000000000) :
    Calls Try.prog 11 #[.slice A n c, .slice A' n c'] w fun e w' => e = .returned (.bool true) ∧ ∃ m, w' = w.drewN m := by
  have HN := Lib.hid hn
  clear hn
  go_enter Try.func11, Try.ntmps11
  go_wp2_with fail
  go_loopw [5] (fun i wr => ∃ k m : Nat, k ≤ n ∧ i = .int .i64 k ∧ wr = w.drewN m) (fun i _ => n - (intOf i).toNat)
  case atStart => exact ⟨0, 0, Nat.zero_le _, rfl, rfl⟩
  case round =>
    obtain ⟨k, m, hk, rfl, rfl⟩ := hrel
    by_cases hlt : k < n
    · obtain ⟨b, off, rfl, _, _, hc⟩ := hR.addr (by omega)
      obtain ⟨b', off', rfl, _, _, hc'⟩ := hR'.addr (by omega)
      have hkl : k < l.length := by rw [← HN.out]; exact hlt
      have e0 : (l.map (Value.int .i64))[k]? = some (.int .i64 l[k]) := by simp [hkl]
      have f0 := hc _ _ e0
      have f2 := hc' _ _ e0
      generalize l[k] = X at *
      have i1 : (k : Int) < (n : Int) := by omega
      clear e0 hc hc' hkl
      go_wp2_with fail
      go_quiet (fail)
      go_wp2_with fail
      go_roundw
      case rel => exact ⟨k + 1, _, by omega, by go_num, rfl⟩
      case measure => simp [intOf]; omega
    · go_wp2_with fail
      go_ret
      exact ⟨rfl, m, rfl⟩

/-- The state of the reference's loop. -/
structure RGo (w : World) (A1 : Option Addr) (n1 c1 : Nat) (L : List Int) (W : World) : Prop where
  be : Below w.heap.size w W
  ow : W.ownsRow w.heap.size 3 1 (.slice A1 n1 c1) n1 (L.map (Value.int .i64))
theorem RGo.ext {w W W' : World} {A1 : Option Addr} {n1 c1 : Nat} {L : List Int} (h : RGo w A1 n1 c1 L W) (hb : Below W.heap.size W W') : RGo w A1 n1 c1 L W' := ⟨h.be.trans (hb.mono h.be.size), own_ext h.ow hb⟩
theorem RGo.drew {w W : World} {A1 : Option Addr} {n1 c1 : Nat} {L : List Int} (h : RGo w A1 n1 c1 L W) : RGo w A1 n1 c1 L W.drew := ⟨h.be.drew, h.ow.drew⟩
theorem RGo.app {w W W' : World} {A1 : Option Addr} {n1 c1 : Nat} {L : List Int} {A3 : Option Addr} {n3 c3 : Nat} {cs : Array Value} {t : TypeId} {a : Int} {L' : List Int} (h : RGo w A1 n1 c1 L W) (ho : W'.ownsRow w.heap.size 3 1 (.slice A3 n3 c3) (n1 + 1) (L.map (Value.int .i64) ++ [.int .i64 a])) (hg : (W.alloc (.cells cs t)).grownBy W' (Value.slice A1 n1 c1).ownBlock) (hL : L'.map (Value.int .i64) = L.map (Value.int .i64) ++ [.int .i64 a]) :
    RGo w A3 (n1 + 1) c3 L' W' := by
  obtain ⟨A, c, hv⟩ := own_slice ho
  injection hv with q1 q2 q3
  subst q2
  exact ⟨(h.be.alloc h.be.size _).grown hg (h.be.alloc h.be.size _).size (fun j hj => (World.ownsRow.lt h.ow j hj).1), by rw [hL]; exact ho⟩

set_option maxRecDepth 100000 in
set_option maxHeartbeats 8000000 in
theorem ref_Repeats {p q : Nat → Prop} (A : Option Addr) (n c : Nat) (xs : List FA) (w : World) (h : Frs p q w A n xs) (hn : n ≤ 1600000000000) :
    Calls Try.prog 10 #[.slice A n c] w (RetRp w (repE (frs xs)) (repL (frs xs))) := by
  have H := Lib.hid h
  have HLX : Hid ((frs xs).length = n) := Lib.hid (by simp [frs, h.1])
  have HAL := Lib.hid (fun w h => ref_Alike (p := p) (q := q) A n c xs w h (by omega))
  clear h
  go_enter Try.func10, Try.ntmps10
  go_wp2_with fail
  refine (HAL.out _ H.out).mono ?_
  rintro e w1 ⟨rfl, hb1⟩
  have HB1 := Lib.hid hb1
  clear hb1
  cases hal : alikeF (frs xs) with
  | false =>
    obtain ⟨e1, e2⟩ := rep_no hal
    have HE1 := Lib.hid e1
    have HE2 := Lib.hid e2
    clear e1 e2 hal
    go_wp2_with fail
    go_ret2
    exact ⟨none, 0, 0, by rw [HE1.out]; rfl, by rw [HE2.out]; rfl, by rw [HE2.out]; exact Rw.nil, HB1.out⟩
  | true =>
    have HT := Lib.hid hal
    clear hal
    go_wp2_with fail
    go_loopw [4, 5] (fun v i wr => ∃ (k n1 : Nat) (A1 : Option Addr) (c1 : Nat), 1 ≤ k ∧ (k ≤ n ∨ k = 1) ∧ i = .int .i64 (k : Int) ∧ v = .slice A1 n1 c1 ∧ n1 = (repK (frs xs) (2 * k)).length ∧ RGo w A1 n1 c1 (repK (frs xs) (2 * k)) wr) (fun _ i _ => n - (intOf i).toNat)
    case atStart => exact ⟨1, 0, none, 0, Nat.le_refl _, .inr rfl, rfl, rfl, by rw [show repK (frs xs) (2 * 1) = [] by rw [show (2 * 1) = 0 + 1 + 1 by rfl, repK_succ, repK_succ, repB_lo (by omega), repB_lo (by omega)]; rfl]; rfl, HB1.out, by rw [show repK (frs xs) (2 * 1) = [] by rw [show (2 * 1) = 0 + 1 + 1 by rfl, repK_succ, repK_succ, repB_lo (by omega), repB_lo (by omega)]; rfl]; exact World.ownsRow_nil _ _ _ _⟩
    case round =>
      obtain ⟨k, n1, A1, c1, hk1, hk, rfl, rfl, hn1, hG⟩ := hrel
      obtain ⟨L1, hL1⟩ : ∃ L1, repK (frs xs) (2 * k) = L1 := ⟨_, rfl⟩
      have hlen := repK_len (frs xs) (2 * k)
      rw [hL1] at hn1 hG hlen
      have HL1 := Lib.hid hL1
      have HN1 := Lib.hid hn1
      have HG := Lib.hid hG
      have hn1b : n1 ≤ 3200000000002 := by omega
      clear hL1 hn1 hlen hG
      by_cases hkn : k < n
      · have dk : decide ((k : Int) < (n : Int)) = true := decide_eq_true (by omega)
        obtain ⟨u, hu⟩ : ∃ u, k - 1 = u := ⟨_, rfl⟩
        have hun : u < n := by omega
        obtain ⟨b, off, x, rfl, hbf, hxx, hox, xc0, xc1, xc2, xc3, xc4⟩ := H.out.at_ hun
        obtain ⟨b', off', y, hAA, hbl2, hyy, hoy, yc0, yc1, yc2, yc3, yc4⟩ := H.out.at_ hkn
        injection hAA with hAA
        injection hAA with q1 q2
        subst q1 q2
        obtain ⟨SW, SH, hsz⟩ := alike_sz HT.out
        have sx := hsz x.f (List.mem_of_getElem? (frs_at hxx))
        have sy := hsz y.f (List.mem_of_getElem? (frs_at hyy))
        have HJ1 := Lib.hid (fun w' (h : Below w.heap.size w w') => ref_Join y x SW SH w' (hoy.ext h) (hox.ext h) sy sx)
        have HJ2 := Lib.hid (fun w' (h : Below w.heap.size w w') => ref_Join x y SW SH w' (hox.ext h) (hoy.ext h) sx sy)
        have hs1 : ∀ (z : FA) (w' : World) (p : Nat → Prop) (_ : Below w.heap.size w w') (_ : FrmOk p w' z) (_ : z.f = joinF y.f x.f), Calls Try.prog 19 #[z.val, x.val] w' fun e w'' => e = .returned (.bool (decide (joinF y.f x.f = x.f))) ∧ Below w'.heap.size w' w'' := fun z w' p h hz he => he ▸ ref_SameF z x w' hz (hox.ext h)
        have hs2 : ∀ (z : FA) (w' : World) (p : Nat → Prop) (_ : Below w.heap.size w w') (_ : FrmOk p w' z) (_ : z.f = joinF x.f y.f), Calls Try.prog 19 #[z.val, x.val] w' fun e w'' => e = .returned (.bool (decide (joinF x.f y.f = x.f))) ∧ Below w'.heap.size w' w'' := fun z w' p h hz he => he ▸ ref_SameF z x w' hz (hox.ext h)
        have HS1 := Lib.hid hs1
        have HS2 := Lib.hid hs2
        have HR1 := Lib.hid ((repB_at (j := 2 * k) (m := 0) (by omega) (by omega) (by omega) (by omega) hxx hyy).trans (join_even sx sy).symm)
        have HR2 := Lib.hid ((repB_at (j := 2 * k + 1) (m := 1) (by omega) (by omega) (by omega) (by omega) hxx hyy).trans (join_odd sx sy).symm)
        have wu : IntKind.i64.wrap ((k : Int) - 1) = (u : Int) := by rw [show (k : Int) - 1 = (u : Int) by omega]; exact IntWalk.i64_in _ (by omega)
        have w2k : IntKind.i64.wrap (2 * (k : Int)) = 2 * (k : Int) := IntWalk.i64_in _ (by omega)
        have w2k1 : IntKind.i64.wrap (2 * (k : Int) + 1) = 2 * (k : Int) + 1 := IntWalk.i64_in _ (by omega)
        have a0 : (0 : Int) ≤ (u : Int) := by omega
        have a1 : (u : Int) < (n : Int) := by omega
        have b0 : (0 : Int) ≤ (k : Int) := by omega
        have b1 : (k : Int) < (n : Int) := by omega
        have HXC : Hid (∀ W, Below w.heap.size w W → W.cell? ⟨b, off + u * 5, none⟩ = some (.int .i64 x.f.W) ∧ W.cell? ⟨b, off + u * 5 + 1, none⟩ = some (.int .i64 x.f.H) ∧ W.cell? ⟨b, off + u * 5 + 2, none⟩ = some (.slice x.ya x.yn x.yc) ∧ W.cell? ⟨b, off + u * 5 + 3, none⟩ = some (.slice x.ua x.un x.uc) ∧ W.cell? ⟨b, off + u * 5 + 4, none⟩ = some (.slice x.va x.vn x.vc)) := Lib.hid (fun W hW =>
          have e : ∀ (bb o : Nat) (v : Value), bb < w.heap.size → w.cell? ⟨bb, o, none⟩ = some v → W.cell? ⟨bb, o, none⟩ = some v := fun bb o v h1 h2 => (hW.cell (p := ⟨bb, o, none⟩) h1).trans h2
          ⟨e _ _ _ hbf xc0, e _ _ _ hbf xc1, e _ _ _ hbf xc2, e _ _ _ hbf xc3, e _ _ _ hbf xc4⟩)
        have HYC : Hid (∀ W, Below w.heap.size w W → W.cell? ⟨b, off + k * 5, none⟩ = some (.int .i64 y.f.W) ∧ W.cell? ⟨b, off + k * 5 + 1, none⟩ = some (.int .i64 y.f.H) ∧ W.cell? ⟨b, off + k * 5 + 2, none⟩ = some (.slice y.ya y.yn y.yc) ∧ W.cell? ⟨b, off + k * 5 + 3, none⟩ = some (.slice y.ua y.un y.uc) ∧ W.cell? ⟨b, off + k * 5 + 4, none⟩ = some (.slice y.va y.vn y.vc)) := Lib.hid (fun W hW =>
          have e : ∀ (bb o : Nat) (v : Value), bb < w.heap.size → w.cell? ⟨bb, o, none⟩ = some v → W.cell? ⟨bb, o, none⟩ = some v := fun bb o v h1 h2 => (hW.cell (p := ⟨bb, o, none⟩) h1).trans h2
          ⟨e _ _ _ hbf yc0, e _ _ _ hbf yc1, e _ _ _ hbf yc2, e _ _ _ hbf yc3, e _ _ _ hbf yc4⟩)
        have HF := Lib.hid (fun w' (h : Below w.heap.size w w') => And.intro (HXC.out w' h) (HYC.out w' h))
        clear hxx hyy hox hoy xc0 xc1 xc2 xc3 xc4 yc0 yc1 yc2 yc3 yc4 sx sy hsz hu hs1 hs2 HXC HYC
        cases hr1 : decide (joinF y.f x.f = x.f) with
        | true =>
          rw [hr1] at HS1
          have HR1' := HR1.out.trans hr1
          have HM := Lib.hid ((rep_next HR1' HL1.out HN1.out).1 rfl)
          clear hr1 HR1'
          go_upto_region 7 with fail
          have HBB : Hid (Below w.heap.size w wr.drew) := Lib.hid HG.out.be.drew
          have HBT : Hid (∀ w', Below wr.drew.heap.size wr.drew w' → Below w.heap.size w w') := Lib.hid (fun w' h => HBB.out.trans (h.mono HBB.out.size))
          have HQ1 := Lib.hid (HJ1.out _ HBB.out)
          have HF1 := Lib.hid (fun w' (h : Below wr.drew.heap.size wr.drew w') => HF.out w' (HBT.out w' h))
          have HS := Lib.hid (fun z w' (h : Below wr.drew.heap.size wr.drew w') => HS1.out z w' (wr.drew.heap.size ≤ ·) (HBT.out w' h))
          simp only [FA.val] at HQ1 HS
          go_region_held3 (fun w' => (w'.cell? ⟨b, off + u * 5, none⟩ = some (.int .i64 x.f.W) ∧ w'.cell? ⟨b, off + u * 5 + 1, none⟩ = some (.int .i64 x.f.H) ∧ w'.cell? ⟨b, off + u * 5 + 2, none⟩ = some (.slice x.ya x.yn x.yc) ∧ w'.cell? ⟨b, off + u * 5 + 3, none⟩ = some (.slice x.ua x.un x.uc) ∧ w'.cell? ⟨b, off + u * 5 + 4, none⟩ = some (.slice x.va x.vn x.vc)) ∧ (w'.cell? ⟨b, off + k * 5, none⟩ = some (.int .i64 y.f.W) ∧ w'.cell? ⟨b, off + k * 5 + 1, none⟩ = some (.int .i64 y.f.H) ∧ w'.cell? ⟨b, off + k * 5 + 2, none⟩ = some (.slice y.ya y.yn y.yc) ∧ w'.cell? ⟨b, off + k * 5 + 3, none⟩ = some (.slice y.ua y.un y.uc) ∧ w'.cell? ⟨b, off + k * 5 + 4, none⟩ = some (.slice y.va y.vn y.vc))) (first | with_reducible exact HF1.out _ (Below.refl _ _) | with_reducible exact HF1.out _ hw3 | with_reducible exact HF1.out _ (hw3.trans (hw4.mono hw3.size)) | go_keep)
            (first
              | (go_at_call 20; ((with_reducible refine HQ1.out.mono ?_); rintro e w3 ⟨z, rfl, hzf0, hzo, hw3⟩; simp only [FA.val]; have hzf := Lib.hid hzf0; clear hzf0))
              | (go_at_call 19; ((with_reducible refine (HS.out z w3 hw3 hzo hzf.out).mono ?_); rintro e w4 ⟨rfl, hw4⟩)))
          have Hw4 := Lib.hid (HG.out.drew.ext (hw3.trans (hw4.mono hw3.size)))
          clear HQ1 HF1 HS HBB HBT hzf hzo hw3 hw4
          go_upto_region 9 with (first | (at_builtin; go_must (refine wpList_appBig _ rfl (.tmp 31) (.tmp 34) 22 rfl 3 (.int .i64 0) 1 8 Try.underlying22 Try.infoI rfl (by decide) w.heap.size _ n1 _ rfl (own_alloc Hw4.out.ow _) (some ⟨w4.heap.size, 0, none⟩) 1 1 [.int .i64 (2 * (k : Int))] rfl (Rw.lit (p := fun _ => True) _ _ _ rfl 1 1 rfl rfl trivial) (by simp [Value.oneCell']) (by simp only [maxLen]; omega) (by omega) (by have := Hw4.out.be.size; simp; omega) ?_; intro v3 w5 ho3 hg3 ha3; obtain ⟨A3, c3, hv3⟩ := own_slice ho3; subst hv3; have Hw5 := Lib.hid (Hw4.out.app (L' := repK (frs xs) (2 * k + 1)) ho3 hg3 (by rw [HM.out.2]; rfl)); clear ho3 hg3 ha3)))
          cases hr2 : decide (joinF x.f y.f = x.f) with
          | true =>
            rw [hr2] at HS2
            have HR2' := HR2.out.trans hr2
            have HM2 := Lib.hid ((rep_next HR2' rfl HM.out.1).1 rfl)
            clear hr2 HR2'
            have HBB : Hid (Below w.heap.size w w5.drew) := Lib.hid Hw5.out.be.drew
            have HBT : Hid (∀ w', Below w5.drew.heap.size w5.drew w' → Below w.heap.size w w') := Lib.hid (fun w' h => HBB.out.trans (h.mono HBB.out.size))
            have HQ1 := Lib.hid (HJ2.out _ HBB.out)
            have HF1 := Lib.hid (fun w' (h : Below w5.drew.heap.size w5.drew w') => HF.out w' (HBT.out w' h))
            have HS := Lib.hid (fun z w' (h : Below w5.drew.heap.size w5.drew w') => HS2.out z w' (w5.drew.heap.size ≤ ·) (HBT.out w' h))
            simp only [FA.val] at HQ1 HS
            go_region_held3 (fun w' => (w'.cell? ⟨b, off + u * 5, none⟩ = some (.int .i64 x.f.W) ∧ w'.cell? ⟨b, off + u * 5 + 1, none⟩ = some (.int .i64 x.f.H) ∧ w'.cell? ⟨b, off + u * 5 + 2, none⟩ = some (.slice x.ya x.yn x.yc) ∧ w'.cell? ⟨b, off + u * 5 + 3, none⟩ = some (.slice x.ua x.un x.uc) ∧ w'.cell? ⟨b, off + u * 5 + 4, none⟩ = some (.slice x.va x.vn x.vc)) ∧ (w'.cell? ⟨b, off + k * 5, none⟩ = some (.int .i64 y.f.W) ∧ w'.cell? ⟨b, off + k * 5 + 1, none⟩ = some (.int .i64 y.f.H) ∧ w'.cell? ⟨b, off + k * 5 + 2, none⟩ = some (.slice y.ya y.yn y.yc) ∧ w'.cell? ⟨b, off + k * 5 + 3, none⟩ = some (.slice y.ua y.un y.uc) ∧ w'.cell? ⟨b, off + k * 5 + 4, none⟩ = some (.slice y.va y.vn y.vc))) (first | with_reducible exact HF1.out _ (Below.refl _ _) | with_reducible exact HF1.out _ hw6 | with_reducible exact HF1.out _ (hw6.trans (hw7.mono hw6.size)) | go_keep)
              (first
                | (go_at_call 20; ((with_reducible refine HQ1.out.mono ?_); rintro e w6 ⟨z, rfl, hzf0, hzo, hw6⟩; simp only [FA.val]; have hzf := Lib.hid hzf0; clear hzf0))
                | (go_at_call 19; ((with_reducible refine (HS.out z w6 hw6 hzo hzf.out).mono ?_); rintro e w7 ⟨rfl, hw7⟩)))
            have Hw7 := Lib.hid (Hw5.out.drew.ext (hw6.trans (hw7.mono hw6.size)))
            clear HQ1 HF1 HS HBB HBT hzf hzo hw6 hw7
            go_wp2_with (first | (at_builtin; go_must (refine wpList_appBig _ rfl (.tmp 52) (.tmp 56) 22 rfl 3 (.int .i64 0) 1 8 Try.underlying22 Try.infoI rfl (by decide) w.heap.size _ (n1 + 1) _ rfl (own_alloc Hw7.out.ow _) (some ⟨w7.heap.size, 0, none⟩) 1 1 [.int .i64 (2 * (k : Int) + 1)] rfl (Rw.lit (p := fun _ => True) _ _ _ rfl 1 1 rfl rfl trivial) (by simp [Value.oneCell']) (by simp only [maxLen]; omega) (by omega) (by have := Hw7.out.be.size; simp; omega) ?_; intro v3 w8 ho3 hg3 ha3; obtain ⟨A3, c3, hv3⟩ := own_slice ho3; subst hv3; have Hw8 := Lib.hid (Hw7.out.app (L' := repK (frs xs) (2 * k + 1 + 1)) ho3 hg3 (by rw [HM2.out.2]; rfl)); clear ho3 hg3 ha3)))
            go_roundw
            case rel => exact ⟨k + 1, (n1 + 1) + 1, _, _, by omega, .inl (by omega), by go_num, rfl, HM2.out.1, Hw8.out⟩
            case measure => (simp [intOf]; try omega)
          | false =>
            rw [hr2] at HS2
            have HR2' := HR2.out.trans hr2
            have HM2 := Lib.hid ((rep_next HR2' rfl HM.out.1).2 rfl)
            clear hr2 HR2'
            have HBB : Hid (Below w.heap.size w w5.drew) := Lib.hid Hw5.out.be.drew
            have HBT : Hid (∀ w', Below w5.drew.heap.size w5.drew w' → Below w.heap.size w w') := Lib.hid (fun w' h => HBB.out.trans (h.mono HBB.out.size))
            have HQ1 := Lib.hid (HJ2.out _ HBB.out)
            have HF1 := Lib.hid (fun w' (h : Below w5.drew.heap.size w5.drew w') => HF.out w' (HBT.out w' h))
            have HS := Lib.hid (fun z w' (h : Below w5.drew.heap.size w5.drew w') => HS2.out z w' (w5.drew.heap.size ≤ ·) (HBT.out w' h))
            simp only [FA.val] at HQ1 HS
            go_region_held3 (fun w' => (w'.cell? ⟨b, off + u * 5, none⟩ = some (.int .i64 x.f.W) ∧ w'.cell? ⟨b, off + u * 5 + 1, none⟩ = some (.int .i64 x.f.H) ∧ w'.cell? ⟨b, off + u * 5 + 2, none⟩ = some (.slice x.ya x.yn x.yc) ∧ w'.cell? ⟨b, off + u * 5 + 3, none⟩ = some (.slice x.ua x.un x.uc) ∧ w'.cell? ⟨b, off + u * 5 + 4, none⟩ = some (.slice x.va x.vn x.vc)) ∧ (w'.cell? ⟨b, off + k * 5, none⟩ = some (.int .i64 y.f.W) ∧ w'.cell? ⟨b, off + k * 5 + 1, none⟩ = some (.int .i64 y.f.H) ∧ w'.cell? ⟨b, off + k * 5 + 2, none⟩ = some (.slice y.ya y.yn y.yc) ∧ w'.cell? ⟨b, off + k * 5 + 3, none⟩ = some (.slice y.ua y.un y.uc) ∧ w'.cell? ⟨b, off + k * 5 + 4, none⟩ = some (.slice y.va y.vn y.vc))) (first | with_reducible exact HF1.out _ (Below.refl _ _) | with_reducible exact HF1.out _ hw6 | with_reducible exact HF1.out _ (hw6.trans (hw7.mono hw6.size)) | go_keep)
              (first
                | (go_at_call 20; ((with_reducible refine HQ1.out.mono ?_); rintro e w6 ⟨z, rfl, hzf0, hzo, hw6⟩; simp only [FA.val]; have hzf := Lib.hid hzf0; clear hzf0))
                | (go_at_call 19; ((with_reducible refine (HS.out z w6 hw6 hzo hzf.out).mono ?_); rintro e w7 ⟨rfl, hw7⟩)))
            have Hw7 := Lib.hid (Hw5.out.drew.ext (hw6.trans (hw7.mono hw6.size)))
            clear HQ1 HF1 HS HBB HBT hzf hzo hw6 hw7
            have Hw8 : Hid (RGo w A3 (n1 + 1) c3 (repK (frs xs) (2 * k + 1 + 1)) w7) := Lib.hid (by have h := Hw7.out; exact ⟨h.be, by rw [HM2.out.2]; exact h.ow⟩)
            go_wp2_with fail
            go_roundw
            case rel => exact ⟨k + 1, (n1 + 1), _, _, by omega, .inl (by omega), by go_num, rfl, HM2.out.1, Hw8.out⟩
            case measure => (simp [intOf]; try omega)
        | false =>
          rw [hr1] at HS1
          have HR1' := HR1.out.trans hr1
          have HM := Lib.hid ((rep_next HR1' HL1.out HN1.out).2 rfl)
          clear hr1 HR1'
          go_upto_region 7 with fail
          have HBB : Hid (Below w.heap.size w wr.drew) := Lib.hid HG.out.be.drew
          have HBT : Hid (∀ w', Below wr.drew.heap.size wr.drew w' → Below w.heap.size w w') := Lib.hid (fun w' h => HBB.out.trans (h.mono HBB.out.size))
          have HQ1 := Lib.hid (HJ1.out _ HBB.out)
          have HF1 := Lib.hid (fun w' (h : Below wr.drew.heap.size wr.drew w') => HF.out w' (HBT.out w' h))
          have HS := Lib.hid (fun z w' (h : Below wr.drew.heap.size wr.drew w') => HS1.out z w' (wr.drew.heap.size ≤ ·) (HBT.out w' h))
          simp only [FA.val] at HQ1 HS
          go_region_held3 (fun w' => (w'.cell? ⟨b, off + u * 5, none⟩ = some (.int .i64 x.f.W) ∧ w'.cell? ⟨b, off + u * 5 + 1, none⟩ = some (.int .i64 x.f.H) ∧ w'.cell? ⟨b, off + u * 5 + 2, none⟩ = some (.slice x.ya x.yn x.yc) ∧ w'.cell? ⟨b, off + u * 5 + 3, none⟩ = some (.slice x.ua x.un x.uc) ∧ w'.cell? ⟨b, off + u * 5 + 4, none⟩ = some (.slice x.va x.vn x.vc)) ∧ (w'.cell? ⟨b, off + k * 5, none⟩ = some (.int .i64 y.f.W) ∧ w'.cell? ⟨b, off + k * 5 + 1, none⟩ = some (.int .i64 y.f.H) ∧ w'.cell? ⟨b, off + k * 5 + 2, none⟩ = some (.slice y.ya y.yn y.yc) ∧ w'.cell? ⟨b, off + k * 5 + 3, none⟩ = some (.slice y.ua y.un y.uc) ∧ w'.cell? ⟨b, off + k * 5 + 4, none⟩ = some (.slice y.va y.vn y.vc))) (first | with_reducible exact HF1.out _ (Below.refl _ _) | with_reducible exact HF1.out _ hw3 | with_reducible exact HF1.out _ (hw3.trans (hw4.mono hw3.size)) | go_keep)
            (first
              | (go_at_call 20; ((with_reducible refine HQ1.out.mono ?_); rintro e w3 ⟨z, rfl, hzf0, hzo, hw3⟩; simp only [FA.val]; have hzf := Lib.hid hzf0; clear hzf0))
              | (go_at_call 19; ((with_reducible refine (HS.out z w3 hw3 hzo hzf.out).mono ?_); rintro e w4 ⟨rfl, hw4⟩)))
          have Hw4 := Lib.hid (HG.out.drew.ext (hw3.trans (hw4.mono hw3.size)))
          clear HQ1 HF1 HS HBB HBT hzf hzo hw3 hw4
          have Hw5 : Hid (RGo w A1 n1 c1 (repK (frs xs) (2 * k + 1)) w4) := Lib.hid (by have h := Hw4.out; exact ⟨h.be, by rw [HM.out.2]; exact h.ow⟩)
          go_upto_region 9 with fail
          cases hr2 : decide (joinF x.f y.f = x.f) with
          | true =>
            rw [hr2] at HS2
            have HR2' := HR2.out.trans hr2
            have HM2 := Lib.hid ((rep_next HR2' rfl HM.out.1).1 rfl)
            clear hr2 HR2'
            have HBB : Hid (Below w.heap.size w w4.drew) := Lib.hid Hw5.out.be.drew
            have HBT : Hid (∀ w', Below w4.drew.heap.size w4.drew w' → Below w.heap.size w w') := Lib.hid (fun w' h => HBB.out.trans (h.mono HBB.out.size))
            have HQ1 := Lib.hid (HJ2.out _ HBB.out)
            have HF1 := Lib.hid (fun w' (h : Below w4.drew.heap.size w4.drew w') => HF.out w' (HBT.out w' h))
            have HS := Lib.hid (fun z w' (h : Below w4.drew.heap.size w4.drew w') => HS2.out z w' (w4.drew.heap.size ≤ ·) (HBT.out w' h))
            simp only [FA.val] at HQ1 HS
            go_region_held3 (fun w' => (w'.cell? ⟨b, off + u * 5, none⟩ = some (.int .i64 x.f.W) ∧ w'.cell? ⟨b, off + u * 5 + 1, none⟩ = some (.int .i64 x.f.H) ∧ w'.cell? ⟨b, off + u * 5 + 2, none⟩ = some (.slice x.ya x.yn x.yc) ∧ w'.cell? ⟨b, off + u * 5 + 3, none⟩ = some (.slice x.ua x.un x.uc) ∧ w'.cell? ⟨b, off + u * 5 + 4, none⟩ = some (.slice x.va x.vn x.vc)) ∧ (w'.cell? ⟨b, off + k * 5, none⟩ = some (.int .i64 y.f.W) ∧ w'.cell? ⟨b, off + k * 5 + 1, none⟩ = some (.int .i64 y.f.H) ∧ w'.cell? ⟨b, off + k * 5 + 2, none⟩ = some (.slice y.ya y.yn y.yc) ∧ w'.cell? ⟨b, off + k * 5 + 3, none⟩ = some (.slice y.ua y.un y.uc) ∧ w'.cell? ⟨b, off + k * 5 + 4, none⟩ = some (.slice y.va y.vn y.vc))) (first | with_reducible exact HF1.out _ (Below.refl _ _) | with_reducible exact HF1.out _ hw6 | with_reducible exact HF1.out _ (hw6.trans (hw7.mono hw6.size)) | go_keep)
              (first
                | (go_at_call 20; ((with_reducible refine HQ1.out.mono ?_); rintro e w6 ⟨z, rfl, hzf0, hzo, hw6⟩; simp only [FA.val]; have hzf := Lib.hid hzf0; clear hzf0))
                | (go_at_call 19; ((with_reducible refine (HS.out z w6 hw6 hzo hzf.out).mono ?_); rintro e w7 ⟨rfl, hw7⟩)))
            have Hw7 := Lib.hid (Hw5.out.drew.ext (hw6.trans (hw7.mono hw6.size)))
            clear HQ1 HF1 HS HBB HBT hzf hzo hw6 hw7
            go_wp2_with (first | (at_builtin; go_must (refine wpList_appBig _ rfl (.tmp 52) (.tmp 56) 22 rfl 3 (.int .i64 0) 1 8 Try.underlying22 Try.infoI rfl (by decide) w.heap.size _ n1 _ rfl (own_alloc Hw7.out.ow _) (some ⟨w7.heap.size, 0, none⟩) 1 1 [.int .i64 (2 * (k : Int) + 1)] rfl (Rw.lit (p := fun _ => True) _ _ _ rfl 1 1 rfl rfl trivial) (by simp [Value.oneCell']) (by simp only [maxLen]; omega) (by omega) (by have := Hw7.out.be.size; simp; omega) ?_; intro v3 w8 ho3 hg3 ha3; obtain ⟨A3, c3, hv3⟩ := own_slice ho3; subst hv3; have Hw8 := Lib.hid (Hw7.out.app (L' := repK (frs xs) (2 * k + 1 + 1)) ho3 hg3 (by rw [HM2.out.2]; rfl)); clear ho3 hg3 ha3)))
            go_roundw
            case rel => exact ⟨k + 1, n1 + 1, _, _, by omega, .inl (by omega), by go_num, rfl, HM2.out.1, Hw8.out⟩
            case measure => (simp [intOf]; try omega)
          | false =>
            rw [hr2] at HS2
            have HR2' := HR2.out.trans hr2
            have HM2 := Lib.hid ((rep_next HR2' rfl HM.out.1).2 rfl)
            clear hr2 HR2'
            have HBB : Hid (Below w.heap.size w w4.drew) := Lib.hid Hw5.out.be.drew
            have HBT : Hid (∀ w', Below w4.drew.heap.size w4.drew w' → Below w.heap.size w w') := Lib.hid (fun w' h => HBB.out.trans (h.mono HBB.out.size))
            have HQ1 := Lib.hid (HJ2.out _ HBB.out)
            have HF1 := Lib.hid (fun w' (h : Below w4.drew.heap.size w4.drew w') => HF.out w' (HBT.out w' h))
            have HS := Lib.hid (fun z w' (h : Below w4.drew.heap.size w4.drew w') => HS2.out z w' (w4.drew.heap.size ≤ ·) (HBT.out w' h))
            simp only [FA.val] at HQ1 HS
            go_region_held3 (fun w' => (w'.cell? ⟨b, off + u * 5, none⟩ = some (.int .i64 x.f.W) ∧ w'.cell? ⟨b, off + u * 5 + 1, none⟩ = some (.int .i64 x.f.H) ∧ w'.cell? ⟨b, off + u * 5 + 2, none⟩ = some (.slice x.ya x.yn x.yc) ∧ w'.cell? ⟨b, off + u * 5 + 3, none⟩ = some (.slice x.ua x.un x.uc) ∧ w'.cell? ⟨b, off + u * 5 + 4, none⟩ = some (.slice x.va x.vn x.vc)) ∧ (w'.cell? ⟨b, off + k * 5, none⟩ = some (.int .i64 y.f.W) ∧ w'.cell? ⟨b, off + k * 5 + 1, none⟩ = some (.int .i64 y.f.H) ∧ w'.cell? ⟨b, off + k * 5 + 2, none⟩ = some (.slice y.ya y.yn y.yc) ∧ w'.cell? ⟨b, off + k * 5 + 3, none⟩ = some (.slice y.ua y.un y.uc) ∧ w'.cell? ⟨b, off + k * 5 + 4, none⟩ = some (.slice y.va y.vn y.vc))) (first | with_reducible exact HF1.out _ (Below.refl _ _) | with_reducible exact HF1.out _ hw6 | with_reducible exact HF1.out _ (hw6.trans (hw7.mono hw6.size)) | go_keep)
              (first
                | (go_at_call 20; ((with_reducible refine HQ1.out.mono ?_); rintro e w6 ⟨z, rfl, hzf0, hzo, hw6⟩; simp only [FA.val]; have hzf := Lib.hid hzf0; clear hzf0))
                | (go_at_call 19; ((with_reducible refine (HS.out z w6 hw6 hzo hzf.out).mono ?_); rintro e w7 ⟨rfl, hw7⟩)))
            have Hw7 := Lib.hid (Hw5.out.drew.ext (hw6.trans (hw7.mono hw6.size)))
            clear HQ1 HF1 HS HBB HBT hzf hzo hw6 hw7
            have Hw8 : Hid (RGo w A1 n1 c1 (repK (frs xs) (2 * k + 1 + 1)) w7) := Lib.hid (by have h := Hw7.out; exact ⟨h.be, by rw [HM2.out.2]; exact h.ow⟩)
            go_wp2_with fail
            go_roundw
            case rel => exact ⟨k + 1, n1, _, _, by omega, .inl (by omega), by go_num, rfl, HM2.out.1, Hw8.out⟩
            case measure => (simp [intOf]; try omega)
      · have dk : decide ((k : Int) < (n : Int)) = false := decide_eq_false (by omega)
        obtain ⟨e1, e2⟩ := rep_yes HT.out
        have e3 : repL (frs xs) = L1 := by
          rw [e2, HLX.out, ← HL1.out]
          rcases (by omega : k = n ∨ n = 0 ∧ k = 1) with h | ⟨h, h'⟩
          · rw [h]
          · rw [h, h', show (2 * 1) = 0 + 1 + 1 by rfl, repK_succ, repK_succ, repB_lo (by omega), repB_lo (by omega)]
            rfl
        have HE1 := Lib.hid e1
        have HE3 := Lib.hid e3
        clear e1 e2 e3
        go_wp2_with fail
        go_ret2
        obtain ⟨A2, c2, hv, hrw⟩ := own_rw (p := (w.heap.size ≤ ·)) HG.out.ow (fun _ h => h)
        injection hv with q1 q2 q3
        subst q1 q3
        exact ⟨A1, n1, c1, by rw [HE1.out]; rfl, by rw [HE3.out]; exact HN1.out, by rw [HE3.out]; exact hrw, HG.out.be⟩
end Go.Proofs.Ytclainbjidajbaa
