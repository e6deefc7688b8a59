/- loudness.gate. -/
import Derived.Test.YtcgejbnmbamchaaLdP2
namespace Go.Proofs.Ytcgejbnmbamchaa
open Go.RowKit
attribute [local go_sem ↓] Go.wp_at_zero Go.wp_at_succ

/-- What Powers hands back, whatever the sound. -/
def powOut (X : Snd) : List Int := if properB X = true then powersL X else []
def powE (X : Snd) : Int := if properB X = true then 0 else 1
theorem ld_Powers {p : Nat → Prop} (A : Option Addr) (n c : Nat) (xs : List Ch) (w : World) (h : Pcm p w A n xs) :
    Calls Try.prog 14 #[.slice A n c] w (RetPw w (powOut (sndOf xs)) (powE (sndOf xs))) := by
  unfold powOut powE
  cases hp : properB (sndOf xs) with
  | true => exact ld_Powers_yes A n c xs w h hp
  | false => exact ld_Powers_no A n c xs w h hp
/-- The numbers are powers of windows. -/
def Pws (l : List Int) : Prop := l.length ≤ 8735 ∧ ∀ x ∈ l, 0 ≤ x ∧ x ≤ 2061584302080
theorem powOut_pws {X : Snd} (h : ∀ c ∈ X, Smp c) : Pws (powOut X) := by
  unfold powOut
  cases hp : properB X with
  | true => exact powersL_bound hp h
  | false => exact ⟨by simp, by simp⟩
theorem loudSum_bound : ∀ {l : List Int}, (∀ x ∈ l, 0 ≤ x ∧ x ≤ 2061584302080) → 0 ≤ loudSum l ∧ loudSum l ≤ l.length * 2061584302080
  | [], _ => by simp [loudSum]
  | x :: l, h => by
    have h1 := h x (by simp)
    have h2 := loudSum_bound (l := l) (fun y hy => h y (by simp [hy]))
    unfold loudSum at h2 ⊢
    rw [List.filter_cons, List.length_cons]
    split
    · rw [List.sum_cons]; omega
    · omega
theorem loudMany_le (l : List Int) : loudMany l ≤ l.length := List.length_filter_le _ _
theorem loudSum_snoc (l : List Int) (x : Int) : loudSum (l ++ [x]) = loudSum l + if loud x = true then x else 0 := by
  unfold loudSum
  rw [List.filter_append, List.sum_append]
  by_cases h : loud x = true <;> simp [h]
theorem loudMany_snoc (l : List Int) (x : Int) : loudMany (l ++ [x]) = loudMany l + if loud x = true then 1 else 0 := by
  unfold loudMany
  rw [List.filter_append, List.length_append]
  by_cases h : loud x = true <;> simp [h]
def gateK (l : List Int) (i : Nat) : List Nat := (List.range i).filter fun j => passes l (l.getD j 0)
def natI (l : List Nat) : List Int := l.map Int.ofNat
theorem natI_len (l : List Nat) : (natI l).length = l.length := by simp [natI]
theorem gateK_len (l : List Int) (i : Nat) : (gateK l i).length ≤ i := by
  have := List.length_filter_le (fun j => passes l (l.getD j 0)) (List.range i)
  rw [List.length_range] at this
  exact this
theorem gateK_yes {l : List Int} {i : Nat} (h : passes l (l.getD i 0) = true) : gateK l (i + 1) = gateK l i ++ [i] := by
  unfold gateK
  rw [List.range_succ, List.filter_append]
  have : [i].filter (fun j => passes l (l.getD j 0)) = [i] := by rw [List.filter_cons, if_pos h]; rfl
  rw [this]
theorem gateK_no {l : List Int} {i : Nat} (h : passes l (l.getD i 0) = false) : gateK l (i + 1) = gateK l i := by
  unfold gateK
  rw [List.range_succ, List.filter_append]
  have : [i].filter (fun j => passes l (l.getD j 0)) = [] := by rw [List.filter_cons, if_neg (by rw [h]; simp)]; rfl
  rw [this, List.append_nil]
def GtRel (w : World) (l : List Int) (i s c : Value) (wr : World) : Prop :=
  ∃ (k m : Nat) (S : Int) (C : Nat), i = .int .i64 (k : Int) ∧ k ≤ l.length ∧ s = .int .i64 S ∧ c = .int .i64 (C : Int) ∧ S = loudSum (l.take k) ∧ C = loudMany (l.take k) ∧ wr = w.drewN m
def GtRel2 (w : World) (l : List Int) (i v : Value) (wr : World) : Prop :=
  ∃ (k : Nat) (v0 : Value), i = .int .i64 (k : Int) ∧ v0 = v ∧ k ≤ l.length ∧ OwI wr w.heap.size 3 v0 (natI (gateK l k)) ∧ Below w.heap.size w wr
/-- What gate hands back. -/
def RetIx (w : World) (l : List Int) (e : Ending) (w' : World) : Prop :=
  ∃ B m k, e = .returned (.slice B m k) ∧ Its .i64 (w.heap.size ≤ ·) w' B m l ∧ Below w.heap.size w w' ∧ m ≤ k

set_option maxRecDepth 100000 in
set_option maxHeartbeats 2000000 in
theorem ld_gate {p : Nat → Prop} (A : Option Addr) (n c : Nat) (l : List Int) (w : World) (h : Its .i64 p w A n l) (hP : Pws l) :
    Calls Try.prog 44 #[.slice A n c] w (RetIx w (natI (gateL l))) := by
  have hlen := h.len
  have h8 := hP.1
  rw [hlen] at h8
  have HL := Lib.hid (h.mono (q := (· < w.heap.size)) (fun _ h _ => h))
  have HLEN := Lib.hid hlen
  have HP := Lib.hid hP.2
  have hS := loudSum_bound hP.2
  have hC := loudMany_le l
  rw [hlen] at hS hC
  have HB := Lib.hid (And.intro hS hC)
  clear h hlen hP hS hC
  go_enter Try.func44, Try.ntmps44
  go_wp2_with fail
  go_loopw [12, 3, 4] (fun i s c wr => GtRel w l i s c wr) (fun i _ _ _ => n - (intOf i).toNat)
  case atStart => exact ⟨0, 0, 0, 0, rfl, Nat.zero_le _, rfl, rfl, rfl, rfl, rfl⟩
  case round =>
    obtain ⟨k, m, S, C, rfl, hk, rfl, rfl, hS, hC, rfl⟩ := hrel
    rw [HLEN.out] at hk
    have hSb := loudSum_bound (l := l.take k) (fun y hy => HP.out y (List.mem_of_mem_take hy))
    have hCb := loudMany_le (l.take k)
    have htl : (l.take k).length ≤ k := by rw [List.length_take]; omega
    rw [← hS] at hSb
    rw [← hC] at hCb
    have hSb2 : 0 ≤ S ∧ S ≤ 18007938878668800 := by omega
    have hCb2 : C ≤ 8735 := by omega
    have HSC := Lib.hid (And.intro hS hC)
    clear hS hC hSb hCb htl
    by_cases hlt : k < n
    · obtain ⟨b, off, x, rfl, _, hb, hx, hc⟩ := HL.out.at_ hlt
      have hxb := HP.out x (List.mem_of_getElem? hx)
      have hc' : (w.drewN m).cell? ⟨b, off + k, none⟩ = some (.int .i64 x) := hc
      have HX := Lib.hid hx
      clear hx hc
      by_cases hl : 30720 ≤ x
      · have hd : decide (30720 ≤ x) = true := decide_eq_true hl
        have hl2 : Hid (loud x = true) := Lib.hid hd
        go_wp2_with fail
        go_roundw
        case rel =>
          refine ⟨k + 1, m, S + x, C + 1, by go_num, by rw [HLEN.out]; omega, by go_num, by go_num, ?_, ?_, rfl⟩
          · rw [take_snoc_at HX.out, loudSum_snoc, if_pos hl2.out, ← HSC.out.1]
          · rw [take_snoc_at HX.out, loudMany_snoc, if_pos hl2.out, ← HSC.out.2]
        case measure => simp [intOf]; omega
      · have hd : decide (30720 ≤ x) = false := decide_eq_false hl
        have hl2 : Hid (¬ loud x = true) := Lib.hid (by unfold loud; rw [hd]; simp)
        go_wp2_with fail
        go_roundw
        case rel =>
          refine ⟨k + 1, m, S, C, by go_num, by rw [HLEN.out]; omega, rfl, rfl, ?_, ?_, rfl⟩
          · rw [take_snoc_at HX.out, loudSum_snoc, if_neg hl2.out, ← HSC.out.1, Int.add_zero]
          · rw [take_snoc_at HX.out, loudMany_snoc, if_neg hl2.out, ← HSC.out.2]; rfl
        case measure => simp [intOf]; omega
    · obtain rfl : k = n := by omega
      have hS : S = loudSum l := by rw [HSC.out.1, List.take_of_length_le (by rw [HLEN.out]; exact Nat.le_refl _)]
      have hC : C = loudMany l := by rw [HSC.out.2, List.take_of_length_le (by rw [HLEN.out]; exact Nat.le_refl _)]
      have HS := Lib.hid (And.intro hS hC)
      clear hS hC HSC
      have B0 := bdrewN (Below.refl w.heap.size w) m
      have HL2 := Lib.hid (HL.out.ext (B0.mono (Nat.le_refl _)))
      go_wp2_with fail
      go_loopw [26, 7] (fun i v wr => GtRel2 w l i v wr) (fun i _ _ => k - (intOf i).toNat)
      case atStart => exact ⟨0, _, rfl, rfl, Nat.zero_le _, (OwI.nil : OwI _ _ _ _ []), B0⟩
      case round =>
        obtain ⟨j, v, rfl, hv0, hj, hown, hb⟩ := hrel
        subst hv0
        rw [HLEN.out] at hj
        have HO := Lib.hid hown
        clear hown
        by_cases hlt : j < k
        · obtain ⟨b, off, x, rfl, hpb, hbl, hx, hc⟩ := (HL.out.keep (fun b hp _ => hb.block b hp)).at_ hlt
          have hxb := HP.out x (List.mem_of_getElem? hx)
          have hgd : l.getD j 0 = x := by rw [List.getD_eq_getElem?_getD, hx]; rfl
          obtain ⟨Pd, hPd⟩ : ∃ Pd, Pd = 10 * x * (C : Int) := ⟨_, rfl⟩
          have hPb : 0 ≤ Pd ∧ Pd ≤ 20615843020800 * 8735 := by rw [hPd]; exact ⟨Int.mul_nonneg (by omega) (by omega), Int.mul_le_mul (by omega) (by omega) (by omega) (by omega)⟩
          have e10 : IntKind.i64.wrap (10 * x) = 10 * x := IntWalk.i64_in _ (by omega)
          have ePd : IntKind.i64.wrap (10 * x * (C : Int)) = Pd := by rw [← hPd]; exact IntWalk.i64_in _ (by omega)
          have HPS : Hid (passes l (l.getD j 0) = (decide (30720 ≤ x) && decide (S ≤ Pd))) := Lib.hid (by rw [hgd, passes, loud, ← HS.out.1, ← HS.out.2, ← hPd])
          clear hx hgd hPd hPb
          cases hd1 : decide (30720 ≤ x) with
          | false =>
            have hps : passes l (l.getD j 0) = false := by rw [HPS.out, hd1]; rfl
            have HG := Lib.hid (gateK_no hps)
            clear hps
            go_wp2_with fail
            go_roundw
            case rel => exact ⟨j + 1, _, by go_num, rfl, by rw [HLEN.out]; omega, by rw [HG.out]; exact HO.out, hb⟩
            case measure => simp [intOf]; omega
          | true =>
            cases hd2 : decide (S ≤ Pd) with
            | false =>
              have hps : passes l (l.getD j 0) = false := by rw [HPS.out, hd1, hd2]; rfl
              have HG := Lib.hid (gateK_no hps)
              clear hps
              go_wp2_with fail
              go_roundw
              case rel => exact ⟨j + 1, _, by go_num, rfl, by rw [HLEN.out]; omega, by rw [HG.out]; exact HO.out, hb⟩
              case measure => simp [intOf]; omega
            | true =>
              have hps : passes l (l.getD j 0) = true := by rw [HPS.out, hd1, hd2]; rfl
              have HG := Lib.hid (gateK_yes hps)
              clear hps
              have hgl := gateK_len l j
              obtain ⟨M, hM⟩ : ∃ M, M = (natI (gateK l j)).length := ⟨_, rfl⟩
              have hMl : M ≤ 8735 := by rw [hM, natI_len]; omega
              have yo1 : wr.ownsRow w.heap.size 3 1 v M ((natI (gateK l j)).map (Value.int .i64)) := by rw [hM]; exact HO.out
              have YO := Lib.hid (World.ownsRow.alloc yo1 (.cells #[.int .i64 (j : Int)] 3))
              have YL := Lib.hid (World.ownsRow.lt HO.out)
              have YB := Lib.hid (hb.alloc hb.size (.cells #[.int .i64 (j : Int)] 3))
              have hbase : w.heap.size ≤ (wr.alloc (.cells #[.int .i64 (j : Int)] 3)).heap.size := by have := hb.size; simp; omega
              have HM := Lib.hid hM
              clear yo1 hgl hM
              go_wp2_with (at_builtin; go_must (refine wpList_appR _ rfl (.tmp 41) (.tmp 43) 23 rfl 3 (.int .i64 0) 1 8 Try.underlying23 Try.infoInt rfl (by decide) w.heap.size _ M _ rfl YO.out (some ⟨wr.heap.size, 0, none⟩) 1 1 [.int .i64 (j : Int)] rfl (Rw.lit (p := fun _ => True) _ _ _ rfl 1 1 rfl rfl trivial) (by simp [Value.oneCell']) (by omega) (by omega) hbase ?_; intro v3 w3 ho3 hg3 ha3; obtain ⟨A3, c3, rfl⟩ := own_slice ho3))
              have ZB := YB.out.grown hg3 hbase (fun k hk => (YL.out k hk).1)
              have ZO : OwI w3 w.heap.size 3 (.slice A3 (M + 1) c3) (natI (gateK l (j + 1))) := by
                unfold OwI
                have e1 : (natI (gateK l (j + 1))).length = M + 1 := by rw [HG.out, HM.out, natI_len, natI_len, List.length_append]; rfl
                have e2 : (natI (gateK l (j + 1))).map (Value.int .i64) = (natI (gateK l j)).map (Value.int .i64) ++ [.int .i64 (j : Int)] := by rw [HG.out]; simp [natI]
                rw [e1, e2]
                exact ho3
              go_roundw
              case rel => exact ⟨j + 1, _, by go_num, rfl, by rw [HLEN.out]; omega, ZO, ZB⟩
              case measure => simp [intOf]; omega
        · obtain rfl : j = k := by omega
          obtain ⟨B, cc, rfl⟩ := own_slice HO.out
          have hits := OwI.its (p := (w.heap.size ≤ ·)) HO.out (fun _ h => h)
          have hgl : gateK l j = gateL l := by unfold gateK gateL; rw [HLEN.out]
          have HI := Lib.hid hits
          have HE := Lib.hid hgl
          clear hits hgl
          go_wp2_with fail
          go_ret
          exact ⟨_, _, _, rfl, by rw [← HE.out]; exact HI.out.1, hb, HI.out.2⟩
end Go.Proofs.Ytcgejbnmbamchaa
