/- The reference's Cut of transport packets: the packets. -/
import Derived.Test.YtdnchjmopkhnaaaTcR
import Derived.Test.YtdnchjmopkhnaaaTrN
namespace Go.Proofs.Ytdnchjmopkhnaaa
open Go.RowKit

attribute [local go_sem ↓] run_min_mm

set_option maxRecDepth 100000 in
set_option maxHeartbeats 8000000 in
theorem ref_TCut_yes {p : Nat → Prop} (pid cnt : Int) (A : Option Addr) (n c : Nat) (l : List Int) (clk : Int) (w : World) (hA : Byt p w A n l) (hnc : n ≤ c) (hn : n ≤ 3000) (hn0 : 0 < n) (hv : validT pid cnt false clk 0 = true) :
    Calls Try.prog 25 #[.int .i64 pid, .int .i64 cnt, .slice A n c, .int .i64 clk] w fun e w' => ∃ A' m c' ks N, e = .returned (.tuple #[.slice A' m c', .int .i64 0]) ∧ TPks (fun _ => True) (fun _ => True) w' A' m ks ∧ LastT (roomT clk).toNat n N ∧ datas ks = cutT pid cnt clk l (roomT clk).toNat N ∧ Below w.heap.size w w' := by
  have hrm := roomT_cases clk
  have hcn := (validT_spec hv).2.1
  obtain ⟨r, hr⟩ : ∃ r, (roomT clk).toNat = r := ⟨_, rfl⟩
  have hr1 : 176 ≤ r ∧ r ≤ 184 := by omega
  obtain ⟨m, hm⟩ : ∃ m, m = min r n := ⟨_, rfl⟩
  have hm0 : 0 < m := by omega
  obtain ⟨A0, c0, hr0, hb0⟩ := firstT hA hnc m (by omega)
  have hlen := hA.len
  have HR0 := Lib.hid hr0
  have HB0 : Hid (Byt (· < w.heap.size) w A0 m (pcT l r 0)) := Lib.hid (by
    have e : pcT l r 0 = l.take m := by
      simp only [pcT, offT, roomJ, List.drop_zero, if_true]
      rw [hm]
      rcases Nat.le_total r n with h | h
      · rw [Nat.min_eq_left h]
      · rw [Nat.min_eq_right h, List.take_of_length_le (by omega), List.take_of_length_le (by omega)]
    rw [e]
    exact hb0)
  have HB := Lib.hid (hA.mono (q := (· < w.heap.size)) (fun b h _ => h))
  have HV : Hid (∀ w', Calls Try.prog 36 #[.agg #[.int .i64 pid, .int .i64 cnt, .bool true, .int .i64 clk, .slice A0 m c0]] w' fun e w'' => e = .returned (.bool true) ∧ Below w'.heap.size w' w'') := Lib.hid (fun w' => by
    have := ref_TValid pid cnt true clk A0 m c0 w'
    rwa [validT_first _ _ _ _ hm0 (by omega), hv] at this)
  have HLN := Lib.hid hlen
  have HCN := Lib.hid hcn
  have HM := Lib.hid hm
  have HR1 := Lib.hid hr1
  have d1 : ((m : Int) == 0) = false := by simp; omega
  have hmn : m ≤ n := by omega
  clear hr0 hb0 hlen hv hA
  rw [hr]
  clear hcn
  rcases hrm with ⟨h1, h2⟩ | ⟨h1, h2⟩
  case inl =>
    have hmin : min (184 : Int) (n : Int) = (m : Int) := by rw [h1] at hr; omega
    subst h2
    clear h1 hr hm hr1
    have r0 := HR0.out
    go_enter Try.func25, Try.ntmps25
    go_wp2_with fail
    refine (HV.out _).mono ?_
    rintro e w1 ⟨rfl, hb1⟩
    have HP1 := Lib.hid ((Bx.new w 24 #[.int .i64 pid, .int .i64 cnt, .bool true, .int .i64 (-1), .slice A0 m c0]).ext hb1)
    have HB1 := Lib.hid (((Below.refl w.heap.size w).alloc (Nat.le_refl _) (.cells #[.int .i64 pid, .int .i64 cnt, .bool true, .int .i64 (-1), .slice A0 m c0] 24)).trans (hb1.mono (by simp)))
    have z1 := HB1.out.size
    clear hb1
    have y0 := HP1.out.cell 0 rfl
    have y1 := HP1.out.cell 1 rfl
    have y2 := HP1.out.cell 2 rfl
    have y3 := HP1.out.cell 3 rfl
    have y4 := HP1.out.cell 4 rfl
    have HO0 : Hid ((w1.alloc (.cells #[.int .i64 pid, .int .i64 cnt, .bool true, .int .i64 (-1), .slice A0 m c0] 24)).ownsRow w.heap.size 24 5 (.slice (some ⟨w1.heap.size, 0, none⟩) 1 1) 1 (tpCells [⟨pktT pid cnt (-1) l r 0, A0, m, c0⟩])) := Lib.hid (by
      refine own_litT _ 5 _ rfl z1 ?_ rfl
      have hcn := HCN.out
      simp only [tpCells, TA.cells, pktT, List.flatMap_cons, List.flatMap_nil, List.append_nil]
      rw [show (cnt + ((0 : Nat) : Int)) % 16 = cnt by omega]
      rfl)
    have HBA : Hid (Below w.heap.size w (w1.alloc (.cells #[.int .i64 pid, .int .i64 cnt, .bool true, .int .i64 (-1), .slice A0 m c0] 24))) := Lib.hid (HB1.out.alloc z1 _)
    go_wp2_with fail
    clear r0 y0 y1 y2 y3 y4
    go_loopw [1, 11, 13, 14] (fun ct at_ v _ wr => ∃ (i : Nat) (A1 : Option Addr) (c1 : Nat) (ks : List TA), (∀ q, q < i + 1 → offT r q < n) ∧ ct = .int .i64 ((cnt + (i : Int)) % 16) ∧ at_ = .int .i64 ((min (offT r (i + 1)) n : Nat) : Int) ∧ v = .slice A1 (i + 1) c1 ∧ wr.ownsRow w.heap.size 24 5 (.slice A1 (i + 1) c1) (i + 1) (tpCells ks) ∧ ks.length = i + 1 ∧ datas ks = cutT pid cnt (-1) l r (i + 1) ∧ (∀ x ∈ ks, Byt (· < w.heap.size) w x.A x.n x.p.l) ∧ Below w.heap.size w wr) (fun _ at_ _ _ _ => n - (intOf at_).toNat)
    case atStart =>
      refine ⟨0, _, _, [⟨pktT pid cnt (-1) l r 0, A0, m, c0⟩], fun q hq => ?_, ?_, ?_, rfl, HO0.out, rfl, rfl, fun x hx => ?_, HBA.out⟩
      · rw [show q = 0 by omega, offT_zero]; exact hn0
      · have hcn := HCN.out
        rw [show (cnt + ((0 : Nat) : Int)) % 16 = cnt by omega]
      · rw [HM.out, offT_succ, offT_zero, Nat.zero_add, roomJ, if_pos rfl]
      · rw [List.mem_singleton] at hx; rw [hx]; exact HB0.out
    case round =>
      obtain ⟨i, A1, c1, ks, hq, rfl, rfl, rfl, ho, hkl, hkv, hkb, hb⟩ := hrel
      have hin : i ≤ n := by
        have h1 := hq i (by omega)
        have h2 := offT_ge r (by have := HR1.out; omega) i
        omega
      obtain ⟨Q, hQ⟩ : ∃ Q, min (offT r (i + 1)) n = Q := ⟨_, rfl⟩
      obtain ⟨C, hC⟩ : ∃ C, (cnt + (i : Int)) % 16 = C := ⟨_, rfl⟩
      obtain ⟨C', hC'⟩ : ∃ C', (cnt + ((i + 1 : Nat) : Int)) % 16 = C' := ⟨_, rfl⟩
      have hC0 : 0 ≤ C ∧ C < 16 := by omega
      have hCC : (C + 1).tmod 16 = C' := by rw [Int.tmod_eq_emod_of_nonneg (by omega)]; omega
      have wC : IntKind.i64.wrap (C + 1) = C + 1 := IntWalk.i64_in _ (by omega)
      have HQ := Lib.hid hq
      have HO := Lib.hid ho
      have HKL := Lib.hid hkl
      have HKV := Lib.hid hkv
      have HKB := Lib.hid hkb
      have HBR := Lib.hid hb
      have zr := hb.size
      rw [hQ, hC]
      clear ho hkl hkv hkb hb hq
      have HQQ := Lib.hid hQ
      have HC1 := Lib.hid hC'
      clear hC hC'
      by_cases hlt : Q < n
      · have d3 : decide ((Q : Int) < (n : Int)) = true := decide_eq_true (by omega)
        have hoff : offT r (i + 1) = Q := by omega
        obtain ⟨b, off, rfl, hpb, hbl, hcells⟩ := HB.out.addr (show 0 < n by omega)
        obtain ⟨nj, hnj⟩ : ∃ q, min 184 (n - Q) = q := ⟨_, rfl⟩
        have wadd : IntKind.i64.wrap ((Q : Int) + (nj : Int)) = (Q : Int) + (nj : Int) := IntWalk.i64_in _ (by omega)
        have wsub : IntKind.i64.wrap ((n : Int) - (Q : Int)) = (n : Int) - (Q : Int) := IntWalk.i64_in _ (by omega)
        have hmin2 : min (184 : Int) ((n : Int) - (Q : Int)) = (nj : Int) := by omega
        have run := subT2 b off n c Q nj (by omega) (by omega)
        have HBJ : Hid (Byt (· < w.heap.size) w (some ⟨b, off + Q, none⟩) nj (pcT l r (i + 1))) := Lib.hid (by
          have hs := Byt.sub (k := Q) (m := nj) HB.out (by omega)
          have e : (l.drop Q).take nj = pcT l r (i + 1) := by
            unfold pcT roomJ
            rw [hoff, if_neg (by omega), ← hnj]
            rcases Nat.le_total 184 (n - Q) with h | h
            · rw [Nat.min_eq_left h]
            · rw [Nat.min_eq_right h, List.take_of_length_le (by rw [List.length_drop, HLN.out]; exact Nat.le_refl _), List.take_of_length_le (by rw [List.length_drop, HLN.out]; exact h)]
          rwa [e] at hs)
        have HOF := Lib.hid hoff
        have HNJ := Lib.hid hnj
        have hOA := Lib.hid (own_ext HO.out ((Below.refl wr.heap.size wr).alloc (Nat.le_refl _) (.cells #[.int .i64 pid, .int .i64 C', .bool false, .int .i64 (-1), .slice (some ⟨b, off + Q, none⟩) nj (c - Q)] 24)))
        clear hoff hnj hcells hQ
        go_wp2_with (first | (at_builtin; go_must (refine wpList_appR _ rfl (.tmp 49) (.tmp 59) 44 rfl 24 (.agg #[.int .i64 0, .int .i64 0, .bool false, .int .i64 0, .slice none 0 0]) 5 56 Try.underlying44 Try.infoTR rfl (by decide) w.heap.size (.slice A1 (i + 1) c1) (i + 1) _ rfl hOA.out (some ⟨wr.heap.size, 0, none⟩) 1 1 [.int .i64 pid, .int .i64 C', .bool false, .int .i64 (-1), .slice (some ⟨b, off + Q, none⟩) nj (c - Q)] rfl (Rw.lit (p := fun _ => True) _ _ _ rfl 1 5 rfl rfl trivial) (by simp [Value.oneCell']) (by omega) (by omega) (by simp; omega) ?_; intro v3 w4 ho3 hg3 ha3; obtain ⟨A3, c3, hv3⟩ := own_slice ho3; subst hv3)))
        go_roundw
        case rel =>
          refine ⟨i + 1, A3, c3, ks ++ [⟨pktT pid cnt (-1) l r (i + 1), some ⟨b, off + Q, none⟩, nj, c - Q⟩], fun q hq => ?_, ?_, ?_, rfl, ?_, by simp [HKL.out], ?_, fun x hx => ?_, (HBR.out.alloc zr _).grown hg3 (by simp; omega) (fun i hi => (World.ownsRow.lt HO.out i hi).1)⟩
          · rcases Nat.lt_succ_iff_lt_or_eq.1 hq with h | rfl
            · exact HQ.out q h
            · rw [HOF.out]; exact hlt
          · rw [HC1.out]
          · rw [offT_succ, HOF.out, roomJ, if_neg (by omega)]
            have := HNJ.out
            simp
            omega
          · have e : tpCells (ks ++ [⟨pktT pid cnt (-1) l r (i + 1), some ⟨b, off + Q, none⟩, nj, c - Q⟩]) = tpCells ks ++ [.int .i64 pid, .int .i64 C', .bool false, .int .i64 (-1), .slice (some ⟨b, off + Q, none⟩) nj (c - Q)] := by
              rw [tpCells_snoc, ← HC1.out]
              simp [TA.cells, pktT]
            rw [e]
            exact ho3
          · rw [cutT_succ, ← HKV.out]
            simp [datas]
          · rcases List.mem_append.1 hx with h | h
            · exact HKB.out x h
            · rw [List.mem_singleton] at h
              rw [h]
              exact HBJ.out
        case measure => (simp [intOf]; try omega)
      · have d3 : decide ((Q : Int) < (n : Int)) = false := decide_eq_false (by omega)
        have HL : Hid (LastT r n (i + 1)) := Lib.hid ⟨by omega, HQ.out⟩
        clear hQ
        go_wp2_with fail
        go_ret2
        obtain ⟨A5, c5, hv5, hrw⟩ := own_rw (p := fun _ => True) HO.out (fun _ _ => trivial)
        injection hv5 with e1 e2 e3
        subst e1 e3
        exact ⟨A1, i + 1, c1, ks, i + 1, rfl, ⟨HKL.out, hrw, fun x hx => ((HKB.out x hx).below HBR.out (fun _ _ h => h)).mono (fun _ _ _ => trivial)⟩, HL.out, HKV.out, HBR.out⟩
  case inr =>
    have hmin : min (176 : Int) (n : Int) = (m : Int) := by rw [h1] at hr; omega
    have d2 : (clk != -1) = true := by simpa using h2
    clear h1 h2 hr hm hr1
    have r0 := HR0.out
    go_enter Try.func25, Try.ntmps25
    go_wp2_with fail
    refine (HV.out _).mono ?_
    rintro e w1 ⟨rfl, hb1⟩
    have HP1 := Lib.hid ((Bx.new w 24 #[.int .i64 pid, .int .i64 cnt, .bool true, .int .i64 clk, .slice A0 m c0]).ext hb1)
    have HB1 := Lib.hid (((Below.refl w.heap.size w).alloc (Nat.le_refl _) (.cells #[.int .i64 pid, .int .i64 cnt, .bool true, .int .i64 clk, .slice A0 m c0] 24)).trans (hb1.mono (by simp)))
    have z1 := HB1.out.size
    clear hb1
    have y0 := HP1.out.cell 0 rfl
    have y1 := HP1.out.cell 1 rfl
    have y2 := HP1.out.cell 2 rfl
    have y3 := HP1.out.cell 3 rfl
    have y4 := HP1.out.cell 4 rfl
    have HO0 : Hid ((w1.alloc (.cells #[.int .i64 pid, .int .i64 cnt, .bool true, .int .i64 clk, .slice A0 m c0] 24)).ownsRow w.heap.size 24 5 (.slice (some ⟨w1.heap.size, 0, none⟩) 1 1) 1 (tpCells [⟨pktT pid cnt clk l r 0, A0, m, c0⟩])) := Lib.hid (by
      refine own_litT _ 5 _ rfl z1 ?_ rfl
      have hcn := HCN.out
      simp only [tpCells, TA.cells, pktT, List.flatMap_cons, List.flatMap_nil, List.append_nil]
      rw [show (cnt + ((0 : Nat) : Int)) % 16 = cnt by omega]
      rfl)
    have HBA : Hid (Below w.heap.size w (w1.alloc (.cells #[.int .i64 pid, .int .i64 cnt, .bool true, .int .i64 clk, .slice A0 m c0] 24))) := Lib.hid (HB1.out.alloc z1 _)
    go_wp2_with fail
    clear r0 y0 y1 y2 y3 y4
    go_loopw [1, 11, 13, 14] (fun ct at_ v _ wr => ∃ (i : Nat) (A1 : Option Addr) (c1 : Nat) (ks : List TA), (∀ q, q < i + 1 → offT r q < n) ∧ ct = .int .i64 ((cnt + (i : Int)) % 16) ∧ at_ = .int .i64 ((min (offT r (i + 1)) n : Nat) : Int) ∧ v = .slice A1 (i + 1) c1 ∧ wr.ownsRow w.heap.size 24 5 (.slice A1 (i + 1) c1) (i + 1) (tpCells ks) ∧ ks.length = i + 1 ∧ datas ks = cutT pid cnt clk l r (i + 1) ∧ (∀ x ∈ ks, Byt (· < w.heap.size) w x.A x.n x.p.l) ∧ Below w.heap.size w wr) (fun _ at_ _ _ _ => n - (intOf at_).toNat)
    case atStart =>
      refine ⟨0, _, _, [⟨pktT pid cnt clk l r 0, A0, m, c0⟩], fun q hq => ?_, ?_, ?_, rfl, HO0.out, rfl, rfl, fun x hx => ?_, HBA.out⟩
      · rw [show q = 0 by omega, offT_zero]; exact hn0
      · have hcn := HCN.out
        rw [show (cnt + ((0 : Nat) : Int)) % 16 = cnt by omega]
      · rw [HM.out, offT_succ, offT_zero, Nat.zero_add, roomJ, if_pos rfl]
      · rw [List.mem_singleton] at hx; rw [hx]; exact HB0.out
    case round =>
      obtain ⟨i, A1, c1, ks, hq, rfl, rfl, rfl, ho, hkl, hkv, hkb, hb⟩ := hrel
      have hin : i ≤ n := by
        have h1 := hq i (by omega)
        have h2 := offT_ge r (by have := HR1.out; omega) i
        omega
      obtain ⟨Q, hQ⟩ : ∃ Q, min (offT r (i + 1)) n = Q := ⟨_, rfl⟩
      obtain ⟨C, hC⟩ : ∃ C, (cnt + (i : Int)) % 16 = C := ⟨_, rfl⟩
      obtain ⟨C', hC'⟩ : ∃ C', (cnt + ((i + 1 : Nat) : Int)) % 16 = C' := ⟨_, rfl⟩
      have hC0 : 0 ≤ C ∧ C < 16 := by omega
      have hCC : (C + 1).tmod 16 = C' := by rw [Int.tmod_eq_emod_of_nonneg (by omega)]; omega
      have wC : IntKind.i64.wrap (C + 1) = C + 1 := IntWalk.i64_in _ (by omega)
      have HQ := Lib.hid hq
      have HO := Lib.hid ho
      have HKL := Lib.hid hkl
      have HKV := Lib.hid hkv
      have HKB := Lib.hid hkb
      have HBR := Lib.hid hb
      have zr := hb.size
      rw [hQ, hC]
      clear ho hkl hkv hkb hb hq
      have HQQ := Lib.hid hQ
      have HC1 := Lib.hid hC'
      clear hC hC'
      by_cases hlt : Q < n
      · have d3 : decide ((Q : Int) < (n : Int)) = true := decide_eq_true (by omega)
        have hoff : offT r (i + 1) = Q := by omega
        obtain ⟨b, off, rfl, hpb, hbl, hcells⟩ := HB.out.addr (show 0 < n by omega)
        obtain ⟨nj, hnj⟩ : ∃ q, min 184 (n - Q) = q := ⟨_, rfl⟩
        have wadd : IntKind.i64.wrap ((Q : Int) + (nj : Int)) = (Q : Int) + (nj : Int) := IntWalk.i64_in _ (by omega)
        have wsub : IntKind.i64.wrap ((n : Int) - (Q : Int)) = (n : Int) - (Q : Int) := IntWalk.i64_in _ (by omega)
        have hmin2 : min (184 : Int) ((n : Int) - (Q : Int)) = (nj : Int) := by omega
        have run := subT2 b off n c Q nj (by omega) (by omega)
        have HBJ : Hid (Byt (· < w.heap.size) w (some ⟨b, off + Q, none⟩) nj (pcT l r (i + 1))) := Lib.hid (by
          have hs := Byt.sub (k := Q) (m := nj) HB.out (by omega)
          have e : (l.drop Q).take nj = pcT l r (i + 1) := by
            unfold pcT roomJ
            rw [hoff, if_neg (by omega), ← hnj]
            rcases Nat.le_total 184 (n - Q) with h | h
            · rw [Nat.min_eq_left h]
            · rw [Nat.min_eq_right h, List.take_of_length_le (by rw [List.length_drop, HLN.out]; exact Nat.le_refl _), List.take_of_length_le (by rw [List.length_drop, HLN.out]; exact h)]
          rwa [e] at hs)
        have HOF := Lib.hid hoff
        have HNJ := Lib.hid hnj
        have hOA := Lib.hid (own_ext HO.out ((Below.refl wr.heap.size wr).alloc (Nat.le_refl _) (.cells #[.int .i64 pid, .int .i64 C', .bool false, .int .i64 (-1), .slice (some ⟨b, off + Q, none⟩) nj (c - Q)] 24)))
        clear hoff hnj hcells hQ
        go_wp2_with (first | (at_builtin; go_must (refine wpList_appR _ rfl (.tmp 49) (.tmp 59) 44 rfl 24 (.agg #[.int .i64 0, .int .i64 0, .bool false, .int .i64 0, .slice none 0 0]) 5 56 Try.underlying44 Try.infoTR rfl (by decide) w.heap.size (.slice A1 (i + 1) c1) (i + 1) _ rfl hOA.out (some ⟨wr.heap.size, 0, none⟩) 1 1 [.int .i64 pid, .int .i64 C', .bool false, .int .i64 (-1), .slice (some ⟨b, off + Q, none⟩) nj (c - Q)] rfl (Rw.lit (p := fun _ => True) _ _ _ rfl 1 5 rfl rfl trivial) (by simp [Value.oneCell']) (by omega) (by omega) (by simp; omega) ?_; intro v3 w4 ho3 hg3 ha3; obtain ⟨A3, c3, hv3⟩ := own_slice ho3; subst hv3)))
        go_roundw
        case rel =>
          refine ⟨i + 1, A3, c3, ks ++ [⟨pktT pid cnt clk l r (i + 1), some ⟨b, off + Q, none⟩, nj, c - Q⟩], fun q hq => ?_, ?_, ?_, rfl, ?_, by simp [HKL.out], ?_, fun x hx => ?_, (HBR.out.alloc zr _).grown hg3 (by simp; omega) (fun i hi => (World.ownsRow.lt HO.out i hi).1)⟩
          · rcases Nat.lt_succ_iff_lt_or_eq.1 hq with h | rfl
            · exact HQ.out q h
            · rw [HOF.out]; exact hlt
          · rw [HC1.out]
          · rw [offT_succ, HOF.out, roomJ, if_neg (by omega)]
            have := HNJ.out
            simp
            omega
          · have e : tpCells (ks ++ [⟨pktT pid cnt clk l r (i + 1), some ⟨b, off + Q, none⟩, nj, c - Q⟩]) = tpCells ks ++ [.int .i64 pid, .int .i64 C', .bool false, .int .i64 (-1), .slice (some ⟨b, off + Q, none⟩) nj (c - Q)] := by
              rw [tpCells_snoc, ← HC1.out]
              simp [TA.cells, pktT]
            rw [e]
            exact ho3
          · rw [cutT_succ, ← HKV.out]
            simp [datas]
          · rcases List.mem_append.1 hx with h | h
            · exact HKB.out x h
            · rw [List.mem_singleton] at h
              rw [h]
              exact HBJ.out
        case measure => (simp [intOf]; try omega)
      · have d3 : decide ((Q : Int) < (n : Int)) = false := decide_eq_false (by omega)
        have HL : Hid (LastT r n (i + 1)) := Lib.hid ⟨by omega, HQ.out⟩
        clear hQ
        go_wp2_with fail
        go_ret2
        obtain ⟨A5, c5, hv5, hrw⟩ := own_rw (p := fun _ => True) HO.out (fun _ _ => trivial)
        injection hv5 with e1 e2 e3
        subst e1 e3
        exact ⟨A1, i + 1, c1, ks, i + 1, rfl, ⟨HKL.out, hrw, fun x hx => ((HKB.out x hx).below HBR.out (fun _ _ h => h)).mono (fun _ _ _ => trivial)⟩, HL.out, HKV.out, HBR.out⟩
end Go.Proofs.Ytdnchjmopkhnaaa
