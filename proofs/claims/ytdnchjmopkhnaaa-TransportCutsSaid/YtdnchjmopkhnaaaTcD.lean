/- transport.distinct, where packets side by side differ. -/
import Derived.Test.YtdnchjmopkhnaaaTcK
import Derived.BigQuiet
namespace Go.Proofs.Ytdnchjmopkhnaaa
open Go.RowKit Go.Maps

theorem TPks.atD {p q : Nat → Prop} {w : World} {A : Option Addr} {n : Nat} {ps : List TA} (h : TPks p q w A n ps) {k : Nat} (hk : k < n) :
    ∃ b off x, A = some ⟨b, off, none⟩ ∧ b < w.heap.size ∧ ps[k]? = some x ∧ Byt q w x.A x.n x.p.l ∧ (w.cell? ⟨b, off + k * 5, none⟩ = some (.int .i64 x.p.pid) ∧ w.cell? ⟨b, off + k * 5 + 1, none⟩ = some (.int .i64 x.p.cnt) ∧ w.cell? ⟨b, off + k * 5 + 2, none⟩ = some (.bool x.p.st) ∧ w.cell? ⟨b, off + k * 5 + 3, none⟩ = some (.int .i64 x.p.clk) ∧ w.cell? ⟨b, off + k * 5 + 4, none⟩ = some (.slice x.A x.n x.c)) := by
  obtain ⟨h1, h2, h3⟩ := h
  obtain ⟨b, off, hA, _, hb, hc⟩ := h2.addr (by omega)
  have hx : ps[k]? = some (ps[k]'(by omega)) := List.getElem?_eq_getElem _
  obtain ⟨e0, e1, e2, e3, e4⟩ := tpCells_at hx
  have c0 := hc _ _ e0
  have c1 := hc _ _ e1
  have c2 := hc _ _ e2
  have c3 := hc _ _ e3
  have c4 := hc _ _ e4
  rw [← Nat.add_assoc] at c1 c2 c3 c4
  exact ⟨b, off, _, hA, hb, hx, h3 _ (List.getElem_mem _), c0, c1, c2, c3, c4⟩
theorem take_snocT {α : Type} {l : List α} {k : Nat} {x : α} (h : l[k]? = some x) : l.take (k + 1) = l.take k ++ [x] := by
  rw [List.take_add_one, h]; rfl
theorem own_base {w : World} {base base' : Nat} {e : TypeId} {size n : Nat} {v : Value} {xs : List Value} (h : w.ownsRow base e size v n xs) (hb : base' ≤ base) : w.ownsRow base' e size v n xs := by
  refine ⟨h.1, ?_⟩
  rcases h.2 with h2 | ⟨g, cap, cur, h1, h2, h3⟩
  · exact .inl h2
  · exact .inr ⟨g, cap, cur, h1, Nat.le_trans hb h2, h3⟩
theorem own_map_ext {P : Program} {k : TypeId} {H : Type} {R : Value → Option (DataW H × List MemPlace)} {w w' : World} {b n : Nat} {D : DataW H} (h : w.ownsMap P k R b n D) (hb : Below w.heap.size w w') : w'.ownsMap P k R b n D :=
  h.kept (row := none) ⟨hb.os, hb.tape, hb.output, hb.size, fun k hk _ => hb.block k hk⟩ (by simp)

set_option maxRecDepth 100000 in
set_option maxHeartbeats 8000000 in
theorem tr_distinct {p q : Nat → Prop} (A : Option Addr) (n c : Nat) (qs : List TA) (pid : Int) (w : World) (h : TPks p q w A n qs) (hn : n ≤ 10000) (hs : SideBy (datas qs)) (hp : ∀ x ∈ qs, x.p.pid = pid ∧ x.p.small ∧ 0 < x.n) :
    Calls Try.prog 46 #[.slice A n c, .int .i64 pid] w fun e w' => ∃ A' c', e = .returned (.slice A' n c') ∧ w'.ownsRow w.heap.size 28 5 (.slice A' n c') n (tpCells qs) ∧ Below w.heap.size w w' := by
  have hmm := @run_makeMap Try.prog
  have H := Lib.hid h
  have HS := Lib.hid hs
  have HP := Lib.hid hp
  clear h hs hp
  go_enter Try.func46, Try.ntmps46
  go_wp2_with fail
  go_loopw [5, 7, 15] (fun v rp i wr => ∃ (k : Nat) (A1 : Option Addr) (c1 : Nat) (D : DataW Unit), k ≤ n ∧ i = .int .i64 (k : Int) ∧ v = .slice A1 k c1 ∧ rp = .bool false ∧ wr.ownsMap Try.prog 95 (plainElem Try.prog 3) w.heap.size k D ∧ InvD (datas qs) k D ∧ wr.ownsRow (w.heap.size + 1) 28 5 (.slice A1 k c1) k (tpCells (qs.take k)) ∧ Below w.heap.size w wr) (fun _ _ i _ => n - (intOf i).toNat)
  case atStart => exact ⟨0, none, 0, .map [], Nat.zero_le _, rfl, rfl, rfl, World.ownsMap_made _ _ _ _, InvD.start _, World.ownsRow_nil _ _ _ _, (Below.refl _ _).alloc (Nat.le_refl _) _⟩
  case round =>
    obtain ⟨k, A1, c1, D, hk, rfl, rfl, rfl, hM, hI, ho, hb⟩ := hrel
    have HM := Lib.hid hM
    have HI := Lib.hid hI
    have HO := Lib.hid ho
    have HB := Lib.hid hb
    by_cases hlt : k < n
    · obtain ⟨b, off, ⟨⟨pid', cnt, st, clk, pl⟩, Ap, np, cp⟩, rfl, hbl, hx, hbx, hc⟩ := (H.out.ext hb).atD hlt
      obtain ⟨g1, g2, g3⟩ := HP.out _ (List.mem_of_getElem? hx)
      dsimp only at g1 g2 g3 hc hbx
      subst g1
      have HX := Lib.hid hx
      obtain ⟨kl, hkl⟩ := key_mk ⟨pid', cnt, st, clk, pl⟩ g2
      have HKL := Lib.hid hkl
      have t1 : (pid' != pid') = false := by simp
      have t2 : ((np : Int) == 0) = false := by simp; omega
      obtain ⟨c0, c1', c2, c3, c4⟩ := hc
      have k0 : (0 : Int) ≤ (k : Int) := by omega
      have k1 : (k : Int) < (n : Int) := by omega
      have d1 : decide ((k : Int) < (n : Int)) = true := decide_eq_true k1
      clear hM hI ho hx hkl hbx g2
      go_wp2_with fail
      refine (tr_fields ⟨pid', cnt, st, clk, pl⟩ Ap np cp _).mono ?_
      rintro e w2 ⟨rfl, hb2⟩
      have hbx0 := (Below.refl wr.heap.size wr).alloc (Nat.le_refl _) (.cells #[.int .i64 pid', .int .i64 cnt, .bool st, .int .i64 clk, .slice Ap np cp] 28)
      have HB2 : Hid (Below wr.heap.size wr w2) := Lib.hid (hbx0.trans (hb2.mono (by simp)))
      have HBX : Hid (Bx w2 wr.heap.size 28 #[.int .i64 pid', .int .i64 cnt, .bool st, .int .i64 clk, .slice Ap np cp]) := Lib.hid ((Bx.new wr 28 #[.int .i64 pid', .int .i64 cnt, .bool st, .int .i64 clk, .slice Ap np cp]).ext hb2)
      have HM2 := Lib.hid (own_map_ext HM.out HB2.out)
      have HO2 := Lib.hid (own_ext HO.out HB2.out)
      have x0 := HBX.out.cell 0 rfl
      have x1 := HBX.out.cell 1 rfl
      have x2 := HBX.out.cell 2 rfl
      have x3 := HBX.out.cell 3 rfl
      have x4 := HBX.out.cell 4 rfl
      clear hb2 hbx0 c0 c1' c2 c3 c4
      obtain ⟨v, ps, hrun, hv⟩ := HM2.out.look_ok lawK Try.underlying93 (zeroI _) (plainElem_int Try.underlying3 (by decide)) HKL.out
      obtain ⟨cc, rfl, hcc, _⟩ := plainElem_int_inv Try.underlying3 hv
      have hne : Maps.has D kl = true → cc ≠ (k : Int) - 1 := fun hh => HI.out.not_last HS.out (by simp [datas, HX.out]) HKL.out hh (congrArg Prod.fst hcc)
      clear hcc hv
      cases hh : Maps.has D kl with
      | false =>
        rw [hh] at hrun
        clear hne hh
        go_wp2_with fail
        go_quiet (fail)
        go_wp2_with fail
        refine (tr_fields ⟨pid', cnt, st, clk, pl⟩ Ap np cp _).mono ?_
        rintro e w3 ⟨rfl, hb3⟩
        have HB3 : Hid (Below wr.heap.size wr w3) := Lib.hid ((bdrewN HB2.out _).trans (hb3.mono HB2.out.size))
        have HBX3 := Lib.hid ((HBX.out.drewN _).ext hb3)
        have HM3 := Lib.hid (own_map_ext HM.out HB3.out)
        have HO3 := Lib.hid (own_ext HO.out HB3.out)
        clear hb3 x0 x1 x2 x3 x4 hrun
        have hmg : w.heap.size < w.heap.size + 1 := Nat.lt_succ_self _
        have HWR : Hid (w.heap.size + 1 ≤ wr.heap.size) := Lib.hid (by have := HM.out.lt; omega)
        go_wp2_with (first
          | (at_mapUpdate; refine wpList_mapUpdate_own _ rfl _ _ _ 93 rfl 95 3 lawK Try.underlying93 _ w.heap.size k D rfl HM3.out (by unfold maxLen; omega) (keyV ⟨pid', cnt, st, clk, pl⟩) _ kl rfl rfl HKL.out (.lit (.int .i64 (k : Int))) [] (plainElem_int Try.underlying3 (wfI (by unfold SmallI; omega))) ?_; intro w4 hown4 hgrow4; have HM4 := Lib.hid hown4; have HG4 := Lib.hid hgrow4; clear hown4 hgrow4; have HBX4 := Lib.hid (HBX3.out.grown HG4.out (by have := HWR.out; simp; omega)); have y0 := HBX4.out.cell 0 rfl; have y1 := HBX4.out.cell 1 rfl; have y2 := HBX4.out.cell 2 rfl; have y3 := HBX4.out.cell 3 rfl; have y4 := HBX4.out.cell 4 rfl; have z4 : w.heap.size + 1 ≤ w4.heap.size := Nat.le_trans HWR.out (Nat.le_trans HB3.out.size HG4.out.size); have hOA := Lib.hid (World.ownsRow.alloc (World.ownsRow.kept HO3.out HG4.out (.inr (fun e => own_ne HO3.out (.inl hmg) e.symm))) (.cells #[.int .i64 pid', .int .i64 cnt, .bool st, .int .i64 clk, .slice Ap np cp] 28)))
          | (at_builtin; go_must (refine wpList_appR _ rfl (.tmp 63) (.tmp 65) 40 rfl 28 (.agg #[.int .i64 0, .int .i64 0, .bool false, .int .i64 0, .slice none 0 0]) 5 56 Try.underlying40 Try.infoTP rfl (by decide) (w.heap.size + 1) (.slice A1 k c1) k _ rfl hOA.out (some ⟨w4.heap.size, 0, none⟩) 1 1 [.int .i64 pid', .int .i64 cnt, .bool st, .int .i64 clk, .slice Ap np cp] rfl (Rw.lit (p := fun _ => True) _ _ _ rfl 1 5 rfl rfl trivial) (by simp [Value.oneCell']) (by omega) (by omega) (by simp; omega) ?_; intro v5 w5 ho5 hg5 ha5; obtain ⟨A5, c5, hv5⟩ := own_slice ho5; subst hv5)))
        have HO5 := Lib.hid ho5
        have HG5 := Lib.hid hg5
        clear ho5 hg5 y0 y1 y2 y3 y4
        have hown : ∀ i, (Value.slice A1 k c1).ownBlock = some i → w.heap.size + 1 ≤ i := fun i hi => (World.ownsRow.lt HO.out i hi).1
        go_roundw
        case rel =>
          refine ⟨k + 1, A5, c5, D.put kl (.lit (.int .i64 (k : Int))), by omega, by go_num, rfl, rfl, ?_, HI.out.step HM.out.isMap (by simp [datas, HX.out]) HKL.out, ?_, ?_⟩
          · exact (HM4.out.alloc _).kept HG5.out (fun e => by have := hown _ e.symm; omega)
          · have e : tpCells (qs.take (k + 1)) = tpCells (qs.take k) ++ [.int .i64 pid', .int .i64 cnt, .bool st, .int .i64 clk, .slice Ap np cp] := by
              rw [take_snocT HX.out, tpCells_snoc]
              simp [TA.cells]
            rw [e]
            exact HO5.out
          · have b3 := HB.out.trans (HB3.out.mono HB.out.size)
            have b4 := b3.grown HG4.out b3.size (fun i hi => by injection hi with hi; omega)
            exact (b4.alloc b4.size _).grown HG5.out (by simp; have := b4.size; omega) (fun i hi => by have := hown i hi; omega)
        case measure => (simp [intOf]; try omega)
      | true =>
        rw [hh] at hrun
        have hcn : (cc == (k : Int) - 1) = false := by simpa using hne hh
        have wk : IntKind.i64.wrap ((k : Int) - 1) = (k : Int) - 1 := IntWalk.i64_in _ (by omega)
        clear hne hh
        go_wp2_with fail
        go_quiet (fail)
        go_wp2_with fail
        refine (tr_fields ⟨pid', cnt, st, clk, pl⟩ Ap np cp _).mono ?_
        rintro e w3 ⟨rfl, hb3⟩
        have HB3 : Hid (Below wr.heap.size wr w3) := Lib.hid ((bdrewN HB2.out _).trans (hb3.mono HB2.out.size))
        have HBX3 := Lib.hid ((HBX.out.drewN _).ext hb3)
        have HM3 := Lib.hid (own_map_ext HM.out HB3.out)
        have HO3 := Lib.hid (own_ext HO.out HB3.out)
        clear hb3 x0 x1 x2 x3 x4 hrun
        have hmg : w.heap.size < w.heap.size + 1 := Nat.lt_succ_self _
        have HWR : Hid (w.heap.size + 1 ≤ wr.heap.size) := Lib.hid (by have := HM.out.lt; omega)
        go_wp2_with (first
          | (at_mapUpdate; refine wpList_mapUpdate_own _ rfl _ _ _ 93 rfl 95 3 lawK Try.underlying93 _ w.heap.size k D rfl HM3.out (by unfold maxLen; omega) (keyV ⟨pid', cnt, st, clk, pl⟩) _ kl rfl rfl HKL.out (.lit (.int .i64 (k : Int))) [] (plainElem_int Try.underlying3 (wfI (by unfold SmallI; omega))) ?_; intro w4 hown4 hgrow4; have HM4 := Lib.hid hown4; have HG4 := Lib.hid hgrow4; clear hown4 hgrow4; have HBX4 := Lib.hid (HBX3.out.grown HG4.out (by have := HWR.out; simp; omega)); have y0 := HBX4.out.cell 0 rfl; have y1 := HBX4.out.cell 1 rfl; have y2 := HBX4.out.cell 2 rfl; have y3 := HBX4.out.cell 3 rfl; have y4 := HBX4.out.cell 4 rfl; have z4 : w.heap.size + 1 ≤ w4.heap.size := Nat.le_trans HWR.out (Nat.le_trans HB3.out.size HG4.out.size); have hOA := Lib.hid (World.ownsRow.alloc (World.ownsRow.kept HO3.out HG4.out (.inr (fun e => own_ne HO3.out (.inl hmg) e.symm))) (.cells #[.int .i64 pid', .int .i64 cnt, .bool st, .int .i64 clk, .slice Ap np cp] 28)))
          | (at_builtin; go_must (refine wpList_appR _ rfl (.tmp 63) (.tmp 65) 40 rfl 28 (.agg #[.int .i64 0, .int .i64 0, .bool false, .int .i64 0, .slice none 0 0]) 5 56 Try.underlying40 Try.infoTP rfl (by decide) (w.heap.size + 1) (.slice A1 k c1) k _ rfl hOA.out (some ⟨w4.heap.size, 0, none⟩) 1 1 [.int .i64 pid', .int .i64 cnt, .bool st, .int .i64 clk, .slice Ap np cp] rfl (Rw.lit (p := fun _ => True) _ _ _ rfl 1 5 rfl rfl trivial) (by simp [Value.oneCell']) (by omega) (by omega) (by simp; omega) ?_; intro v5 w5 ho5 hg5 ha5; obtain ⟨A5, c5, hv5⟩ := own_slice ho5; subst hv5)))
        have HO5 := Lib.hid ho5
        have HG5 := Lib.hid hg5
        clear ho5 hg5 y0 y1 y2 y3 y4
        have hown : ∀ i, (Value.slice A1 k c1).ownBlock = some i → w.heap.size + 1 ≤ i := fun i hi => (World.ownsRow.lt HO.out i hi).1
        go_roundw
        case rel =>
          refine ⟨k + 1, A5, c5, D.put kl (.lit (.int .i64 (k : Int))), by omega, by go_num, rfl, rfl, ?_, HI.out.step HM.out.isMap (by simp [datas, HX.out]) HKL.out, ?_, ?_⟩
          · exact (HM4.out.alloc _).kept HG5.out (fun e => by have := hown _ e.symm; omega)
          · have e : tpCells (qs.take (k + 1)) = tpCells (qs.take k) ++ [.int .i64 pid', .int .i64 cnt, .bool st, .int .i64 clk, .slice Ap np cp] := by
              rw [take_snocT HX.out, tpCells_snoc]
              simp [TA.cells]
            rw [e]
            exact HO5.out
          · have b3 := HB.out.trans (HB3.out.mono HB.out.size)
            have b4 := b3.grown HG4.out b3.size (fun i hi => by injection hi with hi; omega)
            exact (b4.alloc b4.size _).grown HG5.out (by simp; have := b4.size; omega) (fun i hi => by have := hown i hi; omega)
        case measure => (simp [intOf]; try omega)
    · obtain rfl : k = n := by omega
      have d1 : decide ((k : Int) < (k : Int)) = false := by simp
      clear hM hI ho hb
      go_wp2_with fail
      go_ret
      refine ⟨A1, c1, rfl, ?_, HB.out⟩
      have h3 := HO.out
      rw [List.take_of_length_le (by rw [H.out.1]; exact Nat.le_refl _)] at h3
      exact own_base h3 (Nat.le_succ _)
end Go.Proofs.Ytdnchjmopkhnaaa
