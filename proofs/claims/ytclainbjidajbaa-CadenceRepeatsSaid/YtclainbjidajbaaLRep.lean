/- CadenceRepeats. -/
import Derived.Test.YtclainbjidajbaaRpR
import Derived.Laws.OwnMore
import Derived.Deep.CutBlock
namespace Go.Proofs.Ytclainbjidajbaa
open Go.RowKit

theorem own_shorter {w : World} {base : Nat} {e : TypeId} {size n m g cap : Nat} {xs news : List Value} (h : w.ownsRow base e size (.slice (some ⟨g, 0, none⟩) (n + m) cap) (n + m) (xs ++ news)) (hx : xs.length = n * size) :
    w.ownsRow base e size (.slice (some ⟨g, 0, none⟩) n cap) n xs := by
  obtain ⟨_, h2⟩ := h
  rcases h2 with ⟨h, _⟩ | ⟨g', cap', cur, hv, hg, hh, hnc, hcm, hcs, htake⟩
  · cases h
  · injection hv with q1 q2 q3
    injection q1 with q1
    injection q1 with q1
    subst q1 q3
    refine ⟨hx, .inr ⟨g, cap, cur, rfl, hg, hh, by omega, hcm, hcs, ?_⟩⟩
    have hle : n * size ≤ (n + m) * size := Nat.mul_le_mul_right _ (by omega)
    have := congrArg (List.take (n * size)) htake
    rw [List.take_take, Nat.min_eq_left hle, List.take_append_of_le_length (by omega), List.take_of_length_le (l := xs) (by omega)] at this
    exact this
/-- append onto a row of the call's own: the row itself stays a row. -/
theorem run_appBigK {P : Program} (w : World) {p : Nat → Prop} (t ty e : TypeId) (z : Value) (size bytes : Nat) (ht : P.underlying t = some (.slice e)) (hi : (P.info? e).map (fun i => (i.zero, i.size, i.bytes)) = some (some z, size, bytes)) (hzs : z.cells.size = size) (hsz : 0 < size)
    (base : Nat) (v : Value) (n : Nat) (xs : List Value) (hown : w.ownsRow base e size v n xs) (A : Option Addr) (m c : Nat) (news : List Value) (hr : Rw p w A m size news) (h1 : ∀ u ∈ news, u.oneCell' = true)
    (hlen : n + m ≤ maxLen) (hby : (n + m) * bytes ≤ 140737488355328) (hbase : base ≤ w.heap.size) :
    ∃ v' w', (Builtin.append_ #[t, t] ty #[v, .slice A m c]).run P w = .ok v' w' ∧ w'.ownsRow base e size v' (n + m) (xs ++ news) ∧ w.grownBy w' v.ownBlock ∧ (v'.ownBlock = v.ownBlock ∨ v'.ownBlock = some w.heap.size) ∧ w'.ownsRow base e size v n xs := by
  obtain ⟨i, hi', hz, hs, hb⟩ := info_parts hi
  rcases Nat.eq_zero_or_pos m with hm | hm
  · subst hm
    have hn : news = [] := List.eq_nil_of_length_eq_zero (by rw [hr.1]; simp)
    subst hn
    refine ⟨v, w, ?_, by simpa using hown, World.grownBy.refl w _, .inl rfl, hown⟩
    rcases A with _ | ad
    · rcases hown.2 with ⟨rfl, _⟩ | ⟨g, cap, cur, rfl, _, _, hnc, _⟩
      · simp [Builtin.append_, run_underlying ht, sizeOf, typeInfo, hi', Builtin.lenOf, Builtin.firstCells]
      · simp [Builtin.append_, run_underlying ht, sizeOf, typeInfo, hi', Builtin.lenOf, Builtin.firstCells, hnc, storeCells]
    · rcases hown.2 with ⟨rfl, _⟩ | ⟨g, cap, cur, rfl, _, _, hnc, _⟩
      · simp [Builtin.append_, run_underlying ht, sizeOf, typeInfo, hi', Builtin.lenOf, Builtin.firstCells, loadCells, loadCellsFrom]
      · simp [Builtin.append_, run_underlying ht, sizeOf, typeInfo, hi', Builtin.lenOf, Builtin.firstCells, hnc, storeCells, loadCells, loadCellsFrom]
  · obtain ⟨b, off, rfl, _, _, hc⟩ := hr.addr hm
    have hcells : ∀ j u, news[j]? = some u → w.cell? ((⟨b, off, none⟩ : Addr).add j) = some u := by
      intro j u hu
      have hadd : (⟨b, off, none⟩ : Addr).add j = ⟨b, off + j, none⟩ := by unfold Addr.add; split <;> simp_all
      rw [hadd]
      exact hc j u hu
    obtain ⟨v', w', hrun, h2, h3, _, h5⟩ := run_append_own_at (P := P) w base t ty e i z size bytes ht hi' hz hs hb hzs hsz v n xs hown ⟨b, off, none⟩ m c
      news hr.1 hcells h1 hlen hby hbase
    refine ⟨v', w', hrun, h2, h3, h5, ?_⟩
    rcases hown.2 with ⟨rfl, hn⟩ | ⟨g, cap, cur, rfl, hg, hh, hnc, hcm, hcs, htake⟩
    · have hx : xs = [] := List.eq_nil_of_length_eq_zero (by rw [hown.1, hn]; simp)
      subst hx hn
      exact World.ownsRow_nil _ _ _ _
    · by_cases hroom : n + m ≤ cap
      · obtain ⟨w2, hr2, ho2, _⟩ := run_append_fits (P := P) w base t ty e i size ht hi' hs g n cap xs hown ⟨b, off, none⟩ m c news hr.1 hcells h1 hroom
        rw [hr2] at hrun
        injection hrun with e1 e2
        subst e2
        exact own_shorter ho2 hown.1
      · have holds : ∀ j u, xs[j]? = some u → w.cell? ((⟨g, 0, none⟩ : Addr).add j) = some u := hown.cells (g := g) rfl
        subst hs hb
        have hr2 := run_append_grow (P := P) w t ty e i z ht hi' hz ⟨g, 0, none⟩ n cap xs hown.1 holds ⟨b, off, none⟩ m c news hr.1 hcells (by omega) (by simp only [maxLen] at hlen; omega) (growslice_fits (by omega) hby)
        rw [hr2] at hrun
        injection hrun with e1 e2
        subst e2
        exact own_alloc hown.drew _
theorem wpList_appBigK {P : Program} (w : World) {p : Nat → Prop} {ops : Array Oper} {rest : List Oper} {o : Oper} {a : Act} {Q : Exit → Act → World → Prop} (hgd : o.guard = none) (s x : Operand) (t : TypeId)
    (ho : o.op = .call { callee := .builtin .append, args := #[s, x], argTypes := #[t, t] }) (e : TypeId)
    (z : Value) (size bytes : Nat) (ht : P.underlying t = some (.slice e)) (hi : (P.info? e).map (fun i => (i.zero, i.size, i.bytes)) = some (some z, size, bytes)) (hzs : z.cells.size = size) (hsz : 0 < size)
    (base : Nat) (v : Value) (n : Nat) (xs : List Value) (hs : a.eval s = v) (hown : w.ownsRow base e size v n xs) (A : Option Addr) (m c : Nat) (news : List Value) (hx : a.eval x = .slice A m c) (hr : Rw p w A m size news) (h1 : ∀ u ∈ news, u.oneCell' = true)
    (hlen : n + m ≤ maxLen) (hby : (n + m) * bytes ≤ 140737488355328) (hbase : base ≤ w.heap.size)
    (h : ∀ v' w', w'.ownsRow base e size v' (n + m) (xs ++ news) → w.grownBy w' v.ownBlock → (v'.ownBlock = v.ownBlock ∨ v'.ownBlock = some w.heap.size) → w'.ownsRow base e size v n xs → wpList P ops Q rest (a.put o.dst v') w') : wpList P ops Q (o :: rest) a w := by
  refine wpList_plain hgd fun K hK => ?_
  obtain ⟨v', w', hrun, h2, h3, h4, h5⟩ := run_appBigK (P := P) w t o.type e z size bytes ht hi hzs hsz base v n xs hown A m c news hr h1 hlen hby hbase
  unfold Oper.wp execOp
  simp only [ho, resolve, invoke, builtin, Sem.run_bind, Sem.run_pure, Result.andThen_ok, List.map_toArray, List.map_cons, List.map_nil, hs, hx, hrun]
  exact hK _ _ (h v' w' h2 h3 h4 h5)
theorem OwnF.kept {q : Nat → Prop} {w w' : World} {base : Nat} {v : Value} {xs : List FA} (h : OwnF q w base v xs) (hg : w.grownBy w' v.ownBlock) (ho : w'.ownsRow base 27 5 v xs.length (frCells xs)) : OwnF q w' base v xs :=
  ⟨ho, fun x hx => (h.2 x hx).grown hg (fun _ hb => hb.2)⟩

set_option maxRecDepth 100000 in
set_option maxHeartbeats 8000000 in
theorem law_CadenceRepeats {p : Nat → Prop} (A : Option Addr) (n c : Nat) (L : List Int) (B : Option Addr) (m d : Nat) (rs : List FA) (C : Option Addr) (k e : Nat) (G : List Int) (w : World) (hi : Its .i64 p w A n L) (hok : IntsOk L) (hR : Frs (fun _ => True) (fun _ => True) w B m rs) (hG : Its .i64 (fun _ => True) w C k G) (hokG : IntsOk G) (hm : m * 88 ≤ 140737488351232) :
    Calls Try.prog 3 #[.slice A n c, .slice B m d, .slice C k e] w fun e w' => e = .returned (.bool true) ∧ Below w.heap.size w w' := by
  have HR := Lib.hid (hR.mono (p' := (· < w.heap.size)) (q' := (· < w.heap.size)) (fun b h _ => h) (fun b h _ => h))
  have HG := Lib.hid (hG.mono (q := (· < w.heap.size)) (fun b h _ => h))
  have HF := Lib.hid (film_Frames A n c L 5 w hi hok (by omega))
  have HOG := Lib.hid hokG
  clear hi hok hR hG hokG
  go_enter Try.func3, Try.ntmps3
  go_wp2_with fail
  refine HF.out.mono ?_
  rintro e1 w1 ⟨A1, c1, qs, s, rfl, hq, ho, _, _, hb1⟩
  have HO := Lib.hid ho
  have HB1 := Lib.hid hb1
  clear ho hb1
  go_upto_block 0 with fail
  go_cut [7] (fun v wx => ∃ (A1 : Option Addr) (c1 : Nat) (ys : List FA), v = .slice A1 ys.length c1 ∧ ys.length ≤ 11 ∧ OwnF (w.heap.size ≤ ·) wx w.heap.size (.slice A1 ys.length c1) ys ∧ Below w.heap.size w wx)
  case first =>
    go_wp2_with fail
    go_loopw [7, 8] (fun v i wr => ∃ (j : Nat) (A1 : Option Addr) (n1 c1 : Nat) (ys : List FA), j ≤ 6 ∧ i = .int .i64 (j : Int) ∧ v = .slice A1 n1 c1 ∧ ys.length = n1 ∧ n1 ≤ 5 + j ∧ OwnF (w.heap.size ≤ ·) wr w.heap.size (.slice A1 n1 c1) ys ∧ Below w.heap.size w wr) (fun _ i _ => 6 - (intOf i).toNat)
    case atStart => exact ⟨0, A1, qs.length, c1, qs, by omega, rfl, rfl, rfl, by omega, HO.out, HB1.out⟩
    case round =>
      obtain ⟨j, A1, n1, c1, ys, hj, rfl, rfl, hyl, hn1, ho, hb⟩ := hrel
      have HO := Lib.hid ho
      have HB := Lib.hid hb
      have HYL := Lib.hid hyl
      clear ho hb hyl
      have hdone : ∃ (A2 : Option Addr) (c2 : Nat) (zs : List FA), Value.slice A1 n1 c1 = .slice A2 zs.length c2 ∧ zs.length ≤ 11 ∧ OwnF (w.heap.size ≤ ·) wr w.heap.size (.slice A2 zs.length c2) zs ∧ Below w.heap.size w wr := by
        have h1 := HYL.out
        subst h1
        exact ⟨A1, c1, ys, rfl, by omega, HO.out, HB.out⟩
      have HD := Lib.hid hdone
      clear hdone
      by_cases g1 : j < k
      · have d1 : decide ((j : Int) < (k : Int)) = true := decide_eq_true (by omega)
        by_cases g2 : j < 6
        · have d2 : decide ((j : Int) < 6) = true := decide_eq_true (by omega)
          by_cases g3 : 0 < n1
          · have d3 : decide (0 < (n1 : Int)) = true := decide_eq_true (by omega)
            obtain ⟨b2, off2, v, rfl, _, hbl2, hvv, hcv⟩ := (HG.out.keep (fun b hp _ => HB.out.block b hp)).at_ g1
            have hvb := HOG.out v (List.mem_of_getElem? hvv)
            clear hvv
            obtain ⟨q, hq⟩ : ∃ q, q = v.tmod (n1 : Int) := ⟨_, rfl⟩
            have hqb : -(n1 : Int) < q ∧ q < n1 := by
              rw [hq]
              refine ⟨Int.lt_tmod_of_pos _ (by omega), Int.tmod_lt_of_pos _ (by omega)⟩
            obtain ⟨r, hr⟩ := Int.eq_ofNat_of_zero_le (Int.emod_nonneg v (show (n1 : Int) ≠ 0 by omega))
            have hrn : r < n1 := by have := Int.emod_lt_of_pos v (show (0 : Int) < n1 by omega); omega
            have hrr := rem_rem (v := v) g3
            rw [← hq, hr] at hrr
            have hq2 := hq.symm
            clear hq
            have t1 : ¬ (n1 : Int) = 0 := by omega
            have t2 : ((n1 : Int) == 0) = false := by simp; omega
            have t3 : ¬ n1 = 0 := by omega
            have wq : IntKind.i64.wrap q = q := IntWalk.i64_in _ (by omega)
            have wq2 : IntKind.i64.wrap (q + (n1 : Int)) = q + (n1 : Int) := IntWalk.i64_in _ (by omega)
            have wr1 : IntKind.i64.wrap (r : Int) = (r : Int) := IntWalk.i64_in _ (by omega)
            have r0 : (0 : Int) ≤ (r : Int) := by omega
            have r1 : (r : Int) < (n1 : Int) := by omega
            have i0 : (0 : Int) ≤ (j : Int) := by omega
            have i1 : (j : Int) < (k : Int) := by omega
            obtain ⟨A2, c2, hv, hfr⟩ := OwnF.frs (p := fun _ => True) (v := .slice A1 n1 c1) HO.out (fun _ _ => trivial)
            injection hv with e1 e2 e3
            subst e1 e3
            rw [← e2] at hfr
            obtain ⟨b, off, x, rfl, hbl, hxx, _, hc0, hc1, hc2, hc3, hc4⟩ := hfr.at_ hrn
            have HX := Lib.hid (HO.out.2 x (List.mem_of_getElem? hxx))
            have hbs := HB.out.size
            have HOA : Hid ((wr.alloc (.cells #[.int .i64 x.f.W, .int .i64 x.f.H, .slice x.ya x.yn x.yc, .slice x.ua x.un x.uc, .slice x.va x.vn x.vc] 27)).ownsRow w.heap.size 27 5 (.slice (some ⟨b, off, none⟩) n1 c1) n1 (frCells ys)) := Lib.hid (by
              have h := own_alloc HO.out.1 (.cells #[.int .i64 x.f.W, .int .i64 x.f.H, .slice x.ya x.yn x.yc, .slice x.ua x.un x.uc, .slice x.va x.vn x.vc] 27)
              rwa [HYL.out] at h)
            clear hxx hfr hr e2
            go_wp2_with (first | (at_builtin; go_must (refine wpList_appR _ rfl (.tmp 34) (.tmp 51) 23 rfl 27 (.agg #[.int .i64 0, .int .i64 0, .slice none 0 0, .slice none 0 0, .slice none 0 0]) 5 88 Try.underlying23 Try.infoF rfl (by decide) w.heap.size (.slice (some ⟨b, off, none⟩) n1 c1) n1 _ rfl HOA.out (some ⟨wr.heap.size, 0, none⟩) 1 1 [.int .i64 x.f.W, .int .i64 x.f.H, .slice x.ya x.yn x.yc, .slice x.ua x.un x.uc, .slice x.va x.vn x.vc] rfl (Rw.lit (p := fun _ => True) _ _ _ rfl 1 5 rfl rfl trivial) (by simp [Value.oneCell']) (by omega) (by omega) (by simp; omega) ?_; intro v3 w4 ho3 hg3 ha3; obtain ⟨A3, c3, hv3⟩ := own_slice ho3; subst hv3)))
            go_roundw
            case rel =>
              have h2 := (HO.out.alloc (.cells #[.int .i64 x.f.W, .int .i64 x.f.H, .slice x.ya x.yn x.yc, .slice x.ua x.un x.uc, .slice x.va x.vn x.vc] 27))
              have hs2 : wr.heap.size ≤ (wr.alloc (.cells #[.int .i64 x.f.W, .int .i64 x.f.H, .slice x.ya x.yn x.yc, .slice x.ua x.un x.uc, .slice x.va x.vn x.vc] 27)).heap.size := by simp
              refine ⟨j + 1, A3, n1 + 1, c3, ys ++ [x], by omega, by go_num, rfl, by simp [HYL.out], by omega, ?_, (HB.out.alloc hbs _).grown hg3 (by omega) (fun j hj => (World.ownsRow.lt HOA.out j hj).1)⟩
              exact OwnF.app h2 (by rw [HYL.out]; simpa [frCells, FA.cells] using ho3) hg3 ha3 (fun y hy => by rw [List.mem_singleton] at hy; rw [hy]; exact HX.out.alloc _)
            case measure => (simp [intOf]; try omega)
          · have d3 : decide (0 < (n1 : Int)) = false := decide_eq_false (by omega)
            go_wp2_with fail
            go_meet
            exact HD.out
        · have d2 : decide ((j : Int) < 6) = false := decide_eq_false (by omega)
          go_wp2_with fail
          go_meet
          exact HD.out
      · have d1 : decide ((j : Int) < (k : Int)) = false := decide_eq_false (by omega)
        go_wp2_with fail
        go_meet
        exact HD.out
  case rest =>
    obtain ⟨A2, c2, ys, rfl, hyl, ho, hb⟩ := hcut
    have HO := Lib.hid ho
    have HB := Lib.hid hb
    have hfr : Frs (fun _ => True) (fun _ => True) wc A2 ys.length ys := by
      obtain ⟨A3, c3, hv, hf⟩ := OwnF.frs (p := fun _ => True) ho (fun _ _ => trivial)
      injection hv with q1 q2 q3
      subst q1
      exact hf.mono (fun _ _ h => h) (fun _ _ _ => trivial)
    have HX := Lib.hid hfr
    have HOB : Hid (∀ b, wc.heap.size ≤ b → some b ≠ (Value.slice A2 ys.length c2).ownBlock) := Lib.hid (fun b hb e => by have := (World.ownsRow.lt HO.out.1 b e.symm).2; omega)
    obtain ⟨Q, hQ⟩ : ∃ Q, repL (frs ys) = Q := ⟨_, rfl⟩
    obtain ⟨E, hE⟩ : ∃ E, repE (frs ys) = E := ⟨_, rfl⟩
    obtain ⟨Q2, hQ2⟩ : ∃ Q, repL (frs (ys ++ rs)) = Q := ⟨_, rfl⟩
    obtain ⟨E2, hE2⟩ : ∃ E, repE (frs (ys ++ rs)) = E := ⟨_, rfl⟩
    have hml : rs.length = m := HR.out.1
    have hQl : Q.length ≤ 22 := by
      have := repL_len (frs ys)
      rw [hQ] at this
      simp only [frs, List.length_map] at this
      omega
    have hQl2 : Q2.length ≤ 22 + 2 * m := by
      have := repL_len (frs (ys ++ rs))
      rw [hQ2] at this
      simp only [frs, List.length_map, List.length_append] at this
      omega
    have HQL := Lib.hid hQl
    have HQL2 := Lib.hid hQl2
    have HE := Lib.hid hE
    have HQ := Lib.hid hQ
    have HE2 := Lib.hid hE2
    have HQ2 := Lib.hid hQ2
    have HC1 : Hid (Calls Try.prog 9 #[.slice A2 ys.length c2] wc (RetRp wc E Q)) := Lib.hid (by
      have := cad_Repeats A2 ys.length c2 ys wc HX.out (by omega)
      rwa [HE.out, HQ.out] at this)
    clear ho hb hfr hQ hE hQ2 hE2 hml hQl hQl2
    go_wp2_with fail
    refine HC1.out.mono ?_
    rintro e2 w2 ⟨Aa, na, ca, rfl, hna, hRa, hb2⟩
    have HB2 := Lib.hid hb2
    have HRa := Lib.hid hRa
    have HNA := Lib.hid hna
    have HX2 := Lib.hid (HX.out.ext hb2)
    clear hb2 hRa hna HC1
    have HC2 : Hid (Calls Try.prog 10 #[.slice A2 ys.length c2] w2 (RetRp w2 E Q)) := Lib.hid (by
      have := ref_Repeats A2 ys.length c2 ys w2 HX2.out (by omega)
      rwa [HE.out, HQ.out] at this)
    go_wp2_with fail
    refine HC2.out.mono ?_
    rintro e3 w3 ⟨Ab, nb, cb, rfl, hnb, hRb, hb3⟩
    obtain rfl : nb = na := hnb.trans HNA.out.symm
    have HB3 := Lib.hid hb3
    have HRa3 := Lib.hid (HRa.out.ext hb3)
    have HRb3 := Lib.hid (hRb.mono (q := (wc.heap.size ≤ ·)) (fun b _ h => Nat.le_trans HB2.out.size h))
    have HO3 := Lib.hid ((HO.out.ext HB2.out).ext hb3)
    have HBA := Lib.hid ((HB.out.trans (HB2.out.mono HB.out.size)).trans (hb3.mono (Nat.le_trans HB.out.size HB2.out.size)))
    have HR3 := Lib.hid (HR.out.below HBA.out (fun _ _ h => h) (fun _ _ h => h))
    have z3 := HBA.out.size
    clear hb3 hRb hnb HC2
    go_wp2_with (first | (at_builtin; go_must (refine wpList_appBigK _ rfl (.tmp 64) (.tmp 65) 23 rfl 27 (.agg #[.int .i64 0, .int .i64 0, .slice none 0 0, .slice none 0 0, .slice none 0 0]) 5 88 Try.underlying23 Try.infoF rfl (by decide) w.heap.size (.slice A2 ys.length c2) ys.length _ rfl HO3.out.1 B m d _ rfl HR3.out.2.1 (frCells_one rs) (by simp only [maxLen]; omega) (by omega) z3 ?_; intro v4 w4 ho4 hg4 ha4 hk4; obtain ⟨A4, c4, hv4, _, hfr4, _⟩ := film_more HO3.out HR3.out ho4 hg4 ha4; subst hv4)))
    have HX4 := Lib.hid hfr4
    have HO4 := Lib.hid (HO3.out.kept hg4 hk4)
    have HBB := Lib.hid (HBA.out.grown hg4 z3 (fun j hj => (World.ownsRow.lt HO3.out.1 j hj).1))
    have HRa4 := Lib.hid (HRa3.out.grown hg4 HOB.out)
    have HRb4 := Lib.hid (HRb3.out.grown hg4 HOB.out)
    have HZ4 : Hid (wc.heap.size ≤ w4.heap.size) := Lib.hid (Nat.le_trans (Nat.le_trans HB2.out.size HB3.out.size) hg4.size)
    clear hfr4 ho4 hg4 ha4 hk4 z3
    have HC4 : Hid (Calls Try.prog 9 #[.slice A4 (ys.length + m) c4] w4 (RetRp w4 E2 Q2)) := Lib.hid (by
      have := cad_Repeats A4 (ys.length + m) c4 (ys ++ rs) w4 HX4.out (by omega)
      rwa [HE2.out, HQ2.out] at this)
    refine HC4.out.mono ?_
    rintro e5 w5 ⟨Ac, nc, cc, rfl, hnc, hRc, hb5⟩
    have HNC := Lib.hid hnc
    have HO5 := Lib.hid (HO4.out.ext hb5)
    have HBC := Lib.hid (HBB.out.trans (hb5.mono HBB.out.size))
    have HRa5 := Lib.hid (HRa4.out.ext hb5)
    have HRb5 := Lib.hid (HRb4.out.ext hb5)
    have HRc5 := Lib.hid (hRc.mono (q := (wc.heap.size ≤ ·)) (fun b _ h => Nat.le_trans HZ4.out h))
    have HR5 := Lib.hid (HR.out.below HBC.out (fun _ _ h => h) (fun _ _ h => h))
    have z5 := HBC.out.size
    have HZ5 : Hid (wc.heap.size ≤ w5.heap.size) := Lib.hid (Nat.le_trans HZ4.out hb5.size)
    clear hb5 hRc hnc HC4
    go_wp2_with (first | (at_builtin; go_must (refine wpList_appBigK _ rfl (.tmp 71) (.tmp 72) 23 rfl 27 (.agg #[.int .i64 0, .int .i64 0, .slice none 0 0, .slice none 0 0, .slice none 0 0]) 5 88 Try.underlying23 Try.infoF rfl (by decide) w.heap.size (.slice A2 ys.length c2) ys.length _ rfl HO5.out.1 B m d _ rfl HR5.out.2.1 (frCells_one rs) (by simp only [maxLen]; omega) (by omega) z5 ?_; intro v6 w6 ho6 hg6 ha6 hk6; obtain ⟨A6, c6, hv6, _, hfr6, _⟩ := film_more HO5.out HR5.out ho6 hg6 ha6; subst hv6)))
    have HX6 := Lib.hid hfr6
    have HBD := Lib.hid (HBC.out.grown hg6 z5 (fun j hj => (World.ownsRow.lt HO5.out.1 j hj).1))
    have HRa6 := Lib.hid (HRa5.out.grown hg6 HOB.out)
    have HRb6 := Lib.hid (HRb5.out.grown hg6 HOB.out)
    have HRc6 := Lib.hid (HRc5.out.grown hg6 HOB.out)
    clear hfr6 ho6 hg6 ha6 hk6 z5
    have HC6 : Hid (Calls Try.prog 10 #[.slice A6 (ys.length + m) c6] w6 (RetRp w6 E2 Q2)) := Lib.hid (by
      have := ref_Repeats A6 (ys.length + m) c6 (ys ++ rs) w6 HX6.out (by omega)
      rwa [HE2.out, HQ2.out] at this)
    refine HC6.out.mono ?_
    rintro e7 w7 ⟨Ad, nd, cd, rfl, hnd, hRd, hb7⟩
    obtain rfl : nd = nc := hnd.trans HNC.out.symm
    have HRa7 := Lib.hid (HRa6.out.ext hb7)
    have HRb7 := Lib.hid (HRb6.out.ext hb7)
    have HRc7 := Lib.hid (HRc6.out.ext hb7)
    have HRd7 := Lib.hid hRd
    have HBE := Lib.hid (HBD.out.trans (hb7.mono HBD.out.size))
    clear hb7 hRd hnd HC6
    have HS1 := Lib.hid (ref_SameInts Aa Ab nb ca cb Q w7 HNA.out HRa7.out HRb7.out (by have := HNA.out; have := HQL.out; omega))
    go_wp2_with fail
    refine HS1.out.mono ?_
    rintro e8 w8 ⟨rfl, m8, hw8⟩
    have HS2 := Lib.hid (ref_SameInts Ac Ad nd cc cd Q2 w8 HNC.out (by rw [hw8]; exact HRc7.out.drewN _) (by rw [hw8]; exact HRd7.out.drewN _) (by have := HNC.out; have := HQL2.out; omega))
    have HBF : Hid (Below w.heap.size w w8) := Lib.hid (by rw [hw8]; exact below_drewN HBE.out _)
    clear hw8
    go_wp2_with fail
    refine HS2.out.mono ?_
    rintro e9 w9 ⟨rfl, m9, hw9⟩
    have HBG : Hid (Below w.heap.size w w9) := Lib.hid (by rw [hw9]; exact below_drewN HBF.out _)
    clear hw9
    go_wp2_with fail
    refine (cad_awake w9).mono ?_
    rintro e10 w10 ⟨rfl, hb10⟩
    have hb := HBG.out.trans (hb10.mono HBG.out.size)
    clear hb10
    go_wp2_with fail
    go_ret
    exact ⟨rfl, hb⟩
end Go.Proofs.Ytclainbjidajbaa
