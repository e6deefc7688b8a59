/- CadencePulls. -/
import Derived.Test.YtclainbjidajbaaFlm
import Derived.Test.YtclainbjidajbaaCadAwake
namespace Go.Proofs.Ytclainbjidajbaa
open Go.RowKit

/-- append onto a row of the call's own, whatever the size that Go grants. -/
theorem run_appBig {P : Program} (w : World) {p : Nat → Prop} (t ty e : TypeId) (z : Value) (size bytes : Nat) (ht : P.underlying t = some (.slice e)) (hi : (P.info? e).map (fun i => (i.zero, i.size, i.bytes)) = some (some z, size, bytes)) (hzs : z.cells.size = size) (hsz : 0 < size)
    (base : Nat) (v : Value) (n : Nat) (xs : List Value) (hown : w.ownsRow base e size v n xs) (A : Option Addr) (m c : Nat) (news : List Value) (hr : Rw p w A m size news) (h1 : ∀ u ∈ news, u.oneCell' = true)
    (hlen : n + m ≤ maxLen) (hby : (n + m) * bytes ≤ 140737488355328) (hbase : base ≤ w.heap.size) :
    ∃ v' w', (Builtin.append_ #[t, t] ty #[v, .slice A m c]).run P w = .ok v' w' ∧ w'.ownsRow base e size v' (n + m) (xs ++ news) ∧ w.grownBy w' v.ownBlock ∧ (v'.ownBlock = v.ownBlock ∨ v'.ownBlock = some w.heap.size) := by
  obtain ⟨i, hi', hz, hs, hb⟩ := info_parts hi
  rcases Nat.eq_zero_or_pos m with hm | hm
  · subst hm
    have hn : news = [] := List.eq_nil_of_length_eq_zero (by rw [hr.1]; simp)
    subst hn
    refine ⟨v, w, ?_, by simpa using hown, World.grownBy.refl w _, .inl rfl⟩
    rcases A with _ | ad
    · rcases hown.2 with ⟨rfl, _⟩ | ⟨g, cap, cur, rfl, _, _, hnc, _⟩
      · simp [Builtin.append_, run_underlying ht, sizeOf, typeInfo, hi', Builtin.lenOf, Builtin.firstCells]
      · simp [Builtin.append_, run_underlying ht, sizeOf, typeInfo, hi', Builtin.lenOf, Builtin.firstCells, hnc, storeCells]
    · rcases hown.2 with ⟨rfl, _⟩ | ⟨g, cap, cur, rfl, _, _, hnc, _⟩
      · simp [Builtin.append_, run_underlying ht, sizeOf, typeInfo, hi', Builtin.lenOf, Builtin.firstCells, loadCells, loadCellsFrom]
      · simp [Builtin.append_, run_underlying ht, sizeOf, typeInfo, hi', Builtin.lenOf, Builtin.firstCells, hnc, storeCells, loadCells, loadCellsFrom]
  · obtain ⟨b, off, rfl, _, _, hc⟩ := hr.addr hm
    have hcells : ∀ j u, news[j]? = some u → w.cell? ((⟨b, off, none⟩ : Addr).add j) = some u := by
      intro j u hu
      have hadd : (⟨b, off, none⟩ : Addr).add j = ⟨b, off + j, none⟩ := by unfold Addr.add; split <;> simp_all
      rw [hadd]
      exact hc j u hu
    obtain ⟨v', w', hrun, h2, h3, _, h5⟩ := run_append_own_at (P := P) w base t ty e i z size bytes ht hi' hz hs hb hzs hsz v n xs hown ⟨b, off, none⟩ m c
      news hr.1 hcells h1 hlen hby hbase
    exact ⟨v', w', hrun, h2, h3, h5⟩
theorem wpList_appBig {P : Program} (w : World) {p : Nat → Prop} {ops : Array Oper} {rest : List Oper} {o : Oper} {a : Act} {Q : Exit → Act → World → Prop} (hgd : o.guard = none) (s x : Operand) (t : TypeId)
    (ho : o.op = .call { callee := .builtin .append, args := #[s, x], argTypes := #[t, t] }) (e : TypeId)
    (z : Value) (size bytes : Nat) (ht : P.underlying t = some (.slice e)) (hi : (P.info? e).map (fun i => (i.zero, i.size, i.bytes)) = some (some z, size, bytes)) (hzs : z.cells.size = size) (hsz : 0 < size)
    (base : Nat) (v : Value) (n : Nat) (xs : List Value) (hs : a.eval s = v) (hown : w.ownsRow base e size v n xs) (A : Option Addr) (m c : Nat) (news : List Value) (hx : a.eval x = .slice A m c) (hr : Rw p w A m size news) (h1 : ∀ u ∈ news, u.oneCell' = true)
    (hlen : n + m ≤ maxLen) (hby : (n + m) * bytes ≤ 140737488355328) (hbase : base ≤ w.heap.size)
    (h : ∀ v' w', w'.ownsRow base e size v' (n + m) (xs ++ news) → w.grownBy w' v.ownBlock → (v'.ownBlock = v.ownBlock ∨ v'.ownBlock = some w.heap.size) → wpList P ops Q rest (a.put o.dst v') w') : wpList P ops Q (o :: rest) a w := by
  refine wpList_plain hgd fun K hK => ?_
  obtain ⟨v', w', hrun, h2, h3, h4⟩ := run_appBig (P := P) w t o.type e z size bytes ht hi hzs hsz base v n xs hown A m c news hr h1 hlen hby hbase
  unfold Oper.wp execOp
  simp only [ho, resolve, invoke, builtin, Sem.run_bind, Sem.run_pure, Result.andThen_ok, List.map_toArray, List.map_cons, List.map_nil, hs, hx, hrun]
  exact hK _ _ (h v' w' h2 h3 h4)

/-- The frames that a law goes on with: some that were made, and those that came in. -/
theorem film_more {w w1 w2 : World} {A1 : Option Addr} {c1 m : Nat} {qs rs : List FA} {v : Value} {B : Option Addr} (ho : OwnF (w.heap.size ≤ ·) w1 w.heap.size (.slice A1 qs.length c1) qs) (hR : Frs (· < w.heap.size) (· < w.heap.size) w1 B m rs)
    (hov : w2.ownsRow w.heap.size 27 5 v (qs.length + m) (frCells qs ++ frCells rs)) (hg : w1.grownBy w2 (Value.slice A1 qs.length c1).ownBlock) (ha : v.ownBlock = (Value.slice A1 qs.length c1).ownBlock ∨ v.ownBlock = some w1.heap.size) :
    ∃ A c, v = .slice A (qs.length + m) c ∧ OwnF (fun _ => True) w2 w.heap.size v (qs ++ rs) ∧ Frs (fun _ => True) (fun _ => True) w2 A (qs.length + m) (qs ++ rs) ∧ qs.length + m ≤ c := by
  have hml := hR.1
  have h1 : OwnF (fun _ => True) w1 w.heap.size (.slice A1 qs.length c1) qs := ho.mono (fun _ _ _ => trivial)
  have h2 : OwnF (fun _ => True) w2 w.heap.size v (qs ++ rs) := OwnF.app h1 (by rw [hml]; exact hov) hg ha (fun y hy => (hR.2.2 y hy).mono (fun b _ hb => ⟨trivial, fun e => by have := (World.ownsRow.lt ho.1 b e.symm).1; omega⟩))
  obtain ⟨A, c, hv, hf⟩ := OwnF.frs (p := fun _ => True) h2 (fun _ _ => trivial)
  rw [List.length_append, hml] at hv hf
  subst hv
  exact ⟨A, c, rfl, h2, hf, by have := own_cap hov; omega⟩

set_option maxRecDepth 100000 in
set_option maxHeartbeats 4000000 in
theorem law_CadencePulls {p : Nat → Prop} (A : Option Addr) (n c : Nat) (L : List Int) (B : Option Addr) (m d : Nat) (rs : List FA) (C : Option Addr) (k e : Nat) (ws : List (Int × Int)) (w : World) (hi : Its .i64 p w A n L) (hok : IntsOk L) (hR : Frs (fun _ => True) (fun _ => True) w B m rs) (hW : Wvs (fun _ => True) w C k ws) (hm : m * 88 ≤ 140737488351232) (hk : k ≤ 100000000000000) :
    Calls Try.prog 4 #[.slice A n c, .slice B m d, .slice C k e] w fun e w' => e = .returned (.bool true) ∧ Below w.heap.size w w' := by
  have HR := Lib.hid (hR.mono (p' := (· < w.heap.size)) (q' := (· < w.heap.size)) (fun b h _ => h) (fun b h _ => h))
  have HW := Lib.hid hW
  have HF := Lib.hid (film_Frames A n c L 4 w hi hok (by omega))
  clear hi hok hR hW
  go_enter Try.func4, Try.ntmps4
  go_wp2_with fail
  refine HF.out.mono ?_
  rintro e1 w1 ⟨A1, c1, qs, s, rfl, hq, ho, _, _, hb1⟩
  have HO := Lib.hid ho
  have HR1 := Lib.hid (HR.out.below hb1 (fun _ _ h => h) (fun _ _ h => h))
  have HB1 := Lib.hid hb1
  have z1 := hb1.size
  clear ho hb1
  go_wp2_with (first | (at_builtin; go_must (refine wpList_appBig _ rfl (.tmp 13) (.tmp 14) 23 rfl 27 (.agg #[.int .i64 0, .int .i64 0, .slice none 0 0, .slice none 0 0, .slice none 0 0]) 5 88 Try.underlying23 Try.infoF rfl (by decide) w.heap.size (.slice A1 qs.length c1) qs.length _ rfl HO.out.1 B m d _ rfl HR1.out.2.1 (frCells_one rs) (by simp only [maxLen]; omega) (by omega) z1 ?_; intro v3 w3 ho3 hg3 ha3; obtain ⟨A3, c3, hv3, hof3, hfr3, hcc3⟩ := film_more HO.out HR1.out ho3 hg3 ha3; subst hv3)))
  have B3 := HB1.out.grown hg3 z1 (fun j hj => (World.ownsRow.lt HO.out.1 j hj).1)
  have HX := Lib.hid hfr3
  have HB3 := Lib.hid B3
  have hnn : qs.length + m ≤ 100000000000000 := by omega
  have HW3 := Lib.hid (HW.out.ext B3)
  clear ho3 hg3 ha3 hof3 hfr3 B3 hcc3
  obtain ⟨E, hE⟩ : ∃ E, pullE (frs (qs ++ rs)) ws = E := ⟨_, rfl⟩
  obtain ⟨F, hF⟩ : ∃ F, pullF (frs (qs ++ rs)) ws = F := ⟨_, rfl⟩
  have hFl : F.length ≤ k := by
    have := HW.out.1
    rw [← hF]; unfold pullF pullL; split <;> simp <;> omega
  have HP : Hid (Calls Try.prog 13 #[.slice A3 (qs.length + m) c3, .slice C k e] w3 (RetPl w3 E F)) := Lib.hid (by
    have := cad_Pull A3 (qs.length + m) c3 (qs ++ rs) C k e ws w3 HX.out HW3.out hnn hk
    rwa [hE, hF] at this)
  have HFl := Lib.hid hFl
  have HE := Lib.hid hE
  have HF2 := Lib.hid hF
  clear hE hF hFl
  refine HP.out.mono ?_
  rintro e4 w4 ⟨A4, n4, c4, ys4, rfl, hf4, hfr4, hb4, _⟩
  have HX4 := Lib.hid (HX.out.ext hb4)
  have HW4 := Lib.hid (HW3.out.ext hb4)
  have HB4 := Lib.hid (HB3.out.trans (hb4.mono HB3.out.size))
  have H4 := Lib.hid hf4
  have H4e := Lib.hid hfr4
  clear hf4 hfr4
  have HP5 : Hid (Calls Try.prog 14 #[.slice A3 (qs.length + m) c3, .slice C k e] w4 (RetPl w4 E F)) := Lib.hid (by
    have := ref_Pull A3 (qs.length + m) c3 (qs ++ rs) C k e ws w4 HX4.out HW4.out hnn hk
    rwa [HE.out, HF2.out] at this)
  go_wp2_with fail
  refine HP5.out.mono ?_
  rintro e5 w5 ⟨A5, n5, c5, ys5, rfl, hf5, hfr5, hb5, _⟩
  have HY4 := Lib.hid (H4.out.ext hb5)
  have HB5 := Lib.hid (HB4.out.trans (hb5.mono HB4.out.size))
  have hn4 : n4 ≤ 100000000000000 := by
    have h1 := H4.out.1
    have h2 := congrArg List.length H4e.out
    have h3 := HFl.out
    simp only [frs, List.length_map] at h2
    omega
  have HQ := Lib.hid (ref_Frames_eq A4 A5 n4 c4 n5 c5 ys4 ys5 w5 HY4.out hf5 (H4e.out.trans hfr5.symm) hn4)
  clear hf5 hfr5
  go_wp2_with fail
  refine HQ.out.mono ?_
  rintro e6 w6 ⟨rfl, hb6⟩
  have HB6 := Lib.hid (HB5.out.trans (hb6.mono HB5.out.size))
  go_wp2_with fail
  refine (cad_awake w6).mono ?_
  rintro e7 w7 ⟨rfl, hb7⟩
  have hb := HB6.out.trans (hb7.mono HB6.out.size)
  clear hb4 hb5 hb6
  go_wp2_with fail
  go_ret
  exact ⟨rfl, hb⟩
end Go.Proofs.Ytclainbjidajbaa
