/- PesCuts. -/
import Derived.Test.YtojfaonlgkicfaaCutR
import Derived.Test.YtojfaonlgkicfaaGiven
import Derived.Test.YtojfaonlgkicfaaPesAwake
import Derived.Deep.CutBlock
namespace Go.Proofs.Ytojfaonlgkicfaa
open Go.RowKit

theorem Pks.at_ {p q : Nat → Prop} {w : World} {A : Option Addr} {n : Nat} {ps : List Pk} (h : Pks p q w A n ps) {k : Nat} (hk : k < n) :
    ∃ b off x, A = some ⟨b, off, none⟩ ∧ b < w.heap.size ∧ ps[k]? = some x ∧ Byt q w x.A x.n x.l ∧ (w.cell? ⟨b, off + k * 4, none⟩ = some (.int .i64 x.s) ∧ w.cell? ⟨b, off + k * 4 + 1, none⟩ = some (.int .i64 x.p) ∧ w.cell? ⟨b, off + k * 4 + 2, none⟩ = some (.int .i64 x.d) ∧ w.cell? ⟨b, off + k * 4 + 3, none⟩ = some (.slice x.A x.n x.c)) := by
  obtain ⟨h1, h2, h3⟩ := h
  obtain ⟨b, off, hA, _, hb, hc⟩ := h2.addr (by omega)
  have hx : ps[k]? = some (ps[k]'(by omega)) := List.getElem?_eq_getElem _
  obtain ⟨e0, e1, e2, e3⟩ := pkCells_at hx
  have c0 := hc _ _ e0
  have c1 := hc _ _ e1
  have c2 := hc _ _ e2
  have c3 := hc _ _ e3
  rw [← Nat.add_assoc] at c1 c2 c3
  exact ⟨b, off, _, hA, hb, hx, h3 _ (List.getElem_mem _), c0, c1, c2, c3⟩
theorem Pks.ext {p q : Nat → Prop} {w w' : World} {A : Option Addr} {n : Nat} {ps : List Pk} (h : Pks p q w A n ps) (hb : Below w.heap.size w w') : Pks p q w' A n ps := ⟨h.1, h.2.1.ext hb, fun x hx => (h.2.2 x hx).ext hb⟩
theorem cutQ_l (s pts dts : Int) (l : List Int) (k : Nat) (idx : List Nat) : (cutQ s pts dts l k idx).map (fun x => x.2.2.2) = idx.map (pcL l k) := by
  cases idx with
  | nil => rfl
  | cons a t => simp [cutQ]
theorem fold_tail : ∀ (t : List Pk) (r : List Int × List Int), (∀ x ∈ t, x.p = -1) → (t.foldl stepJ r).2 = r.2
  | [], _, _ => rfl
  | x :: t, r, h => by
    rw [List.foldl_cons, fold_tail t _ (fun y hy => h y (List.mem_cons_of_mem _ hy))]
    simp [stepJ, h x (List.mem_cons_self ..)]
theorem joinF_cut {s pts dts : Int} {l : List Int} {k : Nat} {ks : List Pk} (hk : 1 ≤ k) (h : ks.map pkv = cutL s pts dts l k) : (joinF ks).1 = l ∧ (joinF ks).2 = if pts = -1 then [] else [0] := by
  have h0 := h
  unfold cutL at h
  constructor
  · have e := congrArg (List.map (fun x : Int × Int × Int × List Int => x.2.2.2)) h
    rw [cutQ_l, List.map_map] at e
    have e2 : ks.map Pk.l = (List.range (pcN l.length k)).map (pcL l k) := e
    rw [joinF_fst, show ks.flatMap Pk.l = (ks.map Pk.l).flatten from List.flatMap_def .., e2, show ((List.range (pcN l.length k)).map (pcL l k)).flatten = (List.range (pcN l.length k)).flatMap (fun i => pcL l k i) from (List.flatMap_def ..).symm, pieces_all, List.take_of_length_le]
    rcases Nat.lt_or_ge (pcN l.length k * k) l.length with hx | hx
    · exfalso
      have hp := pcN_pos l.length k
      have := (pcN_next (n := l.length) hk (pcN l.length k - 1)).2 (by rw [show pcN l.length k - 1 + 1 = pcN l.length k by omega]; exact hx)
      omega
    · exact hx
  · have hp := pcN_pos l.length k
    obtain ⟨m, hm⟩ : ∃ m, pcN l.length k = m + 1 := ⟨pcN l.length k - 1, by omega⟩
    rw [hm, List.range_succ_eq_map] at h
    cases ks with
    | nil => simp [cutQ] at h
    | cons x t =>
      simp only [List.map_cons, cutQ, List.cons.injEq] at h
      obtain ⟨hx, ht⟩ := h
      simp only [pkv, Prod.mk.injEq] at hx
      unfold joinF
      rw [List.foldl_cons, fold_tail t]
      · simp [stepJ, hx.2.1]
      · intro y hy
        have : pkv y ∈ t.map pkv := List.mem_map_of_mem hy
        rw [ht] at this
        obtain ⟨z, _, hz⟩ := List.mem_map.1 this
        have := congrArg (fun x : Int × Int × Int × List Int => x.2.1) hz
        exact this.symm
theorem valid_pts {s p d : Int} (hv : validP s p d = true) : -1 ≤ p := by
  simp only [validP, Bool.and_eq_true, decide_eq_true_eq] at hv
  omega

set_option maxRecDepth 100000 in
set_option maxHeartbeats 8000000 in
theorem law_PesCuts_no (s pts dts : Int) (A : Option Addr) (n c : Nat) (k : Int) (w : World) (hno : k < 1 ∨ 60000 < k ∨ validP s pts dts = false) :
    Calls Try.prog 5 #[.int .i64 s, .slice A n c, .int .i64 pts, .int .i64 dts, .int .i64 k] w fun e w' => e = .returned (.bool true) ∧ Below w.heap.size w w' := by
  have HC := Lib.hid (pes_Cut_no s pts dts A n c k w hno)
  have HD := Lib.hid (fun w' => ref_Cut_no s pts dts A n c k w' hno)
  clear hno
  by_cases hbig : 3000 < n
  · have d1 : decide ((3000 : Int) < (n : Int)) = true := decide_eq_true (by omega)
    go_enter Try.func5, Try.ntmps5
    go_wp2_with fail
    go_ret
    exact ⟨rfl, Below.refl _ _⟩
  · have d1 : decide ((3000 : Int) < (n : Int)) = false := decide_eq_false (by omega)
    go_enter Try.func5, Try.ntmps5
    go_wp2_with fail
    refine HC.out.mono ?_
    rintro e w1 ⟨A1, n1, c1, ks, rfl, hpk, hkv, hb1⟩
    have hks : ks = [] := by
      cases ks with
      | nil => rfl
      | cons a t => simp at hkv
    have hn1 : n1 = 0 := by rw [← hpk.1, hks]; rfl
    subst hn1
    have HB1 := Lib.hid hb1
    clear hpk hkv hks hb1
    go_wp2_with fail
    refine (HD.out _).mono ?_
    rintro e w2 ⟨rfl, hb2⟩
    have HB2 := Lib.hid (HB1.out.trans (hb2.mono HB1.out.size))
    clear hb2
    go_wp2_with fail
    go_loopw [15] (fun i wr => i = .int .i64 0 ∧ wr = w2) (fun _ _ => 0)
    case atStart => exact ⟨rfl, rfl⟩
    case round =>
      obtain ⟨rfl, rfl⟩ := hrel
      go_wp2_with fail
      refine (pes_awake wr).mono ?_
      rintro e w3 ⟨rfl, hb3⟩
      have hbb := HB2.out.trans (hb3.mono HB2.out.size)
      clear hb3
      go_wp2_with fail
      go_ret
      exact ⟨rfl, hbb⟩

set_option maxRecDepth 100000 in
set_option maxHeartbeats 8000000 in
theorem law_PesCuts_yes {p : Nat → Prop} (s pts dts : Int) (A : Option Addr) (n c : Nat) (l : List Int) (k : Nat) (w : World) (hA : Byt p w A n l) (hnc : n ≤ c) (hn : n ≤ 3000) (hk1 : 1 ≤ k) (hk2 : k ≤ 60000) (hv : validP s pts dts = true) :
    Calls Try.prog 5 #[.int .i64 s, .slice A n c, .int .i64 pts, .int .i64 dts, .int .i64 (k : Int)] w fun e w' => e = .returned (.bool true) ∧ Below w.heap.size w w' := by
  have hpts := valid_pts hv
  have HB0 := Lib.hid (hA.mono (q := (· < w.heap.size)) (fun b h _ => h))
  have HC := Lib.hid (pes_Cut_yes s pts dts A n c l k w hA hnc hn hk1 hk2 hv)
  have HD := Lib.hid (fun w' (h : Below w.heap.size w w') => ref_Cut_yes s pts dts A n c l k w' (HB0.out.below h (fun _ _ h => h)) hnc hn hk1 hk2 hv)
  have HLN := Lib.hid hA.len
  have d1 : decide ((3000 : Int) < (n : Int)) = false := decide_eq_false (by omega)
  clear hA hv
  go_enter Try.func5, Try.ntmps5
  go_wp2_with fail
  refine HC.out.mono ?_
  rintro e w1 ⟨A1, n1, c1, ks, rfl, hpk, hkv, hb1⟩
  have HB1 := Lib.hid hb1
  have HPK := Lib.hid hpk
  have HKV := Lib.hid hkv
  clear hpk hkv hb1
  go_wp2_with fail
  refine (HD.out _ HB1.out).mono ?_
  rintro e w2 ⟨A2, n2, c2, js, rfl, hpj, hjv, hb2⟩
  obtain rfl : n2 = n1 := by
    have h1 := congrArg List.length HKV.out
    have h2 := congrArg List.length hjv
    simp only [List.length_map] at h1 h2
    rw [← hpj.1, ← HPK.out.1, h1, h2]
  have HB2 := Lib.hid (HB1.out.trans (hb2.mono HB1.out.size))
  have HPK2 := Lib.hid (HPK.out.ext hb2)
  have HPJ := Lib.hid hpj
  have HJV := Lib.hid (HKV.out.trans hjv.symm)
  have tnn : ((n2 : Int) != (n2 : Int)) = false := by simp
  have hn2 : n2 ≤ 100000 := by
    have h1 := congrArg List.length HKV.out
    have h2 := HPK.out.1
    have : (cutL s pts dts l k).length = pcN l.length k := by
      have e := congrArg List.length (cutQ_l s pts dts l k (List.range (pcN l.length k)))
      simpa [cutL] using e
    have h3 := pcN_le (n := l.length) hk1
    have h4 := HLN.out
    simp only [List.length_map] at h1
    omega
  clear hpj hjv hb2
  go_wp2_with fail
  go_loopw [15] (fun i wr => ∃ j : Nat, j ≤ n2 ∧ i = .int .i64 (j : Int) ∧ Below w2.heap.size w2 wr) (fun i _ => n2 - (intOf i).toNat)
  case atStart => exact ⟨0, Nat.zero_le _, rfl, Below.refl _ _⟩
  case round =>
    obtain ⟨j, hj, rfl, hbr⟩ := hrel
    have HBR := Lib.hid hbr
    clear hbr
    by_cases hlt : j < n2
    · have d2 : decide ((j : Int) < (n2 : Int)) = true := decide_eq_true (by omega)
      obtain ⟨b, off, x, rfl, hbl, hx, hbx, hc0, hc1, hc2, hc3⟩ := (HPK2.out.ext HBR.out).at_ hlt
      obtain ⟨b2, off2, y, rfl, hbl2, hy, hby, hd0, hd1, hd2, hd3⟩ := (HPJ.out.ext HBR.out).at_ hlt
      have hxy : pkv x = pkv y := by
        have h1 : (ks.map pkv)[j]? = some (pkv x) := by simp [hx]
        have h2 : (js.map pkv)[j]? = some (pkv y) := by simp [hy]
        rw [HJV.out, h2] at h1
        injection h1 with h1
        exact h1.symm
      simp only [pkv, Prod.mk.injEq] at hxy
      obtain ⟨e1, e2, e3, e4⟩ := hxy
      have i0 : (0 : Int) ≤ (j : Int) := by omega
      have i1 : (j : Int) < (n2 : Int) := by omega
      rw [← e1] at hd0
      rw [← e2] at hd1
      rw [← e3] at hd2
      have HC9 := Lib.hid (law_same x.s x.p x.d x.A y.A x.n x.c y.n y.c x.l y.l wr.drew hbx.drew hby.drew e4)
      have HF : Hid (∀ w', Below wr.drew.heap.size wr.drew w' → (w'.cell? ⟨b, off + j * 4, none⟩ = some (.int .i64 x.s) ∧ w'.cell? ⟨b, off + j * 4 + 1, none⟩ = some (.int .i64 x.p) ∧ w'.cell? ⟨b, off + j * 4 + 2, none⟩ = some (.int .i64 x.d) ∧ w'.cell? ⟨b, off + j * 4 + 3, none⟩ = some (.slice x.A x.n x.c)) ∧ (w'.cell? ⟨b2, off2 + j * 4, none⟩ = some (.int .i64 x.s) ∧ w'.cell? ⟨b2, off2 + j * 4 + 1, none⟩ = some (.int .i64 x.p) ∧ w'.cell? ⟨b2, off2 + j * 4 + 2, none⟩ = some (.int .i64 x.d) ∧ w'.cell? ⟨b2, off2 + j * 4 + 3, none⟩ = some (.slice y.A y.n y.c))) := Lib.hid (fun w' hw =>
        have e : ∀ (bb o : Nat) (v : Value), bb < wr.heap.size → wr.cell? ⟨bb, o, none⟩ = some v → w'.cell? ⟨bb, o, none⟩ = some v := fun bb o v h1 h2 => (hw.cell (p := ⟨bb, o, none⟩) h1).trans h2
        ⟨⟨e _ _ _ hbl hc0, e _ _ _ hbl hc1, e _ _ _ hbl hc2, e _ _ _ hbl hc3⟩, e _ _ _ hbl2 hd0, e _ _ _ hbl2 hd1, e _ _ _ hbl2 hd2, e _ _ _ hbl2 hd3⟩)
      clear hx hy hbx hby hc0 hc1 hc2 hc3 hd0 hd1 hd2 hd3 e1 e2 e3 e4
      go_wp2_with fail
      go_region_held3 (fun w' => (w'.cell? ⟨b, off + j * 4, none⟩ = some (.int .i64 x.s) ∧ w'.cell? ⟨b, off + j * 4 + 1, none⟩ = some (.int .i64 x.p) ∧ w'.cell? ⟨b, off + j * 4 + 2, none⟩ = some (.int .i64 x.d) ∧ w'.cell? ⟨b, off + j * 4 + 3, none⟩ = some (.slice x.A x.n x.c)) ∧ (w'.cell? ⟨b2, off2 + j * 4, none⟩ = some (.int .i64 x.s) ∧ w'.cell? ⟨b2, off2 + j * 4 + 1, none⟩ = some (.int .i64 x.p) ∧ w'.cell? ⟨b2, off2 + j * 4 + 2, none⟩ = some (.int .i64 x.d) ∧ w'.cell? ⟨b2, off2 + j * 4 + 3, none⟩ = some (.slice y.A y.n y.c))) (first | with_reducible exact HF.out _ (Below.refl _ _) | with_reducible exact HF.out _ hb3 | go_keep)
        ((go_at_call 19; ((with_reducible refine HC9.out.mono ?_); rintro e w3 ⟨rfl, hb3⟩)))
      go_wp2_with fail
      go_roundw
      case rel => exact ⟨j + 1, by omega, by go_num, HBR.out.drew.trans (hb3.mono HBR.out.size)⟩
      case measure => (simp [intOf]; try omega)
    · have d2 : decide ((j : Int) < (n2 : Int)) = false := decide_eq_false (by omega)
      obtain ⟨hj1, hj2⟩ := joinF_cut hk1 HKV.out
      have HJ2 := Lib.hid hj2
      have HJC : Hid (Calls Try.prog 14 #[.slice A1 n2 c1] wr (RetJ wr (l, (joinF ks).2))) := Lib.hid (by
        have := pes_Join A1 n2 c1 ks wr (HPK2.out.ext HBR.out) hn2 (by rw [hj1, HLN.out]; omega)
        rw [show joinF ks = (l, (joinF ks).2) by rw [← hj1]] at this
        exact this)
      have HBX := Lib.hid (HB2.out.trans (HBR.out.mono HB2.out.size))
      clear hj1 hj2
      go_wp2_with fail
      refine HJC.out.mono ?_
      rintro e w3 ⟨A3, n3, c3, A4, n4, c4, rfl, hby3, hrw4, hb3⟩
      have HB3 := Lib.hid (HBX.out.trans (hb3.mono HBX.out.size))
      have HSB := Lib.hid (ref_SameBytes A3 A n3 n c3 c l l w3 hby3 (HB0.out.below HB3.out (fun _ _ h => h)))
      rw [decide_eq_true rfl] at HSB
      have HRW := Lib.hid hrw4
      clear hby3 hrw4 hb3
      go_wp2_with fail
      refine HSB.out.mono ?_
      rintro e w4 ⟨rfl, rfl⟩
      rw [HJ2.out] at HRW
      by_cases hp1 : pts = -1
      · have d3 : decide (pts < 0) = true := decide_eq_true (by omega)
        rw [if_pos hp1] at HRW
        have hn4 : n4 = 0 := by have := HRW.out.1; simp at this; omega
        subst hn4
        clear hp1
        go_wp2_with fail
        refine (pes_awake w3).mono ?_
        rintro e w5 ⟨rfl, hb5⟩
        have hbb := HB3.out.trans (hb5.mono HB3.out.size)
        clear hb5
        go_wp2_with fail
        go_ret
        exact ⟨rfl, hbb⟩
      · have d3 : decide (pts < 0) = false := decide_eq_false (by omega)
        rw [if_neg hp1] at HRW
        have hn4 : n4 = 1 := by have := HRW.out.1; simp at this; omega
        subst hn4
        obtain ⟨b4, o4, rfl, _, hbl4, hcl4⟩ := HRW.out.addr (by omega)
        have q0 := hcl4 0 (.int .i64 0) rfl
        rw [Nat.add_zero] at q0
        clear hp1 hcl4
        go_wp2_with fail
        refine (pes_awake w3).mono ?_
        rintro e w5 ⟨rfl, hb5⟩
        have hbb := HB3.out.trans (hb5.mono HB3.out.size)
        have q1 := (hb5.cell (p := ⟨b4, o4, none⟩) hbl4).trans q0
        clear hb5 q0
        go_wp2_with fail
        go_ret
        exact ⟨rfl, hbb⟩
theorem law_PesCuts {p : Nat → Prop} (s : Int) (A : Option Addr) (n c : Nat) (l : List Int) (pts dts k : Int) (w : World) (hA : Byt p w A n l) (hnc : n ≤ c) :
    Calls Try.prog 5 #[.int .i64 s, .slice A n c, .int .i64 pts, .int .i64 dts, .int .i64 k] w fun e w' => e = .returned (.bool true) ∧ Below w.heap.size w w' := by
  by_cases hno : k < 1 ∨ 60000 < k ∨ validP s pts dts = false
  · exact law_PesCuts_no s pts dts A n c k w hno
  · by_cases hn : n ≤ 3000
    · obtain ⟨K, rfl⟩ := Int.eq_ofNat_of_zero_le (show 0 ≤ k by omega)
      exact law_PesCuts_yes s pts dts A n c l K w hA hnc hn (by omega) (by omega) (by
        cases h : validP s pts dts with
        | true => rfl
        | false => exact absurd (.inr (.inr h)) hno)
    · have d1 : decide ((3000 : Int) < (n : Int)) = true := decide_eq_true (by omega)
      clear hno
      go_enter Try.func5, Try.ntmps5
      go_wp2_with fail
      go_ret
      exact ⟨rfl, Below.refl _ _⟩
end Go.Proofs.Ytojfaonlgkicfaa
