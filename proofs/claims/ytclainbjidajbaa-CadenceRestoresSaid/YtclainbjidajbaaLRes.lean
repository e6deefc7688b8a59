/- CadenceRestores. -/
import Derived.Test.YtclainbjidajbaaLPul
import Derived.Test.YtclainbjidajbaaRsR
import Derived.Test.YtclainbjidajbaaRsP
namespace Go.Proofs.Ytclainbjidajbaa
open Go.RowKit

theorem Rw.take {p : Nat → Prop} {w : World} {A A' : Option Addr} {n n' size : Nat} {xs : List Value} (h : Rw p w A n size xs) (hn : n' ≤ n) (hA : ∀ b off, A = some ⟨b, off, none⟩ → A' = A) : Rw p w A' n' size (xs.take (n' * size)) := by
  refine ⟨by rw [List.length_take, h.1]; exact Nat.min_eq_left (Nat.mul_le_mul_right _ hn), fun h0 => ?_⟩
  obtain ⟨b, off, e, h1, h2, h3⟩ := h.2 (by omega)
  refine ⟨b, off, (hA _ _ e).trans e, h1, h2, fun j u hu => h3 j u ?_⟩
  rw [List.getElem?_take] at hu
  split at hu
  · exact hu
  · cases hu
theorem frCells_take : ∀ (xs : List FA) (k : Nat), frCells (xs.take k) = (frCells xs).take (k * 5)
  | [], k => by simp [frCells]
  | x :: xs, 0 => by simp [frCells]
  | x :: xs, k + 1 => by
    have := frCells_take xs k
    rw [show (k + 1) * 5 = k * 5 + 5 by omega]
    simp only [frCells, List.flatMap_cons, List.take_succ_cons, FA.cells, List.cons_append, List.nil_append] at this ⊢
    rw [this]
theorem wvCells_take : ∀ (xs : List (Int × Int)) (k : Nat), wvCells (xs.take k) = (wvCells xs).take (k * 2)
  | [], k => by simp [wvCells]
  | x :: xs, 0 => by simp [wvCells]
  | x :: xs, k + 1 => by
    have := wvCells_take xs k
    rw [show (k + 1) * 2 = k * 2 + 2 by omega]
    simp only [wvCells, List.flatMap_cons, List.take_succ_cons, List.cons_append, List.nil_append] at this ⊢
    rw [this]
theorem Frs.take {p q : Nat → Prop} {w : World} {A A' : Option Addr} {n n' : Nat} {xs : List FA} (h : Frs p q w A n xs) (hn : n' ≤ n) (hA : ∀ b off, A = some ⟨b, off, none⟩ → A' = A) : Frs p q w A' n' (xs.take n') :=
  ⟨by rw [List.length_take, h.1]; omega, by rw [frCells_take]; exact h.2.1.take hn hA, fun x hx => h.2.2 x (List.mem_of_mem_take hx)⟩
theorem Wvs.take {p : Nat → Prop} {w : World} {A A' : Option Addr} {n n' : Nat} {xs : List (Int × Int)} (h : Wvs p w A n xs) (hn : n' ≤ n) (hA : ∀ b off, A = some ⟨b, off, none⟩ → A' = A) : Wvs p w A' n' (xs.take n') :=
  ⟨by rw [List.length_take, h.1]; omega, by rw [wvCells_take]; exact h.2.take hn hA⟩
theorem restF_len {fs F : List Fr} {ws : List (Int × Int)} (hF : restF fs ws = F) : F.length ≤ 100000000000000 := by
  rw [← hF]
  unfold restF
  split
  · rename_i h
    have hok : ws.all okR = true := by
      cases hb : ws.all okR with
      | true => rfl
      | false =>
        unfold restE at h
        rw [hb] at h
        split at h
        · omega
        · split at h
          · omega
          · rw [if_pos rfl] at h; omega
    have := topF_bd (List.all_eq_true.1 hok)
    simp only [restL, List.length_map, List.length_range]
    omega
  · simp
theorem frs_n {p q : Nat → Prop} {w : World} {A : Option Addr} {n : Nat} {ys : List FA} {F : List Fr} (h : Frs p q w A n ys) (he : frs ys = F) (hF : F.length ≤ 100000000000000) : n ≤ 100000000000000 := by
  have h2 := congrArg List.length he
  simp only [frs, List.length_map] at h2
  have := h.1
  omega
set_option maxRecDepth 100000 in
set_option maxHeartbeats 4000000 in
theorem law_CadenceRestores {p : Nat → Prop} (A : Option Addr) (n c : Nat) (L : List Int) (B : Option Addr) (m d : Nat) (rs : List FA) (C : Option Addr) (k e : Nat) (ws : List (Int × Int)) (w : World) (hi : Its .i64 p w A n L) (hok : IntsOk L) (hR : Frs (fun _ => True) (fun _ => True) w B m rs) (hW : Wvs (fun _ => True) w C k ws) (hm : m * 88 ≤ 140737488351232) (hk : k ≤ 100000000000000) (hke : k ≤ e) :
    Calls Try.prog 5 #[.slice A n c, .slice B m d, .slice C k e] w fun e w' => e = .returned (.bool true) ∧ Below w.heap.size w w' := by
  have HR := Lib.hid (hR.mono (p' := (· < w.heap.size)) (q' := (· < w.heap.size)) (fun b h _ => h) (fun b h _ => h))
  have HW := Lib.hid hW
  have HF := Lib.hid (film_Frames A n c L 6 w hi hok (by omega))
  clear hi hok hR hW
  go_enter Try.func5, Try.ntmps5
  go_wp2_with fail
  refine HF.out.mono ?_
  rintro e1 w1 ⟨A1, c1, qs, s, rfl, hq, ho, _, _, hb1⟩
  have HO := Lib.hid ho
  have HR1 := Lib.hid (HR.out.below hb1 (fun _ _ h => h) (fun _ _ h => h))
  have HB1 := Lib.hid hb1
  have z1 := hb1.size
  clear ho hb1
  by_cases hlt : qs.length + m < k
  · have d1 : decide ((qs.length : Int) + (m : Int) < (k : Int)) = true := decide_eq_true (by omega)
    go_wp2_with (first | (at_builtin; go_must (refine wpList_appBig _ rfl (.tmp 17) (.tmp 18) 23 rfl 27 (.agg #[.int .i64 0, .int .i64 0, .slice none 0 0, .slice none 0 0, .slice none 0 0]) 5 88 Try.underlying23 Try.infoF rfl (by decide) w.heap.size (.slice A1 qs.length c1) qs.length _ rfl HO.out.1 B m d _ rfl HR1.out.2.1 (frCells_one rs) (by simp only [maxLen]; omega) (by omega) z1 ?_; intro v3 w3 ho3 hg3 ha3; obtain ⟨A3, c3, hv3, hof3, hfr3, hcc3⟩ := film_more HO.out HR1.out ho3 hg3 ha3; subst hv3)))
    have B3 := HB1.out.grown hg3 z1 (fun j hj => (World.ownsRow.lt HO.out.1 j hj).1)
    have HX := Lib.hid hfr3
    have HB3 := Lib.hid B3
    have hnn : qs.length + m ≤ 100000000000000 := by omega
    have HW3 := Lib.hid (HW.out.ext B3)
    clear ho3 hg3 ha3 hof3 hfr3 B3
    have HY := Lib.hid (Frs.take HX.out (show qs.length+m ≤ qs.length + m by omega) (fun _ _ _ => rfl))
    have HW4 := Lib.hid (Wvs.take HW3.out (show qs.length+m ≤ k by omega) (fun _ _ _ => rfl))
    obtain ⟨ws2, hws2⟩ : ∃ ws2, ws.take (qs.length+m) = ws2 := ⟨_, rfl⟩
    rw [hws2] at HW4
    obtain ⟨E, hE⟩ : ∃ E, restE (frs ((qs ++ rs).take (qs.length+m))) ws2 = E := ⟨_, rfl⟩
    obtain ⟨F, hF⟩ : ∃ F, restF (frs ((qs ++ rs).take (qs.length+m))) ws2 = F := ⟨_, rfl⟩
    obtain ⟨E', hE'⟩ : ∃ E', restE (frs (qs ++ rs)) ws2 = E' := ⟨_, rfl⟩
    obtain ⟨F', hF'⟩ : ∃ F', restF (frs (qs ++ rs)) ws2 = F' := ⟨_, rfl⟩
    have HFL := Lib.hid (restF_len hF)
    have HFL' := Lib.hid (restF_len hF')
    have HP1 : Hid (∀ w', Below w3.heap.size w3 w' → Calls Try.prog 16 #[.slice A3 (qs.length+m) c3, .slice C (qs.length+m) e] w' (RetPl w' E F)) := Lib.hid (fun w' hb => by
      have := cad_Restore A3 (qs.length+m) c3 _ C (qs.length+m) e ws2 w' (HY.out.ext hb) (HW4.out.ext hb) (by omega) (by omega)
      rwa [hE, hF] at this)
    have HP2 : Hid (∀ w', Below w3.heap.size w3 w' → Calls Try.prog 17 #[.slice A3 (qs.length+m) c3, .slice C (qs.length+m) e] w' (RetPl w' E F)) := Lib.hid (fun w' hb => by
      have := ref_Restore A3 (qs.length+m) c3 _ C (qs.length+m) e ws2 w' (HY.out.ext hb) (HW4.out.ext hb) (by omega) (by omega)
      rwa [hE, hF] at this)
    have HP3 : Hid (∀ w', Below w3.heap.size w3 w' → Calls Try.prog 16 #[.slice A3 (qs.length + m) c3, .slice C (qs.length+m) e] w' (RetPl w' E' F')) := Lib.hid (fun w' hb => by
      have := cad_Restore A3 (qs.length + m) c3 _ C (qs.length+m) e ws2 w' (HX.out.ext hb) (HW4.out.ext hb) (by omega) (by omega)
      rwa [hE', hF'] at this)
    have HP4 : Hid (∀ w', Below w3.heap.size w3 w' → Calls Try.prog 17 #[.slice A3 (qs.length + m) c3, .slice C (qs.length+m) e] w' (RetPl w' E' F')) := Lib.hid (fun w' hb => by
      have := ref_Restore A3 (qs.length + m) c3 _ C (qs.length+m) e ws2 w' (HX.out.ext hb) (HW4.out.ext hb) (by omega) (by omega)
      rwa [hE', hF'] at this)
    clear hE hF hE' hF'
    refine (HP1.out _ (Below.refl _ _)).mono ?_
    rintro e4 w4 ⟨A4, n4, c4, ys4, rfl, hf4, hfr4, hb4, _⟩
    have H4 := Lib.hid hf4
    have E4 := Lib.hid hfr4
    have B4 := Lib.hid hb4
    clear hf4 hfr4 hb4
    go_wp2_with fail
    refine (HP2.out _ B4.out).mono ?_
    rintro e5 w5 ⟨A5, n5, c5, ys5, rfl, hf5, hfr5, hb5, _⟩
    have H5 := Lib.hid hf5
    have E5 := Lib.hid hfr5
    have H45 := Lib.hid (H4.out.ext hb5)
    have B5 := Lib.hid (B4.out.trans (hb5.mono B4.out.size))
    clear hf5 hfr5 hb5
    go_wp2_with fail
    refine (HP3.out _ B5.out).mono ?_
    rintro e6 w6 ⟨A6, n6, c6, ys6, rfl, hf6, hfr6, hb6, _⟩
    have H6 := Lib.hid hf6
    have E6 := Lib.hid hfr6
    have H46 := Lib.hid (H45.out.ext hb6)
    have H56 := Lib.hid (H5.out.ext hb6)
    have B6 := Lib.hid (B5.out.trans (hb6.mono B5.out.size))
    clear hf6 hfr6 hb6
    go_wp2_with fail
    refine (HP4.out _ B6.out).mono ?_
    rintro e7 w7 ⟨A7, n7, c7, ys7, rfl, hf7, hfr7, hb7, _⟩
    have H7 := Lib.hid hf7
    have E7 := Lib.hid hfr7
    have H47 := Lib.hid (H46.out.ext hb7)
    have H57 := Lib.hid (H56.out.ext hb7)
    have H67 := Lib.hid (H6.out.ext hb7)
    have B7 := Lib.hid (B6.out.trans (hb7.mono B6.out.size))
    clear hf7 hfr7 hb7
    have HQ1 := Lib.hid (ref_Frames_eq A4 A5 n4 c4 n5 c5 ys4 ys5 w7 H47.out H57.out (E4.out.trans E5.out.symm) (frs_n H4.out E4.out HFL.out))
    have HQ2 := Lib.hid (fun w' (hb : Below w7.heap.size w7 w') => ref_Frames_eq A6 A7 n6 c6 n7 c7 ys6 ys7 w' (H67.out.ext hb) (H7.out.ext hb) (E6.out.trans E7.out.symm) (frs_n H6.out E6.out HFL'.out))
    go_wp2_with fail
    refine HQ1.out.mono ?_
    rintro e8 w8 ⟨rfl, hb8⟩
    have B78 := Lib.hid hb8
    have B8 := Lib.hid (B7.out.trans (hb8.mono B7.out.size))
    clear hb8
    go_wp2_with fail
    refine (HQ2.out _ B78.out).mono ?_
    rintro e9 w9 ⟨rfl, hb9⟩
    have B9 := Lib.hid (B8.out.trans (hb9.mono B8.out.size))
    clear hb9
    go_wp2_with fail
    refine (cad_awake w9).mono ?_
    rintro e10 w10 ⟨rfl, hb10⟩
    have hb := HB3.out.trans ((B9.out.trans (hb10.mono B9.out.size)).mono HB3.out.size)
    clear hb10
    go_wp2_with fail
    go_ret
    exact ⟨rfl, hb⟩
  · have d1 : decide ((qs.length : Int) + (m : Int) < (k : Int)) = false := decide_eq_false (by omega)
    go_wp2_with (first | (at_builtin; go_must (refine wpList_appBig _ rfl (.tmp 17) (.tmp 18) 23 rfl 27 (.agg #[.int .i64 0, .int .i64 0, .slice none 0 0, .slice none 0 0, .slice none 0 0]) 5 88 Try.underlying23 Try.infoF rfl (by decide) w.heap.size (.slice A1 qs.length c1) qs.length _ rfl HO.out.1 B m d _ rfl HR1.out.2.1 (frCells_one rs) (by simp only [maxLen]; omega) (by omega) z1 ?_; intro v3 w3 ho3 hg3 ha3; obtain ⟨A3, c3, hv3, hof3, hfr3, hcc3⟩ := film_more HO.out HR1.out ho3 hg3 ha3; subst hv3)))
    have B3 := HB1.out.grown hg3 z1 (fun j hj => (World.ownsRow.lt HO.out.1 j hj).1)
    have HX := Lib.hid hfr3
    have HB3 := Lib.hid B3
    have hnn : qs.length + m ≤ 100000000000000 := by omega
    have HW3 := Lib.hid (HW.out.ext B3)
    clear ho3 hg3 ha3 hof3 hfr3 B3
    have HY := Lib.hid (Frs.take HX.out (show k ≤ qs.length + m by omega) (fun _ _ _ => rfl))
    have HW4 := Lib.hid (Wvs.take HW3.out (show k ≤ k by omega) (fun _ _ _ => rfl))
    obtain ⟨ws2, hws2⟩ : ∃ ws2, ws.take (k) = ws2 := ⟨_, rfl⟩
    rw [hws2] at HW4
    obtain ⟨E, hE⟩ : ∃ E, restE (frs ((qs ++ rs).take (k))) ws2 = E := ⟨_, rfl⟩
    obtain ⟨F, hF⟩ : ∃ F, restF (frs ((qs ++ rs).take (k))) ws2 = F := ⟨_, rfl⟩
    obtain ⟨E', hE'⟩ : ∃ E', restE (frs (qs ++ rs)) ws2 = E' := ⟨_, rfl⟩
    obtain ⟨F', hF'⟩ : ∃ F', restF (frs (qs ++ rs)) ws2 = F' := ⟨_, rfl⟩
    have HFL := Lib.hid (restF_len hF)
    have HFL' := Lib.hid (restF_len hF')
    have HP1 : Hid (∀ w', Below w3.heap.size w3 w' → Calls Try.prog 16 #[.slice A3 (k) c3, .slice C (k) e] w' (RetPl w' E F)) := Lib.hid (fun w' hb => by
      have := cad_Restore A3 (k) c3 _ C (k) e ws2 w' (HY.out.ext hb) (HW4.out.ext hb) (by omega) (by omega)
      rwa [hE, hF] at this)
    have HP2 : Hid (∀ w', Below w3.heap.size w3 w' → Calls Try.prog 17 #[.slice A3 (k) c3, .slice C (k) e] w' (RetPl w' E F)) := Lib.hid (fun w' hb => by
      have := ref_Restore A3 (k) c3 _ C (k) e ws2 w' (HY.out.ext hb) (HW4.out.ext hb) (by omega) (by omega)
      rwa [hE, hF] at this)
    have HP3 : Hid (∀ w', Below w3.heap.size w3 w' → Calls Try.prog 16 #[.slice A3 (qs.length + m) c3, .slice C (k) e] w' (RetPl w' E' F')) := Lib.hid (fun w' hb => by
      have := cad_Restore A3 (qs.length + m) c3 _ C (k) e ws2 w' (HX.out.ext hb) (HW4.out.ext hb) (by omega) (by omega)
      rwa [hE', hF'] at this)
    have HP4 : Hid (∀ w', Below w3.heap.size w3 w' → Calls Try.prog 17 #[.slice A3 (qs.length + m) c3, .slice C (k) e] w' (RetPl w' E' F')) := Lib.hid (fun w' hb => by
      have := ref_Restore A3 (qs.length + m) c3 _ C (k) e ws2 w' (HX.out.ext hb) (HW4.out.ext hb) (by omega) (by omega)
      rwa [hE', hF'] at this)
    clear hE hF hE' hF'
    refine (HP1.out _ (Below.refl _ _)).mono ?_
    rintro e4 w4 ⟨A4, n4, c4, ys4, rfl, hf4, hfr4, hb4, _⟩
    have H4 := Lib.hid hf4
    have E4 := Lib.hid hfr4
    have B4 := Lib.hid hb4
    clear hf4 hfr4 hb4
    go_wp2_with fail
    refine (HP2.out _ B4.out).mono ?_
    rintro e5 w5 ⟨A5, n5, c5, ys5, rfl, hf5, hfr5, hb5, _⟩
    have H5 := Lib.hid hf5
    have E5 := Lib.hid hfr5
    have H45 := Lib.hid (H4.out.ext hb5)
    have B5 := Lib.hid (B4.out.trans (hb5.mono B4.out.size))
    clear hf5 hfr5 hb5
    go_wp2_with fail
    refine (HP3.out _ B5.out).mono ?_
    rintro e6 w6 ⟨A6, n6, c6, ys6, rfl, hf6, hfr6, hb6, _⟩
    have H6 := Lib.hid hf6
    have E6 := Lib.hid hfr6
    have H46 := Lib.hid (H45.out.ext hb6)
    have H56 := Lib.hid (H5.out.ext hb6)
    have B6 := Lib.hid (B5.out.trans (hb6.mono B5.out.size))
    clear hf6 hfr6 hb6
    go_wp2_with fail
    refine (HP4.out _ B6.out).mono ?_
    rintro e7 w7 ⟨A7, n7, c7, ys7, rfl, hf7, hfr7, hb7, _⟩
    have H7 := Lib.hid hf7
    have E7 := Lib.hid hfr7
    have H47 := Lib.hid (H46.out.ext hb7)
    have H57 := Lib.hid (H56.out.ext hb7)
    have H67 := Lib.hid (H6.out.ext hb7)
    have B7 := Lib.hid (B6.out.trans (hb7.mono B6.out.size))
    clear hf7 hfr7 hb7
    have HQ1 := Lib.hid (ref_Frames_eq A4 A5 n4 c4 n5 c5 ys4 ys5 w7 H47.out H57.out (E4.out.trans E5.out.symm) (frs_n H4.out E4.out HFL.out))
    have HQ2 := Lib.hid (fun w' (hb : Below w7.heap.size w7 w') => ref_Frames_eq A6 A7 n6 c6 n7 c7 ys6 ys7 w' (H67.out.ext hb) (H7.out.ext hb) (E6.out.trans E7.out.symm) (frs_n H6.out E6.out HFL'.out))
    go_wp2_with fail
    refine HQ1.out.mono ?_
    rintro e8 w8 ⟨rfl, hb8⟩
    have B78 := Lib.hid hb8
    have B8 := Lib.hid (B7.out.trans (hb8.mono B7.out.size))
    clear hb8
    go_wp2_with fail
    refine (HQ2.out _ B78.out).mono ?_
    rintro e9 w9 ⟨rfl, hb9⟩
    have B9 := Lib.hid (B8.out.trans (hb9.mono B8.out.size))
    clear hb9
    go_wp2_with fail
    refine (cad_awake w9).mono ?_
    rintro e10 w10 ⟨rfl, hb10⟩
    have hb := HB3.out.trans ((B9.out.trans (hb10.mono B9.out.size)).mono HB3.out.size)
    clear hb10
    go_wp2_with fail
    go_ret
    exact ⟨rfl, hb⟩
end Go.Proofs.Ytclainbjidajbaa
