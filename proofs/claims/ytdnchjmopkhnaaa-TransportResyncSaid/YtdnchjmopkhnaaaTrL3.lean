/- TransportScans. -/
import Derived.Test.YtdnchjmopkhnaaaTrSa
namespace Go.Proofs.Ytdnchjmopkhnaaa
open Go.RowKit

theorem df_at {p : Nat → Prop} {w : World} {A : Option Addr} {n : Nat} {ds : List (Nat × Nat)} (h : Rw p w A n 2 (dfCells ds)) (hl : ds.length = n) {k : Nat} (hk : k < n) :
    ∃ b off x, A = some ⟨b, off, none⟩ ∧ b < w.heap.size ∧ ds[k]? = some x ∧ w.cell? ⟨b, off + k * 2, none⟩ = some (.int .i64 (x.1 : Int)) ∧ w.cell? ⟨b, off + k * 2 + 1, none⟩ = some (.int .i64 (x.2 : Int)) := by
  obtain ⟨b, off, hA, _, hb, hc⟩ := h.addr (by omega)
  have hx : ds[k]? = some (ds[k]'(by omega)) := List.getElem?_eq_getElem _
  obtain ⟨e0, e1⟩ := dfCells_at hx
  have c0 := hc _ _ e0
  have c1 := hc _ _ e1
  rw [← Nat.add_assoc] at c1
  exact ⟨b, off, _, hA, hb, hx, c0, c1⟩

theorem scanF_len (b : List Int) : ∀ (n j f : Nat) (ps : List TP) (ds : List (Nat × Nat)), (scanF b n j f ps ds).1.length ≤ ps.length + (b.length - j) ∧ (scanF b n j f ps ds).2.length ≤ ds.length + (b.length - j) + 1
  | 0, j, f, ps, ds => by simp only [scanF]; omega
  | n + 1, j, f, ps, ds => by
    rw [scanF]
    by_cases hj : j < b.length
    · rw [if_pos hj]
      cases begF b j with
      | none =>
        have h := scanF_len b n (j + 1) f ps ds
        dsimp only
        omega
      | some p =>
        have h := scanF_len b n (j + 188) (j + 188) (ps ++ [p]) (if f < j then ds ++ [(f, j)] else ds)
        have h1 : (if f < j then ds ++ [(f, j)] else ds).length ≤ ds.length + 1 := by split <;> simp
        simp only [List.length_append, List.length_cons, List.length_nil] at h
        dsimp only
        omega
    · rw [if_neg hj]
      have h1 : (if f < b.length then ds ++ [(f, b.length)] else ds).length ≤ ds.length + 1 := by split <;> simp
      dsimp only
      omega
theorem scanL_len (b : List Int) : (scanL b).1.length ≤ b.length ∧ (scanL b).2.length ≤ b.length + 1 := by
  have h := scanF_len b (b.length + 1) 0 0 [] []
  simp only [List.length_nil] at h
  unfold scanL
  omega

set_option maxRecDepth 100000 in
set_option maxHeartbeats 2000000 in
theorem law_TransportScans (A : Option Addr) (n c : Nat) (l : List Int) (w : World) (hl : Byt (fun _ => True) w A n l) (hc : n ≤ c) :
    Calls Try.prog 5 #[.slice A n c] w fun e w' => e = .returned (.bool true) ∧ Below w.heap.size w w' := by
  by_cases h1 : 3000 < n
  · go_enter Try.func5, Try.ntmps5
    go_wp2_with fail
    go_ret
    exact ⟨rfl, Below.refl _ _⟩
  have hn : n ≤ 3000 := by omega
  have HL := Lib.hid hl
  clear hl h1
  go_enter Try.func5, Try.ntmps5
  go_wp2_with fail
  refine (tr_Scan A n c l w HL.out hc (by omega)).mono ?_
  rintro e w1 ⟨A1, n1, c1, A2, n2, c2, qs, ds, rfl, hp1, hr1, hl1, e1, e2, hb1⟩
  have HP1 := Lib.hid hp1
  have HR1 := Lib.hid hr1
  have HL1 := Lib.hid hl1
  have HE1 := Lib.hid e1
  have HE2 := Lib.hid e2
  clear hp1 hr1 hl1 e1 e2
  go_wp2_with fail
  refine (ref_Scan A n c l w1 (HL.out.ext hb1) hc (by omega)).mono ?_
  rintro e w2 ⟨A3, n3, c3, A4, n4, c4, qs', ds', rfl, hp2, hr2, hl2, e1, e2, hb2⟩
  have hdd : ds' = ds := e2.trans HE2.out.symm
  have hqq : datas qs = datas qs' := HE1.out.trans e1.symm
  subst hdd
  have hn4 : n4 = n2 := by rw [← hl2]; exact HL1.out
  subst hn4
  have HP2 := Lib.hid hp2
  have HR2 := Lib.hid hr2
  have HQ := Lib.hid hqq
  have B2 := hb1.trans (hb2.mono hb1.size)
  have HP1' := Lib.hid (HP1.out.ext hb2)
  have HR1' := Lib.hid (HR1.out.ext hb2)
  have hn1b : n1 ≤ 100000 := by
    have h1 := HP1.out.1
    have h3 := congrArg List.length HE1.out
    simp only [datas, List.length_map] at h3
    have h4 := (scanL_len l).1
    have h5 := HL.out.len
    omega
  have hn4b : n4 ≤ 5001 := by
    have h1 : ds'.length = n4 := HL1.out
    have h3 := congrArg List.length HE2.out
    have h4 := (scanL_len l).2
    have h5 := HL.out.len
    omega
  have tnn : ((n4 : Int) != (n4 : Int)) = false := by simp
  clear hp2 hr2 hl2 e1 e2 hqq hb1 hb2
  go_wp2_with fail
  refine (law_sameAll A1 A3 n1 c1 n3 c3 qs qs' w2 HP1'.out HP2.out HQ.out hn1b).mono ?_
  rintro e w3 ⟨rfl, hb3⟩
  have B3 := B2.trans (hb3.mono B2.size)
  have HR3 := Lib.hid (HR1'.out.ext hb3)
  have HR4 := Lib.hid (HR2.out.ext hb3)
  clear hb3 B2
  go_wp2_with fail
  go_loopw [7] (fun i wr => ∃ k : Nat, k ≤ n4 ∧ i = .int .i64 (k : Int) ∧ ∃ m, wr = w3.drewN m) (fun i _ => n4 - (intOf i).toNat)
  case atStart => exact ⟨0, Nat.zero_le _, rfl, 0, rfl⟩
  case round =>
    obtain ⟨k, hk, rfl, m, hwr⟩ := hrel
    have Bw : Below w.heap.size w wr := by rw [hwr]; exact bdrewN B3 m
    have HWR := Lib.hid hwr
    have r1 : Rw (w.heap.size ≤ ·) wr A2 n4 2 (dfCells ds') := by rw [hwr]; exact HR3.out.drewN m
    have r2 : Rw (w1.heap.size ≤ ·) wr A4 n4 2 (dfCells ds') := by rw [hwr]; exact HR4.out.drewN m
    clear hwr B3
    by_cases hlt : k < n4
    · obtain ⟨b, off, x, rfl, hbl, hx, hc1, hc2⟩ := df_at r1 HL1.out hlt
      obtain ⟨b2, off2, x2, rfl, hbl2, hx2, hd1, hd2⟩ := df_at r2 HL1.out hlt
      have hxx : x2 = x := by rw [hx] at hx2; injection hx2 with h; exact h.symm
      subst hxx
      obtain ⟨xa, xb⟩ := x2
      dsimp only at hc1 hc2 hd1 hd2
      have i0 : (0 : Int) ≤ (k : Int) := by omega
      have i1 : (k : Int) < (n4 : Int) := by omega
      have t1 : ((xa : Int) != (xa : Int)) = false := by simp
      clear hx hx2 r1 r2
      go_wp2_with fail
      go_quiet (fail)
      go_wp2_with fail
      go_roundw
      case rel => exact ⟨k + 1, by omega, by go_num, m + nq, by rw [HWR.out]; simp [World.drewN, Nat.add_assoc]⟩
      case measure => (simp [intOf]; try omega)
    · have hkn : k = n4 := by omega
      subst hkn
      go_wp2_with fail
      refine (law_awake _).mono ?_
      rintro e w5 ⟨rfl, hb5⟩
      go_wp2_with fail
      go_ret
      exact ⟨rfl, Bw.trans (hb5.mono Bw.size)⟩
end Go.Proofs.Ytdnchjmopkhnaaa
