/- The contract of Flat of the reference. -/
import Derived.Test.YtaedpadkpclldaaBlank
import Derived.Test.YtaedpadkpclldaaWords2
namespace Go.Proofs.Ytaedpadkpclldaa
open Go.RowKit

set_option maxHeartbeats 2000000 in
theorem ref_Flat (x y a b c : Int) (hx0 : 0 ≤ x) (hx : x ≤ 64) (hy0 : 0 ≤ y) (hy : y ≤ 64) (w : World) :
    Calls Try.prog 29 #[.int .i64 x, .int .i64 y, .int .u8 a, .int .u8 b, .int .u8 c] w fun e w' =>
      ∃ v, e = .returned v ∧ Own3 w' w.heap.size v x y (List.replicate (x * y).toNat a) (List.replicate (x / 2 * (y / 2)).toNat b) (List.replicate (x / 2 * (y / 2)).toNat c) ∧ Below w.heap.size w w' := by
  go_enter Try.func29, Try.ntmps29
  go_wp2_with fail
  refine (ref_Blank x y hx0 hx hy0 hy _).mono ?_
  rintro e w1 ⟨v, rfl, ⟨g1, g2, g3, rfl, k1, k2, k3, l1, l2, l3, n12, n13, n23⟩, hb1⟩
  have m1 := mul_bd (x := x) (y := y) (m := 64) hx0 hx hy0 hy
  have m2 := mul_bd (x := x / 2) (y := y / 2) (m := 64) (by omega) (by omega) (by omega) (by omega)
  simp only [List.length_replicate]
  simp at l1 l2 l3
  generalize hn : (x * y).toNat = n at *
  generalize hm : (x / 2 * (y / 2)).toNat = m at *
  have hnb : n ≤ 4096 := by omega
  have hmb : m ≤ 4096 := by omega
  have HN := Lib.hid hn
  have HM := Lib.hid hm
  clear m1 m2 hn hm
  have bR : Bx w1 w.heap.size 24 #[.int .i64 0, .int .i64 0, .slice none 0 0, .slice none 0 0, .slice none 0 0] := (Bx.new w _ _).ext hb1
  have B1 : Below w.heap.size w w1 := ((Below.refl _ w).alloc (by simp) _).trans (hb1.mono (by simp))
  have q1 := k1.lt
  have q2 := k2.lt
  have q3 := k3.lt
  have s1 := bR.lt
  go_wp2_with fail
  go_loopw [12] (fun i wr => ∃ (j : Nat) (l : List Int), j ≤ n ∧ i = .int .i64 j ∧ Below w.heap.size w wr ∧ Bx wr w1.heap.size 24 #[.int .i64 x, .int .i64 y, .slice (some ⟨g1, 0, none⟩) n n, .slice (some ⟨g2, 0, none⟩) m m, .slice (some ⟨g3, 0, none⟩) m m] ∧
      Bx wr w.heap.size 24 #[.int .i64 0, .int .i64 0, .slice none 0 0, .slice none 0 0, .slice none 0 0] ∧ Bk wr 5 g1 l ∧ l.length = n ∧ (∀ q, q < j → l[q]? = (List.replicate n a)[q]?) ∧ Bk wr 5 g2 (List.replicate m 0) ∧ Bk wr 5 g3 (List.replicate m 0)) (fun i _ => n - (intOf i).toNat)
  case atStart => exact ⟨0, _, Nat.zero_le _, rfl, B1.alloc B1.size _, Bx.new _ _ _, bR.alloc _, k1.alloc _, by simp, fun q hq => absurd hq (by omega), k2.alloc _, k3.alloc _⟩
  case round =>
    obtain ⟨j, l, hj, rfl, hbel, hbx, hbr, hB1, hl, hdone, hB2, hB3⟩ := hrel
    obtain ⟨f0, f1, f2, f3, f4⟩ := hbx.cells5
    by_cases hlt : j < n
    · obtain ⟨z, hz, hcz⟩ := hB1.cell_some (i := j) (by omega)
      have hfz := hB1.frozen j
      have HL := Lib.hid hl
      have HZ := Lib.hid hz
      clear hl hz
      go_wp2
      go_roundw
      case rel =>
        refine ⟨j + 1, _, by omega, by go_num, hbel.setCell (by simp; omega) _, hbx.far (by simp; omega) _, hbr.far (by simp; omega) _, hB1.set_ j _, by rw [List.length_set]; exact HL.out, fun q hq => ?_, hB2.far (Ne.symm n12) _, hB3.far (Ne.symm n13) _⟩
        exact set_upto HL.out hlt hdone (by simp [hlt]) hq
      case measure => simp [intOf]; omega
    · obtain rfl : j = n := by omega
      obtain rfl : l = List.replicate j a := all_upto hl (by simp) hdone
      clear hdone hl hlt hj
      obtain ⟨wo, rfl⟩ : ∃ wo : World, wo = wr := ⟨_, rfl⟩
      go_wp2
      clear f0 f1 f2 f3 f4
      go_loopw [13] (fun i wr => ∃ (k : Nat) (lu lv : List Int), k ≤ m ∧ i = .int .i64 k ∧ Below w.heap.size w wr ∧ Bx wr w1.heap.size 24 #[.int .i64 x, .int .i64 y, .slice (some ⟨g1, 0, none⟩) j j, .slice (some ⟨g2, 0, none⟩) m m, .slice (some ⟨g3, 0, none⟩) m m] ∧
        Bx wr w.heap.size 24 #[.int .i64 0, .int .i64 0, .slice none 0 0, .slice none 0 0, .slice none 0 0] ∧ Bk wr 5 g1 (List.replicate j a) ∧ Bk wr 5 g2 lu ∧ lu.length = m ∧ (∀ q, q < k → lu[q]? = (List.replicate m b)[q]?) ∧ Bk wr 5 g3 lv ∧ lv.length = m ∧ (∀ q, q < k → lv[q]? = (List.replicate m c)[q]?)) (fun i _ => m - (intOf i).toNat)
      case atStart => exact ⟨0, _, _, Nat.zero_le _, rfl, hbel, hbx, hbr, hB1, hB2, by simp, fun q hq => absurd hq (by omega), hB3, by simp, fun q hq => absurd hq (by omega)⟩
      case round =>
        clear hbel hbx hbr hB1 hB2 hB3
        obtain ⟨k, lu, lv, hk, rfl, hbel, hbx, hbr, hB1, hB2, hlu, hdu, hB3, hlv, hdv⟩ := hrel
        obtain ⟨f0, f1, f2, f3, f4⟩ := hbx.cells5
        by_cases hlt : k < m
        · obtain ⟨z2, hz2, hcz2⟩ := hB2.cell_some (i := k) (by omega)
          obtain ⟨z3, hz3, hcz3⟩ := hB3.cell_some (i := k) (by omega)
          have hfz2 := hB2.frozen k
          have hfz3 := hB3.frozen k
          have HU := Lib.hid hlu
          have HV := Lib.hid hlv
          have i0 : (0 : Int) ≤ (k : Int) := by omega
          have i1 : (k : Int) < (m : Int) := by omega
          clear hlu hlv hz2 hz3
          go_wp2
          go_region
          go_wp2
          go_roundw
          case rel =>
            refine ⟨k + 1, lu.set k b, lv.set k c, by omega, by go_num, ((hbel.setCell (by simp; omega) _).setCell (by simp; omega) _).drew, ((hbx.far (by simp; omega) _).far (by simp; omega) _).drew, ((hbr.far (by simp; omega) _).far (by simp; omega) _).drew,
              ((hB1.far n12 _).far n13 _).drew, ((hB2.set_ k _).far n23 _).drew, by rw [List.length_set]; exact HU.out, fun q hq => set_upto HU.out hlt hdu (by simp [hlt]) hq, ((hB3.far (Ne.symm n23) _).set_ k _).drew, by rw [List.length_set]; exact HV.out, fun q hq => set_upto HV.out hlt hdv (by simp [hlt]) hq⟩
          case measure => simp [intOf]; omega
        · obtain rfl : k = m := by omega
          obtain rfl : lu = List.replicate k b := all_upto hlu (by simp) hdu
          obtain rfl : lv = List.replicate k c := all_upto hlv (by simp) hdv
          have z0 := hbr.frozen 0
          have z1 := hbr.frozen 1
          have z2 := hbr.frozen 2
          have z3 := hbr.frozen 3
          have z4 := hbr.frozen 4
          obtain ⟨r0, r1, r2, r3, r4⟩ := hbr.cells5
          clear hlu hlv hdu hdv
          go_wp2
          refine bodyPost_ret (v := .agg #[.int .i64 x, .int .i64 y, .slice (some ⟨g1, 0, none⟩) j j, .slice (some ⟨g2, 0, none⟩) k k, .slice (some ⟨g3, 0, none⟩) k k]) (by simp only [results, Try.results29]; go_simp) rfl ⟨_, rfl, ?_, ?_⟩
          · rw [HN.out, HM.out]
            refine ⟨g1, g2, g3, by simp, ?_, ?_, ?_, by omega, by omega, by omega, n12, n13, n23⟩
            · repeat refine Bk.far ?_ (by simp; omega) _
              exact hB1
            · repeat refine Bk.far ?_ (by simp; omega) _
              exact hB2
            · repeat refine Bk.far ?_ (by simp; omega) _
              exact hB3
          · repeat refine Below.setCell ?_ (by simp) _
            exact hbel
end Go.Proofs.Ytaedpadkpclldaa
