/- The reference's Cut. -/
import Derived.Test.YtojfaonlgkicfaaCutN
import Derived.Test.YtojfaonlgkicfaaHeadR
namespace Go.Proofs.Ytojfaonlgkicfaa
open Go.RowKit

attribute [local go_sem ↓] run_min_mm

theorem Try.infoPR : (Try.prog.info? 29).map (fun i => (i.zero, i.size, i.bytes)) = some (some (.agg #[.int .i64 0, .int .i64 0, .int .i64 0, .slice none 0 0]), 4, 48) := by kernel_rfl
set_option maxRecDepth 100000 in
theorem sub2 (b off n c lo m : Nat) (h1 : lo + m ≤ c) (h2 : lo < c) :
    ∀ w, (Instr.slice 27 (.slice (some ⟨b, off, none⟩) n c) (some (.int .i64 (lo : Int))) (some (.int .i64 ((lo : Int) + (m : Int)))) none).run Try.prog w = .ok (.slice (some ⟨b, off + lo, none⟩) m (c - lo)) w := by
  intro w
  have hsz : ∀ w, (sizeOf 5).run Try.prog w = .ok 1 w := fun _ => by kernel_rfl
  rw [run_slice_lh (P := Try.prog) w 27 (some ⟨b, off, none⟩) n c Try.underlying27 .i64 .i64 (lo : Int) ((lo : Int) + (m : Int)) (by omega) (by omega) (by omega)]
  have hz := hsz w
  show ((sizeOf 5).run Try.prog w).andThen _ = _
  rw [hz]
  simp only [Result.andThen, sliced]
  rw [if_neg (by omega), show ((lo : Int) + (m : Int)).toNat - (lo : Int).toNat = m by omega]
  simp [Addr.add]
set_option maxRecDepth 100000 in
theorem first_slice {p : Nat → Prop} {w : World} {A : Option Addr} {n c : Nat} {l : List Int} (h : Byt p w A n l) (hnc : n ≤ c) (k : Nat) :
    ∃ A0 c0, (∀ w, (Instr.slice 27 (.slice A n c) none (some (.int .i64 ((pcL l k 0).length : Int))) none).run Try.prog w = .ok (.slice A0 (pcL l k 0).length c0) w) ∧ Byt (· < w.heap.size) w A0 (pcL l k 0).length (pcL l k 0) := by
  have hsz : ∀ w, (sizeOf 5).run Try.prog w = .ok 1 w := fun _ => by kernel_rfl
  have hlen := h.len
  have plen : (pcL l k 0).length = min k n := by simp [pcL, hlen]
  have hrun : ∀ w, (Instr.slice 27 (.slice A n c) none (some (.int .i64 ((pcL l k 0).length : Int))) none).run Try.prog w = .ok (sliced A 0 (pcL l k 0).length c 1) w := by
    intro w
    rw [run_slice_h (P := Try.prog) w 27 A n c Try.underlying27 .i64 ((pcL l k 0).length : Int) (by omega) (by omega)]
    have hz := hsz w
    show ((sizeOf 5).run Try.prog w).andThen _ = _
    rw [hz]
    simp [Result.andThen]
  rcases Nat.eq_zero_or_pos n with hn | hn
  · subst hn
    have hl : l = [] := List.eq_nil_of_length_eq_zero hlen
    subst hl
    have e0 : pcL ([] : List Int) k 0 = [] := by simp [pcL]
    rw [e0] at hrun ⊢
    unfold sliced at hrun
    exact ⟨_, _, hrun, Byt.nil⟩
  · obtain ⟨b, off, rfl, hpb, hb, hc⟩ := h.addr hn
    have hh : Byt (· < w.heap.size) w (some ⟨b, off, none⟩) n l := h.mono (fun b h _ => h)
    have hs := hh.sub3b (k := 0) (m := (pcL l k 0).length) (by omega)
    have e : (l.drop 0).take (pcL l k 0).length = pcL l k 0 := by
      rw [plen]
      unfold pcL
      rw [Nat.zero_mul, List.drop_zero]
      rcases Nat.le_total k n with h | h
      · rw [Nat.min_eq_left h]
      · rw [Nat.min_eq_right h, List.take_of_length_le (by omega), List.take_of_length_le (by omega)]
    rw [e, Nat.add_zero] at hs
    refine ⟨some ⟨b, off, none⟩, c, fun w => ?_, hs⟩
    rw [hrun]
    unfold sliced
    rw [if_neg (by omega)]
    simp [Addr.add]
theorem own_lit {w : World} {base : Nat} (e : TypeId) (size : Nat) (xs : List Value) (hs : xs.length = size) (hb : base ≤ w.heap.size) {cs : Array Value} (hc : cs = xs.toArray) {g : Nat} (hg : g = w.heap.size) : (w.alloc (.cells cs e)).ownsRow base e size (.slice (some ⟨g, 0, none⟩) 1 1) 1 xs := by
  subst hg hc
  refine ⟨by omega, .inr ⟨w.heap.size, 1, xs.toArray, rfl, hb, heap_alloc_new w _, Nat.le_refl _, by simp only [maxLen]; omega, by simp; omega, ?_⟩⟩
  rw [List.toList_toArray, List.take_of_length_le (by omega)]

set_option maxRecDepth 100000 in
set_option maxHeartbeats 4000000 in
theorem ref_Cut_no (s pts dts : Int) (A : Option Addr) (n c : Nat) (k : Int) (w : World) (hno : k < 1 ∨ 60000 < k ∨ validP s pts dts = false) :
    Calls Try.prog 18 #[.int .i64 s, .slice A n c, .int .i64 pts, .int .i64 dts, .int .i64 k] w fun e w' => e = .returned (.tuple #[.slice none 0 0, .int .i64 1]) ∧ Below w.heap.size w w' := by
  have HVP := Lib.hid (fun w' => ref_PValid s pts dts (.slice none 0 0) w')
  by_cases h1 : k < 1
  · have d1 : decide (k < 1) = true := decide_eq_true h1
    go_enter Try.func18, Try.ntmps18
    go_wp2_with fail
    go_ret2
    exact ⟨rfl, Below.refl _ _⟩
  · have d1 : decide (k < 1) = false := decide_eq_false h1
    by_cases h2 : 60000 < k
    · have d2 : decide (60000 < k) = true := decide_eq_true h2
      go_enter Try.func18, Try.ntmps18
      go_wp2_with fail
      go_ret2
      exact ⟨rfl, Below.refl _ _⟩
    · have d2 : decide (60000 < k) = false := decide_eq_false h2
      have hv : validP s pts dts = false := by rcases hno with h | h | h <;> first | omega | exact h
      rw [hv] at HVP
      clear hv hno
      go_enter Try.func18, Try.ntmps18
      go_wp2_with fail
      refine (HVP.out _).mono ?_
      rintro e w1 ⟨rfl, hb1⟩
      go_wp2_with fail
      go_ret2
      exact ⟨rfl, hb1⟩

set_option maxRecDepth 100000 in
set_option maxHeartbeats 8000000 in
theorem ref_Cut_yes {p : Nat → Prop} (s pts dts : Int) (A : Option Addr) (n c : Nat) (l : List Int) (k : Nat) (w : World) (hA : Byt p w A n l) (hnc : n ≤ c) (hn : n ≤ 3000) (hk1 : 1 ≤ k) (hk2 : k ≤ 60000) (hv : validP s pts dts = true) :
    Calls Try.prog 18 #[.int .i64 s, .slice A n c, .int .i64 pts, .int .i64 dts, .int .i64 (k : Int)] w fun e w' => ∃ A' m c' ks, e = .returned (.tuple #[.slice A' m c', .int .i64 0]) ∧ Pks (fun _ => True) (fun _ => True) w' A' m ks ∧ ks.map pkv = cutL s pts dts l k ∧ Below w.heap.size w w' := by
  have HVP := Lib.hid (fun w' => ref_PValid s pts dts (.slice none 0 0) w')
  rw [hv] at HVP
  obtain ⟨A0, c0, hr0, hb0⟩ := first_slice hA hnc k
  have hlen := hA.len
  have plen : ∀ i, (pcL l k i).length = min k (n - i * k) := fun i => by simp [pcL, hlen]
  have HB := Lib.hid (hA.mono (q := (· < w.heap.size)) (fun b h _ => h))
  have HPL := Lib.hid plen
  have HR0 := Lib.hid hr0
  have HB0 := Lib.hid hb0
  have HLN := Lib.hid hlen
  have d1 : decide ((k : Int) < 1) = false := decide_eq_false (by omega)
  have d2 : decide ((60000 : Int) < (k : Int)) = false := decide_eq_false (by omega)
  obtain ⟨n0, hn0⟩ : ∃ q, (pcL l k 0).length = q := ⟨_, rfl⟩
  have hmin0 : min (k : Int) (n : Int) = (n0 : Int) := by
    have := plen 0
    rw [hn0] at this
    omega
  rw [hn0] at HR0 HB0
  clear hr0 hb0 hlen plen hv hA hn0
  have r0 := HR0.out
  go_enter Try.func18, Try.ntmps18
  go_wp2_with fail
  refine (HVP.out _).mono ?_
  rintro e w1 ⟨rfl, hb1⟩
  have HB1 := Lib.hid hb1
  have z1 := hb1.size
  clear hb1
  go_upto_region 4 with fail
  have HO0 : Hid ((w1.alloc (.cells #[.int .i64 s, .int .i64 pts, .int .i64 dts, .slice A0 n0 c0] 29)).ownsRow w.heap.size 29 4 (.slice (some ⟨w1.heap.size, 0, none⟩) 1 1) 1 (pkCells [⟨s, pts, dts, A0, n0, c0, pcL l k 0⟩])) := Lib.hid (own_lit _ _ _ rfl z1 rfl rfl)
  have HBA : Hid (Below w.heap.size w (w1.alloc (.cells #[.int .i64 s, .int .i64 pts, .int .i64 dts, .slice A0 n0 c0] 29))) := Lib.hid (HB1.out.alloc z1 _)
  obtain ⟨g, hg⟩ : ∃ g, w1.heap.size = g := ⟨_, rfl⟩
  rw [hg] at HO0 ⊢
  clear hg z1
  generalize w1.alloc (.cells #[.int .i64 s, .int .i64 pts, .int .i64 dts, .slice A0 n0 c0] 29) = WA at *
  go_wp2_with fail
  clear r0
  go_loopw [12, 13] (fun v i wr => ∃ (j : Nat) (A1 : Option Addr) (c1 : Nat) (ks : List Pk), 1 ≤ j ∧ j ≤ pcN n k ∧ i = .int .i64 ((j * k : Nat) : Int) ∧ v = .slice A1 j c1 ∧ wr.ownsRow w.heap.size 29 4 (.slice A1 j c1) j (pkCells ks) ∧ ks.length = j ∧ ks.map pkv = cutQ s pts dts l k (List.range j) ∧ (∀ x ∈ ks, Byt (· < w.heap.size) w x.A x.n x.l) ∧ Below w.heap.size w wr) (fun _ i _ => n - (intOf i).toNat)
  case atStart => exact ⟨1, _, _, _, Nat.le_refl _, pcN_pos n k, by simp, rfl, HO0.out, rfl, by simp [pkv, cutQ, List.range_succ], fun x hx => by rw [List.mem_singleton] at hx; rw [hx]; exact HB0.out, HBA.out⟩
  case round =>
    obtain ⟨j, A1, c1, ks, hj1, hjm, rfl, rfl, ho, hkl, hkv, hkb, hb⟩ := hrel
    obtain ⟨Q, hQ⟩ : ∃ Q, j * k = Q := ⟨_, rfl⟩
    have hjn : j ≤ 10000 := by have := pcN_le (n := n) hk1; omega
    have HO := Lib.hid ho
    have HKL := Lib.hid hkl
    have HKV := Lib.hid hkv
    have HKB := Lib.hid hkb
    have HBR := Lib.hid hb
    have zr := hb.size
    rw [hQ]
    clear ho hkl hkv hkb hb
    by_cases hlt : Q < n
    · have d3 : decide ((Q : Int) < (n : Int)) = true := decide_eq_true (by omega)
      have hjm' : j < pcN n k := by
        have := (pcN_next (n := n) hk1 (j - 1)).2 (by rw [show j - 1 + 1 = j by omega, hQ]; exact hlt)
        omega
      obtain ⟨b, off, rfl, hpb, hbl, hcells⟩ := HB.out.addr (show 0 < n by omega)
      obtain ⟨nj, hnj⟩ : ∃ q, (pcL l k j).length = q := ⟨_, rfl⟩
      have hnj2 : nj = min k (n - Q) := by rw [← hnj, HPL.out, hQ]
      have wadd : IntKind.i64.wrap ((Q : Int) + (k : Int)) = (Q : Int) + (k : Int) := IntWalk.i64_in _ (by omega)
      have hmin : min ((Q : Int) + (k : Int)) (n : Int) = (Q : Int) + (nj : Int) := by omega
      have run := sub2 b off n c Q nj (by omega) (by omega)
      have HQ := Lib.hid hQ
      have HNJ := Lib.hid hnj
      have HBJ : Hid (Byt (· < w.heap.size) w (some ⟨b, off + Q, none⟩) nj (pcL l k j)) := Lib.hid (by
        have hs := HB.out.sub3b (k := Q) (m := nj) (by omega)
        have e : (l.drop Q).take nj = pcL l k j := by
          unfold pcL
          rw [HQ.out, hnj2]
          rcases Nat.le_total k (n - Q) with h | h
          · rw [Nat.min_eq_left h]
          · rw [Nat.min_eq_right h, List.take_of_length_le (by rw [List.length_drop, HLN.out]; exact Nat.le_refl _), List.take_of_length_le (by rw [List.length_drop, HLN.out]; exact h)]
        rwa [e] at hs)
      have hOA := Lib.hid (own_ext HO.out ((Below.refl wr.heap.size wr).alloc (Nat.le_refl _) (.cells #[.int .i64 s, .int .i64 (-1), .int .i64 (-1), .slice (some ⟨b, off + Q, none⟩) nj (c - Q)] 29)))
      clear hQ hnj hnj2 hcells
      go_wp2_with (first | (at_builtin; go_must (refine wpList_appR _ rfl (.tmp 47) (.tmp 59) 25 rfl 29 (.agg #[.int .i64 0, .int .i64 0, .int .i64 0, .slice none 0 0]) 4 48 Try.underlying25 Try.infoPR rfl (by decide) w.heap.size (.slice A1 j c1) j _ rfl hOA.out (some ⟨wr.heap.size, 0, none⟩) 1 1 [.int .i64 s, .int .i64 (-1), .int .i64 (-1), .slice (some ⟨b, off + Q, none⟩) nj (c - Q)] rfl (Rw.lit (p := fun _ => True) _ _ _ rfl 1 4 rfl rfl trivial) (by simp [Value.oneCell']) (by omega) (by omega) (by simp; omega) ?_; intro v3 w4 ho3 hg3 ha3; obtain ⟨A3, c3, hv3⟩ := own_slice ho3; subst hv3)))
      go_roundw
      case rel =>
        refine ⟨j + 1, A3, c3, ks ++ [⟨s, -1, -1, some ⟨b, off + Q, none⟩, nj, c - Q, pcL l k j⟩], by omega, by omega, by rw [Nat.succ_mul, HQ.out]; simp, rfl, by simpa [pkCells, Pk.cells] using ho3, by simp [HKL.out], ?_, fun x hx => ?_, (HBR.out.alloc zr _).grown hg3 (by simp; omega) (fun i hi => (World.ownsRow.lt HO.out i hi).1)⟩
        · rw [List.map_append, HKV.out, List.range_succ, cutQ_snoc, if_neg (by simp; omega), if_neg (by simp; omega)]
          rfl
        · rcases List.mem_append.1 hx with h | h
          · exact HKB.out x h
          · rw [List.mem_singleton] at h
            rw [h]
            exact HBJ.out
      case measure => (simp [intOf]; try omega)
    · have d3 : decide ((Q : Int) < (n : Int)) = false := decide_eq_false (by omega)
      have hje : j = pcN n k := by
        rcases Nat.lt_or_ge j (pcN n k) with h | h
        · exfalso
          have := (pcN_next (n := n) hk1 (j - 1)).1 (by omega)
          rw [show j - 1 + 1 = j by omega, hQ] at this
          omega
        · omega
      have HJE := Lib.hid hje
      clear hje hQ
      go_wp2_with fail
      go_ret2
      obtain ⟨A5, c5, hv5, hrw⟩ := own_rw (p := fun _ => True) HO.out (fun _ _ => trivial)
      injection hv5 with e1 e2 e3
      subst e1 e3
      exact ⟨A1, j, c1, ks, rfl, ⟨HKL.out, hrw, fun x hx => ((HKB.out x hx).below HBR.out (fun _ _ h => h)).mono (fun _ _ _ => trivial)⟩, by rw [HKV.out, HJE.out]; unfold cutL; rw [HLN.out], HBR.out⟩
end Go.Proofs.Ytojfaonlgkicfaa
