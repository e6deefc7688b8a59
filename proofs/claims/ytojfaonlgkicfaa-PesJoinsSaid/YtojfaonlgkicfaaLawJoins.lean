/- PesJoins. -/
import Derived.Test.YtojfaonlgkicfaaJoinR
import Derived.Test.YtojfaonlgkicfaaPesAwake
namespace Go.Proofs.Ytojfaonlgkicfaa
open Go.RowKit

theorem Try.infoP : (Try.prog.info? 30).map (fun i => (i.zero, i.size, i.bytes)) = some (some (.agg #[.int .i64 0, .int .i64 0, .int .i64 0, .slice none 0 0]), 4, 48) := by kernel_rfl

theorem law_given (s p d : Int) (A : Option Addr) (n c : Nat) (w : World) :
    Calls Try.prog 13 #[.agg #[.int .i64 s, .int .i64 p, .int .i64 d, .slice A n c]] w fun e w' => e = .returned (.agg #[.int .i64 s, .int .i64 p, .int .i64 d, .slice A n c]) ∧ Below w.heap.size w w' := by
  go_enter Try.func13, Try.ntmps13
  go_wp2
  exact bodyPost_ret (v := .agg #[.int .i64 s, .int .i64 p, .int .i64 d, .slice A n c]) (by simp [results, Try.results13, go_sem]) rfl ⟨rfl, ((Below.refl _ _).alloc (Nat.le_refl _) _).alloc (by simp) _⟩

/-- What holds at the head of each round in which the law copies the packets. -/
def GRel (w : World) (ps : List Pk) (v i : Value) (wr : World) : Prop :=
  ∃ (k : Nat) (A1 : Option Addr) (c1 : Nat), k ≤ ps.length ∧ i = .int .i64 k ∧ v = .slice A1 k c1 ∧ wr.ownsRow w.heap.size 30 4 (.slice A1 k c1) k (pkCells (ps.take k)) ∧ Below w.heap.size w wr ∧ ∀ x ∈ ps.take k, x.n ≤ 1000

theorem grel_next {w wr : World} {ps : List Pk} {k : Nat} {x : Pk} {A1 : Option Addr} {n1 c1 : Nat} (hx : ps[k]? = some x) (hs : x.n ≤ 1000) (ho : wr.ownsRow w.heap.size 30 4 (.slice A1 n1 c1) (k + 1) (pkCells (ps.take k) ++ [.int .i64 x.s, .int .i64 x.p, .int .i64 x.d, .slice x.A x.n x.c]))
    (hb : Below w.heap.size w wr) (ha : ∀ x ∈ ps.take k, x.n ≤ 1000) : GRel w ps (.slice A1 n1 c1) (.int .i64 ((k : Int) + 1)) wr := by
  have hk : k < ps.length := (List.getElem?_eq_some_iff.1 hx).1
  obtain ⟨A, c, hv⟩ := own_slice ho
  injection hv with hA hn hc
  subst hn
  refine ⟨k + 1, A1, c1, hk, by simp, rfl, ?_, hb, ?_⟩
  · rw [take_snoc_at hx]
    simpa [pkCells, Pk.cells] using ho
  · rw [take_snoc_at hx]
    intro y hy
    rcases List.mem_append.1 hy with hy | hy
    · exact ha y hy
    · rw [List.mem_singleton.1 hy]; exact hs

theorem joinF_small (ps : List Pk) (h : ∀ x ∈ ps, x.l.length ≤ 1000) : (joinF ps).1.length ≤ ps.length * 1000 := by
  rw [joinF_fst]
  induction ps with
  | nil => simp
  | cons x ps ih =>
    have h1 := h x (by simp)
    have h2 := ih (fun y hy => h y (by simp [hy]))
    simp only [List.flatMap_cons, List.length_append, List.length_cons]
    omega

set_option maxRecDepth 4000 in
set_option maxHeartbeats 1000000 in
theorem law_PesJoins {p q : Nat → Prop} (A : Option Addr) (n c : Nat) (ps : List Pk) (w : World) (h : Pks p q w A n ps) :
    Calls Try.prog 4 #[.slice A n c] w fun e w' => e = .returned (.bool true) ∧ Below w.heap.size w w' := by
  by_cases hn : 50 < n
  · go_enter Try.func4, Try.ntmps4
    go_wp2_with fail
    go_ret
    exact ⟨rfl, Below.refl _ _⟩
  have hPks := Lib.hid h
  obtain ⟨hl, hr, hd⟩ := h
  have HL := Lib.hid hl
  have HD := Lib.hid hd
  clear hl hd
  go_enter Try.func4, Try.ntmps4
  go_wp2_with fail
  go_loopw [3, 4] (fun v i wr => GRel w ps v i wr) (fun _ i _ => n - (intOf i).toNat)
  case atStart => exact ⟨0, none, 0, Nat.zero_le _, rfl, rfl, World.ownsRow_nil _ _ _ _, Below.refl _ _, by simp⟩
  case round =>
    obtain ⟨k, A1, c1, hk, rfl, rfl, ho, hbel, hall⟩ := hrel
    have HA := Lib.hid hall
    clear hall
    by_cases hlt : k < n
    · obtain ⟨b, off, rfl, hpb, hbl, hc⟩ := hr.addr (by omega)
      have hx : ps[k]? = some (ps[k]'(by rw [HL.out]; exact hlt)) := List.getElem?_eq_getElem _
      generalize hxx : ps[k]'(by rw [HL.out]; exact hlt) = x at hx
      clear hxx
      obtain ⟨e0, e1, e2, e3⟩ := pkCells_at hx
      have f0 := (hbel.cell (p := ⟨b, off + k * 4, none⟩) hbl).trans (hc _ _ e0)
      have f1 : wr.cell? ⟨b, off + k * 4 + 1, none⟩ = _ := (hbel.cell (p := ⟨b, off + (k * 4 + 1), none⟩) hbl).trans (hc _ _ e1)
      have f2 : wr.cell? ⟨b, off + k * 4 + 2, none⟩ = _ := (hbel.cell (p := ⟨b, off + (k * 4 + 2), none⟩) hbl).trans (hc _ _ e2)
      have f3 : wr.cell? ⟨b, off + k * 4 + 3, none⟩ = _ := (hbel.cell (p := ⟨b, off + (k * 4 + 3), none⟩) hbl).trans (hc _ _ e3)
      have HX := Lib.hid hx
      clear e0 e1 e2 e3 hc hx
      by_cases hbig : 1000 < x.n
      · go_wp2_with fail
        go_ret
        exact ⟨rfl, hbel⟩
      · go_wp2_with (first
          | (go_at_call 13; ((with_reducible refine (law_given _ _ _ _ _ _ _).mono ?_); rintro e w1 ⟨rfl, hb1⟩; have z1 := hb1.size; have y1 := hbel.size))
          | (at_builtin; go_must (refine wpList_appR _ rfl (.tmp 26) (.tmp 32) 26 rfl 30 (.agg #[.int .i64 0, .int .i64 0, .int .i64 0, .slice none 0 0]) 4 48 Try.underlying26 Try.infoP rfl (by decide) w.heap.size (.slice A1 k c1) k _ rfl ((own_ext ho hb1).alloc _) (some ⟨w1.heap.size, 0, none⟩) 1 1 [.int .i64 x.s, .int .i64 x.p, .int .i64 x.d, .slice x.A x.n x.c] rfl (Rw.lit (p := fun _ => True) _ _ _ rfl 1 4 rfl rfl trivial) (by simp [Value.oneCell']) (by omega) (by omega) (by simp; omega) ?_; intro v3 w3 ho3 hg3 ha3; obtain ⟨A3, c3, hv3⟩ := own_slice ho3; subst hv3)))
        go_roundw
        case rel => exact grel_next HX.out (by omega) ho3 (((hbel.trans (hb1.mono y1)).alloc (by omega) _).grown hg3 (by simp; omega) (fun j hj => (World.ownsRow.lt ho j hj).1)) HA.out
        case measure => simp [intOf]; omega
    · have hkn : k = n := by have := HL.out; omega
      subst hkn
      have e : ps.take k = ps := List.take_of_length_le (by rw [HL.out]; exact Nat.le_refl _)
      rw [e] at ho HA
      obtain ⟨A2, c2, hv2, hR⟩ := own_rw (p := fun _ => True) ho (fun _ _ => trivial)
      injection hv2 with hA2 _ hc2
      subst hA2 hc2
      have hP1 : Pks (fun _ => True) q wr A1 k ps := ⟨HL.out, hR, fun x hx => (HD.out x hx).keep (fun b _ hb => hbel.block b hb)⟩
      have hP2 : Pks p q wr A k ps := ⟨HL.out, hr.below hbel (fun b hb _ => hb), fun x hx => (HD.out x hx).keep (fun b _ hb => hbel.block b hb)⟩
      have hT : (joinF ps).1.length ≤ 10000000 := by
        have := joinF_small ps (fun x hx => by rw [(HD.out x hx).len]; exact HA.out x hx)
        rw [HL.out] at this
        omega
      have HP1 := Lib.hid hP1
      have HP2 := Lib.hid hP2
      have HT := Lib.hid hT
      clear hP1 hP2 hT e
      go_wp2_with fail
      refine (pes_Join _ _ _ _ _ HP1.out (by omega) HT.out).mono ?_
      rintro e w1 ⟨B1, m1, d1, B2, m2, d2, rfl, hB1, hB2, hb1⟩
      go_wp2_with fail
      have hP3 : Pks p q w1 A k ps := ⟨HL.out, HP2.out.2.1.below hb1 (fun b hb _ => hb), fun x hx => (HP2.out.2.2 x hx).keep (fun b _ hb => hb1.block b hb)⟩
      refine (ref_Join _ _ _ _ _ hP3 (by omega) HT.out).mono ?_
      rintro e w2 ⟨B3, m3, d3, B4, m4, d4, rfl, hB3, hB4, hb2⟩
      clear hP3
      have hm4 : m4 = m2 := by have h2 := hB2.len; have h4 := hB4.len; simp at h2 h4; omega
      subst hm4
      have hM : m4 ≤ 50 := by have h2 := hB2.len; have h4 := joinF_snd_le ps; have := HL.out; simp at h2; omega
      have hB2' := hB2.ext hb2
      go_wp2_with fail
      refine (ref_SameBytes _ _ _ _ _ _ _ _ _ (hB1.ext hb2) hB3).mono ?_
      rintro e w3 ⟨rfl, rfl⟩
      simp only [decide_true]
      go_wp2_with fail
      go_loopw [9] (fun i wr => ∃ k m : Nat, k ≤ m4 ∧ i = .int .i64 k ∧ wr = w2.drewN m) (fun i _ => m4 - (intOf i).toNat)
      case atStart => exact ⟨0, 0, Nat.zero_le _, rfl, rfl⟩
      case round =>
        obtain ⟨j, m, hj, rfl, rfl⟩ := hrel
        by_cases hjl : j < m4
        · obtain ⟨b, off, rfl, _, _, hcb⟩ := hB2'.addr (by omega)
          obtain ⟨b', off', rfl, _, _, hcb'⟩ := hB4.addr (by omega)
          have hlen : j < (joinF ps).2.length := by have h2 := hB2'.len; simp at h2; omega
          have ex : ((joinF ps).2.map (Value.int .i64))[j]? = some (.int .i64 (joinF ps).2[j]) := by simp [hlen]
          generalize (joinF ps).2[j] = y at ex
          have e1 := hcb _ _ ex
          have e2 := hcb' _ _ ex
          clear hcb hcb' ex
          go_wp2_with fail
          go_quiet (fail)
          go_wp2_with fail
          go_roundw
          case rel => exact ⟨j + 1, _, by omega, by go_num, rfl⟩
          case measure => simp [intOf]; omega
        · go_wp2_with fail
          refine (pes_awake _).mono ?_
          rintro e w4 ⟨rfl, hb4⟩
          go_wp2_with fail
          go_ret
          refine ⟨rfl, ?_⟩
          have y1 := hbel.size
          have y2 := hb1.size
          have y3 := hb2.size
          exact ((hbel.trans (hb1.mono y1)).trans (hb2.mono (by omega))).trans (Below.mono (show Below w2.heap.size w2 w4 from ⟨hb4.os, hb4.tape, hb4.output, hb4.size, hb4.block⟩) (by omega))

end Go.Proofs.Ytojfaonlgkicfaa
