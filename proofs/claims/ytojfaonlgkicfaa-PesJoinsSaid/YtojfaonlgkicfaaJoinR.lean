/- The reference's Join. -/
import Derived.Test.YtojfaonlgkicfaaJoinP
namespace Go.Proofs.Ytojfaonlgkicfaa
open Go.RowKit

/-- The state of the reference's Join: two rows of its own. -/
structure JSr (w : World) (d s : List Int) (A1 : Option Addr) (n1 c1 : Nat) (A2 : Option Addr) (n2 c2 : Nat) (wr : World) : Prop where
  l1 : n1 = d.length
  l2 : n2 = s.length
  o1 : wr.ownsRow w.heap.size 5 1 (.slice A1 n1 c1) n1 (d.map (Value.int .u8))
  o2 : wr.ownsRow w.heap.size 3 1 (.slice A2 n2 c2) n2 (s.map (Value.int .i64))
  be : Below w.heap.size w wr

section
variable {w wr w1 : World} {d s : List Int} {A1 A2 A3 : Option Addr} {n1 c1 n2 c2 n3 c3 : Nat}
theorem JSr.alloc (h : JSr w d s A1 n1 c1 A2 n2 c2 wr) (o : Obj) : JSr w d s A1 n1 c1 A2 n2 c2 (wr.alloc o) :=
  ⟨h.l1, h.l2, h.o1.alloc o, h.o2.alloc o, h.be.alloc h.be.size o⟩
theorem JSr.starts (h : JSr w d s A1 n1 c1 A2 n2 c2 wr) (x : Int) (ho : w1.ownsRow w.heap.size 3 1 (.slice A3 n3 c3) (n2 + 1) (s.map (Value.int .i64) ++ [.int .i64 x])) (hg : wr.grownBy w1 (Value.slice A2 n2 c2).ownBlock) :
    JSr w d (s ++ [x]) A1 n1 c1 A3 n3 c3 w1 := by
  obtain ⟨A, c, hv⟩ := own_slice ho
  injection hv with hA hn hc
  subst hn
  exact ⟨h.l1, by simp [h.l2], World.ownsRow.kept h.o1 hg (own_sep h.o1 h.o2 (by decide)), by simpa using ho, h.be.grown hg h.be.size (fun k hk => (World.ownsRow.lt h.o2 k hk).1)⟩
theorem JSr.data (h : JSr w d s A1 n1 c1 A2 n2 c2 wr) (x : List Int) (m : Nat) (hm : x.length = m) (ho : w1.ownsRow w.heap.size 5 1 (.slice A3 n3 c3) (n1 + m) (d.map (Value.int .u8) ++ x.map (Value.int .u8))) (hg : wr.grownBy w1 (Value.slice A1 n1 c1).ownBlock) :
    JSr w (d ++ x) s A3 n3 c3 A2 n2 c2 w1 := by
  obtain ⟨A, c, hv⟩ := own_slice ho
  injection hv with hA hn hc
  subst hn
  exact ⟨by simp [h.l1, hm], h.l2, by simpa using ho, World.ownsRow.kept h.o2 hg (own_sep h.o2 h.o1 (by decide)), h.be.grown hg h.be.size (fun k hk => (World.ownsRow.lt h.o1 k hk).1)⟩
theorem JSr.ret (h : JSr w d s A1 n1 c1 A2 n2 c2 wr) (hr : ∀ y ∈ d, 0 ≤ y ∧ y ≤ 255) :
    RetJ w (d, s) (.returned (.tuple #[.slice A1 n1 c1, .slice A2 n2 c2])) wr := by
  obtain ⟨B1, e1, hv1, hr1⟩ := own_rw (p := (w.heap.size ≤ ·)) h.o1 (fun _ h => h)
  obtain ⟨B2, e2, hv2, hr2⟩ := own_rw (p := (w.heap.size ≤ ·)) h.o2 (fun _ h => h)
  injection hv1 with hA1
  injection hv2 with hA2
  subst hA1 hA2
  exact ⟨_, _, _, _, _, _, rfl, hr1.byt hr, hr2, h.be⟩
end

def JRelR (w : World) (ps : List Pk) (v1 v2 i : Value) (wr : World) : Prop :=
  ∃ (k : Nat) (A1 A2 : Option Addr) (n1 n2 c1 c2 : Nat), k ≤ ps.length ∧ i = .int .i64 k ∧ v1 = .slice A1 n1 c1 ∧ v2 = .slice A2 n2 c2 ∧ JSr w (joinF (ps.take k)).1 (joinF (ps.take k)).2 A1 n1 c1 A2 n2 c2 wr

theorem jrelR_next {w wr : World} {ps : List Pk} {k : Nat} {x : Pk} {A1 A2 : Option Addr} {n1 n2 c1 c2 : Nat} {s : List Int} (hx : ps[k]? = some x)
    (hs : s = if x.p = -1 then (joinF (ps.take k)).2 else (joinF (ps.take k)).2 ++ [((joinF (ps.take k)).1.length : Int)]) (h : JSr w ((joinF (ps.take k)).1 ++ x.l) s A1 n1 c1 A2 n2 c2 wr) : JRelR w ps (.slice A1 n1 c1) (.slice A2 n2 c2) (.int .i64 ((k : Int) + 1)) wr := by
  have hk : k < ps.length := (List.getElem?_eq_some_iff.1 hx).1
  refine ⟨k + 1, A1, A2, n1, n2, c1, c2, hk, by simp, rfl, rfl, ?_⟩
  rw [take_snoc_at hx, joinF_snoc]
  simp only [stepJ]
  rw [← hs]
  exact h

set_option maxHeartbeats 1000000 in
theorem ref_Join {p q : Nat → Prop} (A : Option Addr) (n c : Nat) (ps : List Pk) (w : World) (h : Pks p q w A n ps) (hn : n ≤ 100000) (ht : (joinF ps).1.length ≤ 10000000) :
    Calls Try.prog 15 #[.slice A n c] w (RetJ w (joinF ps)) := by
  obtain ⟨hl, hr, hd⟩ := h
  have HL := Lib.hid hl
  have HD := Lib.hid hd
  have HT := Lib.hid ht
  clear hl hd ht
  go_enter Try.func15, Try.ntmps15
  go_wp2
  go_loopw [4, 5, 6] (fun v1 v2 i wr => JRelR w ps v1 v2 i wr) (fun _ _ i _ => n - (intOf i).toNat)
  case atStart =>
    exact ⟨0, none, none, 0, 0, 0, 0, Nat.zero_le _, rfl, rfl, rfl, ⟨by simp [joinF], by simp [joinF], World.ownsRow_nil _ _ _ _, World.ownsRow_nil _ _ _ _, Below.refl _ _⟩⟩
  case round =>
    obtain ⟨k, A1, A2, n1, n2, c1, c2, hk, rfl, rfl, rfl, hst⟩ := hrel
    have hle1 : n1 ≤ 10000000 := by rw [hst.l1]; exact Nat.le_trans (joinF_take_le ps k) HT.out
    have hle2 : n2 ≤ 100000 := by rw [hst.l2]; refine Nat.le_trans (joinF_snd_le _) ?_; rw [List.length_take, HL.out]; omega
    by_cases hlt : k < n
    · obtain ⟨b, off, rfl, hpb, hbl, hc⟩ := hr.addr (by omega)
      have hx : ps[k]? = some (ps[k]'(by rw [HL.out]; exact hlt)) := List.getElem?_eq_getElem _
      generalize hxx : ps[k]'(by rw [HL.out]; exact hlt) = x at hx
      clear hxx
      obtain ⟨e0, e1, e2, e3⟩ := pkCells_at hx
      have hbel := hst.be
      have f0 := (hbel.cell (p := ⟨b, off + k * 4, none⟩) hbl).trans (hc _ _ e0)
      have f1 : wr.cell? ⟨b, off + k * 4 + 1, none⟩ = _ := (hbel.cell (p := ⟨b, off + (k * 4 + 1), none⟩) hbl).trans (hc _ _ e1)
      have f3 : wr.cell? ⟨b, off + k * 4 + 3, none⟩ = _ := (hbel.cell (p := ⟨b, off + (k * 4 + 3), none⟩) hbl).trans (hc _ _ e3)
      have hby := (HD.out x (List.mem_of_getElem? hx)).mono (q := (· < w.heap.size)) (fun _ h _ => h)
      have hxn : x.n ≤ 10000000 := by
        have : (joinF (ps.take (k + 1))).1.length ≤ 10000000 := Nat.le_trans (joinF_take_le ps (k + 1)) HT.out
        rw [take_snoc_at hx, joinF_snoc] at this
        simp only [stepJ, List.length_append, hby.len] at this
        omega
      have hxl := hby.len
      have HXL := Lib.hid hxl
      have HX := Lib.hid hx
      clear e0 e1 e2 e3 hc hx hxl
      have hby0 := hby.below hbel (fun _ _ h => h)
      by_cases hp : x.p = -1
      · have hpb : (x.p != -1) = false := by simp [hp]
        have HP := Lib.hid hp
        clear hp
        go_wp2_with (first | (at_builtin; go_must (refine wpList_appR _ rfl (.tmp 24) (.tmp 29) 27 rfl 5 (.int .u8 0) 1 1 Try.underlying27 Try.infoB rfl (by decide) w.heap.size (.slice A1 n1 c1) n1 _ rfl hst.o1 x.A x.n x.c (x.l.map (Value.int .u8)) rfl hby0.rw_ (by simp [Value.oneCell']) (by omega) (by omega) hbel.size ?_; intro v3 w3 ho3 hg3 ha3; obtain ⟨A3, c3, hv3⟩ := own_slice ho3; subst hv3; have hst3 := hst.data x.l x.n HXL.out ho3 hg3)))
        go_roundw
        case rel => exact jrelR_next HX.out (by rw [if_pos HP.out]) hst3
        case measure => simp [intOf]; omega
      · have hpb : (x.p != -1) = true := by simp [hp]
        have HP := Lib.hid hp
        clear hp
        have tok : True := trivial
        go_wp2_with (first
          | (at_builtin; have _t := tok; go_must (refine wpList_appR _ rfl (.tmp 19) (.tmp 22) 32 rfl 3 (.int .i64 0) 1 8 Try.underlying32 Try.infoI rfl (by decide) w.heap.size (.slice A2 n2 c2) n2 _ rfl (hst.alloc _).o2 (some ⟨wr.heap.size, 0, none⟩) 1 1 [.int .i64 n1] rfl (Rw.lit (p := fun _ => True) _ _ _ rfl 1 1 rfl rfl trivial) (by simp [Value.oneCell']) (by omega) (by omega) (by have := hbel.size; simp; omega) ?_; intro v3 w3 ho3 hg3 ha3; obtain ⟨A3, c3, hv3⟩ := own_slice ho3; subst hv3; have hst3 := (hst.alloc _).starts n1 ho3 hg3; have hby3 := ((hby0.alloc _).grown hg3 (fun b hb => own_ne hst.o2 (.inl (by omega)))); have f33 := (hg3.block b (by have := hbel.size; simp; omega) (own_ne hst.o2 (.inl hbl))).trans (Below.heap_alloc wr _ b (by have := hbel.size; omega)); have f30 : w3.cell? ⟨b, off + k * 4 + 3, none⟩ = some (.slice x.A x.n x.c) := (World.cell?_of_block f33).trans f3; clear f33 tok))
          | (at_builtin; go_must (refine wpList_appR _ rfl (.tmp 24) (.tmp 29) 27 rfl 5 (.int .u8 0) 1 1 Try.underlying27 Try.infoB rfl (by decide) w.heap.size (.slice A1 n1 c1) n1 _ rfl hst3.o1 x.A x.n x.c (x.l.map (Value.int .u8)) rfl hby3.rw_ (by simp [Value.oneCell']) (by omega) (by omega) hst3.be.size ?_; intro v4 w4 ho4 hg4 ha4; obtain ⟨A4, c4, hv4⟩ := own_slice ho4; subst hv4; have hst4 := hst3.data x.l x.n HXL.out ho4 hg4)))
        go_roundw
        case rel => exact jrelR_next HX.out (by rw [if_neg HP.out, hst.l1]) hst4
        case measure => simp [intOf]; omega
    · have hkn : k = n := by have := HL.out; omega
      have HK := Lib.hid hkn
      clear hkn
      go_wp2
      go_ret2
      have e : ps.take k = ps := List.take_of_length_le (by rw [HL.out, HK.out]; exact Nat.le_refl _)
      rw [e] at hst
      exact hst.ret (joinF_rng ps (fun x hx => (HD.out x hx).rng))

end Go.Proofs.Ytojfaonlgkicfaa
