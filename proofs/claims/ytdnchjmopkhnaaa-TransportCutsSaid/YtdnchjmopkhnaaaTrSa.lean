/- sameAll of the law of transport packets. -/
import Derived.Test.YtdnchjmopkhnaaaTrSp
import Derived.Test.YtdnchjmopkhnaaaTrL
namespace Go.Proofs.Ytdnchjmopkhnaaa
open Go.RowKit
attribute [local go_sem ↓] Go.wp_at_zero Go.wp_at_succ

theorem TPks.at_ {p q : Nat → Prop} {w : World} {A : Option Addr} {n : Nat} {ps : List TA} (h : TPks p q w A n ps) {k : Nat} (hk : k < n) :
    ∃ b off x, A = some ⟨b, off, none⟩ ∧ b < w.heap.size ∧ ps[k]? = some x ∧ Byt q w x.A x.n x.p.l ∧ (w.cell? ⟨b, off + k * 5, none⟩ = some (.int .i64 x.p.pid) ∧ w.cell? ⟨b, off + k * 5 + 1, none⟩ = some (.int .i64 x.p.cnt) ∧ w.cell? ⟨b, off + k * 5 + 2, none⟩ = some (.bool x.p.st) ∧ w.cell? ⟨b, off + k * 5 + 3, none⟩ = some (.int .i64 x.p.clk) ∧ w.cell? ⟨b, off + k * 5 + 4, none⟩ = some (.slice x.A x.n x.c)) := by
  obtain ⟨h1, h2, h3⟩ := h
  obtain ⟨b, off, hA, _, hb, hc⟩ := h2.addr (by omega)
  have hx : ps[k]? = some (ps[k]'(by omega)) := List.getElem?_eq_getElem _
  obtain ⟨e0, e1, e2, e3, e4⟩ := tpCells_at hx
  have c0 := hc _ _ e0
  have c1 := hc _ _ e1
  have c2 := hc _ _ e2
  have c3 := hc _ _ e3
  have c4 := hc _ _ e4
  rw [← Nat.add_assoc] at c1 c2 c3 c4
  exact ⟨b, off, _, hA, hb, hx, h3 _ (List.getElem_mem _), c0, c1, c2, c3, c4⟩

set_option maxRecDepth 100000 in
set_option maxHeartbeats 2000000 in
theorem law_sameAll {p q p' q' : Nat → Prop} (A B : Option Addr) (n c n' c' : Nat) (qs qs' : List TA) (w : World) (h : TPks p q w A n qs) (h' : TPks p' q' w B n' qs') (he : datas qs = datas qs') (hn : n ≤ 100000) :
    Calls Try.prog 21 #[.slice A n c, .slice B n' c'] w fun e w' => e = .returned (.bool true) ∧ Below w.heap.size w w' := by
  have hnn : n' = n := by
    have := congrArg List.length he
    simp only [datas, List.length_map] at this
    rw [← h.1, ← h'.1]
    exact this.symm
  subst hnn
  have H := Lib.hid h
  have H' := Lib.hid h'
  have HE := Lib.hid he
  clear h h' he
  have tnn : ((n' : Int) != (n' : Int)) = false := by simp
  go_enter Try.func21, Try.ntmps21
  go_wp2_with fail
  go_loopw [5] (fun i wr => ∃ k : Nat, k ≤ n' ∧ i = .int .i64 (k : Int) ∧ Below w.heap.size w wr) (fun i _ => n' - (intOf i).toNat)
  case atStart => exact ⟨0, Nat.zero_le _, rfl, Below.refl _ _⟩
  case round =>
    obtain ⟨k, hk, rfl, hb⟩ := hrel
    by_cases hlt : k < n'
    · obtain ⟨b, off, x, rfl, hbl, hx, hbx, hc⟩ := (H.out.ext hb).at_ hlt
      obtain ⟨b2, off2, x2, rfl, hbl2, hx2, hbx2, hc2⟩ := (H'.out.ext hb).at_ hlt
      have hpp : x2.p = x.p := by
        have h1 : (datas qs)[k]? = some x.p := by simp [datas, hx]
        have h2 : (datas qs')[k]? = some x2.p := by simp [datas, hx2]
        rw [HE.out, h2] at h1
        injection h1
      obtain ⟨⟨pid, cnt, st, clk, pl⟩, A1, n1, c1⟩ := x
      obtain ⟨xp2, A2, n2, c2⟩ := x2
      dsimp only at hpp hbx hbx2 hc hc2
      subst hpp
      dsimp only at hbx2 hc2
      have hS : ∀ w', Below wr.drew.heap.size wr.drew w' → (w'.cell? ⟨b, off + k * 5, none⟩ = some (.int .i64 pid) ∧ w'.cell? ⟨b, off + k * 5 + 1, none⟩ = some (.int .i64 cnt) ∧ w'.cell? ⟨b, off + k * 5 + 2, none⟩ = some (.bool st) ∧ w'.cell? ⟨b, off + k * 5 + 3, none⟩ = some (.int .i64 clk) ∧ w'.cell? ⟨b, off + k * 5 + 4, none⟩ = some (.slice A1 n1 c1)) ∧ (w'.cell? ⟨b2, off2 + k * 5, none⟩ = some (.int .i64 pid) ∧ w'.cell? ⟨b2, off2 + k * 5 + 1, none⟩ = some (.int .i64 cnt) ∧ w'.cell? ⟨b2, off2 + k * 5 + 2, none⟩ = some (.bool st) ∧ w'.cell? ⟨b2, off2 + k * 5 + 3, none⟩ = some (.int .i64 clk) ∧ w'.cell? ⟨b2, off2 + k * 5 + 4, none⟩ = some (.slice A2 n2 c2)) := by
        intro w' hw
        have e : ∀ (bb o : Nat) (v : Value), bb < wr.heap.size → wr.cell? ⟨bb, o, none⟩ = some v → w'.cell? ⟨bb, o, none⟩ = some v := fun bb o v h1 h2 => (hw.cell (p := ⟨bb, o, none⟩) h1).trans h2
        exact ⟨⟨e _ _ _ hbl hc.1, e _ _ _ hbl hc.2.1, e _ _ _ hbl hc.2.2.1, e _ _ _ hbl hc.2.2.2.1, e _ _ _ hbl hc.2.2.2.2⟩, ⟨e _ _ _ hbl2 hc2.1, e _ _ _ hbl2 hc2.2.1, e _ _ _ hbl2 hc2.2.2.1, e _ _ _ hbl2 hc2.2.2.2.1, e _ _ _ hbl2 hc2.2.2.2.2⟩⟩
      have HS := Lib.hid hS
      have hcall : ∀ w', Below wr.drew.heap.size wr.drew w' → Calls Try.prog 17 #[.agg #[.int .i64 pid, .int .i64 cnt, .bool st, .int .i64 clk, .slice A1 n1 c1], .agg #[.int .i64 pid, .int .i64 cnt, .bool st, .int .i64 clk, .slice A2 n2 c2]] w' fun e w'' => e = .returned (.bool true) ∧ Below w'.heap.size w' w'' := fun w' hw => law_tsame pid cnt st clk A1 A2 n1 c1 n2 c2 pl pl w' (hbx.drew.ext hw) (hbx2.drew.ext hw) rfl
      have HC := Lib.hid (hcall wr.drew (Below.refl _ _))
      have i0 : (0 : Int) ≤ (k : Int) := by omega
      have i1 : (k : Int) < (n' : Int) := by omega
      clear hS hcall hc hc2 hx hx2 hbx hbx2
      go_wp2_with fail
      go_region_held3 (fun w' => (w'.cell? ⟨b, off + k * 5, none⟩ = some (.int .i64 pid) ∧ w'.cell? ⟨b, off + k * 5 + 1, none⟩ = some (.int .i64 cnt) ∧ w'.cell? ⟨b, off + k * 5 + 2, none⟩ = some (.bool st) ∧ w'.cell? ⟨b, off + k * 5 + 3, none⟩ = some (.int .i64 clk) ∧ w'.cell? ⟨b, off + k * 5 + 4, none⟩ = some (.slice A1 n1 c1)) ∧ (w'.cell? ⟨b2, off2 + k * 5, none⟩ = some (.int .i64 pid) ∧ w'.cell? ⟨b2, off2 + k * 5 + 1, none⟩ = some (.int .i64 cnt) ∧ w'.cell? ⟨b2, off2 + k * 5 + 2, none⟩ = some (.bool st) ∧ w'.cell? ⟨b2, off2 + k * 5 + 3, none⟩ = some (.int .i64 clk) ∧ w'.cell? ⟨b2, off2 + k * 5 + 4, none⟩ = some (.slice A2 n2 c2))) (first | exact HS.out _ (Below.refl _ _) | exact HS.out _ hb3 | go_keep)
        ((go_at_call 17; ((with_reducible refine HC.out.mono ?_); rintro e w3 ⟨rfl, hb3⟩)))
      go_wp2_with fail
      go_roundw
      case rel => exact ⟨k + 1, by omega, by go_num, hb.drew.trans (hb3.mono hb.size)⟩
      case measure => (simp [intOf]; try omega)
    · have hkn : k = n' := by omega
      subst hkn
      go_wp2_with fail
      go_ret
      exact ⟨rfl, hb⟩
end Go.Proofs.Ytdnchjmopkhnaaa
