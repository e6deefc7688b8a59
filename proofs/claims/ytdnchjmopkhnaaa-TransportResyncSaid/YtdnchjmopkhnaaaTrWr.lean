/- written: the bytes of valid packets, one behind the other. -/
import Derived.Test.YtdnchjmopkhnaaaTrFe
import Derived.Test.YtdnchjmopkhnaaaTrCat
namespace Go.Proofs.Ytdnchjmopkhnaaa
open Go.RowKit
attribute [local go_sem ↓] Go.wp_at_zero Go.wp_at_succ

theorem datas_take {qs : List TA} {k : Nat} {x : TA} (hx : qs[k]? = some x) : catL (datas (qs.take (k + 1))) = catL (datas (qs.take k)) ++ x.p.bytes := by
  rw [List.take_add_one, hx]
  simp [datas, catL]
theorem cat_take_len {qs : List TA} (h : ∀ x ∈ qs, x.p.ok = true) (k : Nat) (hk : k ≤ 12) : (catL (datas (qs.take k))).length ≤ 2256 := by
  rw [catL_len (fun p hp => by
    obtain ⟨x, hx, rfl⟩ := List.mem_map.1 hp
    exact h x (List.mem_of_mem_take hx))]
  simp only [datas, List.length_map, List.length_take]
  omega
theorem tr_Put_pkt {q : Nat → Prop} (p : TP) (A : Option Addr) (n c : Nat) (w : World) (hl : Byt q w A n p.l) (hv : p.ok = true) :
    Calls Try.prog 11 #[.agg #[.int .i64 p.pid, .int .i64 p.cnt, .bool p.st, .int .i64 p.clk, .slice A n c]] w (RetPc w p.bytes 0) := by
  have hv' : validT p.pid p.cnt p.st p.clk n = true := by rw [← hl.len]; exact hv
  have hf := encL_form p.pid p.cnt p.st p.clk p.l n hl.len (validT_spec hv').2.2.2.1 (validT_spec hv').2.2.2.2.1
  have he : p.bytes = encL p.pid p.cnt p.st p.clk p.l n := by
    unfold TP.bytes
    rw [hl.len]
    exact hf.symm
  rw [he]
  exact tr_Put_okC p.pid p.cnt p.st p.clk A n c p.l w hl hv'

def WrRel (w : World) (qs : List TA) (n : Nat) (o i : Value) (wr : World) : Prop :=
  ∃ k : Nat, k ≤ n ∧ i = .int .i64 (k : Int) ∧ OwB wr w.heap.size 5 o (catL (datas (qs.take k))) ∧ Below w.heap.size w wr ∧ ∀ y ∈ catL (datas (qs.take k)), 0 ≤ y ∧ y ≤ 255

set_option maxRecDepth 100000 in
set_option maxHeartbeats 4000000 in
theorem law_written {p q : Nat → Prop} (A : Option Addr) (n c : Nat) (qs : List TA) (w : World) (h : TPks p q w A n qs) (hn : n ≤ 12) (hok : ∀ x ∈ qs, x.p.ok = true) :
    Calls Try.prog 23 #[.slice A n c] w fun e w' => ∃ A1 n1 c1, e = .returned (.tuple #[.slice A1 n1 c1, .bool true]) ∧ Byt (w.heap.size ≤ ·) w' A1 n1 (catL (datas qs)) ∧ Below w.heap.size w w' ∧ n1 ≤ c1 := by
  have H := Lib.hid h
  have HOK := Lib.hid hok
  clear h hok
  go_enter Try.func23, Try.ntmps23
  go_wp2_with fail
  go_loopw [4, 5] (fun o i wr => WrRel w qs n o i wr) (fun _ i _ => n - (intOf i).toNat)
  case atStart => exact ⟨0, Nat.zero_le _, rfl, OwB.nil, Below.refl _ _, by simp [datas, catL]⟩
  case round =>
    obtain ⟨k, hk, rfl, ho, hb, hrg⟩ := hrel
    have HRG := Lib.hid hrg
    clear hrg
    obtain ⟨Ao, co, rfl, hko⟩ := ho.slice
    by_cases hlt : k < n
    · obtain ⟨b, off, x, rfl, hbl, hx, hbx, hc0, hc1, hc2, hc3, hc4⟩ := (H.out.ext hb).at_ hlt
      have HX := Lib.hid hx
      have HV := Lib.hid (HOK.out x (List.mem_of_getElem? hx))
      have HBX := Lib.hid hbx
      have HO := Lib.hid ho
      have HKO := Lib.hid hko
      obtain ⟨xp, A1, n1, c1⟩ := x
      dsimp only at hc0 hc1 hc2 hc3 hc4
      clear hx hbx ho hko
      have i0 : (0 : Int) ≤ (k : Int) := by omega
      have i1 : (k : Int) < (n : Int) := by omega
      go_wp2_with fail
      refine (law_tgiven xp.pid xp.cnt xp.st xp.clk A1 n1 c1 _).mono ?_
      rintro e w3 ⟨rfl, hb3⟩
      have B3 := hb.trans (hb3.mono hb.size)
      go_wp2_with fail
      refine (tr_Put_pkt xp A1 n1 c1 _ (HBX.out.ext hb3) HV.out).mono ?_
      rintro e w4 ⟨A4, n4, c4, rfl, hB4, hb4, hk4⟩
      have B4 := B3.trans (hb4.mono B3.size)
      have z4 := B4.size
      have o4 := (HO.out.ext hb3).ext hb4
      have hl4 : n4 ≤ 188 := by rw [← hB4.len, TP.len HV.out]; omega
      have hlo := cat_take_len HOK.out k (by omega)
      go_wp2_with (first | (at_builtin; go_must (refine wpList_appB _ rfl _ _ 22 rfl 5 Try.underlying22 Try.infoB w.heap.size _ _ rfl o4 A4 n4 c4 _ rfl hB4 (by omega) z4 ?_; intro v5 w5 ho5 hg5 hat5)))
      have B5 := B4.grown hg5 z4 (fun k hk => (o4.lt k hk).1)
      go_wp2_with fail
      go_roundw
      case rel => exact ⟨k + 1, by omega, by go_num, by rw [datas_take HX.out]; exact ho5, B5, by
        rw [datas_take HX.out]
        intro y hy
        rcases List.mem_append.1 hy with h | h
        · exact HRG.out y h
        · exact hB4.rng y h⟩
      case measure => (simp [intOf]; try omega)
    · have hkn : k = n := by omega
      subst hkn
      have htk : qs.take k = qs := List.take_of_length_le (by rw [H.out.1]; omega)
      have hr := HRG.out
      rw [htk] at ho hr hko
      have HR := Lib.hid hr
      clear hr
      go_wp2_with fail
      go_ret2
      exact ⟨_, _, _, rfl, by rw [htk]; exact OwB.byt ho (fun b h => h) HR.out, hb, by rw [htk]; exact hko⟩
end Go.Proofs.Ytdnchjmopkhnaaa
