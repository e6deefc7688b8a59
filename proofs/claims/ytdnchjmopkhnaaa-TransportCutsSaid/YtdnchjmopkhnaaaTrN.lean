/- Plain: what the bytes of a packet are read as. -/
import Derived.Test.YtdnchjmopkhnaaaTrY
namespace Go.Proofs.Ytdnchjmopkhnaaa
open Go.RowKit

def fromP (x3 x4 : Int) : Int := if x3 / 16 = 1 then 4 else 5 + x4
def sixV (x6 x7 x8 x9 x10 x11 : Int) : Int := ((((x6 * 256 + x7) * 256 + x8) * 256 + x9) * 256 + x10) * 256 + x11
def clkP (x3 x4 x5 V : Int) : Int := if 12 ≤ fromP x3 x4 ∧ x5 = 16 then V / 32768 * 300 + V % 512 else -1
def fromR (x3 x4 : Int) : Int := if x3 / 32 % 2 = 1 then min (5 + x4) 188 else 4
def clkR (x3 x4 x5 V : Int) : Int := if x3 / 32 % 2 = 1 ∧ 6 < x4 ∧ x5 / 16 % 2 = 1 then V / 32768 * 300 + V % 512 else -1

theorem validT_spec {pid cnt : Int} {st : Bool} {clk : Int} {n : Nat} (hv : validT pid cnt st clk n = true) :
    (0 ≤ pid ∧ pid < 8192) ∧ (0 ≤ cnt ∧ cnt < 16) ∧ (-1 ≤ clk ∧ clk < 2576980377600) ∧ n ≤ 184 ∧ (clk = -1 ∨ n ≤ 176) ∧ (st = false ∨ 0 < n) := by
  unfold validT at hv
  have hv := of_decide_eq_true hv
  unfold roomT at hv
  obtain ⟨h1, h2, h3, h4, h5, h6, h7, h8⟩ := hv
  have h8' : n ≤ 184 ∧ (clk = -1 ∨ n ≤ 176) := by split at h7 <;> omega
  exact ⟨⟨h1, h2⟩, ⟨h3, h4⟩, ⟨h5, h6⟩, h8'.1, h8'.2, h8⟩
theorem sixV_clk (v : Int) (h0 : 0 ≤ v) (h1 : v < 281474976710656) : sixV (v / 2 ^ 40 % 256) (v / 2 ^ 32 % 256) (v / 2 ^ 24 % 256) (v / 2 ^ 16 % 256) (v / 2 ^ 8 % 256) (v / 2 ^ 0 % 256) = v := by
  unfold sixV
  simp only [show (2 : Int) ^ 40 = 1099511627776 from rfl, show (2 : Int) ^ 32 = 4294967296 from rfl, show (2 : Int) ^ 24 = 16777216 from rfl, show (2 : Int) ^ 16 = 65536 from rfl, show (2 : Int) ^ 8 = 256 from rfl, show (2 : Int) ^ 0 = 1 from rfl]
  omega
structure Read12 (l : List Int) (x0 x1 x2 x3 x4 x5 x6 x7 x8 x9 x10 x11 : Int) : Prop where
  h0 : l[0]? = some x0
  h1 : l[1]? = some x1
  h2 : l[2]? = some x2
  h3 : l[3]? = some x3
  h4 : l[4]? = some x4
  h5 : l[5]? = some x5
  h6 : l[6]? = some x6
  h7 : l[7]? = some x7
  h8 : l[8]? = some x8
  h9 : l[9]? = some x9
  h10 : l[10]? = some x10
  h11 : l[11]? = some x11
theorem read12 (l : List Int) (h : l.length = 188) : ∃ x0 x1 x2 x3 x4 x5 x6 x7 x8 x9 x10 x11, Read12 l x0 x1 x2 x3 x4 x5 x6 x7 x8 x9 x10 x11 :=
  ⟨l[0], l[1], l[2], l[3], l[4], l[5], l[6], l[7], l[8], l[9], l[10], l[11], List.getElem?_eq_getElem _, List.getElem?_eq_getElem _, List.getElem?_eq_getElem _, List.getElem?_eq_getElem _, List.getElem?_eq_getElem _, List.getElem?_eq_getElem _, List.getElem?_eq_getElem _, List.getElem?_eq_getElem _, List.getElem?_eq_getElem _, List.getElem?_eq_getElem _, List.getElem?_eq_getElem _, List.getElem?_eq_getElem _⟩

/-- A packet's bytes are read as the packet: in the program's way and in the reference's. -/
theorem cand_enc {l pl : List Int} {x0 x1 x2 x3 x4 x5 x6 x7 x8 x9 x10 x11 : Int} (hx : Read12 l x0 x1 x2 x3 x4 x5 x6 x7 x8 x9 x10 x11) {pid cnt : Int} {st : Bool} {clk : Int} {n : Nat} (hv : validT pid cnt st clk n = true) (hpl : pl.length = n) (hl : pktL pid cnt st clk pl n = l) :
    x0 = 71 ∧ x1 % 32 * 256 + x2 = pid ∧ x3 % 16 = cnt ∧ (x1 / 64 % 2 = 1 ↔ st = true) ∧ fromP x3 x4 = 188 - n ∧ clkP x3 x4 x5 (sixV x6 x7 x8 x9 x10 x11) = clk ∧ fromR x3 x4 = 188 - n ∧ clkR x3 x4 x5 (sixV x6 x7 x8 x9 x10 x11) = clk ∧ l.drop (188 - n) = pl := by
  obtain ⟨hp, hc, hk, hn, hrm, hst⟩ := validT_spec hv
  have hd : l.drop (188 - n) = pl := by
    rw [← hl]
    unfold pktL
    rw [List.drop_left' (by rw [List.length_append, midT_len clk n hn hrm]; simp [headT]; omega)]
  have e0 := hx.h0
  have e1 := hx.h1
  have e2 := hx.h2
  have e3 := hx.h3
  rw [← hl] at e0 e1 e2 e3
  simp only [pktL, headT, List.cons_append, List.getElem?_cons_zero, List.getElem?_cons_succ, Option.some.injEq] at e0 e1 e2 e3
  have hct := ctlT_rng (n : Int)
  have est : (x1 / 64 % 2 = 1 ↔ st = true) ∧ x1 % 32 * 256 + x2 = pid := by
    cases st <;> simp at e1 ⊢ <;> omega
  refine ⟨e0.symm, est.2, by omega, est.1, ?_, ?_, ?_, ?_, hd⟩
  all_goals
    by_cases h184 : n = 184
    · have h3 : x3 / 16 = 1 := by
        rw [← e3]
        unfold ctlT
        rw [if_pos (by omega)]
        omega
      have hm1 : clk = -1 := by omega
      have f1 : fromP x3 x4 = 4 := by unfold fromP; rw [if_pos h3]
      have g1 : ¬ x3 / 32 % 2 = 1 := by omega
      first
        | (rw [f1]; omega)
        | (unfold clkP; rw [f1, if_neg (fun h => absurd h.1 (by omega))]; omega)
        | (unfold fromR; rw [if_neg g1]; omega)
        | (unfold clkR; rw [if_neg (fun h => g1 h.1)]; omega)
    · have h3 : x3 / 16 = ctlT (n : Int) ∧ ¬ ctlT (n : Int) = 1 ∧ (x3 / 32 % 2 = 1) := by
        have : ctlT (n : Int) = 2 ∨ ctlT (n : Int) = 3 := by unfold ctlT; rw [if_neg (by omega)]; split <;> omega
        omega
      have e4 := hx.h4
      rw [← hl] at e4
      simp only [pktL, headT, midT, if_neg h184, List.cons_append, List.nil_append, List.getElem?_cons_zero, List.getElem?_cons_succ, Option.some.injEq] at e4
      have hfp : fromP x3 x4 = 188 - n := by
        unfold fromP
        rw [if_neg (by omega)]
        omega
      first
        | exact hfp
        | (unfold fromR; rw [if_pos h3.2.2]; omega)
        | (simp only [clkP, clkR, hfp]
           by_cases hbig : n ≤ 176
           · have e5 := hx.h5
             rw [← hl] at e5
             simp only [pktL, headT, midT, if_neg h184, if_neg (show ¬ n = 183 by omega), List.cons_append, List.nil_append, List.getElem?_cons_zero, List.getElem?_cons_succ] at e5
             by_cases hc1 : clk = -1
             · rw [if_pos hc1] at e5
               simp at e5
               rw [if_neg (by omega)]
               omega
             · have e6 := hx.h6
               have e7 := hx.h7
               have e8 := hx.h8
               have e9 := hx.h9
               have e10 := hx.h10
               have e11 := hx.h11
               rw [← hl] at e6 e7 e8 e9 e10 e11
               simp only [pktL, headT, midT, if_neg h184, if_neg (show ¬ n = 183 by omega), if_neg hc1, clkB, List.cons_append, List.nil_append, List.getElem?_cons_zero, List.getElem?_cons_succ, Option.some.injEq] at e6 e7 e8 e9 e10 e11
               rw [if_neg hc1] at e5
               simp at e5
               rw [← e6, ← e7, ← e8, ← e9, ← e10, ← e11, sixV_clk (clkV clk) (by unfold clkV; omega) (by unfold clkV; omega)]
               rw [if_pos (by omega)]
               unfold clkV
               omega
           · rw [if_neg (by omega)]
             omega)

end Go.Proofs.Ytdnchjmopkhnaaa
