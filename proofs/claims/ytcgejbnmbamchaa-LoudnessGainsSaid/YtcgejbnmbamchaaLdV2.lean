/- cutroomlaw28.made. -/
import Derived.Test.YtcgejbnmbamchaaLdV
import Derived.Deep.RegionLaw
namespace Go.Proofs.Ytcgejbnmbamchaa
open Go.RowKit
attribute [local go_sem ↓] Go.wp_at_zero Go.wp_at_succ

/-- The state of made behind k parts. -/
def MdInv (w wr : World) (A : Option Addr) (n c pos : Nat) (L : List Int) (rows : List Value) (C : Nat) (ch : Nat → List Int) : Prop :=
  TapeAt wr w.heap.size A n c pos L ∧ rows.length = C ∧ Own2 wr (w.heap.size + 1) (w.heap.size + 2) rows ch ∧ Below w.heap.size w wr
def MdRel (w : World) (A : Option Addr) (n c : Nat) (L : List Int) (most : Nat) (v : Value) (wr : World) : Prop :=
  ∃ (k : Nat) (rows : List Value), v = .int .i64 ((parts L : Int) - (k : Int)) ∧ k ≤ parts L ∧ MdInv w wr A n c (2 + 3 * k) L rows (chans L) (fun d => chanK L most d k)

def MdRel2 (w : World) (A : Option Addr) (n c pos : Nat) (L : List Int) (most k C : Nat) (v : Value) (wr : World) : Prop :=
  ∃ (ci : Nat) (rows : List Value), v = .int .i64 (ci : Int) ∧ ci ≤ C ∧ MdInv w wr A n c pos L rows C (mdCh L most k ci 0)
def MdRel3 (w : World) (A : Option Addr) (n c pos : Nat) (L : List Int) (most k C ci nn : Nat) (v : Value) (wr : World) : Prop :=
  ∃ (i : Nat) (rows : List Value), v = .int .i64 (i : Int) ∧ i ≤ nn ∧ MdInv w wr A n c pos L rows C (mdCh L most k ci i)
theorem MdInv.cong {w w1 : World} {A : Option Addr} {n c pos : Nat} {L : List Int} {rows : List Value} {C : Nat} {ch ch' : Nat → List Int} (h : MdInv w w1 A n c pos L rows C ch) (hc : ∀ d, d < C → ch' d = ch d) : MdInv w w1 A n c pos L rows C ch' :=
  ⟨h.1, h.2.1, h.2.2.1.cong (fun d hd => hc d (by rw [← h.2.1]; exact hd)), h.2.2.2⟩
theorem MdInv.grow {w wr w3 : World} {A : Option Addr} {n c pos ci M : Nat} {L : List Int} {rows : List Value} {C : Nat} {ch ch' : Nat → List Int} {v v3 : Value} {y : Int} {o : Obj} (h : MdInv w wr A n c pos L rows C ch) (hI : Its .i64 (· < w.heap.size) w A n L)
    (hv : rows[ci]? = some v) (hM : M = (ch ci).length) (ho : w3.ownsRow (w.heap.size + 2) 49 1 v3 (M + 1) ((ch ci).map (Value.int .i16) ++ [.int .i16 y])) (hg : (wr.drew.alloc o).grownBy w3 v.ownBlock) (ha : v3.ownBlock = v.ownBlock ∨ v3.ownBlock = some (wr.drew.alloc o).heap.size)
    (hl : ch ci ++ [y] = ch' ci) (hc : ∀ d, d ≠ ci → ch' d = ch d) : MdInv w (w3.setCell ⟨w.heap.size + 1, ci, none⟩ v3) A n c pos L (rows.set ci v3) C ch' := by
  obtain ⟨hT, hrl, hO, hB⟩ := h
  have hb0 : Below wr.heap.size wr (wr.drew.alloc o) := (Below.refl _ wr).drew.alloc (Nat.le_refl _) o
  have hO1 := hO.ext hb0
  have hb1 : Below w.heap.size w (wr.drew.alloc o) := hB.trans (hb0.mono hB.size)
  have hb2 : Below w.heap.size w (w3.setCell ⟨w.heap.size + 1, ci, none⟩ v3) := bset (hb1.grown hg hb1.size (fun k hk => by have := (World.ownsRow.lt (hO1.own ci v hv) k hk).1; omega)) _ (by dsimp only; omega) _
  have hne : some w.heap.size ≠ v.ownBlock := own_ne (hO1.own ci v hv) (.inl (by omega))
  refine ⟨⟨(((hT.1.ext hb0).grown hg hne).far (a := ⟨w.heap.size + 1, ci, none⟩) (by dsimp only; omega) _), ((hI.keep (fun b hb _ => hb2.block b hb)).mono (fun b _ hb => by omega))⟩, by rw [List.length_set]; exact hrl, ?_, hb2⟩
  refine hO1.grow (l' := ch' ci) hv ?_ hg ha rfl hc
  unfold OwS
  rw [← hl, List.length_append, List.map_append, ← hM]
  exact ho
def selV (most : Nat) : Array Value := #[.int .i64 0, .int .i64 3, .int .i64 ((most / 40 : Nat) : Int), .int .i64 ((most / 3 : Nat) : Int), .int .i64 (most : Int)]
theorem selV_at {most k : Nat} (hk : k < 5) : (selV most)[k]? = some (.int .i64 (selH most k : Int)) := by
  rcases (by omega : k = 0 ∨ k = 1 ∨ k = 2 ∨ k = 3 ∨ k = 4) with rfl | rfl | rfl | rfl | rfl <;> rfl
/-- What the operations of a part's head yield. -/
def mdVal (g gl most r1 r2 r3 : Nat) : Nat → Value
  | 0 => .pointer (some ⟨g, 0, none⟩)
  | 1 => .int .i64 (r1 : Int)
  | 2 => .int .i64 (60 * (r1 : Int))
  | 3 => .int .i64 (most : Int)
  | 4 => .int .i64 ((most / 40 : Nat) : Int)
  | 5 => .int .i64 (most : Int)
  | 6 => .int .i64 ((most / 3 : Nat) : Int)
  | 7 => .int .i64 (most : Int)
  | 8 => .slice (some ⟨gl, 0, none⟩) 5 5
  | 9 => .pointer (some ⟨g, 0, none⟩)
  | 10 => .int .i64 (r2 : Int)
  | 11 => .pointer (some ⟨gl, r2, none⟩)
  | 12 => .int .i64 (selH most r2 : Int)
  | 13 => .pointer (some ⟨g, 0, none⟩)
  | 14 => .int .i64 (r3 : Int)
  | 15 => .int .i64 (1 + (r3 : Int))
  | 16 => .int .i64 (60 * (r1 : Int))
  | 17 => .int .i64 (selH most r2 : Int)
  | _ => .int .i64 (1 + (r3 : Int))
def cnt (b : Bool) : Nat := if b = true then 1 else 0
/-- The world in a part's head: which calls are done, and whether the row of heights is laid. -/
def mdS (w wr : World) (A : Option Addr) (n c pos : Nat) (L : List Int) (rows : List Value) (C most : Nat) (ch : Nat → List Int) (b1 b8 b10 b14 : Bool) (w' : World) : Prop :=
  MdInv w w' A n c (pos + cnt b1 + cnt b10 + cnt b14) L rows C ch ∧ w'.heap.size = wr.heap.size + cnt b8 ∧ (b8 = true → Bx w' wr.heap.size 3 (selV most))
theorem MdInv.next {w w1 w2 : World} {A : Option Addr} {n c pos r : Nat} {L : List Int} {rows : List Value} {C : Nat} {ch : Nat → List Int} {e : Ending} (h : MdInv w w1 A n c pos L rows C ch) (hx : NextS w1 w.heap.size pos r e w2) :
    e = .returned (.int .i64 (r : Int)) ∧ MdInv w w2 A n c (pos + 1) L rows C ch ∧ w2.heap.size = w1.heap.size ∧ ∀ b, b ≠ w.heap.size → w2.heap[b]? = w1.heap[b]? := by
  obtain ⟨he, T, B, z, k⟩ := hx.facts h.1 h.2.2.2 (Nat.le_refl _)
  refine ⟨he, ⟨T, h.2.1, ?_, B⟩, z, k⟩
  obtain ⟨_, m, rfl⟩ := hx
  exact h.2.2.1.keep (g := w.heap.size) (by omega) (by omega) k z rfl rfl rfl
theorem MdInv.ext {w w1 w2 : World} {A : Option Addr} {n c pos : Nat} {L : List Int} {rows : List Value} {C : Nat} {ch : Nat → List Int} (h : MdInv w w1 A n c pos L rows C ch) (hb : Below w1.heap.size w1 w2) : MdInv w w2 A n c pos L rows C ch :=
  ⟨h.1.ext hb, h.2.1, h.2.2.1.ext hb, h.2.2.2.trans (hb.mono h.2.2.2.size)⟩

set_option maxRecDepth 100000 in
set_option maxHeartbeats 4000000 in
theorem law_madeO (A : Option Addr) (n c : Nat) (L : List Int) (most : Nat) (w : World) (h : Its .i64 (· < w.heap.size) w A n L) (hok : IntsOk L) (h3 : 3 ≤ most) (h4 : most ≤ 32767) :
    Calls Try.prog 13 #[.slice A n c, .int .i64 (most : Int)] w fun e w' => ∃ rows, e = .returned (.slice (some ⟨w.heap.size + 1, 0, none⟩) (chans L) (chans L)) ∧ rows.length = chans L ∧ Own2 w' (w.heap.size + 1) (w.heap.size + 2) rows (fun d => chanK L most d (parts L)) ∧ Below w.heap.size w w' := by
  have T0 : TapeAt (w.alloc (.cells #[.slice A n c, .int .i64 0] 57)) w.heap.size A n c 0 L := ⟨Bx.new w _ _, (h.mono (q := fun b => b ≠ w.heap.size) (fun b hb h => by omega)).alloc _⟩
  have B0 := (Below.refl w.heap.size w).alloc (Nat.le_refl _) (.cells #[.slice A n c, .int .i64 0] 57)
  have z0 : (w.alloc (.cells #[.slice A n c, .int .i64 0] 57)).heap.size = w.heap.size + 1 := by simp
  have hmk := run_mkCh (chans L) (by have := chans_le L; omega)
  have hcl := chans_le L
  have hCr : (1 : Int) + (nxt L 0 2 : Nat) = (chans L : Int) := by unfold chans; omega
  obtain ⟨C, hC⟩ : ∃ C, C = chans L := ⟨_, rfl⟩
  rw [← hC] at hmk hcl hCr
  have HC := Lib.hid hC
  have HOK := Lib.hid hok
  have HH := Lib.hid h
  have HT0 := Lib.hid T0
  obtain ⟨r0, hr0⟩ : ∃ r0, r0 = nxt L 0 2 := ⟨_, rfl⟩
  have hr0b : r0 < 2 := by rw [hr0]; exact nxt_lt _ _ (by omega)
  rw [← hr0] at hCr
  have HR0 := Lib.hid hr0
  clear hC hok h T0 hr0
  go_enter Try.func13, Try.ntmps13
  go_upto_region 2 with fail
  generalize w.alloc (.cells #[.slice A n c, .int .i64 0] 57) = W at *
  go_wp2_with fail
  refine (tape_Next w.heap.size A n c 0 L 2 W HT0.out HOK.out (by omega) (by omega) (by omega)).mono ?_
  intro e w1 hx
  obtain ⟨rfl, T1, B1, z1, -⟩ := hx.facts HT0.out B0 (Nat.le_refl _)
  clear hx
  rw [← HR0.out]
  have HT1 := Lib.hid T1
  clear T1 B0
  go_upto_region 3 with fail
  have T2 := HT1.out.ext ((Below.refl _ w1).alloc (Nat.le_refl _) (.cells (Array.replicate C (.slice none 0 0)) 44))
  have O2 : Own2 (w1.alloc (.cells (Array.replicate C (.slice none 0 0)) 44)) (w.heap.size + 1) (w.heap.size + 2) (List.replicate C (.slice none 0 0)) (fun d => chanK L most d 0) :=
    ⟨by rw [List.toArray_replicate]; exact Bx.new' _ _ _ _ (by omega), fun d v hv => by rw [List.eq_of_mem_replicate (List.mem_of_getElem? hv)]; exact OwS.nil, fun d e vd ve _ hd _ => by rw [List.eq_of_mem_replicate (List.mem_of_getElem? hd)]; exact .inl rfl, by omega⟩
  have B2 := B1.alloc B1.size (.cells (Array.replicate C (.slice none 0 0)) 44)
  generalize w1.alloc (.cells (Array.replicate C (.slice none 0 0)) 44) = w2 at *
  have HT2 := Lib.hid T2
  have HO2 := Lib.hid O2
  clear T2 O2 HT1 B1 hmk
  go_wp2_with fail
  refine (tape_Next w.heap.size A n c 1 L 7 w2 HT2.out HOK.out (by omega) (by omega) (by omega)).mono ?_
  intro e w3 hx
  obtain ⟨rfl, T3, B3, z3, k3⟩ := hx.facts HT2.out B2 (Nat.le_refl _)
  have O3 : Own2 w3 (w.heap.size + 1) (w.heap.size + 2) (List.replicate C (.slice none 0 0)) (fun d => chanK L most d 0) := by
    obtain ⟨_, m, rfl⟩ := hx
    exact HO2.out.keep (g := w.heap.size) (by omega) (by omega) k3 z3 rfl rfl rfl
  have hpl := parts_le L
  obtain ⟨P, hP⟩ : ∃ P, P = parts L := ⟨_, rfl⟩
  rw [show nxt L 1 7 = P from hP.symm]
  have HPP := Lib.hid hP
  have HI3 := Lib.hid (And.intro T3 (And.intro O3 B3))
  rw [← hP] at hpl
  clear hx T3 O3 B3 HT2 HO2 B2 k3 hP
  go_wp2_with fail
  go_loopw [7] (fun v wr => MdRel w A n c L most v wr) (fun v _ => (intOf v).toNat)
  case atStart => exact ⟨0, _, by simp [← HPP.out], Nat.zero_le _, HI3.out.1, by simp [HC.out], HI3.out.2.1, HI3.out.2.2⟩
  case round =>
    obtain ⟨k, rows, rfl, hk, hT, hrl, hO, hB⟩ := hrel
    rw [← HPP.out] at hk ⊢
    clear HI3
    have HT := Lib.hid hT
    have HO := Lib.hid hO
    clear hT hO
    by_cases hlt : k < P
    · have hkz : decide (0 < (P : Int) - (k : Int)) = true := decide_eq_true (by omega)
      go_upto_region 6 with fail
      obtain ⟨r1, hr1⟩ : ∃ r1, r1 = nxt L (2 + 3 * k) 12 := ⟨_, rfl⟩
      obtain ⟨r2, hr2⟩ : ∃ r2, r2 = nxt L (3 + 3 * k) 5 := ⟨_, rfl⟩
      obtain ⟨r3, hr3⟩ : ∃ r3, r3 = nxt L (4 + 3 * k) 90 := ⟨_, rfl⟩
      have b1 : r1 < 12 := by rw [hr1]; exact nxt_lt _ _ (by omega)
      have b2 : r2 < 5 := by rw [hr2]; exact nxt_lt _ _ (by omega)
      have b3 : r3 < 90 := by rw [hr3]; exact nxt_lt _ _ (by omega)
      have HRR := Lib.hid (And.intro hr1 (And.intro hr2 hr3))
      have HINV : Hid (MdInv w wr A n c (2 + 3 * k) L rows C (fun d => chanK L most d k)) := Lib.hid ⟨HT.out, by rw [hrl, HC.out], HO.out, hB⟩
      have hO' : w.heap.size < wr.heap.size := HT.out.1.lt
      obtain ⟨ch, hch⟩ : ∃ ch : Nat → List Int, ch = fun d => chanK L most d k := ⟨_, rfl⟩
      have HCH := Lib.hid hch
      rw [← hch] at HINV HO
      clear hr1 hr2 hr3 hch
      refine wp_region_fixed (mdVal w.heap.size wr.heap.size most r1 r2 r3) (fun D w' => mdS w wr A n c (2 + 3 * k) L rows C most ch (D 1) (D 8) (D 10) (D 14) w') (by kernel_rfl) (by kernel_rfl) (by kernel_rfl) (by kernel_rfl) ?h0 ?hstep ?hend
      case h0 => exact ⟨HINV.out.ext (Below.refl _ _).drew, by simp [cnt], fun h => by cases h⟩
      case hstep =>
        intro i o ho D a wx fr hG hcl hDi hpre
        have o1 : a.tmps[1]?.getD undef = .int .i64 (most : Int) := fr.oldT 1 rfl
        have o5 : a.tmps[5]?.getD undef = .pointer (some ⟨w.heap.size, 0, none⟩) := fr.oldT 5 rfl
        have hi19 : i < 19 := (List.getElem?_eq_some_iff.1 ho).1
        rcases (show i = 0 ∨ i = 1 ∨ i = 2 ∨ i = 3 ∨ i = 4 ∨ i = 5 ∨ i = 6 ∨ i = 7 ∨ i = 8 ∨ i = 9 ∨ i = 10 ∨ i = 11 ∨ i = 12 ∨ i = 13 ∨ i = 14 ∨ i = 15 ∨ i = 16 ∨ i = 17 ∨ i = 18 by omega) with rfl | rfl | rfl | rfl | rfl | rfl | rfl | rfl | rfl | rfl | rfl | rfl | rfl | rfl | rfl | rfl | rfl | rfl | rfl
        all_goals (simp only [List.getElem?_cons_zero, List.getElem?_cons_succ, Option.some.injEq] at ho; subst ho)
        · refine wp_value (w' := wx) ?_ ⟨rfl, hG⟩
          simp [execOp, o5, mdVal, go_sem]
        · have d0 : D 0 = true := hpre ⟨0, .data⟩ (by simp) rfl
          have f0 := fr.atT 0 d0 rfl
          have f0' := fr.at_ 0 d0 rfl
          have e10 : D 10 = false := by
            cases h : D 10 with
            | false => rfl
            | true => have := hcl 10 _ rfl h ⟨1, .chain⟩ (by simp) rfl; rw [hDi] at this; cases this
          have e14 : D 14 = false := by
            cases h : D 14 with
            | false => rfl
            | true => have := hcl 14 _ rfl h ⟨10, .chain⟩ (by simp) rfl; rw [e10] at this; cases this
          obtain ⟨g1, g2, g3⟩ := hG
          rw [hDi, e10, e14] at g1
          refine wp_called (f := 31) (args := #[.pointer (some ⟨w.heap.size, 0, none⟩), .int .i64 ((12 : Nat) : Int)]) ?_ (tape_Next w.heap.size A n c (2 + 3 * k) L 12 wx g1.1 HOK.out (by omega) (by omega) (by omega)) ?_
          · simp [execOp, resolve, invoke, f0, f0', mdVal, go_sem]
          · intro e w' hx
            obtain ⟨he, n1, n2, n3⟩ := MdInv.next (pos := 2 + 3 * k) g1 hx
            refine ⟨_, he, by rw [HRR.out.1.symm]; rfl, ?_, ?_, ?_⟩
            · show MdInv w w' A n c (2 + 3 * k + cnt true + cnt (D 10) + cnt (D 14)) L rows C ch
              rw [e10, e14]; exact n1
            · exact n2.trans g2
            · exact fun h8 => (g3 h8).keep (n3 _ (by have := hB.size; have := g1.2.2.1.box.lt; have := hO'; omega))
        · have f0 := fr.atT 1 (hpre ⟨1, .data⟩ (by simp) rfl) rfl
          refine wp_value (w' := wx) ?_ ⟨rfl, hG⟩
          have e1 : IntKind.i64.wrap (60 * (r1 : Int)) = 60 * (r1 : Int) := IntWalk.i64_in _ (by omega)
          simp [execOp, f0, mdVal, go_sem, e1]
        · refine wp_value (w' := wx) ?_ ⟨rfl, hG⟩
          simp [execOp, o1, mdVal, go_sem]
        · have f0 := fr.atT 3 (hpre ⟨3, .data⟩ (by simp) rfl) rfl
          refine wp_value (w' := wx) ?_ ⟨rfl, hG⟩
          have e1 : IntKind.i64.wrap ((most : Int) / 40) = (most : Int) / 40 := IntWalk.i64_in _ (by omega)
          have e2 : (most : Int).tdiv 40 = (most : Int) / 40 := Int.tdiv_eq_ediv_of_nonneg (by omega)
          simp [execOp, f0, mdVal, go_sem, e1, e2]
        · refine wp_value (w' := wx) ?_ ⟨rfl, hG⟩
          simp [execOp, o1, mdVal, go_sem]
        · have f0 := fr.atT 5 (hpre ⟨5, .data⟩ (by simp) rfl) rfl
          refine wp_value (w' := wx) ?_ ⟨rfl, hG⟩
          have e1 : IntKind.i64.wrap ((most : Int) / 3) = (most : Int) / 3 := IntWalk.i64_in _ (by omega)
          have e2 : (most : Int).tdiv 3 = (most : Int) / 3 := Int.tdiv_eq_ediv_of_nonneg (by omega)
          simp [execOp, f0, mdVal, go_sem, e1, e2]
        · refine wp_value (w' := wx) ?_ ⟨rfl, hG⟩
          simp [execOp, o1, mdVal, go_sem]
        · have f4 := fr.atT 4 (hpre ⟨4, .data⟩ (by simp) rfl) rfl
          have f6 := fr.atT 6 (hpre ⟨6, .data⟩ (by simp) rfl) rfl
          have f7 := fr.atT 7 (hpre ⟨7, .data⟩ (by simp) rfl) rfl
          obtain ⟨g1, g2, g3⟩ := hG
          rw [hDi] at g2
          have hsz : wx.heap.size = wr.heap.size := g2
          refine wp_value (w' := wx.alloc (.cells (selV most) 3)) ?_ ⟨rfl, g1.ext ((Below.refl _ wx).alloc (Nat.le_refl _) _), ?_, fun _ => Bx.new' _ _ _ _ hsz.symm⟩
          · simp [execOp, f4, f6, f7, mdVal, go_sem, selV, hsz]
          · show (wx.alloc _).heap.size = wr.heap.size + cnt true
            rw [World.size_alloc, hsz]; rfl
        · refine wp_value (w' := wx) ?_ ⟨rfl, hG⟩
          simp [execOp, o5, mdVal, go_sem]
        · have d0 : D 9 = true := hpre ⟨9, .data⟩ (by simp) rfl
          have f0 := fr.atT 9 d0 rfl
          have f0' := fr.at_ 9 d0 rfl
          have e1 : D 1 = true := hpre ⟨1, .chain⟩ (by simp) rfl
          have e14 : D 14 = false := by
            cases h : D 14 with
            | false => rfl
            | true => have := hcl 14 _ rfl h ⟨10, .chain⟩ (by simp) rfl; rw [hDi] at this; cases this
          obtain ⟨g1, g2, g3⟩ := hG
          rw [e1, hDi, e14] at g1
          refine wp_called (f := 31) (args := #[.pointer (some ⟨w.heap.size, 0, none⟩), .int .i64 ((5 : Nat) : Int)]) ?_ (tape_Next w.heap.size A n c (3 + 3 * k) L 5 wx (by have := g1.1; rwa [show 2 + 3 * k + cnt true + cnt false + cnt false = 3 + 3 * k by simp [cnt]; omega] at this) HOK.out (by omega) (by omega) (by omega)) ?_
          · simp [execOp, resolve, invoke, f0, f0', mdVal, go_sem]
          · intro e w' hx
            obtain ⟨he, n1, n2, n3⟩ := MdInv.next (pos := 3 + 3 * k) (by rwa [show 2 + 3 * k + cnt true + cnt false + cnt false = 3 + 3 * k by simp [cnt]; omega] at g1) hx
            refine ⟨_, he, by rw [HRR.out.2.1.symm]; rfl, ?_, ?_, ?_⟩
            · show MdInv w w' A n c (2 + 3 * k + cnt (D 1) + cnt true + cnt (D 14)) L rows C ch
              rw [e1, e14, show 2 + 3 * k + cnt true + cnt true + cnt false = 3 + 3 * k + 1 by simp [cnt]; omega]; exact n1
            · exact n2.trans g2
            · exact fun h8 => (g3 h8).keep (n3 _ (by have := hO'; omega))
        · have d8 : D 8 = true := hpre ⟨8, .data⟩ (by simp) rfl
          have f8 := fr.atT 8 d8 rfl
          have f10 := fr.atT 10 (hpre ⟨10, .data⟩ (by simp) rfl) rfl
          have hb := hG.2.2 d8
          have hc := hb.cell r2 (selV_at b2)
          have b2z : (r2 : Int) < 5 := by omega
          refine wp_value (w' := wx) ?_ ⟨rfl, hG⟩
          simp [execOp, f8, f10, mdVal, go_sem, b2z]
        · have d11 : D 11 = true := hpre ⟨11, .data⟩ (by simp) rfl
          have f11 := fr.atT 11 d11 rfl
          have d8 : D 8 = true := hcl 11 _ rfl d11 ⟨8, .data⟩ (by simp) rfl
          have hb := hG.2.2 d8
          have hc := hb.cell r2 (selV_at b2)
          refine wp_value (w' := wx) ?_ ⟨rfl, hG⟩
          simp [execOp, f11, mdVal, go_sem, hc]
        · refine wp_value (w' := wx) ?_ ⟨rfl, hG⟩
          simp [execOp, o5, mdVal, go_sem]
        · have d0 : D 13 = true := hpre ⟨13, .data⟩ (by simp) rfl
          have f0 := fr.atT 13 d0 rfl
          have f0' := fr.at_ 13 d0 rfl
          have e10 : D 10 = true := hpre ⟨10, .chain⟩ (by simp) rfl
          have e1 : D 1 = true := hcl 10 _ rfl e10 ⟨1, .chain⟩ (by simp) rfl
          obtain ⟨g1, g2, g3⟩ := hG
          rw [e1, e10, hDi] at g1
          refine wp_called (f := 31) (args := #[.pointer (some ⟨w.heap.size, 0, none⟩), .int .i64 ((90 : Nat) : Int)]) ?_ (tape_Next w.heap.size A n c (4 + 3 * k) L 90 wx (by have := g1.1; rwa [show 2 + 3 * k + cnt true + cnt true + cnt false = 4 + 3 * k by simp [cnt]; omega] at this) HOK.out (by omega) (by omega) (by omega)) ?_
          · simp [execOp, resolve, invoke, f0, f0', mdVal, go_sem]
          · intro e w' hx
            obtain ⟨he, n1, n2, n3⟩ := MdInv.next (pos := 4 + 3 * k) (by rwa [show 2 + 3 * k + cnt true + cnt true + cnt false = 4 + 3 * k by simp [cnt]; omega] at g1) hx
            refine ⟨_, he, by rw [HRR.out.2.2.symm]; rfl, ?_, ?_, ?_⟩
            · show MdInv w w' A n c (2 + 3 * k + cnt (D 1) + cnt (D 10) + cnt true) L rows C ch
              rw [e1, e10, show 2 + 3 * k + cnt true + cnt true + cnt true = 4 + 3 * k + 1 by simp [cnt]; omega]; exact n1
            · exact n2.trans g2
            · exact fun h8 => (g3 h8).keep (n3 _ (by have := hO'; omega))
        · have f0 := fr.atT 14 (hpre ⟨14, .data⟩ (by simp) rfl) rfl
          refine wp_value (w' := wx) ?_ ⟨rfl, hG⟩
          have e1 : IntKind.i64.wrap (1 + (r3 : Int)) = 1 + (r3 : Int) := IntWalk.i64_in _ (by omega)
          simp [execOp, f0, mdVal, go_sem, e1]
        · have f0 := fr.atT 2 (hpre ⟨2, .data⟩ (by simp) rfl) rfl
          refine wp_value (w' := wx) ?_ ⟨rfl, hG⟩
          simp [execOp, f0, mdVal, go_sem]
        · have f0 := fr.atT 12 (hpre ⟨12, .data⟩ (by simp) rfl) rfl
          refine wp_value (w' := wx) ?_ ⟨rfl, hG⟩
          simp [execOp, f0, mdVal, go_sem]
        · have f0 := fr.atT 15 (hpre ⟨15, .data⟩ (by simp) rfl) rfl
          refine wp_value (w' := wx) ?_ ⟨rfl, hG⟩
          simp [execOp, f0, mdVal, go_sem]
      case hend =>
        intro D w4 hG hall
        have hINV4 : MdInv w w4 A n c (2 + 3 * (k + 1)) L rows C ch := by
          have h1 := hG.1
          rw [hall 1 (by decide), hall 10 (by decide), hall 14 (by decide)] at h1
          rwa [show 2 + 3 * k + cnt true + cnt true + cnt true = 2 + 3 * (k + 1) by simp [cnt]; omega] at h1
        simp only [putsU, Act.put, List.setIfInBounds_toArray, List.set_cons_succ, List.set_cons_zero, Nat.zero_add, Nat.reduceAdd, mdVal]
        have HI4 := Lib.hid hINV4
        clear hINV4 hG HINV HT HO
        obtain ⟨nn, hnn⟩ : ∃ nn, nn = partN L k := ⟨_, rfl⟩
        obtain ⟨hh, hhh⟩ : ∃ hh, hh = partH L most k := ⟨_, rfl⟩
        obtain ⟨ss, hss⟩ : ∃ ss, ss = partS L k := ⟨_, rfl⟩
        have q1 : 60 * (r1 : Int) = (nn : Int) := by rw [hnn, partN, ← HRR.out.1]; omega
        have q2 : (selH most r2 : Int) = (hh : Int) := by rw [hhh, partH, ← HRR.out.2.1]
        have q3 : 1 + (r3 : Int) = (ss : Int) := by rw [hss, partS, ← HRR.out.2.2]; omega
        rw [q1, q2, q3]
        have hnb : nn ≤ 660 := by rw [hnn]; exact partN_le L k
        have hhb : hh ≤ most := by rw [hhh]; exact selH_le h3
        have hsb : ss ≤ 90 := by rw [hss]; exact (partS_le L k).2
        have HNHS := Lib.hid (And.intro hnn (And.intro hhh hss))
        clear hnn hhh hss q1 q2 q3 b1 b2 b3 HRR
        go_wp2_with fail
        go_loopw [44] (fun v w5 => MdRel2 w A n c (2 + 3 * (k + 1)) L most k C v w5) (fun v _ => C - (intOf v).toNat)
        case atStart => exact ⟨0, rows, rfl, Nat.zero_le _, HI4.out.cong (fun d _ => by rw [mdCh_start, HCH.out])⟩
        case round =>
          obtain ⟨ci, rows5, rfl, hci, hI5⟩ := hrel
          have HI5 := Lib.hid hI5
          clear hI5 HI4
          by_cases hcl2 : ci < C
          · have hcid : decide ((ci : Int) < (C : Int)) = true := decide_eq_true (by omega)
            have hciz : (ci : Int) < (C : Int) := by omega
            go_wp2_with fail
            go_loopw [12] (fun v w6 => MdRel3 w A n c (2 + 3 * (k + 1)) L most k C ci nn v w6) (fun v _ => nn - (intOf v).toNat)
            case atStart => exact ⟨0, rows5, rfl, Nat.zero_le _, HI5.out⟩
            case round =>
              obtain ⟨i, rows6, rfl, hin, hI6⟩ := hrel
              have HI6 := Lib.hid hI6
              clear hI6 HI5
              by_cases hi : i < nn
              · obtain ⟨vc, hvc⟩ : ∃ vc, rows6[ci]? = some vc := ⟨_, List.getElem?_eq_getElem (by rw [HI6.out.2.1]; exact hcl2)⟩
                have hown := HI6.out.2.2.1.own ci vc hvc
                obtain ⟨Q, hQ⟩ : ∃ Q, Q = i * ss := ⟨_, rfl⟩
                have hQb : Q ≤ 660 * 90 := by rw [hQ]; exact Nat.mul_le_mul (by omega) hsb
                obtain ⟨R, hR⟩ : ∃ R, R = (Q + ci * 7) % (2 * hh + 1) := ⟨_, rfl⟩
                have hRb : R ≤ 2 * hh := by rw [hR]; have := Nat.mod_lt (Q + ci * 7) (show 2 * hh + 1 > 0 by omega); omega
                obtain ⟨y, hy⟩ : ∃ y : Int, y = (R : Int) - (hh : Int) := ⟨_, rfl⟩
                have hys : y = smp ci i (partH L most k) (partS L k) := by rw [hy, hR, hQ, smp, ← HNHS.out.2.1, ← HNHS.out.2.2]
                have e1 : (i : Int) * (ss : Int) = (Q : Int) := by rw [hQ, Int.natCast_mul]
                have e2 : ((Q : Int) + (ci : Int) * 7).tmod (2 * (hh : Int) + 1) = (R : Int) := by
                  rw [Int.tmod_eq_emod_of_nonneg (by omega), hR]
                  push_cast
                  rfl
                have e3 : (R : Int) - (hh : Int) = y := hy.symm
                have hyb : -32767 ≤ y ∧ y ≤ 32767 := by omega
                have e4 : IntKind.i16.wrap y = y := by simp [IntKind.wrap, IntKind.signed, IntKind.bits]; omega
                have w1 : IntKind.i64.wrap (Q : Int) = (Q : Int) := IntWalk.i64_in _ (by omega)
                have w2 : IntKind.i64.wrap ((ci : Int) * 7) = (ci : Int) * 7 := IntWalk.i64_in _ (by omega)
                have w3 : IntKind.i64.wrap ((Q : Int) + (ci : Int) * 7) = (Q : Int) + (ci : Int) * 7 := IntWalk.i64_in _ (by omega)
                have w4 : IntKind.i64.wrap (2 * (hh : Int)) = 2 * (hh : Int) := IntWalk.i64_in _ (by omega)
                have w5 : IntKind.i64.wrap (2 * (hh : Int) + 1) = 2 * (hh : Int) + 1 := IntWalk.i64_in _ (by omega)
                have w6 : IntKind.i64.wrap (R : Int) = (R : Int) := IntWalk.i64_in _ (by omega)
                have w7 : IntKind.i64.wrap y = y := IntWalk.i64_in _ (by omega)
                have hz1 : ((2 * (hh : Int) + 1) == 0) = false := by simp; omega
                have hz2 : ¬ 2 * (hh : Int) + 1 = 0 := by omega
                have hlen : (mdCh L most k ci i ci).length ≤ 4620 := by
                  unfold mdCh
                  rw [if_neg (by omega), if_pos rfl, List.length_append, chanK_len, partC_len]
                  have := lenK_le L k
                  omega
                obtain ⟨M, hM⟩ : ∃ M, M = (mdCh L most k ci i ci).length := ⟨_, rfl⟩
                have ho1 : wr.ownsRow (w.heap.size + 2) 49 1 vc M ((mdCh L most k ci i ci).map (Value.int .i16)) := by rw [hM]; exact hown
                obtain ⟨A6, c6, rfl⟩ := own_slice ho1
                have hbx := HI6.out.2.2.1.box
                have hce : rows6.toArray[ci]? = some (.slice A6 M c6) := by simpa using hvc
                have hcell := hbx.cell ci hce
                have hsz := hbx.lt
                have HMID : Hid ((wr.drew.alloc (.cells #[.int .i16 y] 49)).ownsRow (w.heap.size + 2) 49 1 (.slice A6 M c6) M ((mdCh L most k ci i ci).map (Value.int .i16)) ∧ Rw (fun _ => True) (wr.drew.alloc (.cells #[.int .i16 y] 49)) (some ⟨wr.heap.size, 0, none⟩) 1 1 [.int .i16 y] ∧ M + 1 ≤ 100000000 ∧ w.heap.size + 2 ≤ (wr.drew.alloc (.cells #[.int .i16 y] 49)).heap.size ∧ ∀ u ∈ [Value.int .i16 y], u.oneCell' = true) :=
                  Lib.hid ⟨World.ownsRow.alloc (World.ownsRow.drew ho1) _, Rw.lit (p := fun _ => True) _ _ _ rfl 1 1 rfl (by simp) trivial, by omega, by simp; omega, by simp [Value.oneCell']⟩
                have HBX := Lib.hid (hbx.drew.alloc (.cells #[.int .i16 y] 49))
                have HNE : Hid (some (w.heap.size + 1) ≠ (Value.slice A6 M c6).ownBlock) := Lib.hid (own_ne ho1 (.inl (by omega)))
                have HVC := Lib.hid hvc
                have HYS := Lib.hid hys
                have HM := Lib.hid hM
                have HCE := Lib.hid hce
                have HOWN := Lib.hid hown
                clear hvc hown ho1 hbx hce hlen hys hM hy hR hQ
                go_wp2_with fail
                go_region_law ((refine step_appR (p := fun _ => True) _ (by rfl) _ _ _ (by rfl) 49 (.int .i16 0) 1 2 Try.underlying44 Try.infoI16 (by rfl) (by decide) (by decide) (w.heap.size + 2) _ _ _ (by rfl) _ _ _ _ (by rfl) HMID ?_; intro v3 w3 ho3 hg3 ha3; obtain ⟨A3, c3, rfl⟩ := own_slice ho3; have y13 := HBX.out.grown hg3 HNE.out; have c13 := y13.cell ci HCE.out; have f13 := y13.frozen ci; have l13 := y13.lt))
                all_goals
                  go_wp2_with fail
                  go_roundw
                  case rel =>
                    (repeat apply Exists.intro)
                    refine ⟨?_, rfl⟩
                    rotate_left
                    all_goals first | exact undef | skip
                    exact ⟨i + 1, _, by go_num, by omega, HI6.out.grow HH.out HVC.out HM.out ho3 hg3 ha3 (by rw [HYS.out]; exact mdCh_step L most k ci i) (fun d hd => mdCh_other hd)⟩
                  case measure => simp [intOf]; omega
              · obtain rfl : i = nn := by omega
                have HI7 : Hid (MdInv w _ A n c (2 + 3 * (k + 1)) L rows6 C (mdCh L most k (ci + 1) 0)) := Lib.hid (HI6.out.cong (fun d _ => by rw [mdCh_next, ← HNHS.out.1]))
                go_wp2_with fail
                go_roundw
                case rel => exact ⟨ci + 1, rows6, by go_num, by omega, HI7.out⟩
                case measure => simp [intOf]; omega
          · obtain rfl : ci = C := by omega
            have HI7 : Hid (MdInv w _ A n c (2 + 3 * (k + 1)) L rows5 ci (fun d => chanK L most d (k + 1))) := Lib.hid (HI5.out.cong (fun d hd => (mdCh_end hd).symm))
            go_wp2_with fail
            go_roundw
            case rel => exact ⟨k + 1, rows5, by rw [← HPP.out]; go_num, by have := HPP.out; omega, by rw [← HC.out]; exact HI7.out⟩
            case measure => simp [intOf]; omega
    · obtain rfl : k = P := by omega
      have hkz : decide (0 < (k : Int) - (k : Int)) = false := decide_eq_false (by omega)
      have HF := Lib.hid (And.intro hrl HO.out)
      go_wp2_with fail
      go_ret
      refine ⟨rows, ?_, HF.out.1, ?_, hB⟩
      · show Ending.returned (.slice (some ⟨w.heap.size + 1, 0, none⟩) C C) = _
        rw [HC.out]
      · have hO := HF.out.2
        rw [HPP.out] at hO
        exact hO
theorem law_made (A : Option Addr) (n c : Nat) (L : List Int) (most : Nat) (w : World) (h : Its .i64 (· < w.heap.size) w A n L) (hok : IntsOk L) (h3 : 3 ≤ most) (h4 : most ≤ 32767) :
    Calls Try.prog 13 #[.slice A n c, .int .i64 (most : Int)] w fun e w' => ∃ B m k xs, e = .returned (.slice B m k) ∧ sndOf xs = madeS L most ∧ Pcm (w.heap.size ≤ ·) w' B m xs ∧ m = chans L ∧ m ≤ k ∧ Below w.heap.size w w' := by
  refine (law_madeO A n c L most w h hok h3 h4).mono ?_
  rintro e w' ⟨rows, rfl, hrl, hO, hB⟩
  have hsm : ∀ d, d < rows.length → Smp (chanK L most d (parts L)) := fun d _ => (chanK_abs L h3 d _).smp h4
  obtain ⟨xs, hxs, hpc⟩ := hO.pcm (B := w.heap.size) hsm (by omega)
  have hsnd : sndOf xs = madeS L most := by rw [hxs, hrl, madeS]
  rw [hrl] at hpc
  exact ⟨_, _, _, xs, rfl, hsnd, hpc, rfl, Nat.le_refl _, hB⟩
end Go.Proofs.Ytcgejbnmbamchaa
