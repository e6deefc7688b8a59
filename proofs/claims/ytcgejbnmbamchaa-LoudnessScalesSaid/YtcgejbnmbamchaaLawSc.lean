/- LoudnessScales. -/
import Derived.Test.YtcgejbnmbamchaaLawMono
import Derived.Test.YtcgejbnmbamchaaScaleW
import Derived.Test.YtcgejbnmbamchaaLdGt
import Derived.Test.YtcgejbnmbamchaaLdSI
namespace Go.Proofs.Ytcgejbnmbamchaa
open Go.RowKit
attribute [local go_sem ↓] Go.wp_at_zero Go.wp_at_succ

/-- What the operations of one sample yield. -/
def scVal (go n ci g N cap i : Nat) (y : Int) : Nat → Value
  | 0 => .slice (some ⟨go, 0, none⟩) n n
  | 1 => .int .i64 (ci : Int)
  | 2 => .pointer (some ⟨go, ci, none⟩)
  | 3 => .slice (some ⟨g, 0, none⟩) N cap
  | 4 => .int .i64 (i : Int)
  | 5 => .slice (some ⟨go, 0, none⟩) n n
  | 6 => .int .i64 (ci : Int)
  | 7 => .pointer (some ⟨go, ci, none⟩)
  | 8 => .slice (some ⟨g, 0, none⟩) N cap
  | 9 => .int .i64 (i : Int)
  | 10 => .pointer (some ⟨g, i, none⟩)
  | 11 => .int .i16 y
  | 12 => .int .i16 (2 * y)
  | 13 => .pointer (some ⟨g, i, none⟩)
  | _ => undef
def scW (wr : World) (g i : Nat) (z : Int) (b : Bool) : World := if b = true then wr.drew.setCell ⟨g, i, none⟩ (.int .i16 z) else wr.drew
def ScRel (w1 : World) (cc : Nat → List Int) (C : Nat) (rows : List Value) (v : Value) (wr : World) : Prop :=
  ∃ ci : Nat, v = .int .i64 (ci : Int) ∧ ci ≤ C ∧ Own2 wr (w1.heap.size + 1) (w1.heap.size + 2) rows (dbCh cc ci 0) ∧ Below w1.heap.size w1 wr
def ScRel2 (w1 : World) (cc : Nat → List Int) (ci N : Nat) (rows : List Value) (v : Value) (wr : World) : Prop :=
  ∃ i : Nat, v = .int .i64 (i : Int) ∧ i ≤ N ∧ Own2 wr (w1.heap.size + 1) (w1.heap.size + 2) rows (dbCh cc ci i) ∧ Below w1.heap.size w1 wr
theorem madeS_win (L : List Int) (most : Nat) : (powersL (madeS L most)).length ≤ 30 := by
  rw [powersL_len, madeS_wide]
  have h1 := lenK_le L (parts L)
  have h2 := parts_le L
  unfold nWin
  omega
theorem made_abs {X : Snd} {m : Nat} (h : ∀ c ∈ X, Abs m c) (hl : X.length ≤ 2) : ∀ x ∈ powersL X, x ≤ 2 * (480 * (m * m)) := by
  intro x hx
  obtain ⟨k, _, rfl⟩ := List.mem_map.1 hx
  have h1 := powAt_abs h (120 * k)
  have h2 : (X.length : Int) * (480 * ((m : Int) * m)) ≤ 2 * (480 * ((m : Int) * m)) := Int.mul_le_mul_of_nonneg_right (by omega) (Int.mul_nonneg (by omega) (Int.mul_nonneg (by omega) (by omega)))
  omega
theorem dbl_abs {m : Nat} {c : List Int} (h : Abs m c) : Abs (2 * m) (dbl c) := by
  intro x hx
  obtain ⟨y, hy, rfl⟩ := List.mem_map.1 hx
  have := h y hy
  omega

set_option maxRecDepth 100000 in
set_option maxHeartbeats 4000000 in
theorem law_LoudnessScales (A : Option Addr) (n c : Nat) (L : List Int) (w : World) (h : Its .i64 (fun _ => True) w A n L) (hok : IntsOk L) :
    Calls Try.prog 8 #[.slice A n c] w fun e w' => e = .returned (.bool true) ∧ Below w.heap.size w w' := by
  have hmade := law_madeO A n c L 3000 w (h.mono (fun b hb _ => hb)) hok (by omega) (by omega)
  have HMD := Lib.hid hmade
  have HI := Lib.hid h
  have HOK := Lib.hid hok
  clear hmade h hok
  go_enter Try.func8, Try.ntmps8
  go_wp2_with fail
  refine HMD.out.mono ?_
  rintro e w1 ⟨rows1, rfl, hrl1, hO1, hb1⟩
  have HI1 := Lib.hid (HI.out.ext hb1)
  have HM2 := Lib.hid (law_madeO A n c L 3000 w1 (HI1.out.mono (fun b hb _ => hb)) HOK.out (by omega) (by omega))
  have hsm1 : ∀ d, d < rows1.length → Smp (chanK L 3000 d (parts L)) := fun d _ => (chanK_abs L (by omega) d _).smp (by omega)
  obtain ⟨xs, hxs, hpc1⟩ := hO1.pcm (B := w.heap.size) hsm1 (by omega)
  have hsnd : sndOf xs = madeS L 3000 := by rw [hxs, hrl1, madeS]
  rw [hrl1] at hpc1
  have HPX := Lib.hid (hpc1.mono (q := (· < w1.heap.size)) (fun b hb _ => hb))
  have HSX := Lib.hid hsnd
  clear hpc1 hsnd hxs hsm1 hO1 hrl1
  go_wp2_with fail
  refine HM2.out.mono ?_
  rintro e w2 ⟨rows, rfl, hrl, hO, hb2⟩
  have hcl := chans_le L
  obtain ⟨C, hC⟩ : ∃ C, C = chans L := ⟨_, rfl⟩
  obtain ⟨cc, hcc⟩ : ∃ cc : Nat → List Int, cc = fun d => chanK L 3000 d (parts L) := ⟨_, rfl⟩
  have hpx := HPX.out
  rw [← hC] at hrl hcl hpx
  rw [← hC]
  have HPX := Lib.hid hpx
  have hcab : ∀ d, Abs 3000 (cc d) := fun d => by rw [hcc]; exact chanK_abs L (by omega) d _
  have hcln : ∀ d, (cc d).length ≤ 100000 := fun d => by
    rw [hcc]
    have h1 := lenK_le L (parts L)
    have h2 := parts_le L
    have h3 := chanK_len L 3000 d (parts L)
    dsimp only
    omega
  rw [← hcc] at hO
  have hO0 : Own2 w2 (w1.heap.size + 1) (w1.heap.size + 2) rows (dbCh cc 0 0) := hO.cong (fun d _ => dbCh_zero cc d)
  have HO0 := Lib.hid hO0
  have HC := Lib.hid (And.intro hC hcc)
  have HRL := Lib.hid hrl
  have HAB := Lib.hid (And.intro hcab hcln)
  obtain ⟨go, hgo⟩ : ∃ go, go = w1.heap.size + 1 := ⟨_, rfl⟩
  rw [← hgo]
  have HGO := Lib.hid hgo
  clear hO hO0 hC hcc hrl hcab hcln hgo HM2 HMD hpx
  go_wp2_with fail
  go_loopw [21] (fun v wr => ScRel w1 cc C rows v wr) (fun v _ => C - (intOf v).toNat)
  case atStart => exact ⟨0, rfl, Nat.zero_le _, HO0.out, hb2⟩
  case round =>
    obtain ⟨ci, rfl, hci, hO, hB⟩ := hrel
    have HO := Lib.hid hO
    clear HO0 hO hb2
    by_cases hlt : ci < C
    · have hcz : (ci : Int) < (C : Int) := by omega
      have hcd : decide ((ci : Int) < (C : Int)) = true := decide_eq_true hcz
      obtain ⟨v, hv⟩ : ∃ v, rows[ci]? = some v := ⟨_, List.getElem?_eq_getElem (by rw [HRL.out]; exact hlt)⟩
      obtain ⟨N, hN⟩ : ∃ N, N = (cc ci).length := ⟨_, rfl⟩
      have hown := HO.out.own ci v hv
      have hNb : N ≤ 100000 := by rw [hN]; exact HAB.out.2 ci
      have hown1 : wr.ownsRow (w1.heap.size + 2) 49 1 v N ((dbCh cc ci 0 ci).map (Value.int .i16)) := by
        have h2 : N = (dbCh cc ci 0 ci).length := by rw [dbCh_self, dbK_len]; exact hN
        rw [h2]; exact hown
      obtain ⟨A6, c6, rfl⟩ := own_slice hown1
      have hce : rows.toArray[ci]? = some (.slice A6 N c6) := by simpa using hv
      have hcell := HO.out.box.cell ci hce
      have hsz := HO.out.box.lt
      rw [← HGO.out] at hcell hsz
      have HV := Lib.hid hv
      have HN := Lib.hid hN
      clear hown hown1 hN hv
      go_wp2_with fail
      clear hcell hsz hcd
      go_loopw [29] (fun v wr => ScRel2 w1 cc ci N rows v wr) (fun v _ => N - (intOf v).toNat)
      case atStart => exact ⟨0, rfl, Nat.zero_le _, HO.out, hB⟩
      case round =>
        obtain ⟨i, rfl, hi, hO6, hB6⟩ := hrel
        have HO6 := Lib.hid hO6
        clear hO6 HO hB
        by_cases hiN : i < N
        · have hiz : (i : Int) < (N : Int) := by omega
          have hid : decide ((i : Int) < (N : Int)) = true := decide_eq_true hiz
          have hdl : (dbCh cc ci i ci).length = N := by rw [dbCh_self, dbK_len, HN.out]
          obtain ⟨g, cap, hvv, hgb, hgl, hcap, hgc, hgf⟩ := (HO6.out.own ci _ HV.out).form (by omega)
          rw [hdl] at hvv hcap
          injection hvv with q1 q2 q3
          subst q1 q3
          obtain ⟨y, hy⟩ : ∃ y, (cc ci)[i]? = some y := ⟨_, List.getElem?_eq_getElem (by rw [← HN.out]; exact hiN)⟩
          have hyb := HAB.out.1 ci y (List.mem_of_getElem? hy)
          have hgy := hgc i y (by rw [dbCh_self, dbK_at (by rw [← HN.out]; exact hiN)]; exact hy)
          have hgfi := hgf i
          have ez : IntKind.i16.wrap (2 * y) = 2 * y := by simp [IntKind.wrap, IntKind.signed, IntKind.bits]; omega
          have hbox := HO6.out.box.cell ci hce
          rw [← HGO.out] at hbox
          have hgogt : go < g := by have := HGO.out; omega
          have czd : wr.drew.cell? ⟨g, i, none⟩ = some (.int .i16 y) := hgy
          have fzd : wr.drew.frozen? ⟨g, i, none⟩ = false := hgfi
          have cgo : ∀ b, (scW wr g i (2 * y) b).cell? ⟨go, ci, none⟩ = some (.slice (some ⟨g, 0, none⟩) N c6) := by
            intro b
            unfold scW
            split
            · have e := (HO6.out.ext (Below.refl wr.heap.size wr).drew).setAt (k := i) (y := 2 * y) (ch' := dbCh cc ci (i + 1)) HV.out (by rw [dbCh_self, dbCh_self]; exact dbK_set hy) (fun d hd => dbCh_other hd)
              have := e.box.cell ci hce
              rwa [← HGO.out] at this
            · exact hbox
          have CG := Lib.hid cgo
          have HY := Lib.hid hy
          clear cgo hgc hgf hgy hgfi hdl hbox hy
          go_upto_region 8 with fail
          refine wp_region_fixed (scVal go C ci g N c6 i y) (fun D w' => w' = scW wr g i (2 * y) (D 14)) (by kernel_rfl) (by kernel_rfl) (by kernel_rfl) (by kernel_rfl) ?h0 ?hstep ?hend
          case h0 => rfl
          case hstep =>
            intro k o ho D a wx fr hG hcl hDi hpre
            subst hG
            have o4 : a.tmps[4]?.getD undef = .slice (some ⟨go, 0, none⟩) C C := fr.oldT 4 rfl
            have o5 : a.tmps[5]?.getD undef = .int .i64 (ci : Int) := fr.oldT 5 rfl
            have o6 : a.tmps[6]?.getD undef = .int .i64 (i : Int) := fr.oldT 6 rfl
            have hk15 : k < 15 := (List.getElem?_eq_some_iff.1 ho).1
            rcases (show k = 0 ∨ k = 1 ∨ k = 2 ∨ k = 3 ∨ k = 4 ∨ k = 5 ∨ k = 6 ∨ k = 7 ∨ k = 8 ∨ k = 9 ∨ k = 10 ∨ k = 11 ∨ k = 12 ∨ k = 13 ∨ k = 14 by omega) with rfl | rfl | rfl | rfl | rfl | rfl | rfl | rfl | rfl | rfl | rfl | rfl | rfl | rfl | rfl
            all_goals (simp only [List.getElem?_cons_zero, List.getElem?_cons_succ, Option.some.injEq] at ho; subst ho)
            · refine wp_value (w' := scW wr g i (2 * y) (D 14)) ?_ ⟨rfl, rfl⟩
              simp [execOp, o4, scVal, go_sem]
            · refine wp_value (w' := scW wr g i (2 * y) (D 14)) ?_ ⟨rfl, rfl⟩
              simp [execOp, o5, scVal, go_sem]
            · have f0 := fr.atT 0 (hpre ⟨0, .data⟩ (by simp) rfl) rfl
              have f1 := fr.atT 1 (hpre ⟨1, .data⟩ (by simp) rfl) rfl
              refine wp_value (w' := scW wr g i (2 * y) (D 14)) ?_ ⟨rfl, rfl⟩
              simp [execOp, f0, f1, scVal, go_sem, hcz]
            · have f2 := fr.atT 2 (hpre ⟨2, .data⟩ (by simp) rfl) rfl
              have hc := CG.out (D 14)
              refine wp_value (w' := scW wr g i (2 * y) (D 14)) ?_ ⟨rfl, rfl⟩
              simp [execOp, f2, scVal, go_sem, hc]
            · refine wp_value (w' := scW wr g i (2 * y) (D 14)) ?_ ⟨rfl, rfl⟩
              simp [execOp, o6, scVal, go_sem]
            · refine wp_value (w' := scW wr g i (2 * y) (D 14)) ?_ ⟨rfl, rfl⟩
              simp [execOp, o4, scVal, go_sem]
            · refine wp_value (w' := scW wr g i (2 * y) (D 14)) ?_ ⟨rfl, rfl⟩
              simp [execOp, o5, scVal, go_sem]
            · have f0 := fr.atT 5 (hpre ⟨5, .data⟩ (by simp) rfl) rfl
              have f1 := fr.atT 6 (hpre ⟨6, .data⟩ (by simp) rfl) rfl
              refine wp_value (w' := scW wr g i (2 * y) (D 14)) ?_ ⟨rfl, rfl⟩
              simp [execOp, f0, f1, scVal, go_sem, hcz]
            · have f2 := fr.atT 7 (hpre ⟨7, .data⟩ (by simp) rfl) rfl
              have hc := CG.out (D 14)
              refine wp_value (w' := scW wr g i (2 * y) (D 14)) ?_ ⟨rfl, rfl⟩
              simp [execOp, f2, scVal, go_sem, hc]
            · refine wp_value (w' := scW wr g i (2 * y) (D 14)) ?_ ⟨rfl, rfl⟩
              simp [execOp, o6, scVal, go_sem]
            · have f0 := fr.atT 8 (hpre ⟨8, .data⟩ (by simp) rfl) rfl
              have f1 := fr.atT 9 (hpre ⟨9, .data⟩ (by simp) rfl) rfl
              refine wp_value (w' := scW wr g i (2 * y) (D 14)) ?_ ⟨rfl, rfl⟩
              simp [execOp, f0, f1, scVal, go_sem, hiz]
            · have f0 := fr.atT 10 (hpre ⟨10, .data⟩ (by simp) rfl) rfl
              have e12 : D 12 = false := by
                cases h : D 12 with
                | false => rfl
                | true => have := hcl 12 _ rfl h ⟨11, .data⟩ (by simp) rfl; rw [hDi] at this; cases this
              have e14 : D 14 = false := by
                cases h : D 14 with
                | false => rfl
                | true => have := hcl 14 _ rfl h ⟨12, .data⟩ (by simp) rfl; rw [e12] at this; cases this
              rw [e14]
              refine wp_value (w' := wr.drew) ?_ ⟨rfl, by show wr.drew = scW wr g i (2 * y) (updD D 11 14); unfold updD; rw [if_neg (by omega), e14]; rfl⟩
              show (execOp a.eval _).run Try.prog wr.drew = _
              simp [execOp, f0, scVal, go_sem, czd]
            · have f0 := fr.atT 11 (hpre ⟨11, .data⟩ (by simp) rfl) rfl
              refine wp_value (w' := scW wr g i (2 * y) (D 14)) ?_ ⟨rfl, rfl⟩
              simp [execOp, f0, scVal, go_sem, ez]
            · have f0 := fr.atT 3 (hpre ⟨3, .data⟩ (by simp) rfl) rfl
              have f1 := fr.atT 4 (hpre ⟨4, .data⟩ (by simp) rfl) rfl
              refine wp_value (w' := scW wr g i (2 * y) (D 14)) ?_ ⟨rfl, rfl⟩
              simp [execOp, f0, f1, scVal, go_sem, hiz]
            · have f0 := fr.atT 13 (hpre ⟨13, .data⟩ (by simp) rfl) rfl
              have f1 := fr.atT 12 (hpre ⟨12, .data⟩ (by simp) rfl) rfl
              rw [hDi]
              refine wp_skipF (w' := wr.drew.setCell ⟨g, i, none⟩ (.int .i16 (2 * y))) ?_ ⟨rfl, rfl⟩
              show (execOp a.eval _).run Try.prog wr.drew = _
              simp [execOp, f0, f1, scVal, go_sem, czd, fzd]
          case hend =>
            intro D w7 hG hall
            rw [hall 14 (by decide)] at hG
            have hG2 : w7 = wr.drew.setCell ⟨g, i, none⟩ (.int .i16 (2 * y)) := hG
            subst hG2
            clear hG
            have J1 := (HO6.out.ext (Below.refl wr.heap.size wr).drew).setAt (k := i) (y := 2 * y) (ch' := dbCh cc ci (i + 1)) HV.out (by rw [dbCh_self, dbCh_self]; exact dbK_set HY.out) (fun d hd => dbCh_other hd)
            have J3 := bset hB6.drew ⟨g, i, none⟩ (by have := HGO.out; dsimp only; omega) (.int .i16 (2 * y))
            have HJ := Lib.hid (And.intro J1 J3)
            simp only [putsU, Act.put, List.setIfInBounds_toArray, List.set_cons_succ, List.set_cons_zero, Nat.zero_add, Nat.reduceAdd, scVal]
            clear J1 J3 czd fzd
            generalize wr.drew.setCell ⟨g, i, none⟩ (.int .i16 (2 * y)) = w8 at *
            go_wp2_with fail
            go_roundw
            case rel => exact ⟨i + 1, by go_num, by omega, HJ.out⟩
            case measure => simp [intOf]; omega
        · obtain rfl : i = N := by omega
          have hid : decide ((i : Int) < (i : Int)) = false := decide_eq_false (by omega)
          have HO7 := Lib.hid (HO6.out.cong (ch' := dbCh cc (ci + 1) 0) (fun d _ => (dbCh_next (Nat.le_of_eq HN.out.symm) d).symm))
          go_wp2_with fail
          go_roundw
          case rel => exact ⟨ci + 1, by go_num, by omega, HO7.out, hB6⟩
          case measure => simp [intOf]; omega
    · obtain rfl : ci = C := by omega
      have hcd : decide ((ci : Int) < (ci : Int)) = false := decide_eq_false (by omega)
      have hsm : ∀ d, d < rows.length → Smp (dbCh cc ci 0 d) := fun d hd => by
        rw [dbCh_end (by rw [← HRL.out]; exact hd)]
        exact (dbl_abs (HAB.out.1 d)).smp (by omega)
      obtain ⟨ys, hys, hpy⟩ := HO.out.pcm (B := w1.heap.size) hsm (by omega)
      obtain ⟨X, hX⟩ : ∃ X, X = sndOf xs := ⟨_, rfl⟩
      have hXm : X = madeS L 3000 := hX.trans HSX.out
      have hY : sndOf ys = dblS X := by
        rw [hys, hXm, madeS, HRL.out, ← HC.out.1]
        unfold dblS
        rw [List.map_map]
        refine List.map_congr_left (fun d hd => ?_)
        rw [dbCh_end (List.mem_range.1 hd), HC.out.2]
        rfl
      rw [HRL.out, ← HGO.out] at hpy
      have hprop : properB X = true := by rw [hXm]; exact madeS_proper L 3000
      have hpropY := proper_dbl hprop
      have hXab : ∀ c ∈ X, Abs 3000 c := by
        rw [hXm]
        intro c hc
        obtain ⟨d, _, rfl⟩ := madeS_mem hc
        exact chanK_abs L (by omega) d _
      have hYab : ∀ c ∈ dblS X, Abs 6000 c := by
        intro c hc
        obtain ⟨d, hd, rfl⟩ := List.mem_map.1 hc
        exact dbl_abs (hXab d hd)
      have hXl : X.length ≤ 2 := by rw [hXm, madeS_len]; exact (chans_le L).2
      have hYl : (dblS X).length ≤ 2 := by simpa [dblS] using hXl
      obtain ⟨l, hl⟩ : ∃ l, l = powersL X := ⟨_, rfl⟩
      have hl4 : powersL (dblS X) = four l := by rw [powersL_dbl, hl]; rfl
      have hln : l.length ≤ 30 := by rw [hl, hXm]; exact madeS_win L 3000
      have hln4 : (four l).length ≤ 30 := by simpa [four] using hln
      have hpb := (powersL_bound hprop (fun c hc => (hXab c hc).smp (by omega))).2
      rw [← hl] at hpb
      have hbX : ∀ x ∈ l, 0 ≤ x ∧ x ≤ ((8640000000 : Nat) : Int) := fun x hx => by
        have h1 := made_abs hXab hXl x (by rw [← hl]; exact hx)
        have h2 := hpb x hx
        omega
      have hbY : ∀ x ∈ four l, 0 ≤ x ∧ x ≤ ((34560000000 : Nat) : Int) := fun x hx => by
        obtain ⟨u, hu, rfl⟩ := List.mem_map.1 hx
        have := hbX u hu
        omega
      have b1 := measNn_le hbX hln
      have b2 := measNn_le hbY hln4
      have b3 := measDn_le hln (by omega)
      have b4 := measDn_le hln4 (by omega)
      have hsc := fun hg => scale_law (l := l) (fun x hx => (hbX x hx).1) hg
      have e1 : powE X = 0 := by unfold powE; rw [hprop]; rfl
      have e2 : measOutN X = (measNn l : Int) := by unfold measOutN; rw [hprop, hl]; exact measN_nat _
      have e3 : measOutD X = (measDn l : Int) := by unfold measOutD; rw [hprop, hl]; exact measD_nat _
      have e4 : gateO X = gateL l := by unfold gateO; rw [hprop, hl]; rfl
      have f1 : powE (dblS X) = 0 := by unfold powE; rw [hpropY]; rfl
      have f2 : measOutN (dblS X) = (measNn (four l) : Int) := by unfold measOutN; rw [hpropY, ← hl4]; exact measN_nat _
      have f3 : measOutD (dblS X) = (measDn (four l) : Int) := by unfold measOutD; rw [hpropY, ← hl4]; exact measD_nat _
      have f4 : gateO (dblS X) = gateL (four l) := by unfold gateO; rw [hpropY, ← hl4]; rfl
      obtain ⟨num, hnum⟩ : ∃ num, num = measNn l := ⟨_, rfl⟩
      obtain ⟨den, hden⟩ : ∃ den, den = measDn l := ⟨_, rfl⟩
      obtain ⟨num4, hnum4⟩ : ∃ num4, num4 = measNn (four l) := ⟨_, rfl⟩
      obtain ⟨den4, hden4⟩ : ∃ den4, den4 = measDn (four l) := ⟨_, rfl⟩
      rw [← hnum] at b1 e2 hsc
      rw [← hden] at b3 e3 hsc
      rw [← hnum4] at b2 f2 hsc
      rw [← hden4] at b4 f3 hsc
      obtain ⟨g1, hg1⟩ : ∃ g1, g1 = gateL l := ⟨_, rfl⟩
      obtain ⟨g2, hg2⟩ : ∃ g2, g2 = gateL (four l) := ⟨_, rfl⟩
      have hgl1 : (natI g1).length ≤ 30 := by rw [natI_len, hg1]; have := gateL_len l; omega
      rw [← hg1] at e4 hsc
      rw [← hg2] at f4 hsc
      have HE := Lib.hid (And.intro e1 (And.intro e2 (And.intro e3 e4)))
      have HF := Lib.hid (And.intro f1 (And.intro f2 (And.intro f3 f4)))
      have HXX := Lib.hid (And.intro hX hY)
      have HPX2 := Lib.hid (HPX.out.below hB (fun _ _ h => h))
      have HPY := Lib.hid hpy
      have HSC := Lib.hid hsc
      have HGL := Lib.hid hgl1
      have BB := hb1.trans (hB.mono hb1.size)
      clear hsm hys hX hXm hY hpy hprop hpropY hXab hYab hXl hYl hl hl4 hln hln4 hpb hbX hbY hsc e1 e2 e3 e4 f1 f2 f3 f4 hnum hden hnum4 hden4 hg1 hg2 hgl1 HO HC HRL HAB hb1 hB HPX HSX HI HI1
      go_wp2_with fail
      refine (ld_Gated _ _ _ xs _ HPX2.out).mono ?_
      rintro e w3 ⟨Ba, ma, ka, rfl, hia, hb3, -⟩
      rw [← HXX.out.1, HE.out.2.2.2] at hia
      rw [← HXX.out.1, HE.out.1]
      have B3 := BB.trans (hb3.mono BB.size)
      have HPX3 := Lib.hid (HPX2.out.ext hb3)
      have HPY3 := Lib.hid (HPY.out.ext hb3)
      have HIA := Lib.hid hia
      clear hia hb3 BB
      go_wp2_with fail
      refine (ld_Gated _ _ _ ys _ HPY3.out).mono ?_
      rintro e w4 ⟨Bb, mb, kb, rfl, hib, hb4, -⟩
      rw [HXX.out.2, HF.out.2.2.2] at hib
      rw [HXX.out.2, HF.out.1]
      have B4 := B3.trans (hb4.mono B3.size)
      have HPX4 := Lib.hid (HPX3.out.ext hb4)
      have HPY4 := Lib.hid (HPY3.out.ext hb4)
      have HIA4 := Lib.hid (HIA.out.ext hb4)
      have HIB := Lib.hid hib
      clear hib hb4 B3
      go_wp2_with fail
      refine (ld_Measure _ _ _ xs _ HPX4.out).mono ?_
      rintro e w5 ⟨rfl, hb5⟩
      rw [← HXX.out.1, HE.out.1, HE.out.2.1, HE.out.2.2.1]
      have B5 := B4.trans (hb5.mono B4.size)
      have HPY5 := Lib.hid (HPY4.out.ext hb5)
      have HIA5 := Lib.hid (HIA4.out.ext hb5)
      have HIB5 := Lib.hid (HIB.out.ext hb5)
      clear hb5 B4
      go_upto_region 14 with fail
      have x5 := Bx.new w5 38 #[.int .i64 (num : Int), .int .i64 (den : Int)]
      have B6 := B5.alloc B5.size (.cells #[.int .i64 (num : Int), .int .i64 (den : Int)] 38)
      have HPY6 := Lib.hid (HPY5.out.alloc (.cells #[.int .i64 (num : Int), .int .i64 (den : Int)] 38))
      have HIA6 := Lib.hid (HIA5.out.alloc (.cells #[.int .i64 (num : Int), .int .i64 (den : Int)] 38))
      have HIB6 := Lib.hid (HIB5.out.alloc (.cells #[.int .i64 (num : Int), .int .i64 (den : Int)] 38))
      generalize w5.alloc (.cells #[.int .i64 (num : Int), .int .i64 (den : Int)] 38) = w6 at *
      generalize w5.heap.size = ga at *
      clear B5
      go_wp2_with fail
      refine (ld_Measure _ _ _ ys _ HPY6.out).mono ?_
      rintro e w7 ⟨rfl, hb7⟩
      rw [HXX.out.2, HF.out.1, HF.out.2.1, HF.out.2.2.1]
      have B7 := B6.trans (hb7.mono B6.size)
      have HIA7 := Lib.hid (HIA6.out.ext hb7)
      have HIB7 := Lib.hid (HIB6.out.ext hb7)
      have x7 := x5.ext hb7
      clear hb7 B6 x5
      go_upto_region 15 with fail
      have y8 := Bx.new w7 38 #[.int .i64 (num4 : Int), .int .i64 (den4 : Int)]
      have x8 := x7.alloc (.cells #[.int .i64 (num4 : Int), .int .i64 (den4 : Int)] 38)
      have B8 := B7.alloc B7.size (.cells #[.int .i64 (num4 : Int), .int .i64 (den4 : Int)] 38)
      have HIA8 := Lib.hid (HIA7.out.alloc (.cells #[.int .i64 (num4 : Int), .int .i64 (den4 : Int)] 38))
      have HIB8 := Lib.hid (HIB7.out.alloc (.cells #[.int .i64 (num4 : Int), .int .i64 (den4 : Int)] 38))
      generalize w7.alloc (.cells #[.int .i64 (num4 : Int), .int .i64 (den4 : Int)] 38) = w8 at *
      generalize w7.heap.size = gb at *
      have HX8 := Lib.hid (And.intro x8 y8)
      have c0 := x8.cell 0 rfl
      have c1 := x8.cell 1 rfl
      have d0 := y8.cell 0 rfl
      have d1 := y8.cell 1 rfl
      have lc := x8.lt
      have ld := y8.lt
      have k1 : decide ((den : Int) < 1) = false := decide_eq_false (by omega)
      have k2 : decide ((den4 : Int) < 1) = false := decide_eq_false (by omega)
      have hma : ma ≤ 30 := by have h1 := HGL.out; rwa [HIA8.out.len] at h1
      clear B7 x7 x8 y8
      go_wp2_with fail
      refine (r20_SameInts _ _ _ _ _ _ _ _ _ HIA8.out HIB8.out (by omega)).mono ?_
      rintro e wc ⟨rfl, mc, rfl⟩
      have xc := HX8.out.1.drewN mc
      have yc := HX8.out.2.drewN mc
      have BC := bdrewN B8 mc
      clear c0 c1 d0 d1 lc ld B8
      generalize w8.drewN mc = wc at *
      have c0 := xc.cell 0 rfl
      have c1 := xc.cell 1 rfl
      have d0 := yc.cell 0 rfl
      have d1 := yc.cell 1 rfl
      have lc := xc.lt
      have ld := yc.lt
      clear xc yc
      by_cases hsame : natI g1 = natI g2
      · rw [decide_eq_true hsame]
        have hgg : g2 = g1 := by
          exact (List.map_inj_right (fun a b h => Int.ofNat.inj h)).1 hsame.symm
        have hq := HSC.out hgg
        obtain ⟨q, hqq⟩ : ∃ q, q = num4 * den := ⟨_, rfl⟩
        have hqb : q ≤ 1036800000000 * 14400 := by rw [hqq]; exact Nat.mul_le_mul (by omega) (by omega)
        rw [← hqq] at hq
        have m1 : 4 * (num : Int) * (den4 : Int) = (q : Int) := by rw [← hq, Int.natCast_mul, Int.natCast_mul]; rfl
        have m2 : (num4 : Int) * (den : Int) = (q : Int) := by rw [hqq, Int.natCast_mul]
        clear hsame hgg hq hqq
        go_wp2_with fail
        refine (law_awake _).mono ?_
        rintro e wf ⟨rfl, hbf⟩
        go_wp2_with fail
        go_ret
        exact ⟨rfl, BC.trans (hbf.mono BC.size)⟩
      · rw [decide_eq_false hsame]
        clear hsame
        go_wp2_with fail
        refine (law_awake _).mono ?_
        rintro e wf ⟨rfl, hbf⟩
        go_wp2_with fail
        go_ret
        exact ⟨rfl, BC.trans (hbf.mono BC.size)⟩
end Go.Proofs.Ytcgejbnmbamchaa
