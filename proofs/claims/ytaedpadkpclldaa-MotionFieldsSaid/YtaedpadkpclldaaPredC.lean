/- Prediction of a component, with room. -/
import Derived.Test.YtaedpadkpclldaaRange
import Derived.Test.YtaedpadkpclldaaLines
import Derived.Test.YtaedpadkpclldaaCut
namespace Go.Proofs.Ytaedpadkpclldaa
open Go.RowKit
attribute [local go_sem ↓] i64_and_one

set_option maxHeartbeats 2000000 in
theorem ref_componentC {p : Nat → Prop} (x y cols rows vx vy : Int) (pw ph : Nat) (A : Option Addr) (n c : Nat) (l : List Int) (w : World) (hl : Byt p w A n l) (hn : (n : Int) = cols * rows)
    (hc1 : 1 ≤ cols) (hc2 : cols ≤ 64) (hr1 : 1 ≤ rows) (hr2 : rows ≤ 64) (h1 : 0 ≤ x) (h2 : x ≤ 64) (h3 : 0 ≤ y) (h4 : y ≤ 64) (h5 : -63 ≤ vx) (h6 : vx ≤ 63) (h7 : -63 ≤ vy) (h8 : vy ≤ 63) (hpw : pw ≤ 16) (hph : ph ≤ 16) :
    Calls Try.prog 34 #[.slice A n c, .int .i64 cols, .int .i64 x, .int .i64 y, .int .i64 pw, .int .i64 ph, .int .i64 vx, .int .i64 vy] w (RetC w (predL l cols rows x y pw ph vx vy)) := by
  have HN := Lib.hid hn
  clear hn
  go_enter Try.func34, Try.ntmps34
  go_wp2
  go_loopw [17, 18] (fun v i wr => ∃ j : Nat, j ≤ ph ∧ i = .int .i64 j ∧ Below w.heap.size w wr ∧ OwB wr w.heap.size 5 v ((List.range (j * pw)).map (predAt l cols rows x y pw vx vy))) (fun _ i _ => ph - (intOf i).toNat)
  case atStart => exact ⟨0, Nat.zero_le _, rfl, Below.refl _ _, by simpa using OwB.nil⟩
  case round =>
    obtain ⟨j, hj, rfl, hbel, hown⟩ := hrel
    by_cases hlt : j < ph
    · go_wp2
      obtain ⟨wo, rfl⟩ : ∃ wo : World, wo = wr := ⟨_, rfl⟩
      go_loopw [17, 19] (fun v i wr => ∃ k : Nat, k ≤ pw ∧ i = .int .i64 k ∧ Below w.heap.size w wr ∧ OwB wr w.heap.size 5 v ((List.range (j * pw + k)).map (predAt l cols rows x y pw vx vy))) (fun _ i _ => pw - (intOf i).toNat)
      case atStart => exact ⟨0, Nat.zero_le _, rfl, hbel, by simpa using hown⟩
      case round =>
        clear hbel hown
        obtain ⟨k, hk, rfl, hbel, hown⟩ := hrel
        by_cases hlt' : k < pw
        · have hz : w.heap.size ≤ wr.heap.size := hbel.size
          have HB : Byt p wr A n l := hl.ext hbel
          have hjw : j * pw ≤ 256 := Nat.le_trans (Nat.mul_le_mul (show j ≤ 16 by omega) hpw) (by omega)
          have hv := halfS_bd hl.rng cols rows (2 * (x + (k : Int)) + vx) (2 * (y + (j : Int)) + vy)
          go_wp2_with (first
            | (go_at_call 46; ((with_reducible refine (ref_half _ _ cols rows _ _ _ l _ HB HN.out hc1 hc2 hr1 hr2 (by omega) (by omega) (by omega) (by omega)).mono ?_); rintro e w' ⟨rfl, rfl⟩))
            | (at_builtin; refine wpList_appB _ rfl _ _ _ rfl _ Try.underlying22 Try.infoB w.heap.size _ _ rfl (hown.alloc _) _ _ _ _ rfl (Byt.one _ _ _ hv.1 hv.2) (by simp; omega) (by simp; omega) ?_; intro v' w1 hown' hg hat))
          go_roundw
          case rel =>
            refine ⟨k + 1, by omega, by go_num, (hbel.alloc (by omega) _).grown hg (by simp; omega) (fun b hb => (hown.lt b hb).1), ?_⟩
            rw [← Nat.add_assoc, pred_snoc, predAt_ij hlt']
            exact hown'
          case measure => simp [intOf]; omega
        · obtain rfl : k = pw := by omega
          go_wp2
          go_roundw
          case rel => exact ⟨j + 1, by omega, by go_num, hbel, by rw [Nat.succ_mul]; exact hown⟩
          case measure => simp [intOf]; omega
    · obtain rfl : j = ph := by omega
      go_wp2
      go_ret
      obtain ⟨A1, c1, rfl, hcap, hB⟩ := hown.retC (p := (w.heap.size ≤ ·)) (fun _ h => h) (predL_rng hl.rng cols rows x y pw j vx vy)
      exact ⟨_, _, _, rfl, hcap, hB, hbel⟩


set_option maxHeartbeats 4000000 in
theorem motion_predictC {p : Nat → Prop} (x y cols rows vx vy : Int) (pw ph : Nat) (A : Option Addr) (n c : Nat) (l : List Int) (w : World) (hl : Byt p w A n l) (hn : (n : Int) = cols * rows)
    (hc1 : 1 ≤ cols) (hc2 : cols ≤ 64) (hr1 : 1 ≤ rows) (hr2 : rows ≤ 64) (h1 : 0 ≤ x) (h2 : x ≤ 64) (h3 : 0 ≤ y) (h4 : y ≤ 64) (h5 : -63 ≤ vx) (h6 : vx ≤ 63) (h7 : -63 ≤ vy) (h8 : vy ≤ 63) (hpw : pw ≤ 16) (hph : ph ≤ 16) :
    Calls Try.prog 32 #[.slice A n c, .int .i64 cols, .int .i64 rows, .agg #[.int .i64 x, .int .i64 y, .int .i64 pw, .int .i64 ph], .agg #[.int .i64 vx, .int .i64 vy]] w (RetC w (predL l cols rows x y pw ph vx vy)) := by
  have HN := Lib.hid hn
  clear hn
  have m16 : (pw : Int) * (ph : Int) ≤ 16 * 16 := (mul_bd (by omega) (by omega) (by omega) (by omega)).2
  have m0 : 0 ≤ (pw : Int) * (ph : Int) := Int.mul_nonneg (by omega) (by omega)
  have hmk := run_mkB (P := Try.prog) (t := 22) Try.underlying22 Try.infoB 0 ((pw : Int) * (ph : Int)) (by omega) m0 (by omega)
  go_enter Try.func32, Try.ntmps32
  go_upto_region 1 with fail
  go_cut [11, 12] (fun s11 s12 wx => ∃ br bd : Nat, s11 = .pointer (some ⟨br, 0, none⟩) ∧ s12 = .pointer (some ⟨bd, 0, none⟩) ∧ Bx wx w.heap.size 22 #[.slice A n c] ∧ Bx wx (w.heap.size + 1) 3 #[.int .i64 cols] ∧ Bx wx (w.heap.size + 1 + 1) 3 #[.int .i64 rows] ∧
    Bx wx (w.heap.size + 1 + 1 + 1) 53 #[.int .i64 x, .int .i64 y, .int .i64 pw, .int .i64 ph] ∧ Bx wx (w.heap.size + 1 + 1 + 1 + 1) 32 #[.int .i64 vx, .int .i64 vy] ∧ Bx wx br 3 #[.int .i64 (vx % 2)] ∧ Bx wx bd 3 #[.int .i64 (vy % 2)] ∧ Below w.heap.size w wx)
  case first =>
    go_region
    · go_wp2_with fail
      go_meet
      refine ⟨w.heap.size + 1 + 1 + 1 + 1 + 1, w.heap.size + 1 + 1 + 1 + 1 + 1 + 1, rfl, rfl, ?_, ?_, ?_, ?_, ?_, ?_, ?_, ?_⟩
      all_goals
        (first
         | (refine Bx.drew ?_; (repeat (first | (refine Bx.new' _ _ _ _ ?_; simp; done) | refine Bx.alloc ?_ _)); done)
         | (refine Below.drew ?_; (repeat (first | exact Below.refl _ _ | refine Below.alloc ?_ (by first | (simp; done) | (simp; omega)) _)); done))
    · go_wp2_with fail
      go_meet
      refine ⟨w.heap.size + 1 + 1 + 1 + 1 + 1 + 1, w.heap.size + 1 + 1 + 1 + 1 + 1, rfl, rfl, ?_, ?_, ?_, ?_, ?_, ?_, ?_, ?_⟩
      all_goals
        (first
         | (refine Bx.drew ?_; (repeat (first | (refine Bx.new' _ _ _ _ ?_; simp; done) | refine Bx.alloc ?_ _)); done)
         | (refine Below.drew ?_; (repeat (first | exact Below.refl _ _ | refine Below.alloc ?_ (by first | (simp; done) | (simp; omega)) _)); done))
  case rest =>
    obtain ⟨br, bd, rfl, rfl, x0, x1, x2, x3, x4, x5, x6, hb0⟩ := hcut
    have f0 := x0.cell 0 rfl
    have f1 := x1.cell 0 rfl
    have f2 := x2.cell 0 rfl
    have f30 := x3.cell 0 rfl
    have f31 := x3.cell 1 rfl
    have f32 := x3.cell 2 rfl
    have f33 := x3.cell 3 rfl
    have f40 := x4.cell 0 rfl
    have f41 := x4.cell 1 rfl
    have f5 := x5.cell 0 rfl
    have f6 := x6.cell 0 rfl
    have l0 := x0.lt
    have l1 := x1.lt
    have l2 := x2.lt
    have l3 := x3.lt
    have l4 := x4.lt
    have l5 := x5.lt
    have l6 := x6.lt
    go_wp2
    clear hmk f0 f1 f2 f30 f31 f32 f33 f40 f41 f5 f6
    go_loopw [14, 32] (fun v i wr => ∃ j : Nat, j ≤ ph ∧ i = .int .i64 j ∧ Below wc.heap.size wc wr ∧ OwB wr wc.heap.size 5 v ((List.range (j * pw)).map (predAt l cols rows x y pw vx vy))) (fun _ i _ => ph - (intOf i).toNat)
    case atStart => exact ⟨0, Nat.zero_le _, rfl, (Below.refl _ _).alloc (Nat.le_refl _) _, by simpa using OwB.made (Nat.le_refl _) (by omega)⟩
    case round =>
      obtain ⟨j, hj, rfl, hbel, hown⟩ := hrel
      by_cases hlt : j < ph
      · have f32 := (x3.ext hbel).cell 2 rfl
        go_wp2
        clear f32
        obtain ⟨wo, rfl⟩ : ∃ wo : World, wo = wr := ⟨_, rfl⟩
        go_loopw [14, 37] (fun v i wr => ∃ k : Nat, k ≤ pw ∧ i = .int .i64 k ∧ Below wc.heap.size wc wr ∧ OwB wr wc.heap.size 5 v ((List.range (j * pw + k)).map (predAt l cols rows x y pw vx vy))) (fun _ i _ => pw - (intOf i).toNat)
        case atStart => exact ⟨0, Nat.zero_le _, rfl, hbel, by simpa using hown⟩
        case round =>
          clear hbel hown
          obtain ⟨k, hk, rfl, hbel, hown⟩ := hrel
          by_cases hlt' : k < pw
          · have hz : wc.heap.size ≤ wr.heap.size := hbel.size
            have HB : Byt p wr A n l := (hl.ext hb0).ext hbel
            have hjw : j * pw ≤ 256 := Nat.le_trans (Nat.mul_le_mul (show j ≤ 16 by omega) hpw) (by omega)
            have hv := halfS_bd hl.rng cols rows (2 * (x + (k : Int)) + vx) (2 * (y + (j : Int)) + vy)
            have g0 := (x0.ext hbel).cell 0 rfl
            have g1 := (x1.ext hbel).cell 0 rfl
            have g2 := (x2.ext hbel).cell 0 rfl
            have g30 := (x3.ext hbel).cell 0 rfl
            have g31 := (x3.ext hbel).cell 1 rfl
            have g40 := (x4.ext hbel).cell 0 rfl
            have g41 := (x4.ext hbel).cell 1 rfl
            have g5 := (x5.ext hbel).cell 0 rfl
            have g6 := (x6.ext hbel).cell 0 rfl
            go_wp2_with (first
              | (go_at_call 44; ((with_reducible refine (motion_interp _ _ cols rows (vx % 2) (vy % 2) _ _ _ _ _ _ _ _ l _ HB HN.out hc1 hc2 hr1 hr2 (by omega) (by omega) (by omega) (by omega) (by omega) (by omega) (by omega) (by omega) g1 g5 g2 g6 g0).mono ?_); rintro e w' ⟨rfl, rfl⟩; rw [halfS_of]))
              | (at_builtin; refine wpList_appB _ rfl _ _ _ rfl _ Try.underlying22 Try.infoB wc.heap.size _ _ rfl (hown.drew.drew.drew.alloc _) _ _ _ _ rfl (Byt.one _ _ _ hv.1 hv.2) (by simp; omega) (by simp; omega) ?_; intro v' w1 hown' hg hat))
            go_roundw
            case rel =>
              refine ⟨k + 1, by omega, by go_num, (hbel.drew.drew.drew.alloc (by simpa using hz) _).grown hg (by simp; omega) (fun b hb => (hown.lt b hb).1), ?_⟩
              rw [← Nat.add_assoc, pred_snoc, predAt_ij hlt']
              exact hown'
            case measure => simp [intOf]; omega
          · obtain rfl : k = pw := by omega
            go_wp2
            go_roundw
            case rel => exact ⟨j + 1, by omega, by go_num, hbel, by rw [Nat.succ_mul]; exact hown⟩
            case measure => simp [intOf]; omega
      · obtain rfl : j = ph := by omega
        go_wp2
        go_ret
        obtain ⟨A1, c1, rfl, hcap, hB⟩ := hown.retC (p := (w.heap.size ≤ ·)) (fun _ h => by omega) (predL_rng hl.rng cols rows x y pw j vx vy)
        exact ⟨_, _, _, rfl, hcap, hB, hb0.trans (hbel.mono (by omega))⟩

theorem motion_predictC' {p : Nat → Prop} (x y cols rows vx vy PW PH : Int) (pw ph : Nat) (A : Option Addr) (n c : Nat) (l : List Int) (w : World) (hl : Byt p w A n l) (hPW : PW = pw) (hPH : PH = ph) (hn : (n : Int) = cols * rows)
    (hc1 : 1 ≤ cols) (hc2 : cols ≤ 64) (hr1 : 1 ≤ rows) (hr2 : rows ≤ 64) (h1 : 0 ≤ x) (h2 : x ≤ 64) (h3 : 0 ≤ y) (h4 : y ≤ 64) (h5 : -63 ≤ vx) (h6 : vx ≤ 63) (h7 : -63 ≤ vy) (h8 : vy ≤ 63) (hpw : pw ≤ 16) (hph : ph ≤ 16) :
    Calls Try.prog 32 #[.slice A n c, .int .i64 cols, .int .i64 rows, .agg #[.int .i64 x, .int .i64 y, .int .i64 PW, .int .i64 PH], .agg #[.int .i64 vx, .int .i64 vy]] w (RetC w (predL l cols rows x y pw ph vx vy)) := by
  subst hPW hPH
  exact motion_predictC x y cols rows vx vy pw ph A n c l w hl hn hc1 hc2 hr1 hr2 h1 h2 h3 h4 h5 h6 h7 h8 hpw hph

theorem ref_componentC' {p : Nat → Prop} (x y cols rows vx vy PW PH : Int) (pw ph : Nat) (A : Option Addr) (n c : Nat) (l : List Int) (w : World) (hl : Byt p w A n l) (hPW : PW = pw) (hPH : PH = ph) (hn : (n : Int) = cols * rows)
    (hc1 : 1 ≤ cols) (hc2 : cols ≤ 64) (hr1 : 1 ≤ rows) (hr2 : rows ≤ 64) (h1 : 0 ≤ x) (h2 : x ≤ 64) (h3 : 0 ≤ y) (h4 : y ≤ 64) (h5 : -63 ≤ vx) (h6 : vx ≤ 63) (h7 : -63 ≤ vy) (h8 : vy ≤ 63) (hpw : pw ≤ 16) (hph : ph ≤ 16) :
    Calls Try.prog 34 #[.slice A n c, .int .i64 cols, .int .i64 x, .int .i64 y, .int .i64 PW, .int .i64 PH, .int .i64 vx, .int .i64 vy] w (RetC w (predL l cols rows x y pw ph vx vy)) := by
  subst hPW hPH
  exact ref_componentC x y cols rows vx vy pw ph A n c l w hl hn hc1 hc2 hr1 hr2 h1 h2 h3 h4 h5 h6 h7 h8 hpw hph

end Go.Proofs.Ytaedpadkpclldaa
