/- cutroomref27.Same. -/
import Derived.Test.YtcgejbnmbamchaaLdA
import Derived.Deep.DrawnRows
namespace Go.Proofs.Ytcgejbnmbamchaa
open Go.RowKit
attribute [local go_sem ↓] Go.wp_at_zero Go.wp_at_succ

theorem ne_at {α : Type} [DecidableEq α] {l m : List α} {k : Nat} {x y : α} (h1 : l[k]? = some x) (h2 : m[k]? = some y) (h : x ≠ y) : decide (l = m) = false := by
  apply decide_eq_false
  intro e
  rw [e, h2] at h1
  injection h1 with h1
  exact h h1.symm
theorem eq_all {α : Type} [DecidableEq α] {l m : List α} (hl : l.length = m.length) (h : ∀ j, j < l.length → l[j]? = m[j]?) : decide (l = m) = true := by
  apply decide_eq_true
  apply List.ext_getElem?
  intro j
  by_cases hj : j < l.length
  · exact h j hj
  · rw [List.getElem?_eq_none (by omega), List.getElem?_eq_none (by omega)]
set_option maxRecDepth 100000 in
set_option maxHeartbeats 4000000 in
theorem r27_Same {p q : Nat → Prop} (A B : Option Addr) (n c m d : Nat) (xs ys : List Ch) (w : World) (hx : Pcm p w A n xs) (hy : Pcm q w B m ys) (hn : n ≤ 4) (hl : ∀ x ∈ xs, x.n ≤ 1048576) :
    Calls Try.prog 29 #[.slice A n c, .slice B m d] w fun e w' => e = .returned (.bool (decide (sndOf xs = sndOf ys))) ∧ ∃ k, w' = w.drewN k := by
  have HX := Lib.hid hx
  have HY := Lib.hid hy
  have HLL := Lib.hid hl
  clear hl
  by_cases hnm : n = m
  · subst hnm
    clear hx hy
    go_enter Try.func29, Try.ntmps29
    go_wp2_with fail
    go_loopw [5] (fun v wr => ∃ i k : Nat, v = .int .i64 (i : Int) ∧ i ≤ n ∧ (∀ j, j < i → (sndOf xs)[j]? = (sndOf ys)[j]?) ∧ wr = w.drewN k) (fun v _ => n - (intOf v).toNat)
    case atStart => exact ⟨0, 0, rfl, Nat.zero_le _, fun j h => absurd h (by omega), rfl⟩
    case round =>
      obtain ⟨i, k, rfl, hi, hall, rfl⟩ := hrel
      have HA := Lib.hid hall
      clear hall
      by_cases hlt : i < n
      · obtain ⟨b1, o1, x, rfl, _, hb1, hxi, hc1, hi1, _, _, hs1⟩ := HX.out.at_ hlt
        obtain ⟨b2, o2, y, rfl, _, hb2, hyi, hc2, hi2, _, _, hs2⟩ := HY.out.at_ hlt
        have hxb := HLL.out x (List.mem_of_getElem? hxi)
        have hiz : (i : Int) < (n : Int) := by omega
        have hdl : decide ((i : Int) < (n : Int)) = true := decide_eq_true hiz
        have HI1 := Lib.hid hi1
        have HI2 := Lib.hid hi2
        have HSS := Lib.hid (And.intro hs1 hs2)
        clear hxi hyi hi1 hi2 hs1 hs2
        by_cases hln : x.n = y.n
        · have hz1 : ((x.n : Int) == (y.n : Int)) = true := by simp; omega
          rw [← hln] at hc2 hz1
          have HLN := Lib.hid hln
          clear hln
          go_wp2_with fail
          go_quiet (fail)
          go_wp2_with fail
          rename_i nq
          go_loopw [6] (fun v wr => ∃ j k2 : Nat, v = .int .i64 (j : Int) ∧ j ≤ x.n ∧ (∀ t, t < j → x.l[t]? = y.l[t]?) ∧ wr = w.drewN k2) (fun v _ => x.n - (intOf v).toNat)
          case atStart => exact ⟨0, _, rfl, Nat.zero_le _, fun j h => absurd h (by omega), by first | rfl | exact World.drewN_drewN _ _ _⟩
          case round =>
            obtain ⟨j, k2, rfl, hj, hall2, rfl⟩ := hrel
            have HA2 := Lib.hid hall2
            clear hall2
            by_cases hjl : j < x.n
            · obtain ⟨b3, o3, u, hA3, _, _, hu, hcu⟩ := HI1.out.at_ hjl
              obtain ⟨b4, o4, v, hA4, _, _, hv, hcv⟩ := HI2.out.at_ (j := j) (by rw [← HLN.out]; exact hjl)
              rw [hA3] at hc1
              rw [hA4] at hc2
              have hjz : (j : Int) < (x.n : Int) := by omega
              have hjd : decide ((j : Int) < (x.n : Int)) = true := decide_eq_true hjz
              have HUV := Lib.hid (And.intro hu hv)
              clear hu hv
              by_cases huv : u = v
              · subst huv
                go_wp2_with fail
                go_quiet (fail)
                go_wp2_with fail
                go_roundw
                case rel =>
                  refine ⟨j + 1, _, by go_num, by omega, fun t ht => ?_, by first | rfl | exact World.drewN_drewN _ _ _⟩
                  rcases Nat.lt_or_ge t j with h | h
                  · exact HA2.out t h
                  · obtain rfl : t = j := by omega
                    rw [HUV.out.1, HUV.out.2]
                case measure => simp [intOf]; omega
              · have hne : (u == v) = false := by simpa using huv
                have hnl : x.l ≠ y.l := fun e => huv (by have := HUV.out.1; rw [e, HUV.out.2] at this; injection this with this; exact this.symm)
                have HN := Lib.hid (ne_at HSS.out.1 HSS.out.2 hnl)
                clear hnl
                go_wp2_with fail
                go_quiet (fail)
                go_wp2_with fail
                go_ret
                exact ⟨ret_bool HN.out.symm, _, by first | rfl | exact World.drewN_drewN _ _ _⟩
            · obtain rfl : j = x.n := by omega
              have hjd : decide ((x.n : Int) < (x.n : Int)) = false := decide_eq_false (by omega)
              have hle : x.l = y.l := of_decide_eq_true (eq_all (by rw [HI1.out.len, HI2.out.len, HLN.out]) (fun t ht => HA2.out t (by rw [← HI1.out.len]; exact ht)))
              have HLE := Lib.hid hle
              clear hle
              go_wp2_with fail
              go_roundw
              case rel =>
                refine ⟨i + 1, _, by go_num, by omega, fun t ht => ?_, rfl⟩
                rcases Nat.lt_or_ge t i with h | h
                · exact HA.out t h
                · obtain rfl : t = i := by omega
                  rw [HSS.out.1, HSS.out.2, HLE.out]
              case measure => simp [intOf]; omega
        · have hz1 : ((x.n : Int) == (y.n : Int)) = false := by simp; omega
          have hnl : x.l ≠ y.l := fun e => hln (by rw [← HI1.out.len, ← HI2.out.len, e])
          have HN := Lib.hid (ne_at HSS.out.1 HSS.out.2 hnl)
          clear hnl
          go_wp2_with fail
          go_quiet (fail)
          go_wp2_with fail
          go_ret
          exact ⟨ret_bool HN.out.symm, _, World.drewN_drewN _ _ _⟩
      · obtain rfl : i = n := by omega
        have HE := Lib.hid (eq_all (HX.out.slen.trans HY.out.slen.symm) (fun j hj => HA.out j (by rw [← HX.out.slen]; exact hj)))
        have hid : decide ((i : Int) < (i : Int)) = false := decide_eq_false (by omega)
        go_wp2_with fail
        go_ret
        exact ⟨ret_bool HE.out.symm, k, rfl⟩
  · have hz : ¬ (n : Int) = (m : Int) := by omega
    have HN : Hid (decide (sndOf xs = sndOf ys) = false) := Lib.hid (decide_eq_false (fun e => hnm (by rw [← hx.slen, ← hy.slen, e])))
    clear hx hy
    go_enter Try.func29, Try.ntmps29
    go_wp2_with fail
    go_ret
    exact ⟨ret_bool HN.out.symm, 0, rfl⟩
end Go.Proofs.Ytcgejbnmbamchaa
