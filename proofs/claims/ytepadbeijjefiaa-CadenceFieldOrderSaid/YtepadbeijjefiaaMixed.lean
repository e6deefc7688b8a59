/- The contracts of Mixed, SameWoven, SameInts. -/
import Derived.Test.YtepadbeijjefiaaWeaveM
namespace Go.Proofs.Ytepadbeijjefiaa
open Go.RowKit

def mixL (l : List (Int × Int)) (k : Nat) : List Int := (List.range k).flatMap fun i => if (l.getD i (0, 0)).1 = (l.getD i (0, 0)).2 then [] else [(i : Int)]
theorem mixL_succ (l : List (Int × Int)) (k : Nat) : mixL l (k + 1) = mixL l k ++ (if (l.getD k (0, 0)).1 = (l.getD k (0, 0)).2 then [] else [(k : Int)]) := by
  simp [mixL, List.range_succ, List.flatMap_append]
theorem mixL_len (l : List (Int × Int)) (k : Nat) : (mixL l k).length ≤ k := by
  induction k with
  | zero => simp [mixL]
  | succ k ih => rw [mixL_succ, List.length_append]; split <;> simp <;> omega

theorem wovC_get {l : List (Int × Int)} {k : Nat} (h : k < l.length) : (wovC l)[k * 2]? = some (.int .i64 (l.getD k (0, 0)).1) ∧ (wovC l)[k * 2 + 1]? = some (.int .i64 (l.getD k (0, 0)).2) := by
  induction l generalizing k with
  | nil => simp at h
  | cons p l ih =>
    cases k with
    | zero => simp [wovC]
    | succ k =>
      have := ih (k := k) (by simpa using h)
      have e1 : (k + 1) * 2 = k * 2 + 2 := by omega
      have e2 : (k + 1) * 2 + 1 = (k * 2 + 1) + 2 := by omega
      rw [e1, show k * 2 + 2 + 1 = (k * 2 + 1) + 2 by omega]
      simpa [wovC] using this

theorem own_drewN {w : World} {base : Nat} {e : TypeId} {size n : Nat} {v : Value} {xs : List Value} (h : w.ownsRow base e size v n xs) (k : Nat) : (w.drewN k).ownsRow base e size v n xs := h
/-- What returns a slice of numbers in new memory. -/
def RetI (w : World) (l : List Int) (e : Ending) (w' : World) : Prop :=
  ∃ A n c, e = .returned (.slice A n c) ∧ n = l.length ∧ Rw (w.heap.size ≤ ·) w' A n 1 (l.map (Value.int .i64)) ∧ Below w.heap.size w w'

/-- The state of the two loops: the indexes found so far. -/
def MxRel (w : World) (l : List (Int × Int)) (v i : Value) (wr : World) : Prop :=
  ∃ (k : Nat) (A1 : Option Addr) (c1 : Nat), k ≤ l.length ∧ i = .int .i64 k ∧ v = .slice A1 (mixL l k).length c1 ∧ wr.ownsRow w.heap.size 3 1 (.slice A1 (mixL l k).length c1) (mixL l k).length ((mixL l k).map (Value.int .i64)) ∧ Below w.heap.size w wr

theorem mx_keep {w wr : World} {l : List (Int × Int)} {k : Nat} {A1 : Option Addr} {c1 : Nat} (hk : k < l.length) (he : (l.getD k (0, 0)).1 = (l.getD k (0, 0)).2) (ho : wr.ownsRow w.heap.size 3 1 (.slice A1 (mixL l k).length c1) (mixL l k).length ((mixL l k).map (Value.int .i64))) (hb : Below w.heap.size w wr) :
    MxRel w l (.slice A1 (mixL l k).length c1) (.int .i64 ((k : Int) + 1)) wr := by
  refine ⟨k + 1, A1, c1, hk, by simp, ?_, ?_, hb⟩ <;> rw [mixL_succ, if_pos he, List.append_nil]
  exact ho
theorem mx_push {w wr : World} {l : List (Int × Int)} {k : Nat} {A1 : Option Addr} {n1 c1 : Nat} (hk : k < l.length) (he : (l.getD k (0, 0)).1 ≠ (l.getD k (0, 0)).2) (ho : wr.ownsRow w.heap.size 3 1 (.slice A1 n1 c1) ((mixL l k).length + 1) ((mixL l k).map (Value.int .i64) ++ [.int .i64 (k : Int)])) (hb : Below w.heap.size w wr) :
    MxRel w l (.slice A1 n1 c1) (.int .i64 ((k : Int) + 1)) wr := by
  obtain ⟨A, c, hv⟩ := own_slice ho
  injection hv with hA hn hc
  subst hn
  have e : mixL l (k + 1) = mixL l k ++ [(k : Int)] := by rw [mixL_succ, if_neg he]
  refine ⟨k + 1, A1, c1, hk, by simp, ?_, ?_, hb⟩ <;> rw [e]
  · simp
  · simpa using ho

set_option maxHeartbeats 1000000 in
theorem cad_Mixed {p : Nat → Prop} (A : Option Addr) (n c : Nat) (l : List (Int × Int)) (w : World) (hn : n = l.length) (hR : Rw p w A n 2 (wovC l)) (hle : n ≤ 100000) :
    Calls Try.prog 30 #[.slice A n c] w (RetI w (mixL l l.length)) := by
  have HN := Lib.hid hn
  clear hn
  go_enter Try.func30, Try.ntmps30
  go_wp2_with fail
  go_loopw [3, 8] (fun v i wr => MxRel w l v i wr) (fun _ i _ => n - (intOf i).toNat)
  case atStart => exact ⟨0, none, 0, Nat.zero_le _, rfl, rfl, World.ownsRow_nil _ _ _ _, Below.refl _ _⟩
  case round =>
    obtain ⟨k, A1, c1, hk, rfl, rfl, ho, hb⟩ := hrel
    have hml := mixL_len l k
    by_cases hlt : k < n
    · obtain ⟨b, off, rfl, hpb, hbl, hc⟩ := hR.addr (by omega)
      have hkl : k < l.length := by rw [← HN.out]; exact hlt
      obtain ⟨e0, e1⟩ := wovC_get hkl
      have f0 := (hb.cell (p := ⟨b, off + k * 2, none⟩) hbl).trans (hc _ _ e0)
      have f1 : wr.cell? ⟨b, off + k * 2 + 1, none⟩ = _ := (hb.cell (p := ⟨b, off + (k * 2 + 1), none⟩) hbl).trans (hc _ _ e1)
      have hp := fun (wr : World) (A1 : Option Addr) (n1 c1 : Nat) => mx_push (w := w) (wr := wr) (l := l) (k := k) (A1 := A1) (n1 := n1) (c1 := c1) hkl
      have hkk := fun (wr : World) (A1 : Option Addr) (c1 : Nat) => mx_keep (w := w) (wr := wr) (l := l) (k := k) (A1 := A1) (c1 := c1) hkl
      obtain ⟨X, hX⟩ : ∃ X, (l.getD k (0, 0)).1 = X := ⟨_, rfl⟩
      obtain ⟨Y, hY⟩ : ∃ Y, (l.getD k (0, 0)).2 = Y := ⟨_, rfl⟩
      rw [hX] at f0
      rw [hY] at f1
      rw [hX, hY] at hp hkk
      obtain ⟨m, hm⟩ : ∃ m, (mixL l k).length = m := ⟨_, rfl⟩
      rw [hm] at hp hkk ho hml ⊢
      have HP := Lib.hid hp
      have HK := Lib.hid hkk
      have hbs := hb.size
      have HO := Lib.hid ho
      clear e0 e1 hc hX hY hm ho hp hkk
      by_cases hxy : X = Y
      · have t1 : (X != Y) = false := by simpa using hxy
        have HXY := Lib.hid hxy
        clear hxy
        go_wp2_with fail
        go_roundw
        case rel => exact HK.out _ _ _ HXY.out (HO.out.alloc _) (hb.alloc hbs _)
        case measure => simp [intOf]; omega
      · have t1 : (X != Y) = true := by simpa using hxy
        have HXY := Lib.hid hxy
        clear hxy
        go_wp2_with (first | (at_builtin; go_must (refine wpList_appR _ rfl (.tmp 18) (.tmp 20) 41 rfl 3 (.int .i64 0) 1 8 Try.underlying41 Try.infoI rfl (by decide) w.heap.size (.slice A1 m c1) m _ rfl ((HO.out.alloc _).alloc _) (some ⟨wr.heap.size + 1, 0, none⟩) 1 1 [.int .i64 k] rfl (Rw.lit (p := fun _ => True) _ _ _ rfl 1 1 rfl (by simp) trivial) (by simp [Value.oneCell']) (by omega) (by omega) (by simp; omega) ?_; intro v3 w4 ho3 hg3 ha3; obtain ⟨A3, c3, hv3⟩ := own_slice ho3; subst hv3)))
        go_roundw
        case rel => exact HP.out _ _ _ _ HXY.out ho3 (((hb.alloc hbs _).alloc (by simp; omega) _).grown hg3 (by simp; omega) (fun j hj => (World.ownsRow.lt HO.out j hj).1))
        case measure => simp [intOf]; omega
    · have hkn : k = l.length := by have := HN.out; omega
      have HK := Lib.hid hkn
      clear hkn
      go_wp2_with fail
      go_ret
      rw [← HK.out]
      obtain ⟨A', c', hv, hrw⟩ := own_rw (p := (w.heap.size ≤ ·)) ho (fun _ h => h)
      injection hv with hA _ hc
      subst hA hc
      exact ⟨_, _, _, rfl, rfl, hrw, hb⟩

set_option maxHeartbeats 1000000 in
theorem ref_Mixed {p : Nat → Prop} (A : Option Addr) (n c : Nat) (l : List (Int × Int)) (w : World) (hn : n = l.length) (hR : Rw p w A n 2 (wovC l)) (hle : n ≤ 100000) :
    Calls Try.prog 31 #[.slice A n c] w (RetI w (mixL l l.length)) := by
  have HN := Lib.hid hn
  clear hn
  go_enter Try.func31, Try.ntmps31
  go_wp2_with fail
  go_loopw [3, 4] (fun v i wr => MxRel w l v i wr) (fun _ i _ => n - (intOf i).toNat)
  case atStart => exact ⟨0, none, 0, Nat.zero_le _, rfl, rfl, World.ownsRow_nil _ _ _ _, Below.refl _ _⟩
  case round =>
    obtain ⟨k, A1, c1, hk, rfl, rfl, ho, hb⟩ := hrel
    have hml := mixL_len l k
    by_cases hlt : k < n
    · obtain ⟨b, off, rfl, hpb, hbl, hc⟩ := hR.addr (by omega)
      have hkl : k < l.length := by rw [← HN.out]; exact hlt
      obtain ⟨e0, e1⟩ := wovC_get hkl
      have f0 := (hb.cell (p := ⟨b, off + k * 2, none⟩) hbl).trans (hc _ _ e0)
      have f1 : wr.cell? ⟨b, off + k * 2 + 1, none⟩ = _ := (hb.cell (p := ⟨b, off + (k * 2 + 1), none⟩) hbl).trans (hc _ _ e1)
      have hp := fun (wr : World) (A1 : Option Addr) (n1 c1 : Nat) => mx_push (w := w) (wr := wr) (l := l) (k := k) (A1 := A1) (n1 := n1) (c1 := c1) hkl
      have hkk := fun (wr : World) (A1 : Option Addr) (c1 : Nat) => mx_keep (w := w) (wr := wr) (l := l) (k := k) (A1 := A1) (c1 := c1) hkl
      obtain ⟨X, hX⟩ : ∃ X, (l.getD k (0, 0)).1 = X := ⟨_, rfl⟩
      obtain ⟨Y, hY⟩ : ∃ Y, (l.getD k (0, 0)).2 = Y := ⟨_, rfl⟩
      rw [hX] at f0
      rw [hY] at f1
      rw [hX, hY] at hp hkk
      obtain ⟨m, hm⟩ : ∃ m, (mixL l k).length = m := ⟨_, rfl⟩
      rw [hm] at hp hkk ho hml ⊢
      have HP := Lib.hid hp
      have HK := Lib.hid hkk
      have hbs := hb.size
      have HO := Lib.hid ho
      have i1 : (k : Int) < (n : Int) := by omega
      clear e0 e1 hc hX hY hm ho hp hkk
      by_cases hxy : X = Y
      · have t1 : (X != Y) = false := by simpa using hxy
        have HXY := Lib.hid hxy
        clear hxy
        go_wp2_with fail
        go_quiet (fail)
        go_wp2_with fail
        go_roundw
        case rel => exact HK.out _ _ _ HXY.out (own_drewN HO.out _) (below_drewN hb _)
        case measure => simp [intOf]; omega
      · have t1 : (X != Y) = true := by simpa using hxy
        have HXY := Lib.hid hxy
        clear hxy
        go_wp2_with fail
        go_quiet (fail)
        go_wp2_with (first | (at_builtin; go_must (refine wpList_appR _ rfl (.tmp 22) (.tmp 24) 41 rfl 3 (.int .i64 0) 1 8 Try.underlying41 Try.infoI rfl (by decide) w.heap.size (.slice A1 m c1) m _ rfl (own_drewN (HO.out.alloc _) _) (some ⟨wr.heap.size, 0, none⟩) 1 1 [.int .i64 k] rfl ((Rw.lit (p := fun _ => True) _ _ _ rfl 1 1 rfl rfl trivial).drewN _) (by simp [Value.oneCell']) (by omega) (by omega) (by simp; omega) ?_; intro v3 w4 ho3 hg3 ha3; obtain ⟨A3, c3, hv3⟩ := own_slice ho3; subst hv3)))
        go_roundw
        case rel => exact HP.out _ _ _ _ HXY.out ho3 ((below_drewN (hb.alloc hbs _) _).grown hg3 (by simp; omega) (fun j hj => (World.ownsRow.lt HO.out j hj).1))
        case measure => simp [intOf]; omega
    · have hkn : k = l.length := by have := HN.out; omega
      have HK := Lib.hid hkn
      clear hkn
      go_wp2_with fail
      go_ret
      rw [← HK.out]
      obtain ⟨A', c', hv, hrw⟩ := own_rw (p := (w.heap.size ≤ ·)) ho (fun _ h => h)
      injection hv with hA _ hc
      subst hA hc
      exact ⟨_, _, _, rfl, rfl, hrw, hb⟩

set_option maxHeartbeats 1000000 in
theorem ref_SameWoven {p p' : Nat → Prop} (A A' : Option Addr) (n c c' : Nat) (l : List (Int × Int)) (w : World) (hn : n = l.length) (hR : Rw p w A n 2 (wovC l)) (hR' : Rw p' w A' n 2 (wovC l)) (hle : n ≤ 100000) :
    Calls Try.prog 28 #[.slice A n c, .slice A' n c'] w fun e w' => e = .returned (.bool true) ∧ ∃ m, w' = w.drewN m := by
  have HN := Lib.hid hn
  clear hn
  go_enter Try.func28, Try.ntmps28
  go_wp2_with fail
  go_loopw [5] (fun i wr => ∃ k m : Nat, k ≤ n ∧ i = .int .i64 k ∧ wr = w.drewN m) (fun i _ => n - (intOf i).toNat)
  case atStart => exact ⟨0, 0, Nat.zero_le _, rfl, rfl⟩
  case round =>
    obtain ⟨k, m, hk, rfl, rfl⟩ := hrel
    by_cases hlt : k < n
    · obtain ⟨b, off, rfl, _, _, hc⟩ := hR.addr (by omega)
      obtain ⟨b', off', rfl, _, _, hc'⟩ := hR'.addr (by omega)
      have hkl : k < l.length := by rw [← HN.out]; exact hlt
      obtain ⟨e0, e1⟩ := wovC_get hkl
      have f0 := hc _ _ e0
      have f1 : w.cell? ⟨b, off + k * 2 + 1, none⟩ = _ := hc _ _ e1
      have f2 := hc' _ _ e0
      have f3 : w.cell? ⟨b', off' + k * 2 + 1, none⟩ = _ := hc' _ _ e1
      generalize (l.getD k (0, 0)).1 = X at *
      generalize (l.getD k (0, 0)).2 = Y at *
      have i1 : (k : Int) < (n : Int) := by omega
      clear e0 e1 hc hc' hkl
      go_wp2_with fail
      go_quiet (fail)
      go_wp2_with fail
      go_roundw
      case rel => exact ⟨k + 1, _, by omega, by go_num, rfl⟩
      case measure => simp [intOf]; omega
    · go_wp2_with fail
      go_ret
      exact ⟨rfl, m, rfl⟩

set_option maxHeartbeats 1000000 in
theorem ref_SameInts {p p' : Nat → Prop} (A A' : Option Addr) (n c c' : Nat) (l : List Int) (w : World) (hn : n = l.length) (hR : Rw p w A n 1 (l.map (Value.int .i64))) (hR' : Rw p' w A' n 1 (l.map (Value.int .i64))) (hle : n ≤ 100000) :
    Calls Try.prog 29 #[.slice A n c, .slice A' n c'] w fun e w' => e = .returned (.bool true) ∧ ∃ m, w' = w.drewN m := by
  have HN := Lib.hid hn
  clear hn
  go_enter Try.func29, Try.ntmps29
  go_wp2_with fail
  go_loopw [5] (fun i wr => ∃ k m : Nat, k ≤ n ∧ i = .int .i64 k ∧ wr = w.drewN m) (fun i _ => n - (intOf i).toNat)
  case atStart => exact ⟨0, 0, Nat.zero_le _, rfl, rfl⟩
  case round =>
    obtain ⟨k, m, hk, rfl, rfl⟩ := hrel
    by_cases hlt : k < n
    · obtain ⟨b, off, rfl, _, _, hc⟩ := hR.addr (by omega)
      obtain ⟨b', off', rfl, _, _, hc'⟩ := hR'.addr (by omega)
      have hkl : k < l.length := by rw [← HN.out]; exact hlt
      have e0 : (l.map (Value.int .i64))[k]? = some (.int .i64 l[k]) := by simp [hkl]
      have f0 := hc _ _ e0
      have f2 := hc' _ _ e0
      generalize l[k] = X at *
      have i1 : (k : Int) < (n : Int) := by omega
      clear e0 hc hc' hkl
      go_wp2_with fail
      go_quiet (fail)
      go_wp2_with fail
      go_roundw
      case rel => exact ⟨k + 1, _, by omega, by go_num, rfl⟩
      case measure => simp [intOf]; omega
    · go_wp2_with fail
      go_ret
      exact ⟨rfl, m, rfl⟩
end Go.Proofs.Ytepadbeijjefiaa
