/- CadenceFieldOrder. -/
import Derived.Test.YtepadbeijjefiaaLawWeaves
import Derived.Test.YtepadbeijjefiaaOrderM
namespace Go.Proofs.Ytepadbeijjefiaa
open Go.RowKit

theorem weaveR_ok {n a b c d : Int} {l : List (Int × Int)} (h : weaveR n a b c d = (l, 0)) : ∃ N : Nat, n = N ∧ N ≤ 256 ∧ teleB a b c d = true ∧ (weaveL N a b c d).length / 2 ≤ 256 ∧ l = pairsL (weaveL N a b c d) ((weaveL N a b c d).length / 2) := by
  unfold weaveR at h
  split at h
  · rename_i hc
    split at h
    · simp at h
    · split at h
      · simp at h
      · injection h with h1 _
        exact ⟨n.toNat, by omega, by omega, hc.1, by omega, h1.symm⟩
  · simp at h
theorem weaveR_err (n a b c d : Int) : (weaveR n a b c d).2 = 0 ∨ (weaveR n a b c d).1 = [] := by
  unfold weaveR
  split
  · split
    · exact .inr rfl
    · split
      · exact .inr rfl
      · exact .inl rfl
  · exact .inr rfl

def flatL (l : List (Int × Int)) (k : Nat) : List Int := (l.take k).flatMap fun p => [p.1, p.2]
theorem flatL_len (l : List (Int × Int)) (k : Nat) (h : k ≤ l.length) : (flatL l k).length = 2 * k := by
  have : ∀ m : List (Int × Int), (m.flatMap fun p => [p.1, p.2]).length = 2 * m.length := by
    intro m
    induction m with
    | nil => rfl
    | cons p m ih => simp only [List.flatMap_cons, List.length_append, List.length_cons, List.length_nil] at *; omega
  rw [flatL, this, List.length_take]; omega
theorem flatL_succ {l : List (Int × Int)} {k : Nat} (h : k < l.length) : flatL l (k + 1) = flatL l k ++ [(l.getD k (0, 0)).1, (l.getD k (0, 0)).2] := by
  unfold flatL
  rw [List.take_succ_eq_append_getElem h, List.flatMap_append]
  simp [List.getD_eq_getElem?_getD, h]

/-- The first loop: the fields one after the other. -/
def FlRel (w : World) (l : List (Int × Int)) (v i : Value) (wr : World) : Prop :=
  ∃ (k : Nat) (A1 : Option Addr) (c1 : Nat), k ≤ l.length ∧ i = .int .i64 k ∧ v = .slice A1 (2 * k) c1 ∧ wr.ownsRow w.heap.size 3 1 (.slice A1 (2 * k) c1) (2 * k) ((flatL l k).map (Value.int .i64)) ∧ Below w.heap.size w wr
/-- The second loop: at is where the run of k begins. -/
def OdRel (h : Nat → Nat) (N : Nat) (a k : Value) : Prop := ∃ j : Nat, j ≤ N ∧ k = .int .i64 j ∧ a = .int .i64 ((ownL h j).length : Int)
def OdIn (h : Nat → Nat) (j : Nat) (a m : Value) : Prop := ∃ i : Nat, i ≤ h j ∧ m = .int .i64 i ∧ a = .int .i64 (((ownL h j).length + i : Nat) : Int)

set_option maxRecDepth 4000 in
set_option maxHeartbeats 2000000 in
theorem law_CadenceFieldOrder (n a b c d : Int) (w : World) (ha : I64 a) (hb : I64 b) (hc : I64 c) (hd : I64 d) :
    Calls Try.prog 12 #[.int .i64 n, .agg #[.int .i64 a, .int .i64 b], .agg #[.int .i64 c, .int .i64 d]] w fun e w' => e = .returned (.bool true) ∧ Below w.heap.size w w' := by
  have c1 := fun w => cad_Weave n a b c d w ha hb hc hd
  have hl := weaveR_len n a b c d
  have herr := weaveR_err n a b c d
  obtain ⟨l, er, hv⟩ : ∃ l er, weaveR n a b c d = (l, er) := ⟨_, _, rfl⟩
  rw [hv] at c1 hl herr
  have C1 := Lib.hid c1
  have hl' : l.length ≤ 256 := hl
  by_cases he : er = 0
  · subst he
    obtain ⟨N, rfl, hN, ht, hw, hlv⟩ := weaveR_ok hv
    clear c1 hv herr hl ha hb hc hd
    have hfl : flatL l l.length = ownL (runF (cntF a b c d) N) N := by
      unfold flatL
      rw [List.take_length, hlv, pairs_flat (weaveL N a b c d) (evenL_even _ _)]
      exact weave_runs _ _
    have hrun := fun k => run_bd ht N k
    generalize runF (cntF a b c d) N = h at *
    have hpos : ∀ i, i < N → 0 < h i := fun i _ => by have := hrun i; omega
    have hlen2 : (ownL h N).length = 2 * l.length := by rw [← hfl, flatL_len _ _ (Nat.le_refl _)]
    have HL := Lib.hid hl'
    have HFL := Lib.hid hfl
    have HRUN := Lib.hid hrun
    have HPOS := Lib.hid hpos
    have HLEN2 := Lib.hid hlen2
    clear hl' hfl hrun hpos hlen2 hlv hw ht
    go_enter Try.func12, Try.ntmps12
    go_wp2_with fail
    refine (C1.out _).mono ?_
    rintro e w1 ⟨A1, n1, k1, rfl, hn1, hR1, hb1⟩
    have hn1' : n1 = l.length := hn1
    have HN1 := Lib.hid hn1'
    have B1 : Below w.heap.size w w1 := (((Below.refl _ w).alloc (Nat.le_refl _) _).alloc (by simp) _).trans (hb1.mono (by simp; omega))
    have HB1 := Lib.hid B1
    have hle : n1 ≤ 256 := by rw [hn1']; exact HL.out
    clear hn1 hn1' B1 hb1 C1
    go_wp2_with fail
    go_loopw [9, 10] (fun v i wr => FlRel w1 l v i wr) (fun _ i _ => n1 - (intOf i).toNat)
    case atStart => exact ⟨0, none, 0, Nat.zero_le _, rfl, rfl, World.ownsRow_nil _ _ _ _, Below.refl _ _⟩
    case round =>
      obtain ⟨k, A2, c2, hk, rfl, rfl, ho, hbel⟩ := hrel
      have hk' : k ≤ n1 := by rw [HN1.out]; exact hk
      by_cases hlt : k < n1
      · obtain ⟨b0, off, rfl, hpb, hbl, hce⟩ := hR1.addr (by omega)
        have hkl : k < l.length := by rw [← HN1.out]; exact hlt
        obtain ⟨e0, e1⟩ := wovC_get hkl
        have f0 := (hbel.cell (p := ⟨b0, off + k * 2, none⟩) hbl).trans (hce _ _ e0)
        have f1 : wr.cell? ⟨b0, off + k * 2 + 1, none⟩ = _ := (hbel.cell (p := ⟨b0, off + (k * 2 + 1), none⟩) hbl).trans (hce _ _ e1)
        have hfs := flatL_succ hkl
        obtain ⟨X, hX⟩ : ∃ X, (l.getD k (0, 0)).1 = X := ⟨_, rfl⟩
        obtain ⟨Y, hY⟩ : ∃ Y, (l.getD k (0, 0)).2 = Y := ⟨_, rfl⟩
        rw [hX] at f0 hfs
        rw [hY] at f1 hfs
        have HFS := Lib.hid hfs
        have HO := Lib.hid ho
        have i1 : (k : Int) < (n1 : Int) := by omega
        have hbs := hbel.size
        have hnb : some b0 ≠ (Value.slice A2 (2 * k) c2).ownBlock := by
          intro e
          have := World.ownsRow.lt ho b0 e.symm
          omega
        have HNB := Lib.hid hnb
        obtain ⟨inf, hi0, hz0, hz1, hz2⟩ := info_parts Try.infoI
        have hjm : 2 * k + 2 ≤ maxLen := by simp only [maxLen]; omega
        have HI := Lib.hid hi0
        have HZ0 := Lib.hid hz0
        have HZ1 := Lib.hid hz1
        have HZ2 := Lib.hid hz2
        have hblw : b0 < wr.heap.size := by omega
        clear e0 e1 hce hX hY hfs ho hnb hi0 hz0 hz1 hz2
        go_wp2_with fail
        go_region_held3 (fun w' => w'.cell? ⟨b0, off + k * 2, none⟩ = some (.int .i64 X) ∧ w'.cell? ⟨b0, off + k * 2 + 1, none⟩ = some (.int .i64 Y))
          (first
            | go_keep
            | (go_split_ands
               refine ⟨?_, ?_⟩
               · (rw [hgrow.cell_far _ (by simp; omega) HNB.out]; assumption)
               · (rw [hgrow.cell_far _ (by simp; omega) HNB.out]; assumption)))
          ((refine step_append_lies _ (by rfl) _ _ _ (by rfl) w1.heap.size 3 inf _ 1 8 Try.underlying41 HI.out HZ0.out HZ1.out HZ2.out rfl (by omega) (.slice A2 (2 * k) c2) (2 * k) _ (by rfl) ((HO.out.alloc _).drew) ⟨wr.heap.size, 0, none⟩ 2 2 [.int .i64 X, .int .i64 Y] (by rfl) (by rfl) (World.news_of_block (cs := #[.int .i64 X, .int .i64 Y]) (t := 3) (fr := (0, 0)) (heap_alloc_new wr _)) (by simp [Value.oneCell']) (by omega) hjm (by omega) (by simp; omega) (wr.heap.size + 1) (by simp) ?_; intro gg cap w5 hown1 hgrow hat hlt2))
        go_wp2_with fail
        go_roundw
        case rel =>
          refine ⟨k + 1, some ⟨gg, 0, none⟩, cap, by omega, by go_num, by rw [show 2 * (k + 1) = 2 * k + 2 by omega], ?_, ?_⟩
          · rw [show 2 * (k + 1) = 2 * k + 2 by omega, HFS.out, List.map_append]
            exact hown1
          · exact (((hbel.alloc hbs _).drew).grown hgrow (by simp; omega) (fun j hj => (World.ownsRow.lt HO.out j hj).1))
        case measure => simp [intOf]; omega
      · have hkn : k = l.length := by have := HN1.out; omega
        obtain ⟨A, cc, hv, hrw⟩ := own_rw (p := fun _ => True) ho (fun _ _ => trivial)
        injection hv with hA hn hcc
        subst hA hcc
        have hrw2 : Rw (fun _ => True) wr A2 (2 * k) 1 ((ownL h N).map (Value.int .i64)) := by rw [← HFL.out, ← hkn]; exact hrw
        have hLN : (ownL h N).length = 2 * k := by rw [HLEN2.out, hkn]
        have HLN := Lib.hid hLN
        have HRW := Lib.hid hrw2
        clear hkn hrw hrw2 hn ho hLN
        go_wp2_with fail
        go_loop [11, 12] (fun t kk => OdRel h N t kk) (fun _ kk => N - (intOf kk).toNat)
        case atStart => exact ⟨0, Nat.zero_le _, rfl, rfl⟩
        case round =>
          obtain ⟨j, hj, rfl, rfl⟩ := hrel
          by_cases hjN : j < N
          · go_wp2_with fail
            go_loop [11, 13] (fun t m => OdIn h j t m) (fun _ m => h j - (intOf m).toNat)
            case atStart => exact ⟨0, Nat.zero_le _, rfl, rfl⟩
            case round =>
              obtain ⟨i, hi, rfl, rfl⟩ := hrel
              have hh4 : i ≤ 4 := by have := (HRUN.out j).2.1; omega
              by_cases hih : i < h j
              · have hat := ownL_at h hjN hih
                have hltn := ownL_lt h hjN hih
                rw [HLN.out] at hltn
                obtain ⟨b0, off, hA, _, _, hce⟩ := HRW.out.addr (by omega)
                have f0 := hce ((ownL h j).length + i) (.int .i64 (j : Int)) (by rw [List.getElem?_map, hat]; rfl)
                obtain ⟨t, htt⟩ : ∃ t, (ownL h j).length + i = t := ⟨_, rfl⟩
                rw [htt] at f0 hltn
                rw [htt]
                have HTT := Lib.hid htt
                subst hA
                have i1 : (t : Int) < ((2 * k : Nat) : Int) := by omega
                have i2 : (t : Int) < 2 * (k : Int) := by omega
                clear hce hat htt
                go_wp2_with fail
                go_round
                case rel => exact ⟨i + 1, by omega, by go_num, by congr 1; have := HTT.out; omega⟩
                case measure => simp [intOf]; omega
              · have hie : i = h j := by omega
                have hnx := ownL_next h hjN HPOS.out
                obtain ⟨r1, r2, r3⟩ := HRUN.out j
                rw [HLN.out] at hnx
                have hsc := ownL_len_succ h j
                obtain ⟨t, htt⟩ : ∃ t, (ownL h j).length + i = t := ⟨_, rfl⟩
                rw [htt]
                rw [← hie, htt] at hnx
                rw [← hie, htt] at hsc
                rw [← hie] at r1 r2 r3
                have HSC := Lib.hid hsc
                have db : decide ((i : Int) < 2) = false := by simp; omega
                have hcase : i ≤ 3 ∨ i = 4 ∧ j + 1 = N := by omega
                clear hsc htt hie hih hi r1 r2 r3
                rcases hnx with hnx | hnx
                · have dt : decide ((t : Int) < 2 * (k : Int)) = false := by simp; omega
                  have dt2 : decide (t < 2 * k) = false := by simp; omega
                  have dt3 : ¬ t < 2 * k := by omega
                  clear hnx
                  rcases hcase with hc3 | ⟨rfl, hc4⟩
                  · have dc : decide (3 < (i : Int)) = false := by simp; omega
                    go_wp2_with fail
                    go_round
                    case rel => exact ⟨j + 1, by omega, by go_num, by rw [HSC.out]⟩
                    case measure => simp [intOf]; omega
                  · have dc : decide ((j : Int) < (N : Int) - 1) = false := by simp; omega
                    go_wp2_with fail
                    go_round
                    case rel => exact ⟨j + 1, by omega, by go_num, by rw [HSC.out]⟩
                    case measure => simp [intOf]; omega
                · have hltn : t < 2 * k := by
                    have := (List.getElem?_eq_some_iff.1 hnx).1
                    rw [HLN.out] at this
                    exact this
                  obtain ⟨b0, off, hA, _, _, hce⟩ := HRW.out.addr (by omega)
                  have f0 := hce t (.int .i64 ((j : Int) + 1)) (by rw [List.getElem?_map, hnx]; simp)
                  subst hA
                  have i1 : (t : Int) < ((2 * k : Nat) : Int) := by omega
                  have i2 : (t : Int) < 2 * (k : Int) := by omega
                  have tq : (((j : Int) + 1) == (j : Int)) = false := by simp; omega
                  clear hce hnx
                  rcases hcase with hc3 | ⟨rfl, hc4⟩
                  · have dc : decide (3 < (i : Int)) = false := by simp; omega
                    go_wp2_with fail
                    go_round
                    case rel => exact ⟨j + 1, by omega, by go_num, by rw [HSC.out]⟩
                    case measure => simp [intOf]; omega
                  · have dc : decide ((j : Int) < (N : Int) - 1) = false := by simp; omega
                    go_wp2_with fail
                    go_round
                    case rel => exact ⟨j + 1, by omega, by go_num, by rw [HSC.out]⟩
                    case measure => simp [intOf]; omega
          · have hje : j = N := by omega
            subst hje
            rw [HLN.out]
            go_wp2_with fail
            refine (cad_awake _).mono ?_
            rintro e w9 ⟨rfl, hb9⟩
            go_wp2_with fail
            go_ret
            refine ⟨rfl, ?_⟩
            have B2 := HB1.out.trans (hbel.mono HB1.out.size)
            exact B2.trans (hb9.mono B2.size)
  · have herr' : l = [] := by
      rcases herr with h | h
      · exact absurd h he
      · exact h
    subst herr'
    have te : (er != 0) = true := by simpa using he
    clear c1 hv herr hl hl' ha hb hc hd he
    go_enter Try.func12, Try.ntmps12
    go_wp2_with fail
    refine (C1.out _).mono ?_
    rintro e w1 ⟨A1, n1, k1, rfl, hn1, hR1, hb1⟩
    have hn1' : n1 = 0 := hn1
    subst hn1'
    have B1 : Below w.heap.size w w1 := (((Below.refl _ w).alloc (Nat.le_refl _) _).alloc (by simp) _).trans (hb1.mono (by simp; omega))
    clear hn1 hR1 hb1 C1
    go_wp2_with fail
    refine (cad_awake _).mono ?_
    rintro e w9 ⟨rfl, hb9⟩
    go_wp2_with fail
    go_ret
    exact ⟨rfl, B1.trans (hb9.mono B1.size)⟩
end Go.Proofs.Ytepadbeijjefiaa
