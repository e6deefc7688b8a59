/- TransportSteady. -/
import Derived.Test.YtdnchjmopkhnaaaLawClk
import Derived.Test.YtdnchjmopkhnaaaOpenB
namespace Go.Proofs.Ytdnchjmopkhnaaa
open Go.RowKit
attribute [local go_sem ↓] Go.wp_at_zero Go.wp_at_succ

/-- The clock of packet i. -/
def stdC (s B : Nat) (l : List Bool) (i : Nat) : Int := if l[i]? = some true then (((s + arrN i B) % 2576980377600 : Nat) : Int) else -1
def StdOk (s B : Nat) (l : List Bool) (qs : List TA) : Prop := ∀ j x, qs[j]? = some x → x.p.pid = 7 ∧ x.p.clk = stdC s B l j
theorem jD_zero (B f i s : Nat) : jD B f (((s + arrN f B) % 2576980377600 : Nat) : Int) i (((s + arrN i B) % 2576980377600 : Nat) : Int) = 0 := by
  unfold jD
  generalize arrN f B = b
  generalize arrN i B = a
  have h1 := Nat.div_add_mod (s + a) 2576980377600
  have h2 := Nat.div_add_mod (s + b) 2576980377600
  generalize (s + a) % 2576980377600 = x at *
  generalize (s + b) % 2576980377600 = y at *
  generalize (s + a) / 2576980377600 = p at *
  generalize (s + b) / 2576980377600 = q at *
  rw [show (x : Int) - (y : Int) - ((a : Int) - (b : Int)) = 2576980377600 * ((q : Int) - (p : Int)) by omega]
  exact Int.mul_emod_right _ _
theorem jErr_zero : max 0 (jErr 0) = 0 := by decide
theorem std_zero {s B : Nat} {l : List Bool} {qs : List TA} (h : StdOk s B l qs) : ∀ k, (jSt B 7 (datas qs) k).2 = 0 ∧ ∀ f c, (jSt B 7 (datas qs) k).1 = some (f, c) → c = (((s + arrN f B) % 2576980377600 : Nat) : Int)
  | 0 => by simp [jSt]
  | k + 1 => by
    have ih := std_zero h k
    rcases hx : (datas qs)[k]? with _ | x
    · simp only [jSt, hx]; exact ih
    · rw [jSt_succ hx]
      unfold jStep
      split
      · rename_i hc
        have hq : x.clk = (((s + arrN k B) % 2576980377600 : Nat) : Int) := by
          rw [datas, List.getElem?_map] at hx
          rcases hy : qs[k]? with _ | y
          · simp [hy] at hx
          · simp only [hy, Option.map_some, Option.some.injEq] at hx
            have h2 := (h k y hy).2
            rw [hx] at h2
            unfold stdC at h2
            split at h2
            · exact h2
            · omega
        rcases hs : (jSt B 7 (datas qs) k).1 with _ | ⟨f, c⟩
        · simp only [Option.getD_none]
          refine ⟨?_, fun f' c' e => ?_⟩
          · rw [ih.1, hq, jD_zero]; exact jErr_zero
          · simp only [Option.some.injEq, Prod.mk.injEq] at e; rw [← e.1, ← e.2]; exact hq
        · simp only [Option.getD_some]
          have hcc := ih.2 f c hs
          refine ⟨?_, fun f' c' e => ?_⟩
          · rw [ih.1, hcc, hq, jD_zero]; exact jErr_zero
          · simp only [Option.some.injEq, Prod.mk.injEq] at e; rw [← e.1, ← e.2]; exact hcc
      · exact ih

theorem own_far {w : World} {base : Nat} {e : TypeId} {size n : Nat} {v : Value} {xs : List Value} {a : Addr} {u : Value} (h : w.ownsRow base e size v n xs) (ha : ∀ k, v.ownBlock = some k → k < a.block) : (w.setCell a u).ownsRow base e size v n xs :=
  World.ownsRow.kept h (row := some a.block) ⟨rfl, rfl, rfl, by simp [World.setCell], fun k _ hne => Below.heap_setCell w a u k (fun e => hne (by rw [e]))⟩ (by
    rcases hv : v.ownBlock with _ | k
    · exact .inl rfl
    · have := ha k hv
      refine .inr (fun e => ?_)
      injection e with e
      omega)

def StdRel (w : World) (s B : Nat) (l : List Bool) (n : Nat) (o i : Value) (wr : World) : Prop :=
  ∃ (k : Nat) (A1 : Option Addr) (c1 : Nat) (qs : List TA), k ≤ n ∧ i = .int .i64 (k : Int) ∧ o = .slice A1 k c1 ∧ qs.length = k ∧ StdOk s B l qs ∧ wr.ownsRow w.heap.size 28 5 (.slice A1 k c1) k (tpCells qs) ∧ Below w.heap.size w wr
theorem std_snoc {s B : Nat} {l : List Bool} {qs : List TA} {k : Nat} {y : TA} (hl : qs.length = k) (h : StdOk s B l qs) (h1 : y.p.pid = 7) (h2 : y.p.clk = stdC s B l k) : StdOk s B l (qs ++ [y]) := by
  intro j x hx
  rcases Nat.lt_trichotomy j k with hj | hj | hj
  · rw [List.getElem?_append_left (by omega)] at hx; exact h j x hx
  · subst hj
    rw [List.getElem?_append_right (by omega), hl, Nat.sub_self] at hx
    simp at hx
    subst hx
    exact ⟨h1, h2⟩
  · rw [List.getElem?_eq_none (by simp; omega)] at hx; cases hx

set_option maxRecDepth 100000 in
set_option maxHeartbeats 4000000 in
theorem law_Std_in (s B : Nat) (A : Option Addr) (n c : Nat) (l : List Bool) (w : World) (hl : Bls (fun _ => True) w A n l) (hs : s < 2576980377600) (h1 : 1 ≤ B) (h2 : B ≤ 1073741824) (hn : n ≤ 60) :
    Calls Try.prog 10 #[.int .i64 (s : Int), .slice A n c, .int .i64 (B : Int)] w fun e w' => e = .returned (.bool true) ∧ Below w.heap.size w w' := by
  have H := Lib.hid hl
  have t1 : decide ((s : Int) < 0) = false := decide_eq_false (by omega)
  have t2 : decide (2576980377600 ≤ (s : Int)) = false := decide_eq_false (by omega)
  have t3 : decide ((B : Int) < 1) = false := decide_eq_false (by omega)
  have t4 : decide (1073741824 < (B : Int)) = false := decide_eq_false (by omega)
  have t5 : decide (60 < (n : Int)) = false := decide_eq_false (by omega)
  clear hl
  go_enter Try.func10, Try.ntmps10
  go_wp2_with fail
  go_loopw [7, 8] (fun o i wr => StdRel w s B l n o i wr) (fun _ i _ => n - (intOf i).toNat)
  case atStart => exact ⟨0, none, 0, [], Nat.zero_le _, rfl, rfl, rfl, by intro j x hx; simp at hx, World.ownsRow_nil _ _ _ _, Below.refl _ _⟩
  case round =>
    obtain ⟨k, A1, c1, qs, hk, rfl, rfl, hql, hqs, ho, hb⟩ := hrel
    have HO := Lib.hid ho
    have HQ := Lib.hid hqs
    have HQL := Lib.hid hql
    clear ho hqs hql
    by_cases hlt : k < n
    · have ca := fun w => tr_Arrival k B w ⟨by omega, by omega⟩ ⟨by omega, by omega⟩
      rw [arrE_arrN k B ⟨h1, h2⟩ (by omega)] at ca
      have hle := arr_le k B 60 (by omega) (by omega)
      obtain ⟨t, ht⟩ : ∃ t, arrN k B = t := ⟨_, rfl⟩
      rw [ht] at ca hle
      have CA := Lib.hid ca
      have HT := Lib.hid ht
      have i0 : (0 : Int) ≤ (k : Int) := by omega
      have i1 : (k : Int) < (n : Int) := by omega
      have e1 : (t : Int).tmod 2576980377600 = ((t % 2576980377600 : Nat) : Int) := by rw [Int.tmod_eq_emod_of_nonneg (by omega)]; omega
      obtain ⟨u, hu⟩ : ∃ u, t % 2576980377600 = u := ⟨_, rfl⟩
      have hur : u < 2576980377600 := by omega
      rw [hu] at e1
      have e1b : (t : Int) % 2576980377600 = (u : Int) := by omega
      obtain ⟨v, hv⟩ : ∃ v, (s + u) % 2576980377600 = v := ⟨_, rfl⟩
      have e2 : IntKind.i64.wrap ((s : Int) + (u : Int)) = ((s : Int) + (u : Int)) := IntWalk.i64_in _ (by omega)
      have e3 : ((s : Int) + (u : Int)).tmod 2576980377600 = (v : Int) := by rw [Int.tmod_eq_emod_of_nonneg (by omega)]; omega
      have e4 : ((s : Int) + (u : Int)) % 2576980377600 = (v : Int) := by omega
      have HV : Hid ((s + t) % 2576980377600 = v) := Lib.hid (by omega)
      clear ca ht hu hv
      go_wp2_with fail
      refine (CA.out _).mono ?_
      rintro e w3 ⟨rfl, hb3⟩
      have B3 := hb.trans (hb3.mono hb.size)
      have z3 := B3.size
      have O3 := Lib.hid (own_ext HO.out hb3)
      obtain ⟨b, off, x, rfl, _, hbl, hx, hcx⟩ := (H.out.ext B3).at_ hlt
      have HX := Lib.hid hx
      have O4 := Lib.hid ((O3.out.alloc (.cells #[.int .u8 1] 5)).alloc (.cells #[.int .i64 7, .int .i64 0, .bool false, .int .i64 (-1), .slice (some ⟨w3.heap.size, 0, none⟩) 1 1] 28))
      have B4 := (B3.alloc z3 (.cells #[.int .u8 1] 5)).alloc (by simp; omega) (.cells #[.int .i64 7, .int .i64 0, .bool false, .int .i64 (-1), .slice (some ⟨w3.heap.size, 0, none⟩) 1 1] 28)
      have X4 := Bx.new' (w3.alloc (.cells #[.int .u8 1] 5)) 28 #[.int .i64 7, .int .i64 0, .bool false, .int .i64 (-1), .slice (some ⟨w3.heap.size, 0, none⟩) 1 1] (w3.heap.size + 1) (by simp)
      have hc4 : ((w3.alloc (.cells #[.int .u8 1] 5)).alloc (.cells #[.int .i64 7, .int .i64 0, .bool false, .int .i64 (-1), .slice (some ⟨w3.heap.size, 0, none⟩) 1 1] 28)).cell? ⟨b, off + k, none⟩ = some (.bool x) := by
        rw [← hcx]
        exact (((Below.refl w3.heap.size w3).alloc (Nat.le_refl _) _).alloc (by simp) _).cell (p := ⟨b, off + k, none⟩) hbl
      have hbl4 : b < ((w3.alloc (.cells #[.int .u8 1] 5)).alloc (.cells #[.int .i64 7, .int .i64 0, .bool false, .int .i64 (-1), .slice (some ⟨w3.heap.size, 0, none⟩) 1 1] 28)).heap.size := by simp; omega
      have HK : Hid (∀ j, (Value.slice A1 k c1).ownBlock = some j → w.heap.size ≤ j ∧ j < w3.heap.size) := Lib.hid (fun j hj => World.ownsRow.lt O3.out j hj)
      clear hx hcx hb3
      go_upto_region 11 with fail
      generalize (w3.alloc (.cells #[.int .u8 1] 5)).alloc (.cells #[.int .i64 7, .int .i64 0, .bool false, .int .i64 (-1), .slice (some ⟨w3.heap.size, 0, none⟩) 1 1] 28) = W at *
      have xc0 : W.cell? ⟨w3.heap.size + 1, 0, none⟩ = some (.int .i64 7) := X4.cell 0 rfl
      have xc1 : W.cell? ⟨w3.heap.size + 1, 1, none⟩ = some (.int .i64 0) := X4.cell 1 rfl
      have xc2 : W.cell? ⟨w3.heap.size + 1, 2, none⟩ = some (.bool false) := X4.cell 2 rfl
      have xc3 : W.cell? ⟨w3.heap.size + 1, 3, none⟩ = some (.int .i64 (-1)) := X4.cell 3 rfl
      have xc4 : W.cell? ⟨w3.heap.size + 1, 4, none⟩ = some (.slice (some ⟨w3.heap.size, 0, none⟩) 1 1) := X4.cell 4 rfl
      have xf := X4.frozen 3
      have xl := X4.lt
      have HB4 := Lib.hid B4
      have z4 := B4.size
      cases x with
      | false =>
        have O5 := Lib.hid (O4.out.alloc (.cells #[.int .i64 7, .int .i64 0, .bool false, .int .i64 (-1), .slice (some ⟨w3.heap.size, 0, none⟩) 1 1] 28))
        clear X4 B4 B3
        go_wp2_with (first | (at_builtin; go_must (refine wpList_appR _ rfl (.tmp 60) (.tmp 62) 40 rfl 28 (.agg #[.int .i64 0, .int .i64 0, .bool false, .int .i64 0, .slice none 0 0]) 5 56 Try.underlying40 Try.infoTP rfl (by decide) w.heap.size (.slice A1 k c1) k _ rfl O5.out (some ⟨W.heap.size, 0, none⟩) 1 1 [.int .i64 7, .int .i64 0, .bool false, .int .i64 (-1), .slice (some ⟨w3.heap.size, 0, none⟩) 1 1] rfl (Rw.lit (p := fun _ => True) _ _ _ rfl 1 5 rfl rfl trivial) (by simp [Value.oneCell']) (by omega) (by omega) (by simp; omega) ?_; intro v3 w4 ho3 hg3 ha3; obtain ⟨A3, c3, hv3⟩ := own_slice ho3; subst hv3)))
        go_roundw
        case rel =>
          refine ⟨k + 1, A3, c3, qs ++ [⟨⟨7, 0, false, -1, [1]⟩, some ⟨w3.heap.size, 0, none⟩, 1, 1⟩], by omega, by go_num, rfl, by simp [HQL.out], std_snoc HQL.out HQ.out rfl ?_, ?_, (HB4.out.alloc z4 _).grown hg3 (by simp; omega) (fun j hj => (HK.out j hj).1)⟩
          · unfold stdC; rw [HX.out]; rfl
          · rw [tpCells_snoc]; exact ho3
        case measure => (simp [intOf]; try omega)
      | true =>
        have O5 := Lib.hid ((own_far (a := ⟨w3.heap.size + 1, 3, none⟩) (u := .int .i64 (v : Int)) O4.out (fun j hj => by have := (HK.out j hj).2; dsimp only; omega)).alloc (.cells #[.int .i64 7, .int .i64 0, .bool false, .int .i64 (v : Int), .slice (some ⟨w3.heap.size, 0, none⟩) 1 1] 28))
        have HB5 := Lib.hid (bset B4 ⟨w3.heap.size + 1, 3, none⟩ (by dsimp only; omega) (.int .i64 (v : Int)))
        clear X4 B4 B3
        go_wp2_with (first | (at_builtin; go_must (refine wpList_appR _ rfl (.tmp 60) (.tmp 62) 40 rfl 28 (.agg #[.int .i64 0, .int .i64 0, .bool false, .int .i64 0, .slice none 0 0]) 5 56 Try.underlying40 Try.infoTP rfl (by decide) w.heap.size (.slice A1 k c1) k _ rfl O5.out (some ⟨W.heap.size, 0, none⟩) 1 1 [.int .i64 7, .int .i64 0, .bool false, .int .i64 (v : Int), .slice (some ⟨w3.heap.size, 0, none⟩) 1 1] rfl (Rw.lit (p := fun _ => True) _ _ _ rfl 1 5 rfl (by simp [World.setCell]) trivial) (by simp [Value.oneCell']) (by omega) (by omega) (by simp [World.setCell]; omega) ?_; intro v3 w4 ho3 hg3 ha3; obtain ⟨A3, c3, hv3⟩ := own_slice ho3; subst hv3)))
        go_roundw
        case rel =>
          refine ⟨k + 1, A3, c3, qs ++ [⟨⟨7, 0, false, (v : Int), [1]⟩, some ⟨w3.heap.size, 0, none⟩, 1, 1⟩], by omega, by go_num, rfl, by simp [HQL.out], std_snoc HQL.out HQ.out rfl ?_, ?_, (HB5.out.alloc (by simp [World.setCell]; omega) _).grown hg3 (by simp [World.setCell]; omega) (fun j hj => (HK.out j hj).1)⟩
          · unfold stdC; rw [HX.out, if_pos rfl, HT.out, HV.out]
          · rw [tpCells_snoc]; exact ho3
        case measure => (simp [intOf]; try omega)
    · have hkn : k = n := by omega
      subst hkn
      obtain ⟨B1, e1, hv1, hr1⟩ := own_rw (p := (w.heap.size ≤ ·)) HO.out (fun _ h => h)
      injection hv1 with hA1
      subst hA1
      have HR1 := Lib.hid hr1
      have hcj := fun w' (hr : Rw (w.heap.size ≤ ·) w' A1 k 5 (tpCells qs)) => tr_Jitter A1 k e1 qs 7 B w' hr HQL.out h1 h2 (by omega)
      rw [(std_zero HQ.out k).1] at hcj
      have HC := Lib.hid hcj
      clear hr1 hcj
      go_wp2_with fail
      refine (HC.out _ HR1.out).mono ?_
      rintro e w4 ⟨rfl, hb4⟩
      have B4 := hb.trans (hb4.mono hb.size)
      go_wp2_with fail
      refine (law_awake _).mono ?_
      rintro e w6 ⟨rfl, hb6⟩
      go_wp2_with fail
      go_ret
      exact ⟨rfl, B4.trans (hb6.mono B4.size)⟩

set_option maxRecDepth 100000 in
set_option maxHeartbeats 1000000 in
theorem law_TransportSteady (start : Int) (A : Option Addr) (n c : Nat) (l : List Bool) (b : Int) (w : World) (_ : I64 start) (hl : Bls (fun _ => True) w A n l) (_ : n ≤ maxLen) (_ : I64 b) :
    Calls Try.prog 10 #[.int .i64 start, .slice A n c, .int .i64 b] w fun e w' => e = .returned (.bool true) ∧ Below w.heap.size w w' := by
  by_cases hin : n ≤ 60 ∧ 0 ≤ start ∧ start < 2576980377600 ∧ 1 ≤ b ∧ b ≤ 1073741824
  · obtain ⟨h1, h2, h3, h4, h5⟩ := hin
    obtain ⟨S, rfl⟩ := Int.eq_ofNat_of_zero_le h2
    obtain ⟨B, rfl⟩ := Int.eq_ofNat_of_zero_le (show 0 ≤ b by omega)
    exact law_Std_in S B A n c l w hl (by omega) (by omega) (by omega) h1
  · rcases (by omega : 60 < n ∨ (n ≤ 60 ∧ start < 0) ∨ (n ≤ 60 ∧ 0 ≤ start ∧ 2576980377600 ≤ start) ∨ (n ≤ 60 ∧ 0 ≤ start ∧ start < 2576980377600 ∧ b < 1) ∨ (n ≤ 60 ∧ 0 ≤ start ∧ start < 2576980377600 ∧ 1 ≤ b ∧ 1073741824 < b)) with h1 | ⟨h1, h2⟩ | ⟨h1, h2, h3⟩ | ⟨h1, h2, h3, h4⟩ | ⟨h1, h2, h3, h4, h5⟩
    all_goals
      clear hin hl
      go_enter Try.func10, Try.ntmps10
      go_wp2_with fail
    all_goals
      refine (law_awake _).mono ?_
      rintro e w6 ⟨rfl, hb6⟩
      go_wp2_with fail
      go_ret
      exact ⟨rfl, hb6⟩
end Go.Proofs.Ytdnchjmopkhnaaa
