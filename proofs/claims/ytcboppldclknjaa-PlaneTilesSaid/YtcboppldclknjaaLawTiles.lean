/- The law PlaneTiles returns true for every frame and flags. -/
import Derived.Test.YtcboppldclknjaaLawSets
import Derived.Test.YtcboppldclknjaaTilesM
import Derived.Test.YtcboppldclknjaaOpenB
namespace Go.Proofs.Ytcboppldclknjaa
open Go.RowKit

def flag (l : List Bool) (m : Nat) : Bool := if l.length = 0 then false else l.getD (m % l.length) false
/-- The blocks ahead of block n of macroblock m agree. -/
def Tiled (f g : Fr) (a : Nat) (l : List Bool) (m n : Nat) : Prop := ∀ m' n' k, (m' < m ∨ m' = m ∧ n' < n) → n' < 6 → k < 64 → agr g f n' (placeN (16 * a) (m' % a) (m' / a) n' (flag l m') k)
theorem Tiled.none (f g : Fr) (a : Nat) (l : List Bool) : Tiled f g a l 0 0 := fun m' n' k h => by omega
theorem Tiled.next {f g : Fr} {a m : Nat} {l : List Bool} (h : Tiled f g a l m 6) : Tiled f g a l (m + 1) 0 := fun m' n' k h1 h2 h3 => h m' n' k (by omega) h2 h3
theorem Tiled.step {f g : Fr} {a b m n : Nat} {l : List Bool} (h : Tiled f g a l m n) (hsz : SameSize g f) (hW : f.W = ((16 * a : Nat) : Int)) (hmx : m % a < a) (hmy : m / a < b) (hn : n ≤ 5)
    (lY : f.Y.length = (16 * b) * (16 * a)) (lU : f.U.length = (8 * b) * (8 * a)) (lV : f.V.length = (8 * b) * (8 * a))
    (rY : ∀ x ∈ f.Y, 0 ≤ x ∧ x ≤ 255) (rU : ∀ x ∈ f.U, 0 ≤ x ∧ x ≤ 255) (rV : ∀ x ∈ f.V, 0 ≤ x ∧ x ≤ 255) :
    SameSize (setBlkF g (m % a) (m / a) n (flag l m) (blockL f (m % a) (m / a) n (flag l m))) f ∧ Tiled f (setBlkF g (m % a) (m / a) n (flag l m) (blockL f (m % a) (m / a) n (flag l m))) a l m (n + 1) := by
  obtain ⟨h1, h2, h3⟩ := tile_step (fd := flag l m) hsz hW hmx hmy hn lY lU lV rY rU rV
  refine ⟨h1, fun m' n' k hm hn' hk => ?_⟩
  by_cases he : m' = m ∧ n' = n
  · obtain ⟨rfl, rfl⟩ := he
    have := h3 k hk
    rwa [show f.W.toNat = 16 * a by omega] at this
  · exact h2 _ _ (h m' n' k (by omega) hn' hk)
theorem flat_same {f : Fr} {x y z : Int} {a b : Nat} (hW : f.W = ((16 * a : Nat) : Int)) (hH : f.H = ((16 * b : Nat) : Int)) (lY : f.Y.length = (16 * b) * (16 * a)) (lU : f.U.length = (8 * b) * (8 * a)) (lV : f.V.length = (8 * b) * (8 * a)) : SameSize (flatF f.W f.H x y z) f := by
  have e1 : (f.W * f.H).toNat = (16 * b) * (16 * a) := by rw [hW, hH, ← Int.natCast_mul, Int.toNat_natCast, Nat.mul_comm]
  have e2 : (f.W / 2 * (f.H / 2)).toNat = (8 * b) * (8 * a) := by
    rw [hW, hH, show ((16 * a : Nat) : Int) / 2 = ((8 * a : Nat) : Int) by omega, show ((16 * b : Nat) : Int) / 2 = ((8 * b : Nat) : Int) by omega, ← Int.natCast_mul, Int.toNat_natCast, Nat.mul_comm]
  refine ⟨rfl, rfl, ?_, ?_, ?_⟩
  · rw [lY, ← e1]; simp [flatF]
  · rw [lU, ← e2]; simp [flatF]
  · rw [lV, ← e2]; simp [flatF]
theorem flat_ok {f : Fr} {x y z : Int} (h : validB f = true) : flatR f.W f.H x y z = (flatF f.W f.H x y z, 0) := by
  unfold flatR
  have h1 : sizeB f.W f.H = true := by
    simp only [validB, formedB, Bool.and_eq_true] at h
    exact h.1.1.1.1.1
  rw [if_pos h1]
theorem block_ok {f : Fr} {mx my n : Nat} {fd : Bool} (h : hasB f mx my = true) (hn : n ≤ 5) : blockF f mx my n fd = (blockL f mx my n fd, 0) := by
  unfold blockF
  rw [if_pos ⟨h, by omega, by omega⟩]
  simp
theorem set_ok {f : Fr} {mx my n : Nat} {fd : Bool} {x : List Int} (h : hasB f mx my = true) (hn : n ≤ 5) : setF f mx my n fd x = (setBlkF f mx my n fd x, 0) := by
  unfold setF
  rw [if_pos ⟨h, by omega, by omega⟩]
  simp
theorem has_of {f : Fr} {a b i j : Nat} (hv : validB f = true) (hW : f.W = ((16 * a : Nat) : Int)) (hH : f.H = ((16 * b : Nat) : Int)) (hi : i < a) (hj : j < b) : hasB f i j = true := by
  simp only [hasB, Bool.and_eq_true, decide_eq_true_eq]
  refine ⟨⟨⟨⟨hv, by omega⟩, ?_⟩, by omega⟩, ?_⟩
  · rw [hW]; omega
  · rw [hH]; omega

set_option maxRecDepth 8000 in
set_option maxHeartbeats 4000000 in
theorem law_Tiles_no {p : Nat → Prop} (v : Value) (f : Fr) (A : Option Addr) (m c : Nat) (w : World) (hf : IsFr p w v f) (hno : ¬ (lightB f = true ∧ validB f = true)) :
    Calls Try.prog 12 #[v, .slice A m c] w fun e w' => e = .returned (.bool true) ∧ Below w.heap.size w w' := by
  have hf0 := hf
  obtain ⟨a1, a2, a3, a4, a5, a6, a7, a8, a9, rfl, hy, hu, hv⟩ := hf
  clear hy hu hv
  by_cases hl : lightB f = true
  · have hv : validB f = false := by
      cases h : validB f
      · rfl
      · exact absurd ⟨hl, h⟩ hno
    clear hno
    go_enter Try.func12, Try.ntmps12
    go_wp2_with fail
    refine (law_light _ f _ (by (repeat with_reducible apply IsFr.alloc); exact hf0)).mono ?_
    rintro e w1 ⟨rfl, hb1⟩
    have B1 : Below w.heap.size w w1 := ((Below.refl _ w).alloc (by simp) _).trans (hb1.mono (by simp))
    have x1 : Bx w1 w.heap.size 24 #[.int .i64 f.W, .int .i64 f.H, .slice a1 a2 a3, .slice a4 a5 a6, .slice a7 a8 a9] := (Bx.new w _ _).ext hb1
    clear hb1
    obtain ⟨c0, c1, c2, c3, c4⟩ := x1.cells5
    have lx := x1.lt
    go_wp2_with fail
    refine (ref_Valid _ f _ (hf0.ext B1)).mono ?_
    rintro e w2 ⟨rfl, hb2⟩
    have B2 := B1.trans (hb2.mono B1.size)
    clear hb2 c0 c1 c2 c3 c4
    go_wp2_with fail
    refine (plane_awake _).mono ?_
    rintro e w3 ⟨rfl, hb3⟩
    have B3 := B2.trans (hb3.mono B2.size)
    go_wp2_with fail
    go_ret
    exact ⟨rfl, B3⟩
  · have hl' : lightB f = false := by simpa using hl
    clear hno
    go_enter Try.func12, Try.ntmps12
    go_wp2_with fail
    refine (law_light _ f _ (by (repeat with_reducible apply IsFr.alloc); exact hf0)).mono ?_
    rintro e w1 ⟨rfl, hb1⟩
    have B1 : Below w.heap.size w w1 := ((Below.refl _ w).alloc (by simp) _).trans (hb1.mono (by simp))
    clear hb1
    go_wp2_with fail
    refine (plane_awake _).mono ?_
    rintro e w3 ⟨rfl, hb3⟩
    have B3 := B1.trans (hb3.mono B1.size)
    go_wp2_with fail
    go_ret
    exact ⟨rfl, B3⟩

set_option maxRecDepth 8000 in
set_option maxHeartbeats 16000000 in
theorem law_Tiles_yes {p : Nat → Prop} (v : Value) (f : Fr) (A : Option Addr) (m c a b : Nat) (l : List Bool) (w : World) (hf : IsFr p w v f) (hc : CapsOK v) (hl : Bls p w A m l) (hm : m ≤ maxLen) (hli : lightB f = true) (hva : validB f = true)
    (hW : f.W = ((16 * a : Nat) : Int)) (hH : f.H = ((16 * b : Nat) : Int)) (ha1 : 1 ≤ a) (ha : a ≤ 4) (hb1 : 1 ≤ b) (hb : b ≤ 4) (lY : f.Y.length = (16 * b) * (16 * a)) (lU : f.U.length = (8 * b) * (8 * a)) (lV : f.V.length = (8 * b) * (8 * a)) :
    Calls Try.prog 12 #[v, .slice A m c] w fun e w' => e = .returned (.bool true) ∧ Below w.heap.size w w' := by
  have hf0 := hf
  unfold maxLen at hm
  obtain ⟨a1, a2, a3, a4, a5, a6, a7, a8, a9, rfl, hy, hu, hv⟩ := hf
  have hlw := hl.low
  have HLL := Lib.hid hl.1
  clear hl
  have HSTEP := Lib.hid (fun (g : Fr) (j n : Nat) (ht : Tiled f g a l j n) (hs : SameSize g f) (hj : j < a * b) (hn : n ≤ 5) => ht.step hs hW (Nat.mod_lt _ (by omega)) (Nat.div_lt_of_lt_mul hj) hn lY lU lV hy.rng hu.rng hv.rng)
  have HALL := Lib.hid (fun (g : Fr) (hs : SameSize g f) (ht : Tiled f g a l (a * b) 0) => tiles_all (g := g) (f := f) (a := a) (b := b) (fl := flag l) hs hW (by omega) lY lU lV (fun m' n' k h1 h2 h3 => ht m' n' k (.inl h1) h2 h3))
  have HFS := Lib.hid (flat_same (x := 77) (y := 78) (z := 79) hW hH lY lU lV)
  have HFO := Lib.hid (flat_ok (x := 77) (y := 78) (z := 79) hva)
  have HHAS := Lib.hid (fun (i j : Nat) (hi : i < a) (hj : j < b) => has_of (i := i) (j := j) hva hW hH hi hj)
  obtain ⟨cw, hcw⟩ : ∃ cw, cw = 16 * a := ⟨_, rfl⟩
  obtain ⟨ch, hch⟩ : ∃ ch, ch = 16 * b := ⟨_, rfl⟩
  obtain ⟨T, hT⟩ : ∃ T, T = a * b := ⟨_, rfl⟩
  have hT2 : T ≤ 16 := by rw [hT]; exact Nat.le_trans (Nat.mul_le_mul ha hb) (by omega)
  have hWc : f.W = (cw : Int) := by omega
  have hHc : f.H = (ch : Int) := by omega
  have bcw : cw ≤ 64 := by omega
  have bch : ch ≤ 64 := by omega
  have e1 : (cw : Int) / 16 = (a : Int) := by omega
  have e2 : (ch : Int) / 16 = (b : Int) := by omega
  have e3 : (a : Int) * (b : Int) = (T : Int) := by rw [hT, Int.natCast_mul]
  generalize hG0 : flatF f.W f.H 77 78 79 = G0 at *
  clear hG0
  rw [hWc, hHc] at hf0 ⊢
  rw [hWc, hHc] at HFO
  have HE1 := Lib.hid e1
  have HE2 := Lib.hid e2
  have HE3 := Lib.hid e3
  have HF := Lib.hid hf0
  have HWC := Lib.hid hWc
  have HHC := Lib.hid hHc
  have HT := Lib.hid hT
  have HCW := Lib.hid hcw
  clear lY lU lV hW hH hy hu hv hcw hch hT hWc hHc e1 e2 e3 hf0
  go_enter Try.func12, Try.ntmps12
  go_wp2_with fail
  refine (law_light _ f _ (by (repeat with_reducible apply IsFr.alloc); exact HF.out)).mono ?_
  rintro e w1 ⟨rfl, hb1'⟩
  have B1 : Below w.heap.size w w1 := ((Below.refl _ w).alloc (by simp) _).trans (hb1'.mono (by simp))
  have x1 : Bx w1 w.heap.size 24 #[.int .i64 cw, .int .i64 ch, .slice a1 a2 a3, .slice a4 a5 a6, .slice a7 a8 a9] := (Bx.new w _ _).ext hb1'
  clear hb1'
  obtain ⟨c0, c1, c2, c3, c4⟩ := x1.cells5
  have lx := x1.lt
  go_wp2_with fail
  clear c0 c1 c2 c3 c4
  refine (ref_Valid _ f _ (HF.out.ext B1)).mono ?_
  rintro e w2 ⟨rfl, hb2⟩
  have B2 := B1.trans (hb2.mono B1.size)
  have x2 := x1.ext hb2
  clear hb2 x1 B1
  obtain ⟨c0, c1, c2, c3, c4⟩ := x2.cells5
  have lx2 := x2.lt
  go_wp2_with fail
  clear c0 c1 c2 c3 c4
  refine (plane_Flat _ _ 77 78 79 _ (by omega) (by omega) (by omega)).mono ?_
  rw [HFO.out]
  rintro e w3 ⟨v3, rfl, hg3, hb3⟩
  have B3 := B2.trans (hb3.mono B2.size)
  have x3 := x2.ext hb3
  clear x2
  have hg30 := hg3
  obtain ⟨d1, d2, d3, d4, d5, d6, d7, d8, d9, rfl, _, _, _⟩ := hg30
  have lx3 := x3.lt
  go_upto_region 4 with fail
  have xA := x3.alloc (.cells #[.int .i64 G0.W, .int .i64 G0.H, .slice d1 d2 d3, .slice d4 d5 d6, .slice d7 d8 d9] 24)
  have zA := Bx.new w3 24 #[.int .i64 G0.W, .int .i64 G0.H, .slice d1 d2 d3, .slice d4 d5 d6, .slice d7 d8 d9]
  have gA := (hg3.mono (q := (· ≠ w3.heap.size)) (fun b h _ => by omega)).alloc (.cells #[.int .i64 G0.W, .int .i64 G0.H, .slice d1 d2 d3, .slice d4 d5 d6, .slice d7 d8 d9] 24)
  have BA := B3.alloc B3.size (.cells #[.int .i64 G0.W, .int .i64 G0.H, .slice d1 d2 d3, .slice d4 d5 d6, .slice d7 d8 d9] 24)
  generalize w3.alloc (.cells #[.int .i64 G0.W, .int .i64 G0.H, .slice d1 d2 d3, .slice d4 d5 d6, .slice d7 d8 d9] 24) = wA at *
  generalize w3.heap.size = g5 at *
  clear x3 B3 hg3 hb3 B2
  have tA := Tiled.none f G0 a l
  have sA := HFS.out
  go_wp2_with fail
  go_loopw [7] (fun i wr => ∃ (j : Nat) (g : Fr) (cs : Array Value), j ≤ T ∧ i = .int .i64 j ∧ Below w.heap.size w wr ∧ Bx wr w.heap.size 24 #[.int .i64 cw, .int .i64 ch, .slice a1 a2 a3, .slice a4 a5 a6, .slice a7 a8 a9] ∧ Bx wr g5 24 cs ∧ IsFr (· ≠ g5) wr (.agg cs) g ∧ SameSize g f ∧ Tiled f g a l j 0) (fun i _ => T - (intOf i).toNat)
  case atStart => exact ⟨0, G0, _, Nat.zero_le _, rfl, BA, xA, zA, gA, sA, tA⟩
  case round =>
    clear BA xA zA gA sA tA
    obtain ⟨j, g, cs, hj, rfl, BA, xA, zA, gA, sA, tA⟩ := hrel
    have HSA := Lib.hid sA
    have HTA := Lib.hid tA
    clear sA tA
    have e1 := HE1.out
    have e2 := HE2.out
    have e3 := HE3.out
    obtain ⟨c0, c1, c2, c3, c4⟩ := xA.cells5
    by_cases hlt : j < T
    · have hlt' : (j : Int) < (T : Int) := by omega
      have hjab : j < a * b := by rw [← HT.out]; exact hlt
      obtain ⟨mx, hmx⟩ : ∃ mx, mx = j % a := ⟨_, rfl⟩
      obtain ⟨my, hmy⟩ : ∃ my, my = j / a := ⟨_, rfl⟩
      have lmx : mx < a := by rw [hmx]; exact Nat.mod_lt _ (by omega)
      have lmy : my < b := by rw [hmy]; exact Nat.div_lt_of_lt_mul hjab
      obtain ⟨fl, hfl⟩ : ∃ fl, fl = flag l j := ⟨_, rfl⟩
      go_upto_region 9 with fail
      clear e1 e2 e3 hlt'
      have q1 : ((cw : Nat) : Int).tdiv 16 = (a : Int) := by rw [Int.tdiv_eq_ediv_of_nonneg (by omega)]; exact HE1.out
      have q2 : IntKind.i64.wrap (a : Int) = (a : Int) := IntWalk.i64_in _ (by omega)
      have q3 : ((j : Nat) : Int).tmod (a : Int) = (mx : Int) := by rw [hmx, Int.tmod_eq_emod_of_nonneg (by omega)]; rfl
      have q4 : ((j : Nat) : Int).tdiv (a : Int) = (my : Int) := by rw [hmy, Int.tdiv_eq_ediv_of_nonneg (by omega)]; rfl
      have q5 : IntKind.i64.wrap (mx : Int) = (mx : Int) := IntWalk.i64_in _ (by omega)
      have q6 : IntKind.i64.wrap (my : Int) = (my : Int) := IntWalk.i64_in _ (by omega)
      have q7 : ((a : Int) == 0) = false := by rw [beq_eq_false_iff_ne]; omega
      have q8 : ¬ (a : Int) = 0 := by omega
      have HMX := Lib.hid hmx
      have HMY := Lib.hid hmy
      have HFL := Lib.hid hfl
      clear hmx hmy hfl
      go_quiet (fail)
      clear q1 q2 q3 q4 q5 q6 q7 q8
      have BB : Below w.heap.size w (wr.drewN nq) := ⟨BA.os, BA.tape, BA.output, BA.size, BA.block⟩
      have xB : Bx (wr.drewN nq) w.heap.size 24 #[.int .i64 cw, .int .i64 ch, .slice a1 a2 a3, .slice a4 a5 a6, .slice a7 a8 a9] := xA
      have zB : Bx (wr.drewN nq) g5 24 cs := zA
      have gB : IsFr (· ≠ g5) (wr.drewN nq) (.agg cs) g := gA
      clear c0 c1 c2 c3 c4 xA zA gA BA
      generalize wr.drewN nq = wq at *
      clear wr
      have hlq := hlw.below BB
      go_upto_region 10 with fail
      go_cut [10] from 54 to 65 (fun s10 wx => s10 = .bool fl ∧ wx = wq)
      case first =>
        rcases Nat.eq_zero_or_pos m with hm0 | hm0
        · have hfl0 : fl = false := by
            have h1 := HFL.out
            have h2 := HLL.out
            rw [h1]; unfold flag; rw [if_pos (by omega)]
          have hd : decide ((0 : Int) < (m : Int)) = false := decide_eq_false (by omega)
          have hd2 : decide (0 < m) = false := decide_eq_false (by omega)
          have HF0 := Lib.hid hfl0
          clear hfl0 hm0
          go_wp2_with fail
          go_meet
          case rel => exact ⟨by rw [HF0.out], rfl⟩
        · obtain ⟨b6, o6, xb, rfl, hp6, hb6, hx6, hc6⟩ := hlq.at_ (j := j % m) (Nat.mod_lt _ hm0)
          have hfl0 : fl = xb := by
            have h1 := HFL.out
            have h2 := HLL.out
            rw [h1]; unfold flag; rw [if_neg (by omega), h2, List.getD_eq_getElem?_getD, hx6]; rfl
          have HF0 := Lib.hid hfl0
          have hd : decide ((0 : Int) < (m : Int)) = true := decide_eq_true (by omega)
          have hd2 : decide (0 < m) = true := decide_eq_true (by omega)
          obtain ⟨jm, hjm⟩ : ∃ jm, jm = j % m := ⟨_, rfl⟩
          rw [← hjm] at hc6
          have ljm : jm < m := by rw [hjm]; exact Nat.mod_lt _ hm0
          have q9 : ((j : Int) % (m : Int)) = (jm : Int) := by rw [hjm]; rfl
          have HJM := Lib.hid hjm
          have i1 : (jm : Int) < (m : Int) := by omega
          clear hfl0 hx6 hjm
          go_wp2_with fail
          go_meet
          case rel => exact ⟨by rw [HF0.out], rfl⟩
      case rest =>
        obtain ⟨rfl, hwc⟩ := hcut
        subst hwc
        go_wp2_with fail
        go_loopw [11] (fun i wr => ∃ (n : Nat) (g : Fr) (cs : Array Value), n ≤ 6 ∧ i = .int .i64 n ∧ Below w.heap.size w wr ∧ Bx wr w.heap.size 24 #[.int .i64 cw, .int .i64 ch, .slice a1 a2 a3, .slice a4 a5 a6, .slice a7 a8 a9] ∧ Bx wr g5 24 cs ∧ IsFr (· ≠ g5) wr (.agg cs) g ∧ SameSize g f ∧ Tiled f g a l j n) (fun i _ => 6 - (intOf i).toNat)
        case atStart => exact ⟨0, g, cs, Nat.zero_le _, rfl, BB, xB, zB, gB, HSA.out, HTA.out⟩
        case round =>
          clear BB xB zB gB HSA HTA hlq
          clear g cs
          obtain ⟨n, g, cs, hn, rfl, BA, xA, zA, gA, sA, tA⟩ := hrel
          have HSA := Lib.hid sA
          have HTA := Lib.hid tA
          clear sA tA
          by_cases hln : n < 6
          · have hln' : (n : Int) < 6 := by omega
            have hhas := HHAS.out mx my lmx lmy
            obtain ⟨X, hX⟩ : ∃ X, X = blockL f mx my n fl := ⟨_, rfl⟩
            have hXl : X.length = 64 := by rw [hX]; exact blockL_len _ _ _ _ _
            have hblk := block_ok (fd := fl) hhas (show n ≤ 5 by omega)
            rw [← hX] at hblk
            have hset := set_ok (x := X) (fd := fl) ((HSA.out.has mx my).trans hhas) (show n ≤ 5 by omega)
            obtain ⟨g', hg'⟩ : ∃ g', g' = setBlkF g mx my n fl X := ⟨_, rfl⟩
            rw [← hg'] at hset
            have hst := HSTEP.out g j n HTA.out HSA.out hjab (by omega)
            rw [← HMX.out, ← HMY.out, ← HFL.out, ← hX, ← hg'] at hst
            have HBK := Lib.hid hblk
            have HST := Lib.hid hset
            have HSP := Lib.hid hst
            have HXL := Lib.hid hXl
            clear hhas hX hXl hblk hset hg' hst
            have gA0 := gA
            obtain ⟨k1, k2, k3, k4, k5, k6, k7, k8, k9, hcs, _, _, _⟩ := gA0
            injection hcs with hcs
            subst hcs
            obtain ⟨c0, c1, c2, c3, c4⟩ := xA.cells5
            have lx4 := xA.lt
            go_wp2_with fail
            clear c0 c1 c2 c3 c4
            refine (plane_Block _ f mx my n fl _ (HF.out.ext BA) (by rw [HWC.out, HHC.out] at hc; exact hc)).mono ?_
            rw [HBK.out]
            rintro e w6 ⟨rfl, hb6⟩
            have B6 := BA.trans (hb6.mono BA.size)
            have x6 := xA.ext hb6
            have z6 := zA.ext hb6
            have g6 := gA.ext hb6
            clear hb6 xA zA gA BA
            go_upto_region 15 with (refine wpList_st64new rfl (.tmp 12) (.tmp 77) rfl X rfl rfl rfl HXL.out ?_; intro w7 k7' hb7)
            have B7 := B6.trans (hb7.mono B6.size)
            have x7 := x6.ext hb7
            have z7 := z6.ext hb7
            have g7 := g6.ext hb7
            have lz6 := z6.lt
            clear hb7 x6 z6 g6 B6
            generalize w6.heap.size = gx at *
            obtain ⟨c0, c1, c2, c3, c4⟩ := z7.cells5
            have lz7 := z7.lt
            go_wp2_with (refine wpList_ld64 rfl (.tmp 12) rfl gx rfl k7' HXL.out ?_)
            clear c0 c1 c2 c3 c4
            refine (plane_SetBlock _ g mx my n fl X _ g7 HXL.out).mono ?_
            rw [HST.out]
            rintro e w8 ⟨v8, rfl, hc8, hg8, hb8⟩
            have B8 := B7.trans (hb8.mono B7.size)
            have x8 := x7.ext hb8
            have z8 := z7.ext hb8
            have hg80 := hg8
            obtain ⟨n1, n2, n3, n4, n5, n6, n7, n8, n9, rfl, _, _, _⟩ := hg80
            have g8 := hg8.mono (q := (· ≠ g5)) (fun b _ h => by omega)
            clear hb8 x7 z7 g7 B7 hg8
            obtain ⟨c0, c1, c2, c3, c4⟩ := z8.cells5
            have t0 := z8.frozen 0
            have t1 := z8.frozen 1
            have t2 := z8.frozen 2
            have t3 := z8.frozen 3
            have t4 := z8.frozen 4
            have lz8 := z8.lt
            have lx8 := x8.lt
            have hne5 : w.heap.size ≠ g5 := by omega
            go_wp2_with fail
            clear c0 c1 c2 c3 c4 t0 t1 t2 t3 t4
            have np : ¬ ((· ≠ g5) g5) := fun h => h rfl
            go_roundw
            case rel =>
              refine ⟨n + 1, g', _, by omega, by go_num, ?_, ?_, z8.put5 _ _ _ _ _, ?_, HSP.out.1, HSP.out.2⟩
              · exact ((((B8.setCell (by simp; omega) _).setCell (by simp; omega) _).setCell (by simp; omega) _).setCell (by simp; omega) _).setCell (by simp; omega) _
              · exact ((((x8.far hne5 _).far hne5 _).far hne5 _).far hne5 _).far hne5 _
              · exact ((((g8.setCell np _).setCell np _).setCell np _).setCell np _).setCell np _
            case measure => simp [intOf]; omega
          · obtain rfl : n = 6 := by omega
            go_wp2_with fail
            go_roundw
            case rel => exact ⟨j + 1, g, cs, by omega, by go_num, BA, xA, zA, gA, HSA.out, HTA.out.next⟩
            case measure => simp [intOf]; omega
    · have hjT : j = T := by omega
      have hlt' : ¬ (j : Int) < (T : Int) := by omega
      have hgf : g = f := HALL.out g HSA.out (by rw [← HT.out, ← hjT]; exact HTA.out)
      have HGF := Lib.hid hgf
      have HJT := Lib.hid hjT
      clear hgf hjT
      go_wp2_with fail
      clear c0 c1 c2 c3 c4 e1 e2 e3
      refine (plane_awake _).mono ?_
      rintro e w6 ⟨rfl, hb6⟩
      have B6 := BA.trans (hb6.mono BA.size)
      have x6 := xA.ext hb6
      have z6 := zA.ext hb6
      have g6 := gA.ext hb6
      clear hb6 xA zA gA BA
      have gA0 := g6
      obtain ⟨k1, k2, k3, k4, k5, k6, k7, k8, k9, hcs, _, _, _⟩ := gA0
      injection hcs with hcs
      subst hcs
      obtain ⟨c0, c1, c2, c3, c4⟩ := x6.cells5
      obtain ⟨d0', d1', d2', d3', d4'⟩ := z6.cells5
      have lx6 := x6.lt
      have lz6 := z6.lt
      have hq : eqB f g = true := by rw [HGF.out]; exact eqB_self f
      go_wp2_with fail
      refine (ref_Equal _ _ f g _ (HF.out.ext B6) g6).mono ?_
      rintro e w7 ⟨rfl, hb7⟩
      have B7 := B6.trans (hb7.mono B6.size)
      go_wp2_with fail
      go_ret
      exact ⟨rfl, B7⟩
theorem law_PlaneTiles {p : Nat → Prop} (v : Value) (f : Fr) (A : Option Addr) (m c : Nat) (l : List Bool) (w : World) (hf : IsFr p w v f) (hl : Bls p w A m l) (hm : m ≤ maxLen) (hc : CapsOK v) :
    Calls Try.prog 12 #[v, .slice A m c] w fun e w' => e = .returned (.bool true) ∧ Below w.heap.size w w' := by
  by_cases h : lightB f = true ∧ validB f = true
  · obtain ⟨a, b, hW, hH, a1, a2, b1, b2, lY, lU, lV⟩ := valid_sizes h.2
    exact law_Tiles_yes v f A m c a b l w hf hc hl hm h.1 h.2 hW hH a1 a2 b1 b2 lY lU lV
  · exact law_Tiles_no v f A m c w hf h
end Go.Proofs.Ytcboppldclknjaa
