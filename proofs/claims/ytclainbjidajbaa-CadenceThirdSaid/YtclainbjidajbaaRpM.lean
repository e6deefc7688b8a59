/- Which fields are repeated: as data. -/
import Derived.Test.YtclainbjidajbaaPlM
import Derived.Test.YtclainbjidajbaaWp
namespace Go.Proofs.Ytclainbjidajbaa
open Go.RowKit

/-- One row of a plane. -/
def rowL (l : List Int) (wd k : Nat) : List Int := (l.drop (k * wd)).take wd
/-- The rows with this parity are equal. -/
def eqRowsF (a b : List Int) (wd par rows : Nat) : Bool := (List.range rows).all fun k => !decide (k % 2 = par) || decide (rowL a wd k = rowL b wd k)
def eqFldF (f g : Fr) (par : Nat) : Bool := (eqRowsF f.Y g.Y f.W.toNat par f.H.toNat && eqRowsF f.U g.U (f.W / 2).toNat par (f.H / 2).toNat) && eqRowsF f.V g.V (f.W / 2).toNat par (f.H / 2).toNat
def repB (fs : List Fr) (j : Nat) : Bool := decide (2 ≤ j) && eqFldF (frAt fs ((j / 2 - 1 : Nat) : Int)) (frAt fs ((j / 2 : Nat) : Int)) (j % 2)
/-- The repeated fields among the first m. -/
def repK (fs : List Fr) (m : Nat) : List Int := ((List.range m).filter (repB fs)).map fun (j : Nat) => (j : Int)
def repE (fs : List Fr) : Int := if alikeF fs = true then 0 else 1
def repL (fs : List Fr) : List Int := if alikeF fs = true then repK fs (2 * fs.length) else []
theorem repK_succ (fs : List Fr) (m : Nat) : repK fs (m + 1) = repK fs m ++ (if repB fs m = true then [(m : Int)] else []) := by
  unfold repK
  rw [List.range_succ, List.filter_append, List.map_append]
  cases h : repB fs m <;> simp [h]
theorem repK_len (fs : List Fr) (m : Nat) : (repK fs m).length ≤ m := by
  unfold repK
  rw [List.length_map]
  exact Nat.le_trans (List.length_filter_le _ _) (by simp)
theorem rep_no {fs : List Fr} (h : alikeF fs = false) : repE fs = 1 ∧ repL fs = [] := by simp [repE, repL, h]
theorem rep_yes {fs : List Fr} (h : alikeF fs = true) : repE fs = 0 ∧ repL fs = repK fs (2 * fs.length) := by simp [repE, repL, h]
theorem repL_len (fs : List Fr) : (repL fs).length ≤ 2 * fs.length := by
  unfold repL
  split
  · exact repK_len fs _
  · simp

theorem rowL_at {l : List Int} {wd k j : Nat} (h : j < wd) (hl : k * wd + wd ≤ l.length) : (rowL l wd k)[j]? = some (l.getD (k * wd + j) 0) := by
  unfold rowL
  rw [List.getElem?_take, if_pos h, List.getElem?_drop, getD_at (by omega)]
theorem rowL_len {l : List Int} {wd k : Nat} (hl : k * wd + wd ≤ l.length) : (rowL l wd k).length = wd := by
  unfold rowL
  rw [List.length_take, List.length_drop]
  omega
theorem eqRowsF_iff {a b : List Int} {wd par rows : Nat} (ha : a.length = rows * wd) (hb : b.length = rows * wd) (hw : 0 < wd) :
    eqRowsF a b wd par rows = true ↔ ∀ i, i < rows * wd → i / wd % 2 = par → a.getD i 0 = b.getD i 0 := by
  have hfit : ∀ k, k < rows → k * wd + wd ≤ rows * wd := fun k hk => by rw [← Nat.succ_mul]; exact Nat.mul_le_mul_right _ hk
  unfold eqRowsF
  rw [List.all_eq_true]
  constructor
  · intro h i hi hp
    have hk : i / wd < rows := Nat.div_lt_of_lt_mul (by rw [Nat.mul_comm]; exact hi)
    have h1 := h (i / wd) (List.mem_range.2 hk)
    rw [Bool.or_eq_true, decide_eq_true_eq, Bool.not_eq_true', decide_eq_false_iff_not] at h1
    have h2 : rowL a wd (i / wd) = rowL b wd (i / wd) := h1.resolve_left (fun h => h hp)
    have hj : i % wd < wd := Nat.mod_lt _ hw
    have e : i / wd * wd + i % wd = i := by rw [Nat.mul_comm]; exact Nat.div_add_mod i wd
    have e1 := rowL_at (l := a) (k := i / wd) hj (by rw [ha]; exact hfit _ hk)
    have e2 := rowL_at (l := b) (k := i / wd) hj (by rw [hb]; exact hfit _ hk)
    rw [h2, e2, e] at e1
    injection e1 with e1
    exact e1.symm
  · intro h k hk
    have hk := List.mem_range.1 hk
    rw [Bool.or_eq_true, decide_eq_true_eq, Bool.not_eq_true', decide_eq_false_iff_not]
    by_cases hp : k % 2 = par
    · refine .inr (list_ext (rowL_len (by rw [ha]; exact hfit _ hk)) (rowL_len (by rw [hb]; exact hfit _ hk)) fun j hj => ?_)
      have hf := hfit k hk
      rw [rowL_at hj (by rw [ha]; exact hf), rowL_at hj (by rw [hb]; exact hf), h (k * wd + j) (by omega) ?_]
      rw [row_of (k := k) (by omega) (by rw [Nat.succ_mul]; omega)]
      exact hp
    · exact .inl hp
/-- The lines of a plane that are put in from another one. -/
theorem lines_odd {a b : List Int} {wd rows : Nat} (ha : a.length = rows * wd) (hb : b.length = rows * wd) (hw : 0 < wd) : (linesL a b wd = a) ↔ eqRowsF a b wd 1 rows = true := by
  rw [eqRowsF_iff ha hb hw]
  constructor
  · intro h i hi hp
    have e := linesL_at a b wd (i := i) (by omega)
    rw [h, getD_at (by omega), if_pos hp] at e
    injection e
  · intro h
    refine list_ext (linesL_len a b wd) rfl fun i hi => ?_
    rw [linesL_at a b wd hi, getD_at hi]
    congr 1
    split
    · rename_i hp
      exact (h i (by omega) hp).symm
    · rfl
theorem lines_even {a b : List Int} {wd rows : Nat} (ha : a.length = rows * wd) (hb : b.length = rows * wd) (hw : 0 < wd) : (linesL b a wd = a) ↔ eqRowsF a b wd 0 rows = true := by
  rw [eqRowsF_iff ha hb hw]
  constructor
  · intro h i hi hp
    have e := linesL_at b a wd (i := i) (by omega)
    rw [h, getD_at (by omega), if_neg (by omega)] at e
    injection e
  · intro h
    refine list_ext ((linesL_len b a wd).trans (hb.trans ha.symm)) rfl fun i hi => ?_
    rw [linesL_at b a wd (by omega), getD_at hi]
    congr 1
    split
    · rfl
    · exact (h i (by omega) (by omega)).symm
theorem SzF.nums {f : Fr} {W H : Nat} (h : SzF f W H) : f.W.toNat = 2 * W ∧ (f.W / 2).toNat = W ∧ f.H.toNat = 2 * H ∧ (f.H / 2).toNat = H := by
  have := h.w; have := h.h
  omega
theorem join_odd {f g : Fr} {W H : Nat} (hf : SzF f W H) (hg : SzF g W H) : decide (joinF f g = f) = eqFldF f g 1 := by
  obtain ⟨n1, n2, n3, n4⟩ := hf.nums
  rw [Bool.eq_iff_iff, decide_eq_true_eq]
  unfold eqFldF
  rw [Bool.and_eq_true, Bool.and_eq_true, n1, n2, n3, n4, ← lines_odd (by rw [hf.y]) (by rw [hg.y]) (by have := hf.w0; omega), ← lines_odd hf.u hg.u hf.w0, ← lines_odd hf.v hg.v hf.w0]
  obtain ⟨w, h, y, u, v⟩ := f
  dsimp only at n1 n2
  simp only [joinF, n1, n2, Fr.mk.injEq, true_and, and_assoc]
theorem join_even {f g : Fr} {W H : Nat} (hf : SzF f W H) (hg : SzF g W H) : decide (joinF g f = f) = eqFldF f g 0 := by
  obtain ⟨n1, n2, n3, n4⟩ := hf.nums
  obtain ⟨m1, m2, _, _⟩ := hg.nums
  rw [Bool.eq_iff_iff, decide_eq_true_eq]
  unfold eqFldF
  rw [Bool.and_eq_true, Bool.and_eq_true, n1, n2, n3, n4, ← lines_even (by rw [hf.y]) (by rw [hg.y]) (by have := hf.w0; omega), ← lines_even hf.u hg.u hf.w0, ← lines_even hf.v hg.v hf.w0]
  have e1 := hf.w.trans hg.w.symm
  have e2 := hf.h.trans hg.h.symm
  obtain ⟨w, h, y, u, v⟩ := f
  dsimp only at e1 e2
  simp only [joinF, m1, m2, Fr.mk.injEq, e1, e2, true_and, and_assoc]
/-- What Repeats hands back. -/
def RetRp (w : World) (e0 : Int) (l : List Int) (e : Ending) (w' : World) : Prop := ∃ A n c, e = .returned (.tuple #[.slice A n c, .int .i64 e0]) ∧ n = l.length ∧ Rw (w.heap.size ≤ ·) w' A n 1 (l.map (Value.int .i64)) ∧ Below w.heap.size w w'
end Go.Proofs.Ytclainbjidajbaa
namespace Go.Proofs.Ytclainbjidajbaa
open Go.RowKit

set_option maxRecDepth 100000 in
theorem bytes_Equal {p q : Nat → Prop} (A B : Option Addr) (n c m d : Nat) (xs ys : List Int) (w : World) (hx : Byt p w A n xs) (hy : Byt q w B m ys) :
    Calls Try.prog 47 #[.slice A n c, .slice B m d] w fun e w' => e = .returned (.bool (decide (xs = ys))) ∧ Below w.heap.size w w' := by
  have s1 := strB hx.rng hy.rng
  have h1 := run_convB (P := Try.prog) hx 25 5 9 c Try.underlying25 Try.underlying5 Try.underlying9
  have h2 := run_convB (P := Try.prog) hy 25 5 9 d Try.underlying25 Try.underlying5 Try.underlying9
  generalize strOfNums xs = sX at *
  generalize strOfNums ys = sY at *
  clear hx hy
  cases hE : decide (xs = ys) with
  | false =>
    rw [hE] at s1
    have s1p := s1
    simp only [beq_iff_eq, beq_eq_false_iff_ne, ne_eq] at s1p
    go_enter Try.func47, Try.ntmps47
    go_wp2_with fail
    go_ret
    exact ⟨ret_bool (by simp), Below.refl _ _⟩
  | true =>
    rw [hE] at s1
    have s1p := s1
    simp only [beq_iff_eq, beq_eq_false_iff_ne, ne_eq] at s1p
    go_enter Try.func47, Try.ntmps47
    go_wp2_with fail
    go_ret
    exact ⟨ret_bool (by simp), Below.refl _ _⟩

def eqV (b off n c b2 off2 d kk wd P m par : Nat) (r : Bool) : Nat → Value
  | 0 => .int .i64 (kk : Int)
  | 1 => .int .i64 (m : Int)
  | 2 => .int .i64 (par : Int)
  | 3 => .bool true
  | 4 => .bool true
  | 5 => .slice (some ⟨b, off, none⟩) n c
  | 6 => .int .i64 (P : Int)
  | 7 => .int .i64 ((P : Int) + (wd : Int))
  | 8 => .slice (some ⟨b, off + P, none⟩) wd (c - P)
  | 9 => .slice (some ⟨b2, off2, none⟩) n d
  | 10 => .int .i64 (P : Int)
  | 11 => .int .i64 ((P : Int) + (wd : Int))
  | 12 => .slice (some ⟨b2, off2 + P, none⟩) wd (d - P)
  | 13 => .bool r
  | 14 => .bool (!r)
  | _ => .bool (!r)
def neV (b off n c b2 off2 d kk wd P m par : Nat) (r : Bool) : Nat → Value
  | 0 => .int .i64 (kk : Int)
  | 1 => .int .i64 (m : Int)
  | 2 => .int .i64 (par : Int)
  | 3 => .bool false
  | 4 => .bool false
  | 5 => undef
  | 6 => undef
  | 7 => undef
  | 8 => undef
  | 9 => undef
  | 10 => undef
  | 11 => undef
  | 12 => undef
  | 13 => undef
  | 14 => undef
  | _ => .bool false

set_option maxRecDepth 100000 in
set_option maxHeartbeats 4000000 in
theorem cad_equalRows {p q : Nat → Prop} (A B : Option Addr) (n c d : Nat) (al bl : List Int) (wd par rows : Nat) (w : World) (hA : Byt p w A n al) (hB : Byt q w B n bl) (hcA : n ≤ c) (hcB : n ≤ d) (hn : n = rows * wd) (hw : 0 < wd) (hpar : par < 2) (hmax : n ≤ 1000000) :
    Calls Try.prog 40 #[.slice A n c, .slice B n d, .int .i64 (wd : Int), .int .i64 (par : Int)] w fun e w' => e = .returned (.bool (eqRowsF al bl wd par rows)) ∧ Below w.heap.size w w' := by
  have HA := Lib.hid (hA.mono (q := (· < w.heap.size)) (fun b h _ => h))
  have HB := Lib.hid (hB.mono (q := (· < w.heap.size)) (fun b h _ => h))
  have HN := Lib.hid hn
  have q1 : (n : Int).tdiv (wd : Int) = (rows : Int) := by rw [Int.tdiv_eq_ediv_of_nonneg (by omega), hn, Int.natCast_mul]; exact Int.mul_ediv_cancel _ (by omega)
  have q2 : (n : Int) / (wd : Int) = (rows : Int) := by rw [hn, Int.natCast_mul]; exact Int.mul_ediv_cancel _ (by omega)
  have q3 : n / wd = rows := by rw [hn]; exact Nat.mul_div_cancel _ hw
  have z1 : ¬ (wd : Int) = 0 := by omega
  have z2 : ¬ wd = 0 := by omega
  have z3 : ((wd : Int) == 0) = false := by simp; omega
  have hrn : rows ≤ n := by rw [hn]; exact Nat.le_mul_of_pos_right _ hw
  have wrr : IntKind.i64.wrap (rows : Int) = (rows : Int) := IntWalk.i64_in _ (by omega)
  clear hA hB hn
  go_enter Try.func40, Try.ntmps40
  go_wp2_with fail
  go_loopw [16] (fun i wr => ∃ k : Nat, k ≤ rows ∧ i = .int .i64 (k : Int) ∧ (∀ j, j < k → j % 2 = par → rowL al wd j = rowL bl wd j) ∧ Below w.heap.size w wr) (fun i _ => rows - (intOf i).toNat)
  case atStart => exact ⟨0, Nat.zero_le _, rfl, fun j hj => absurd hj (Nat.not_lt_zero _), Below.refl _ _⟩
  case round =>
    obtain ⟨kk, hk, rfl, hok, hb⟩ := hrel
    have HOK := Lib.hid hok
    have HHB := Lib.hid hb
    clear hok hb
    by_cases hlt : kk < rows
    · have hP : kk * wd + wd ≤ n := by rw [HN.out, ← Nat.succ_mul]; exact Nat.mul_le_mul_right _ hlt
      obtain ⟨P, hPP⟩ : ∃ P, kk * wd = P := ⟨_, rfl⟩
      have HPP := Lib.hid hPP
      rw [hPP] at hP
      have i0 : (0 : Int) ≤ (kk : Int) := by omega
      have i1 : (kk : Int) < (rows : Int) := by omega
      obtain ⟨m, hm⟩ : ∃ m, kk % 2 = m := ⟨_, rfl⟩
      have t2 : (kk : Int).tmod 2 = (m : Int) := by rw [Int.tmod_eq_emod_of_nonneg (by omega)]; omega
      have u2 : (kk : Int) % 2 = (m : Int) := by omega
      have HM := Lib.hid hm
      obtain ⟨b, off, rfl, hpb, _⟩ := HA.out.addr (by omega)
      obtain ⟨b2, off2, rfl, hpb2, _⟩ := HB.out.addr (by omega)
      have hP1 : (kk : Int) * (wd : Int) = ((P : Nat) : Int) := by rw [← HPP.out]; exact (Int.natCast_mul _ _).symm
      have wP1 : IntKind.i64.wrap ((P : Nat) : Int) = ((P : Nat) : Int) := IntWalk.i64_in _ (by omega)
      have wk1 : IntKind.i64.wrap ((kk : Int) + 1) = (kk : Int) + 1 := IntWalk.i64_in _ (by omega)
      have hP2 : ((kk : Int) + 1) * (wd : Int) = (P : Int) + (wd : Int) := by rw [Int.add_mul, hP1, Int.one_mul]
      have wP2 : IntKind.i64.wrap ((P : Int) + (wd : Int)) = (P : Int) + (wd : Int) := IntWalk.i64_in _ (by omega)
      have run8 := sub_mid b off n c P wd (by omega) (by omega)
      have run12 := sub_mid b2 off2 n d P wd (by omega) (by omega)
      have HEQ : Hid (∀ w', Below w.heap.size w w' → Calls Try.prog 47 #[.slice (some ⟨b, off + P, none⟩) wd (c - P), .slice (some ⟨b2, off2 + P, none⟩) wd (d - P)] w' fun e w'' => e = .returned (.bool (decide (rowL al wd kk = rowL bl wd kk))) ∧ Below w'.heap.size w' w'') := Lib.hid (fun w' h => by
        have h1 := ((HA.out.below h (fun _ _ h => h)).sub (k := P) (m := wd) (by omega))
        have h2 := ((HB.out.below h (fun _ _ h => h)).sub (k := P) (m := wd) (by omega))
        unfold rowL
        rw [HPP.out]
        exact bytes_Equal _ _ _ _ _ _ _ _ w' h1 h2)
      clear hPP hm
      by_cases hmp : m = par
      · subst hmp
        have te : ((m : Int) == (m : Int)) = true := by simp
        have hrows : ∀ r, decide (rowL al wd kk = rowL bl wd kk) = r → (r = true → ∀ j, j < kk + 1 → j % 2 = m → rowL al wd j = rowL bl wd j) ∧ (r = false → eqRowsF al bl wd m rows = false) := by
          rintro r rfl
          refine ⟨fun h j hj hjm => (Nat.lt_succ_iff_lt_or_eq.1 hj).elim (fun h' => HOK.out j h' hjm) (fun h' => by rw [h']; exact of_decide_eq_true h), fun h => ?_⟩
          unfold eqRowsF
          rw [List.all_eq_false]
          exact ⟨kk, List.mem_range.2 hlt, by rw [h, decide_eq_true HM.out]; simp⟩
        have HR := Lib.hid hrows
        clear hrows
        cases hr : decide (rowL al wd kk = rowL bl wd kk) with
        | true =>
          have HRR := Lib.hid ((HR.out _ hr).1 rfl)
          rw [hr] at HEQ
          clear hr HR
          go_upto_region 5 with fail
          refine wp_region_fixedW (eqV b off n c b2 off2 d kk wd P m m true) (fun _ w' => Below w.heap.size w w') (by kernel_rfl) (by kernel_rfl) (by kernel_rfl) ?h0 ?hstep ?hend
          case h0 => exact HHB.out.drew
          case hstep =>
            intro k o ho D ac wx fr hG hcl hDi hpre
            have o0 : ac.tmps[0]?.getD undef = .slice (some ⟨b, off, none⟩) n c := fr.oldT 0 rfl
            have o1 : ac.tmps[1]?.getD undef = .slice (some ⟨b2, off2, none⟩) n d := fr.oldT 1 rfl
            have o3 : ac.tmps[3]?.getD undef = .int .i64 (m : Int) := fr.oldT 3 rfl
            have o9 : ac.tmps[9]?.getD undef = .int .i64 (kk : Int) := fr.oldT 9 rfl
            have o10 : ac.tmps[10]?.getD undef = .int .i64 (P : Int) := fr.oldT 10 rfl
            have o11 : ac.tmps[11]?.getD undef = .int .i64 ((P : Int) + (wd : Int)) := fr.oldT 11 rfl
            have hkn : k < 16 := (List.getElem?_eq_some_iff.1 ho).1
            rcases (show k = 0 ∨ k = 1 ∨ k = 2 ∨ k = 3 ∨ k = 4 ∨ k = 5 ∨ k = 6 ∨ k = 7 ∨ k = 8 ∨ k = 9 ∨ k = 10 ∨ k = 11 ∨ k = 12 ∨ k = 13 ∨ k = 14 ∨ k = 15 by omega) with rfl | rfl | rfl | rfl | rfl | rfl | rfl | rfl | rfl | rfl | rfl | rfl | rfl | rfl | rfl | rfl
            all_goals (simp only [List.getElem?_cons_zero, List.getElem?_cons_succ, Option.some.injEq] at ho; subst ho)
            · refine ⟨true, rfl, fun _ => wp_value (w' := wx) ?_ ⟨rfl, hG⟩, (fun h => by cases h)⟩
              simp [execOp, o9, eqV, go_sem]
            · have f0 := fr.atT 0 (hpre ⟨0, .data⟩ (by simp) rfl) rfl
              refine ⟨true, rfl, fun _ => wp_value (w' := wx) ?_ ⟨rfl, hG⟩, (fun h => by cases h)⟩
              simp [execOp, f0, eqV, go_sem, t2, u2]
            · refine ⟨true, rfl, fun _ => wp_value (w' := wx) ?_ ⟨rfl, hG⟩, (fun h => by cases h)⟩
              simp [execOp, o3, eqV, go_sem]
            · have f1 := fr.atT 1 (hpre ⟨1, .data⟩ (by simp) rfl) rfl
              have f2 := fr.atT 2 (hpre ⟨2, .data⟩ (by simp) rfl) rfl
              refine ⟨true, rfl, fun _ => wp_value (w' := wx) ?_ ⟨rfl, hG⟩, (fun h => by cases h)⟩
              simp [execOp, f1, f2, eqV, go_sem, te]
            · have f3 := fr.atT 3 (hpre ⟨3, .data⟩ (by simp) rfl) rfl
              refine ⟨true, rfl, fun _ => wp_value (w' := wx) ?_ ⟨rfl, hG⟩, (fun h => by cases h)⟩
              simp [execOp, f3, eqV, go_sem]
            · have dg : D 4 = true := hpre ⟨4, .guard⟩ (by simp) rfl
              refine ⟨true, (wanted_of (x := true) (want := true) (j := 4) fr rfl dg rfl rfl).trans rfl, fun _ => wp_value (w' := wx) ?_ ⟨rfl, hG⟩, (fun h => by cases h)⟩
              simp [execOp, o0, eqV, go_sem]
            · have dg : D 4 = true := hpre ⟨4, .guard⟩ (by simp) rfl
              refine ⟨true, (wanted_of (x := true) (want := true) (j := 4) fr rfl dg rfl rfl).trans rfl, fun _ => wp_value (w' := wx) ?_ ⟨rfl, hG⟩, (fun h => by cases h)⟩
              simp [execOp, o10, eqV, go_sem]
            · have dg : D 4 = true := hpre ⟨4, .guard⟩ (by simp) rfl
              refine ⟨true, (wanted_of (x := true) (want := true) (j := 4) fr rfl dg rfl rfl).trans rfl, fun _ => wp_value (w' := wx) ?_ ⟨rfl, hG⟩, (fun h => by cases h)⟩
              simp [execOp, o11, eqV, go_sem]
            · have dg : D 4 = true := hpre ⟨4, .guard⟩ (by simp) rfl
              have f5 := fr.atT 5 (hpre ⟨5, .data⟩ (by simp) rfl) rfl
              have f6 := fr.atT 6 (hpre ⟨6, .data⟩ (by simp) rfl) rfl
              have f7 := fr.atT 7 (hpre ⟨7, .data⟩ (by simp) rfl) rfl
              refine ⟨true, (wanted_of (x := true) (want := true) (j := 4) fr rfl dg rfl rfl).trans rfl, fun _ => ?_, (fun h => by cases h)⟩
              have e0 := fr.at_ 5 (hpre ⟨5, .data⟩ (by simp) rfl) rfl
              have e3 := fr.at_ 6 (hpre ⟨6, .data⟩ (by simp) rfl) rfl
              have e7 := fr.at_ 7 (hpre ⟨7, .data⟩ (by simp) rfl) rfl
              simp only [eqV] at e0 e3 e7
              refine wp_value (w' := wx) ?_ ⟨rfl, hG⟩
              simp [execOp, e0, e3, e7, eqV, Instr.sliceAt, run8, Sem.run_bind, Sem.run_pure, Result.andThen]
            · have dg : D 4 = true := hpre ⟨4, .guard⟩ (by simp) rfl
              refine ⟨true, (wanted_of (x := true) (want := true) (j := 4) fr rfl dg rfl rfl).trans rfl, fun _ => wp_value (w' := wx) ?_ ⟨rfl, hG⟩, (fun h => by cases h)⟩
              simp [execOp, o1, eqV, go_sem]
            · have dg : D 4 = true := hpre ⟨4, .guard⟩ (by simp) rfl
              refine ⟨true, (wanted_of (x := true) (want := true) (j := 4) fr rfl dg rfl rfl).trans rfl, fun _ => wp_value (w' := wx) ?_ ⟨rfl, hG⟩, (fun h => by cases h)⟩
              simp [execOp, o10, eqV, go_sem]
            · have dg : D 4 = true := hpre ⟨4, .guard⟩ (by simp) rfl
              refine ⟨true, (wanted_of (x := true) (want := true) (j := 4) fr rfl dg rfl rfl).trans rfl, fun _ => wp_value (w' := wx) ?_ ⟨rfl, hG⟩, (fun h => by cases h)⟩
              simp [execOp, o11, eqV, go_sem]
            · have dg : D 4 = true := hpre ⟨4, .guard⟩ (by simp) rfl
              have f9 := fr.atT 9 (hpre ⟨9, .data⟩ (by simp) rfl) rfl
              have f10 := fr.atT 10 (hpre ⟨10, .data⟩ (by simp) rfl) rfl
              have f11 := fr.atT 11 (hpre ⟨11, .data⟩ (by simp) rfl) rfl
              refine ⟨true, (wanted_of (x := true) (want := true) (j := 4) fr rfl dg rfl rfl).trans rfl, fun _ => ?_, (fun h => by cases h)⟩
              have e0 := fr.at_ 9 (hpre ⟨9, .data⟩ (by simp) rfl) rfl
              have e3 := fr.at_ 10 (hpre ⟨10, .data⟩ (by simp) rfl) rfl
              have e7 := fr.at_ 11 (hpre ⟨11, .data⟩ (by simp) rfl) rfl
              simp only [eqV] at e0 e3 e7
              refine wp_value (w' := wx) ?_ ⟨rfl, hG⟩
              simp [execOp, e0, e3, e7, eqV, Instr.sliceAt, run12, Sem.run_bind, Sem.run_pure, Result.andThen]
            · have dg : D 4 = true := hpre ⟨4, .guard⟩ (by simp) rfl
              have f8 := fr.atT 8 (hpre ⟨8, .data⟩ (by simp) rfl) rfl
              have e8 := fr.at_ 8 (hpre ⟨8, .data⟩ (by simp) rfl) rfl
              have f12 := fr.atT 12 (hpre ⟨12, .data⟩ (by simp) rfl) rfl
              have e12 := fr.at_ 12 (hpre ⟨12, .data⟩ (by simp) rfl) rfl
              refine ⟨true, (wanted_of (x := true) (want := true) (j := 4) fr rfl dg rfl rfl).trans rfl, fun _ => ?_, (fun h => by cases h)⟩
              refine wp_called (f := 47) (args := #[.slice (some ⟨b, off + P, none⟩) wd (c - P), .slice (some ⟨b2, off2 + P, none⟩) wd (d - P)]) ?_ (HEQ.out _ hG) ?_
              · simp [execOp, resolve, invoke, f8, e8, f12, e12, eqV, go_sem]
              · rintro e w' ⟨rfl, hb9⟩
                exact ⟨_, rfl, rfl, hG.trans (hb9.mono hG.size)⟩
            · have dg : D 4 = true := hpre ⟨4, .guard⟩ (by simp) rfl
              have f13 := fr.atT 13 (hpre ⟨13, .data⟩ (by simp) rfl) rfl
              refine ⟨true, (wanted_of (x := true) (want := true) (j := 4) fr rfl dg rfl rfl).trans rfl, fun _ => wp_value (w' := wx) ?_ ⟨rfl, hG⟩, (fun h => by cases h)⟩
              simp [execOp, f13, eqV, go_sem]
            · have f4 := fr.atT 4 (hpre ⟨4, .data⟩ (by simp) rfl) rfl
              have f14 := fr.atT 14 (hpre ⟨14, .data⟩ (by simp) rfl) rfl
              refine ⟨true, rfl, fun _ => wp_value (w' := wx) ?_ ⟨rfl, hG⟩, (fun h => by cases h)⟩
              simp [execOp, f4, f14, eqV, go_sem]
          case hend =>
            intro D w7 hG hall
            simp only [putsU, Act.put, List.setIfInBounds_toArray, List.set_cons_succ, List.set_cons_zero, Nat.zero_add, Nat.reduceAdd, eqV]
            have HB7 := Lib.hid hG
            clear hall hG run8 run12
            go_wp2_with fail
            go_roundw
            case rel => exact ⟨kk + 1, by omega, by go_num, HRR.out, HB7.out⟩
            case measure => (simp [intOf]; try omega)
        | false =>
          have HRR := Lib.hid ((HR.out _ hr).2 rfl)
          rw [hr] at HEQ
          clear hr HR
          go_upto_region 5 with fail
          refine wp_region_fixedW (eqV b off n c b2 off2 d kk wd P m m false) (fun _ w' => Below w.heap.size w w') (by kernel_rfl) (by kernel_rfl) (by kernel_rfl) ?h0 ?hstep ?hend
          case h0 => exact HHB.out.drew
          case hstep =>
            intro k o ho D ac wx fr hG hcl hDi hpre
            have o0 : ac.tmps[0]?.getD undef = .slice (some ⟨b, off, none⟩) n c := fr.oldT 0 rfl
            have o1 : ac.tmps[1]?.getD undef = .slice (some ⟨b2, off2, none⟩) n d := fr.oldT 1 rfl
            have o3 : ac.tmps[3]?.getD undef = .int .i64 (m : Int) := fr.oldT 3 rfl
            have o9 : ac.tmps[9]?.getD undef = .int .i64 (kk : Int) := fr.oldT 9 rfl
            have o10 : ac.tmps[10]?.getD undef = .int .i64 (P : Int) := fr.oldT 10 rfl
            have o11 : ac.tmps[11]?.getD undef = .int .i64 ((P : Int) + (wd : Int)) := fr.oldT 11 rfl
            have hkn : k < 16 := (List.getElem?_eq_some_iff.1 ho).1
            rcases (show k = 0 ∨ k = 1 ∨ k = 2 ∨ k = 3 ∨ k = 4 ∨ k = 5 ∨ k = 6 ∨ k = 7 ∨ k = 8 ∨ k = 9 ∨ k = 10 ∨ k = 11 ∨ k = 12 ∨ k = 13 ∨ k = 14 ∨ k = 15 by omega) with rfl | rfl | rfl | rfl | rfl | rfl | rfl | rfl | rfl | rfl | rfl | rfl | rfl | rfl | rfl | rfl
            all_goals (simp only [List.getElem?_cons_zero, List.getElem?_cons_succ, Option.some.injEq] at ho; subst ho)
            · refine ⟨true, rfl, fun _ => wp_value (w' := wx) ?_ ⟨rfl, hG⟩, (fun h => by cases h)⟩
              simp [execOp, o9, eqV, go_sem]
            · have f0 := fr.atT 0 (hpre ⟨0, .data⟩ (by simp) rfl) rfl
              refine ⟨true, rfl, fun _ => wp_value (w' := wx) ?_ ⟨rfl, hG⟩, (fun h => by cases h)⟩
              simp [execOp, f0, eqV, go_sem, t2, u2]
            · refine ⟨true, rfl, fun _ => wp_value (w' := wx) ?_ ⟨rfl, hG⟩, (fun h => by cases h)⟩
              simp [execOp, o3, eqV, go_sem]
            · have f1 := fr.atT 1 (hpre ⟨1, .data⟩ (by simp) rfl) rfl
              have f2 := fr.atT 2 (hpre ⟨2, .data⟩ (by simp) rfl) rfl
              refine ⟨true, rfl, fun _ => wp_value (w' := wx) ?_ ⟨rfl, hG⟩, (fun h => by cases h)⟩
              simp [execOp, f1, f2, eqV, go_sem, te]
            · have f3 := fr.atT 3 (hpre ⟨3, .data⟩ (by simp) rfl) rfl
              refine ⟨true, rfl, fun _ => wp_value (w' := wx) ?_ ⟨rfl, hG⟩, (fun h => by cases h)⟩
              simp [execOp, f3, eqV, go_sem]
            · have dg : D 4 = true := hpre ⟨4, .guard⟩ (by simp) rfl
              refine ⟨true, (wanted_of (x := true) (want := true) (j := 4) fr rfl dg rfl rfl).trans rfl, fun _ => wp_value (w' := wx) ?_ ⟨rfl, hG⟩, (fun h => by cases h)⟩
              simp [execOp, o0, eqV, go_sem]
            · have dg : D 4 = true := hpre ⟨4, .guard⟩ (by simp) rfl
              refine ⟨true, (wanted_of (x := true) (want := true) (j := 4) fr rfl dg rfl rfl).trans rfl, fun _ => wp_value (w' := wx) ?_ ⟨rfl, hG⟩, (fun h => by cases h)⟩
              simp [execOp, o10, eqV, go_sem]
            · have dg : D 4 = true := hpre ⟨4, .guard⟩ (by simp) rfl
              refine ⟨true, (wanted_of (x := true) (want := true) (j := 4) fr rfl dg rfl rfl).trans rfl, fun _ => wp_value (w' := wx) ?_ ⟨rfl, hG⟩, (fun h => by cases h)⟩
              simp [execOp, o11, eqV, go_sem]
            · have dg : D 4 = true := hpre ⟨4, .guard⟩ (by simp) rfl
              have f5 := fr.atT 5 (hpre ⟨5, .data⟩ (by simp) rfl) rfl
              have f6 := fr.atT 6 (hpre ⟨6, .data⟩ (by simp) rfl) rfl
              have f7 := fr.atT 7 (hpre ⟨7, .data⟩ (by simp) rfl) rfl
              refine ⟨true, (wanted_of (x := true) (want := true) (j := 4) fr rfl dg rfl rfl).trans rfl, fun _ => ?_, (fun h => by cases h)⟩
              have e0 := fr.at_ 5 (hpre ⟨5, .data⟩ (by simp) rfl) rfl
              have e3 := fr.at_ 6 (hpre ⟨6, .data⟩ (by simp) rfl) rfl
              have e7 := fr.at_ 7 (hpre ⟨7, .data⟩ (by simp) rfl) rfl
              simp only [eqV] at e0 e3 e7
              refine wp_value (w' := wx) ?_ ⟨rfl, hG⟩
              simp [execOp, e0, e3, e7, eqV, Instr.sliceAt, run8, Sem.run_bind, Sem.run_pure, Result.andThen]
            · have dg : D 4 = true := hpre ⟨4, .guard⟩ (by simp) rfl
              refine ⟨true, (wanted_of (x := true) (want := true) (j := 4) fr rfl dg rfl rfl).trans rfl, fun _ => wp_value (w' := wx) ?_ ⟨rfl, hG⟩, (fun h => by cases h)⟩
              simp [execOp, o1, eqV, go_sem]
            · have dg : D 4 = true := hpre ⟨4, .guard⟩ (by simp) rfl
              refine ⟨true, (wanted_of (x := true) (want := true) (j := 4) fr rfl dg rfl rfl).trans rfl, fun _ => wp_value (w' := wx) ?_ ⟨rfl, hG⟩, (fun h => by cases h)⟩
              simp [execOp, o10, eqV, go_sem]
            · have dg : D 4 = true := hpre ⟨4, .guard⟩ (by simp) rfl
              refine ⟨true, (wanted_of (x := true) (want := true) (j := 4) fr rfl dg rfl rfl).trans rfl, fun _ => wp_value (w' := wx) ?_ ⟨rfl, hG⟩, (fun h => by cases h)⟩
              simp [execOp, o11, eqV, go_sem]
            · have dg : D 4 = true := hpre ⟨4, .guard⟩ (by simp) rfl
              have f9 := fr.atT 9 (hpre ⟨9, .data⟩ (by simp) rfl) rfl
              have f10 := fr.atT 10 (hpre ⟨10, .data⟩ (by simp) rfl) rfl
              have f11 := fr.atT 11 (hpre ⟨11, .data⟩ (by simp) rfl) rfl
              refine ⟨true, (wanted_of (x := true) (want := true) (j := 4) fr rfl dg rfl rfl).trans rfl, fun _ => ?_, (fun h => by cases h)⟩
              have e0 := fr.at_ 9 (hpre ⟨9, .data⟩ (by simp) rfl) rfl
              have e3 := fr.at_ 10 (hpre ⟨10, .data⟩ (by simp) rfl) rfl
              have e7 := fr.at_ 11 (hpre ⟨11, .data⟩ (by simp) rfl) rfl
              simp only [eqV] at e0 e3 e7
              refine wp_value (w' := wx) ?_ ⟨rfl, hG⟩
              simp [execOp, e0, e3, e7, eqV, Instr.sliceAt, run12, Sem.run_bind, Sem.run_pure, Result.andThen]
            · have dg : D 4 = true := hpre ⟨4, .guard⟩ (by simp) rfl
              have f8 := fr.atT 8 (hpre ⟨8, .data⟩ (by simp) rfl) rfl
              have e8 := fr.at_ 8 (hpre ⟨8, .data⟩ (by simp) rfl) rfl
              have f12 := fr.atT 12 (hpre ⟨12, .data⟩ (by simp) rfl) rfl
              have e12 := fr.at_ 12 (hpre ⟨12, .data⟩ (by simp) rfl) rfl
              refine ⟨true, (wanted_of (x := true) (want := true) (j := 4) fr rfl dg rfl rfl).trans rfl, fun _ => ?_, (fun h => by cases h)⟩
              refine wp_called (f := 47) (args := #[.slice (some ⟨b, off + P, none⟩) wd (c - P), .slice (some ⟨b2, off2 + P, none⟩) wd (d - P)]) ?_ (HEQ.out _ hG) ?_
              · simp [execOp, resolve, invoke, f8, e8, f12, e12, eqV, go_sem]
              · rintro e w' ⟨rfl, hb9⟩
                exact ⟨_, rfl, rfl, hG.trans (hb9.mono hG.size)⟩
            · have dg : D 4 = true := hpre ⟨4, .guard⟩ (by simp) rfl
              have f13 := fr.atT 13 (hpre ⟨13, .data⟩ (by simp) rfl) rfl
              refine ⟨true, (wanted_of (x := true) (want := true) (j := 4) fr rfl dg rfl rfl).trans rfl, fun _ => wp_value (w' := wx) ?_ ⟨rfl, hG⟩, (fun h => by cases h)⟩
              simp [execOp, f13, eqV, go_sem]
            · have f4 := fr.atT 4 (hpre ⟨4, .data⟩ (by simp) rfl) rfl
              have f14 := fr.atT 14 (hpre ⟨14, .data⟩ (by simp) rfl) rfl
              refine ⟨true, rfl, fun _ => wp_value (w' := wx) ?_ ⟨rfl, hG⟩, (fun h => by cases h)⟩
              simp [execOp, f4, f14, eqV, go_sem]
          case hend =>
            intro D w7 hG hall
            simp only [putsU, Act.put, List.setIfInBounds_toArray, List.set_cons_succ, List.set_cons_zero, Nat.zero_add, Nat.reduceAdd, eqV]
            have HB7 := Lib.hid hG
            clear hall hG run8 run12
            go_wp2_with fail
            go_ret
            exact ⟨ret_bool HRR.out.symm, HB7.out⟩
      · have te : ((m : Int) == (par : Int)) = false := by simp; omega
        have HRR : Hid (∀ j, j < kk + 1 → j % 2 = par → rowL al wd j = rowL bl wd j) := Lib.hid (fun j hj hjm => (Nat.lt_succ_iff_lt_or_eq.1 hj).elim (fun h' => HOK.out j h' hjm) (fun h' => absurd (by rw [← HM.out, ← h']; exact hjm) hmp))
        go_upto_region 5 with fail
        refine wp_region_fixedW (neV b off n c b2 off2 d kk wd P m par false) (fun _ w' => Below w.heap.size w w') (by kernel_rfl) (by kernel_rfl) (by kernel_rfl) ?h0 ?hstep ?hend
        case h0 => exact HHB.out.drew
        case hstep =>
          intro k o ho D ac wx fr hG hcl hDi hpre
          have o0 : ac.tmps[0]?.getD undef = .slice (some ⟨b, off, none⟩) n c := fr.oldT 0 rfl
          have o1 : ac.tmps[1]?.getD undef = .slice (some ⟨b2, off2, none⟩) n d := fr.oldT 1 rfl
          have o3 : ac.tmps[3]?.getD undef = .int .i64 (par : Int) := fr.oldT 3 rfl
          have o9 : ac.tmps[9]?.getD undef = .int .i64 (kk : Int) := fr.oldT 9 rfl
          have o10 : ac.tmps[10]?.getD undef = .int .i64 (P : Int) := fr.oldT 10 rfl
          have o11 : ac.tmps[11]?.getD undef = .int .i64 ((P : Int) + (wd : Int)) := fr.oldT 11 rfl
          have hkn : k < 16 := (List.getElem?_eq_some_iff.1 ho).1
          rcases (show k = 0 ∨ k = 1 ∨ k = 2 ∨ k = 3 ∨ k = 4 ∨ k = 5 ∨ k = 6 ∨ k = 7 ∨ k = 8 ∨ k = 9 ∨ k = 10 ∨ k = 11 ∨ k = 12 ∨ k = 13 ∨ k = 14 ∨ k = 15 by omega) with rfl | rfl | rfl | rfl | rfl | rfl | rfl | rfl | rfl | rfl | rfl | rfl | rfl | rfl | rfl | rfl
          all_goals (simp only [List.getElem?_cons_zero, List.getElem?_cons_succ, Option.some.injEq] at ho; subst ho)
          · refine ⟨true, rfl, fun _ => wp_value (w' := wx) ?_ ⟨rfl, hG⟩, (fun h => by cases h)⟩
            simp [execOp, o9, neV, go_sem]
          · have f0 := fr.atT 0 (hpre ⟨0, .data⟩ (by simp) rfl) rfl
            refine ⟨true, rfl, fun _ => wp_value (w' := wx) ?_ ⟨rfl, hG⟩, (fun h => by cases h)⟩
            simp [execOp, f0, neV, go_sem, t2, u2]
          · refine ⟨true, rfl, fun _ => wp_value (w' := wx) ?_ ⟨rfl, hG⟩, (fun h => by cases h)⟩
            simp [execOp, o3, neV, go_sem]
          · have f1 := fr.atT 1 (hpre ⟨1, .data⟩ (by simp) rfl) rfl
            have f2 := fr.atT 2 (hpre ⟨2, .data⟩ (by simp) rfl) rfl
            refine ⟨true, rfl, fun _ => wp_value (w' := wx) ?_ ⟨rfl, hG⟩, (fun h => by cases h)⟩
            simp [execOp, f1, f2, neV, go_sem, te]
          · have f3 := fr.atT 3 (hpre ⟨3, .data⟩ (by simp) rfl) rfl
            refine ⟨true, rfl, fun _ => wp_value (w' := wx) ?_ ⟨rfl, hG⟩, (fun h => by cases h)⟩
            simp [execOp, f3, neV, go_sem]
          · have dg : D 4 = true := hpre ⟨4, .guard⟩ (by simp) rfl
            exact ⟨false, (wanted_of (x := false) (want := true) (j := 4) fr rfl dg rfl rfl).trans rfl, (fun h => by cases h), fun _ => ⟨rfl, hG⟩⟩
          · have dg : D 4 = true := hpre ⟨4, .guard⟩ (by simp) rfl
            exact ⟨false, (wanted_of (x := false) (want := true) (j := 4) fr rfl dg rfl rfl).trans rfl, (fun h => by cases h), fun _ => ⟨rfl, hG⟩⟩
          · have dg : D 4 = true := hpre ⟨4, .guard⟩ (by simp) rfl
            exact ⟨false, (wanted_of (x := false) (want := true) (j := 4) fr rfl dg rfl rfl).trans rfl, (fun h => by cases h), fun _ => ⟨rfl, hG⟩⟩
          · have dg : D 4 = true := hpre ⟨4, .guard⟩ (by simp) rfl
            exact ⟨false, (wanted_of (x := false) (want := true) (j := 4) fr rfl dg rfl rfl).trans rfl, (fun h => by cases h), fun _ => ⟨rfl, hG⟩⟩
          · have dg : D 4 = true := hpre ⟨4, .guard⟩ (by simp) rfl
            exact ⟨false, (wanted_of (x := false) (want := true) (j := 4) fr rfl dg rfl rfl).trans rfl, (fun h => by cases h), fun _ => ⟨rfl, hG⟩⟩
          · have dg : D 4 = true := hpre ⟨4, .guard⟩ (by simp) rfl
            exact ⟨false, (wanted_of (x := false) (want := true) (j := 4) fr rfl dg rfl rfl).trans rfl, (fun h => by cases h), fun _ => ⟨rfl, hG⟩⟩
          · have dg : D 4 = true := hpre ⟨4, .guard⟩ (by simp) rfl
            exact ⟨false, (wanted_of (x := false) (want := true) (j := 4) fr rfl dg rfl rfl).trans rfl, (fun h => by cases h), fun _ => ⟨rfl, hG⟩⟩
          · have dg : D 4 = true := hpre ⟨4, .guard⟩ (by simp) rfl
            exact ⟨false, (wanted_of (x := false) (want := true) (j := 4) fr rfl dg rfl rfl).trans rfl, (fun h => by cases h), fun _ => ⟨rfl, hG⟩⟩
          · have dg : D 4 = true := hpre ⟨4, .guard⟩ (by simp) rfl
            exact ⟨false, (wanted_of (x := false) (want := true) (j := 4) fr rfl dg rfl rfl).trans rfl, (fun h => by cases h), fun _ => ⟨rfl, hG⟩⟩
          · have dg : D 4 = true := hpre ⟨4, .guard⟩ (by simp) rfl
            exact ⟨false, (wanted_of (x := false) (want := true) (j := 4) fr rfl dg rfl rfl).trans rfl, (fun h => by cases h), fun _ => ⟨rfl, hG⟩⟩
          · have f4 := fr.atT 4 (hpre ⟨4, .data⟩ (by simp) rfl) rfl
            have f14 := fr.atT 14 (hpre ⟨14, .data⟩ (by simp) rfl) rfl
            refine ⟨true, rfl, fun _ => wp_value (w' := wx) ?_ ⟨rfl, hG⟩, (fun h => by cases h)⟩
            simp [execOp, f4, f14, neV, go_sem]
        case hend =>
          intro D w7 hG hall
          simp only [putsU, Act.put, List.setIfInBounds_toArray, List.set_cons_succ, List.set_cons_zero, Nat.zero_add, Nat.reduceAdd, neV]
          have HB7 := Lib.hid hG
          clear hall hG run8 run12
          go_wp2_with fail
          go_roundw
          case rel => exact ⟨kk + 1, by omega, by go_num, HRR.out, HB7.out⟩
          case measure => (simp [intOf]; try omega)
    · have hkn : kk = rows := by omega
      subst hkn
      have HT : Hid (eqRowsF al bl wd par kk = true) := Lib.hid (by
        unfold eqRowsF
        rw [List.all_eq_true]
        intro k hk
        by_cases hp : k % 2 = par
        · rw [decide_eq_true (HOK.out k (List.mem_range.1 hk) hp)]; simp
        · rw [decide_eq_false hp]; rfl)
      go_wp2_with fail
      go_ret
      exact ⟨ret_bool HT.out.symm, HHB.out⟩
end Go.Proofs.Ytclainbjidajbaa
namespace Go.Proofs.Ytclainbjidajbaa
open Go.RowKit

set_option maxRecDepth 100000 in
set_option maxHeartbeats 4000000 in
theorem cad_equalFields {p q : Nat → Prop} (x y : FA) (W H par : Nat) (w : World) (hx : FrmOk p w x) (hy : FrmOk q w y) (sx : SzF x.f W H) (sy : SzF y.f W H) (hpar : par < 2) :
    Calls Try.prog 25 #[x.val, y.val, .int .i64 (par : Int)] w fun e w' => e = .returned (.bool (eqFldF x.f y.f par)) ∧ Below w.heap.size w w' := by
  obtain ⟨s1, s2, s3, s4⟩ := sx.nums
  have hmul : H * W ≤ 1024 := Nat.le_trans (Nat.mul_le_mul sx.hm sx.wm) (by omega)
  have em2 := m4N H W
  have hw0 := sx.w0
  have hwm := sx.wm
  have ly : y.yn = x.yn := by rw [← hx.y.len, ← hy.y.len, sx.y, sy.y]
  have lu : y.un = x.un := by rw [← hx.u.len, ← hy.u.len, sx.u, sy.u]
  have lv : y.vn = x.vn := by rw [← hx.v.len, ← hy.v.len, sx.v, sy.v]
  have ny : x.yn = 2 * H * (2 * W) := by rw [← hx.y.len, sx.y]
  have nu : x.un = H * W := by rw [← hx.u.len, sx.u]
  have nv : x.vn = H * W := by rw [← hx.v.len, sx.v]
  have eW : x.f.W.toNat = 2 * W := by rw [sx.w]; omega
  have eW2 : (x.f.W / 2).toNat = W := by rw [sx.w]; omega
  obtain ⟨⟨xW, xH, xY, xU, xV⟩, ya, yn, yc, ua, un, uc, va, vn, vc⟩ := x
  obtain ⟨⟨yW, yH, yY, yU, yV⟩, ya2, yn2, yc2, ua2, un2, uc2, va2, vn2, vc2⟩ := y
  dsimp only at ly lu lv ny nu nv eW eW2
  subst ly lu lv
  obtain ⟨px, pu, pv, cx1, cx2, cx3⟩ := hx
  obtain ⟨py, pu2, pv2, cy1, cy2, cy3⟩ := hy
  dsimp only at px pu pv py pu2 pv2 cx1 cx2 cx3 cy1 cy2 cy3
  have exW : xW = ((2 * W : Nat) : Int) := sx.w
  have exW2 : xW.tdiv 2 = (W : Int) := by rw [Int.tdiv_eq_ediv_of_nonneg (by omega)]; omega
  have exW3 : xW / 2 = (W : Int) := by omega
  have wrW : IntKind.i64.wrap (W : Int) = (W : Int) := IntWalk.i64_in _ (by omega)
  have HE0 : eqFldF ⟨xW, xH, xY, xU, xV⟩ ⟨yW, yH, yY, yU, yV⟩ par = ((eqRowsF xY yY (2 * W) par (2 * H) && eqRowsF xU yU W par H) && eqRowsF xV yV W par H) := by
    unfold eqFldF
    dsimp only at s1 s2 s3 s4 ⊢
    rw [s1, s2, s3, s4]
  have HE := Lib.hid HE0
  show Calls _ _ #[.agg #[.int .i64 xW, .int .i64 xH, .slice ya yn2 yc, .slice ua un2 uc, .slice va vn2 vc], .agg #[.int .i64 yW, .int .i64 yH, .slice ya2 yn2 yc2, .slice ua2 un2 uc2, .slice va2 vn2 vc2], .int .i64 (par : Int)] w _
  have b1 := Bx.new w 27 #[.int .i64 xW, .int .i64 xH, .slice ya yn2 yc, .slice ua un2 uc, .slice va vn2 vc]
  have b1 := b1.alloc (.cells #[.int .i64 yW, .int .i64 yH, .slice ya2 yn2 yc2, .slice ua2 un2 uc2, .slice va2 vn2 vc2] 27)
  have b2 := Bx.new' (w.alloc (.cells #[.int .i64 xW, .int .i64 xH, .slice ya yn2 yc, .slice ua un2 uc, .slice va vn2 vc] 27)) 27 #[.int .i64 yW, .int .i64 yH, .slice ya2 yn2 yc2, .slice ua2 un2 uc2, .slice va2 vn2 vc2] (w.heap.size + 1) (by simp)
  have B0 := ((Below.refl w.heap.size w).alloc (Nat.le_refl _) (.cells #[.int .i64 xW, .int .i64 xH, .slice ya yn2 yc, .slice ua un2 uc, .slice va vn2 vc] 27)).alloc (by simp) (.cells #[.int .i64 yW, .int .i64 yH, .slice ya2 yn2 yc2, .slice ua2 un2 uc2, .slice va2 vn2 vc2] 27)
  have C1 : ∀ w', Below w.heap.size w w' → Calls Try.prog 40 #[.slice ya yn2 yc, .slice ya2 yn2 yc2, .int .i64 xW, .int .i64 (par : Int)] w' fun e w'' => e = .returned (.bool (eqRowsF xY yY (2 * W) par (2 * H))) ∧ Below w'.heap.size w' w'' := fun w' h => by
    rw [exW]
    exact cad_equalRows ya ya2 yn2 yc yc2 xY yY (2 * W) par (2 * H) w' (px.ext h) (py.ext h) (by omega) (by omega) ny (by omega) hpar (by omega)
  have C2 : ∀ w', Below w.heap.size w w' → Calls Try.prog 40 #[.slice ua un2 uc, .slice ua2 un2 uc2, .int .i64 (W : Int), .int .i64 (par : Int)] w' fun e w'' => e = .returned (.bool (eqRowsF xU yU W par H)) ∧ Below w'.heap.size w' w'' := fun w' h =>
    cad_equalRows ua ua2 un2 uc uc2 xU yU W par H w' (pu.ext h) (pu2.ext h) (by omega) (by omega) nu (by omega) hpar (by omega)
  have C3 : ∀ w', Below w.heap.size w w' → Calls Try.prog 40 #[.slice va vn2 vc, .slice va2 vn2 vc2, .int .i64 (W : Int), .int .i64 (par : Int)] w' fun e w'' => e = .returned (.bool (eqRowsF xV yV W par H)) ∧ Below w'.heap.size w' w'' := fun w' h =>
    cad_equalRows va va2 vn2 vc vc2 xV yV W par H w' (pv.ext h) (pv2.ext h) (by omega) (by omega) nv (by omega) hpar (by omega)
  have HC1 := Lib.hid C1
  have HC2 := Lib.hid C2
  have HC3 := Lib.hid C3
  clear C1 C2 C3 px pu pv py pu2 pv2 sx sy ny nu nv eW eW2 exW em2 cx1 cx2 cx3 cy1 cy2 cy3 hmul HE0 s1 s2 s3 s4
  go_enter Try.func25, Try.ntmps25
  cases hY : eqRowsF xY yY (2 * W) par (2 * H) with
  | false =>
    rw [hY] at HC1 HE
    clear hY
    go_upto_region 1 with fail
    generalize (w.alloc (.cells #[.int .i64 xW, .int .i64 xH, .slice ya yn2 yc, .slice ua un2 uc, .slice va vn2 vc] 27)).alloc (.cells #[.int .i64 yW, .int .i64 yH, .slice ya2 yn2 yc2, .slice ua2 un2 uc2, .slice va2 vn2 vc2] 27) = Wx at *
    have HF := Lib.hid (fun w' (h : Below Wx.heap.size Wx w') => And.intro (b1.ext h).cells5 (b2.ext h).cells5)
    have HB0 := Lib.hid B0
    clear b1 b2 B0
    obtain ⟨⟨x0, x1, x2, x3, x4⟩, y0, y1, y2, y3, y4⟩ := HF.out Wx (Below.refl _ _)
    go_wp2_with fail
    refine (HC1.out _ HB0.out).mono ?_
    rintro e w3 ⟨rfl, hb3⟩
    have HB3 := Lib.hid hb3
    clear hb3 x0 x1 x2 x3 x4 y0 y1 y2 y3 y4
    go_wp2_with fail
    go_ret
    exact ⟨ret_bool (by rw [HE.out, Bool.false_and, Bool.false_and]), HB0.out.trans (HB3.out.mono HB0.out.size)⟩
  | true =>
    rw [hY] at HC1 HE
    clear hY
    cases hU : eqRowsF xU yU W par H with
    | false =>
      rw [hU] at HC2 HE
      clear hU
      go_upto_region 1 with fail
      generalize (w.alloc (.cells #[.int .i64 xW, .int .i64 xH, .slice ya yn2 yc, .slice ua un2 uc, .slice va vn2 vc] 27)).alloc (.cells #[.int .i64 yW, .int .i64 yH, .slice ya2 yn2 yc2, .slice ua2 un2 uc2, .slice va2 vn2 vc2] 27) = Wx at *
      have HF := Lib.hid (fun w' (h : Below Wx.heap.size Wx w') => And.intro (b1.ext h).cells5 (b2.ext h).cells5)
      have HB0 := Lib.hid B0
      clear b1 b2 B0
      obtain ⟨⟨x0, x1, x2, x3, x4⟩, y0, y1, y2, y3, y4⟩ := HF.out Wx (Below.refl _ _)
      go_wp2_with fail
      refine (HC1.out _ HB0.out).mono ?_
      rintro e w3 ⟨rfl, hb3⟩
      have HB3 := Lib.hid hb3
      clear hb3 x0 x1 x2 x3 x4 y0 y1 y2 y3 y4
      obtain ⟨⟨x0, x1, x2, x3, x4⟩, y0, y1, y2, y3, y4⟩ := HF.out w3 HB3.out
      go_wp2_with fail
      refine (HC2.out _ (HB0.out.trans (HB3.out.mono HB0.out.size))).mono ?_
      rintro e w4 ⟨rfl, hb4⟩
      have HB4 := Lib.hid (HB3.out.trans (hb4.mono HB3.out.size))
      clear hb4 x0 x1 x2 x3 x4 y0 y1 y2 y3 y4
      go_wp2_with fail
      go_ret
      exact ⟨ret_bool (by rw [HE.out, Bool.and_false, Bool.false_and]), HB0.out.trans (HB4.out.mono HB0.out.size)⟩
    | true =>
      rw [hU] at HC2 HE
      clear hU
      go_upto_region 1 with fail
      generalize (w.alloc (.cells #[.int .i64 xW, .int .i64 xH, .slice ya yn2 yc, .slice ua un2 uc, .slice va vn2 vc] 27)).alloc (.cells #[.int .i64 yW, .int .i64 yH, .slice ya2 yn2 yc2, .slice ua2 un2 uc2, .slice va2 vn2 vc2] 27) = Wx at *
      have HF := Lib.hid (fun w' (h : Below Wx.heap.size Wx w') => And.intro (b1.ext h).cells5 (b2.ext h).cells5)
      have HB0 := Lib.hid B0
      clear b1 b2 B0
      obtain ⟨⟨x0, x1, x2, x3, x4⟩, y0, y1, y2, y3, y4⟩ := HF.out Wx (Below.refl _ _)
      go_wp2_with fail
      refine (HC1.out _ HB0.out).mono ?_
      rintro e w3 ⟨rfl, hb3⟩
      have HB3 := Lib.hid hb3
      clear hb3 x0 x1 x2 x3 x4 y0 y1 y2 y3 y4
      obtain ⟨⟨x0, x1, x2, x3, x4⟩, y0, y1, y2, y3, y4⟩ := HF.out w3 HB3.out
      go_wp2_with fail
      refine (HC2.out _ (HB0.out.trans (HB3.out.mono HB0.out.size))).mono ?_
      rintro e w4 ⟨rfl, hb4⟩
      have HB4 := Lib.hid (HB3.out.trans (hb4.mono HB3.out.size))
      clear hb4 x0 x1 x2 x3 x4 y0 y1 y2 y3 y4
      obtain ⟨⟨x0, x1, x2, x3, x4⟩, y0, y1, y2, y3, y4⟩ := HF.out w4 HB4.out
      go_wp2_with fail
      refine (HC3.out _ (HB0.out.trans (HB4.out.mono HB0.out.size))).mono ?_
      rintro e w5 ⟨rfl, hb5⟩
      have HB5 := Lib.hid (HB4.out.trans (hb5.mono HB4.out.size))
      clear hb5 x0 x1 x2 x3 x4 y0 y1 y2 y3 y4
      go_wp2_with fail
      go_ret
      exact ⟨ret_bool (by rw [HE.out, Bool.and_true, Bool.true_and]), HB0.out.trans (HB5.out.mono HB0.out.size)⟩
end Go.Proofs.Ytclainbjidajbaa
