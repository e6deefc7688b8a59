/- The contract of plane.cut: the samples of an area of a plane. -/
import Derived.Test.YtaedpadkpclldaaPBase
import Derived.Test.YtaedpadkpclldaaInfo
namespace Go.Proofs.Ytaedpadkpclldaa
open Go.RowKit

/-- Sample k of the area. -/
def cutAt (l : List Int) (fr st wd k : Nat) : Int := l.getD (fr + k / wd * st + k % wd) 0
def cutL (l : List Int) (fr st wd ht : Nat) : List Int := (List.range (ht * wd)).map (cutAt l fr st wd)
theorem cutL_len (l : List Int) (fr st wd ht : Nat) : (cutL l fr st wd ht).length = ht * wd := by simp [cutL]
theorem cutL_at {l : List Int} {fr st wd ht k : Nat} (h : k < ht * wd) : (cutL l fr st wd ht)[k]? = some (cutAt l fr st wd k) := by simp [cutL, h]
theorem getD_rng {l : List Int} (h : ∀ x ∈ l, 0 ≤ x ∧ x ≤ 255) (k : Nat) : 0 ≤ l.getD k 0 ∧ l.getD k 0 ≤ 255 := by
  rw [List.getD_eq_getElem?_getD]
  rcases hv : l[k]? with _ | v
  · simp
  · exact h v (List.mem_of_getElem? hv)
theorem cutL_rng {l : List Int} (h : ∀ x ∈ l, 0 ≤ x ∧ x ≤ 255) (fr st wd ht : Nat) : ∀ x ∈ cutL l fr st wd ht, 0 ≤ x ∧ x ≤ 255 := by
  intro x hx
  obtain ⟨k, _, rfl⟩ := List.mem_map.1 hx
  exact getD_rng h _
theorem cutAt_row {l : List Int} {fr st wd r j : Nat} (hj : j < wd) : cutAt l fr st wd (r * wd + j) = l.getD (fr + r * st + j) 0 := by
  unfold cutAt
  have h1 : (r * wd + j) % wd = j := by rw [Nat.mul_comm, Nat.mul_add_mod]; exact Nat.mod_eq_of_lt hj
  have h2 : (r * wd + j) / wd = r := by rw [Nat.mul_comm, Nat.mul_add_div (by omega), Nat.div_eq_of_lt hj, Nat.add_zero]
  rw [h1, h2]
/-- One row more of the area has been laid. -/
theorem cut_row {l m : List Int} {fr st wd ht r : Nat} (hr : r < ht) (hm : m.length = ht * wd) (hfit : fr + r * st + wd ≤ l.length) (hd : ∀ k, k < r * wd → m[k]? = (cutL l fr st wd ht)[k]?) :
    ∀ k, k < (r + 1) * wd → (spl m (r * wd) ((l.drop (fr + r * st)).take wd))[k]? = (cutL l fr st wd ht)[k]? := by
  intro k hk
  have e1 : (r + 1) * wd = r * wd + wd := by rw [Nat.succ_mul]
  have e2 : (r + 1) * wd ≤ ht * wd := Nat.mul_le_mul_right _ (by omega)
  have hlen : ((l.drop (fr + r * st)).take wd).length = wd := by simp; omega
  rw [spl_at (by rw [hlen]; omega)]
  by_cases h1 : k < r * wd
  · rw [if_pos h1]; exact hd k h1
  · rw [if_neg h1, if_pos (by rw [hlen]; omega), cutL_at (by omega), List.getElem?_take, if_pos (by omega), List.getElem?_drop]
    have e3 : k = r * wd + (k - r * wd) := by omega
    conv => rhs; rw [e3, cutAt_row (by omega)]
    rw [List.getD_eq_getElem?_getD, List.getElem?_eq_getElem (by omega)]
    rfl

theorem Byt.cast {p : Nat → Prop} {w : World} {A A2 : Option Addr} {n n2 : Nat} {l : List Int} (h : Byt p w A n l) (hA : A2 = A) (hn : n2 = n) : Byt p w A2 n2 l := by subst hA hn; exact h

/-- What a call returns that makes a slice of bytes; its length is at most its capacity. -/
def RetC (w : World) (l : List Int) (e : Ending) (w' : World) : Prop :=
  ∃ A n c, e = .returned (.slice A n c) ∧ n ≤ c ∧ Byt (w.heap.size ≤ ·) w' A n l ∧ Below w.heap.size w w'
/-- The planes of a frame's value have room. -/
def CapsOK (v : Value) : Prop := ∃ x y ya yn yc ua un uc va vn vc, v = .agg #[x, y, .slice ya yn yc, .slice ua un uc, .slice va vn vc] ∧ yn ≤ yc ∧ un ≤ uc ∧ vn ≤ vc
theorem CapsOK.out {x y : Value} {ya ua va : Option Addr} {yn yc un uc vn vc : Nat} (h : CapsOK (.agg #[x, y, .slice ya yn yc, .slice ua un uc, .slice va vn vc])) : yn ≤ yc ∧ un ≤ uc ∧ vn ≤ vc := by
  obtain ⟨_, _, _, _, _, _, _, _, _, _, _, e, h1, h2, h3⟩ := h
  simp only [Value.agg.injEq, Array.mk.injEq, List.cons.injEq, Value.slice.injEq, and_true] at e
  omega
theorem CapsOK.mk {x y : Value} {ya ua va : Option Addr} {yn yc un uc vn vc : Nat} (h1 : yn ≤ yc) (h2 : un ≤ uc) (h3 : vn ≤ vc) : CapsOK (.agg #[x, y, .slice ya yn yc, .slice ua un uc, .slice va vn vc]) :=
  ⟨_, _, _, _, _, _, _, _, _, _, _, rfl, h1, h2, h3⟩
def RetFc (w : World) (r : Fr × Int) (e : Ending) (w' : World) : Prop :=
  ∃ v, e = .returned (.tuple #[v, .int .i64 r.2]) ∧ CapsOK v ∧ IsFr (w.heap.size ≤ ·) w' v r.1 ∧ Below w.heap.size w w'
theorem retFc_zero {e : Ending} {w w' : World} {B : Nat} (hB : Below w.heap.size w w') (he : e = .returned (.tuple #[.agg #[.int .i64 0, .int .i64 0, .slice none 0 0, .slice none 0 0, .slice none 0 0], .int .i64 B])) : RetFc w (zeroFr, (B : Int)) e w' :=
  ⟨_, he, CapsOK.mk (Nat.le_refl _) (Nat.le_refl _) (Nat.le_refl _), ⟨_, _, _, _, _, _, _, _, _, rfl, Byt.nil, Byt.nil, Byt.nil⟩, hB⟩

set_option maxHeartbeats 2000000 in
theorem plane_cut {p : Nat → Prop} (A : Option Addr) (n c fr st wd ht : Nat) (l : List Int) (w : World) (hl : Byt p w A n l) (hn : n ≤ c) (hw : 0 < wd) (hwd : wd ≤ 64) (hht : ht ≤ 64) (hfr : fr ≤ 100000) (hst : st ≤ 1000)
    (hfit : ∀ r, r < ht → fr + r * st + wd ≤ n) :
    Calls Try.prog 47 #[.slice A n c, .agg #[.int .i64 fr, .int .i64 st, .int .i64 wd, .int .i64 ht]] w (RetC w (cutL l fr st wd ht)) := by
  obtain ⟨N, hN⟩ : ∃ N, N = ht * wd := ⟨_, rfl⟩
  have hN1 : N ≤ 4096 := by rw [hN]; exact Nat.le_trans (Nat.mul_le_mul hht hwd) (by omega)
  have m1 : (wd : Int) * (ht : Int) = (N : Int) := by rw [hN, Int.natCast_mul, Int.mul_comm]
  have hmk := run_mkBn (P := Try.prog) (t := 22) Try.underlying22 Try.infoB N N (Nat.le_refl _) (by omega)
  have HN := Lib.hid hN
  clear hN
  have HF := Lib.hid hfit
  clear hfit
  go_enter Try.func47, Try.ntmps47
  go_wp2
  clear hmk m1
  have xb : Bx ((w.alloc (.cells #[.int .i64 fr, .int .i64 st, .int .i64 wd, .int .i64 ht] 68)).alloc (zeroB 5 N)) w.heap.size 68 #[.int .i64 fr, .int .i64 st, .int .i64 wd, .int .i64 ht] := (Bx.new w _ _).alloc _
  have kb := Bk.made' (w.alloc (.cells #[.int .i64 fr, .int .i64 st, .int .i64 wd, .int .i64 ht] 68)) 5 N (w.heap.size + 1) (by simp)
  have hB0 : Below w.heap.size w ((w.alloc (.cells #[.int .i64 fr, .int .i64 st, .int .i64 wd, .int .i64 ht] 68)).alloc (zeroB 5 N)) := ((Below.refl _ w).alloc (by simp) _).alloc (by simp) _
  generalize hWA : (w.alloc (.cells #[.int .i64 fr, .int .i64 st, .int .i64 wd, .int .i64 ht] 68)).alloc (zeroB 5 N) = wA at *
  clear hWA
  go_loopw [15] (fun i wr => ∃ (r : Nat) (m : List Int), r ≤ ht ∧ i = .int .i64 r ∧ Below w.heap.size w wr ∧ Bx wr w.heap.size 68 #[.int .i64 fr, .int .i64 st, .int .i64 wd, .int .i64 ht] ∧ Bk wr 5 (w.heap.size + 1) m ∧ m.length = N ∧ ∀ k, k < r * wd → m[k]? = (cutL l fr st wd ht)[k]?) (fun i _ => ht - (intOf i).toNat)
  case atStart => exact ⟨0, _, Nat.zero_le _, rfl, hB0, xb, kb, by simp, fun k hk => absurd hk (by omega)⟩
  case round =>
    clear xb kb hB0
    obtain ⟨r, m, hr, rfl, hbel, xb, kb, hm, hd⟩ := hrel
    have HM := Lib.hid hm
    clear hm
    have hxl := xb.lt
    have c0 := xb.cell 0 rfl
    have c1 := xb.cell 1 rfl
    have c2 := xb.cell 2 rfl
    by_cases hlt : r < ht
    · have hf := HF.out r hlt
      obtain ⟨a, ha⟩ : ∃ a, a = r * wd := ⟨_, rfl⟩
      obtain ⟨b, hb⟩ : ∃ b, b = (r + 1) * wd := ⟨_, rfl⟩
      obtain ⟨t, ht'⟩ : ∃ t, t = r * st := ⟨_, rfl⟩
      obtain ⟨s, hs⟩ : ∃ s, s = fr + t := ⟨_, rfl⟩
      have hab : b = a + wd := by rw [hb, ha, Nat.succ_mul]
      have hbN : b ≤ N := by rw [hb, HN.out]; exact Nat.mul_le_mul_right _ (by omega)
      have hts : t ≤ 64 * 1000 := by rw [ht']; exact Nat.mul_le_mul (by omega) hst
      have hsn : s + wd ≤ n := by rw [hs, ht']; exact hf
      have e1 : IntKind.i64.wrap ((r : Int) * (wd : Int)) = (a : Int) := by rw [← Int.natCast_mul, ← ha]; exact IntWalk.i64_in _ (by omega)
      have e2 : IntKind.i64.wrap ((r : Int) + 1) = (r : Int) + 1 := IntWalk.i64_in _ (by omega)
      have e3 : IntKind.i64.wrap (((r : Int) + 1) * (wd : Int)) = (b : Int) := by rw [show ((r : Int) + 1) * (wd : Int) = ((b : Nat) : Int) by rw [hb, Int.natCast_mul]; rfl]; exact IntWalk.i64_in _ (by omega)
      have e4 : IntKind.i64.wrap ((r : Int) * (st : Int)) = (t : Int) := by rw [← Int.natCast_mul, ← ht']; exact IntWalk.i64_in _ (by omega)
      have e5 : IntKind.i64.wrap ((fr : Int) + (t : Int)) = (s : Int) := by rw [show ((fr : Int) + (t : Int)) = ((s : Nat) : Int) by omega]; exact IntWalk.i64_in _ (by omega)
      have Ha := Lib.hid ha
      have Hb := Lib.hid hb
      have Ht := Lib.hid ht'
      have Hs := Lib.hid hs
      have Hab := Lib.hid hab
      have j1 : a < b := by omega
      have j2 : (0 : Int) ≤ (a : Int) := by omega
      have j3 : (a : Int) ≤ (b : Int) := by omega
      have j4 : (b : Int) ≤ (N : Int) := by omega
      have j5 : (0 : Int) ≤ (s : Int) := by omega
      have j6 : (s : Int) ≤ (n : Int) := by omega
      have j7 : (n : Int) ≤ (c : Int) := by omega
      have hdn : b - a = wd := by omega
      have Hdn := Lib.hid hdn
      clear ha hb ht' hs hab hf hdn
      obtain ⟨bb, oo, rfl, _, hbb, _⟩ := hl.addr (by omega)
      have hsrc := ((hl.ext hbel).sub (k := s) (m := n - s) (by omega)).drew
      rw [List.take_of_length_le (by simp [hl.len])] at hsrc
      go_wp2
      go_region_held3 (fun w' => w'.cell? ⟨w.heap.size, 0, none⟩ = some (.int .i64 fr) ∧ w'.cell? ⟨w.heap.size, 1, none⟩ = some (.int .i64 st) ∧ w'.cell? ⟨w.heap.size, 2, none⟩ = some (.int .i64 wd))
        (first | go_keep | (go_split_ands; refine ⟨?_, ?_, ?_⟩ <;> (rw [hg2.cell_far _ (by simp; omega) (by simp)]; assumption)))
        (first | (refine step_copyB (p := p) _ (by rfl) _ _ _ (by rfl) _ Try.underlying22 Try.infoB _ _ _ _ _ _ (by rfl) (by rfl) (w.heap.size + 1) a _ kb.drew (l.drop s) (Byt.cast hsrc (by first | rfl | (simp; omega)) (by first | rfl | (simp; done))) (fun _ => (by first | rfl | (simp; omega))) (by rw [HM.out]; first | omega | (simp; omega)) ?_; intro w2 kb2 hg2))
      clear e1 e2 e3 e4 e5
      go_wp2
      go_roundw
      case rel =>
        rw [Hdn.out, Ha.out, Hs.out, Ht.out] at kb2
        refine ⟨r + 1, _, by omega, by go_num, hbel.drew.grown hg2 (by simpa using hbel.size) (fun k hk => by cases hk; omega), xb.drew.grown hg2 (by simp), kb2, ?_, cut_row hlt (by rw [HM.out, HN.out]) (by have := HF.out r hlt; rw [hl.len]; exact this) hd⟩
        rw [spl_len (by simp only [List.length_take, List.length_drop, hl.len]; have h1 := Hab.out; have h2 := Ha.out; have h3 := HM.out; omega)]
        exact HM.out
      case measure => simp [intOf]; omega
    · obtain rfl : r = ht := by omega
      go_wp2
      go_ret
      refine ⟨_, _, _, rfl, Nat.le_refl _, ?_, hbel⟩
      obtain rfl : m = cutL l fr st wd r := all_upto HM.out (by rw [cutL_len, HN.out]) (fun k hk => hd k (by rw [← HN.out]; exact hk))
      have := kb.byt (p := (w.heap.size ≤ ·)) (by omega) (cutL_rng hl.rng fr st wd r)
      rwa [HM.out] at this
end Go.Proofs.Ytaedpadkpclldaa
