/- loudness.square, absolute, limit; a part of a channel; the powers step by step. -/
import Derived.Test.YtcgejbnmbamchaaLdA
namespace Go.Proofs.Ytcgejbnmbamchaa
open Go.RowKit

theorem Try.infoI64 : (Try.prog.info? 2).map (fun i => (i.zero, i.size, i.bytes)) = some (some (.int .i64 0), 1, 8) := by kernel_rfl
theorem Try.infoInt : (Try.prog.info? 3).map (fun i => (i.zero, i.size, i.bytes)) = some (some (.int .i64 0), 1, 8) := by kernel_rfl
theorem ld_square16 (x : Int) (w : World) (hx : -32768 ≤ x ∧ x ≤ 32767) :
    Calls Try.prog 34 #[.int .i16 x] w fun e w' => e = .returned (.int .i64 (x * x)) ∧ w' = w := by
  have hb := sq_bound hx
  obtain ⟨h1, h2⟩ := hx
  have e1 : IntKind.i64.wrap x = x := IntWalk.i64_in _ (by omega)
  obtain ⟨y, hy⟩ : ∃ y, y = x * x := ⟨_, rfl⟩
  rw [← hy] at hb ⊢
  have e2 : IntKind.i64.wrap (x * x) = y := by rw [← hy]; exact IntWalk.i64_in _ (by omega)
  clear hy
  go_enter Try.func34, Try.ntmps34
  go_wp2
  go_ret
  exact ⟨ret_i64 (by first | rfl | exact e2 | (simp [e1, e2])), rfl⟩
theorem ld_square (x y : Int) (w : World) (hx : -9223372036854775808 ≤ x * x ∧ x * x ≤ 9223372036854775807) (hy : y = x * x) :
    Calls Try.prog 40 #[.int .i64 x] w fun e w' => e = .returned (.int .i64 y) ∧ w' = w := by
  have e2 : IntKind.i64.wrap (x * x) = y := by rw [hy]; exact IntWalk.i64_in _ (by omega)
  clear hx hy
  go_enter Try.func40, Try.ntmps40
  go_wp2
  go_ret
  exact ⟨ret_i64 (by first | rfl | exact e2 | (simp [e2])), rfl⟩
theorem ld_absolute (x : Int) (w : World) (hx : -32768 ≤ x ∧ x ≤ 32767) :
    Calls Try.prog 36 #[.int .i16 x] w fun e w' => e = .returned (.int .i64 (absI x)) ∧ w' = w := by
  obtain ⟨h1, h2⟩ := hx
  have e1 : IntKind.i64.wrap x = x := IntWalk.i64_in _ (by omega)
  have e2 : IntKind.i64.wrap (-x) = -x := IntWalk.i64_in _ (by omega)
  have emax := fun w => run_max_mm (P := Try.prog) (w := w)
  go_enter Try.func36, Try.ntmps36
  go_wp2
  go_ret
  exact ⟨ret_i64 (by first | rfl | (simp [absI, e1, e2]) | (simp [absI, e1, e2]; omega)), rfl⟩
section
variable {k : IntKind} {p : Nat → Prop} {w : World} {b o i n m c : Nat} {l : List Int}
theorem Its.sub (h : Its k p w (some ⟨b, o, none⟩) n l) (hn : i + m ≤ n) : Its k p w (some ⟨b, o + i, none⟩) m ((l.drop i).take m) := by
  refine ⟨by rw [List.length_take, List.length_drop, h.len]; omega, fun hm => ?_⟩
  obtain ⟨b', off, hA, hp, _, hc⟩ := h.addr (by omega)
  injection hA with hA
  injection hA with e1 e2
  subst e1 e2
  refine ⟨b, o + i, rfl, hp, fun j x hx => ?_⟩
  have hj : j < m := by
    have := (List.getElem?_eq_some_iff.1 hx).1
    rw [List.length_take] at this
    omega
  rw [List.getElem?_take, if_pos hj, List.getElem?_drop] at hx
  have := hc (i + j) x hx
  rwa [show o + (i + j) = o + i + j by omega] at this
end
set_option maxRecDepth 100000 in
/-- A part of a channel that is not empty. -/
theorem sub_ch (b off n c : Nat) (lo hi : Int) (h0 : 0 ≤ lo) (h1 : lo < hi) (h2 : hi ≤ c) (w : World) :
    (Instr.slice 44 (.slice (some ⟨b, off, none⟩) n c) (some (.int .i64 lo)) (some (.int .i64 hi)) none).run Try.prog w = .ok (.slice (some ⟨b, off + lo.toNat, none⟩) (hi - lo).toNat (c - lo.toNat)) w := by
  have hsz : ∀ w, (sizeOf 49).run Try.prog w = .ok 1 w := fun _ => by kernel_rfl
  rw [run_slice_lh (P := Try.prog) w 44 (some ⟨b, off, none⟩) n c Try.underlying44 .i64 .i64 lo hi h0 (by omega) h2]
  have hz := hsz w
  show ((sizeOf 49).run Try.prog w).andThen _ = _
  rw [hz]
  simp only [Result.andThen, sliced]
  rw [if_neg (by omega), show hi.toNat - lo.toNat = (hi - lo).toNat by omega]
  simp [Addr.add]
theorem nWin_lt (k n : Nat) : k < nWin n ↔ 120 * k + 480 ≤ n := by unfold nWin; omega
theorem win_at {l : List Int} {a i : Nat} {x : Int} (h : ((l.drop a).take 480)[i]? = some x) : sqs (((l.drop a).take 480).take (i + 1)) = sqs (((l.drop a).take 480).take i) + x * x := by
  rw [take_snoc_at h, sqs_snoc]
theorem powers_snoc {X : Snd} {k : Nat} : (List.range (k + 1)).map (fun j => powAt X (120 * j)) = (List.range k).map (fun j => powAt X (120 * j)) ++ [powAt X (120 * k)] := by
  rw [List.range_succ, List.map_append]; rfl
/-- The power of the first i channels. -/
def powUp (X : Snd) (a i : Nat) : Int := powAt (X.take i) a
theorem powUp_zero (X : Snd) (a : Nat) : powUp X a 0 = 0 := by simp [powUp, powAt]
theorem powUp_succ {X : Snd} {a i : Nat} {c : List Int} (h : X[i]? = some c) : powUp X a (i + 1) = powUp X a i + powC a c := by
  unfold powUp
  rw [take_snoc_at h]
  simp [powAt]
theorem powUp_all {X : Snd} {a i : Nat} (h : X.length = i) : powUp X a i = powAt X a := by
  unfold powUp
  rw [List.take_of_length_le (by omega)]
theorem powUp_bound {X : Snd} (hs : ∀ c ∈ X, Smp c) (a i : Nat) : 0 ≤ powUp X a i ∧ powUp X a i ≤ i * 515396075520 := by
  have h := powAt_bound (X := X.take i) (fun c hc => hs c (List.mem_of_mem_take hc)) a
  have h2 : (X.take i).length ≤ i := by rw [List.length_take]; omega
  unfold powUp
  omega
end Go.Proofs.Ytcgejbnmbamchaa
