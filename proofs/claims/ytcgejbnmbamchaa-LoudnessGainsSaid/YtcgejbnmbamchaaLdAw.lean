/- cutroomlaw28.awake: words. -/
import Derived.Test.YtcgejbnmbamchaaLdN
namespace Go.Proofs.Ytcgejbnmbamchaa
open Go.RowKit

theorem sqs_rep (n : Nat) (x : Int) : sqs (List.replicate n x) = n * (x * x) := by
  induction n with
  | zero => simp [sqs]
  | succ n ih => rw [List.replicate_succ, sqs_cons, ih]; push_cast; rw [Int.add_mul, Int.one_mul]; omega
theorem powers_rep {N : Nat} (hN : N = 480) (x : Int) : powersL [List.replicate N x] = [480 * (x * x)] := by
  have h1 : nWin (wide [List.replicate N x]) = 1 := by
    show nWin (List.replicate N x).length = 1
    rw [List.length_replicate, hN]; rfl
  unfold powersL
  rw [h1]
  show [powAt [List.replicate N x] (120 * 0)] = _
  unfold powAt powC
  rw [Nat.mul_zero]
  simp only [List.map_cons, List.map_nil, List.drop_zero, List.take_replicate, sqs_rep, List.sum_cons, List.sum_nil]
  rw [show min 480 N = 480 by omega]
  simp
theorem proper_rep {N : Nat} (hN : N = 480) (x : Int) : properB [List.replicate N x] = true := by
  simp only [properB, Bool.and_eq_true, decide_eq_true_eq, List.all_eq_true, List.length_cons, List.length_nil, List.mem_singleton, List.headD_cons]
  refine ⟨by omega, fun c hc => ?_⟩
  subst hc
  exact decide_eq_true ⟨rfl, by rw [List.length_replicate]; omega⟩
theorem gate_one (x : Int) (h : 30720 ≤ x) : gateL [x] = [0] := by
  have h1 : loud x = true := decide_eq_true h
  have h2 : loudSum [x] = x := by simp [loudSum, h1]
  have h3 : loudMany [x] = 1 := by simp [loudMany, h1]
  have h4 : passes [x] x = true := by
    unfold passes
    rw [h1, h2, h3]
    simp
    omega
  unfold gateL
  show (List.range 1).filter _ = _
  simp [List.range_succ, h4]
theorem gate_quiet (x : Int) (h : x < 30720) : gateL [x] = [] := by
  have h1 : loud x = false := decide_eq_false (by omega)
  have h4 : passes [x] x = false := by unfold passes; rw [h1]; rfl
  unfold gateL
  show (List.range 1).filter _ = _
  simp [List.range_succ, h4]
theorem meas_100 : measNn [4800000] = 10000 ∧ measDn [4800000] = 1 := by
  have h := gate_one 4800000 (by omega)
  have h2 : gateSum [4800000] = 4800000 := by unfold gateSum; rw [h]; rfl
  unfold measNn measDn
  rw [h, h2]
  decide
theorem meas_0 : measNn [0] = 0 ∧ measDn [0] = 1 := by
  have h := gate_quiet 0 (by omega)
  unfold measNn measDn
  rw [h]
  exact ⟨rfl, rfl⟩
theorem peak_rep {N : Nat} (hN : N = 480) (x : Int) (h : -32768 ≤ x ∧ x ≤ 32767) : peakF [List.replicate N x] = absI x := by
  unfold peakF
  rw [if_pos (proper_rep hN x)]
  have h1 : ∀ (n : Nat) (m : Int), 0 ≤ m → m ≤ absI x → peakC m (List.replicate (n + 1) x) = absI x := by
    intro n
    induction n with
    | zero => intro m h0 hm; simp [peakC]; omega
    | succ n ih =>
      intro m h0 hm
      rw [List.replicate_succ]
      show peakC (max m (absI x)) (List.replicate (n + 1) x) = absI x
      exact ih _ (by omega) (by omega)
  obtain ⟨n, hn⟩ : ∃ n, N = n + 1 := ⟨N - 1, by omega⟩
  rw [hn]
  exact h1 n 0 (Int.le_refl _) (absI_bound h).1
theorem gain_100 {r : Nat} (h : GainIs [4800000] 100 2500 32767 r) : r = 2048 :=
  gain_uniq h (by unfold GainIs; rw [meas_100.1, meas_100.2]; exact ⟨by omega, by decide, fun _ => by decide⟩)
theorem gain_0 {r : Nat} (h : GainIs [0] 0 1 1 r) : r = 65536 :=
  gain_uniq h (by unfold GainIs; rw [meas_0.1, meas_0.2]; exact ⟨by omega, by decide, fun h => absurd h (by omega)⟩)
theorem rep_facts {N : Nat} (hN : N = 480) (X : Snd) (hX : X = [List.replicate N 100]) : properB X = true ∧ powE X = 0 ∧ powOut X = [4800000] ∧ measOutN X = 10000 ∧ measOutD X = 1 ∧ powersL X = [4800000] ∧ (peakF X).toNat = 100 := by
  subst hX
  have h1 := proper_rep hN 100
  have h2 := powers_rep hN 100
  have h3 : powersL [List.replicate N 100] = [4800000] := by rw [h2]; rfl
  have h4 := peak_rep hN 100 (by omega)
  refine ⟨h1, by unfold powE; rw [h1]; rfl, by unfold powOut; rw [h1, h3]; rfl, ?_, ?_, h3, by rw [h4]; rfl⟩
  · unfold measOutN; rw [h1, h3, measN_nat, meas_100.1]; rfl
  · unfold measOutD; rw [h1, h3, measD_nat, meas_100.2]; rfl
theorem zero_facts {N : Nat} (hN : N = 480) (X : Snd) (hX : X = [List.replicate N 0]) : properB X = true ∧ powersL X = [0] ∧ (peakF X).toNat = 0 := by
  subst hX
  have h2 := powers_rep hN 0
  have h4 := peak_rep hN 0 (by omega)
  exact ⟨proper_rep hN 0, by rw [h2]; rfl, by rw [h4]; rfl⟩
theorem Try.infoI16' : (Try.prog.info? 49).map (fun i => (i.zero, i.size, i.bytes)) = some (some (.int .i16 0), 1, 2) := by kernel_rfl
/-- Block g is just the samples l. -/
def B16 (w : World) (g : Nat) (l : List Int) : Prop := w.heap[g]? = some (.cells (l.map (Value.int .i16)).toArray 49 (0, 0))
def zero16 (n : Nat) : Obj := .cells ((List.replicate n (0 : Int)).map (Value.int .i16)).toArray 49 (0, 0)
section
variable {w w' : World} {g : Nat} {l : List Int}
theorem B16.lt (h : B16 w g l) : g < w.heap.size := by
  rcases Nat.lt_or_ge g w.heap.size with hlt | hge
  · exact hlt
  · unfold B16 at h; rw [Array.getElem?_eq_none hge] at h; cases h
theorem B16.cell (h : B16 w g l) (i : Nat) : w.cell? ⟨g, i, none⟩ = (l[i]?).map (Value.int .i16) := by
  unfold B16 at h
  simp [World.cell?, h]
theorem B16.frozen (h : B16 w g l) (i : Nat) : w.frozen? ⟨g, i, none⟩ = false := by
  unfold B16 at h
  simp [World.frozen?, h]
theorem B16.ext (h : B16 w g l) (hb : Below w.heap.size w w') : B16 w' g l := (hb.block g h.lt).trans h
theorem B16.drewN (h : B16 w g l) (k : Nat) : B16 (w.drewN k) g l := h
theorem B16.set_ (h : B16 w g l) (i : Nat) (x : Int) : B16 (w.setCell ⟨g, i, none⟩ (.int .i16 x)) g (l.set i x) := by
  unfold B16 at h ⊢
  simp [World.setCell, Array.getElem?_modify, h]
theorem B16.made (w : World) (n : Nat) : B16 (w.alloc (zero16 n)) w.heap.size (List.replicate n 0) := heap_alloc_new w _
theorem B16.its {p : Nat → Prop} (h : B16 w g l) (hp : p g) : Its .i16 p w (some ⟨g, 0, none⟩) l.length l :=
  ⟨rfl, fun _ => ⟨g, 0, rfl, hp, fun j x hx => by rw [h.cell, Nat.zero_add, hx]; rfl⟩⟩
end
theorem run_mk16 (x : Int) (N : Nat) (hx : x = (N : Int)) (hN : N ≤ 2000000) (w : World) :
    (Instr.makeSlice 44 (.int .i64 x) (.int .i64 x)).run Try.prog w = .ok (.slice (some ⟨w.heap.size, 0, none⟩) N N) (w.alloc (zero16 N)) := by
  subst hx
  obtain ⟨i, hi', hz, hs, hb⟩ := info_parts Try.infoI16'
  have hr := run_make (P := Try.prog) w 44 49 i (.int .i16 0) Try.underlying44 hi' hz .i64 .i64 (N : Int) (N : Int) (by omega) (by omega) (by rw [hb]; omega) (by omega)
  rw [hr, hs]
  have : madeCells (Value.cells (.int .i16 0)) ((N : Int).toNat * 1) = ((List.replicate N (0 : Int)).map (Value.int .i16)).toArray := by
    apply Array.ext'
    show (madeCells #[.int .i16 0] ((N : Int).toNat * 1)).toList = _
    rw [toList_madeCells_one]
    simp
  rw [this]
  simp [zero16]
/-- Sound of one channel, written out. -/
theorem Pcm.one {p : Nat → Prop} {w : World} {A : Option Addr} {n c : Nat} {l : List Int} (h : Its .i16 p w A n l) (hs : Smp l) (hc : n ≤ c) (hp : p w.heap.size) :
    Pcm p (w.alloc (.cells #[.slice A n c] 44)) (some ⟨w.heap.size, 0, none⟩) 1 [⟨A, n, c, l⟩] := by
  refine ⟨Rw.lit w _ [.slice A n c] rfl 1 1 rfl rfl hp, fun x hx => ?_⟩
  simp only [List.mem_singleton] at hx
  subst hx
  exact ⟨h.alloc _, hs, hc⟩
theorem rep_set (N i : Nat) (h : i < N) : (List.replicate i (100 : Int) ++ List.replicate (N - i) 0).set i 100 = List.replicate (i + 1) 100 ++ List.replicate (N - (i + 1)) 0 := by
  rw [List.set_append_right _ _ (by simp), List.length_replicate, Nat.sub_self]
  obtain ⟨m, hm⟩ : ∃ m, N - i = m + 1 := ⟨N - i - 1, by omega⟩
  rw [hm, List.replicate_succ, List.set_cons_zero, show N - (i + 1) = m by omega, List.replicate_succ', List.append_assoc]
  rfl
end Go.Proofs.Ytcgejbnmbamchaa
