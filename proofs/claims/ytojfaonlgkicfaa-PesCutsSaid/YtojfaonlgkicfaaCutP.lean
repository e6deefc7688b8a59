/- pes.Cut. -/
import Derived.Test.YtojfaonlgkicfaaCutB
import Derived.RecoverIn
namespace Go.Proofs.Ytojfaonlgkicfaa
open Go.RowKit Go.Shelf

attribute [local go_sem] Oper.semAt_some

theorem cut_idleIn (n : Nat) (p q : Addr) (w : World) :
    CallsDIn Fence.wide n Try.prog 30 #[.pointer (some p), .pointer (some q)] .returning w fun e u' w' => e = .returned (.tuple #[]) ∧ u' = .returning ∧ w' = w := by
  refine callsDIn_of_wpSIn Try.func30 rfl trivial fun c₀ cs hu => ?_
  apply wpSIn_seq
  apply wpSIn_region
  simp [wpOpsSIn, go_sem, recoverD, hu, Try.ntmps30, Exit.thenS]
  refine wpSIn_cond (t := false) (by simp [Act.eval, Array.replicate]) ?_
  simp only [Bool.false_eq_true, if_false]
  refine wpSIn_of_wpIn rfl (wpIn_skip ?_)
  cases c₀
  simp_all [bodyPostS, results, Try.results30]
theorem pes_pieces (A : Option Addr) (n c : Nat) (k : Int) (w : World) :
    Calls Try.prog 32 #[.slice A n c, .int .i64 k] w fun e w' => e = .returned (.func (.func 52) #[] #[.pointer (some ⟨w.heap.size, 0, none⟩), .pointer (some ⟨w.heap.size + 1, 0, none⟩)]) ∧ w' = (w.alloc (.cells #[.slice A n c] 27)).alloc (.cells #[.int .i64 k] 3) := by
  have hmf : ∀ (fn : Fn) (first cap : Array Value) (w : World), (Instr.makeFunc fn first cap).run Try.prog w = .ok (.func fn first cap) w := fun _ _ _ _ => rfl
  go_enter Try.func32, Try.ntmps32
  go_wp2_with fail
  go_ret
  exact ⟨rfl, rfl⟩

/-- The state between two rounds. -/
structure CutI (w : World) (base : Nat) (s pts dts : Int) (l : List Int) (k : Nat) (pre : List Nat) (W : World) : Prop where
  b5 : Bx W w.heap.size 3 #[.int .i64 s]
  b7 : Bx W (w.heap.size + 1) 2 #[.int .i64 (if pre = [] then pts else -1)]
  b8 : Bx W (w.heap.size + 1 + 1) 2 #[.int .i64 (if pre = [] then dts else -1)]
  b11 : Bx W (w.heap.size + 1 + 1 + 1 + 1) 38 #[.int .i64 0]
  row : ∃ A1 c1 ks, Bx W (w.heap.size + 1 + 1 + 1) 26 #[.slice A1 pre.length c1] ∧ OwnK (base ≤ ·) W base (.slice A1 pre.length c1) ks ∧ ks.length = pre.length ∧ ks.map pkv = cutQ s pts dts l k pre
  be : Below w.heap.size w W
  bs : base ≤ W.heap.size
theorem CutI.turn {w W W' : World} {base B : Nat} {s pts dts : Int} {l : List Int} {k : Nat} {pre : List Nat} {row : Option Nat} (h : CutI w base s pts dts l k pre W) (hg : W.grownBy W' row) (hr : ∀ r, row = some r → B ≤ r ∧ ∃ o : Obj, W.heap[r]? = some o ∧ o.isCells = false) (hB : w.heap.size ≤ B) : CutI w base s pts dts l k pre W' := by
  obtain ⟨A1, c1, ks, h1, h2, h3, h4⟩ := h.row
  exact ⟨h.b5.turn hg hr, h.b7.turn hg hr, h.b8.turn hg hr, h.b11.turn hg hr, ⟨A1, c1, ks, h1.turn hg hr, h2.turn hg hr, h3, h4⟩, h.be.grown hg h.be.size (fun r e => Nat.le_trans hB (hr r e).1), Nat.le_trans h.bs hg.size⟩

set_option maxRecDepth 100000 in
set_option maxHeartbeats 16000000 in
theorem pes_Cut_yes {p : Nat → Prop} (s pts dts : Int) (A : Option Addr) (n c : Nat) (l : List Int) (k : Nat) (w : World) (hA : Byt p w A n l) (hnc : n ≤ c) (hn : n ≤ 3000) (hk1 : 1 ≤ k) (hk2 : k ≤ 60000) (hv : validP s pts dts = true) :
    Calls Try.prog 17 #[.int .i64 s, .slice A n c, .int .i64 pts, .int .i64 dts, .int .i64 (k : Int)] w (RetCu w 0 (cutL s pts dts l k)) := by
  have hmf : ∀ (fn : Fn) (first cap : Array Value) (w : World), (Instr.makeFunc fn first cap).run Try.prog w = .ok (.func fn first cap) w := fun _ _ _ _ => rfl
  obtain ⟨pv, run1, run2, hpv⟩ := pieces_exist hA hnc hk1
  have HR1 := Lib.hid run1
  have HR2 := Lib.hid run2
  have HPV := Lib.hid hpv
  have HLN := Lib.hid hA.len
  have HVP := Lib.hid (fun w' => pes_valid s pts dts (.slice none 0 0) w')
  rw [hv] at HVP
  have d1 : decide ((k : Int) < 1) = false := decide_eq_false (by omega)
  have d2 : decide ((60000 : Int) < (k : Int)) = false := decide_eq_false (by omega)
  clear run1 run2 hpv hv hA
  refine (callsIn_wide (n := 5)).1 ?_
  refine callsIn_of_wp_marks Try.func17 rfl trivial ?_ rfl
  simp only [Try.ntmps17, List.size_toArray, List.length_cons, List.length_nil, Nat.reduceAdd, Nat.reduceSub, Array.replicate_succ, Array.replicate_zero, List.push_toArray, List.append_toArray, List.nil_append, List.cons_append]
  refine wpIn_wide.2 ?_
  have b5 := ((((Bx.new w 3 #[.int .i64 s]).alloc (.cells #[.int .i64 pts] 2)).alloc (.cells #[.int .i64 dts] 2)).alloc (.cells #[.slice none 0 0] 26)).alloc (.cells #[.int .i64 0] 38)
  have b7 := (((Bx.new' (w.alloc (.cells #[.int .i64 s] 3)) 2 #[.int .i64 pts] (w.heap.size + 1) (by simp)).alloc (.cells #[.int .i64 dts] 2)).alloc (.cells #[.slice none 0 0] 26)).alloc (.cells #[.int .i64 0] 38)
  have b8 := ((Bx.new' ((w.alloc (.cells #[.int .i64 s] 3)).alloc (.cells #[.int .i64 pts] 2)) 2 #[.int .i64 dts] (w.heap.size + 1 + 1) (by simp)).alloc (.cells #[.slice none 0 0] 26)).alloc (.cells #[.int .i64 0] 38)
  have b10 := (Bx.new' (((w.alloc (.cells #[.int .i64 s] 3)).alloc (.cells #[.int .i64 pts] 2)).alloc (.cells #[.int .i64 dts] 2)) 26 #[.slice none 0 0] (w.heap.size + 1 + 1 + 1) (by simp)).alloc (.cells #[.int .i64 0] 38)
  have b11 := Bx.new' ((((w.alloc (.cells #[.int .i64 s] 3)).alloc (.cells #[.int .i64 pts] 2)).alloc (.cells #[.int .i64 dts] 2)).alloc (.cells #[.slice none 0 0] 26)) 38 #[.int .i64 0] (w.heap.size + 1 + 1 + 1 + 1) (by simp)
  have B0 := (((((Below.refl w.heap.size w).alloc (Nat.le_refl _) (.cells #[.int .i64 s] 3)).alloc (by simp) (.cells #[.int .i64 pts] 2)).alloc (by simp; omega) (.cells #[.int .i64 dts] 2)).alloc (by simp; omega) (.cells #[.slice none 0 0] 26)).alloc (by simp; omega) (.cells #[.int .i64 0] 38)
  go_upto_region 2 with fail
  generalize ((((w.alloc (.cells #[.int .i64 s] 3)).alloc (.cells #[.int .i64 pts] 2)).alloc (.cells #[.int .i64 dts] 2)).alloc (.cells #[.slice none 0 0] 26)).alloc (.cells #[.int .i64 0] 38) = W0 at *
  have H5 := Lib.hid b5
  have H7 := Lib.hid b7
  have H8 := Lib.hid b8
  have H10 := Lib.hid b10
  have H11 := Lib.hid b11
  have HB0 := Lib.hid B0
  have q5 := b5.cell 0 rfl
  have q7 := b7.cell 0 rfl
  have q8 := b8.cell 0 rfl
  clear b5 b7 b8 b10 b11 B0
  go_wp2_with fail
  refine (HVP.out _).mono ?_
  rintro e w1 ⟨rfl, hb1⟩
  have HB1 := Lib.hid hb1
  clear hb1 q5 q7 q8
  go_wp2_with fail
  refine (pes_pieces A n c (k : Int) w1).mono ?_
  rintro e w2 ⟨rfl, hw2⟩
  have HW2 := Lib.hid hw2
  clear hw2
  go_wp2_with fail
  have hlw : w.heap.size ≤ w1.heap.size := Nat.le_trans HB0.out.size HB1.out.size
  have hl5 : w.heap.size + 5 ≤ w1.heap.size := by have := H11.out.lt; have := HB1.out.size; omega
  have zw2 : w2.heap.size = w1.heap.size + 2 := by rw [HW2.out]; simp
  have hbx : Below w1.heap.size w1 w2 := by rw [HW2.out]; exact ((Below.refl _ _).alloc (Nat.le_refl _) _).alloc (by simp) _
  have HBX := Lib.hid hbx
  have HS1 : Hid (Bx w2 w1.heap.size 27 #[.slice A n c]) := Lib.hid (by rw [HW2.out]; exact (Bx.new _ _ _).alloc _)
  have HS2 : Hid (Bx w2 (w1.heap.size + 1) 3 #[.int .i64 (k : Int)]) := Lib.hid (by rw [HW2.out]; exact Bx.new' _ _ _ _ (by simp))
  have HSEQ : Hid (SeqStopsK Fence.wide 4 Try.prog 52 #[.pointer (some ⟨w1.heap.size, 0, none⟩), .pointer (some ⟨w1.heap.size + 1, 0, none⟩)] (fun x : { i : Nat // i < pcN n k } => #[pv x.1]) (KpC w.heap.size w1.heap.size (w1.heap.size + 1)) (fun xs => xs = uptoF (pcN n k) (pcN n k) (Nat.le_refl _)) (fun _ => True) (pcN n k) w2) := Lib.hid (fun l J Jx W hW _ _ hY h0 =>
    pieces1_in Fence.wide 4 trivial rfl (by omega) l w1.heap.size (w1.heap.size + 1) w.heap.size n c k (pcN n k) A pv hk1 hk2 (by omega) (pcN_pos n k) (pcN_last hk1).1 (pcN_next hk1) HR1.out HR2.out J Jx hY W ((HS1.out.ext hW).cell 0 rfl) ((HS2.out.ext hW).cell 0 rfl) h0)
  have HI0 : Hid (CutI w w2.heap.size s pts dts l k [] w2) := Lib.hid ⟨(H5.out.ext HB1.out).ext hbx, (H7.out.ext HB1.out).ext hbx, (H8.out.ext HB1.out).ext hbx, (H11.out.ext HB1.out).ext hbx, ⟨none, 0, [], (H10.out.ext HB1.out).ext hbx, OwnK.nil, rfl, rfl⟩, (HB0.out.trans (HB1.out.mono HB0.out.size)).trans (hbx.mono hlw), Nat.le_refl _⟩
  have HPL : Hid (∀ W, Below w.heap.size w W → ∀ (i : Nat) (hi : i < pcN n k), ∃ Ai, pv i = .slice Ai (pcL l k i).length (pcL l k i).length ∧ Byt (· < w.heap.size) W Ai (pcL l k i).length (pcL l k i)) := Lib.hid (fun W hW i hi => by
    obtain ⟨Ai, h1, h2⟩ := HPV.out i hi
    exact ⟨Ai, h1, h2.below hW (fun _ _ h => h)⟩)
  clear hbx
  refine (wpIn_wide (n := 5)).1 ?_
  refine wpIn_rangeFunc_ownF (F := Fence.wide) (α := { i : Nat // i < pcN n k }) rfl (by decide) (gf := 52) (lb := #[.pointer (some ⟨w1.heap.size, 0, none⟩), .pointer (some ⟨w1.heap.size + 1, 0, none⟩)]) rfl trivial (enters_of Try.func52 (by kernel_rfl) rfl)
    HSEQ.out (fun h k => KpC.trans h k) (fun W l o o' hl h hc hw => ⟨belowK_b (w := w2) (by omega) W l o o' hl h hc hw, World.putObj_heap_other (by omega), World.putObj_heap_other (by omega)⟩) (Below.refl _ _) (fun _ => rfl)
    (fun (pre : List { i : Nat // i < pcN n k }) W => CutI w w2.heap.size s pts dts l k (valsOf pre) W) (fun _ _ _ => False) (fun pre W W' row hs hg hr => CutI.turn hs hg hr (by omega)) (fun _ _ _ _ _ hs _ _ => hs) HI0.out ?a1 ?assign ?body ?done ?stop
  case stop =>
    intro D c pre W _ _ h _
    exact h.elim
  case assign =>
    intro l x W K hK
    gi_wp2
    exact hK
  case body =>
    intro ll pre x W hI hlen
    have hps : (valsOf pre).length = pre.length := by simp [valsOf]
    obtain ⟨Ai, hpx, hby⟩ := HPL.out W hI.be x.1 x.2
    rw [hpx]
    obtain ⟨A1, c1, ks, h10, hok, hkl, hkv⟩ := hI.row
    obtain ⟨pp, hpp⟩ : ∃ q, (if valsOf pre = [] then pts else -1) = q := ⟨_, rfl⟩
    obtain ⟨dd, hdd⟩ : ∃ q, (if valsOf pre = [] then dts else -1) = q := ⟨_, rfl⟩
    obtain ⟨dt, hdt⟩ : ∃ q, pcL l k x.1 = q := ⟨_, rfl⟩
    obtain ⟨nd, hnd⟩ : ∃ q, dt.length = q := ⟨_, rfl⟩
    obtain ⟨j, hj⟩ : ∃ q, (valsOf pre).length = q := ⟨_, rfl⟩
    have hI7 := hI.b7
    have hI8 := hI.b8
    rw [hpp] at hI7
    rw [hdd] at hI8
    rw [hdt] at hby hpx ⊢
    rw [hnd] at hby hpx ⊢
    rw [hj] at h10 hok hkl
    have HND := Lib.hid hnd
    have HKL := Lib.hid hkl
    have HJ : Hid (j ≤ 1000000) := Lib.hid (by have := pcN_le (n := n) hk1; omega)
    have HKV := Lib.hid hkv
    have HPP := Lib.hid hpp
    have HDD := Lib.hid hdd
    have HDT := Lib.hid hdt
    have HJJ := Lib.hid hj
    have HBS : Hid (w.heap.size ≤ w2.heap.size ∧ w1.heap.size < w2.heap.size ∧ w1.heap.size + 1 < w2.heap.size) := Lib.hid (by omega)
    have HBG : Hid (w.heap.size < w2.heap.size ∧ w.heap.size + 1 < w2.heap.size ∧ w.heap.size + 1 + 1 < w2.heap.size ∧ w.heap.size + 1 + 1 + 1 < w2.heap.size ∧ w.heap.size + 1 + 1 + 1 + 1 < w2.heap.size ∧ w.heap.size ≤ w.heap.size + 1 + 1 + 1) := Lib.hid (by omega)
    have HBN : Hid (w.heap.size ≠ w.heap.size + 1 + 1 + 1 ∧ w.heap.size + 1 ≠ w.heap.size + 1 + 1 + 1 ∧ w.heap.size + 1 + 1 ≠ w.heap.size + 1 + 1 + 1 ∧ w.heap.size + 1 + 1 + 1 + 1 ≠ w.heap.size + 1 + 1 + 1 ∧ w1.heap.size ≠ w.heap.size + 1 + 1 + 1 ∧ w1.heap.size + 1 ≠ w.heap.size + 1 + 1 + 1) := Lib.hid (by omega)
    have HCL : Hid (∀ W', Below w.heap.size w W' → Calls Try.prog 33 #[.slice Ai nd nd] W' (RetB W' dt)) := Lib.hid (fun W' hW' => by
      obtain ⟨Aj, h1, h2⟩ := HPL.out W' hW' x.1 x.2
      rw [HDT.out, HND.out] at h1 h2
      rw [hpx] at h1
      injection h1 with h1
      subst h1
      exact bytes_Clone _ nd nd dt W' h2 (by rw [← HND.out, ← HDT.out]; simp only [pcL, List.length_take]; omega))
    have HI := Lib.hid hI
    have hbs := hI.bs
    have H10' := Lib.hid h10
    have HOK := Lib.hid hok
    have HI7 := Lib.hid hI7
    have HI8 := Lib.hid hI8
    clear hI h10 hok hkl hkv hpp hdd hdt hnd hj hby hpx hI7 hI8 hps
    refine wpIn_block ?_
    refine wpIn_seq ?_
    refine wpIn_region_fixedE (cuV A1 Ai j c1 nd w.heap.size (w.heap.size + 1) (w.heap.size + 1 + 1) (w.heap.size + 1 + 1 + 1) s pp dd) (fun env D W' => CG w W w.heap.size w2.heap.size w1.heap.size (w1.heap.size + 1) w.heap.size (w.heap.size + 1) (w.heap.size + 1 + 1) (w.heap.size + 1 + 1 + 1) (w.heap.size + 1 + 1 + 1 + 1) s pp dd (.slice A1 j c1) j nd ks dt env (D 5) (D 7) (D 8) (D 9) W') ⟨none, 0, 0, none, 0⟩ (by kernel_rfl) (by kernel_rfl) (by kernel_rfl) (by kernel_rfl) ?h0 ?hstep ?hend
    case h0 => exact ⟨HI.out.be.drew, HI.out.bs, Nat.le_refl _, fun k o h _ => h, rfl, rfl, by show w1.heap.size < W.heap.size; omega, by show w1.heap.size + 1 < W.heap.size; omega, fun _ => HOK.out.ext ((Below.refl _ _).drew), fun h => (by cases h), fun h => (by cases h), fun h => (by cases h), fun _ => H10'.out.drew, fun h => (by cases h), HI.out.b5.drew, HI7.out.drew, HI8.out.drew, HI.out.b11.drew⟩
    case hstep =>
      intro k o ho env D ac wx fr hG hcl hDi hpre hun
      have o5 : ac.tmps[5]?.getD undef = .pointer (some ⟨w.heap.size, 0, none⟩) := fr.oldT 5 rfl
      have o7 : ac.tmps[7]?.getD undef = .pointer (some ⟨w.heap.size + 1, 0, none⟩) := fr.oldT 7 rfl
      have o8 : ac.tmps[8]?.getD undef = .pointer (some ⟨w.heap.size + 1 + 1, 0, none⟩) := fr.oldT 8 rfl
      have o10 : ac.tmps[10]?.getD undef = .pointer (some ⟨w.heap.size + 1 + 1 + 1, 0, none⟩) := fr.oldT 10 rfl
      have o12 : ac.tmps[12]?.getD undef = .slice Ai nd nd := fr.oldT 12 rfl
      have hkn : k < 10 := (List.getElem?_eq_some_iff.1 ho).1
      rcases (show k = 0 ∨ k = 1 ∨ k = 2 ∨ k = 3 ∨ k = 4 ∨ k = 5 ∨ k = 6 ∨ k = 7 ∨ k = 8 ∨ k = 9 by omega) with rfl | rfl | rfl | rfl | rfl | rfl | rfl | rfl | rfl | rfl
      all_goals (simp only [List.getElem?_cons_zero, List.getElem?_cons_succ, Option.some.injEq] at ho; subst ho)
      · refine ⟨true, rfl, fun _ => ?_, (fun h => by cases h)⟩
        have n9 : D 9 = false := by
          cases h0 : D 9 with
          | false => rfl
          | true => have h1 := hcl 9 _ rfl h0 ⟨0, .phase⟩ (by simp) rfl; rw [hDi] at h1; cases h1
        have q1 := (hG.b10 n9).cell 0 rfl
        have q2 := hG.b5.cell 0 rfl
        have q3 := hG.b7.cell 0 rfl
        have q4 := hG.b8.cell 0 rfl
        exact wp_value (w' := wx) (by simp [execOp, o10, cuV, go_sem, q1, q2, q3, q4]) ⟨env, fun _ _ _ => rfl, rfl, hG⟩
      · refine ⟨true, rfl, fun _ => ?_, (fun h => by cases h)⟩
        have n9 : D 9 = false := by
          cases h0 : D 9 with
          | false => rfl
          | true => have h1 := hcl 9 _ rfl h0 ⟨1, .phase⟩ (by simp) rfl; rw [hDi] at h1; cases h1
        have q1 := (hG.b10 n9).cell 0 rfl
        have q2 := hG.b5.cell 0 rfl
        have q3 := hG.b7.cell 0 rfl
        have q4 := hG.b8.cell 0 rfl
        exact wp_value (w' := wx) (by simp [execOp, o5, cuV, go_sem, q1, q2, q3, q4]) ⟨env, fun _ _ _ => rfl, rfl, hG⟩
      · refine ⟨true, rfl, fun _ => ?_, (fun h => by cases h)⟩
        have n9 : D 9 = false := by
          cases h0 : D 9 with
          | false => rfl
          | true => have h1 := hcl 9 _ rfl h0 ⟨2, .phase⟩ (by simp) rfl; rw [hDi] at h1; cases h1
        have q1 := (hG.b10 n9).cell 0 rfl
        have q2 := hG.b5.cell 0 rfl
        have q3 := hG.b7.cell 0 rfl
        have q4 := hG.b8.cell 0 rfl
        exact wp_value (w' := wx) (by simp [execOp, o7, cuV, go_sem, q1, q2, q3, q4]) ⟨env, fun _ _ _ => rfl, rfl, hG⟩
      · refine ⟨true, rfl, fun _ => ?_, (fun h => by cases h)⟩
        have n9 : D 9 = false := by
          cases h0 : D 9 with
          | false => rfl
          | true => have h1 := hcl 9 _ rfl h0 ⟨3, .phase⟩ (by simp) rfl; rw [hDi] at h1; cases h1
        have q1 := (hG.b10 n9).cell 0 rfl
        have q2 := hG.b5.cell 0 rfl
        have q3 := hG.b7.cell 0 rfl
        have q4 := hG.b8.cell 0 rfl
        exact wp_value (w' := wx) (by simp [execOp, o8, cuV, go_sem, q1, q2, q3, q4]) ⟨env, fun _ _ _ => rfl, rfl, hG⟩
      · refine ⟨true, rfl, fun _ => wp_value (w' := wx) ?_ ⟨env, fun _ _ _ => rfl, rfl, hG⟩, (fun h => by cases h)⟩
        simp [execOp, o12, cuV, go_sem]
      · have f4 := fr.atT 4 (hpre ⟨4, .data⟩ (by simp) rfl) rfl
        have e4 := fr.at_ 4 (hpre ⟨4, .data⟩ (by simp) rfl) rfl
        refine ⟨true, rfl, fun _ => ?_, (fun h => by cases h)⟩
        have n9 : D 9 = false := by
          cases h0 : D 9 with
          | false => rfl
          | true => have h1 := hcl 9 _ rfl h0 ⟨8, .data⟩ (by simp) rfl; have h2 := hcl 8 _ rfl h1 ⟨7, .data⟩ (by simp) rfl; have h3 := hcl 7 _ rfl h2 ⟨6, .data⟩ (by simp) rfl; have h4 := hcl 6 _ rfl h3 ⟨5, .data⟩ (by simp) rfl; rw [hDi] at h4; cases h4
        have n8 : D 8 = false := by
          cases h0 : D 8 with
          | false => rfl
          | true => have h1 := hcl 8 _ rfl h0 ⟨7, .data⟩ (by simp) rfl; have h2 := hcl 7 _ rfl h1 ⟨6, .data⟩ (by simp) rfl; have h3 := hcl 6 _ rfl h2 ⟨5, .data⟩ (by simp) rfl; rw [hDi] at h3; cases h3
        have n7 : D 7 = false := by
          cases h0 : D 7 with
          | false => rfl
          | true => have h1 := hcl 7 _ rfl h0 ⟨6, .data⟩ (by simp) rfl; have h2 := hcl 6 _ rfl h1 ⟨5, .data⟩ (by simp) rfl; rw [hDi] at h2; cases h2
        have n6 : D 6 = false := by
          cases h0 : D 6 with
          | false => rfl
          | true => have h1 := hcl 6 _ rfl h0 ⟨5, .data⟩ (by simp) rfl; rw [hDi] at h1; cases h1
        refine wp_called (f := 33) (args := #[.slice Ai nd nd]) ?_ (HCL.out wx hG.be) ?_
        · simp [execOp, resolve, invoke, f4, e4, cuV, go_sem]
        · rintro e w' ⟨Ad, nd', cd, rfl, hby, hb9⟩
          obtain rfl : nd' = nd := hby.len.symm.trans HND.out
          have hr0 := hG.r0 n8
          refine ⟨_, rfl, ⟨Ad, cd, env.gb, env.A3, env.c3⟩, fun i hil hi => cuV_env (fun e => by rw [e, hDi] at hi; cases hi) (fun e => by rw [e, n6] at hi; cases hi) (fun e => by rw [e, n7] at hi; cases hi) (fun e => by rw [e, n8] at hi; cases hi) hil, rfl, ?_⟩
          exact ⟨hG.be.trans (hb9.mono hG.be.size), Nat.le_trans hG.bs hb9.size, Nat.le_trans hG.sz hb9.size, fun k o hk ho => (hb9.block k (Array.getElem?_eq_some_iff.1 (hG.ko k o hk ho)).1).trans (hG.ko k o hk ho), (hb9.block _ hG.ls).trans hG.hks, (hb9.block _ hG.lk).trans hG.hkk, Nat.lt_of_lt_of_le hG.ls hb9.size, Nat.lt_of_lt_of_le hG.lk hb9.size, fun _ => hr0.ext hb9,
            fun _ _ => hby.mono (fun b _ hb => ⟨Nat.le_trans hG.bs hb, fun e => by have := (World.ownsRow.lt hr0.1 b e.symm).2; omega⟩), fun h => absurd (show D 7 = true from h) (by rw [n7]; exact Bool.false_ne_true), fun h => absurd (show D 8 = true from h) (by rw [n8]; exact Bool.false_ne_true),
            fun h => (hG.b10 h).ext hb9, fun h => absurd (show D 9 = true from h) (by rw [n9]; exact Bool.false_ne_true), hG.b5.ext hb9, hG.b7.ext hb9, hG.b8.ext hb9, hG.b11.ext hb9⟩
      · have f1 := fr.atT 1 (hpre ⟨1, .data⟩ (by simp) rfl) rfl
        have f2 := fr.atT 2 (hpre ⟨2, .data⟩ (by simp) rfl) rfl
        have f3 := fr.atT 3 (hpre ⟨3, .data⟩ (by simp) rfl) rfl
        have f5 := fr.atT 5 (hpre ⟨5, .data⟩ (by simp) rfl) rfl
        refine ⟨true, rfl, fun _ => wp_value (w' := wx) ?_ ⟨env, fun _ _ _ => rfl, rfl, hG⟩, (fun h => by cases h)⟩
        simp [execOp, f1, f2, f3, f5, cuV, go_sem]
      · have f6 := fr.atT 6 (hpre ⟨6, .data⟩ (by simp) rfl) rfl
        refine ⟨true, rfl, fun _ => ?_, (fun h => by cases h)⟩
        have n9 : D 9 = false := by
          cases h0 : D 9 with
          | false => rfl
          | true => have h1 := hcl 9 _ rfl h0 ⟨8, .data⟩ (by simp) rfl; have h2 := hcl 8 _ rfl h1 ⟨7, .data⟩ (by simp) rfl; rw [hDi] at h2; cases h2
        have n8 : D 8 = false := by
          cases h0 : D 8 with
          | false => rfl
          | true => have h1 := hcl 8 _ rfl h0 ⟨7, .data⟩ (by simp) rfl; rw [hDi] at h1; cases h1
        have d6 : D 6 = true := hpre ⟨6, .data⟩ (by simp) rfl
        have d5 : D 5 = true := hcl 6 _ rfl d6 ⟨5, .data⟩ (by simp) rfl
        have hr0 := hG.r0 n8
        have hz := hG.z d5 n8
        have hb9 := (Below.refl wx.heap.size wx).alloc (Nat.le_refl _) (.cells #[.int .i64 s, .int .i64 pp, .int .i64 dd, .slice env.Ad nd env.cd] 30)
        refine wp_value (v := .slice (some ⟨wx.heap.size, 0, none⟩) 1 1) (w' := wx.alloc (.cells #[.int .i64 s, .int .i64 pp, .int .i64 dd, .slice env.Ad nd env.cd] 30)) ?_ ⟨⟨env.Ad, env.cd, wx.heap.size, env.A3, env.c3⟩, fun i hil hi => cuV_env' rfl rfl (fun e => by rw [e, hDi] at hi; cases hi) (fun e => by rw [e, n8] at hi; cases hi) hil, rfl, ?_⟩
        · simp [execOp, f6, cuV, go_sem]
        · exact ⟨hG.be.trans (hb9.mono hG.be.size), Nat.le_trans hG.bs hb9.size, Nat.le_trans hG.sz hb9.size, fun k o hk ho => (hb9.block k (Array.getElem?_eq_some_iff.1 (hG.ko k o hk ho)).1).trans (hG.ko k o hk ho), (hb9.block _ hG.ls).trans hG.hks, (hb9.block _ hG.lk).trans hG.hkk, Nat.lt_of_lt_of_le hG.ls hb9.size, Nat.lt_of_lt_of_le hG.lk hb9.size, fun _ => hr0.ext hb9,
            fun _ _ => hz.ext hb9, fun _ _ => ⟨Bx.new _ _ _, fun e => Nat.lt_irrefl _ (World.ownsRow.lt hr0.1 wx.heap.size e.symm).2⟩, fun h => absurd (show D 8 = true from h) (by rw [n8]; exact Bool.false_ne_true),
            fun h => (hG.b10 h).ext hb9, fun h => absurd (show D 9 = true from h) (by rw [n9]; exact Bool.false_ne_true), hG.b5.ext hb9, hG.b7.ext hb9, hG.b8.ext hb9, hG.b11.ext hb9⟩
      · have f0 := fr.atT 0 (hpre ⟨0, .data⟩ (by simp) rfl) rfl
        have f7 := fr.atT 7 (hpre ⟨7, .data⟩ (by simp) rfl) rfl
        refine ⟨true, rfl, fun _ => ?_, (fun h => by cases h)⟩
        have n9 : D 9 = false := by
          cases h0 : D 9 with
          | false => rfl
          | true => have h1 := hcl 9 _ rfl h0 ⟨8, .data⟩ (by simp) rfl; rw [hDi] at h1; cases h1
        have d7 : D 7 = true := hpre ⟨7, .data⟩ (by simp) rfl
        have d6 : D 6 = true := hcl 7 _ rfl d7 ⟨6, .data⟩ (by simp) rfl
        have d5 : D 5 = true := hcl 6 _ rfl d6 ⟨5, .data⟩ (by simp) rfl
        have hr0 := hG.r0 hDi
        have hz := hG.z d5 hDi
        have hzb := hG.zb d7 hDi
        have hrw : Rw (fun _ => True) wx (some ⟨env.gb, 0, none⟩) 1 4 [.int .i64 s, .int .i64 pp, .int .i64 dd, .slice env.Ad nd env.cd] := ⟨rfl, fun _ => ⟨env.gb, 0, rfl, trivial, hzb.1.lt, fun i u hu => by rw [Nat.zero_add]; exact hzb.1.cell i (by simpa using hu)⟩⟩
        obtain ⟨v', w', hrun, ho', hg', ha'⟩ := run_appR (P := Try.prog) wx 26 26 30 (.agg #[.int .i64 0, .int .i64 0, .int .i64 0, .slice none 0 0]) 4 48 Try.underlying26 Try.infoP rfl (by decide) w2.heap.size (.slice A1 j c1) j (pkCells ks) (by have h := hr0.1; rw [HKL.out] at h; exact h) (some ⟨env.gb, 0, none⟩) 1 1 _ hrw (by simp [Value.oneCell']) (by have := HJ.out; omega) (by omega) hG.bs
        obtain ⟨A3, c3, rfl⟩ := own_slice ho'
        refine wp_value (v := .slice A3 (j + 1) c3) (w' := w') ?_ ?_
        · have e0 := fr.at_ 0 (hpre ⟨0, .data⟩ (by simp) rfl) rfl
          have e1 := fr.at_ 7 (hpre ⟨7, .data⟩ (by simp) rfl) rfl
          simp only [cuV] at e0 e1
          simp only [execOp, resolve, invoke, builtin, Sem.run_bind, Sem.run_pure, Result.andThen_ok, List.map_toArray, List.map_cons, List.map_nil, e0, e1, hrun]
        · refine ⟨⟨env.Ad, env.cd, env.gb, A3, c3⟩, fun i hil hi => cuV_env2 rfl rfl rfl (fun e => by rw [e, hDi] at hi; cases hi) hil, rfl, ?_⟩
          have ob : ∀ g, g < w2.heap.size → some g ≠ (Value.slice A1 j c1).ownBlock := fun g hg e => by have := (World.ownsRow.lt hr0.1 g e.symm).1; omega
          exact ⟨hG.be.grown hg' hG.be.size (fun i hi => by have := (World.ownsRow.lt hr0.1 i hi).1; have := HBS.out.1; omega), Nat.le_trans hG.bs hg'.size, Nat.le_trans hG.sz hg'.size, fun k o hk ho => (hg'.block k (Array.getElem?_eq_some_iff.1 (hG.ko k o hk ho)).1 (fun e => by
                have := hG.ko k o hk ho
                obtain ⟨cs, t, hcs⟩ := own_cells hr0.1 e.symm
                rw [hcs] at this
                injection this with this
                rw [← this] at ho
                cases ho)).trans (hG.ko k o hk ho),
            (hg'.block _ hG.ls (ob _ HBS.out.2.1)).trans hG.hks, (hg'.block _ hG.lk (ob _ HBS.out.2.2)).trans hG.hkk, Nat.lt_of_lt_of_le hG.ls hg'.size, Nat.lt_of_lt_of_le hG.lk hg'.size,
            fun h => (by cases h), fun _ h => (by cases h), fun _ h => (by cases h), fun _ => OwnK.app (ys := [⟨s, pp, dd, env.Ad, nd, env.cd, dt⟩]) hr0 (by rw [HKL.out]; simpa [pkCells, Pk.cells] using ho') hg' ha' (fun y hy => by rw [List.mem_singleton] at hy; rw [hy]; exact hz),
            fun h => (hG.b10 h).grown hg' (ob _ HBG.out.2.2.2.1), fun h => absurd (show D 9 = true from h) (by rw [n9]; exact Bool.false_ne_true), hG.b5.grown hg' (ob _ HBG.out.1), hG.b7.grown hg' (ob _ HBG.out.2.1), hG.b8.grown hg' (ob _ HBG.out.2.2.1), hG.b11.grown hg' (ob _ HBG.out.2.2.2.2.1)⟩
      · have f8 := fr.atT 8 (hpre ⟨8, .data⟩ (by simp) rfl) rfl
        refine ⟨true, rfl, fun _ => ?_, (fun h => by cases h)⟩
        have d8 : D 8 = true := hpre ⟨8, .data⟩ (by simp) rfl
        have h0 := hG.b10 hDi
        have hr1 := hG.r1 d8
        have q1 := h0.cell 0 rfl
        have q2 := h0.frozen 0
        have nb := HBN.out
        refine wp_skipF (w' := wx.setCell ⟨w.heap.size + 1 + 1 + 1, 0, none⟩ (.slice env.A3 (j + 1) env.c3)) ?_ ⟨env, fun _ _ _ => rfl, rfl, ?_⟩
        · simp [execOp, o10, f8, cuV, go_sem, q1, q2]
        · have far : ∀ k, k ≠ w.heap.size + 1 + 1 + 1 → (wx.setCell ⟨w.heap.size + 1 + 1 + 1, 0, none⟩ (.slice env.A3 (j + 1) env.c3)).heap[k]? = wx.heap[k]? := fun k hk => Below.heap_setCell wx ⟨w.heap.size + 1 + 1 + 1, 0, none⟩ _ k hk
          exact ⟨hG.be.setCell (p := ⟨w.heap.size + 1 + 1 + 1, 0, none⟩) HBG.out.2.2.2.2.2 _, by simp only [World.setCell, Array.size_modify]; exact hG.bs, by simp only [World.setCell, Array.size_modify]; exact hG.sz, fun k o hk ho => (KeepsOthers.setCell wx ⟨w.heap.size + 1 + 1 + 1, 0, none⟩ _).same k o (hG.ko k o hk ho) ho,
            (far _ nb.2.2.2.2.1).trans hG.hks, (far _ nb.2.2.2.2.2).trans hG.hkk, by simp only [World.setCell, Array.size_modify]; exact hG.ls, by simp only [World.setCell, Array.size_modify]; exact hG.lk,
            fun h => absurd (show D 8 = false from h) (by rw [d8]; exact (fun h => by cases h)), fun _ h => absurd (show D 8 = false from h) (by rw [d8]; exact (fun h => by cases h)), fun _ h => absurd (show D 8 = false from h) (by rw [d8]; exact (fun h => by cases h)),
            fun _ => hr1.setCell HBG.out.2.2.2.1 (by have := HBG.out.2.2.2.1; dsimp only; omega) _, fun h => (by cases h), fun _ => h0.set_ 0 _, hG.b5.far nb.1 _, hG.b7.far nb.2.1 _, hG.b8.far nb.2.2.1 _, hG.b11.far nb.2.2.2.1 _⟩
    case hend =>
      intro env D w7 hG hall
      have hr1 := hG.r1 (hall 8 (by decide))
      have hx10 := hG.b10' (hall 9 (by decide))
      simp only [putsU, Act.put, List.setIfInBounds_toArray, List.set_cons_succ, List.set_cons_zero, Nat.zero_add, Nat.reduceAdd, cuV]
      have q7 := hG.b7.cell 0 rfl
      have f7 := hG.b7.frozen 0
      have q8 := (hG.b8.far (a := ⟨w.heap.size + 1, 0, none⟩) (by dsimp only; omega) (.int .i64 (-1))).cell 0 rfl
      have f8 := (hG.b8.far (a := ⟨w.heap.size + 1, 0, none⟩) (by dsimp only; omega) (.int .i64 (-1))).frozen 0
      have HG := Lib.hid hG
      have HR := Lib.hid hr1
      have HX := Lib.hid hx10
      clear hG hall hr1 hx10
      gi_wp2
      have hG := HG.out
      have hZ : Below w.heap.size w ((w7.setCell ⟨w.heap.size + 1, 0, none⟩ (.int .i64 (-1))).setCell ⟨w.heap.size + 1 + 1, 0, none⟩ (.int .i64 (-1))) := (hG.be.setCell (p := ⟨w.heap.size + 1, 0, none⟩) (by dsimp only; omega) _).setCell (p := ⟨w.heap.size + 1 + 1, 0, none⟩) (by dsimp only; omega) _
      have far : ∀ k, k ≠ w.heap.size + 1 → k ≠ w.heap.size + 1 + 1 → ((w7.setCell ⟨w.heap.size + 1, 0, none⟩ (.int .i64 (-1))).setCell ⟨w.heap.size + 1 + 1, 0, none⟩ (.int .i64 (-1))).heap[k]? = w7.heap[k]? := fun k h1 h2 => (Below.heap_setCell _ ⟨w.heap.size + 1 + 1, 0, none⟩ _ k h2).trans (Below.heap_setCell w7 ⟨w.heap.size + 1, 0, none⟩ _ k h1)
      have hsz : ((w7.setCell ⟨w.heap.size + 1, 0, none⟩ (.int .i64 (-1))).setCell ⟨w.heap.size + 1 + 1, 0, none⟩ (.int .i64 (-1))).heap.size = w7.heap.size := by simp [World.setCell]
      have hbe := HI.out.be
      refine ⟨⟨by rw [hsz]; exact hG.sz, fun k o h hc => (KeepsOthers.setCell _ _ _).same _ _ ((KeepsOthers.setCell _ _ _).same _ _ (hG.ko k o h hc) hc) hc⟩,
        ⟨⟨hZ.os.trans hbe.os.symm, hZ.tape.trans hbe.tape.symm, hZ.output.trans hbe.output.symm, by rw [hsz]; exact hG.sz, fun k hk => (hZ.block k hk).trans (hbe.block k hk).symm⟩, (far _ (by omega) (by omega)).trans hG.hks, (far _ (by omega) (by omega)).trans hG.hkk⟩, ?_⟩
      show CutI w w2.heap.size s pts dts l k (valsOf (pre ++ [x])) _
      rw [valsOf_snoc]
      refine ⟨(hG.b5.far (a := ⟨w.heap.size + 1, 0, none⟩) (by dsimp only; omega) _).far (a := ⟨w.heap.size + 1 + 1, 0, none⟩) (by dsimp only; omega) _, ?_, ?_, (hG.b11.far (a := ⟨w.heap.size + 1, 0, none⟩) (by dsimp only; omega) _).far (a := ⟨w.heap.size + 1 + 1, 0, none⟩) (by dsimp only; omega) _, ⟨env.A3, env.c3, ks ++ [⟨s, pp, dd, env.Ad, nd, env.cd, dt⟩], ?_, ?_, ?_, ?_⟩, hZ, by rw [hsz]; exact hG.bs⟩
      · rw [if_neg (by simp)]
        exact (hG.b7.set_ 0 (.int .i64 (-1))).far (a := ⟨w.heap.size + 1 + 1, 0, none⟩) (by dsimp only; omega) _
      · rw [if_neg (by simp)]
        exact (hG.b8.far (a := ⟨w.heap.size + 1, 0, none⟩) (by dsimp only; omega) (.int .i64 (-1))).set_ 0 (.int .i64 (-1))
      · rw [List.length_append, HJJ.out]
        exact (HX.out.far (a := ⟨w.heap.size + 1, 0, none⟩) (by dsimp only; omega) _).far (a := ⟨w.heap.size + 1 + 1, 0, none⟩) (by dsimp only; omega) _
      · rw [List.length_append, HJJ.out]
        exact (HR.out.setCell (a := ⟨w.heap.size + 1, 0, none⟩) (by dsimp only; omega) (by dsimp only; omega) _).setCell (a := ⟨w.heap.size + 1 + 1, 0, none⟩) (by dsimp only; omega) (by dsimp only; omega) _
      · simp [HKL.out, HJJ.out]
      · rw [List.map_append, HKV.out, cutQ_snoc, HPP.out, HDD.out, HDT.out]
        rfl
  case done =>
    intro D xs W hD hxs hI hK
    have hvl : valsOf xs = List.range (pcN n k) := by rw [show xs = uptoF (pcN n k) (pcN n k) (Nat.le_refl _) from hxs]; exact uptoF_val _ _ _
    obtain ⟨A1, c1, ks, h10, hok, hkl, hkv⟩ := hI.row
    obtain ⟨j, hj⟩ : ∃ q, (valsOf xs).length = q := ⟨_, rfl⟩
    rw [hj] at h10 hok hkl
    rw [hvl] at hkv
    have HKV := Lib.hid hkv
    have HKL := Lib.hid hkl
    have HOK := Lib.hid hok
    have HI := Lib.hid hI
    have H10' := Lib.hid h10
    have HK := Lib.hid hK
    have HD := Lib.hid hD
    have q0 := h10.cell 0 rfl
    have q1 := h10.frozen 0
    have q2 := h10.lt
    have r0 := hI.b11.cell 0 rfl
    have r1 := hI.b11.frozen 0
    have r2 := hI.b11.lt
    clear hvl hj hkl hkv hok hI h10 hK hxs hD
    go_wp2_with fail
    have hKZ : ((W.setCell ⟨w.heap.size + 1 + 1 + 1, 0, none⟩ (.slice A1 j c1)).setCell ⟨w.heap.size + 1 + 1 + 1 + 1, 0, none⟩ (.int .i64 0)).heap[D]? = some (.deferred (some [])) := (KeepsOthers.setCell _ _ _).same _ _ ((KeepsOthers.setCell _ _ _).same _ _ HK.out rfl) rfl
    have hgr := grownBy_putObj' ((W.setCell ⟨w.heap.size + 1 + 1 + 1, 0, none⟩ (.slice A1 j c1)).setCell ⟨w.heap.size + 1 + 1 + 1 + 1, 0, none⟩ (.int .i64 0)) D (.deferred none)
    have hrr : ∀ r, some D = some r → 0 ≤ r ∧ ∃ o : Obj, ((W.setCell ⟨w.heap.size + 1 + 1 + 1, 0, none⟩ (.slice A1 j c1)).setCell ⟨w.heap.size + 1 + 1 + 1 + 1, 0, none⟩ (.int .i64 0)).heap[r]? = some o ∧ o.isCells = false := fun r e => by
      injection e with e
      subst e
      exact ⟨Nat.zero_le _, _, hKZ, rfl⟩
    have hZ : Below w.heap.size w ((W.setCell ⟨w.heap.size + 1 + 1 + 1, 0, none⟩ (.slice A1 j c1)).setCell ⟨w.heap.size + 1 + 1 + 1 + 1, 0, none⟩ (.int .i64 0)) := (HI.out.be.setCell (p := ⟨w.heap.size + 1 + 1 + 1, 0, none⟩) (by dsimp only; omega) _).setCell (p := ⟨w.heap.size + 1 + 1 + 1 + 1, 0, none⟩) (by dsimp only; omega) _
    have hZp := hZ.grown hgr hZ.size (fun k e => by injection e with e; have := HD.out; omega)
    have x10 := (((H10'.out.set_ 0 (.slice A1 j c1)).far (a := ⟨w.heap.size + 1 + 1 + 1 + 1, 0, none⟩) (by dsimp only; omega) (.int .i64 0)).turn hgr hrr).cell 0 rfl
    have x11 := ((((HI.out.b11.far (a := ⟨w.heap.size + 1 + 1 + 1, 0, none⟩) (by dsimp only; omega) (.slice A1 j c1)).set_ 0 (.int .i64 0))).turn hgr hrr).cell 0 rfl
    have ok2 := ((HOK.out.setCell (a := ⟨w.heap.size + 1 + 1 + 1, 0, none⟩) (by dsimp only; omega) (by dsimp only; omega) (.slice A1 j c1)).setCell (a := ⟨w.heap.size + 1 + 1 + 1 + 1, 0, none⟩) (by dsimp only; omega) (by dsimp only; omega) (.int .i64 0)).turn hgr hrr
    refine ⟨by simp, .inl ⟨_, _, rfl, run_takeDeferred hKZ, ?_⟩⟩
    refine ⟨by simp, .inr ⟨fun h => by simp [Fence.wide] at h, _, _, 30, #[.pointer (some ⟨w.heap.size + 1 + 1 + 1, 0, none⟩), .pointer (some ⟨w.heap.size + 1 + 1 + 1 + 1, 0, none⟩)], rfl, by simp [go_sem], fun _ _ => trivial, ?_⟩⟩
    refine (cut_idleIn 4 _ _ _).mono ?_
    rintro e u' w'' ⟨rfl, rfl, rfl⟩
    obtain ⟨A2, c2, hv2, hpk⟩ := OwnK.pks (p := (w.heap.size ≤ ·)) ok2 (fun _ h => by omega)
    injection hv2 with e1 e2 e3
    subst e1 e3
    refine ⟨.tuple #[.slice A1 j c1, .int .i64 0], by simp [results, Try.results17, go_sem, x10, x11], A1, j, c1, ks, rfl, ?_, by rw [HKV.out]; unfold cutL; rw [HLN.out], hZp⟩
    rw [HKL.out] at hpk
    exact hpk.monoK (fun _ h => h) (fun _ h => by omega)
end Go.Proofs.Ytojfaonlgkicfaa
