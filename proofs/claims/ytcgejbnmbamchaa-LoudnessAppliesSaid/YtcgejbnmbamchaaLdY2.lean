/- loudness.Apply of proper sound with a gain in range. -/
import Derived.Test.YtcgejbnmbamchaaLdY
import Derived.Deep.RegionWith
namespace Go.Proofs.Ytcgejbnmbamchaa
open Go.RowKit
attribute [local go_sem ↓] Go.wp_at_zero Go.wp_at_succ

theorem ld_limit (x : Int) (w : World) :
    Calls Try.prog 50 #[.int .i64 x, .int .i64 (-32768), .int .i64 32767] w fun e w' => e = .returned (.int .i64 (max (-32768) (min 32767 x))) ∧ w' = w := by
  have e1 := fun w => run_min_mm (P := Try.prog) (w := w)
  have e2 := fun w => run_max_mm (P := Try.prog) (w := w)
  go_enter Try.func50, Try.ntmps50
  go_wp2_with fail
  go_ret
  exact ⟨rfl, rfl⟩
theorem app_idle (p q : Addr) (w : World) :
    CallsD Try.prog 49 #[.pointer (some p), .pointer (some q)] .returning w fun e u' w' => e = .returned (.tuple #[]) ∧ u' = .returning ∧ w' = w := by
  refine callsD_of_wpS Try.func49 rfl fun c₀ cs hu => ?_
  apply wpS_seq
  apply wpS_region
  simp [wpOpsS, go_sem, recoverD, hu, Try.ntmps49, Exit.thenS]
  refine wpS_cond (t := false) (by simp [Act.eval, Array.replicate]) ?_
  simp only [Bool.false_eq_true, if_false]
  refine wpS_of_wp (wp_skip ?_)
  cases c₀
  simp_all [bodyPostS, results, Try.results49]
theorem app_leave {w : World} {v : Value} {er : Int} (hv : ∃ A n c, v = .slice A n c) (a : Act) (W : World) (h2 : a.tmps[4]? = some (.pointer (some ⟨w.heap.size, 0, none⟩))) (h3 : a.tmps[5]? = some (.pointer (some ⟨w.heap.size + 1, 0, none⟩)))
    (hd : a.defers = [{ target := Target.fn (Fn.func 49) #[.pointer (some ⟨w.heap.size, 0, none⟩), .pointer (some ⟨w.heap.size + 1, 0, none⟩)], args := #[] }])
    (X1 : Bx W w.heap.size 22 #[v]) (X2 : Bx W (w.heap.size + 1) 27 #[.int .i64 er]) {R : Ending → World → Prop} (hR : R (.returned (.tuple #[v, .int .i64 er])) W) :
    bodyPostD Try.prog Try.f27 R .ret a W := by
  obtain ⟨A, n, c, rfl⟩ := hv
  have u0 : W.cell? ⟨w.heap.size, 0, none⟩ = some (.slice A n c) := X1.cell 0 rfl
  have u1 : W.cell? ⟨w.heap.size + 1, 0, none⟩ = some (.int .i64 er) := X2.cell 0 rfl
  obtain ⟨tmps, defers⟩ := a
  dsimp only at h2 h3 hd
  subst hd
  refine leaves_cons (f := 49) (args := #[.pointer (some ⟨w.heap.size, 0, none⟩), .pointer (some ⟨w.heap.size + 1, 0, none⟩)]) (by simp) (by simp [go_sem]) ?_
  refine (app_idle _ _ _).mono ?_
  rintro e u' w'' ⟨rfl, rfl, rfl⟩
  exact ⟨.tuple #[.slice A n c, .int .i64 er], by simp [results, Try.results27, go_sem, h2, h3, u0, u1], hR⟩
/-- What Apply hands back. -/
def RetAp (w : World) (X : Snd) (er : Int) (e : Ending) (w' : World) : Prop :=
  ∃ B m k ys, e = .returned (.tuple #[.slice B m k, .int .i64 er]) ∧ sndOf ys = X ∧ Pcm (w.heap.size ≤ ·) w' B m ys ∧ m ≤ k ∧ m ≤ 4 ∧ Below w.heap.size w w'

/-- What the operations of one sample yield. -/
def apVal (go n ci g1 N i : Nat) (y g Pm Q z : Int) : Nat → Value
  | 0 => .slice (some ⟨go, 0, none⟩) n n
  | 1 => .int .i64 (ci : Int)
  | 2 => .pointer (some ⟨go, ci, none⟩)
  | 3 => .slice (some ⟨g1, 0, none⟩) N N
  | 4 => .int .i64 (i : Int)
  | 5 => .int .i16 y
  | 6 => .int .i64 y
  | 7 => .int .i64 g
  | 8 => .int .i64 Pm
  | 9 => .int .i64 (Pm + 2048)
  | 10 => .int .i64 Q
  | 11 => .int .i64 z
  | 12 => .int .i16 z
  | 13 => .pointer (some ⟨g1, i, none⟩)
  | _ => undef
def apW (wr : World) (g1 i : Nat) (z : Int) (b : Bool) : World := if b = true then wr.drew.setCell ⟨g1, i, none⟩ (.int .i16 z) else wr.drew
theorem gain_mul {y : Int} {g : Nat} (h : -32768 ≤ y ∧ y ≤ 32767) (hg : g ≤ 65536) : -2147483648 ≤ y * (g : Int) ∧ y * (g : Int) ≤ 2147483648 := by
  have h1 : (y * (g : Int)).natAbs = y.natAbs * g := by rw [Int.natAbs_mul, Int.natAbs_natCast]
  have h2 : y.natAbs * g ≤ 32768 * 65536 := Nat.mul_le_mul (by omega) hg
  omega
def ApRel (w w2 : World) (go n g : Nat) (X : Snd) (v : Value) (wr : World) : Prop :=
  ∃ (ci : Nat) (rows : List Value), v = .int .i64 (ci : Int) ∧ ci ≤ n ∧ ApInv w wr go wr.heap.size n rows (applS g (X.take ci)) ∧ Below go w2 wr
def ApRel2 (w w2 : World) (go n g ci g1 N : Nat) (X : Snd) (l : List Int) (rows : List Value) (v : Value) (wr : World) : Prop :=
  ∃ (i : Nat), v = .int .i64 (i : Int) ∧ i ≤ N ∧ ApInv w wr go g1 n rows (applS g (X.take ci)) ∧ B16 wr g1 (applC g (l.take i) ++ List.replicate (N - i) 0) ∧ Below go w2 wr
set_option maxRecDepth 100000 in
set_option maxHeartbeats 4000000 in
theorem ld_Apply_yes {p : Nat → Prop} (A : Option Addr) (n c g : Nat) (xs : List Ch) (w : World) (h : Pcm p w A n xs) (hp : properB (sndOf xs) = true) (hg : g ≤ 65536) :
    Calls Try.prog 27 #[.slice A n c, .int .i64 (g : Int)] w (RetAp w (applS g (sndOf xs)) 0) := by
  have hmf : ∀ (fn : Fn) (first cap : Array Value) (w : World), (Instr.makeFunc fn first cap).run Try.prog w = .ok (.func fn first cap) w := fun _ _ _ _ => rfl
  have B0 : Below w.heap.size w ((w.alloc (.cells #[.slice none 0 0] 22)).alloc (.cells #[.int .i64 0] 27)) := ((Below.refl _ w).alloc (Nat.le_refl _) _).alloc (by simp) _
  have X1 : Bx ((w.alloc (.cells #[.slice none 0 0] 22)).alloc (.cells #[.int .i64 0] 27)) w.heap.size 22 #[.slice none 0 0] := (Bx.new _ _ _).alloc _
  have X2 : Bx ((w.alloc (.cells #[.slice none 0 0] 22)).alloc (.cells #[.int .i64 0] 27)) (w.heap.size + 1) 27 #[.int .i64 0] := Bx.new' _ _ _ _ (by simp)
  have hps := proper_spec hp
  have hsl := h.slen
  obtain ⟨X, hX⟩ : ∃ X, X = sndOf xs := ⟨_, rfl⟩
  rw [← hX] at hp hps hsl ⊢
  obtain ⟨hn1, hn4, hwd, heq⟩ := hps
  rw [hsl] at hn1 hn4
  have HP := Lib.hid (h.mono (q := (· < w.heap.size)) (fun b hb _ => hb))
  have HPR := Lib.hid hp
  have HX := Lib.hid hX
  have HEQ := Lib.hid heq
  have HSL := Lib.hid hsl
  obtain ⟨N, hN⟩ : ∃ N, N = wide X := ⟨_, rfl⟩
  rw [← hN] at hwd
  have HN := Lib.hid hN
  have hmk := run_mkCh n (by omega)
  have hmk16 := run_mk16 (N : Int) N rfl (by omega)
  have k1 : decide ((g : Int) < 0) = false := decide_eq_false (by omega)
  have k2 : decide (65536 < (g : Int)) = false := decide_eq_false (by omega)
  clear h hX hp heq hN hsl
  go_enter_defers Try.func27, Try.ntmps27
  go_upto_region 2 with fail
  generalize (w.alloc (.cells #[.slice none 0 0] 22)).alloc (.cells #[.int .i64 0] 27) = W at *
  go_wp2_with fail
  refine (ld_proper A n c xs _ (HP.out.ext (B0.mono (Nat.le_refl _)))).mono ?_
  rintro e w1 ⟨rfl, m, rfl⟩
  rw [← HX.out, HPR.out]
  have B1 := bdrewN B0 m
  have X1 := X1.drewN m
  have X2 := X2.drewN m
  generalize W.drewN m = W at *
  have l2 := X2.lt
  go_upto_region 5 with fail
  obtain ⟨go, hgo⟩ : ∃ go, go = W.heap.size := ⟨_, rfl⟩
  have hgo1 : w.heap.size + 1 < go := by omega
  have I0 : ApInv w (W.alloc (.cells (Array.replicate n (.slice none 0 0)) 44)) go (W.alloc (.cells (Array.replicate n (.slice none 0 0)) 44)).heap.size n (List.replicate n (.slice none 0 0)) (applS g (X.take 0)) :=
    ⟨by rw [List.toArray_replicate]; exact Bx.new' _ _ _ _ hgo, by simp, fun d l hl => by simp [applS] at hl, B1.alloc B1.size _, by omega⟩
  have X1 := X1.alloc (.cells (Array.replicate n (.slice none 0 0)) 44)
  have X2 := X2.alloc (.cells (Array.replicate n (.slice none 0 0)) 44)
  rw [← hgo]
  generalize W.alloc (.cells (Array.replicate n (.slice none 0 0)) 44) = w2 at *
  have HI0 := Lib.hid I0
  clear I0 hmk hgo B0 B1 l2
  go_wp2_with fail
  go_loopw [28] (fun v wr => ApRel w w2 go n g X v wr) (fun v _ => n - (intOf v).toNat)
  case atStart => exact ⟨0, _, rfl, Nat.zero_le _, HI0.out, Below.refl _ _⟩
  case round =>
    obtain ⟨ci, rows, rfl, hci, hI, hbg⟩ := hrel
    have HI := Lib.hid hI
    clear hI
    by_cases hcn : ci < n
    · obtain ⟨b, off, x, rfl, _, hb, hx, hc, hi, hs, hxc, hxl⟩ := (HP.out.below HI.out.bel (fun _ _ h => h)).at_ hcn
      have hxl' : X[ci]? = some x.l := by rw [HX.out]; exact hxl
      have hxn : x.n = N := by
        have := HEQ.out x.l (List.mem_of_getElem? hxl')
        rw [← HN.out, hi.len] at this
        exact this
      have hxll := hi.len
      rw [hxn] at hc hxc hi hxll
      have hcnz : (ci : Int) < (n : Int) := by omega
      have hcnd : decide ((ci : Int) < (n : Int)) = true := decide_eq_true hcnz
      obtain ⟨vo, hvo⟩ : ∃ vo, rows[ci]? = some vo := ⟨_, List.getElem?_eq_getElem (by rw [HI.out.len]; exact hcn)⟩
      have hout : (applS g (X.take ci)).length = ci := by simp [applS, HSL.out]; omega
      have HOUT := Lib.hid hout
      have HLL := Lib.hid hxll
      have HIX := Lib.hid hi
      have HPX : Hid (∀ W', Below w.heap.size w W' → Its .i16 (· < w.heap.size) W' x.A N x.l) := Lib.hid (fun W' hb => by
        obtain ⟨_, _, x', _, _, _, hx', _, hi', _, _, _⟩ := (HP.out.below hb (fun _ _ h => h)).at_ hcn
        rw [hx] at hx'
        injection hx' with hx'
        subst hx'
        rw [hxn] at hi'
        exact hi')
      have HSX := Lib.hid hs
      have HXL := Lib.hid hxl'
      have cgo := HI.out.box.cell ci (show rows.toArray[ci]? = some vo by simpa using hvo)
      have fgo := HI.out.box.frozen ci
      have lgo := HI.out.box.lt
      obtain ⟨g1, hg1⟩ : ∃ g1, g1 = wr.heap.size := ⟨_, rfl⟩
      clear hx hi hs hxl hxl' hxll hout hvo
      go_upto_region 9 with fail
      obtain ⟨v1, hv1⟩ : ∃ v1, v1 = Value.slice (some ⟨wr.heap.size, 0, none⟩) N N := ⟨_, rfl⟩
      have I1 := (HI.out.lay HOUT.out v1).ext ((Below.refl _ (wr.setCell ⟨go, ci, none⟩ v1)).alloc (Nat.le_refl _) (zero16 N))
      have Z1 : B16 ((wr.setCell ⟨go, ci, none⟩ v1).alloc (zero16 N)) wr.heap.size (List.replicate N 0) := by
        have := B16.made (wr.setCell ⟨go, ci, none⟩ v1) N
        rwa [show (wr.setCell ⟨go, ci, none⟩ v1).heap.size = wr.heap.size by simp [World.setCell]] at this
      have hr1 : (rows.set ci v1)[ci]? = some v1 := List.getElem?_set_self (by rw [HI.out.len]; exact hcn)
      have hbg1 : Below go w2 ((wr.setCell ⟨go, ci, none⟩ v1).alloc (zero16 N)) := (bset hbg ⟨go, ci, none⟩ (Nat.le_refl _) v1).alloc (by simp [World.setCell]; omega) (zero16 N)
      rw [← hv1]
      rw [← hg1] at hv1 Z1 I1
      have hgg : go < g1 := by omega
      generalize (wr.setCell ⟨go, ci, none⟩ v1).alloc (zero16 N) = w5 at *
      generalize rows.set ci v1 = rows1 at *
      have HI1 := Lib.hid I1
      have HZ1 := Lib.hid Z1
      have HV1 := Lib.hid (And.intro hr1 hv1)
      subst hv1
      clear I1 Z1 hr1 cgo fgo lgo HI hg1
      go_wp2_with fail
      go_loopw [41] (fun v wr => ApRel2 w w2 go n g ci g1 N X x.l rows1 v wr) (fun v _ => N - (intOf v).toNat)
      case atStart => exact ⟨0, rfl, Nat.zero_le _, HI1.out, by simpa [applC] using HZ1.out, hbg1⟩
      case round =>
        obtain ⟨i, rfl, hi, hI6, hZ6, hb6⟩ := hrel
        have HI6 := Lib.hid hI6
        have HZ6 := Lib.hid hZ6
        clear hI6 hZ6 HI1 HZ1 hbg1
        by_cases hiN : i < N
        · obtain ⟨b1, off1, y, hA1, _, hb1, hy, hcy0⟩ := HIX.out.at_ hiN
          have hcy : wr.cell? ⟨b1, off1 + i, none⟩ = some (.int .i16 y) := by
            obtain ⟨_, _, y', hA2, hp2, _, hy2, hc2⟩ := (HPX.out wr HI6.out.bel).at_ hiN
            rw [hA1] at hA2
            injection hA2 with hA2
            injection hA2 with e1 e2
            subst e1 e2
            rw [hy] at hy2
            injection hy2 with hy2
            rw [hy2]
            exact hc2
          have hyb := HSX.out _ (List.mem_of_getElem? hy)
          obtain ⟨Pm, hPm⟩ : ∃ Pm, Pm = y * (g : Int) := ⟨_, rfl⟩
          have hPb : -2147483648 ≤ Pm ∧ Pm ≤ 2147483648 := by rw [hPm]; exact gain_mul hyb hg
          obtain ⟨Q, hQ⟩ : ∃ Q, Q = (Pm + 2048) / 4096 := ⟨_, rfl⟩
          have hz : applV g y = max (-32768) (min 32767 Q) := by rw [applV, hQ, hPm]
          have hzb := applV_bound g y
          obtain ⟨z, hzz⟩ : ∃ z, z = applV g y := ⟨_, rfl⟩
          rw [← hzz] at hz hzb
          have HLIM := Lib.hid (fun w => ld_limit Q w)
          have m1 : y * (g : Int) = Pm := hPm.symm
          have m2 : (Pm + 2048) / 4096 = Q := hQ.symm
          have ez : IntKind.i16.wrap z = z := by simp [IntKind.wrap, IntKind.signed, IntKind.bits]; omega
          have cgo := HI6.out.box.cell ci (show rows1.toArray[ci]? = some (.slice (some ⟨g1, 0, none⟩) N N) by simpa using HV1.out.1)
          have hiz : (i : Int) < (N : Int) := by omega
          have hid : decide ((i : Int) < (N : Int)) = true := decide_eq_true hiz
          have cz : wr.cell? ⟨g1, i, none⟩ = some (.int .i16 0) := by
            rw [HZ6.out.cell, List.getElem?_append_right (by rw [applC_len, List.length_take]; omega), applC_len, List.length_take, HLL.out, List.getElem?_replicate, if_pos (by omega)]
            rfl
          have fz := HZ6.out.frozen i
          have lz := HZ6.out.lt
          have HY := Lib.hid (And.intro hy (And.intro hzz hz))
          rw [hA1] at *
          clear hcy0 hy hPm hQ hzz hz
          go_upto_region 12 with fail
          have hI6b := (HI6.out.ext (Below.refl wr.heap.size wr).drew)
          have cgo1 : ∀ b, (apW wr g1 i z b).cell? ⟨go, ci, none⟩ = some (.slice (some ⟨g1, 0, none⟩) N N) := by
            intro b
            unfold apW
            split
            · exact (hI6b.above (g := g1) (i := i) (Nat.le_refl _) hgg (.int .i16 z)).box.cell ci (show rows1.toArray[ci]? = some (.slice (some ⟨g1, 0, none⟩) N N) by simpa using HV1.out.1)
            · exact hI6b.box.cell ci (show rows1.toArray[ci]? = some (.slice (some ⟨g1, 0, none⟩) N N) by simpa using HV1.out.1)
          have czd : wr.drew.cell? ⟨g1, i, none⟩ = some (.int .i16 0) := cz
          have fzd : wr.drew.frozen? ⟨g1, i, none⟩ = false := fz
          have CG := Lib.hid cgo1
          clear cgo1 hI6b
          refine wp_region_fixed (apVal go n ci g1 N i y g Pm Q z) (fun D w' => w' = apW wr g1 i z (D 14)) (by kernel_rfl) (by kernel_rfl) (by kernel_rfl) (by kernel_rfl) ?h0 ?hstep ?hend
          case h0 => rfl
          case hstep =>
            intro k o ho D a wx fr hG hcl hDi hpre
            subst hG
            have o1 : a.tmps[1]?.getD undef = .int .i64 (g : Int) := fr.oldT 1 rfl
            have o6 : a.tmps[6]?.getD undef = .slice (some ⟨go, 0, none⟩) n n := fr.oldT 6 rfl
            have o7 : a.tmps[7]?.getD undef = .int .i64 (ci : Int) := fr.oldT 7 rfl
            have o9 : a.tmps[9]?.getD undef = .int .i64 (i : Int) := fr.oldT 9 rfl
            have o10 : a.tmps[10]?.getD undef = .int .i16 y := fr.oldT 10 rfl
            have hk15 : k < 15 := (List.getElem?_eq_some_iff.1 ho).1
            rcases (show k = 0 ∨ k = 1 ∨ k = 2 ∨ k = 3 ∨ k = 4 ∨ k = 5 ∨ k = 6 ∨ k = 7 ∨ k = 8 ∨ k = 9 ∨ k = 10 ∨ k = 11 ∨ k = 12 ∨ k = 13 ∨ k = 14 by omega) with rfl | rfl | rfl | rfl | rfl | rfl | rfl | rfl | rfl | rfl | rfl | rfl | rfl | rfl | rfl
            all_goals (simp only [List.getElem?_cons_zero, List.getElem?_cons_succ, Option.some.injEq] at ho; subst ho)
            · refine wp_value (w' := apW wr g1 i z (D 14)) ?_ ⟨rfl, rfl⟩
              simp [execOp, o6, apVal, go_sem]
            · refine wp_value (w' := apW wr g1 i z (D 14)) ?_ ⟨rfl, rfl⟩
              simp [execOp, o7, apVal, go_sem]
            · have f0 := fr.atT 0 (hpre ⟨0, .data⟩ (by simp) rfl) rfl
              have f1 := fr.atT 1 (hpre ⟨1, .data⟩ (by simp) rfl) rfl
              refine wp_value (w' := apW wr g1 i z (D 14)) ?_ ⟨rfl, rfl⟩
              simp [execOp, f0, f1, apVal, go_sem, hcnz]
            · have f2 := fr.atT 2 (hpre ⟨2, .data⟩ (by simp) rfl) rfl
              have hc := CG.out (D 14)
              refine wp_value (w' := apW wr g1 i z (D 14)) ?_ ⟨rfl, rfl⟩
              simp [execOp, f2, apVal, go_sem, hc]
            · refine wp_value (w' := apW wr g1 i z (D 14)) ?_ ⟨rfl, rfl⟩
              simp [execOp, o9, apVal, go_sem]
            · refine wp_value (w' := apW wr g1 i z (D 14)) ?_ ⟨rfl, rfl⟩
              simp [execOp, o10, apVal, go_sem]
            · have f0 := fr.atT 5 (hpre ⟨5, .data⟩ (by simp) rfl) rfl
              have e1 : IntKind.i64.wrap y = y := IntWalk.i64_in _ (by omega)
              refine wp_value (w' := apW wr g1 i z (D 14)) ?_ ⟨rfl, rfl⟩
              simp [execOp, f0, apVal, go_sem, e1]
            · refine wp_value (w' := apW wr g1 i z (D 14)) ?_ ⟨rfl, rfl⟩
              simp [execOp, o1, apVal, go_sem]
            · have f0 := fr.atT 6 (hpre ⟨6, .data⟩ (by simp) rfl) rfl
              have f1 := fr.atT 7 (hpre ⟨7, .data⟩ (by simp) rfl) rfl
              have e1 : IntKind.i64.wrap Pm = Pm := IntWalk.i64_in _ (by omega)
              refine wp_value (w' := apW wr g1 i z (D 14)) ?_ ⟨rfl, rfl⟩
              simp [execOp, f0, f1, apVal, go_sem, m1, e1]
            · have f0 := fr.atT 8 (hpre ⟨8, .data⟩ (by simp) rfl) rfl
              have e1 : IntKind.i64.wrap (Pm + 2048) = Pm + 2048 := IntWalk.i64_in _ (by omega)
              refine wp_value (w' := apW wr g1 i z (D 14)) ?_ ⟨rfl, rfl⟩
              simp [execOp, f0, apVal, go_sem, e1]
            · have f0 := fr.atT 9 (hpre ⟨9, .data⟩ (by simp) rfl) rfl
              refine wp_value (w' := apW wr g1 i z (D 14)) ?_ ⟨rfl, rfl⟩
              simp [execOp, f0, apVal, go_sem, m2]
            · have f0 := fr.atT 10 (hpre ⟨10, .data⟩ (by simp) rfl) rfl
              have f0' := fr.at_ 10 (hpre ⟨10, .data⟩ (by simp) rfl) rfl
              refine wp_called (f := 50) (args := #[.int .i64 Q, .int .i64 (-32768), .int .i64 32767]) ?_ (HLIM.out _) ?_
              · simp [execOp, resolve, invoke, f0, f0', apVal, go_sem]
              · rintro e w' ⟨rfl, rfl⟩
                exact ⟨_, rfl, by rw [← HY.out.2.2]; rfl, rfl⟩
            · have f0 := fr.atT 11 (hpre ⟨11, .data⟩ (by simp) rfl) rfl
              refine wp_value (w' := apW wr g1 i z (D 14)) ?_ ⟨rfl, rfl⟩
              simp [execOp, f0, apVal, go_sem, ez]
            · have f0 := fr.atT 3 (hpre ⟨3, .data⟩ (by simp) rfl) rfl
              have f1 := fr.atT 4 (hpre ⟨4, .data⟩ (by simp) rfl) rfl
              refine wp_value (w' := apW wr g1 i z (D 14)) ?_ ⟨rfl, rfl⟩
              simp [execOp, f0, f1, apVal, go_sem, hiz]
            · have f0 := fr.atT 13 (hpre ⟨13, .data⟩ (by simp) rfl) rfl
              have f1 := fr.atT 12 (hpre ⟨12, .data⟩ (by simp) rfl) rfl
              rw [hDi]
              refine wp_skipF (w' := wr.drew.setCell ⟨g1, i, none⟩ (.int .i16 z)) ?_ ⟨rfl, rfl⟩
              show (execOp a.eval _).run Try.prog wr.drew = _
              simp [execOp, f0, f1, apVal, go_sem, cz, fz]
          case hend =>
            intro D w7 hG hall
            rw [hall 14 (by decide)] at hG
            have hG2 : w7 = wr.drew.setCell ⟨g1, i, none⟩ (.int .i16 z) := hG
            subst hG2
            clear hG
            have J1 := (HI6.out.ext (Below.refl wr.heap.size wr).drew).above (g := g1) (i := i) (Nat.le_refl _) hgg (.int .i16 z)
            have J2 : B16 (wr.drew.setCell ⟨g1, i, none⟩ (.int .i16 z)) g1 (applC g (x.l.take (i + 1)) ++ List.replicate (N - (i + 1)) 0) := by
              have := (show B16 wr.drew g1 _ from HZ6.out).set_ i z
              have e : (applC g (x.l.take i) ++ List.replicate (N - i) 0).set i z = applC g (x.l.take (i + 1)) ++ List.replicate (N - (i + 1)) 0 := by
                rw [HY.out.2.1]
                exact ap_set HLL.out HY.out.1
              rw [e] at this
              exact this
            have J3 := bset hb6.drew ⟨g1, i, none⟩ (by dsimp only; omega) (.int .i16 z)
            have HJ := Lib.hid (And.intro J1 (And.intro J2 J3))
            simp only [putsU, Act.put, List.setIfInBounds_toArray, List.set_cons_succ, List.set_cons_zero, Nat.zero_add, Nat.reduceAdd, apVal]
            clear J1 J2 J3
            generalize wr.drew.setCell ⟨g1, i, none⟩ (.int .i16 z) = w8 at *
            go_wp2_with fail
            go_roundw
            case rel => exact ⟨i + 1, by go_num, by omega, HJ.out⟩
            case measure => simp [intOf]; omega
        · obtain rfl : i = N := by omega
          have hid : decide ((i : Int) < (i : Int)) = false := decide_eq_false (by omega)
          have hZ7 : B16 wr g1 (applC g x.l) := by
            have := HZ6.out
            rwa [Nat.sub_self, List.replicate_zero, List.append_nil, List.take_of_length_le (by rw [HLL.out]; exact Nat.le_refl _)] at this
          have hI7 := HI6.out.done (g := g1) (l := applC g x.l) (Nat.le_refl _) hgg (by rw [HOUT.out, applC_len, HLL.out]; exact HV1.out.1) hZ7
          have e7 : applS g (X.take ci) ++ [applC g x.l] = applS g (X.take (ci + 1)) := by rw [take_snoc_at HXL.out]; simp [applS]
          rw [e7] at hI7
          have l7 := hZ7.lt
          have hI8 : ApInv w wr go wr.heap.size n rows1 (applS g (X.take (ci + 1))) := ⟨hI7.box, hI7.len, fun d l hl => by obtain ⟨g', h1, h2, h3, h4⟩ := hI7.own d l hl; exact ⟨g', h1, h2, h3, by omega⟩, hI7.bel, hI7.ge⟩
          have HI8 := Lib.hid hI8
          clear hZ7 hI7 hI8 e7
          go_wp2_with fail
          go_roundw
          case rel => exact ⟨ci + 1, rows1, by go_num, by omega, HI8.out, hb6⟩
          case measure => simp [intOf]; omega
    · obtain rfl : ci = n := by omega
      have hcnd : decide ((ci : Int) < (ci : Int)) = false := decide_eq_false (by omega)
      have hall : applS g (X.take ci) = applS g X := by rw [List.take_of_length_le (by rw [HSL.out]; exact Nat.le_refl _)]
      have hI9 := HI.out
      rw [hall] at hI9
      obtain ⟨ys, hys, hpcm⟩ := hI9.pcm (p := (go ≤ ·)) (by simp [applS, HSL.out]) (fun c hc => by obtain ⟨c', _, rfl⟩ := List.mem_map.1 hc; exact applC_smp _ _) (fun _ h => h)
      have Y1 := X1.below hbg (by omega)
      have Y2 := X2.below hbg (by omega)
      have l1 := Y2.lt
      have c1 := Y1.cell 0 rfl
      have c2 := Y2.cell 0 rfl
      have f1 := Y1.frozen 0
      have f2 := Y2.frozen 0
      have Z1 := (Y1.set_ 0 (.slice (some ⟨go, 0, none⟩) ci ci)).far (a := ⟨w.heap.size + 1, 0, none⟩) (by dsimp only; omega) (.int .i64 0)
      have Z2 := (Y2.far (a := ⟨w.heap.size, 0, none⟩) (by dsimp only; omega) (.slice (some ⟨go, 0, none⟩) ci ci)).set_ 0 (.int .i64 0)
      have ZB := bset (bset hI9.bel ⟨w.heap.size, 0, none⟩ (Nat.le_refl _) (.slice (some ⟨go, 0, none⟩) ci ci)) ⟨w.heap.size + 1, 0, none⟩ (by dsimp only; omega) (.int .i64 0)
      have ZP := ((hpcm.setCell (a := ⟨w.heap.size, 0, none⟩) (by dsimp only; omega) (.slice (some ⟨go, 0, none⟩) ci ci)).setCell (a := ⟨w.heap.size + 1, 0, none⟩) (by dsimp only; omega) (.int .i64 0)).mono (q := (w.heap.size ≤ ·)) (fun _ _ h => by omega)
      have HZ := Lib.hid (And.intro hys (And.intro ZP ZB))
      clear hall hI9 hys hpcm ZP ZB
      go_wp2_with fail
      exact app_leave ⟨_, _, _, rfl⟩ _ _ rfl rfl rfl Z1 Z2 ⟨_, _, _, ys, rfl, HZ.out.1, HZ.out.2.1, Nat.le_refl _, hn4, HZ.out.2.2⟩
end Go.Proofs.Ytcgejbnmbamchaa
