/- CadenceThird. -/
import Derived.Test.YtclainbjidajbaaLPul
import Derived.Test.YtclainbjidajbaaWeaveP
import Derived.Test.YtclainbjidajbaaRpR
import Derived.Test.YtclainbjidajbaaThM
namespace Go.Proofs.Ytclainbjidajbaa
open Go.RowKit

/-- The two joined frames. -/
structure TE where
  z1 : FA
  z2 : FA
structure TG (w : World) (x y : FA) (env : TE) (d1 d2 : Bool) (W : World) : Prop where
  be : Below w.heap.size w W
  z1 : d1 = true → FrmOk (fun _ => True) W env.z1 ∧ env.z1.f = joinF x.f y.f
  z2 : d2 = true → FrmOk (fun _ => True) W env.z2 ∧ env.z2.f = joinF y.f x.f
theorem RGo.drewN {w W : World} {A1 : Option Addr} {n1 c1 : Nat} {L : List Int} (h : RGo w A1 n1 c1 L W) (k : Nat) : RGo w A1 n1 c1 L (W.drewN k) := ⟨below_drewN h.be k, h.ow⟩
def thT (b off n c i u : Nat) (xv yv : Value) (r : Bool) (env : TE) : Nat → Value
  | 0 => .slice (some ⟨b, off, none⟩) n c
  | 1 => .int .i64 (i : Int)
  | 2 => .pointer (some ⟨b, off + i * 5, none⟩)
  | 3 => xv
  | 4 => .slice (some ⟨b, off, none⟩) n c
  | 5 => .int .i64 (i : Int)
  | 6 => .int .i64 (u : Int)
  | 7 => .pointer (some ⟨b, off + u * 5, none⟩)
  | 8 => yv
  | 9 => env.z1.val
  | 10 => .slice (some ⟨b, off, none⟩) n c
  | 11 => .int .i64 (i : Int)
  | 12 => .pointer (some ⟨b, off + i * 5, none⟩)
  | 13 => xv
  | 14 => .bool true
  | 15 => .bool true
  | 16 => undef
  | 17 => undef
  | 18 => undef
  | 19 => undef
  | 20 => undef
  | 21 => undef
  | 22 => undef
  | 23 => undef
  | 24 => undef
  | 25 => undef
  | 26 => undef
  | 27 => undef
  | 28 => undef
  | 29 => undef
  | 30 => undef
  | _ => .bool true
theorem thT_z1 {b off n c i u : Nat} {xv yv : Value} {r : Bool} {env : TE} {z : FA} {j : Nat} (h1 : j ≠ 9) (hl : j < 32) : thT b off n c i u xv yv r ⟨z, env.z2⟩ j = thT b off n c i u xv yv r env j := by
  rcases (show j = 0 ∨ j = 1 ∨ j = 2 ∨ j = 3 ∨ j = 4 ∨ j = 5 ∨ j = 6 ∨ j = 7 ∨ j = 8 ∨ j = 9 ∨ j = 10 ∨ j = 11 ∨ j = 12 ∨ j = 13 ∨ j = 14 ∨ j = 15 ∨ j = 16 ∨ j = 17 ∨ j = 18 ∨ j = 19 ∨ j = 20 ∨ j = 21 ∨ j = 22 ∨ j = 23 ∨ j = 24 ∨ j = 25 ∨ j = 26 ∨ j = 27 ∨ j = 28 ∨ j = 29 ∨ j = 30 ∨ j = 31 by omega) with rfl | rfl | rfl | rfl | rfl | rfl | rfl | rfl | rfl | rfl | rfl | rfl | rfl | rfl | rfl | rfl | rfl | rfl | rfl | rfl | rfl | rfl | rfl | rfl | rfl | rfl | rfl | rfl | rfl | rfl | rfl | rfl <;> first | rfl | exact absurd rfl h1
def thF (b off n c i u : Nat) (xv yv : Value) (r : Bool) (env : TE) : Nat → Value
  | 0 => .slice (some ⟨b, off, none⟩) n c
  | 1 => .int .i64 (i : Int)
  | 2 => .pointer (some ⟨b, off + i * 5, none⟩)
  | 3 => xv
  | 4 => .slice (some ⟨b, off, none⟩) n c
  | 5 => .int .i64 (i : Int)
  | 6 => .int .i64 (u : Int)
  | 7 => .pointer (some ⟨b, off + u * 5, none⟩)
  | 8 => yv
  | 9 => env.z1.val
  | 10 => .slice (some ⟨b, off, none⟩) n c
  | 11 => .int .i64 (i : Int)
  | 12 => .pointer (some ⟨b, off + i * 5, none⟩)
  | 13 => xv
  | 14 => .bool false
  | 15 => .bool false
  | 16 => .slice (some ⟨b, off, none⟩) n c
  | 17 => .int .i64 (i : Int)
  | 18 => .int .i64 (u : Int)
  | 19 => .pointer (some ⟨b, off + u * 5, none⟩)
  | 20 => yv
  | 21 => .slice (some ⟨b, off, none⟩) n c
  | 22 => .int .i64 (i : Int)
  | 23 => .pointer (some ⟨b, off + i * 5, none⟩)
  | 24 => xv
  | 25 => env.z2.val
  | 26 => .slice (some ⟨b, off, none⟩) n c
  | 27 => .int .i64 (i : Int)
  | 28 => .pointer (some ⟨b, off + i * 5, none⟩)
  | 29 => xv
  | 30 => .bool r
  | _ => .bool r
theorem thF_z1 {b off n c i u : Nat} {xv yv : Value} {r : Bool} {env : TE} {z : FA} {j : Nat} (h1 : j ≠ 9) (hl : j < 32) : thF b off n c i u xv yv r ⟨z, env.z2⟩ j = thF b off n c i u xv yv r env j := by
  rcases (show j = 0 ∨ j = 1 ∨ j = 2 ∨ j = 3 ∨ j = 4 ∨ j = 5 ∨ j = 6 ∨ j = 7 ∨ j = 8 ∨ j = 9 ∨ j = 10 ∨ j = 11 ∨ j = 12 ∨ j = 13 ∨ j = 14 ∨ j = 15 ∨ j = 16 ∨ j = 17 ∨ j = 18 ∨ j = 19 ∨ j = 20 ∨ j = 21 ∨ j = 22 ∨ j = 23 ∨ j = 24 ∨ j = 25 ∨ j = 26 ∨ j = 27 ∨ j = 28 ∨ j = 29 ∨ j = 30 ∨ j = 31 by omega) with rfl | rfl | rfl | rfl | rfl | rfl | rfl | rfl | rfl | rfl | rfl | rfl | rfl | rfl | rfl | rfl | rfl | rfl | rfl | rfl | rfl | rfl | rfl | rfl | rfl | rfl | rfl | rfl | rfl | rfl | rfl | rfl <;> first | rfl | exact absurd rfl h1
theorem thF_z2 {b off n c i u : Nat} {xv yv : Value} {r : Bool} {env : TE} {z : FA} {j : Nat} (h1 : j ≠ 25) (hl : j < 32) : thF b off n c i u xv yv r ⟨env.z1, z⟩ j = thF b off n c i u xv yv r env j := by
  rcases (show j = 0 ∨ j = 1 ∨ j = 2 ∨ j = 3 ∨ j = 4 ∨ j = 5 ∨ j = 6 ∨ j = 7 ∨ j = 8 ∨ j = 9 ∨ j = 10 ∨ j = 11 ∨ j = 12 ∨ j = 13 ∨ j = 14 ∨ j = 15 ∨ j = 16 ∨ j = 17 ∨ j = 18 ∨ j = 19 ∨ j = 20 ∨ j = 21 ∨ j = 22 ∨ j = 23 ∨ j = 24 ∨ j = 25 ∨ j = 26 ∨ j = 27 ∨ j = 28 ∨ j = 29 ∨ j = 30 ∨ j = 31 by omega) with rfl | rfl | rfl | rfl | rfl | rfl | rfl | rfl | rfl | rfl | rfl | rfl | rfl | rfl | rfl | rfl | rfl | rfl | rfl | rfl | rfl | rfl | rfl | rfl | rfl | rfl | rfl | rfl | rfl | rfl | rfl | rfl <;> first | rfl | exact absurd rfl h1
theorem rep_none (vs : List Fr) : repK vs (2 * 1) = [] := by
  rw [show (2 * 1) = 0 + 1 + 1 by rfl, repK_succ, repK_succ, repB_lo (by omega), repB_lo (by omega)]
  rfl
set_option maxRecDepth 100000 in
set_option maxHeartbeats 8000000 in
theorem law_CadenceThird {p : Nat → Prop} (A : Option Addr) (n c : Nat) (L : List Int) (a b cc d : Int) (w : World) (hi : Its .i64 p w A n L) (hok : IntsOk L) (ha : I64 a) (hb : I64 b) (hc : I64 cc) (hd : I64 d) :
    Calls Try.prog 6 #[.slice A n c, .agg #[.int .i64 a, .int .i64 b], .agg #[.int .i64 cc, .int .i64 d]] w fun e w' => e = .returned (.bool true) ∧ Below w.heap.size w w' := by
  have HI := Lib.hid hi
  clear hi
  have x0 := (Bx.new w 40 #[.int .i64 a, .int .i64 b]).alloc (.cells #[.int .i64 cc, .int .i64 d] 40)
  have x1 := Bx.new' (w.alloc (.cells #[.int .i64 a, .int .i64 b] 40)) 40 #[.int .i64 cc, .int .i64 d] (w.heap.size + 1) (by simp)
  have B0 := ((Below.refl w.heap.size w).alloc (Nat.le_refl _) (.cells #[.int .i64 a, .int .i64 b] 40)).alloc (by simp) (.cells #[.int .i64 cc, .int .i64 d] 40)
  have hi0 := (HI.out.alloc (.cells #[.int .i64 a, .int .i64 b] 40)).alloc (.cells #[.int .i64 cc, .int .i64 d] 40)
  go_enter Try.func6, Try.ntmps6
  go_upto_region 1 with fail
  generalize (w.alloc (.cells #[.int .i64 a, .int .i64 b] 40)).alloc (.cells #[.int .i64 cc, .int .i64 d] 40) = W0 at *
  have HF := Lib.hid (film_Frames A n c L 6 W0 hi0 hok (by omega))
  have HB0 := Lib.hid B0
  have HX0 := Lib.hid x0
  have HX1 := Lib.hid x1
  clear hi0 hok B0 x0 x1
  go_wp2_with fail
  refine HF.out.mono ?_
  rintro e1 w1 ⟨A1, c1, qs, s, rfl, hq, ho, hsz, hs, hb1⟩
  obtain ⟨fs, hfs⟩ : ∃ fs, frs qs = fs := ⟨_, rfl⟩
  have HFS := Lib.hid hfs
  have HLF : Hid (fs.length = qs.length) := Lib.hid (by rw [← hfs]; simp [frs])
  have HAL : Hid (alikeF fs = true) := Lib.hid (by rw [← hfs]; exact film_alike hsz hs)
  have HFR : Hid (Frs (fun _ => True) (fun _ => True) w1 A1 qs.length qs) := Lib.hid (by
    obtain ⟨A3, c3, hv, hf⟩ := OwnF.frs (p := fun _ => True) ho (fun _ _ => trivial)
    injection hv with q1 q2 q3
    subst q1
    exact hf.mono (fun _ _ h => h) (fun _ _ _ => trivial))
  have HB1 := Lib.hid (HB0.out.trans (hb1.mono HB0.out.size))
  have f0 := (HX0.out.ext hb1).cell 0 rfl
  have f1 := (HX0.out.ext hb1).cell 1 rfl
  have f2 := (HX1.out.ext hb1).cell 0 rfl
  have f3 := (HX1.out.ext hb1).cell 1 rfl
  have HW := Lib.hid (cad_Weave (qs.length : Int) a b cc d w1 ha hb hc hd)
  have HQ6 := Lib.hid hq
  clear ho hsz hs hb1 hfs
  go_wp2_with fail
  refine HW.out.mono ?_
  rintro e2 w2 ⟨A2, n2, c2, rfl, hn2, hR2, hb2⟩
  have HB2 := Lib.hid (HB1.out.trans (hb2.mono HB1.out.size))
  have HFR2 := Lib.hid (HFR.out.ext hb2)
  clear f0 f1 f2 f3
  rcases weave_cases qs.length a b cc d with hE | ⟨ht, hwv, hwl⟩
  · generalize (weaveR (qs.length : Int) a b cc d).2 = E at *
    have tE : (E != 0) = true := by simpa using hE
    clear hn2 hR2 hE
    go_wp2_with fail
    refine (cad_awake w2).mono ?_
    rintro e3 w3 ⟨rfl, hb3⟩
    have hbb := HB2.out.trans (hb3.mono HB2.out.size)
    clear hb3
    go_wp2_with fail
    go_ret
    exact ⟨rfl, hbb⟩
  · rw [hwv] at hn2 hR2 ⊢
    obtain ⟨ws, hws⟩ : ∃ ws, wvL fs.length a b cc d = ws := ⟨_, rfl⟩
    rw [← HLF.out, hws] at hn2 hR2 hwl
    have HWS := Lib.hid hws
    have HTE := Lib.hid ht
    have HWL := Lib.hid hwl
    have hn2b : n2 ≤ 256 := by rw [hn2]; exact hwl
    have HWV : Hid (Wvs (fun _ => True) w2 A2 n2 ws) := Lib.hid ⟨hn2.symm, hR2.mono (fun _ _ _ => trivial)⟩
    have HOKW : Hid (ws.all (okW fs.length) = true) := Lib.hid (by rw [← hws]; exact wvL_ok _ _ _ _ _)
    have HPE := Lib.hid (pull_ok HAL.out HOKW.out HWL.out)
    clear hn2 hR2 hwv hwl ht hws hb2
    go_wp2_with fail
    go_loopw [10] (fun i wr => ∃ k : Nat, k ≤ qs.length ∧ i = .int .i64 (k : Int) ∧ DiffF fs k ∧ Below w2.heap.size w2 wr) (fun i _ => qs.length - (intOf i).toNat)
    case atStart => exact ⟨0, Nat.zero_le _, rfl, fun i f g h => absurd h (Nat.not_lt_zero _), Below.refl _ _⟩
    case round =>
      obtain ⟨i, hik, rfl, hdf, hbr⟩ := hrel
      have HBR := Lib.hid hbr
      have HDF := Lib.hid hdf
      have hq6 := HQ6.out
      clear hbr hdf
      obtain ⟨u, hu⟩ : ∃ u, i + 1 = u := ⟨_, rfl⟩
      have wu : IntKind.i64.wrap ((i : Int) + 1) = (u : Int) := by rw [show (i : Int) + 1 = (u : Int) by omega]; exact IntWalk.i64_in _ (by omega)
      by_cases hlt : u < qs.length
      · have du : decide ((u : Int) < (qs.length : Int)) = true := decide_eq_true (by omega)
        have hin : i < qs.length := by omega
        obtain ⟨b, off, x, rfl, hbf, hxx, hox, xc0, xc1, xc2, xc3, xc4⟩ := HFR2.out.at_ hin
        obtain ⟨b', off', y, hAA, hbl2, hyy, hoy, yc0, yc1, yc2, yc3, yc4⟩ := HFR2.out.at_ hlt
        injection hAA with hAA
        injection hAA with q1 q2
        subst q1 q2
        obtain ⟨SW, SH, hsz⟩ := alike_sz HAL.out
        have hx1 := frs_at hxx
        have hy1 := frs_at hyy
        rw [HFS.out] at hx1 hy1
        have sx := hsz x.f (List.mem_of_getElem? hx1)
        have sy := hsz y.f (List.mem_of_getElem? hy1)
        have HJ1 := Lib.hid (fun w' (h : Below w2.heap.size w2 w') => ref_Join x y SW SH w' (hox.ext h) (hoy.ext h) sx sy)
        have HJ2 := Lib.hid (fun w' (h : Below w2.heap.size w2 w') => ref_Join y x SW SH w' (hoy.ext h) (hox.ext h) sy sx)
        have hs1 : ∀ (z : FA) (w' : World) (_ : Below w2.heap.size w2 w') (_ : FrmOk (fun _ => True) w' z) (_ : z.f = joinF x.f y.f), Calls Try.prog 19 #[z.val, x.val] w' fun e w'' => e = .returned (.bool (decide (joinF x.f y.f = x.f))) ∧ Below w'.heap.size w' w'' := fun z w' h hz he => he ▸ ref_SameF z x w' hz (hox.ext h)
        have hs2 : ∀ (z : FA) (w' : World) (_ : Below w2.heap.size w2 w') (_ : FrmOk (fun _ => True) w' z) (_ : z.f = joinF y.f x.f), Calls Try.prog 19 #[z.val, x.val] w' fun e w'' => e = .returned (.bool (decide (joinF y.f x.f = x.f))) ∧ Below w'.heap.size w' w'' := fun z w' h hz he => he ▸ ref_SameF z x w' hz (hox.ext h)
        have HS1 := Lib.hid hs1
        have HS2 := Lib.hid hs2
        have hdn : decide (joinF x.f y.f = x.f) = false → decide (joinF y.f x.f = x.f) = false → DiffF fs u := by
          intro e1 e2 j f g hj hf hg
          rcases (by omega : j < i ∨ j = i) with h | rfl
          · exact HDF.out j f g h hf hg
          · rw [hu, hy1] at hg
            rw [hx1] at hf
            injection hf with hf
            injection hg with hg
            subst hf hg
            exact ⟨(join_even sx sy).symm.trans e2, (join_odd sx sy).symm.trans e1⟩
        have HDN0 := Lib.hid hdn
        have i0 : (0 : Int) ≤ (i : Int) := by omega
        have i1 : (i : Int) < (qs.length : Int) := by omega
        have i2 : (i : Int).toNat = i := rfl
        have u0 : (0 : Int) ≤ (u : Int) := by omega
        have u1 : (u : Int) < (qs.length : Int) := by omega
        have u2 : (u : Int).toNat = u := rfl
        have HXC : Hid (∀ W, Below w2.heap.size w2 W → W.cell? ⟨b, off + i * 5, none⟩ = some (.int .i64 x.f.W) ∧ W.cell? ⟨b, off + i * 5 + 1, none⟩ = some (.int .i64 x.f.H) ∧ W.cell? ⟨b, off + i * 5 + 2, none⟩ = some (.slice x.ya x.yn x.yc) ∧ W.cell? ⟨b, off + i * 5 + 3, none⟩ = some (.slice x.ua x.un x.uc) ∧ W.cell? ⟨b, off + i * 5 + 4, none⟩ = some (.slice x.va x.vn x.vc)) := Lib.hid (fun W hW =>
          have e : ∀ (bb o : Nat) (v : Value), bb < w2.heap.size → w2.cell? ⟨bb, o, none⟩ = some v → W.cell? ⟨bb, o, none⟩ = some v := fun bb o v h1 h2 => (hW.cell (p := ⟨bb, o, none⟩) h1).trans h2
          ⟨e _ _ _ hbf xc0, e _ _ _ hbf xc1, e _ _ _ hbf xc2, e _ _ _ hbf xc3, e _ _ _ hbf xc4⟩)
        have HYC : Hid (∀ W, Below w2.heap.size w2 W → W.cell? ⟨b, off + u * 5, none⟩ = some (.int .i64 y.f.W) ∧ W.cell? ⟨b, off + u * 5 + 1, none⟩ = some (.int .i64 y.f.H) ∧ W.cell? ⟨b, off + u * 5 + 2, none⟩ = some (.slice y.ya y.yn y.yc) ∧ W.cell? ⟨b, off + u * 5 + 3, none⟩ = some (.slice y.ua y.un y.uc) ∧ W.cell? ⟨b, off + u * 5 + 4, none⟩ = some (.slice y.va y.vn y.vc)) := Lib.hid (fun W hW =>
          have e : ∀ (bb o : Nat) (v : Value), bb < w2.heap.size → w2.cell? ⟨bb, o, none⟩ = some v → W.cell? ⟨bb, o, none⟩ = some v := fun bb o v h1 h2 => (hW.cell (p := ⟨bb, o, none⟩) h1).trans h2
          ⟨e _ _ _ hbf yc0, e _ _ _ hbf yc1, e _ _ _ hbf yc2, e _ _ _ hbf yc3, e _ _ _ hbf yc4⟩)
        clear hxx hyy hox hoy xc0 xc1 xc2 xc3 xc4 yc0 yc1 yc2 yc3 yc4 sx sy hsz hs1 hs2 hx1 hy1 hdn
        cases hr1 : decide (joinF x.f y.f = x.f) with
        | true =>
          rw [hr1] at HS1
          clear hr1
          go_upto_region 8 with fail
          refine wp_region_fixedE (thT b off qs.length c1 i u x.val y.val true) (fun env D W => TG w2 x y env (D 9) false W) ⟨x, x⟩ (by kernel_rfl) (by kernel_rfl) (by kernel_rfl) ?h0 ?hstep ?hend
          case h0 => exact ⟨HBR.out.drew, fun h => (by cases h), fun h => (by cases h)⟩
          case hstep =>
            intro k o ho env D ac wx fr hG hcl hDi hpre hun
            obtain ⟨x1, x2, x3, x4, x5⟩ := HXC.out wx hG.be
            obtain ⟨y1, y2, y3, y4, y5⟩ := HYC.out wx hG.be
            have o7 : ac.tmps[7]?.getD undef = .slice (some ⟨b, off, none⟩) qs.length c1 := fr.oldT 7 rfl
            have o10 : ac.tmps[10]?.getD undef = .int .i64 (i : Int) := fr.oldT 10 rfl
            have hkn : k < 32 := (List.getElem?_eq_some_iff.1 ho).1
            rcases (show k = 0 ∨ k = 1 ∨ k = 2 ∨ k = 3 ∨ k = 4 ∨ k = 5 ∨ k = 6 ∨ k = 7 ∨ k = 8 ∨ k = 9 ∨ k = 10 ∨ k = 11 ∨ k = 12 ∨ k = 13 ∨ k = 14 ∨ k = 15 ∨ k = 16 ∨ k = 17 ∨ k = 18 ∨ k = 19 ∨ k = 20 ∨ k = 21 ∨ k = 22 ∨ k = 23 ∨ k = 24 ∨ k = 25 ∨ k = 26 ∨ k = 27 ∨ k = 28 ∨ k = 29 ∨ k = 30 ∨ k = 31 by omega) with rfl | rfl | rfl | rfl | rfl | rfl | rfl | rfl | rfl | rfl | rfl | rfl | rfl | rfl | rfl | rfl | rfl | rfl | rfl | rfl | rfl | rfl | rfl | rfl | rfl | rfl | rfl | rfl | rfl | rfl | rfl | rfl
            all_goals (simp only [List.getElem?_cons_zero, List.getElem?_cons_succ, Option.some.injEq] at ho; subst ho)
            · refine ⟨true, rfl, fun _ => wp_value (w' := wx) ?_ ⟨env, fun _ _ _ => rfl, rfl, hG⟩, (fun h => by cases h)⟩
              simp [execOp, o7, thT, go_sem]
            · refine ⟨true, rfl, fun _ => wp_value (w' := wx) ?_ ⟨env, fun _ _ _ => rfl, rfl, hG⟩, (fun h => by cases h)⟩
              simp [execOp, o10, thT, go_sem]
            · have f0 := fr.atT 0 (hpre ⟨0, .data⟩ (by simp) rfl) rfl
              have f1 := fr.atT 1 (hpre ⟨1, .data⟩ (by simp) rfl) rfl
              refine ⟨true, rfl, fun _ => wp_value (w' := wx) ?_ ⟨env, fun _ _ _ => rfl, rfl, hG⟩, (fun h => by cases h)⟩
              simp [execOp, f0, f1, thT, go_sem, i0, i1, i2]
            · have f2 := fr.atT 2 (hpre ⟨2, .data⟩ (by simp) rfl) rfl
              refine ⟨true, rfl, fun _ => wp_value (w' := wx) ?_ ⟨env, fun _ _ _ => rfl, rfl, hG⟩, (fun h => by cases h)⟩
              simp [execOp, f2, thT, go_sem, x1, x2, x3, x4, x5, FA.val]
            · refine ⟨true, rfl, fun _ => wp_value (w' := wx) ?_ ⟨env, fun _ _ _ => rfl, rfl, hG⟩, (fun h => by cases h)⟩
              simp [execOp, o7, thT, go_sem]
            · refine ⟨true, rfl, fun _ => wp_value (w' := wx) ?_ ⟨env, fun _ _ _ => rfl, rfl, hG⟩, (fun h => by cases h)⟩
              simp [execOp, o10, thT, go_sem]
            · have f5 := fr.atT 5 (hpre ⟨5, .data⟩ (by simp) rfl) rfl
              refine ⟨true, rfl, fun _ => wp_value (w' := wx) ?_ ⟨env, fun _ _ _ => rfl, rfl, hG⟩, (fun h => by cases h)⟩
              simp [execOp, f5, thT, go_sem, wu]
            · have f4 := fr.atT 4 (hpre ⟨4, .data⟩ (by simp) rfl) rfl
              have f6 := fr.atT 6 (hpre ⟨6, .data⟩ (by simp) rfl) rfl
              refine ⟨true, rfl, fun _ => wp_value (w' := wx) ?_ ⟨env, fun _ _ _ => rfl, rfl, hG⟩, (fun h => by cases h)⟩
              simp [execOp, f4, f6, thT, go_sem, u0, u1, u2]
            · have f7 := fr.atT 7 (hpre ⟨7, .data⟩ (by simp) rfl) rfl
              refine ⟨true, rfl, fun _ => wp_value (w' := wx) ?_ ⟨env, fun _ _ _ => rfl, rfl, hG⟩, (fun h => by cases h)⟩
              simp [execOp, f7, thT, go_sem, y1, y2, y3, y4, y5, FA.val]
            · have f3 := fr.atT 3 (hpre ⟨3, .data⟩ (by simp) rfl) rfl
              have e3 := fr.at_ 3 (hpre ⟨3, .data⟩ (by simp) rfl) rfl
              have f8 := fr.atT 8 (hpre ⟨8, .data⟩ (by simp) rfl) rfl
              have e8 := fr.at_ 8 (hpre ⟨8, .data⟩ (by simp) rfl) rfl
              refine ⟨true, rfl, fun _ => ?_, (fun h => by cases h)⟩
              refine wp_called (f := 20) (args := #[x.val, y.val]) ?_ (HJ1.out _ hG.be) ?_
              · simp [execOp, resolve, invoke, f3, e3, f8, e8, thT, go_sem]
              · rintro e w' ⟨z, rfl, hzf, hzo, hb9⟩
                exact ⟨_, rfl, ⟨z, env.z2⟩, fun j hjl hj => thT_z1 (fun e => by rw [e, hDi] at hj; cases hj) hjl, rfl, hG.be.trans (hb9.mono hG.be.size), (fun _ => ⟨hzo.mono (fun _ _ _ => trivial), hzf⟩), (fun h => ⟨(hG.z2 h).1.ext hb9, (hG.z2 h).2⟩)⟩
            · refine ⟨true, rfl, fun _ => wp_value (w' := wx) ?_ ⟨env, fun _ _ _ => rfl, rfl, hG⟩, (fun h => by cases h)⟩
              simp [execOp, o7, thT, go_sem]
            · refine ⟨true, rfl, fun _ => wp_value (w' := wx) ?_ ⟨env, fun _ _ _ => rfl, rfl, hG⟩, (fun h => by cases h)⟩
              simp [execOp, o10, thT, go_sem]
            · have f10 := fr.atT 10 (hpre ⟨10, .data⟩ (by simp) rfl) rfl
              have f11 := fr.atT 11 (hpre ⟨11, .data⟩ (by simp) rfl) rfl
              refine ⟨true, rfl, fun _ => wp_value (w' := wx) ?_ ⟨env, fun _ _ _ => rfl, rfl, hG⟩, (fun h => by cases h)⟩
              simp [execOp, f10, f11, thT, go_sem, i0, i1, i2]
            · have f12 := fr.atT 12 (hpre ⟨12, .data⟩ (by simp) rfl) rfl
              refine ⟨true, rfl, fun _ => wp_value (w' := wx) ?_ ⟨env, fun _ _ _ => rfl, rfl, hG⟩, (fun h => by cases h)⟩
              simp [execOp, f12, thT, go_sem, x1, x2, x3, x4, x5, FA.val]
            · have f9 := fr.atT 9 (hpre ⟨9, .data⟩ (by simp) rfl) rfl
              have e9 := fr.at_ 9 (hpre ⟨9, .data⟩ (by simp) rfl) rfl
              have f13 := fr.atT 13 (hpre ⟨13, .data⟩ (by simp) rfl) rfl
              have e13 := fr.at_ 13 (hpre ⟨13, .data⟩ (by simp) rfl) rfl
              refine ⟨true, rfl, fun _ => ?_, (fun h => by cases h)⟩
              have dz : D 9 = true := hpre ⟨9, .data⟩ (by simp) rfl
              have hz := hG.z1 dz
              refine wp_called (f := 19) (args := #[env.z1.val, x.val]) ?_ (HS1.out env.z1 wx hG.be hz.1 hz.2) ?_
              · simp [execOp, resolve, invoke, f9, e9, f13, e13, thT, go_sem]
              · rintro e w' ⟨rfl, hb9⟩
                exact ⟨_, rfl, env, fun _ _ _ => rfl, rfl, hG.be.trans (hb9.mono hG.be.size), (fun h => ⟨(hG.z1 h).1.ext hb9, (hG.z1 h).2⟩), (fun h => ⟨(hG.z2 h).1.ext hb9, (hG.z2 h).2⟩)⟩
            · have f14 := fr.atT 14 (hpre ⟨14, .data⟩ (by simp) rfl) rfl
              refine ⟨true, rfl, fun _ => wp_value (w' := wx) ?_ ⟨env, fun _ _ _ => rfl, rfl, hG⟩, (fun h => by cases h)⟩
              simp [execOp, f14, thT, go_sem]
            · have dg : D 15 = true := hpre ⟨15, .guard⟩ (by simp) rfl
              exact ⟨false, (wanted_of (x := true) (want := false) (j := 15) fr rfl dg rfl rfl).trans rfl, (fun h => by cases h), fun _ => ⟨rfl, hG⟩⟩
            · have dg : D 15 = true := hpre ⟨15, .guard⟩ (by simp) rfl
              exact ⟨false, (wanted_of (x := true) (want := false) (j := 15) fr rfl dg rfl rfl).trans rfl, (fun h => by cases h), fun _ => ⟨rfl, hG⟩⟩
            · have dg : D 15 = true := hpre ⟨15, .guard⟩ (by simp) rfl
              exact ⟨false, (wanted_of (x := true) (want := false) (j := 15) fr rfl dg rfl rfl).trans rfl, (fun h => by cases h), fun _ => ⟨rfl, hG⟩⟩
            · have dg : D 15 = true := hpre ⟨15, .guard⟩ (by simp) rfl
              exact ⟨false, (wanted_of (x := true) (want := false) (j := 15) fr rfl dg rfl rfl).trans rfl, (fun h => by cases h), fun _ => ⟨rfl, hG⟩⟩
            · have dg : D 15 = true := hpre ⟨15, .guard⟩ (by simp) rfl
              exact ⟨false, (wanted_of (x := true) (want := false) (j := 15) fr rfl dg rfl rfl).trans rfl, (fun h => by cases h), fun _ => ⟨rfl, hG⟩⟩
            · have dg : D 15 = true := hpre ⟨15, .guard⟩ (by simp) rfl
              exact ⟨false, (wanted_of (x := true) (want := false) (j := 15) fr rfl dg rfl rfl).trans rfl, (fun h => by cases h), fun _ => ⟨rfl, hG⟩⟩
            · have dg : D 15 = true := hpre ⟨15, .guard⟩ (by simp) rfl
              exact ⟨false, (wanted_of (x := true) (want := false) (j := 15) fr rfl dg rfl rfl).trans rfl, (fun h => by cases h), fun _ => ⟨rfl, hG⟩⟩
            · have dg : D 15 = true := hpre ⟨15, .guard⟩ (by simp) rfl
              exact ⟨false, (wanted_of (x := true) (want := false) (j := 15) fr rfl dg rfl rfl).trans rfl, (fun h => by cases h), fun _ => ⟨rfl, hG⟩⟩
            · have dg : D 15 = true := hpre ⟨15, .guard⟩ (by simp) rfl
              exact ⟨false, (wanted_of (x := true) (want := false) (j := 15) fr rfl dg rfl rfl).trans rfl, (fun h => by cases h), fun _ => ⟨rfl, hG⟩⟩
            · have dg : D 15 = true := hpre ⟨15, .guard⟩ (by simp) rfl
              exact ⟨false, (wanted_of (x := true) (want := false) (j := 15) fr rfl dg rfl rfl).trans rfl, (fun h => by cases h), fun _ => ⟨rfl, hG⟩⟩
            · have dg : D 15 = true := hpre ⟨15, .guard⟩ (by simp) rfl
              exact ⟨false, (wanted_of (x := true) (want := false) (j := 15) fr rfl dg rfl rfl).trans rfl, (fun h => by cases h), fun _ => ⟨rfl, hG⟩⟩
            · have dg : D 15 = true := hpre ⟨15, .guard⟩ (by simp) rfl
              exact ⟨false, (wanted_of (x := true) (want := false) (j := 15) fr rfl dg rfl rfl).trans rfl, (fun h => by cases h), fun _ => ⟨rfl, hG⟩⟩
            · have dg : D 15 = true := hpre ⟨15, .guard⟩ (by simp) rfl
              exact ⟨false, (wanted_of (x := true) (want := false) (j := 15) fr rfl dg rfl rfl).trans rfl, (fun h => by cases h), fun _ => ⟨rfl, hG⟩⟩
            · have dg : D 15 = true := hpre ⟨15, .guard⟩ (by simp) rfl
              exact ⟨false, (wanted_of (x := true) (want := false) (j := 15) fr rfl dg rfl rfl).trans rfl, (fun h => by cases h), fun _ => ⟨rfl, hG⟩⟩
            · have dg : D 15 = true := hpre ⟨15, .guard⟩ (by simp) rfl
              exact ⟨false, (wanted_of (x := true) (want := false) (j := 15) fr rfl dg rfl rfl).trans rfl, (fun h => by cases h), fun _ => ⟨rfl, hG⟩⟩
            · have f15 := fr.atT 15 (hpre ⟨15, .data⟩ (by simp) rfl) rfl
              have f30 := fr.atT 30 (hpre ⟨30, .data⟩ (by simp) rfl) rfl
              refine ⟨true, rfl, fun _ => wp_value (w' := wx) ?_ ⟨env, fun _ _ _ => rfl, rfl, hG⟩, (fun h => by cases h)⟩
              simp [execOp, f15, f30, thT, go_sem]
          case hend =>
            intro env D w7 hG hall
            have HB7 := Lib.hid hG.be
            simp only [putsU, Act.put, List.setIfInBounds_toArray, List.set_cons_succ, List.set_cons_zero, Nat.zero_add, Nat.reduceAdd, thT]
            clear hG hall
            go_wp2_with fail
            refine (cad_awake w7).mono ?_
            rintro e8 w8 ⟨rfl, hb8⟩
            have hbb := HB2.out.trans ((HB7.out.trans (hb8.mono HB7.out.size)).mono HB2.out.size)
            clear hb8
            go_wp2_with fail
            go_ret
            exact ⟨rfl, hbb⟩
        | false =>
          rw [hr1] at HS1
          cases hr2 : decide (joinF y.f x.f = x.f) with
          | true =>
            rw [hr2] at HS2
            clear hr1 hr2
            go_upto_region 8 with fail
            refine wp_region_fixedE (thF b off qs.length c1 i u x.val y.val true) (fun env D W => TG w2 x y env (D 9) (D 25) W) ⟨x, x⟩ (by kernel_rfl) (by kernel_rfl) (by kernel_rfl) ?h0 ?hstep ?hend
            case h0 => exact ⟨HBR.out.drew, fun h => (by cases h), fun h => (by cases h)⟩
            case hstep =>
              intro k o ho env D ac wx fr hG hcl hDi hpre hun
              obtain ⟨x1, x2, x3, x4, x5⟩ := HXC.out wx hG.be
              obtain ⟨y1, y2, y3, y4, y5⟩ := HYC.out wx hG.be
              have o7 : ac.tmps[7]?.getD undef = .slice (some ⟨b, off, none⟩) qs.length c1 := fr.oldT 7 rfl
              have o10 : ac.tmps[10]?.getD undef = .int .i64 (i : Int) := fr.oldT 10 rfl
              have hkn : k < 32 := (List.getElem?_eq_some_iff.1 ho).1
              rcases (show k = 0 ∨ k = 1 ∨ k = 2 ∨ k = 3 ∨ k = 4 ∨ k = 5 ∨ k = 6 ∨ k = 7 ∨ k = 8 ∨ k = 9 ∨ k = 10 ∨ k = 11 ∨ k = 12 ∨ k = 13 ∨ k = 14 ∨ k = 15 ∨ k = 16 ∨ k = 17 ∨ k = 18 ∨ k = 19 ∨ k = 20 ∨ k = 21 ∨ k = 22 ∨ k = 23 ∨ k = 24 ∨ k = 25 ∨ k = 26 ∨ k = 27 ∨ k = 28 ∨ k = 29 ∨ k = 30 ∨ k = 31 by omega) with rfl | rfl | rfl | rfl | rfl | rfl | rfl | rfl | rfl | rfl | rfl | rfl | rfl | rfl | rfl | rfl | rfl | rfl | rfl | rfl | rfl | rfl | rfl | rfl | rfl | rfl | rfl | rfl | rfl | rfl | rfl | rfl
              all_goals (simp only [List.getElem?_cons_zero, List.getElem?_cons_succ, Option.some.injEq] at ho; subst ho)
              · refine ⟨true, rfl, fun _ => wp_value (w' := wx) ?_ ⟨env, fun _ _ _ => rfl, rfl, hG⟩, (fun h => by cases h)⟩
                simp [execOp, o7, thF, go_sem]
              · refine ⟨true, rfl, fun _ => wp_value (w' := wx) ?_ ⟨env, fun _ _ _ => rfl, rfl, hG⟩, (fun h => by cases h)⟩
                simp [execOp, o10, thF, go_sem]
              · have f0 := fr.atT 0 (hpre ⟨0, .data⟩ (by simp) rfl) rfl
                have f1 := fr.atT 1 (hpre ⟨1, .data⟩ (by simp) rfl) rfl
                refine ⟨true, rfl, fun _ => wp_value (w' := wx) ?_ ⟨env, fun _ _ _ => rfl, rfl, hG⟩, (fun h => by cases h)⟩
                simp [execOp, f0, f1, thF, go_sem, i0, i1, i2]
              · have f2 := fr.atT 2 (hpre ⟨2, .data⟩ (by simp) rfl) rfl
                refine ⟨true, rfl, fun _ => wp_value (w' := wx) ?_ ⟨env, fun _ _ _ => rfl, rfl, hG⟩, (fun h => by cases h)⟩
                simp [execOp, f2, thF, go_sem, x1, x2, x3, x4, x5, FA.val]
              · refine ⟨true, rfl, fun _ => wp_value (w' := wx) ?_ ⟨env, fun _ _ _ => rfl, rfl, hG⟩, (fun h => by cases h)⟩
                simp [execOp, o7, thF, go_sem]
              · refine ⟨true, rfl, fun _ => wp_value (w' := wx) ?_ ⟨env, fun _ _ _ => rfl, rfl, hG⟩, (fun h => by cases h)⟩
                simp [execOp, o10, thF, go_sem]
              · have f5 := fr.atT 5 (hpre ⟨5, .data⟩ (by simp) rfl) rfl
                refine ⟨true, rfl, fun _ => wp_value (w' := wx) ?_ ⟨env, fun _ _ _ => rfl, rfl, hG⟩, (fun h => by cases h)⟩
                simp [execOp, f5, thF, go_sem, wu]
              · have f4 := fr.atT 4 (hpre ⟨4, .data⟩ (by simp) rfl) rfl
                have f6 := fr.atT 6 (hpre ⟨6, .data⟩ (by simp) rfl) rfl
                refine ⟨true, rfl, fun _ => wp_value (w' := wx) ?_ ⟨env, fun _ _ _ => rfl, rfl, hG⟩, (fun h => by cases h)⟩
                simp [execOp, f4, f6, thF, go_sem, u0, u1, u2]
              · have f7 := fr.atT 7 (hpre ⟨7, .data⟩ (by simp) rfl) rfl
                refine ⟨true, rfl, fun _ => wp_value (w' := wx) ?_ ⟨env, fun _ _ _ => rfl, rfl, hG⟩, (fun h => by cases h)⟩
                simp [execOp, f7, thF, go_sem, y1, y2, y3, y4, y5, FA.val]
              · have f3 := fr.atT 3 (hpre ⟨3, .data⟩ (by simp) rfl) rfl
                have e3 := fr.at_ 3 (hpre ⟨3, .data⟩ (by simp) rfl) rfl
                have f8 := fr.atT 8 (hpre ⟨8, .data⟩ (by simp) rfl) rfl
                have e8 := fr.at_ 8 (hpre ⟨8, .data⟩ (by simp) rfl) rfl
                refine ⟨true, rfl, fun _ => ?_, (fun h => by cases h)⟩
                refine wp_called (f := 20) (args := #[x.val, y.val]) ?_ (HJ1.out _ hG.be) ?_
                · simp [execOp, resolve, invoke, f3, e3, f8, e8, thF, go_sem]
                · rintro e w' ⟨z, rfl, hzf, hzo, hb9⟩
                  exact ⟨_, rfl, ⟨z, env.z2⟩, fun j hjl hj => thF_z1 (fun e => by rw [e, hDi] at hj; cases hj) hjl, rfl, hG.be.trans (hb9.mono hG.be.size), (fun _ => ⟨hzo.mono (fun _ _ _ => trivial), hzf⟩), (fun h => ⟨(hG.z2 h).1.ext hb9, (hG.z2 h).2⟩)⟩
              · refine ⟨true, rfl, fun _ => wp_value (w' := wx) ?_ ⟨env, fun _ _ _ => rfl, rfl, hG⟩, (fun h => by cases h)⟩
                simp [execOp, o7, thF, go_sem]
              · refine ⟨true, rfl, fun _ => wp_value (w' := wx) ?_ ⟨env, fun _ _ _ => rfl, rfl, hG⟩, (fun h => by cases h)⟩
                simp [execOp, o10, thF, go_sem]
              · have f10 := fr.atT 10 (hpre ⟨10, .data⟩ (by simp) rfl) rfl
                have f11 := fr.atT 11 (hpre ⟨11, .data⟩ (by simp) rfl) rfl
                refine ⟨true, rfl, fun _ => wp_value (w' := wx) ?_ ⟨env, fun _ _ _ => rfl, rfl, hG⟩, (fun h => by cases h)⟩
                simp [execOp, f10, f11, thF, go_sem, i0, i1, i2]
              · have f12 := fr.atT 12 (hpre ⟨12, .data⟩ (by simp) rfl) rfl
                refine ⟨true, rfl, fun _ => wp_value (w' := wx) ?_ ⟨env, fun _ _ _ => rfl, rfl, hG⟩, (fun h => by cases h)⟩
                simp [execOp, f12, thF, go_sem, x1, x2, x3, x4, x5, FA.val]
              · have f9 := fr.atT 9 (hpre ⟨9, .data⟩ (by simp) rfl) rfl
                have e9 := fr.at_ 9 (hpre ⟨9, .data⟩ (by simp) rfl) rfl
                have f13 := fr.atT 13 (hpre ⟨13, .data⟩ (by simp) rfl) rfl
                have e13 := fr.at_ 13 (hpre ⟨13, .data⟩ (by simp) rfl) rfl
                refine ⟨true, rfl, fun _ => ?_, (fun h => by cases h)⟩
                have dz : D 9 = true := hpre ⟨9, .data⟩ (by simp) rfl
                have hz := hG.z1 dz
                refine wp_called (f := 19) (args := #[env.z1.val, x.val]) ?_ (HS1.out env.z1 wx hG.be hz.1 hz.2) ?_
                · simp [execOp, resolve, invoke, f9, e9, f13, e13, thF, go_sem]
                · rintro e w' ⟨rfl, hb9⟩
                  exact ⟨_, rfl, env, fun _ _ _ => rfl, rfl, hG.be.trans (hb9.mono hG.be.size), (fun h => ⟨(hG.z1 h).1.ext hb9, (hG.z1 h).2⟩), (fun h => ⟨(hG.z2 h).1.ext hb9, (hG.z2 h).2⟩)⟩
              · have f14 := fr.atT 14 (hpre ⟨14, .data⟩ (by simp) rfl) rfl
                refine ⟨true, rfl, fun _ => wp_value (w' := wx) ?_ ⟨env, fun _ _ _ => rfl, rfl, hG⟩, (fun h => by cases h)⟩
                simp [execOp, f14, thF, go_sem]
              · have dg : D 15 = true := hpre ⟨15, .guard⟩ (by simp) rfl
                refine ⟨true, (wanted_of (x := false) (want := false) (j := 15) fr rfl dg rfl rfl).trans rfl, fun _ => wp_value (w' := wx) ?_ ⟨env, fun _ _ _ => rfl, rfl, hG⟩, (fun h => by cases h)⟩
                simp [execOp, o7, thF, go_sem]
              · have dg : D 15 = true := hpre ⟨15, .guard⟩ (by simp) rfl
                refine ⟨true, (wanted_of (x := false) (want := false) (j := 15) fr rfl dg rfl rfl).trans rfl, fun _ => wp_value (w' := wx) ?_ ⟨env, fun _ _ _ => rfl, rfl, hG⟩, (fun h => by cases h)⟩
                simp [execOp, o10, thF, go_sem]
              · have dg : D 15 = true := hpre ⟨15, .guard⟩ (by simp) rfl
                have f17 := fr.atT 17 (hpre ⟨17, .data⟩ (by simp) rfl) rfl
                refine ⟨true, (wanted_of (x := false) (want := false) (j := 15) fr rfl dg rfl rfl).trans rfl, fun _ => wp_value (w' := wx) ?_ ⟨env, fun _ _ _ => rfl, rfl, hG⟩, (fun h => by cases h)⟩
                simp [execOp, f17, thF, go_sem, wu]
              · have dg : D 15 = true := hpre ⟨15, .guard⟩ (by simp) rfl
                have f16 := fr.atT 16 (hpre ⟨16, .data⟩ (by simp) rfl) rfl
                have f18 := fr.atT 18 (hpre ⟨18, .data⟩ (by simp) rfl) rfl
                refine ⟨true, (wanted_of (x := false) (want := false) (j := 15) fr rfl dg rfl rfl).trans rfl, fun _ => wp_value (w' := wx) ?_ ⟨env, fun _ _ _ => rfl, rfl, hG⟩, (fun h => by cases h)⟩
                simp [execOp, f16, f18, thF, go_sem, u0, u1, u2]
              · have dg : D 15 = true := hpre ⟨15, .guard⟩ (by simp) rfl
                have f19 := fr.atT 19 (hpre ⟨19, .data⟩ (by simp) rfl) rfl
                refine ⟨true, (wanted_of (x := false) (want := false) (j := 15) fr rfl dg rfl rfl).trans rfl, fun _ => wp_value (w' := wx) ?_ ⟨env, fun _ _ _ => rfl, rfl, hG⟩, (fun h => by cases h)⟩
                simp [execOp, f19, thF, go_sem, y1, y2, y3, y4, y5, FA.val]
              · have dg : D 15 = true := hpre ⟨15, .guard⟩ (by simp) rfl
                refine ⟨true, (wanted_of (x := false) (want := false) (j := 15) fr rfl dg rfl rfl).trans rfl, fun _ => wp_value (w' := wx) ?_ ⟨env, fun _ _ _ => rfl, rfl, hG⟩, (fun h => by cases h)⟩
                simp [execOp, o7, thF, go_sem]
              · have dg : D 15 = true := hpre ⟨15, .guard⟩ (by simp) rfl
                refine ⟨true, (wanted_of (x := false) (want := false) (j := 15) fr rfl dg rfl rfl).trans rfl, fun _ => wp_value (w' := wx) ?_ ⟨env, fun _ _ _ => rfl, rfl, hG⟩, (fun h => by cases h)⟩
                simp [execOp, o10, thF, go_sem]
              · have dg : D 15 = true := hpre ⟨15, .guard⟩ (by simp) rfl
                have f21 := fr.atT 21 (hpre ⟨21, .data⟩ (by simp) rfl) rfl
                have f22 := fr.atT 22 (hpre ⟨22, .data⟩ (by simp) rfl) rfl
                refine ⟨true, (wanted_of (x := false) (want := false) (j := 15) fr rfl dg rfl rfl).trans rfl, fun _ => wp_value (w' := wx) ?_ ⟨env, fun _ _ _ => rfl, rfl, hG⟩, (fun h => by cases h)⟩
                simp [execOp, f21, f22, thF, go_sem, i0, i1, i2]
              · have dg : D 15 = true := hpre ⟨15, .guard⟩ (by simp) rfl
                have f23 := fr.atT 23 (hpre ⟨23, .data⟩ (by simp) rfl) rfl
                refine ⟨true, (wanted_of (x := false) (want := false) (j := 15) fr rfl dg rfl rfl).trans rfl, fun _ => wp_value (w' := wx) ?_ ⟨env, fun _ _ _ => rfl, rfl, hG⟩, (fun h => by cases h)⟩
                simp [execOp, f23, thF, go_sem, x1, x2, x3, x4, x5, FA.val]
              · have dg : D 15 = true := hpre ⟨15, .guard⟩ (by simp) rfl
                have f20 := fr.atT 20 (hpre ⟨20, .data⟩ (by simp) rfl) rfl
                have e20 := fr.at_ 20 (hpre ⟨20, .data⟩ (by simp) rfl) rfl
                have f24 := fr.atT 24 (hpre ⟨24, .data⟩ (by simp) rfl) rfl
                have e24 := fr.at_ 24 (hpre ⟨24, .data⟩ (by simp) rfl) rfl
                refine ⟨true, (wanted_of (x := false) (want := false) (j := 15) fr rfl dg rfl rfl).trans rfl, fun _ => ?_, (fun h => by cases h)⟩
                refine wp_called (f := 20) (args := #[y.val, x.val]) ?_ (HJ2.out _ hG.be) ?_
                · simp [execOp, resolve, invoke, f20, e20, f24, e24, thF, go_sem]
                · rintro e w' ⟨z, rfl, hzf, hzo, hb9⟩
                  exact ⟨_, rfl, ⟨env.z1, z⟩, fun j hjl hj => thF_z2 (fun e => by rw [e, hDi] at hj; cases hj) hjl, rfl, hG.be.trans (hb9.mono hG.be.size), (fun h => ⟨(hG.z1 h).1.ext hb9, (hG.z1 h).2⟩), (fun _ => ⟨hzo.mono (fun _ _ _ => trivial), hzf⟩)⟩
              · have dg : D 15 = true := hpre ⟨15, .guard⟩ (by simp) rfl
                refine ⟨true, (wanted_of (x := false) (want := false) (j := 15) fr rfl dg rfl rfl).trans rfl, fun _ => wp_value (w' := wx) ?_ ⟨env, fun _ _ _ => rfl, rfl, hG⟩, (fun h => by cases h)⟩
                simp [execOp, o7, thF, go_sem]
              · have dg : D 15 = true := hpre ⟨15, .guard⟩ (by simp) rfl
                refine ⟨true, (wanted_of (x := false) (want := false) (j := 15) fr rfl dg rfl rfl).trans rfl, fun _ => wp_value (w' := wx) ?_ ⟨env, fun _ _ _ => rfl, rfl, hG⟩, (fun h => by cases h)⟩
                simp [execOp, o10, thF, go_sem]
              · have dg : D 15 = true := hpre ⟨15, .guard⟩ (by simp) rfl
                have f26 := fr.atT 26 (hpre ⟨26, .data⟩ (by simp) rfl) rfl
                have f27 := fr.atT 27 (hpre ⟨27, .data⟩ (by simp) rfl) rfl
                refine ⟨true, (wanted_of (x := false) (want := false) (j := 15) fr rfl dg rfl rfl).trans rfl, fun _ => wp_value (w' := wx) ?_ ⟨env, fun _ _ _ => rfl, rfl, hG⟩, (fun h => by cases h)⟩
                simp [execOp, f26, f27, thF, go_sem, i0, i1, i2]
              · have dg : D 15 = true := hpre ⟨15, .guard⟩ (by simp) rfl
                have f28 := fr.atT 28 (hpre ⟨28, .data⟩ (by simp) rfl) rfl
                refine ⟨true, (wanted_of (x := false) (want := false) (j := 15) fr rfl dg rfl rfl).trans rfl, fun _ => wp_value (w' := wx) ?_ ⟨env, fun _ _ _ => rfl, rfl, hG⟩, (fun h => by cases h)⟩
                simp [execOp, f28, thF, go_sem, x1, x2, x3, x4, x5, FA.val]
              · have dg : D 15 = true := hpre ⟨15, .guard⟩ (by simp) rfl
                have f25 := fr.atT 25 (hpre ⟨25, .data⟩ (by simp) rfl) rfl
                have e25 := fr.at_ 25 (hpre ⟨25, .data⟩ (by simp) rfl) rfl
                have f29 := fr.atT 29 (hpre ⟨29, .data⟩ (by simp) rfl) rfl
                have e29 := fr.at_ 29 (hpre ⟨29, .data⟩ (by simp) rfl) rfl
                refine ⟨true, (wanted_of (x := false) (want := false) (j := 15) fr rfl dg rfl rfl).trans rfl, fun _ => ?_, (fun h => by cases h)⟩
                have dz : D 25 = true := hpre ⟨25, .data⟩ (by simp) rfl
                have hz := hG.z2 dz
                refine wp_called (f := 19) (args := #[env.z2.val, x.val]) ?_ (HS2.out env.z2 wx hG.be hz.1 hz.2) ?_
                · simp [execOp, resolve, invoke, f25, e25, f29, e29, thF, go_sem]
                · rintro e w' ⟨rfl, hb9⟩
                  exact ⟨_, rfl, env, fun _ _ _ => rfl, rfl, hG.be.trans (hb9.mono hG.be.size), (fun h => ⟨(hG.z1 h).1.ext hb9, (hG.z1 h).2⟩), (fun h => ⟨(hG.z2 h).1.ext hb9, (hG.z2 h).2⟩)⟩
              · have f15 := fr.atT 15 (hpre ⟨15, .data⟩ (by simp) rfl) rfl
                have f30 := fr.atT 30 (hpre ⟨30, .data⟩ (by simp) rfl) rfl
                refine ⟨true, rfl, fun _ => wp_value (w' := wx) ?_ ⟨env, fun _ _ _ => rfl, rfl, hG⟩, (fun h => by cases h)⟩
                simp [execOp, f15, f30, thF, go_sem]
            case hend =>
              intro env D w7 hG hall
              have HB7 := Lib.hid hG.be
              simp only [putsU, Act.put, List.setIfInBounds_toArray, List.set_cons_succ, List.set_cons_zero, Nat.zero_add, Nat.reduceAdd, thF]
              clear hG hall
              go_wp2_with fail
              refine (cad_awake w7).mono ?_
              rintro e8 w8 ⟨rfl, hb8⟩
              have hbb := HB2.out.trans ((HB7.out.trans (hb8.mono HB7.out.size)).mono HB2.out.size)
              clear hb8
              go_wp2_with fail
              go_ret
              exact ⟨rfl, hbb⟩
          | false =>
            rw [hr2] at HS2
            have HDN := Lib.hid (HDN0.out hr1 hr2)
            clear hr1 hr2
            go_upto_region 8 with fail
            refine wp_region_fixedE (thF b off qs.length c1 i u x.val y.val false) (fun env D W => TG w2 x y env (D 9) (D 25) W) ⟨x, x⟩ (by kernel_rfl) (by kernel_rfl) (by kernel_rfl) ?h0 ?hstep ?hend
            case h0 => exact ⟨HBR.out.drew, fun h => (by cases h), fun h => (by cases h)⟩
            case hstep =>
              intro k o ho env D ac wx fr hG hcl hDi hpre hun
              obtain ⟨x1, x2, x3, x4, x5⟩ := HXC.out wx hG.be
              obtain ⟨y1, y2, y3, y4, y5⟩ := HYC.out wx hG.be
              have o7 : ac.tmps[7]?.getD undef = .slice (some ⟨b, off, none⟩) qs.length c1 := fr.oldT 7 rfl
              have o10 : ac.tmps[10]?.getD undef = .int .i64 (i : Int) := fr.oldT 10 rfl
              have hkn : k < 32 := (List.getElem?_eq_some_iff.1 ho).1
              rcases (show k = 0 ∨ k = 1 ∨ k = 2 ∨ k = 3 ∨ k = 4 ∨ k = 5 ∨ k = 6 ∨ k = 7 ∨ k = 8 ∨ k = 9 ∨ k = 10 ∨ k = 11 ∨ k = 12 ∨ k = 13 ∨ k = 14 ∨ k = 15 ∨ k = 16 ∨ k = 17 ∨ k = 18 ∨ k = 19 ∨ k = 20 ∨ k = 21 ∨ k = 22 ∨ k = 23 ∨ k = 24 ∨ k = 25 ∨ k = 26 ∨ k = 27 ∨ k = 28 ∨ k = 29 ∨ k = 30 ∨ k = 31 by omega) with rfl | rfl | rfl | rfl | rfl | rfl | rfl | rfl | rfl | rfl | rfl | rfl | rfl | rfl | rfl | rfl | rfl | rfl | rfl | rfl | rfl | rfl | rfl | rfl | rfl | rfl | rfl | rfl | rfl | rfl | rfl | rfl
              all_goals (simp only [List.getElem?_cons_zero, List.getElem?_cons_succ, Option.some.injEq] at ho; subst ho)
              · refine ⟨true, rfl, fun _ => wp_value (w' := wx) ?_ ⟨env, fun _ _ _ => rfl, rfl, hG⟩, (fun h => by cases h)⟩
                simp [execOp, o7, thF, go_sem]
              · refine ⟨true, rfl, fun _ => wp_value (w' := wx) ?_ ⟨env, fun _ _ _ => rfl, rfl, hG⟩, (fun h => by cases h)⟩
                simp [execOp, o10, thF, go_sem]
              · have f0 := fr.atT 0 (hpre ⟨0, .data⟩ (by simp) rfl) rfl
                have f1 := fr.atT 1 (hpre ⟨1, .data⟩ (by simp) rfl) rfl
                refine ⟨true, rfl, fun _ => wp_value (w' := wx) ?_ ⟨env, fun _ _ _ => rfl, rfl, hG⟩, (fun h => by cases h)⟩
                simp [execOp, f0, f1, thF, go_sem, i0, i1, i2]
              · have f2 := fr.atT 2 (hpre ⟨2, .data⟩ (by simp) rfl) rfl
                refine ⟨true, rfl, fun _ => wp_value (w' := wx) ?_ ⟨env, fun _ _ _ => rfl, rfl, hG⟩, (fun h => by cases h)⟩
                simp [execOp, f2, thF, go_sem, x1, x2, x3, x4, x5, FA.val]
              · refine ⟨true, rfl, fun _ => wp_value (w' := wx) ?_ ⟨env, fun _ _ _ => rfl, rfl, hG⟩, (fun h => by cases h)⟩
                simp [execOp, o7, thF, go_sem]
              · refine ⟨true, rfl, fun _ => wp_value (w' := wx) ?_ ⟨env, fun _ _ _ => rfl, rfl, hG⟩, (fun h => by cases h)⟩
                simp [execOp, o10, thF, go_sem]
              · have f5 := fr.atT 5 (hpre ⟨5, .data⟩ (by simp) rfl) rfl
                refine ⟨true, rfl, fun _ => wp_value (w' := wx) ?_ ⟨env, fun _ _ _ => rfl, rfl, hG⟩, (fun h => by cases h)⟩
                simp [execOp, f5, thF, go_sem, wu]
              · have f4 := fr.atT 4 (hpre ⟨4, .data⟩ (by simp) rfl) rfl
                have f6 := fr.atT 6 (hpre ⟨6, .data⟩ (by simp) rfl) rfl
                refine ⟨true, rfl, fun _ => wp_value (w' := wx) ?_ ⟨env, fun _ _ _ => rfl, rfl, hG⟩, (fun h => by cases h)⟩
                simp [execOp, f4, f6, thF, go_sem, u0, u1, u2]
              · have f7 := fr.atT 7 (hpre ⟨7, .data⟩ (by simp) rfl) rfl
                refine ⟨true, rfl, fun _ => wp_value (w' := wx) ?_ ⟨env, fun _ _ _ => rfl, rfl, hG⟩, (fun h => by cases h)⟩
                simp [execOp, f7, thF, go_sem, y1, y2, y3, y4, y5, FA.val]
              · have f3 := fr.atT 3 (hpre ⟨3, .data⟩ (by simp) rfl) rfl
                have e3 := fr.at_ 3 (hpre ⟨3, .data⟩ (by simp) rfl) rfl
                have f8 := fr.atT 8 (hpre ⟨8, .data⟩ (by simp) rfl) rfl
                have e8 := fr.at_ 8 (hpre ⟨8, .data⟩ (by simp) rfl) rfl
                refine ⟨true, rfl, fun _ => ?_, (fun h => by cases h)⟩
                refine wp_called (f := 20) (args := #[x.val, y.val]) ?_ (HJ1.out _ hG.be) ?_
                · simp [execOp, resolve, invoke, f3, e3, f8, e8, thF, go_sem]
                · rintro e w' ⟨z, rfl, hzf, hzo, hb9⟩
                  exact ⟨_, rfl, ⟨z, env.z2⟩, fun j hjl hj => thF_z1 (fun e => by rw [e, hDi] at hj; cases hj) hjl, rfl, hG.be.trans (hb9.mono hG.be.size), (fun _ => ⟨hzo.mono (fun _ _ _ => trivial), hzf⟩), (fun h => ⟨(hG.z2 h).1.ext hb9, (hG.z2 h).2⟩)⟩
              · refine ⟨true, rfl, fun _ => wp_value (w' := wx) ?_ ⟨env, fun _ _ _ => rfl, rfl, hG⟩, (fun h => by cases h)⟩
                simp [execOp, o7, thF, go_sem]
              · refine ⟨true, rfl, fun _ => wp_value (w' := wx) ?_ ⟨env, fun _ _ _ => rfl, rfl, hG⟩, (fun h => by cases h)⟩
                simp [execOp, o10, thF, go_sem]
              · have f10 := fr.atT 10 (hpre ⟨10, .data⟩ (by simp) rfl) rfl
                have f11 := fr.atT 11 (hpre ⟨11, .data⟩ (by simp) rfl) rfl
                refine ⟨true, rfl, fun _ => wp_value (w' := wx) ?_ ⟨env, fun _ _ _ => rfl, rfl, hG⟩, (fun h => by cases h)⟩
                simp [execOp, f10, f11, thF, go_sem, i0, i1, i2]
              · have f12 := fr.atT 12 (hpre ⟨12, .data⟩ (by simp) rfl) rfl
                refine ⟨true, rfl, fun _ => wp_value (w' := wx) ?_ ⟨env, fun _ _ _ => rfl, rfl, hG⟩, (fun h => by cases h)⟩
                simp [execOp, f12, thF, go_sem, x1, x2, x3, x4, x5, FA.val]
              · have f9 := fr.atT 9 (hpre ⟨9, .data⟩ (by simp) rfl) rfl
                have e9 := fr.at_ 9 (hpre ⟨9, .data⟩ (by simp) rfl) rfl
                have f13 := fr.atT 13 (hpre ⟨13, .data⟩ (by simp) rfl) rfl
                have e13 := fr.at_ 13 (hpre ⟨13, .data⟩ (by simp) rfl) rfl
                refine ⟨true, rfl, fun _ => ?_, (fun h => by cases h)⟩
                have dz : D 9 = true := hpre ⟨9, .data⟩ (by simp) rfl
                have hz := hG.z1 dz
                refine wp_called (f := 19) (args := #[env.z1.val, x.val]) ?_ (HS1.out env.z1 wx hG.be hz.1 hz.2) ?_
                · simp [execOp, resolve, invoke, f9, e9, f13, e13, thF, go_sem]
                · rintro e w' ⟨rfl, hb9⟩
                  exact ⟨_, rfl, env, fun _ _ _ => rfl, rfl, hG.be.trans (hb9.mono hG.be.size), (fun h => ⟨(hG.z1 h).1.ext hb9, (hG.z1 h).2⟩), (fun h => ⟨(hG.z2 h).1.ext hb9, (hG.z2 h).2⟩)⟩
              · have f14 := fr.atT 14 (hpre ⟨14, .data⟩ (by simp) rfl) rfl
                refine ⟨true, rfl, fun _ => wp_value (w' := wx) ?_ ⟨env, fun _ _ _ => rfl, rfl, hG⟩, (fun h => by cases h)⟩
                simp [execOp, f14, thF, go_sem]
              · have dg : D 15 = true := hpre ⟨15, .guard⟩ (by simp) rfl
                refine ⟨true, (wanted_of (x := false) (want := false) (j := 15) fr rfl dg rfl rfl).trans rfl, fun _ => wp_value (w' := wx) ?_ ⟨env, fun _ _ _ => rfl, rfl, hG⟩, (fun h => by cases h)⟩
                simp [execOp, o7, thF, go_sem]
              · have dg : D 15 = true := hpre ⟨15, .guard⟩ (by simp) rfl
                refine ⟨true, (wanted_of (x := false) (want := false) (j := 15) fr rfl dg rfl rfl).trans rfl, fun _ => wp_value (w' := wx) ?_ ⟨env, fun _ _ _ => rfl, rfl, hG⟩, (fun h => by cases h)⟩
                simp [execOp, o10, thF, go_sem]
              · have dg : D 15 = true := hpre ⟨15, .guard⟩ (by simp) rfl
                have f17 := fr.atT 17 (hpre ⟨17, .data⟩ (by simp) rfl) rfl
                refine ⟨true, (wanted_of (x := false) (want := false) (j := 15) fr rfl dg rfl rfl).trans rfl, fun _ => wp_value (w' := wx) ?_ ⟨env, fun _ _ _ => rfl, rfl, hG⟩, (fun h => by cases h)⟩
                simp [execOp, f17, thF, go_sem, wu]
              · have dg : D 15 = true := hpre ⟨15, .guard⟩ (by simp) rfl
                have f16 := fr.atT 16 (hpre ⟨16, .data⟩ (by simp) rfl) rfl
                have f18 := fr.atT 18 (hpre ⟨18, .data⟩ (by simp) rfl) rfl
                refine ⟨true, (wanted_of (x := false) (want := false) (j := 15) fr rfl dg rfl rfl).trans rfl, fun _ => wp_value (w' := wx) ?_ ⟨env, fun _ _ _ => rfl, rfl, hG⟩, (fun h => by cases h)⟩
                simp [execOp, f16, f18, thF, go_sem, u0, u1, u2]
              · have dg : D 15 = true := hpre ⟨15, .guard⟩ (by simp) rfl
                have f19 := fr.atT 19 (hpre ⟨19, .data⟩ (by simp) rfl) rfl
                refine ⟨true, (wanted_of (x := false) (want := false) (j := 15) fr rfl dg rfl rfl).trans rfl, fun _ => wp_value (w' := wx) ?_ ⟨env, fun _ _ _ => rfl, rfl, hG⟩, (fun h => by cases h)⟩
                simp [execOp, f19, thF, go_sem, y1, y2, y3, y4, y5, FA.val]
              · have dg : D 15 = true := hpre ⟨15, .guard⟩ (by simp) rfl
                refine ⟨true, (wanted_of (x := false) (want := false) (j := 15) fr rfl dg rfl rfl).trans rfl, fun _ => wp_value (w' := wx) ?_ ⟨env, fun _ _ _ => rfl, rfl, hG⟩, (fun h => by cases h)⟩
                simp [execOp, o7, thF, go_sem]
              · have dg : D 15 = true := hpre ⟨15, .guard⟩ (by simp) rfl
                refine ⟨true, (wanted_of (x := false) (want := false) (j := 15) fr rfl dg rfl rfl).trans rfl, fun _ => wp_value (w' := wx) ?_ ⟨env, fun _ _ _ => rfl, rfl, hG⟩, (fun h => by cases h)⟩
                simp [execOp, o10, thF, go_sem]
              · have dg : D 15 = true := hpre ⟨15, .guard⟩ (by simp) rfl
                have f21 := fr.atT 21 (hpre ⟨21, .data⟩ (by simp) rfl) rfl
                have f22 := fr.atT 22 (hpre ⟨22, .data⟩ (by simp) rfl) rfl
                refine ⟨true, (wanted_of (x := false) (want := false) (j := 15) fr rfl dg rfl rfl).trans rfl, fun _ => wp_value (w' := wx) ?_ ⟨env, fun _ _ _ => rfl, rfl, hG⟩, (fun h => by cases h)⟩
                simp [execOp, f21, f22, thF, go_sem, i0, i1, i2]
              · have dg : D 15 = true := hpre ⟨15, .guard⟩ (by simp) rfl
                have f23 := fr.atT 23 (hpre ⟨23, .data⟩ (by simp) rfl) rfl
                refine ⟨true, (wanted_of (x := false) (want := false) (j := 15) fr rfl dg rfl rfl).trans rfl, fun _ => wp_value (w' := wx) ?_ ⟨env, fun _ _ _ => rfl, rfl, hG⟩, (fun h => by cases h)⟩
                simp [execOp, f23, thF, go_sem, x1, x2, x3, x4, x5, FA.val]
              · have dg : D 15 = true := hpre ⟨15, .guard⟩ (by simp) rfl
                have f20 := fr.atT 20 (hpre ⟨20, .data⟩ (by simp) rfl) rfl
                have e20 := fr.at_ 20 (hpre ⟨20, .data⟩ (by simp) rfl) rfl
                have f24 := fr.atT 24 (hpre ⟨24, .data⟩ (by simp) rfl) rfl
                have e24 := fr.at_ 24 (hpre ⟨24, .data⟩ (by simp) rfl) rfl
                refine ⟨true, (wanted_of (x := false) (want := false) (j := 15) fr rfl dg rfl rfl).trans rfl, fun _ => ?_, (fun h => by cases h)⟩
                refine wp_called (f := 20) (args := #[y.val, x.val]) ?_ (HJ2.out _ hG.be) ?_
                · simp [execOp, resolve, invoke, f20, e20, f24, e24, thF, go_sem]
                · rintro e w' ⟨z, rfl, hzf, hzo, hb9⟩
                  exact ⟨_, rfl, ⟨env.z1, z⟩, fun j hjl hj => thF_z2 (fun e => by rw [e, hDi] at hj; cases hj) hjl, rfl, hG.be.trans (hb9.mono hG.be.size), (fun h => ⟨(hG.z1 h).1.ext hb9, (hG.z1 h).2⟩), (fun _ => ⟨hzo.mono (fun _ _ _ => trivial), hzf⟩)⟩
              · have dg : D 15 = true := hpre ⟨15, .guard⟩ (by simp) rfl
                refine ⟨true, (wanted_of (x := false) (want := false) (j := 15) fr rfl dg rfl rfl).trans rfl, fun _ => wp_value (w' := wx) ?_ ⟨env, fun _ _ _ => rfl, rfl, hG⟩, (fun h => by cases h)⟩
                simp [execOp, o7, thF, go_sem]
              · have dg : D 15 = true := hpre ⟨15, .guard⟩ (by simp) rfl
                refine ⟨true, (wanted_of (x := false) (want := false) (j := 15) fr rfl dg rfl rfl).trans rfl, fun _ => wp_value (w' := wx) ?_ ⟨env, fun _ _ _ => rfl, rfl, hG⟩, (fun h => by cases h)⟩
                simp [execOp, o10, thF, go_sem]
              · have dg : D 15 = true := hpre ⟨15, .guard⟩ (by simp) rfl
                have f26 := fr.atT 26 (hpre ⟨26, .data⟩ (by simp) rfl) rfl
                have f27 := fr.atT 27 (hpre ⟨27, .data⟩ (by simp) rfl) rfl
                refine ⟨true, (wanted_of (x := false) (want := false) (j := 15) fr rfl dg rfl rfl).trans rfl, fun _ => wp_value (w' := wx) ?_ ⟨env, fun _ _ _ => rfl, rfl, hG⟩, (fun h => by cases h)⟩
                simp [execOp, f26, f27, thF, go_sem, i0, i1, i2]
              · have dg : D 15 = true := hpre ⟨15, .guard⟩ (by simp) rfl
                have f28 := fr.atT 28 (hpre ⟨28, .data⟩ (by simp) rfl) rfl
                refine ⟨true, (wanted_of (x := false) (want := false) (j := 15) fr rfl dg rfl rfl).trans rfl, fun _ => wp_value (w' := wx) ?_ ⟨env, fun _ _ _ => rfl, rfl, hG⟩, (fun h => by cases h)⟩
                simp [execOp, f28, thF, go_sem, x1, x2, x3, x4, x5, FA.val]
              · have dg : D 15 = true := hpre ⟨15, .guard⟩ (by simp) rfl
                have f25 := fr.atT 25 (hpre ⟨25, .data⟩ (by simp) rfl) rfl
                have e25 := fr.at_ 25 (hpre ⟨25, .data⟩ (by simp) rfl) rfl
                have f29 := fr.atT 29 (hpre ⟨29, .data⟩ (by simp) rfl) rfl
                have e29 := fr.at_ 29 (hpre ⟨29, .data⟩ (by simp) rfl) rfl
                refine ⟨true, (wanted_of (x := false) (want := false) (j := 15) fr rfl dg rfl rfl).trans rfl, fun _ => ?_, (fun h => by cases h)⟩
                have dz : D 25 = true := hpre ⟨25, .data⟩ (by simp) rfl
                have hz := hG.z2 dz
                refine wp_called (f := 19) (args := #[env.z2.val, x.val]) ?_ (HS2.out env.z2 wx hG.be hz.1 hz.2) ?_
                · simp [execOp, resolve, invoke, f25, e25, f29, e29, thF, go_sem]
                · rintro e w' ⟨rfl, hb9⟩
                  exact ⟨_, rfl, env, fun _ _ _ => rfl, rfl, hG.be.trans (hb9.mono hG.be.size), (fun h => ⟨(hG.z1 h).1.ext hb9, (hG.z1 h).2⟩), (fun h => ⟨(hG.z2 h).1.ext hb9, (hG.z2 h).2⟩)⟩
              · have f15 := fr.atT 15 (hpre ⟨15, .data⟩ (by simp) rfl) rfl
                have f30 := fr.atT 30 (hpre ⟨30, .data⟩ (by simp) rfl) rfl
                refine ⟨true, rfl, fun _ => wp_value (w' := wx) ?_ ⟨env, fun _ _ _ => rfl, rfl, hG⟩, (fun h => by cases h)⟩
                simp [execOp, f15, f30, thF, go_sem]
            case hend =>
              intro env D w7 hG hall
              have HB7 := Lib.hid hG.be
              simp only [putsU, Act.put, List.setIfInBounds_toArray, List.set_cons_succ, List.set_cons_zero, Nat.zero_add, Nat.reduceAdd, thF]
              clear hG hall
              go_wp2_with fail
              go_roundw
              case rel => exact ⟨u, by omega, rfl, HDN.out, HB7.out⟩
              case measure => (simp [intOf]; try omega)
      · have du : decide ((u : Int) < (qs.length : Int)) = false := decide_eq_false (by omega)
        have HDA : Hid (DiffF fs fs.length) := Lib.hid (fun j f g _ hf hg => HDF.out j f g (by have := (List.getElem?_eq_some_iff.1 hg).1; have := HLF.out; omega) hf hg)
        obtain ⟨vs, hvs⟩ : ∃ vs, pullL fs ws = vs := ⟨_, rfl⟩
        have HVS := Lib.hid hvs
        have HBX := Lib.hid (HB2.out.trans (HBR.out.mono HB2.out.size))
        have HFR3 := Lib.hid (HFR2.out.ext HBR.out)
        have HWV3 := Lib.hid (HWV.out.ext HBR.out)
        have HC3 : Hid (Calls Try.prog 13 #[.slice A1 qs.length c1, .slice A2 n2 c2] wr (RetPl wr 0 vs)) := Lib.hid (by
          have := cad_Pull A1 qs.length c1 qs A2 n2 c2 ws wr HFR3.out HWV3.out (by omega) (by omega)
          rwa [HFS.out, HPE.out.1, HPE.out.2, hvs] at this)
        clear hvs hu
        go_wp2_with fail
        refine HC3.out.mono ?_
        rintro e3 w3 ⟨A3, n3, c3, ys, rfl, hf3, he3, hb3, _⟩
        have hvl : vs.length = n2 := by rw [← HVS.out]; simp [pullL, HWV.out.1]
        have hn3 : n3 = n2 := by
          have h1 := hf3.1
          have h2 := congrArg List.length he3
          simp only [frs, List.length_map] at h2
          omega
        subst hn3
        have HVA : Hid (alikeF vs = true) := Lib.hid (by rw [← HVS.out]; exact alike_pull HAL.out HOKW.out)
        obtain ⟨Q, hQ⟩ : ∃ Q, repK vs (2 * n3) = Q := ⟨_, rfl⟩
        have HQ := Lib.hid hQ
        have HRP : Hid (repE vs = 0 ∧ repL vs = Q) := Lib.hid (by
          obtain ⟨e1, e2⟩ := rep_yes HVA.out
          rw [hvl, hQ] at e2
          exact ⟨e1, e2⟩)
        have hQl : Q.length ≤ 512 := by have := repK_len vs (2 * n3); rw [hQ] at this; omega
        have HQL := Lib.hid hQl
        have HB3 := Lib.hid (HBX.out.trans (hb3.mono HBX.out.size))
        have HWV4 := Lib.hid (HWV3.out.ext hb3)
        have HC4 : Hid (Calls Try.prog 9 #[.slice A3 n3 c3] w3 (RetRp w3 0 Q)) := Lib.hid (by
          have := cad_Repeats A3 n3 c3 ys w3 hf3 (by omega)
          rwa [he3, HRP.out.1, HRP.out.2] at this)
        clear hf3 he3 hb3 hvl hQ hQl
        go_wp2_with fail
        refine HC4.out.mono ?_
        rintro e4 w4 ⟨Aa, na, ca, rfl, hna, hRa, hb4⟩
        have HNA := Lib.hid hna
        have HRa := Lib.hid hRa
        have HB4 := Lib.hid (HB3.out.trans (hb4.mono HB3.out.size))
        have HWV5 := Lib.hid (HWV4.out.ext hb4)
        clear hna hRa hb4
        go_wp2_with fail
        go_loopw [15, 16] (fun v i wr => ∃ (k n4 : Nat) (A4 : Option Addr) (c4 : Nat), 1 ≤ k ∧ (k ≤ n3 ∨ k = 1) ∧ i = .int .i64 (k : Int) ∧ v = .slice A4 n4 c4 ∧ n4 = (repK vs (2 * k)).length ∧ RGo w4 A4 n4 c4 (repK vs (2 * k)) wr) (fun _ i _ => n3 - (intOf i).toNat)
        case atStart => exact ⟨1, 0, none, 0, Nat.le_refl _, .inr rfl, rfl, rfl, by rw [rep_none]; rfl, Below.refl _ _, by rw [rep_none]; exact World.ownsRow_nil _ _ _ _⟩
        case round =>
          obtain ⟨k, n4, A4, c4, hk1, hk, rfl, rfl, hn4, hG⟩ := hrel
          obtain ⟨L1, hL1⟩ : ∃ L1, repK vs (2 * k) = L1 := ⟨_, rfl⟩
          have hlen := repK_len vs (2 * k)
          rw [hL1] at hn4 hG hlen
          have HL1 := Lib.hid hL1
          have HN1 := Lib.hid hn4
          have HG := Lib.hid hG
          have hn4b : n4 ≤ 1000 := by omega
          clear hL1 hn4 hlen hG
          by_cases hkn : k < n3
          · have dk : decide ((k : Int) < (n3 : Int)) = true := decide_eq_true (by omega)
            obtain ⟨u, hu⟩ : ∃ u, k - 1 = u := ⟨_, rfl⟩
            have hun : u < n3 := by omega
            obtain ⟨lb, lo, px, rfl, hlb, hpx, hp0, hp1⟩ := HWV5.out.at_ hun
            obtain ⟨lb', lo', py, hAA, _, hpy, hp2, hp3⟩ := HWV5.out.at_ hkn
            injection hAA with hAA
            injection hAA with q1 q2
            subst q1 q2
            have HT : Hid (repB vs (2 * k) = decide (py.1 = px.1) ∧ repB vs (2 * k + 1) = decide (py.2 = px.2)) := Lib.hid (by
              have h := third_rep (i := u) (x := px) (y := py) HTE.out HAL.out HDA.out (by rw [HWS.out]; exact hpx) (by rw [HWS.out, show u + 1 = k by omega]; exact hpy)
              rwa [HWS.out, HVS.out, show u + 1 = k by omega] at h)
            have HT1 := Lib.hid HT.out.1
            have HT2 := Lib.hid HT.out.2
            have HCC : Hid (∀ W, Below w4.heap.size w4 W → W.cell? ⟨lb, lo + u * 2 + 1, none⟩ = some (.int .i64 px.2) ∧ W.cell? ⟨lb, lo + k * 2 + 1, none⟩ = some (.int .i64 py.2)) := Lib.hid (fun W hW => ⟨(hW.cell (p := ⟨lb, lo + u * 2 + 1, none⟩) hlb).trans hp1, (hW.cell (p := ⟨lb, lo + k * 2 + 1, none⟩) hlb).trans hp3⟩)
            have g0 := (HG.out.be.cell (p := ⟨lb, lo + u * 2, none⟩) hlb).trans hp0
            have g1 := (HG.out.be.cell (p := ⟨lb, lo + k * 2, none⟩) hlb).trans hp2
            have g2 := (HCC.out wr HG.out.be).1
            have g3 := (HCC.out wr HG.out.be).2
            have wu2 : IntKind.i64.wrap ((k : Int) - 1) = (u : Int) := by rw [show (k : Int) - 1 = (u : Int) by omega]; exact IntWalk.i64_in _ (by omega)
            have w2k : IntKind.i64.wrap (2 * (k : Int)) = 2 * (k : Int) := IntWalk.i64_in _ (by omega)
            have w2k1 : IntKind.i64.wrap (2 * (k : Int) + 1) = 2 * (k : Int) + 1 := IntWalk.i64_in _ (by omega)
            have a0 : (0 : Int) ≤ (u : Int) := by omega
            have a1 : (u : Int) < (n3 : Int) := by omega
            have b0 : (0 : Int) ≤ (k : Int) := by omega
            have b1 : (k : Int) < (n3 : Int) := by omega
            clear hpx hpy hp0 hp1 hp2 hp3 hu HT wu
            obtain ⟨P1, hP1⟩ : ∃ P, px.1 = P := ⟨_, rfl⟩
            obtain ⟨P2, hP2⟩ : ∃ P, px.2 = P := ⟨_, rfl⟩
            obtain ⟨R1, hR1⟩ : ∃ P, py.1 = P := ⟨_, rfl⟩
            obtain ⟨R2, hR2⟩ : ∃ P, py.2 = P := ⟨_, rfl⟩
            rw [hP1] at g0
            rw [hR1] at g1
            rw [hP2] at g2
            rw [hR2] at g3
            rw [hP1, hR1] at HT1
            rw [hP2, hR2] at HT2
            rw [hP2, hR2] at HCC
            clear hP1 hP2 hR1 hR2
            cases hr1 : decide (R1 = P1) with
            | true =>
              have te1 : (R1 == P1) = true := by simpa using hr1
              have HM := Lib.hid ((rep_next (HT1.out.trans hr1) HL1.out HN1.out).1 rfl)
              clear hr1
              go_wp2_with fail
              go_quiet (fail)
              generalize hz : World.drewN wr _ = wz
              have HGz : Hid (RGo w4 A4 n4 c4 L1 wz) := Lib.hid (by rw [← hz]; exact HG.out.drewN _)
              have k2 : wz.cell? ⟨lb, lo + u * 2 + 1, none⟩ = some (.int .i64 P2) := by rw [← hz]; exact g2
              have k3 : wz.cell? ⟨lb, lo + k * 2 + 1, none⟩ = some (.int .i64 R2) := by rw [← hz]; exact g3
              clear hz g0 g1 g2 g3
              go_upto_region 18 with (first | (at_builtin; go_must (refine wpList_appR _ rfl (.tmp 99) (.tmp 102) 22 rfl 3 (.int .i64 0) 1 8 Try.underlying22 Try.infoI rfl (by decide) w4.heap.size _ n4 _ rfl (own_alloc HGz.out.ow _) (some ⟨wz.heap.size, 0, none⟩) 1 1 [.int .i64 (2 * (k : Int))] rfl (Rw.lit (p := fun _ => True) _ _ _ rfl 1 1 rfl rfl trivial) (by simp [Value.oneCell']) (by omega) (by omega) (by have := HGz.out.be.size; simp; omega) ?_; intro v3 w5 ho3 hg3 ha3; obtain ⟨A5, c5, hv3⟩ := own_slice ho3; subst hv3; have Hw5 := Lib.hid (HGz.out.app (L' := repK vs (2 * k + 1)) ho3 hg3 (by rw [HM.out.2]; rfl)); clear ho3 hg3 ha3)))
              have k2 : w5.cell? ⟨lb, lo + u * 2 + 1, none⟩ = some (.int .i64 P2) := (HCC.out w5 Hw5.out.be).1
              have k3 : w5.cell? ⟨lb, lo + k * 2 + 1, none⟩ = some (.int .i64 R2) := (HCC.out w5 Hw5.out.be).2
              cases hr2 : decide (R2 = P2) with
              | true =>
                have te2 : (R2 == P2) = true := by simpa using hr2
                have HM2 := Lib.hid ((rep_next (HT2.out.trans hr2) rfl HM.out.1).1 rfl)
                clear hr2
                go_wp2_with fail
                go_quiet (fail)
                generalize hz : World.drewN w5 _ = wy
                have HGy : Hid (RGo w4 A5 (n4 + 1) c5 (repK vs (2 * k + 1)) wy) := Lib.hid (by rw [← hz]; exact Hw5.out.drewN _)
                clear hz k2 k3
                go_wp2_with (first | (at_builtin; go_must (refine wpList_appR _ rfl (.tmp 116) (.tmp 120) 22 rfl 3 (.int .i64 0) 1 8 Try.underlying22 Try.infoI rfl (by decide) w4.heap.size _ (n4 + 1) _ rfl (own_alloc HGy.out.ow _) (some ⟨wy.heap.size, 0, none⟩) 1 1 [.int .i64 (2 * (k : Int) + 1)] rfl (Rw.lit (p := fun _ => True) _ _ _ rfl 1 1 rfl rfl trivial) (by simp [Value.oneCell']) (by omega) (by omega) (by have := HGy.out.be.size; simp; omega) ?_; intro v3 w8 ho3 hg3 ha3; obtain ⟨A6, c6, hv3⟩ := own_slice ho3; subst hv3; have Hw8 := Lib.hid (HGy.out.app (L' := repK vs (2 * k + 1 + 1)) ho3 hg3 (by rw [HM2.out.2]; rfl)); clear ho3 hg3 ha3)))
                go_roundw
                case rel => exact ⟨k + 1, (n4 + 1) + 1, _, _, by omega, .inl (by omega), by go_num, rfl, HM2.out.1, Hw8.out⟩
                case measure => (simp [intOf]; try omega)
              | false =>
                have te2 : (R2 == P2) = false := by simpa using hr2
                have HM2 := Lib.hid ((rep_next (HT2.out.trans hr2) rfl HM.out.1).2 rfl)
                clear hr2
                go_wp2_with fail
                go_quiet (fail)
                generalize hz : World.drewN w5 _ = wy
                have HGy : Hid (RGo w4 A5 (n4 + 1) c5 (repK vs (2 * k + 1)) wy) := Lib.hid (by rw [← hz]; exact Hw5.out.drewN _)
                clear hz k2 k3
                have Hw8 : Hid (RGo w4 A5 (n4 + 1) c5 (repK vs (2 * k + 1 + 1)) wy) := Lib.hid (by have h := HGy.out; exact ⟨h.be, by rw [HM2.out.2]; exact h.ow⟩)
                go_wp2_with fail
                go_roundw
                case rel => exact ⟨k + 1, (n4 + 1), _, _, by omega, .inl (by omega), by go_num, rfl, HM2.out.1, Hw8.out⟩
                case measure => (simp [intOf]; try omega)
            | false =>
              have te1 : (R1 == P1) = false := by simpa using hr1
              have HM := Lib.hid ((rep_next (HT1.out.trans hr1) HL1.out HN1.out).2 rfl)
              clear hr1
              go_wp2_with fail
              go_quiet (fail)
              generalize hz : World.drewN wr _ = wz
              have HGz : Hid (RGo w4 A4 n4 c4 L1 wz) := Lib.hid (by rw [← hz]; exact HG.out.drewN _)
              have k2 : wz.cell? ⟨lb, lo + u * 2 + 1, none⟩ = some (.int .i64 P2) := by rw [← hz]; exact g2
              have k3 : wz.cell? ⟨lb, lo + k * 2 + 1, none⟩ = some (.int .i64 R2) := by rw [← hz]; exact g3
              clear hz g0 g1 g2 g3
              have Hw5 : Hid (RGo w4 A4 n4 c4 (repK vs (2 * k + 1)) wz) := Lib.hid (by have h := HGz.out; exact ⟨h.be, by rw [HM.out.2]; exact h.ow⟩)
              cases hr2 : decide (R2 = P2) with
              | true =>
                have te2 : (R2 == P2) = true := by simpa using hr2
                have HM2 := Lib.hid ((rep_next (HT2.out.trans hr2) rfl HM.out.1).1 rfl)
                clear hr2
                go_wp2_with fail
                go_quiet (fail)
                generalize hz : World.drewN wz _ = wy
                have HGy : Hid (RGo w4 A4 n4 c4 (repK vs (2 * k + 1)) wy) := Lib.hid (by rw [← hz]; exact Hw5.out.drewN _)
                clear hz k2 k3
                go_wp2_with (first | (at_builtin; go_must (refine wpList_appR _ rfl (.tmp 116) (.tmp 120) 22 rfl 3 (.int .i64 0) 1 8 Try.underlying22 Try.infoI rfl (by decide) w4.heap.size _ n4 _ rfl (own_alloc HGy.out.ow _) (some ⟨wy.heap.size, 0, none⟩) 1 1 [.int .i64 (2 * (k : Int) + 1)] rfl (Rw.lit (p := fun _ => True) _ _ _ rfl 1 1 rfl rfl trivial) (by simp [Value.oneCell']) (by omega) (by omega) (by have := HGy.out.be.size; simp; omega) ?_; intro v3 w8 ho3 hg3 ha3; obtain ⟨A6, c6, hv3⟩ := own_slice ho3; subst hv3; have Hw8 := Lib.hid (HGy.out.app (L' := repK vs (2 * k + 1 + 1)) ho3 hg3 (by rw [HM2.out.2]; rfl)); clear ho3 hg3 ha3)))
                go_roundw
                case rel => exact ⟨k + 1, n4 + 1, _, _, by omega, .inl (by omega), by go_num, rfl, HM2.out.1, Hw8.out⟩
                case measure => (simp [intOf]; try omega)
              | false =>
                have te2 : (R2 == P2) = false := by simpa using hr2
                have HM2 := Lib.hid ((rep_next (HT2.out.trans hr2) rfl HM.out.1).2 rfl)
                clear hr2
                go_wp2_with fail
                go_quiet (fail)
                generalize hz : World.drewN wz _ = wy
                have HGy : Hid (RGo w4 A4 n4 c4 (repK vs (2 * k + 1)) wy) := Lib.hid (by rw [← hz]; exact Hw5.out.drewN _)
                clear hz k2 k3
                have Hw8 : Hid (RGo w4 A4 n4 c4 (repK vs (2 * k + 1 + 1)) wy) := Lib.hid (by have h := HGy.out; exact ⟨h.be, by rw [HM2.out.2]; exact h.ow⟩)
                go_wp2_with fail
                go_roundw
                case rel => exact ⟨k + 1, n4, _, _, by omega, .inl (by omega), by go_num, rfl, HM2.out.1, Hw8.out⟩
                case measure => (simp [intOf]; try omega)
          · have dk : decide ((k : Int) < (n3 : Int)) = false := decide_eq_false (by omega)
            have hLQ : L1 = Q := by
              rw [← HL1.out, ← HQ.out]
              rcases (by omega : k = n3 ∨ n3 = 0 ∧ k = 1) with h | ⟨h, h'⟩
              · rw [h]
              · rw [h, h', rep_none]; rfl
            have hnn : n4 = na := by have := HN1.out; have := HNA.out; rw [hLQ] at *; omega
            subst hnn
            have HLQ := Lib.hid hLQ
            clear hLQ wu
            have HS := Lib.hid (ref_SameInts Aa A4 n4 ca c4 Q wr HNA.out (HRa.out.ext HG.out.be) (by
              obtain ⟨A5, c5, hv, hrw⟩ := own_rw (p := fun _ => True) HG.out.ow (fun _ _ => trivial)
              injection hv with q1 q2 q3
              subst q1
              rw [← HLQ.out]
              exact hrw) (by omega))
            have HBY := Lib.hid (HB4.out.trans (HG.out.be.mono HB4.out.size))
            go_wp2_with fail
            refine HS.out.mono ?_
            rintro e8 w8 ⟨rfl, m8, hw8⟩
            have HBZ : Hid (Below w.heap.size w w8) := Lib.hid (by rw [hw8]; exact below_drewN HBY.out _)
            clear hw8
            go_wp2_with fail
            refine (cad_awake w8).mono ?_
            rintro e9 w9 ⟨rfl, hb9⟩
            have hbb := HBZ.out.trans (hb9.mono HBZ.out.size)
            clear hb9
            go_wp2_with fail
            go_ret
            exact ⟨rfl, hbb⟩
end Go.Proofs.Ytclainbjidajbaa
