/- CadenceInverse. -/
import Derived.Test.YtclainbjidajbaaLPul
import Derived.Test.YtclainbjidajbaaRsP
import Derived.Test.YtclainbjidajbaaInvM
import Derived.Test.YtclainbjidajbaaWeaveP
namespace Go.Proofs.Ytclainbjidajbaa
open Go.RowKit

set_option maxRecDepth 100000 in
set_option maxHeartbeats 4000000 in
theorem law_CadenceInverse {p : Nat → Prop} (A : Option Addr) (n c : Nat) (L : List Int) (a b cc d : Int) (w : World) (hi : Its .i64 p w A n L) (hok : IntsOk L) (ha : I64 a) (hb : I64 b) (hc : I64 cc) (hd : I64 d) :
    Calls Try.prog 7 #[.slice A n c, .agg #[.int .i64 a, .int .i64 b], .agg #[.int .i64 cc, .int .i64 d]] w fun e w' => e = .returned (.bool true) ∧ Below w.heap.size w w' := by
  have HI := Lib.hid hi
  clear hi
  have x0 := (Bx.new w 40 #[.int .i64 a, .int .i64 b]).alloc (.cells #[.int .i64 cc, .int .i64 d] 40)
  have x1 := Bx.new' (w.alloc (.cells #[.int .i64 a, .int .i64 b] 40)) 40 #[.int .i64 cc, .int .i64 d] (w.heap.size + 1) (by simp)
  have B0 := ((Below.refl w.heap.size w).alloc (Nat.le_refl _) (.cells #[.int .i64 a, .int .i64 b] 40)).alloc (by simp) (.cells #[.int .i64 cc, .int .i64 d] 40)
  have hi0 := (HI.out.alloc (.cells #[.int .i64 a, .int .i64 b] 40)).alloc (.cells #[.int .i64 cc, .int .i64 d] 40)
  go_enter Try.func7, Try.ntmps7
  go_upto_region 1 with fail
  generalize (w.alloc (.cells #[.int .i64 a, .int .i64 b] 40)).alloc (.cells #[.int .i64 cc, .int .i64 d] 40) = W0 at *
  have HF := Lib.hid (film_Frames A n c L 6 W0 hi0 hok (by omega))
  have HB0 := Lib.hid B0
  have HX0 := Lib.hid x0
  have HX1 := Lib.hid x1
  clear hi0 hok B0 x0 x1
  go_wp2_with fail
  refine HF.out.mono ?_
  rintro e1 w1 ⟨A1, c1, qs, s, rfl, hq, ho, hsz, hs, hb1⟩
  obtain ⟨fs, hfs⟩ : ∃ fs, frs qs = fs := ⟨_, rfl⟩
  have HFS := Lib.hid hfs
  have HLF : Hid (fs.length = qs.length) := Lib.hid (by rw [← hfs]; simp [frs])
  have HAL : Hid (alikeF fs = true) := Lib.hid (by rw [← hfs]; exact film_alike hsz hs)
  have HFR : Hid (Frs (fun _ => True) (fun _ => True) w1 A1 qs.length qs) := Lib.hid (by
    obtain ⟨A3, c3, hv, hf⟩ := OwnF.frs (p := fun _ => True) ho (fun _ _ => trivial)
    injection hv with q1 q2 q3
    subst q1
    exact hf.mono (fun _ _ h => h) (fun _ _ _ => trivial))
  have HB1 := Lib.hid (HB0.out.trans (hb1.mono HB0.out.size))
  have f0 := (HX0.out.ext hb1).cell 0 rfl
  have f1 := (HX0.out.ext hb1).cell 1 rfl
  have f2 := (HX1.out.ext hb1).cell 0 rfl
  have f3 := (HX1.out.ext hb1).cell 1 rfl
  have HW := Lib.hid (cad_Weave (qs.length : Int) a b cc d w1 ha hb hc hd)
  have HQ6 := Lib.hid hq
  clear ho hsz hs hb1 hfs
  go_wp2_with fail
  refine HW.out.mono ?_
  rintro e2 w2 ⟨A2, n2, c2, rfl, hn2, hR2, hb2⟩
  have HB2 := Lib.hid (HB1.out.trans (hb2.mono HB1.out.size))
  have HFR2 := Lib.hid (HFR.out.ext hb2)
  clear f0 f1 f2 f3
  rcases weave_cases qs.length a b cc d with hE | ⟨ht, hwv, hwl⟩
  · generalize (weaveR (qs.length : Int) a b cc d).2 = E at *
    have tE : (E != 0) = true := by simpa using hE
    clear hn2 hR2 hE
    go_wp2_with fail
    refine (cad_awake w2).mono ?_
    rintro e3 w3 ⟨rfl, hb3⟩
    have hbb := HB2.out.trans (hb3.mono HB2.out.size)
    clear hb3
    go_wp2_with fail
    go_ret
    exact ⟨rfl, hbb⟩
  · rw [hwv] at hn2 hR2 ⊢
    obtain ⟨ws, hws⟩ : ∃ ws, wvL fs.length a b cc d = ws := ⟨_, rfl⟩
    rw [← HLF.out, hws] at hn2 hR2 hwl
    have HWS := Lib.hid hws
    have HTE := Lib.hid ht
    have HWL := Lib.hid hwl
    have hn2b : n2 ≤ 256 := by rw [hn2]; exact hwl
    have HWV : Hid (Wvs (fun _ => True) w2 A2 n2 ws) := Lib.hid ⟨hn2.symm, hR2.mono (fun _ _ _ => trivial)⟩
    have HOKW : Hid (ws.all (okW fs.length) = true) := Lib.hid (by rw [← hws]; exact wvL_ok _ _ _ _ _)
    have HPE := Lib.hid (pull_ok HAL.out HOKW.out HWL.out)
    clear hn2 hR2 hwv hwl ht hws hb2
    have HC3 : Hid (Calls Try.prog 13 #[.slice A1 qs.length c1, .slice A2 n2 c2] w2 (RetPl w2 0 (pullL fs ws))) := Lib.hid (by
      have := cad_Pull A1 qs.length c1 qs A2 n2 c2 ws w2 HFR2.out HWV.out (by have := HQ6.out; omega) (by omega)
      rwa [HFS.out, HPE.out.1, HPE.out.2] at this)
    go_wp2_with fail
    refine HC3.out.mono ?_
    rintro e3 w3 ⟨A3, n3, c3, ys, rfl, hf3, he3, hb3, _⟩
    have hn3 : n3 = n2 := by
      have h1 := hf3.1
      have h2 := congrArg List.length he3
      simp only [frs, pullL, List.length_map] at h2
      have h3 := HWV.out.1
      omega
    subst hn3
    have HB3 := Lib.hid (HB2.out.trans (hb3.mono HB2.out.size))
    have HFR3 := Lib.hid (HFR2.out.ext hb3)
    have HWV3 := Lib.hid (HWV.out.ext hb3)
    have HC4 : Hid (Calls Try.prog 16 #[.slice A3 n3 c3, .slice A2 n3 c2] w3 (RetPl w3 0 fs)) := Lib.hid (by
      have := cad_Restore A3 n3 c3 ys A2 n3 c2 ws w3 hf3 HWV3.out (by omega) (by omega)
      have hrp := rest_pull (ws := ws) HAL.out HOKW.out HWL.out (by have := HLF.out; have := HQ6.out; omega) (fun f hf => by rw [← HWS.out]; exact wvL_top HTE.out hf) (fun f hf => by rw [← HWS.out]; exact wvL_bot HTE.out hf)
      rwa [he3, hrp.1, hrp.2] at this)
    clear hf3 he3 hb3
    go_wp2_with fail
    refine HC4.out.mono ?_
    rintro e4 w4 ⟨A4, n4, c4, zs, rfl, hf4, he4, hb4, _⟩
    have HB4 := Lib.hid (HB3.out.trans (hb4.mono HB3.out.size))
    have HQ := Lib.hid (ref_Frames_eq A1 A4 qs.length c1 n4 c4 qs zs w4 (HFR3.out.ext hb4) hf4 (HFS.out.trans he4.symm) (by have := HQ6.out; omega))
    clear hf4 he4 hb4
    have tnn : ((n3 : Int) == (n3 : Int)) = true := by simp
    go_wp2_with fail
    refine HQ.out.mono ?_
    rintro e5 w5 ⟨rfl, hb5⟩
    have HB5 := Lib.hid (HB4.out.trans (hb5.mono HB4.out.size))
    clear hb5
    go_wp2_with fail
    refine (cad_awake w5).mono ?_
    rintro e6 w6 ⟨rfl, hb6⟩
    have hbb := HB5.out.trans (hb6.mono HB5.out.size)
    clear hb6
    go_wp2_with fail
    go_ret
    exact ⟨rfl, hbb⟩
end Go.Proofs.Ytclainbjidajbaa
