/- The reference's Pull. -/
import Derived.Test.YtclainbjidajbaaPlM
namespace Go.Proofs.Ytclainbjidajbaa
open Go.RowKit

structure PGR (w : World) (base : Nat) (v : Value) (n1 : Nat) (ys : List FA) (jf : Fr) (env : PE) (d1 d2 d3 : Bool) (W : World) : Prop where
  be : Below w.heap.size w W
  bs : base ≤ W.heap.size
  r0 : d3 = false → OwnF (base ≤ ·) W base v ys
  zo : d1 = true → d3 = false → FrmOk (fun b => base ≤ b ∧ some b ≠ v.ownBlock) W env.z ∧ env.z.f = jf
  zb : d2 = true → d3 = false → Bx W env.gb 27 #[.int .i64 env.z.f.W, .int .i64 env.z.f.H, .slice env.z.ya env.z.yn env.z.yc, .slice env.z.ua env.z.un env.z.uc, .slice env.z.va env.z.vn env.z.vc] ∧ some env.gb ≠ v.ownBlock
  r1 : d3 = true → OwnF (base ≤ ·) W base (.slice env.A3 (n1 + 1) env.c3) (ys ++ [env.z]) ∧ env.z.f = jf ∧ n1 + 1 ≤ env.c3
def plV (A1 : Option Addr) (n1 c1 b off n c bl ol m d kk ta tb : Nat) (xv yv : Value) (env : PE) : Nat → Value
  | 0 => .slice A1 n1 c1
  | 1 => .slice (some ⟨b, off, none⟩) n c
  | 2 => .slice (some ⟨bl, ol, none⟩) m d
  | 3 => .int .i64 (kk : Int)
  | 4 => .pointer (some ⟨bl, ol + kk * 2, none⟩)
  | 5 => .pointer (some ⟨bl, ol + kk * 2, none⟩)
  | 6 => .int .i64 (ta : Int)
  | 7 => .pointer (some ⟨b, off + ta * 5, none⟩)
  | 8 => xv
  | 9 => .slice (some ⟨b, off, none⟩) n c
  | 10 => .slice (some ⟨bl, ol, none⟩) m d
  | 11 => .int .i64 (kk : Int)
  | 12 => .pointer (some ⟨bl, ol + kk * 2, none⟩)
  | 13 => .pointer (some ⟨bl, ol + kk * 2 + 1, none⟩)
  | 14 => .int .i64 (tb : Int)
  | 15 => .pointer (some ⟨b, off + tb * 5, none⟩)
  | 16 => yv
  | 17 => env.z.val
  | 18 => .slice (some ⟨env.gb, 0, none⟩) 1 1
  | 19 => .slice env.A3 (n1 + 1) env.c3
  | _ => .slice env.A3 (n1 + 1) env.c3
theorem plV_env {A1 : Option Addr} {n1 c1 b off n c bl ol m d kk ta tb : Nat} {xv yv : Value} {env : PE} {z : FA} {j : Nat} (h1 : j ≠ 17) (h2 : j ≠ 18) (h3 : j ≠ 19) (h4 : j ≠ 20) (hl : j < 21) : plV A1 n1 c1 b off n c bl ol m d kk ta tb xv yv ⟨z, env.gb, env.A3, env.c3⟩ j = plV A1 n1 c1 b off n c bl ol m d kk ta tb xv yv env j := by
  rcases (show j = 0 ∨ j = 1 ∨ j = 2 ∨ j = 3 ∨ j = 4 ∨ j = 5 ∨ j = 6 ∨ j = 7 ∨ j = 8 ∨ j = 9 ∨ j = 10 ∨ j = 11 ∨ j = 12 ∨ j = 13 ∨ j = 14 ∨ j = 15 ∨ j = 16 ∨ j = 17 ∨ j = 18 ∨ j = 19 ∨ j = 20 by omega) with rfl | rfl | rfl | rfl | rfl | rfl | rfl | rfl | rfl | rfl | rfl | rfl | rfl | rfl | rfl | rfl | rfl | rfl | rfl | rfl | rfl <;> first | rfl | exact absurd rfl h1 | exact absurd rfl h2 | exact absurd rfl h3 | exact absurd rfl h4
theorem plV_env' {A1 : Option Addr} {n1 c1 b off n c bl ol m d kk ta tb : Nat} {xv yv : Value} {env : PE} {g : Nat} {j : Nat} {z : FA} (hz : z = env.z) (h2 : j ≠ 18) (h3 : j ≠ 19) (h4 : j ≠ 20) (hl : j < 21) : plV A1 n1 c1 b off n c bl ol m d kk ta tb xv yv ⟨z, g, env.A3, env.c3⟩ j = plV A1 n1 c1 b off n c bl ol m d kk ta tb xv yv env j := by
  subst hz
  rcases (show j = 0 ∨ j = 1 ∨ j = 2 ∨ j = 3 ∨ j = 4 ∨ j = 5 ∨ j = 6 ∨ j = 7 ∨ j = 8 ∨ j = 9 ∨ j = 10 ∨ j = 11 ∨ j = 12 ∨ j = 13 ∨ j = 14 ∨ j = 15 ∨ j = 16 ∨ j = 17 ∨ j = 18 ∨ j = 19 ∨ j = 20 by omega) with rfl | rfl | rfl | rfl | rfl | rfl | rfl | rfl | rfl | rfl | rfl | rfl | rfl | rfl | rfl | rfl | rfl | rfl | rfl | rfl | rfl <;> first | rfl | exact absurd rfl h2 | exact absurd rfl h3 | exact absurd rfl h4
theorem plV_env2 {A1 : Option Addr} {n1 c1 b off n c bl ol m d kk ta tb : Nat} {xv yv : Value} {env : PE} {A3 : Option Addr} {c3 : Nat} {j : Nat} {z : FA} {g : Nat} (hz : z = env.z) (hg : g = env.gb) (h3 : j ≠ 19) (h4 : j ≠ 20) (hl : j < 21) : plV A1 n1 c1 b off n c bl ol m d kk ta tb xv yv ⟨z, g, A3, c3⟩ j = plV A1 n1 c1 b off n c bl ol m d kk ta tb xv yv env j := by
  subst hz hg
  rcases (show j = 0 ∨ j = 1 ∨ j = 2 ∨ j = 3 ∨ j = 4 ∨ j = 5 ∨ j = 6 ∨ j = 7 ∨ j = 8 ∨ j = 9 ∨ j = 10 ∨ j = 11 ∨ j = 12 ∨ j = 13 ∨ j = 14 ∨ j = 15 ∨ j = 16 ∨ j = 17 ∨ j = 18 ∨ j = 19 ∨ j = 20 by omega) with rfl | rfl | rfl | rfl | rfl | rfl | rfl | rfl | rfl | rfl | rfl | rfl | rfl | rfl | rfl | rfl | rfl | rfl | rfl | rfl | rfl <;> first | rfl | exact absurd rfl h3 | exact absurd rfl h4

set_option maxRecDepth 100000 in
set_option maxHeartbeats 8000000 in
theorem ref_Pull {p q p' : Nat → Prop} (A : Option Addr) (n c : Nat) (xs : List FA) (B : Option Addr) (m d : Nat) (ws : List (Int × Int)) (w : World) (h : Frs p q w A n xs) (h' : Wvs p' w B m ws) (hn : n ≤ 100000000000000) (hm : m ≤ 100000000000000) :
    Calls Try.prog 14 #[.slice A n c, .slice B m d] w (RetPl w (pullE (frs xs) ws) (pullF (frs xs) ws)) := by
  have H := Lib.hid h
  have H' := Lib.hid h'
  have HLX : Hid ((frs xs).length = n) := Lib.hid (by simp [frs, h.1])
  have HAL := Lib.hid (fun w h => ref_Alike (p := p) (q := q) A n c xs w h hn)
  clear h h'
  cases hal : alikeF (frs xs) with
  | false =>
    obtain ⟨e1, e2⟩ := pull_alike (ws := ws) hal
    rw [e1, e2]
    rw [hal] at HAL
    clear e1 e2 hal
    go_enter Try.func14, Try.ntmps14
    go_wp2_with fail
    refine (HAL.out _ H.out).mono ?_
    rintro e w1 ⟨rfl, hb1⟩
    go_wp2_with fail
    go_ret2
    exact ⟨none, 0, 0, [], rfl, Frs.nil, rfl, hb1, Nat.le_refl _⟩
  | true =>
    rw [hal] at HAL
    have HT := Lib.hid hal
    clear hal
    go_enter Try.func14, Try.ntmps14
    go_wp2_with fail
    refine (HAL.out _ H.out).mono ?_
    rintro e w1 ⟨rfl, hb1⟩
    go_wp2_with fail
    go_loopw [6] (fun i wr => ∃ k : Nat, k ≤ m ∧ i = .int .i64 (k : Int) ∧ (∀ j x, j < k → ws[j]? = some x → okW n x = true) ∧ Below w.heap.size w wr) (fun i _ => m - (intOf i).toNat)
    case atStart => exact ⟨0, Nat.zero_le _, rfl, fun j x hj => absurd hj (Nat.not_lt_zero _), hb1⟩
    case round =>
      obtain ⟨k, hk, rfl, hok, hb⟩ := hrel
      have HOK := Lib.hid hok
      clear hok hb1
      by_cases hlt : k < m
      · obtain ⟨bl, ol, ⟨a, b2⟩, rfl, hbl, hx, hc0, hc1⟩ := (H'.out.ext hb).at_ hlt
        dsimp only at hc0 hc1
        have HX := Lib.hid hx
        have k0 : (0 : Int) ≤ (k : Int) := by omega
        have k1 : (k : Int) < (m : Int) := by omega
        clear hx
        rcases (by omega : a < 0 ∨ (0 ≤ a ∧ (n : Int) ≤ a) ∨ (0 ≤ a ∧ a < n ∧ b2 < 0) ∨ (0 ≤ a ∧ a < n ∧ 0 ≤ b2 ∧ (n : Int) ≤ b2) ∨ (0 ≤ a ∧ a < n ∧ 0 ≤ b2 ∧ b2 < n)) with h | ⟨h1, h2⟩ | ⟨h1, h2, h3⟩ | ⟨h1, h2, h3, h4⟩ | ⟨h1, h2, h3, h4⟩
        case inr.inr.inr.inr =>
          have d1 : decide (a < 0) = false := decide_eq_false (by omega)
          have d2 : decide ((n : Int) ≤ a) = false := decide_eq_false (by omega)
          have d3 : decide (b2 < 0) = false := decide_eq_false (by omega)
          have d4 : decide ((n : Int) ≤ b2) = false := decide_eq_false (by omega)
          go_wp2_with fail
          go_roundw
          case rel =>
            refine ⟨k + 1, by omega, by go_num, fun j x hj hx => ?_, hb⟩
            rcases Nat.lt_succ_iff_lt_or_eq.1 hj with h | rfl
            · exact HOK.out j x h hx
            · rw [HX.out] at hx
              injection hx with hx
              rw [← hx]
              exact okW_iff.2 ⟨h1, h2, h3, h4⟩
          case measure => (simp [intOf]; try omega)
        all_goals
          have hbad : okW n (a, b2) = false := by rw [← Bool.not_eq_true, okW_iff]; dsimp only; omega
          obtain ⟨e1, e2⟩ := pull_bad HT.out (all_false (f := okW (frs xs).length) HX.out (by rw [HLX.out]; exact hbad))
          have HE1 := Lib.hid e1
          have HE2 := Lib.hid e2
          clear e1 e2 hbad
        · have d1 : decide (a < 0) = true := decide_eq_true (by omega)
          go_wp2_with fail
          go_ret2
          exact ⟨none, 0, 0, [], by rw [HE1.out]; rfl, Frs.nil, HE2.out.symm, hb, Nat.le_refl _⟩
        · have d1 : decide (a < 0) = false := decide_eq_false (by omega)
          have d2 : decide ((n : Int) ≤ a) = true := decide_eq_true (by omega)
          go_wp2_with fail
          go_ret2
          exact ⟨none, 0, 0, [], by rw [HE1.out]; rfl, Frs.nil, HE2.out.symm, hb, Nat.le_refl _⟩
        · have d1 : decide (a < 0) = false := decide_eq_false (by omega)
          have d2 : decide ((n : Int) ≤ a) = false := decide_eq_false (by omega)
          have d3 : decide (b2 < 0) = true := decide_eq_true (by omega)
          go_wp2_with fail
          go_ret2
          exact ⟨none, 0, 0, [], by rw [HE1.out]; rfl, Frs.nil, HE2.out.symm, hb, Nat.le_refl _⟩
        · have d1 : decide (a < 0) = false := decide_eq_false (by omega)
          have d2 : decide ((n : Int) ≤ a) = false := decide_eq_false (by omega)
          have d3 : decide (b2 < 0) = false := decide_eq_false (by omega)
          have d4 : decide ((n : Int) ≤ b2) = true := decide_eq_true (by omega)
          go_wp2_with fail
          go_ret2
          exact ⟨none, 0, 0, [], by rw [HE1.out]; rfl, Frs.nil, HE2.out.symm, hb, Nat.le_refl _⟩
      · have hkn : k = m := by omega
        subst hkn
        have HWL := Lib.hid H'.out.1
        have hall : ws.all (okW (frs xs).length) = true := all_true HWL.out (by rw [HLX.out]; exact HOK.out)
        have HALL := Lib.hid hall
        clear hall
        by_cases hlong : 256 < k
        · obtain ⟨e1, e2⟩ := pull_long HT.out HALL.out (by rw [HWL.out]; exact hlong)
          have HE1 := Lib.hid e1
          have HE2 := Lib.hid e2
          clear e1 e2
          have d1 : decide (256 < (k : Int)) = true := decide_eq_true (by omega)
          go_wp2_with fail
          go_ret2
          exact ⟨none, 0, 0, [], by rw [HE1.out]; rfl, Frs.nil, HE2.out.symm, hb, Nat.le_refl _⟩
        · obtain ⟨e1, e2⟩ := pull_ok HT.out HALL.out (by rw [HWL.out]; omega)
          have HE1 := Lib.hid e1
          have HE2 := Lib.hid e2
          clear e1 e2
          have d1 : decide (256 < (k : Int)) = false := decide_eq_false (by omega)
          have hk256 : k ≤ 256 := by omega
          obtain ⟨SW, SH, hsz⟩ := alike_sz HT.out
          have HSZ := Lib.hid hsz
          have HB := Lib.hid hb
          clear hsz hb
          go_wp2_with fail
          go_loopw [7, 8] (fun o i wr => ∃ (kk : Nat) (A1 : Option Addr) (c1 : Nat) (ys : List FA), kk ≤ k ∧ i = .int .i64 (kk : Int) ∧ o = .slice A1 kk c1 ∧ ys.length = kk ∧ frs ys = pullL (frs xs) (ws.take kk) ∧ OwnF (w.heap.size ≤ ·) wr w.heap.size (.slice A1 kk c1) ys ∧ Below w.heap.size w wr) (fun _ i _ => k - (intOf i).toNat)
          case atStart => exact ⟨0, none, 0, [], Nat.zero_le _, rfl, rfl, rfl, by simp [frs, pullL], OwnF.nil, HB.out⟩
          case round =>
            obtain ⟨kk, A1, c1, ys, hkk, rfl, rfl, hyl, hyf, ho, hb⟩ := hrel
            have HO := Lib.hid ho
            have HYF := Lib.hid hyf
            have HYL := Lib.hid hyl
            clear ho hyf hyl
            by_cases hlt : kk < k
            · obtain ⟨bl, ol, ⟨a, b2⟩, rfl, hbl, hx, hc0, hc1⟩ := H'.out.at_ hlt
              dsimp only at hc0 hc1
              obtain ⟨g1, g2, g3, g4⟩ := okW_iff.1 (HOK.out kk (a, b2) hlt hx)
              dsimp only at g1 g2 g3 g4
              obtain ⟨ta, hta⟩ := Int.eq_ofNat_of_zero_le g1
              obtain ⟨tb, htb⟩ := Int.eq_ofNat_of_zero_le g3
              subst hta htb
              obtain ⟨b, off, x, rfl, hbf, hxx, hox, xc0, xc1, xc2, xc3, xc4⟩ := H.out.at_ (show ta < n by omega)
              obtain ⟨b', off', y, hAA, hbf', hyy, hoy, yc0, yc1, yc2, yc3, yc4⟩ := H.out.at_ (show tb < n by omega)
              injection hAA with hAA
              injection hAA with q1 q2
              subst q1 q2
              have hjf : joinF (frAt (frs xs) (ta : Int)) (frAt (frs xs) (tb : Int)) = joinF x.f y.f := by rw [frAt_of rfl hxx, frAt_of rfl hyy]
              have HSTEP : Hid (pullL (frs xs) (ws.take (kk + 1)) = pullL (frs xs) (ws.take kk) ++ [joinF x.f y.f]) := Lib.hid (by
                rw [take_snoc_at hx, pullL, List.map_append, ← pullL]; simp [hjf])
              have sx := HSZ.out x.f (List.mem_of_getElem? (frs_at hxx))
              have sy := HSZ.out y.f (List.mem_of_getElem? (frs_at hyy))
              have hxw := (H.out.2.2 x (List.mem_of_getElem? hxx))
              have hyw := (H.out.2.2 y (List.mem_of_getElem? hyy))
              have HC := Lib.hid (fun w' (h : Below w.heap.size w w') => ref_Join x y SW SH w' (hxw.ext h) (hyw.ext h) sx sy)
              have HN1 : Hid (kk + 1 ≤ 100000000) := Lib.hid (by omega)
              have k0 : (0 : Int) ≤ (kk : Int) := by omega
              have k1 : (kk : Int) < (k : Int) := by omega
              have a0 : (0 : Int) ≤ (ta : Int) := by omega
              have a1 : (ta : Int) < (n : Int) := by omega
              have ta1 : ta < n := by omega
              have b0 : (0 : Int) ≤ (tb : Int) := by omega
              have b1 : (tb : Int) < (n : Int) := by omega
              have tb1 : tb < n := by omega
              have HB2 := Lib.hid hb
              have HXC : Hid (∀ W, Below w.heap.size w W → W.cell? ⟨b, off + ta * 5, none⟩ = some (.int .i64 x.f.W) ∧ W.cell? ⟨b, off + ta * 5 + 1, none⟩ = some (.int .i64 x.f.H) ∧ W.cell? ⟨b, off + ta * 5 + 2, none⟩ = some (.slice x.ya x.yn x.yc) ∧ W.cell? ⟨b, off + ta * 5 + 3, none⟩ = some (.slice x.ua x.un x.uc) ∧ W.cell? ⟨b, off + ta * 5 + 4, none⟩ = some (.slice x.va x.vn x.vc)) := Lib.hid (fun W hW =>
                have e : ∀ (bb o : Nat) (v : Value), bb < w.heap.size → w.cell? ⟨bb, o, none⟩ = some v → W.cell? ⟨bb, o, none⟩ = some v := fun bb o v h1 h2 => (hW.cell (p := ⟨bb, o, none⟩) h1).trans h2
                ⟨e _ _ _ hbf xc0, e _ _ _ hbf xc1, e _ _ _ hbf xc2, e _ _ _ hbf xc3, e _ _ _ hbf xc4⟩)
              have HYC : Hid (∀ W, Below w.heap.size w W → W.cell? ⟨b, off + tb * 5, none⟩ = some (.int .i64 y.f.W) ∧ W.cell? ⟨b, off + tb * 5 + 1, none⟩ = some (.int .i64 y.f.H) ∧ W.cell? ⟨b, off + tb * 5 + 2, none⟩ = some (.slice y.ya y.yn y.yc) ∧ W.cell? ⟨b, off + tb * 5 + 3, none⟩ = some (.slice y.ua y.un y.uc) ∧ W.cell? ⟨b, off + tb * 5 + 4, none⟩ = some (.slice y.va y.vn y.vc)) := Lib.hid (fun W hW =>
                have e : ∀ (bb o : Nat) (v : Value), bb < w.heap.size → w.cell? ⟨bb, o, none⟩ = some v → W.cell? ⟨bb, o, none⟩ = some v := fun bb o v h1 h2 => (hW.cell (p := ⟨bb, o, none⟩) h1).trans h2
                ⟨e _ _ _ hbf yc0, e _ _ _ hbf yc1, e _ _ _ hbf yc2, e _ _ _ hbf yc3, e _ _ _ hbf yc4⟩)
              have HWC : Hid (∀ W, Below w.heap.size w W → W.cell? ⟨bl, ol + kk * 2, none⟩ = some (.int .i64 (ta : Int)) ∧ W.cell? ⟨bl, ol + kk * 2 + 1, none⟩ = some (.int .i64 (tb : Int))) := Lib.hid (fun W hW =>
                have e : ∀ (bb o : Nat) (v : Value), bb < w.heap.size → w.cell? ⟨bb, o, none⟩ = some v → W.cell? ⟨bb, o, none⟩ = some v := fun bb o v h1 h2 => (hW.cell (p := ⟨bb, o, none⟩) h1).trans h2
                ⟨e _ _ _ hbl hc0, e _ _ _ hbl hc1⟩)
              clear hx hxx hyy hox hoy xc0 xc1 xc2 xc3 xc4 yc0 yc1 yc2 yc3 yc4 hc0 hc1 sx sy hxw hyw hjf hb
              go_upto_region 14 with fail
              refine wp_region_fixedE (plV A1 kk c1 b off n c bl ol k d kk ta tb x.val y.val) (fun env D W => PGR w w.heap.size (.slice A1 kk c1) kk ys (joinF x.f y.f) env (D 17) (D 18) (D 19) W) ⟨x, 0, none, 0⟩ (by kernel_rfl) (by kernel_rfl) (by kernel_rfl) ?h0 ?hstep ?hend
              case h0 => exact ⟨HB2.out.drew, HB2.out.size, fun _ => HO.out.ext ((Below.refl _ _).drew), fun h => (by cases h), fun h => (by cases h), fun h => (by cases h)⟩
              case hstep =>
                intro k' o ho env D ac wx fr hG hcl hDi hpre hun
                obtain ⟨x0, y0⟩ := HWC.out wx hG.be
                obtain ⟨x1, x2, x3, x4, x5⟩ := HXC.out wx hG.be
                obtain ⟨y1, y2, y3, y4, y5⟩ := HYC.out wx hG.be
                have o0 : ac.tmps[0]?.getD undef = .slice (some ⟨b, off, none⟩) n c := fr.oldT 0 rfl
                have o1 : ac.tmps[1]?.getD undef = .slice (some ⟨bl, ol, none⟩) k d := fr.oldT 1 rfl
                have o8 : ac.tmps[8]?.getD undef = .int .i64 (kk : Int) := fr.oldT 8 rfl
                have hkn : k' < 21 := (List.getElem?_eq_some_iff.1 ho).1
                rcases (show k' = 0 ∨ k' = 1 ∨ k' = 2 ∨ k' = 3 ∨ k' = 4 ∨ k' = 5 ∨ k' = 6 ∨ k' = 7 ∨ k' = 8 ∨ k' = 9 ∨ k' = 10 ∨ k' = 11 ∨ k' = 12 ∨ k' = 13 ∨ k' = 14 ∨ k' = 15 ∨ k' = 16 ∨ k' = 17 ∨ k' = 18 ∨ k' = 19 ∨ k' = 20 by omega) with rfl | rfl | rfl | rfl | rfl | rfl | rfl | rfl | rfl | rfl | rfl | rfl | rfl | rfl | rfl | rfl | rfl | rfl | rfl | rfl | rfl
                all_goals (simp only [List.getElem?_cons_zero, List.getElem?_cons_succ, Option.some.injEq] at ho; subst ho)
                · have d20 : D 20 = false := by
                    cases h : D 20 with
                    | false => rfl
                    | true => have h2 := hcl 20 _ rfl h ⟨0, .phase⟩ (by simp) rfl; rw [hDi] at h2; cases h2
                  have o7 : ac.tmps[7]?.getD undef = .slice A1 kk c1 := (congrArg (·.getD undef) (hun 20 _ 7 d20 rfl rfl)).trans rfl
                  refine ⟨true, rfl, fun _ => wp_value (w' := wx) ?_ ⟨env, fun _ _ _ => rfl, rfl, hG⟩, (fun h => by cases h)⟩
                  simp [execOp, o7, plV, go_sem]
                · refine ⟨true, rfl, fun _ => wp_value (w' := wx) ?_ ⟨env, fun _ _ _ => rfl, rfl, hG⟩, (fun h => by cases h)⟩
                  simp [execOp, o0, plV, go_sem]
                · refine ⟨true, rfl, fun _ => wp_value (w' := wx) ?_ ⟨env, fun _ _ _ => rfl, rfl, hG⟩, (fun h => by cases h)⟩
                  simp [execOp, o1, plV, go_sem]
                · refine ⟨true, rfl, fun _ => wp_value (w' := wx) ?_ ⟨env, fun _ _ _ => rfl, rfl, hG⟩, (fun h => by cases h)⟩
                  simp [execOp, o8, plV, go_sem]
                · have f2 := fr.atT 2 (hpre ⟨2, .data⟩ (by simp) rfl) rfl
                  have f3 := fr.atT 3 (hpre ⟨3, .data⟩ (by simp) rfl) rfl
                  refine ⟨true, rfl, fun _ => wp_value (w' := wx) ?_ ⟨env, fun _ _ _ => rfl, rfl, hG⟩, (fun h => by cases h)⟩
                  simp [execOp, f2, f3, plV, go_sem, k0, k1, hlt]
                · have f4 := fr.atT 4 (hpre ⟨4, .data⟩ (by simp) rfl) rfl
                  refine ⟨true, rfl, fun _ => wp_value (w' := wx) ?_ ⟨env, fun _ _ _ => rfl, rfl, hG⟩, (fun h => by cases h)⟩
                  simp [execOp, f4, plV, go_sem]
                · have f5 := fr.atT 5 (hpre ⟨5, .data⟩ (by simp) rfl) rfl
                  refine ⟨true, rfl, fun _ => wp_value (w' := wx) ?_ ⟨env, fun _ _ _ => rfl, rfl, hG⟩, (fun h => by cases h)⟩
                  simp [execOp, f5, plV, go_sem, x0]
                · have f1 := fr.atT 1 (hpre ⟨1, .data⟩ (by simp) rfl) rfl
                  have f6 := fr.atT 6 (hpre ⟨6, .data⟩ (by simp) rfl) rfl
                  refine ⟨true, rfl, fun _ => wp_value (w' := wx) ?_ ⟨env, fun _ _ _ => rfl, rfl, hG⟩, (fun h => by cases h)⟩
                  simp [execOp, f1, f6, plV, go_sem, a0, a1, ta1]
                · have f7 := fr.atT 7 (hpre ⟨7, .data⟩ (by simp) rfl) rfl
                  refine ⟨true, rfl, fun _ => wp_value (w' := wx) ?_ ⟨env, fun _ _ _ => rfl, rfl, hG⟩, (fun h => by cases h)⟩
                  simp [execOp, f7, plV, go_sem, x1, x2, x3, x4, x5, FA.val]
                · refine ⟨true, rfl, fun _ => wp_value (w' := wx) ?_ ⟨env, fun _ _ _ => rfl, rfl, hG⟩, (fun h => by cases h)⟩
                  simp [execOp, o0, plV, go_sem]
                · refine ⟨true, rfl, fun _ => wp_value (w' := wx) ?_ ⟨env, fun _ _ _ => rfl, rfl, hG⟩, (fun h => by cases h)⟩
                  simp [execOp, o1, plV, go_sem]
                · refine ⟨true, rfl, fun _ => wp_value (w' := wx) ?_ ⟨env, fun _ _ _ => rfl, rfl, hG⟩, (fun h => by cases h)⟩
                  simp [execOp, o8, plV, go_sem]
                · have f10 := fr.atT 10 (hpre ⟨10, .data⟩ (by simp) rfl) rfl
                  have f11 := fr.atT 11 (hpre ⟨11, .data⟩ (by simp) rfl) rfl
                  refine ⟨true, rfl, fun _ => wp_value (w' := wx) ?_ ⟨env, fun _ _ _ => rfl, rfl, hG⟩, (fun h => by cases h)⟩
                  simp [execOp, f10, f11, plV, go_sem, k0, k1, hlt]
                · have f12 := fr.atT 12 (hpre ⟨12, .data⟩ (by simp) rfl) rfl
                  refine ⟨true, rfl, fun _ => wp_value (w' := wx) ?_ ⟨env, fun _ _ _ => rfl, rfl, hG⟩, (fun h => by cases h)⟩
                  simp [execOp, f12, plV, go_sem]
                · have f13 := fr.atT 13 (hpre ⟨13, .data⟩ (by simp) rfl) rfl
                  refine ⟨true, rfl, fun _ => wp_value (w' := wx) ?_ ⟨env, fun _ _ _ => rfl, rfl, hG⟩, (fun h => by cases h)⟩
                  simp [execOp, f13, plV, go_sem, y0]
                · have f9 := fr.atT 9 (hpre ⟨9, .data⟩ (by simp) rfl) rfl
                  have f14 := fr.atT 14 (hpre ⟨14, .data⟩ (by simp) rfl) rfl
                  refine ⟨true, rfl, fun _ => wp_value (w' := wx) ?_ ⟨env, fun _ _ _ => rfl, rfl, hG⟩, (fun h => by cases h)⟩
                  simp [execOp, f9, f14, plV, go_sem, b0, b1, tb1]
                · have f15 := fr.atT 15 (hpre ⟨15, .data⟩ (by simp) rfl) rfl
                  refine ⟨true, rfl, fun _ => wp_value (w' := wx) ?_ ⟨env, fun _ _ _ => rfl, rfl, hG⟩, (fun h => by cases h)⟩
                  simp [execOp, f15, plV, go_sem, y1, y2, y3, y4, y5, FA.val]
                · have f8 := fr.atT 8 (hpre ⟨8, .data⟩ (by simp) rfl) rfl
                  have e8 := fr.at_ 8 (hpre ⟨8, .data⟩ (by simp) rfl) rfl
                  have f16 := fr.atT 16 (hpre ⟨16, .data⟩ (by simp) rfl) rfl
                  have e16 := fr.at_ 16 (hpre ⟨16, .data⟩ (by simp) rfl) rfl
                  refine ⟨true, rfl, fun _ => ?_, (fun h => by cases h)⟩
                  refine wp_called (f := 20) (args := #[x.val, y.val]) ?_ (HC.out _ hG.be) ?_
                  · simp [execOp, resolve, invoke, f8, e8, f16, e16, plV, go_sem]
                  · rintro e w' ⟨z, rfl, hzf, hzo, hb9⟩
                    have n3 : D 19 = false := by
                      cases h : D 19 with
                      | false => rfl
                      | true => have h2 := hcl 18 _ rfl (hcl 19 _ rfl h ⟨18, .data⟩ (by simp) rfl) ⟨17, .data⟩ (by simp) rfl; rw [hDi] at h2; cases h2
                    have n2 : D 18 = false := by
                      cases h : D 18 with
                      | false => rfl
                      | true => have h2 := hcl 18 _ rfl h ⟨17, .data⟩ (by simp) rfl; rw [hDi] at h2; cases h2
                    have n4 : D 20 = false := by
                      cases h : D 20 with
                      | false => rfl
                      | true => have h2 := hcl 20 _ rfl h ⟨19, .data⟩ (by simp) rfl; rw [n3] at h2; cases h2
                    refine ⟨_, rfl, ⟨z, env.gb, env.A3, env.c3⟩, fun j hjl hj => plV_env (fun e => by rw [e, hDi] at hj; cases hj) (fun e => by rw [e, n2] at hj; cases hj) (fun e => by rw [e, n3] at hj; cases hj) (fun e => by rw [e, n4] at hj; cases hj) hjl, rfl, ?_⟩
                    have hr0 := hG.r0 n3
                    refine ⟨hG.be.trans (hb9.mono hG.be.size), Nat.le_trans hG.bs hb9.size, fun _ => hr0.ext hb9, fun _ _ => ⟨hzo.mono (fun b _ hb => ⟨Nat.le_trans hG.bs hb, fun e => by have := (World.ownsRow.lt hr0.1 b e.symm).2; omega⟩), hzf⟩, fun h => absurd (show D 18 = true from h) (by rw [n2]; exact Bool.false_ne_true), fun h => absurd (show D 19 = true from h) (by rw [n3]; exact Bool.false_ne_true)⟩
                · have f17 := fr.atT 17 (hpre ⟨17, .data⟩ (by simp) rfl) rfl
                  refine ⟨true, rfl, fun _ => ?_, (fun h => by cases h)⟩
                  have hz := env.z.val
                  refine wp_value (v := .slice (some ⟨wx.heap.size, 0, none⟩) 1 1) (w' := wx.alloc (.cells #[.int .i64 env.z.f.W, .int .i64 env.z.f.H, .slice env.z.ya env.z.yn env.z.yc, .slice env.z.ua env.z.un env.z.uc, .slice env.z.va env.z.vn env.z.vc] 27)) ?_ ?_
                  · simp [execOp, f17, plV, FA.val, go_sem]
                  · have n3 : D 19 = false := by
                      cases h : D 19 with
                      | false => rfl
                      | true => have h2 := hcl 19 _ rfl h ⟨18, .data⟩ (by simp) rfl; rw [hDi] at h2; cases h2
                    have n4 : D 20 = false := by
                      cases h : D 20 with
                      | false => rfl
                      | true => have h2 := hcl 20 _ rfl h ⟨19, .data⟩ (by simp) rfl; rw [n3] at h2; cases h2
                    have d1 : D 17 = true := hpre ⟨17, .data⟩ (by simp) rfl
                    refine ⟨⟨env.z, wx.heap.size, env.A3, env.c3⟩, fun j hjl hj => plV_env' rfl (fun e => by rw [e, hDi] at hj; cases hj) (fun e => by rw [e, n3] at hj; cases hj) (fun e => by rw [e, n4] at hj; cases hj) hjl, rfl, ?_⟩
                    have hr0 := hG.r0 n3
                    have hzo := hG.zo d1 n3
                    have hb9 := (Below.refl wx.heap.size wx).alloc (Nat.le_refl _) (.cells #[.int .i64 env.z.f.W, .int .i64 env.z.f.H, .slice env.z.ya env.z.yn env.z.yc, .slice env.z.ua env.z.un env.z.uc, .slice env.z.va env.z.vn env.z.vc] 27)
                    refine ⟨hG.be.trans (hb9.mono hG.be.size), Nat.le_trans hG.bs hb9.size, fun _ => hr0.ext hb9, fun _ _ => ⟨hzo.1.ext hb9, hzo.2⟩, fun _ _ => ⟨Bx.new _ _ _, fun e => Nat.lt_irrefl _ (World.ownsRow.lt hr0.1 wx.heap.size e.symm).2⟩, fun h => absurd (show D 19 = true from h) (by rw [n3]; exact Bool.false_ne_true)⟩
                · have f0 := fr.atT 0 (hpre ⟨0, .data⟩ (by simp) rfl) rfl
                  have f18 := fr.atT 18 (hpre ⟨18, .data⟩ (by simp) rfl) rfl
                  refine ⟨true, rfl, fun _ => ?_, (fun h => by cases h)⟩
                  have n4 : D 20 = false := by
                    cases h : D 20 with
                    | false => rfl
                    | true => have h2 := hcl 20 _ rfl h ⟨19, .data⟩ (by simp) rfl; rw [hDi] at h2; cases h2
                  have d2 : D 18 = true := hpre ⟨18, .data⟩ (by simp) rfl
                  have d1 : D 17 = true := hcl 18 _ rfl d2 ⟨17, .data⟩ (by simp) rfl
                  have hr0 := hG.r0 hDi
                  have hzo := hG.zo d1 hDi
                  have hzb := hG.zb d2 hDi
                  have hrw : Rw (fun _ => True) wx (some ⟨env.gb, 0, none⟩) 1 5 env.z.cells := ⟨rfl, fun _ => ⟨env.gb, 0, rfl, trivial, hzb.1.lt, fun j u hu => by rw [Nat.zero_add]; exact hzb.1.cell j (by simpa [FA.cells] using hu)⟩⟩
                  obtain ⟨v', w', hrun, ho', hg', ha'⟩ := run_appR (P := Try.prog) wx 23 23 27 (.agg #[.int .i64 0, .int .i64 0, .slice none 0 0, .slice none 0 0, .slice none 0 0]) 5 88 Try.underlying23 Try.infoF rfl (by decide) (w.heap.size) (.slice A1 kk c1) kk (frCells ys) (by have h := hr0.1; rw [HYL.out] at h; exact h) (some ⟨env.gb, 0, none⟩) 1 1 env.z.cells hrw (by simp [FA.cells, Value.oneCell']) (by have := HN1.out; omega) (by omega) hG.bs
                  obtain ⟨A3, c3, rfl⟩ := own_slice ho'
                  refine wp_value (v := .slice A3 (kk + 1) c3) (w' := w') ?_ ?_
                  · have e0 := fr.at_ 0 (hpre ⟨0, .data⟩ (by simp) rfl) rfl
                    have e1 := fr.at_ 18 (hpre ⟨18, .data⟩ (by simp) rfl) rfl
                    simp only [plV] at e0 e1
                    simp only [execOp, resolve, invoke, builtin, Sem.run_bind, Sem.run_pure, Result.andThen_ok, List.map_toArray, List.map_cons, List.map_nil, e0, e1, hrun]
                  · refine ⟨⟨env.z, env.gb, A3, c3⟩, fun j hjl hj => plV_env2 rfl rfl (fun e => by rw [e, hDi] at hj; cases hj) (fun e => by rw [e, n4] at hj; cases hj) hjl, rfl, ?_⟩
                    refine ⟨hG.be.grown hg' hG.be.size (fun j hj => Nat.le_trans (Nat.le_refl _) (World.ownsRow.lt hr0.1 j hj).1), Nat.le_trans hG.bs hg'.size, fun h => (by cases h), fun _ h => (by cases h), fun _ h => (by cases h), fun _ => ⟨OwnF.app hr0 (by rw [HYL.out]; simpa [frCells] using ho') hg' ha' (fun y hy => by rw [List.mem_singleton] at hy; rw [hy]; exact hzo.1), hzo.2, (own_cap ho').2⟩⟩
                · have f19 := fr.atT 19 (hpre ⟨19, .data⟩ (by simp) rfl) rfl
                  refine ⟨true, rfl, fun _ => wp_value (w' := wx) ?_ ⟨env, fun _ _ _ => rfl, rfl, hG⟩, (fun h => by cases h)⟩
                  simp [execOp, f19, plV, go_sem]
              case hend =>
                intro env D w7 hG hall
                have h1 := hG.r1 (hall 19 (by decide))
                have HR1 := Lib.hid h1
                have HB7 := Lib.hid hG.be
                simp only [putsU, Act.put, List.setIfInBounds_toArray, List.set_cons_succ, List.set_cons_zero, Nat.zero_add, Nat.reduceAdd, plV]
                clear hG hall h1
                go_wp2_with fail
                go_roundw
                case rel => exact ⟨kk + 1, env.A3, env.c3, ys ++ [env.z], by omega, by go_num, rfl, by simp [HYL.out], by rw [HSTEP.out, ← HYF.out, ← HR1.out.2.1]; simp [frs], HR1.out.1, HB7.out⟩
                case measure => (simp [intOf]; try omega)
            · have hkk2 : kk = k := by omega
              subst hkk2
              go_wp2_with fail
              go_ret2
              obtain ⟨A2, c2, hv, hfr⟩ := OwnF.frs (p := (w.heap.size ≤ ·)) HO.out (fun _ h => h)
              injection hv with q1 q2 q3
              subst q1 q3
              have hfy := HYF.out
              rw [List.take_of_length_le (by rw [HWL.out]; exact Nat.le_refl _)] at hfy
              refine ⟨_, kk, _, ys, by rw [HE1.out]; rfl, ?_, by rw [HE2.out]; exact hfy, hb, ?_⟩
              · have := hfr
                rw [HYL.out] at this
                exact this
              · have := own_cap HO.out.1
                omega
end Go.Proofs.Ytclainbjidajbaa
