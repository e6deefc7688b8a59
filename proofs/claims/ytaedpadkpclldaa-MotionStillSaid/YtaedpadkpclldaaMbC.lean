/- The contract of Macroblock of the reference, and of both. -/
import Derived.Test.YtaedpadkpclldaaRPaste
import Derived.Test.YtaedpadkpclldaaMbA
import Derived.Test.YtaedpadkpclldaaBlank
import Derived.Test.YtaedpadkpclldaaSetC
namespace Go.Proofs.Ytaedpadkpclldaa
open Go.RowKit

theorem Bk.own {w : World} {base g : Nat} {e : TypeId} {l : List Int} (h : Bk w e g l) (hb : base ≤ g) (hl : l.length ≤ 100000) : OwB w base e (.slice (some ⟨g, 0, none⟩) l.length l.length) l :=
  ⟨by simp, .inr ⟨g, l.length, _, rfl, hb, h, Nat.le_refl _, by simp only [maxLen]; omega, by simp, by rw [Nat.mul_one]; exact List.take_of_length_le (by simp)⟩⟩
def blankF (n m : Nat) : Fr := ⟨16, 16, List.replicate n 0, List.replicate m 0, List.replicate m 0⟩
theorem blank_rows {w : World} {base : Nat} {v : Value} (h : Own3 w base v 16 16 (List.replicate ((16 : Int) * 16).toNat 0) (List.replicate ((16 : Int) / 2 * (16 / 2)).toNat 0) (List.replicate ((16 : Int) / 2 * (16 / 2)).toNat 0)) (N M : Nat) (hN : N = 256) (hM : M = 64) :
    ∃ g1 g2 g3, v = .agg #[.int .i64 16, .int .i64 16, .slice (some ⟨g1, 0, none⟩) N N, .slice (some ⟨g2, 0, none⟩) M M, .slice (some ⟨g3, 0, none⟩) M M] ∧ Rows3 base w (blankF N M) (.slice (some ⟨g1, 0, none⟩) N N) (.slice (some ⟨g2, 0, none⟩) M M) (.slice (some ⟨g3, 0, none⟩) M M) := by
  obtain ⟨g1, g2, g3, rfl, k1, k2, k3, b1, b2, b3, n12, n13, n23⟩ := h
  have e1 : ((16 : Int) * 16).toNat = N := by rw [hN]; rfl
  have e2 : ((16 : Int) / 2 * (16 / 2)).toNat = M := by rw [hM]; rfl
  rw [e1] at k1
  rw [e2] at k2 k3
  have o1 := k1.own b1 (by rw [List.length_replicate, hN]; omega)
  have o2 := k2.own b2 (by rw [List.length_replicate, hM]; omega)
  have o3 := k3.own b3 (by rw [List.length_replicate, hM]; omega)
  rw [List.length_replicate] at o1 o2 o3
  refine ⟨g1, g2, g3, ?_, ⟨o1, o2, o3, ?_, ?_, ?_⟩⟩
  · rw [List.length_replicate, List.length_replicate, e1, e2]
  · intro k hk he
    injection hk with hk
    injection he with he
    exact n12 (hk.trans he.symm)
  · intro k hk he
    injection hk with hk
    injection he with he
    exact n13 (hk.trans he.symm)
  · intro k hk he
    injection hk with hk
    injection he with he
    exact n23 (hk.trans he.symm)
theorem mb_paste {f : Fr} {N M cw fx fy mx my : Nat} (hN : N = 256) (hM : M = 64) (hc : f.W.toNat = cw) (hx : fx = 16 * mx) (hy : fy = 16 * my) : pasteFr (blankF N M) f 16 0 0 cw fx fy 16 16 = mbF f mx my := by
  subst hN hM hc hx hy
  unfold pasteFr mbF blankF mbL mbC
  have e1 : 16 * my / 2 = 8 * my := by omega
  have e2 : 16 * mx / 2 = 8 * mx := by omega
  dsimp only
  rw [e1, e2]
  simp only [Nat.reduceDiv, Nat.zero_div, Nat.zero_mul, Nat.add_zero]
  rw [paste_whole (cutL_len _ _ _ _ _) (by rw [List.length_replicate]), paste_whole (cutL_len _ _ _ _ _) (by rw [List.length_replicate]), paste_whole (cutL_len _ _ _ _ _) (by rw [List.length_replicate])]
set_option maxHeartbeats 4000000 in
theorem ref_Macroblock_yes {p : Nat → Prop} (v : Value) (f : Fr) (mx my a b : Nat) (w : World) (hf : IsFr p w v f) (hh : hasB f mx my = true)
    (hW : f.W = ((16 * a : Nat) : Int)) (ha : a ≤ 4) (hx : mx < a) (hb : b ≤ 4) (hyb : my < b) (lY : f.Y.length = (16 * b) * (16 * a)) (lU : f.U.length = (8 * b) * (8 * a)) (lV : f.V.length = (8 * b) * (8 * a)) :
    Calls Try.prog 18 #[v, .int .i64 mx, .int .i64 my] w (RetFc w (mbF f mx my, 0)) := by
  have hf0 := hf
  obtain ⟨ya, yn, yc, ua, un, uc, va, vn, vc, rfl, hy, hu, hv⟩ := hf
  obtain ⟨hfY, hfC⟩ := mb_fit hx hyb
  have RY := Lib.hid hy.rng
  have RU := Lib.hid hu.rng
  have RV := Lib.hid hv.rng
  obtain ⟨cw, hcw⟩ : ∃ cw, cw = 16 * a := ⟨_, rfl⟩
  obtain ⟨fx, hfx⟩ : ∃ fx, fx = 16 * mx := ⟨_, rfl⟩
  obtain ⟨fy, hfy⟩ : ∃ fy, fy = 16 * my := ⟨_, rfl⟩
  obtain ⟨N, hN⟩ : ∃ N, N = 256 := ⟨_, rfl⟩
  obtain ⟨M, hM⟩ : ∃ M, M = 64 := ⟨_, rfl⟩
  have hWc : f.W = (cw : Int) := by omega
  rw [← mb_paste (cw := cw) hN hM (by omega) hfx hfy]
  have e1 : fy * cw + fx = mbL (16 * a) mx my := by unfold mbL; rw [hfy, hcw, hfx]
  have e2 : fy / 2 * (cw / 2) + fx / 2 = mbC (16 * a) mx my := by unfold mbC; rw [hfy, hcw, hfx, show 16 * my / 2 = 8 * my by omega, show 16 * mx / 2 = 8 * mx by omega]
  have hpaste : ∀ (w1 : World) (B g1 g2 g3 : Nat), Rows3 B w1 (blankF N M) (.slice (some ⟨g1, 0, none⟩) N N) (.slice (some ⟨g2, 0, none⟩) M M) (.slice (some ⟨g3, 0, none⟩) M M) → IsFr (· < w.heap.size) w1 (.agg #[.int .i64 cw, .int .i64 f.H, .slice ya yn yc, .slice ua un uc, .slice va vn vc]) f → w.heap.size ≤ B → B ≤ w1.heap.size →
      Calls Try.prog 20 #[.agg #[.int .i64 16, .int .i64 16, .slice (some ⟨g1, 0, none⟩) N N, .slice (some ⟨g2, 0, none⟩) M M, .slice (some ⟨g3, 0, none⟩) M M], .int .i64 0, .int .i64 0, .agg #[.int .i64 cw, .int .i64 f.H, .slice ya yn yc, .slice ua un uc, .slice va vn vc], .int .i64 fx, .int .i64 fy, .int .i64 16, .int .i64 16] w1
        (fun e w' => e = .returned (.tuple #[]) ∧ Rows3 B w' (pasteFr (blankF N M) f 16 0 0 cw fx fy 16 16) (.slice (some ⟨g1, 0, none⟩) N N) (.slice (some ⟨g2, 0, none⟩) M M) (.slice (some ⟨g3, 0, none⟩) M M) ∧ Below B w1 w' ∧ ∀ k, k < w1.heap.size → k ≠ g1 → k ≠ g2 → k ≠ g3 → w'.heap[k]? = w1.heap[k]?) := by
    intro w1 B g1 g2 g3 hr hg hB hB2
    refine ref_Paste (p := (· < w.heap.size)) _ (blankF N M) f B g1 N N g2 M M g3 M M 16 0 0 cw fx fy 16 16 16 w1 hr hg (fun b hb => Nat.lt_of_lt_of_le hb hB) hWc hB2 (by omega) (by omega) (by omega) (by omega) (by omega) (by omega) (by omega) (by omega) ?_ ?_ ?_ ?_ ?_ ?_
    · intro r hr; show _ ≤ (List.replicate N (0 : Int)).length; rw [List.length_replicate]; omega
    · intro r hr; rw [e1, lY, hcw]; exact hfY r hr
    · intro r hr; show _ ≤ (List.replicate M (0 : Int)).length; rw [List.length_replicate]; omega
    · intro r hr; rw [e2, lU, hcw]; exact hfC r hr
    · intro r hr; show _ ≤ (List.replicate M (0 : Int)).length; rw [List.length_replicate]; omega
    · intro r hr; rw [e2, lV, hcw]; exact hfC r hr
  have hrng : ∀ z ∈ (List.replicate N (0 : Int)), 0 ≤ z ∧ z ≤ 255 := by intro z hz; rw [List.eq_of_mem_replicate hz]; omega
  have hrng2 : ∀ z ∈ (List.replicate M (0 : Int)), 0 ≤ z ∧ z ≤ 255 := by intro z hz; rw [List.eq_of_mem_replicate hz]; omega
  have hR1 : ∀ z ∈ (pasteFr (blankF N M) f 16 0 0 cw fx fy 16 16).Y, 0 ≤ z ∧ z ≤ 255 := pasteL_rng hrng (cutL_rng RY.out _ _ _ _) _
  have hR2 : ∀ z ∈ (pasteFr (blankF N M) f 16 0 0 cw fx fy 16 16).U, 0 ≤ z ∧ z ≤ 255 := pasteL_rng hrng2 (cutL_rng RU.out _ _ _ _) _
  have hR3 : ∀ z ∈ (pasteFr (blankF N M) f 16 0 0 cw fx fy 16 16).V, 0 ≤ z ∧ z ≤ 255 := pasteL_rng hrng2 (cutL_rng RV.out _ _ _ _) _
  have hWH : (pasteFr (blankF N M) f 16 0 0 cw fx fy 16 16).W = 16 ∧ (pasteFr (blankF N M) f 16 0 0 cw fx fy 16 16).H = 16 := ⟨rfl, rfl⟩
  generalize pasteFr (blankF N M) f 16 0 0 cw fx fy 16 16 = R at *
  rw [hWc] at hf0 ⊢
  have e5 : 16 * (mx : Int) = (fx : Int) := by omega
  have e6 : 16 * (my : Int) = (fy : Int) := by omega
  have HE5 := Lib.hid e5
  have HE6 := Lib.hid e6
  have HF := Lib.hid hf0
  have HP := Lib.hid hpaste
  have HN := Lib.hid hN
  have HM := Lib.hid hM
  have HR1 := Lib.hid hR1
  have HR2 := Lib.hid hR2
  have HR3 := Lib.hid hR3
  have HWH := Lib.hid hWH
  have bfx : fx ≤ 64 := by omega
  have bfy : fy ≤ 64 := by omega
  clear lY lU lV hW hcw hWc hpaste hf0 hfY hfC hy hu hv e1 e2 e5 e6 hN hM hR1 hR2 hR3 hWH hrng hrng2 hfx hfy
  go_enter Try.func18, Try.ntmps18
  go_wp2_with fail
  refine (ref_Has (p := p) _ f _ _ _ (by (repeat with_reducible apply IsFr.alloc); exact HF.out)).mono ?_
  rintro e w1 ⟨rfl, hb1⟩
  have B1 : Below w.heap.size w w1 := (((Below.refl _ w).alloc (by simp) _).alloc (by simp) _).trans (hb1.mono (by simp; omega))
  have x1 : Bx w1 w.heap.size 24 #[.int .i64 cw, .int .i64 f.H, .slice ya yn yc, .slice ua un uc, .slice va vn vc] := ((Bx.new w _ _).alloc _).ext hb1
  have y1 : Bx w1 (w.heap.size + 1) 24 #[.int .i64 0, .int .i64 0, .slice none 0 0, .slice none 0 0, .slice none 0 0] := (Bx.new' _ _ _ _ (by simp)).ext hb1
  clear hb1
  have lx1 := x1.lt
  have ly1 := y1.lt
  go_wp2_with fail
  refine (ref_Blank 16 16 (by omega) (by omega) (by omega) (by omega) _).mono ?_
  rintro e w2 ⟨v2, rfl, hO, hb2⟩
  obtain ⟨g1, g2, g3, rfl, hrows⟩ := blank_rows hO N M HN.out HM.out
  have B2 := B1.trans (hb2.mono B1.size)
  have x2 := x1.ext hb2
  have y2 := y1.ext hb2
  have z2 := hb2.size
  clear hb2 hO x1 y1 B1
  go_upto_region 4 with fail
  have x3 := x2.alloc (.cells #[.int .i64 16, .int .i64 16, .slice (some ⟨g1, 0, none⟩) N N, .slice (some ⟨g2, 0, none⟩) M M, .slice (some ⟨g3, 0, none⟩) M M] 24)
  have y3 := y2.alloc (.cells #[.int .i64 16, .int .i64 16, .slice (some ⟨g1, 0, none⟩) N N, .slice (some ⟨g2, 0, none⟩) M M, .slice (some ⟨g3, 0, none⟩) M M] 24)
  have m3 := Bx.new w2 24 #[.int .i64 16, .int .i64 16, .slice (some ⟨g1, 0, none⟩) N N, .slice (some ⟨g2, 0, none⟩) M M, .slice (some ⟨g3, 0, none⟩) M M]
  have r3 := hrows.ext ((Below.refl _ w2).alloc (Nat.le_refl _) (.cells #[.int .i64 16, .int .i64 16, .slice (some ⟨g1, 0, none⟩) N N, .slice (some ⟨g2, 0, none⟩) M M, .slice (some ⟨g3, 0, none⟩) M M] 24))
  have B3 := B2.alloc B2.size (.cells #[.int .i64 16, .int .i64 16, .slice (some ⟨g1, 0, none⟩) N N, .slice (some ⟨g2, 0, none⟩) M M, .slice (some ⟨g3, 0, none⟩) M M] 24)
  generalize w2.alloc (.cells #[.int .i64 16, .int .i64 16, .slice (some ⟨g1, 0, none⟩) N N, .slice (some ⟨g2, 0, none⟩) M M, .slice (some ⟨g3, 0, none⟩) M M] 24) = w3 at *
  have lg1 := hrows.o1.ge
  have lg2 := hrows.o2.ge
  have lg3 := hrows.o3.ge
  have lm := m3.lt
  generalize w2.heap.size = gm at *
  clear x2 y2 B2 hrows
  obtain ⟨c0, c1, c2, c3, c4⟩ := x3.cells5
  obtain ⟨d0, d1, d2, d3, d4⟩ := m3.cells5
  have lx3 := x3.lt
  have ly3 := y3.lt
  have e5 := HE5.out
  have e6 := HE6.out
  go_wp2_with fail
  clear c0 c1 c2 c3 c4 d0 d1 d2 d3 d4 e5 e6
  refine (HP.out w3 _ g1 g2 g3 r3 ((HF.out.mono (q := (· < w.heap.size)) (fun _ h _ => h)).ext B3) (by omega) (by omega)).mono ?_
  rintro e w4 ⟨rfl, r4, hb4, hk4⟩
  have z4 := hb4.size
  have y4 := y3.below hb4 (by omega)
  have m4 : Bx w4 gm 24 _ := m3.keep (hk4 gm lm (by omega) (by omega) (by omega))
  have B4 := B3.trans (hb4.mono (by omega))
  clear hk4 hb4 y3 m3 r3 B3 x3
  obtain ⟨d0, d1, d2, d3, d4⟩ := m4.cells5
  obtain ⟨c0, c1, c2, c3, c4⟩ := y4.cells5
  have t0 := y4.frozen 0
  have t1 := y4.frozen 1
  have t2 := y4.frozen 2
  have t3 := y4.frozen 3
  have t4 := y4.frozen 4
  have lm4 := m4.lt
  go_wp2_with fail
  have hfin := rows_isFr r4 HR1.out HR2.out HR3.out
  rw [HWH.out.1, HWH.out.2] at hfin
  have np : ¬ (w1.heap.size ≤ w.heap.size + 1) := by omega
  refine bodyPost_ret (v := .tuple #[.agg #[.int .i64 16, .int .i64 16, .slice (some ⟨g1, 0, none⟩) N N, .slice (some ⟨g2, 0, none⟩) M M, .slice (some ⟨g3, 0, none⟩) M M], .int .i64 0]) (by simp only [results, Try.results18]; go_simp) rfl ⟨_, rfl, CapsOK.mk (Nat.le_refl _) (Nat.le_refl _) (Nat.le_refl _), ?_, ?_⟩
  · refine IsFr.mono (p := (w1.heap.size ≤ ·)) ?_ (fun b _ h => by omega)
    repeat refine IsFr.setCell ?_ np _
    exact hfin
  ·
    repeat (first | (with_reducible exact B4) | (with_reducible refine Below.setCell ?_ (by first | (simp; done) | (simp; omega)) _) | (with_reducible refine Below.alloc ?_ (by first | (simp; done) | (simp; omega)) _) | (with_reducible refine Below.drew ?_))
def macroF (f : Fr) (mx my : Int) : Fr × Int := if hasB f mx my = true then (mbF f mx.toNat my.toNat, 0) else (zeroFr, 1)
theorem ref_Macroblock {p : Nat → Prop} (v : Value) (f : Fr) (mx my : Int) (w : World) (hf : IsFr p w v f) : Calls Try.prog 18 #[v, .int .i64 mx, .int .i64 my] w (RetFc w (macroF f mx my)) := by
  unfold macroF
  by_cases h : hasB f mx my = true
  · rw [if_pos h]
    obtain ⟨hv, i, j, rfl, rfl, hi, hj⟩ := has_nats h
    obtain ⟨a, b, hW, hH, a1, a2, b1, b2, lY, lU, lV⟩ := valid_sizes hv
    exact ref_Macroblock_yes v f i j a b w hf h hW a2 (by omega) b2 (by omega) lY lU lV
  · rw [if_neg h]
    exact ref_Macroblock_no v f mx my w hf (by simpa using h)
end Go.Proofs.Ytaedpadkpclldaa
