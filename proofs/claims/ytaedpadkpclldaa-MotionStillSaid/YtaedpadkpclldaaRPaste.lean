/- The contract of Paste of the reference. -/
import Derived.Test.YtaedpadkpclldaaRCut
namespace Go.Proofs.Ytaedpadkpclldaa
open Go.RowKit

def pasteFr (F G : Fr) (tw tx ty fw fx fy wd ht : Nat) : Fr :=
  ⟨F.W, F.H, pasteL F.Y (cutL G.Y (fy * fw + fx) fw wd ht) (ty * tw + tx) tw wd ht,
   pasteL F.U (cutL G.U (fy / 2 * (fw / 2) + fx / 2) (fw / 2) (wd / 2) (ht / 2)) (ty / 2 * (tw / 2) + tx / 2) (tw / 2) (wd / 2) (ht / 2),
   pasteL F.V (cutL G.V (fy / 2 * (fw / 2) + fx / 2) (fw / 2) (wd / 2) (ht / 2)) (ty / 2 * (tw / 2) + tx / 2) (tw / 2) (wd / 2) (ht / 2)⟩
theorem OwB.ge {w : World} {B g n c : Nat} {e : TypeId} {l : List Int} (h : OwB w B e (.slice (some ⟨g, 0, none⟩) n c) l) : B ≤ g ∧ g < w.heap.size := h.lt g rfl

set_option maxHeartbeats 4000000 in
theorem ref_Paste {p : Nat → Prop} (v : Value) (F G : Fr) (B g1 n1 c1 g2 n2 c2 g3 n3 c3 tw tx ty fw fx fy wd ht : Nat) (tH : Int) (w : World)
    (hr : Rows3 B w F (.slice (some ⟨g1, 0, none⟩) n1 c1) (.slice (some ⟨g2, 0, none⟩) n2 c2) (.slice (some ⟨g3, 0, none⟩) n3 c3)) (hg : IsFr p w v G) (hp : ∀ b, p b → b < B) (hGW : G.W = (fw : Int)) (hB : B ≤ w.heap.size)
    (b1 : tw ≤ 64) (b2 : tx ≤ 64) (b3 : ty ≤ 64) (b4 : fw ≤ 64) (b5 : fx ≤ 64) (b6 : fy ≤ 64) (b7 : wd ≤ 64) (b8 : ht ≤ 64)
    (f1 : ∀ r, r < ht → ty * tw + tx + r * tw + wd ≤ F.Y.length) (f2 : ∀ r, r < ht → fy * fw + fx + r * fw + wd ≤ G.Y.length)
    (f3 : ∀ r, r < ht / 2 → ty / 2 * (tw / 2) + tx / 2 + r * (tw / 2) + wd / 2 ≤ F.U.length) (f4 : ∀ r, r < ht / 2 → fy / 2 * (fw / 2) + fx / 2 + r * (fw / 2) + wd / 2 ≤ G.U.length)
    (f5 : ∀ r, r < ht / 2 → ty / 2 * (tw / 2) + tx / 2 + r * (tw / 2) + wd / 2 ≤ F.V.length) (f6 : ∀ r, r < ht / 2 → fy / 2 * (fw / 2) + fx / 2 + r * (fw / 2) + wd / 2 ≤ G.V.length) :
    Calls Try.prog 20 #[.agg #[.int .i64 tw, .int .i64 tH, .slice (some ⟨g1, 0, none⟩) n1 c1, .slice (some ⟨g2, 0, none⟩) n2 c2, .slice (some ⟨g3, 0, none⟩) n3 c3], .int .i64 tx, .int .i64 ty, v, .int .i64 fx, .int .i64 fy, .int .i64 wd, .int .i64 ht] w
      (fun e w' => e = .returned (.tuple #[]) ∧ Rows3 B w' (pasteFr F G tw tx ty fw fx fy wd ht) (.slice (some ⟨g1, 0, none⟩) n1 c1) (.slice (some ⟨g2, 0, none⟩) n2 c2) (.slice (some ⟨g3, 0, none⟩) n3 c3) ∧ Below B w w' ∧ ∀ k, k < w.heap.size → k ≠ g1 → k ≠ g2 → k ≠ g3 → w'.heap[k]? = w.heap[k]?) := by
  obtain ⟨ya, yn, yc, ua, un, uc, va, vn, vc, rfl, hy, hu, hv⟩ := hg
  rw [hGW]
  unfold pasteFr
  obtain ⟨tw2, h1⟩ : ∃ x, x = tw / 2 := ⟨_, rfl⟩
  obtain ⟨tx2, h2⟩ : ∃ x, x = tx / 2 := ⟨_, rfl⟩
  obtain ⟨ty2, h3⟩ : ∃ x, x = ty / 2 := ⟨_, rfl⟩
  obtain ⟨fw2, h4⟩ : ∃ x, x = fw / 2 := ⟨_, rfl⟩
  obtain ⟨fx2, h5⟩ : ∃ x, x = fx / 2 := ⟨_, rfl⟩
  obtain ⟨fy2, h6⟩ : ∃ x, x = fy / 2 := ⟨_, rfl⟩
  obtain ⟨wd2, h7⟩ : ∃ x, x = wd / 2 := ⟨_, rfl⟩
  obtain ⟨ht2, h8⟩ : ∃ x, x = ht / 2 := ⟨_, rfl⟩
  rw [← h1, ← h2, ← h3, ← h4, ← h5, ← h6, ← h7, ← h8]
  rw [← h1, ← h2, ← h3, ← h7, ← h8] at f3 f5
  rw [← h4, ← h5, ← h6, ← h7, ← h8] at f4 f6
  have e1 : (tw : Int) / 2 = (tw2 : Int) := by omega
  have e2 : (tx : Int) / 2 = (tx2 : Int) := by omega
  have e3 : (ty : Int) / 2 = (ty2 : Int) := by omega
  have e4 : (fw : Int) / 2 = (fw2 : Int) := by omega
  have e5 : (fx : Int) / 2 = (fx2 : Int) := by omega
  have e6 : (fy : Int) / 2 = (fy2 : Int) := by omega
  have e7 : (wd : Int) / 2 = (wd2 : Int) := by omega
  have e8 : (ht : Int) / 2 = (ht2 : Int) := by omega
  have q1 : tw2 ≤ 64 := by omega
  have q2 : tx2 ≤ 64 := by omega
  have q3 : ty2 ≤ 64 := by omega
  have q4 : fw2 ≤ 64 := by omega
  have q5 : fx2 ≤ 64 := by omega
  have q6 : fy2 ≤ 64 := by omega
  have q7 : wd2 ≤ 64 := by omega
  have q8 : ht2 ≤ 64 := by omega
  have HF1 := Lib.hid f1
  have HF2 := Lib.hid f2
  have HF3 := Lib.hid f3
  have HF4 := Lib.hid f4
  have HF5 := Lib.hid f5
  have HF6 := Lib.hid f6
  have k1 := hr.o1.ge
  have k2 := hr.o2.ge
  have k3 := hr.o3.ge
  have np1 : ¬ p g1 := fun h => by have := hp _ h; omega
  have np2 : ¬ p g2 := fun h => by have := hp _ h; omega
  have np3 : ¬ p g3 := fun h => by have := hp _ h; omega
  have s12 : g1 ≠ g2 := fun e => hr.s1 g1 rfl (by rw [e]; rfl)
  have s13 : g1 ≠ g3 := fun e => hr.s2 g1 rfl (by rw [e]; rfl)
  have s23 : g2 ≠ g3 := fun e => hr.s3 g2 rfl (by rw [e]; rfl)
  have HE := Lib.hid (And.intro e1 (And.intro e2 (And.intro e3 (And.intro e4 (And.intro e5 (And.intro e6 (And.intro e7 e8)))))))
  clear f1 f2 f3 f4 f5 f6 h1 h2 h3 h4 h5 h6 h7 h8 hGW e1 e2 e3 e4 e5 e6 e7 e8
  go_enter Try.func20, Try.ntmps20
  go_wp2_with fail
  have x0 : Bx ((w.alloc (.cells #[.int .i64 tw, .int .i64 tH, .slice (some ⟨g1, 0, none⟩) n1 c1, .slice (some ⟨g2, 0, none⟩) n2 c2, .slice (some ⟨g3, 0, none⟩) n3 c3] 24)).alloc (.cells #[.int .i64 fw, .int .i64 G.H, .slice ya yn yc, .slice ua un uc, .slice va vn vc] 24)) w.heap.size 24 #[.int .i64 tw, .int .i64 tH, .slice (some ⟨g1, 0, none⟩) n1 c1, .slice (some ⟨g2, 0, none⟩) n2 c2, .slice (some ⟨g3, 0, none⟩) n3 c3] := (Bx.new w _ _).alloc _
  have y0 : Bx ((w.alloc (.cells #[.int .i64 tw, .int .i64 tH, .slice (some ⟨g1, 0, none⟩) n1 c1, .slice (some ⟨g2, 0, none⟩) n2 c2, .slice (some ⟨g3, 0, none⟩) n3 c3] 24)).alloc (.cells #[.int .i64 fw, .int .i64 G.H, .slice ya yn yc, .slice ua un uc, .slice va vn vc] 24)) (w.heap.size + 1) 24 #[.int .i64 fw, .int .i64 G.H, .slice ya yn yc, .slice ua un uc, .slice va vn vc] := Bx.new' _ _ _ _ (by simp)
  have B0 : Below w.heap.size w ((w.alloc (.cells #[.int .i64 tw, .int .i64 tH, .slice (some ⟨g1, 0, none⟩) n1 c1, .slice (some ⟨g2, 0, none⟩) n2 c2, .slice (some ⟨g3, 0, none⟩) n3 c3] 24)).alloc (.cells #[.int .i64 fw, .int .i64 G.H, .slice ya yn yc, .slice ua un uc, .slice va vn vc] 24)) := ((Below.refl _ w).alloc (by simp) _).alloc (by simp) _
  generalize (w.alloc (.cells #[.int .i64 tw, .int .i64 tH, .slice (some ⟨g1, 0, none⟩) n1 c1, .slice (some ⟨g2, 0, none⟩) n2 c2, .slice (some ⟨g3, 0, none⟩) n3 c3] 24)).alloc (.cells #[.int .i64 fw, .int .i64 G.H, .slice ya yn yc, .slice ua un uc, .slice va vn vc] 24) = wA at *
  have r0 := hr.ext B0
  have hyA := hy.ext B0
  have huA := hu.ext B0
  have hvA := hv.ext B0
  have BB := B0.mono hB
  have lw := B0.size
  have FB0 := Lib.hid B0.block
  clear hr hy hu hv B0
  have lx0 := x0.lt
  have ly0 := y0.lt
  refine (ref_cut (p := p) g1 n1 c1 tw tx ty fw fx fy wd ht B ya yn yc F.Y G.Y _ r0.o1 hyA np1 b1 b2 b3 b4 b5 b6 b7 b8 HF1.out HF2.out).mono ?_
  rintro e w1 ⟨rfl, o1, hg1⟩
  have z1 := hg1.size
  have FB1 := Lib.hid hg1.block
  have x1 := x0.grown hg1 (by simp; omega)
  have y1 := y0.grown hg1 (by simp; omega)
  have o2 := r0.o2.grown hg1 (.inr (by show some g2 ≠ some g1; simp [Ne.symm s12]))
  have o3 := r0.o3.grown hg1 (.inr (by show some g3 ≠ some g1; simp [Ne.symm s13]))
  have hu1 := huA.grown hg1 (fun b hb _ => fun e => by injection e with e; exact np1 (e ▸ hb))
  have hv1 := hvA.grown hg1 (fun b hb _ => fun e => by injection e with e; exact np1 (e ▸ hb))
  have B1 := BB.grown hg1 (by omega) (fun k hk => by cases hk; omega)
  clear hg1 x0 y0 BB
  obtain ⟨e1, e2, e3, e4, e5, e6, e7, e8⟩ := HE.out
  obtain ⟨c0, c1', c2', c3', c4⟩ := x1.cells5
  obtain ⟨d0, d1, d2, d3, d4⟩ := y1.cells5
  go_wp2_with fail
  clear c0 c1' c2' c3' c4 d0 d1 d2 d3 d4 e1 e2 e3 e4 e5 e6 e7 e8
  refine (ref_cut (p := p) g2 n2 c2 tw2 tx2 ty2 fw2 fx2 fy2 wd2 ht2 B ua un uc F.U G.U _ o2 hu1 np2 q1 q2 q3 q4 q5 q6 q7 q8 HF3.out HF4.out).mono ?_
  rintro e w2 ⟨rfl, o2', hg2⟩
  have z2 := hg2.size
  have FB2 := Lib.hid hg2.block
  have x2 := x1.grown hg2 (by simp; omega)
  have y2 := y1.grown hg2 (by simp; omega)
  have o1' := o1.grown hg2 (.inr (by show some g1 ≠ some g2; simp [s12]))
  have o3' := o3.grown hg2 (.inr (by show some g3 ≠ some g2; simp [Ne.symm s23]))
  have hv2 := hv1.grown hg2 (fun b hb _ => fun e => by injection e with e; exact np2 (e ▸ hb))
  have B2 := B1.grown hg2 (by omega) (fun k hk => by cases hk; omega)
  clear hg2 x1 y1 B1 o1 o2 o3
  obtain ⟨e1, e2, e3, e4, e5, e6, e7, e8⟩ := HE.out
  obtain ⟨c0, c1', c2', c3', c4⟩ := x2.cells5
  obtain ⟨d0, d1, d2, d3, d4⟩ := y2.cells5
  go_wp2_with fail
  clear c0 c1' c2' c3' c4 d0 d1 d2 d3 d4 e1 e2 e3 e4 e5 e6 e7 e8
  refine (ref_cut (p := p) g3 n3 c3 tw2 tx2 ty2 fw2 fx2 fy2 wd2 ht2 B va vn vc F.V G.V _ o3' hv2 np3 q1 q2 q3 q4 q5 q6 q7 q8 HF5.out HF6.out).mono ?_
  rintro e w3 ⟨rfl, o3'', hg3⟩
  have o1'' := o1'.grown hg3 (.inr (by show some g1 ≠ some g3; simp [s13]))
  have o2'' := o2'.grown hg3 (.inr (by show some g2 ≠ some g3; simp [s23]))
  have FB3 := Lib.hid hg3.block
  have B3 := B2.grown hg3 (by omega) (fun k hk => by cases hk; omega)
  go_wp2_with fail
  refine Great.bodyPost_end0 rfl rfl ⟨rfl, ⟨o1'', o2'', o3'', r0.s1, r0.s2, r0.s3⟩, B3, fun k hk n1 n2 n3 => ?_⟩
  rw [FB3.out k (by omega) (by simpa using n3), FB2.out k (by omega) (by simpa using n2), FB1.out k (by omega) (by simpa using n1), FB0.out k hk]
end Go.Proofs.Ytaedpadkpclldaa
