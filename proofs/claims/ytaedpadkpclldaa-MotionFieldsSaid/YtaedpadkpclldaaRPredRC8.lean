/- Predict where the vector is out of range, height 8, with room. -/
import Derived.Test.YtaedpadkpclldaaPredC
namespace Go.Proofs.Ytaedpadkpclldaa
open Go.RowKit

set_option maxHeartbeats 4000000 in
theorem ref_Predict_range8C {p : Nat → Prop} (v : Value) (W H : Int) (Y U V : List Int) (x y vx vy : Int) (w : World) (hf : IsFr p w v ⟨W, H, Y, U, V⟩)
    (h1 : formedB ⟨W, H, Y, U, V⟩ = true) (hx0 : 0 ≤ x) (hx2 : x % 2 = 0) (hx1 : x ≤ W - 16) (hy0 : 0 ≤ y) (hy2 : y % 2 = 0) (hy1 : y ≤ H - 8) (hv : mayB vx vy = false) :
    Calls Try.prog 16 #[v, .int .i64 x, .int .i64 y, .int .i64 16, .int .i64 8, .agg #[.int .i64 vx, .int .i64 vy]] w (RetFc w (zeroFr, 2)) := by
  have hf0 := hf
  obtain ⟨ya, yn, yc, ua, un, uc, va, vn, vc, rfl, hy, hu, hv'⟩ := hf
  obtain ⟨k1, k2, k3, k4, k5, k6, -, -, -⟩ := formed_parts h1
  clear hy hu hv'
  dsimp only at *
  go_enter Try.func16, Try.ntmps16
  go_wp2_with fail
  refine (ref_Formed (p := p) _ ⟨W, H, Y, U, V⟩ _ (by (repeat with_reducible apply IsFr.alloc); exact hf0)).mono ?_
  rintro e w1 ⟨rfl, hb1⟩
  obtain ⟨c_w1, z_w1⟩ := bcell hb1
  have s_w1 := hb1.size
  try simp at s_w1
  try simp at c_w1
  try simp at z_w1
  have q_w1_0 : w.heap.size < w1.heap.size := by omega
  have q_w1_1 : w.heap.size + 1 < w1.heap.size := by omega
  have q_w1_2 : w.heap.size + 1 + 1 < w1.heap.size := by omega
  go_wp2_with fail
  refine (ref_May vx vy _).mono ?_
  rintro e w2 ⟨rfl, hb2⟩
  obtain ⟨c_w2, z_w2⟩ := bcell hb2
  have s_w2 := hb2.size
  try simp at s_w2
  try simp at c_w2
  try simp at z_w2
  have q_w2_0 : w.heap.size < w2.heap.size := by omega
  have q_w2_1 : w.heap.size + 1 < w2.heap.size := by omega
  have q_w2_2 : w.heap.size + 1 + 1 < w2.heap.size := by omega
  have B0 : Below w.heap.size w w2 := (((((Below.refl _ w).alloc (by simp) _).alloc (by simp) _).alloc (by simp; omega) _).trans (hb1.mono (by simp; omega))).trans (hb2.mono (by omega))
  go_wp2_with fail
  refine bodyPost_ret (v := .tuple #[.agg #[.int .i64 0, .int .i64 0, .slice none 0 0, .slice none 0 0, .slice none 0 0], .int .i64 2]) (by simp only [results, Try.results16]; go_simp) rfl (retFc_zero (B := 2) ?_ rfl)
  repeat refine Below.setCell ?_ (by simp; omega) _
  exact B0

end Go.Proofs.Ytaedpadkpclldaa
