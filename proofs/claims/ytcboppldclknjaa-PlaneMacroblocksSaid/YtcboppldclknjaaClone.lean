/- The contracts of copied and clone: a frame of its own. -/
import Derived.Test.YtcboppldclknjaaCut
namespace Go.Proofs.Ytcboppldclknjaa
open Go.RowKit

/-- What a call returns that makes a slice of bytes: it begins a block of its own. -/
def RetK (w : World) (l : List Int) (e : Ending) (w' : World) : Prop :=
  ∃ g, e = .returned (.slice (some ⟨g, 0, none⟩) l.length l.length) ∧ w.heap.size ≤ g ∧ Bk w' 5 g l ∧ Below w.heap.size w w'
set_option maxHeartbeats 1000000 in
theorem plane_copied {p : Nat → Prop} (A : Option Addr) (n c : Nat) (l : List Int) (w : World) (hl : Byt p w A n l) (hn : n ≤ 100000) :
    Calls Try.prog 63 #[.slice A n c] w (RetK w l) := by
  have hmk := run_mkBn (P := Try.prog) (t := 22) Try.underlying22 Try.infoB n n (Nat.le_refl _) (by omega)
  have HL := Lib.hid hl.len
  go_enter Try.func63, Try.ntmps63
  go_wp2_with (with_reducible refine wpList_copyB (p := p) _ rfl _ _ _ rfl _ Try.underlying22 Try.infoB _ _ _ _ _ _ rfl rfl w.heap.size 0 _ (Bk.made w _ n) l (hl.alloc _) (fun _ => rfl) (by simp) ?_; intro w1 hB1 hg1)
  have e1 : spl (List.replicate n 0) 0 (l.take n) = l := by
    rw [List.take_of_length_le (by rw [HL.out]; exact Nat.le_refl _)]
    unfold spl
    simp [HL.out]
  rw [e1] at hB1
  go_ret
  refine ⟨w.heap.size, by rw [HL.out]; rfl, Nat.le_refl _, hB1, ?_⟩
  exact ((Below.refl _ w).alloc (Nat.le_refl _) _).grown hg1 (by simp) (fun k hk => by cases hk; exact Nat.le_refl _)

/-- A frame whose planes begin blocks of their own, from block base on. -/
structure OwnF (base : Nat) (w : World) (v : Value) (f : Fr) (g1 g2 g3 : Nat) : Prop where
  val : v = .agg #[.int .i64 f.W, .int .i64 f.H, .slice (some ⟨g1, 0, none⟩) f.Y.length f.Y.length, .slice (some ⟨g2, 0, none⟩) f.U.length f.U.length, .slice (some ⟨g3, 0, none⟩) f.V.length f.V.length]
  b1 : base ≤ g1
  b2 : base ≤ g2
  b3 : base ≤ g3
  n12 : g1 ≠ g2
  n13 : g1 ≠ g3
  n23 : g2 ≠ g3
  k1 : Bk w 5 g1 f.Y
  k2 : Bk w 5 g2 f.U
  k3 : Bk w 5 g3 f.V
set_option maxHeartbeats 4000000 in
theorem plane_clone {p : Nat → Prop} (v : Value) (f : Fr) (w : World) (hf : IsFr p w v f) (hY : f.Y.length ≤ 100000) (hU : f.U.length ≤ 100000) (hV : f.V.length ≤ 100000) :
    Calls Try.prog 57 #[v] w fun e w' => ∃ v' g1 g2 g3, e = .returned v' ∧ OwnF w.heap.size w' v' f g1 g2 g3 ∧ Below w.heap.size w w' := by
  obtain ⟨ya, yn, yc, ua, un, uc, va, vn, vc, rfl, hy, hu, hv⟩ := hf
  rw [hy.len] at hY
  rw [hu.len] at hU
  rw [hv.len] at hV
  go_enter Try.func57, Try.ntmps57
  go_wp2_with fail
  have x1 : Bx ((w.alloc (.cells #[.int .i64 f.W, .int .i64 f.H, .slice ya yn yc, .slice ua un uc, .slice va vn vc] 24)).alloc (.cells #[.int .i64 0, .int .i64 0, .slice none 0 0, .slice none 0 0, .slice none 0 0] 24)) w.heap.size 24 #[.int .i64 f.W, .int .i64 f.H, .slice ya yn yc, .slice ua un uc, .slice va vn vc] := (Bx.new w _ _).alloc _
  have y1 : Bx ((w.alloc (.cells #[.int .i64 f.W, .int .i64 f.H, .slice ya yn yc, .slice ua un uc, .slice va vn vc] 24)).alloc (.cells #[.int .i64 0, .int .i64 0, .slice none 0 0, .slice none 0 0, .slice none 0 0] 24)) (w.heap.size + 1) 24 #[.int .i64 0, .int .i64 0, .slice none 0 0, .slice none 0 0, .slice none 0 0] := Bx.new' _ _ _ _ (by simp)
  have B1 : Below w.heap.size w ((w.alloc (.cells #[.int .i64 f.W, .int .i64 f.H, .slice ya yn yc, .slice ua un uc, .slice va vn vc] 24)).alloc (.cells #[.int .i64 0, .int .i64 0, .slice none 0 0, .slice none 0 0, .slice none 0 0] 24)) := ((Below.refl _ w).alloc (by simp) _).alloc (by simp) _
  generalize (w.alloc (.cells #[.int .i64 f.W, .int .i64 f.H, .slice ya yn yc, .slice ua un uc, .slice va vn vc] 24)).alloc (.cells #[.int .i64 0, .int .i64 0, .slice none 0 0, .slice none 0 0, .slice none 0 0] 24) = wA at *
  have hyA := (hy.ext B1).drew
  have huA := hu.ext B1
  have hvA := hv.ext B1
  obtain ⟨c0, c1, c2, c3, c4⟩ := x1.cells5
  obtain ⟨d0, d1, d2, d3, d4⟩ := y1.cells5
  have t0 := y1.frozen 0
  have t1 := y1.frozen 1
  have t2 := y1.frozen 2
  have t3 := y1.frozen 3
  have t4 := y1.frozen 4
  have q0 := x1.lt
  have q1 := y1.lt
  go_region_held3 (fun w' => w'.cell? ⟨w.heap.size, 0, none⟩ = some (.int .i64 f.W) ∧ w'.cell? ⟨w.heap.size, 1, none⟩ = some (.int .i64 f.H) ∧ w'.cell? ⟨w.heap.size, 2, none⟩ = some (.slice ya yn yc) ∧ w'.cell? ⟨w.heap.size, 3, none⟩ = some (.slice ua un uc) ∧ w'.cell? ⟨w.heap.size, 4, none⟩ = some (.slice va vn vc))
    (first | (refine ⟨?_, ?_, ?_, ?_, ?_⟩ <;> go_simp; done) | go_keep)
    (first
     | (go_at_call 63; ((with_reducible refine (plane_copied (p := p) ya yn yc f.Y _ hyA hY).mono ?_); rintro e w3 ⟨g3, rfl, hg3, hB3, hb3⟩; have hb3 : Below wA.heap.size wA w3 := (by first | exact undrew (undrew hb3) | exact undrew hb3); obtain ⟨c_w3, z_w3⟩ := bcell hb3; have s_w3 := hb3.size; have q_3_0 : w.heap.size < w3.heap.size := (by omega); have q_3_1 : w.heap.size + 1 < w3.heap.size := (by omega)))
     | (go_at_call 63; ((with_reducible refine (plane_copied (p := p) ua un uc f.U _ (huA.ext hb3) hU).mono ?_); rintro e w4 ⟨g4, rfl, hg4, hB4, hb4⟩; obtain ⟨c_w4, z_w4⟩ := bcell hb4; have q_4_0 : w.heap.size < w4.heap.size := (by have := hb4.size; omega); have q_4_1 : w.heap.size + 1 < w4.heap.size := (by have := hb4.size; omega)))
     | (go_at_call 63; ((with_reducible refine (plane_copied (p := p) va vn vc f.V _ ((hvA.ext hb3).ext hb4) hV).mono ?_); rintro e w5 ⟨g5, rfl, hg5, hB5, hb5⟩; obtain ⟨c_w5, z_w5⟩ := bcell hb5; have q_5_0 : w.heap.size < w5.heap.size := (by have := hb4.size; have := hb5.size; omega); have q_5_1 : w.heap.size + 1 < w5.heap.size := (by have := hb4.size; have := hb5.size; omega))))
  go_wp2
  have u3 := hb3.size
  have u4 := hb4.size
  have u5 := hb5.size
  have l3 := hB3.lt
  have l4 := hB4.lt
  have hgA : wA.heap.size ≤ g3 := hg3
  have BZ : Below w.heap.size w w5 := ((B1.trans (hb3.mono B1.size)).trans (hb4.mono (by have := B1.size; omega))).trans (hb5.mono (by have := B1.size; omega))
  refine bodyPost_ret (v := .agg #[.int .i64 f.W, .int .i64 f.H, .slice (some ⟨g3, 0, none⟩) f.Y.length f.Y.length, .slice (some ⟨g4, 0, none⟩) f.U.length f.U.length, .slice (some ⟨g5, 0, none⟩) f.V.length f.V.length]) (by simp only [results, Try.results57]; go_simp) rfl ⟨_, g3, g4, g5, rfl, ⟨rfl, by omega, by omega, by omega, by omega, by omega, by omega, ?_, ?_, ?_⟩, ?_⟩
  · repeat refine Bk.far ?_ (by simp; omega) _
    exact (hB3.ext hb4).ext hb5
  · repeat refine Bk.far ?_ (by simp; omega) _
    exact hB4.ext hb5
  · repeat refine Bk.far ?_ (by simp; omega) _
    exact hB5
  ·
    repeat (first | (with_reducible exact BZ) | (with_reducible refine Below.setCell ?_ (by first | (simp; done) | (simp; omega)) _) | (with_reducible refine Below.alloc ?_ (by first | (simp; done) | (simp; omega)) _) | (with_reducible refine Below.drew ?_))
end Go.Proofs.Ytcboppldclknjaa
