/- The contracts of the two functions Average. -/
import Derived.Test.YtaedpadkpclldaaEqual
import Derived.Test.YtaedpadkpclldaaMean
namespace Go.Proofs.Ytaedpadkpclldaa
open Go.RowKit

def zeroFr : Fr := ⟨0, 0, [], [], []⟩
/-- What a call returns that gives a frame of new memory and an error number. -/
def RetFr (w : World) (r : Fr × Int) (e : Ending) (w' : World) : Prop :=
  ∃ v, e = .returned (.tuple #[v, .int .i64 r.2]) ∧ IsFr (w.heap.size ≤ ·) w' v r.1 ∧ Below w.heap.size w w'
def avgF (f g : Fr) : Fr × Int :=
  if formedB f && formedB g && decide (f.W = g.W) && decide (f.H = g.H) then (⟨f.W, f.H, meanL f.Y g.Y, meanL f.U g.U, meanL f.V g.V⟩, 0) else (zeroFr, 1)

theorem same_lens {W H : Int} {Y U V Y' U' V' : List Int} (h1 : formedB ⟨W, H, Y, U, V⟩ = true) (h2 : formedB ⟨W, H, Y', U', V'⟩ = true) :
    Y.length ≤ Y'.length ∧ U.length ≤ U'.length ∧ V.length ≤ V'.length ∧ Y.length ≤ 100000 ∧ U.length ≤ 100000 ∧ V.length ≤ 100000 ∧ 2 ≤ W ∧ 2 ≤ H := by
  simp only [formedB, Bool.and_eq_true, decide_eq_true_eq] at h1 h2
  obtain ⟨⟨⟨hs, a1⟩, a2⟩, a3⟩ := h1
  obtain ⟨⟨⟨_, b1⟩, b2⟩, b3⟩ := h2
  obtain ⟨g1, g2, g3, g4, g5, g6⟩ := sizeB_true hs
  have m1 := mul_bd (x := W) (y := H) (m := 64) (by omega) g2 (by omega) g5
  have m2 := mul_bd (x := W / 2) (y := H / 2) (m := 64) (by omega) (by omega) (by omega) (by omega)
  omega


set_option maxHeartbeats 2000000 in
theorem motion_Average_yes {p p' : Nat → Prop} (v v' : Value) (W H : Int) (Y U V Y' U' V' : List Int) (w : World) (hf : IsFr p w v ⟨W, H, Y, U, V⟩) (hg : IsFr p' w v' ⟨W, H, Y', U', V'⟩)
    (h1 : formedB ⟨W, H, Y, U, V⟩ = true) (h2 : formedB ⟨W, H, Y', U', V'⟩ = true) :
    Calls Try.prog 11 #[v, v'] w (RetFr w (⟨W, H, meanL Y Y', meanL U U', meanL V V'⟩, 0)) := by
  have hf0 := hf
  have hg0 := hg
  obtain ⟨ya, yn, yc, ua, un, uc, va, vn, vc, rfl, hy, hu, hv⟩ := hf
  obtain ⟨ya', yn', yc', ua', un', uc', va', vn', vc', rfl, hy', hu', hv'⟩ := hg
  obtain ⟨k1, k2, k3, k4, k5, k6, k7, k8⟩ := same_lens h1 h2
  dsimp only at *
  rw [hy.len, hy'.len] at k1
  rw [hu.len, hu'.len] at k2
  rw [hv.len, hv'.len] at k3
  rw [hy.len] at k4
  rw [hu.len] at k5
  rw [hv.len] at k6
  go_enter Try.func11, Try.ntmps11
  go_wp2_with fail
  refine (plane_Formed (p := p) _ ⟨W, H, Y, U, V⟩ _ (by (repeat with_reducible apply IsFr.alloc); exact hf0)).mono ?_
  rintro e w1 ⟨rfl, hb1⟩
  obtain ⟨c_w1, z_w1⟩ := bcell hb1
  have s_w1 := hb1.size
  try simp at s_w1
  try simp at c_w1
  try simp at z_w1
  have q_w1_0 : w.heap.size < w1.heap.size := by omega
  have q_w1_1 : w.heap.size + 1 < w1.heap.size := by omega
  have q_w1_2 : w.heap.size + 1 + 1 < w1.heap.size := by omega
  go_wp2_with fail
  refine (plane_Formed (p := p') _ ⟨W, H, Y', U', V'⟩ _ (IsFr.ext (by (repeat with_reducible apply IsFr.alloc); exact hg0) hb1)).mono ?_
  rintro e w2 ⟨rfl, hb2⟩
  obtain ⟨c_w2, z_w2⟩ := bcell hb2
  have s_w2 := hb2.size
  try simp at s_w2
  try simp at c_w2
  try simp at z_w2
  have q_w2_0 : w.heap.size < w2.heap.size := by omega
  have q_w2_1 : w.heap.size + 1 < w2.heap.size := by omega
  have q_w2_2 : w.heap.size + 1 + 1 < w2.heap.size := by omega
  have hby := ((((hy.alloc _).alloc _).alloc _).ext hb1).ext hb2
  have hbu := ((((hu.alloc _).alloc _).alloc _).ext hb1).ext hb2
  have hbv := ((((hv.alloc _).alloc _).alloc _).ext hb1).ext hb2
  have hby' := ((((hy'.alloc _).alloc _).alloc _).ext hb1).ext hb2
  have hbu' := ((((hu'.alloc _).alloc _).alloc _).ext hb1).ext hb2
  have hbv' := ((((hv'.alloc _).alloc _).alloc _).ext hb1).ext hb2
  go_wp2_with fail
  go_region_held3 (fun w' => w'.cell? ⟨w.heap.size, 0, none⟩ = some (.int .i64 W) ∧ w'.cell? ⟨w.heap.size, 1, none⟩ = some (.int .i64 H) ∧ w'.cell? ⟨w.heap.size, 2, none⟩ = some (.slice ya yn yc) ∧ w'.cell? ⟨w.heap.size, 3, none⟩ = some (.slice ua un uc) ∧ w'.cell? ⟨w.heap.size, 4, none⟩ = some (.slice va vn vc) ∧ w'.cell? ⟨w.heap.size + 1, 2, none⟩ = some (.slice ya' yn' yc') ∧ w'.cell? ⟨w.heap.size + 1, 3, none⟩ = some (.slice ua' un' uc') ∧ w'.cell? ⟨w.heap.size + 1, 4, none⟩ = some (.slice va' vn' vc'))
    (first | (refine ⟨?_, ?_, ?_, ?_, ?_, ?_, ?_, ?_⟩ <;> go_simp; done) | go_keep)
    (first
     | (go_at_call 26; ((with_reducible refine (motion_mean (p := p) (p' := p') ya ya' _ _ _ _ Y Y' _ hby.drew hby'.drew k1 k4).mono ?_); rintro e w3 ⟨A3, n3, m3, rfl, hB3, hb3⟩; have hb3 := undrew hb3; obtain ⟨c_w3, z_w3⟩ := bcell hb3; have s_w3 := hb3.size; have q_w3_0 : w.heap.size < w3.heap.size := (by omega); have q_w3_1 : w.heap.size + 1 < w3.heap.size := (by omega); have q_w3_2 : w.heap.size + 1 + 1 < w3.heap.size := (by omega)))
     | (go_at_call 26; ((with_reducible refine (motion_mean (p := p) (p' := p') ua ua' _ _ _ _ U U' _ (hbu.ext hb3) (hbu'.ext hb3) k2 k5).mono ?_); rintro e w4 ⟨A4, n4, m4, rfl, hB4, hb4⟩; obtain ⟨c_w4, z_w4⟩ := bcell hb4; have q_w4_0 : w.heap.size < w4.heap.size := (by have := hb4.size; omega); have q_w4_1 : w.heap.size + 1 < w4.heap.size := (by have := hb4.size; omega); have q_w4_2 : w.heap.size + 1 + 1 < w4.heap.size := (by have := hb4.size; omega)))
     | (go_at_call 26; ((with_reducible refine (motion_mean (p := p) (p' := p') va va' _ _ _ _ V V' _ ((hbv.ext hb3).ext hb4) ((hbv'.ext hb3).ext hb4) k3 k6).mono ?_); rintro e w5 ⟨A5, n5, m5, rfl, hB5, hb5⟩; obtain ⟨c_w5, z_w5⟩ := bcell hb5; have q_w5_0 : w.heap.size < w5.heap.size := (by have := hb4.size; have := hb5.size; omega); have q_w5_1 : w.heap.size + 1 < w5.heap.size := (by have := hb4.size; have := hb5.size; omega); have q_w5_2 : w.heap.size + 1 + 1 < w5.heap.size := (by have := hb4.size; have := hb5.size; omega))))
  go_wp2
  have np : ¬ (w2.heap.size ≤ w.heap.size + 1 + 1) := by omega
  have t3 := hb3.size
  have t4 := hb4.size
  have t5 := hb5.size
  have B0 : Below w.heap.size w w5 := (((((((Below.refl _ w).alloc (by simp) _).alloc (by simp) _).alloc (by simp; omega) _).trans (hb1.mono (by simp; omega))).trans (hb2.mono (by omega))).trans (hb3.mono (by omega))).trans (hb4.mono (by omega)) |>.trans (hb5.mono (by omega))
  have r3 : Byt (w2.heap.size ≤ ·) w5 A3 n3 (meanL Y Y') := (hB3.ext hb4).ext hb5
  have r4 : Byt (w2.heap.size ≤ ·) w5 A4 n4 (meanL U U') := (hB4.mono (fun b _ h => by omega)).ext hb5
  have r5 : Byt (w2.heap.size ≤ ·) w5 A5 n5 (meanL V V') := hB5.mono (fun b _ h => by omega)
  refine bodyPost_ret (v := .tuple #[.agg #[.int .i64 W, .int .i64 H, .slice A3 n3 m3, .slice A4 n4 m4, .slice A5 n5 m5], .int .i64 0]) (by simp only [results, Try.results11]; go_simp) rfl ⟨_, rfl, ⟨A3, n3, m3, A4, n4, m4, A5, n5, m5, rfl, ?_, ?_, ?_⟩, ?_⟩
  · refine Byt.mono (p := (w2.heap.size ≤ ·)) ?_ (fun b _ h => by omega)
    repeat refine Byt.setCell ?_ np _
    exact r3
  · refine Byt.mono (p := (w2.heap.size ≤ ·)) ?_ (fun b _ h => by omega)
    repeat refine Byt.setCell ?_ np _
    exact r4
  · refine Byt.mono (p := (w2.heap.size ≤ ·)) ?_ (fun b _ h => by omega)
    repeat refine Byt.setCell ?_ np _
    exact r5
  · repeat refine Below.setCell ?_ (by simp; omega) _
    exact B0

set_option maxHeartbeats 2000000 in
theorem motion_Average_no {p p' : Nat → Prop} (v v' : Value) (f g : Fr) (w : World) (hf : IsFr p w v f) (hg : IsFr p' w v' g)
    (hno : (formedB f && formedB g && decide (f.W = g.W) && decide (f.H = g.H)) = false) :
    Calls Try.prog 11 #[v, v'] w (RetFr w (zeroFr, 1)) := by
  have hf0 := hf
  have hg0 := hg
  obtain ⟨ya, yn, yc, ua, un, uc, va, vn, vc, rfl, hy, hu, hv⟩ := hf
  obtain ⟨ya', yn', yc', ua', un', uc', va', vn', vc', rfl, hy', hu', hv'⟩ := hg
  clear hy hu hv hy' hu' hv'
  by_cases h1 : formedB f = true
  · by_cases h2 : formedB g = true
    · have hne : f.W = g.W → (f.H != g.H) = true := by simpa [h1, h2] using hno
      have HN := Lib.hid hne
      clear hne hno
      go_enter Try.func11, Try.ntmps11
      go_wp2_with fail
      refine (plane_Formed (p := p) _ f _ (by (repeat with_reducible apply IsFr.alloc); exact hf0)).mono ?_
      rintro e w1 ⟨rfl, hb1⟩
      obtain ⟨c_w1, z_w1⟩ := bcell hb1
      have s_w1 := hb1.size
      try simp at s_w1
      try simp at c_w1
      try simp at z_w1
      have q_w1_0 : w.heap.size < w1.heap.size := by omega
      have q_w1_1 : w.heap.size + 1 < w1.heap.size := by omega
      have q_w1_2 : w.heap.size + 1 + 1 < w1.heap.size := by omega
      go_wp2_with fail
      refine (plane_Formed (p := p') _ g _ (IsFr.ext (by (repeat with_reducible apply IsFr.alloc); exact hg0) hb1)).mono ?_
      rintro e w2 ⟨rfl, hb2⟩
      obtain ⟨c_w2, z_w2⟩ := bcell hb2
      have s_w2 := hb2.size
      try simp at s_w2
      try simp at c_w2
      try simp at z_w2
      have q_w2_0 : w.heap.size < w2.heap.size := by omega
      have q_w2_1 : w.heap.size + 1 < w2.heap.size := by omega
      have q_w2_2 : w.heap.size + 1 + 1 < w2.heap.size := by omega
      have B0 : Below w.heap.size w w2 := (((((Below.refl _ w).alloc (by simp) _).alloc (by simp) _).alloc (by simp; omega) _).trans (hb1.mono (by simp; omega))).trans (hb2.mono (by omega))
      by_cases hW : f.W = g.W
      · have hH := HN.out hW
        go_wp2_with fail
        refine bodyPost_ret (v := .tuple #[.agg #[.int .i64 0, .int .i64 0, .slice none 0 0, .slice none 0 0, .slice none 0 0], .int .i64 1]) (by simp only [results, Try.results11]; go_simp) rfl ⟨_, rfl, ⟨_, _, _, _, _, _, _, _, _, rfl, Byt.nil, Byt.nil, Byt.nil⟩, ?_⟩
        repeat refine Below.setCell ?_ (by simp; omega) _
        exact B0
      · have hW' : (f.W != g.W) = true := by simpa using hW
        go_wp2_with fail
        refine bodyPost_ret (v := .tuple #[.agg #[.int .i64 0, .int .i64 0, .slice none 0 0, .slice none 0 0, .slice none 0 0], .int .i64 1]) (by simp only [results, Try.results11]; go_simp) rfl ⟨_, rfl, ⟨_, _, _, _, _, _, _, _, _, rfl, Byt.nil, Byt.nil, Byt.nil⟩, ?_⟩
        repeat refine Below.setCell ?_ (by simp; omega) _
        exact B0
    · have h2' : formedB g = false := by simpa using h2
      clear hno
      go_enter Try.func11, Try.ntmps11
      go_wp2_with fail
      refine (plane_Formed (p := p) _ f _ (by (repeat with_reducible apply IsFr.alloc); exact hf0)).mono ?_
      rintro e w1 ⟨rfl, hb1⟩
      obtain ⟨c_w1, z_w1⟩ := bcell hb1
      have s_w1 := hb1.size
      try simp at s_w1
      try simp at c_w1
      try simp at z_w1
      have q_w1_0 : w.heap.size < w1.heap.size := by omega
      have q_w1_1 : w.heap.size + 1 < w1.heap.size := by omega
      have q_w1_2 : w.heap.size + 1 + 1 < w1.heap.size := by omega
      go_wp2_with fail
      refine (plane_Formed (p := p') _ g _ (IsFr.ext (by (repeat with_reducible apply IsFr.alloc); exact hg0) hb1)).mono ?_
      rintro e w2 ⟨rfl, hb2⟩
      obtain ⟨c_w2, z_w2⟩ := bcell hb2
      have s_w2 := hb2.size
      try simp at s_w2
      try simp at c_w2
      try simp at z_w2
      have q_w2_0 : w.heap.size < w2.heap.size := by omega
      have q_w2_1 : w.heap.size + 1 < w2.heap.size := by omega
      have q_w2_2 : w.heap.size + 1 + 1 < w2.heap.size := by omega
      have B0 : Below w.heap.size w w2 := (((((Below.refl _ w).alloc (by simp) _).alloc (by simp) _).alloc (by simp; omega) _).trans (hb1.mono (by simp; omega))).trans (hb2.mono (by omega))
      go_wp2_with fail
      refine bodyPost_ret (v := .tuple #[.agg #[.int .i64 0, .int .i64 0, .slice none 0 0, .slice none 0 0, .slice none 0 0], .int .i64 1]) (by simp only [results, Try.results11]; go_simp) rfl ⟨_, rfl, ⟨_, _, _, _, _, _, _, _, _, rfl, Byt.nil, Byt.nil, Byt.nil⟩, ?_⟩
      repeat refine Below.setCell ?_ (by simp; omega) _
      exact B0
  · have h1' : formedB f = false := by simpa using h1
    clear hno
    go_enter Try.func11, Try.ntmps11
    go_wp2_with fail
    refine (plane_Formed (p := p) _ f _ (by (repeat with_reducible apply IsFr.alloc); exact hf0)).mono ?_
    rintro e w1 ⟨rfl, hb1⟩
    obtain ⟨c_w1, z_w1⟩ := bcell hb1
    have s_w1 := hb1.size
    try simp at s_w1
    try simp at c_w1
    try simp at z_w1
    have q_w1_0 : w.heap.size < w1.heap.size := by omega
    have q_w1_1 : w.heap.size + 1 < w1.heap.size := by omega
    have q_w1_2 : w.heap.size + 1 + 1 < w1.heap.size := by omega
    have B0 : Below w.heap.size w w1 := ((((Below.refl _ w).alloc (by simp) _).alloc (by simp) _).alloc (by simp; omega) _).trans (hb1.mono (by simp; omega))
    go_wp2_with fail
    refine bodyPost_ret (v := .tuple #[.agg #[.int .i64 0, .int .i64 0, .slice none 0 0, .slice none 0 0, .slice none 0 0], .int .i64 1]) (by simp only [results, Try.results11]; go_simp) rfl ⟨_, rfl, ⟨_, _, _, _, _, _, _, _, _, rfl, Byt.nil, Byt.nil, Byt.nil⟩, ?_⟩
    repeat refine Below.setCell ?_ (by simp; omega) _
    exact B0

theorem motion_Average {p p' : Nat → Prop} (v v' : Value) (f g : Fr) (w : World) (hf : IsFr p w v f) (hg : IsFr p' w v' g) :
    Calls Try.prog 11 #[v, v'] w (RetFr w (avgF f g)) := by
  unfold avgF
  by_cases h : (formedB f && formedB g && decide (f.W = g.W) && decide (f.H = g.H)) = true
  · rw [if_pos h]
    obtain ⟨W, H, Y, U, V⟩ := f
    obtain ⟨W', H', Y', U', V'⟩ := g
    simp only [Bool.and_eq_true, decide_eq_true_eq] at h
    obtain ⟨⟨⟨h1, h2⟩, rfl⟩, rfl⟩ := h
    exact motion_Average_yes v v' W H Y U V Y' U' V' w hf hg h1 h2
  · rw [if_neg h]
    exact motion_Average_no v v' f g w hf hg (by simpa using h)

set_option maxHeartbeats 2000000 in
theorem ref_Average_yes {p p' : Nat → Prop} (v v' : Value) (W H : Int) (Y U V Y' U' V' : List Int) (w : World) (hf : IsFr p w v ⟨W, H, Y, U, V⟩) (hg : IsFr p' w v' ⟨W, H, Y', U', V'⟩)
    (h1 : formedB ⟨W, H, Y, U, V⟩ = true) (h2 : formedB ⟨W, H, Y', U', V'⟩ = true) :
    Calls Try.prog 12 #[v, v'] w (RetFr w (⟨W, H, meanL Y Y', meanL U U', meanL V V'⟩, 0)) := by
  have hf0 := hf
  have hg0 := hg
  obtain ⟨ya, yn, yc, ua, un, uc, va, vn, vc, rfl, hy, hu, hv⟩ := hf
  obtain ⟨ya', yn', yc', ua', un', uc', va', vn', vc', rfl, hy', hu', hv'⟩ := hg
  obtain ⟨k1, k2, k3, k4, k5, k6, k7, k8⟩ := same_lens h1 h2
  dsimp only at *
  rw [hy.len, hy'.len] at k1
  rw [hu.len, hu'.len] at k2
  rw [hv.len, hv'.len] at k3
  rw [hy.len] at k4
  rw [hu.len] at k5
  rw [hv.len] at k6
  go_enter Try.func12, Try.ntmps12
  go_wp2_with fail
  refine (ref_Formed (p := p) _ ⟨W, H, Y, U, V⟩ _ (by (repeat with_reducible apply IsFr.alloc); exact hf0)).mono ?_
  rintro e w1 ⟨rfl, hb1⟩
  obtain ⟨c_w1, z_w1⟩ := bcell hb1
  have s_w1 := hb1.size
  try simp at s_w1
  try simp at c_w1
  try simp at z_w1
  have q_w1_0 : w.heap.size < w1.heap.size := by omega
  have q_w1_1 : w.heap.size + 1 < w1.heap.size := by omega
  have q_w1_2 : w.heap.size + 1 + 1 < w1.heap.size := by omega
  go_wp2_with fail
  refine (ref_Formed (p := p') _ ⟨W, H, Y', U', V'⟩ _ (IsFr.ext (by (repeat with_reducible apply IsFr.alloc); exact hg0) hb1)).mono ?_
  rintro e w2 ⟨rfl, hb2⟩
  obtain ⟨c_w2, z_w2⟩ := bcell hb2
  have s_w2 := hb2.size
  try simp at s_w2
  try simp at c_w2
  try simp at z_w2
  have q_w2_0 : w.heap.size < w2.heap.size := by omega
  have q_w2_1 : w.heap.size + 1 < w2.heap.size := by omega
  have q_w2_2 : w.heap.size + 1 + 1 < w2.heap.size := by omega
  have hby := ((((hy.alloc _).alloc _).alloc _).ext hb1).ext hb2
  have hbu := ((((hu.alloc _).alloc _).alloc _).ext hb1).ext hb2
  have hbv := ((((hv.alloc _).alloc _).alloc _).ext hb1).ext hb2
  have hby' := ((((hy'.alloc _).alloc _).alloc _).ext hb1).ext hb2
  have hbu' := ((((hu'.alloc _).alloc _).alloc _).ext hb1).ext hb2
  have hbv' := ((((hv'.alloc _).alloc _).alloc _).ext hb1).ext hb2
  go_wp2_with fail
  go_region_held3 (fun w' => w'.cell? ⟨w.heap.size, 0, none⟩ = some (.int .i64 W) ∧ w'.cell? ⟨w.heap.size, 1, none⟩ = some (.int .i64 H) ∧ w'.cell? ⟨w.heap.size, 2, none⟩ = some (.slice ya yn yc) ∧ w'.cell? ⟨w.heap.size, 3, none⟩ = some (.slice ua un uc) ∧ w'.cell? ⟨w.heap.size, 4, none⟩ = some (.slice va vn vc) ∧ w'.cell? ⟨w.heap.size + 1, 2, none⟩ = some (.slice ya' yn' yc') ∧ w'.cell? ⟨w.heap.size + 1, 3, none⟩ = some (.slice ua' un' uc') ∧ w'.cell? ⟨w.heap.size + 1, 4, none⟩ = some (.slice va' vn' vc'))
    (first | (refine ⟨?_, ?_, ?_, ?_, ?_, ?_, ?_, ?_⟩ <;> go_simp; done) | go_keep)
    (first
     | (go_at_call 28; ((with_reducible refine (ref_mean (p := p) (p' := p') ya ya' _ _ _ _ Y Y' _ hby.drew hby'.drew k1 k4).mono ?_); rintro e w3 ⟨A3, n3, m3, rfl, hB3, hb3⟩; have hb3 := undrew hb3; obtain ⟨c_w3, z_w3⟩ := bcell hb3; have s_w3 := hb3.size; have q_w3_0 : w.heap.size < w3.heap.size := (by omega); have q_w3_1 : w.heap.size + 1 < w3.heap.size := (by omega); have q_w3_2 : w.heap.size + 1 + 1 < w3.heap.size := (by omega)))
     | (go_at_call 28; ((with_reducible refine (ref_mean (p := p) (p' := p') ua ua' _ _ _ _ U U' _ (hbu.ext hb3) (hbu'.ext hb3) k2 k5).mono ?_); rintro e w4 ⟨A4, n4, m4, rfl, hB4, hb4⟩; obtain ⟨c_w4, z_w4⟩ := bcell hb4; have q_w4_0 : w.heap.size < w4.heap.size := (by have := hb4.size; omega); have q_w4_1 : w.heap.size + 1 < w4.heap.size := (by have := hb4.size; omega); have q_w4_2 : w.heap.size + 1 + 1 < w4.heap.size := (by have := hb4.size; omega)))
     | (go_at_call 28; ((with_reducible refine (ref_mean (p := p) (p' := p') va va' _ _ _ _ V V' _ ((hbv.ext hb3).ext hb4) ((hbv'.ext hb3).ext hb4) k3 k6).mono ?_); rintro e w5 ⟨A5, n5, m5, rfl, hB5, hb5⟩; obtain ⟨c_w5, z_w5⟩ := bcell hb5; have q_w5_0 : w.heap.size < w5.heap.size := (by have := hb4.size; have := hb5.size; omega); have q_w5_1 : w.heap.size + 1 < w5.heap.size := (by have := hb4.size; have := hb5.size; omega); have q_w5_2 : w.heap.size + 1 + 1 < w5.heap.size := (by have := hb4.size; have := hb5.size; omega))))
  go_wp2
  have np : ¬ (w2.heap.size ≤ w.heap.size + 1 + 1) := by omega
  have t3 := hb3.size
  have t4 := hb4.size
  have t5 := hb5.size
  have B0 : Below w.heap.size w w5 := (((((((Below.refl _ w).alloc (by simp) _).alloc (by simp) _).alloc (by simp; omega) _).trans (hb1.mono (by simp; omega))).trans (hb2.mono (by omega))).trans (hb3.mono (by omega))).trans (hb4.mono (by omega)) |>.trans (hb5.mono (by omega))
  have r3 : Byt (w2.heap.size ≤ ·) w5 A3 n3 (meanL Y Y') := (hB3.ext hb4).ext hb5
  have r4 : Byt (w2.heap.size ≤ ·) w5 A4 n4 (meanL U U') := (hB4.mono (fun b _ h => by omega)).ext hb5
  have r5 : Byt (w2.heap.size ≤ ·) w5 A5 n5 (meanL V V') := hB5.mono (fun b _ h => by omega)
  refine bodyPost_ret (v := .tuple #[.agg #[.int .i64 W, .int .i64 H, .slice A3 n3 m3, .slice A4 n4 m4, .slice A5 n5 m5], .int .i64 0]) (by simp only [results, Try.results12]; go_simp) rfl ⟨_, rfl, ⟨A3, n3, m3, A4, n4, m4, A5, n5, m5, rfl, ?_, ?_, ?_⟩, ?_⟩
  · refine Byt.mono (p := (w2.heap.size ≤ ·)) ?_ (fun b _ h => by omega)
    repeat refine Byt.setCell ?_ np _
    exact r3
  · refine Byt.mono (p := (w2.heap.size ≤ ·)) ?_ (fun b _ h => by omega)
    repeat refine Byt.setCell ?_ np _
    exact r4
  · refine Byt.mono (p := (w2.heap.size ≤ ·)) ?_ (fun b _ h => by omega)
    repeat refine Byt.setCell ?_ np _
    exact r5
  · repeat refine Below.setCell ?_ (by simp; omega) _
    exact B0

set_option maxHeartbeats 2000000 in
theorem ref_Average_no {p p' : Nat → Prop} (v v' : Value) (f g : Fr) (w : World) (hf : IsFr p w v f) (hg : IsFr p' w v' g)
    (hno : (formedB f && formedB g && decide (f.W = g.W) && decide (f.H = g.H)) = false) :
    Calls Try.prog 12 #[v, v'] w (RetFr w (zeroFr, 1)) := by
  have hf0 := hf
  have hg0 := hg
  obtain ⟨ya, yn, yc, ua, un, uc, va, vn, vc, rfl, hy, hu, hv⟩ := hf
  obtain ⟨ya', yn', yc', ua', un', uc', va', vn', vc', rfl, hy', hu', hv'⟩ := hg
  clear hy hu hv hy' hu' hv'
  by_cases h1 : formedB f = true
  · by_cases h2 : formedB g = true
    · have hne : f.W = g.W → (f.H != g.H) = true := by simpa [h1, h2] using hno
      have HN := Lib.hid hne
      clear hne hno
      go_enter Try.func12, Try.ntmps12
      go_wp2_with fail
      refine (ref_Formed (p := p) _ f _ (by (repeat with_reducible apply IsFr.alloc); exact hf0)).mono ?_
      rintro e w1 ⟨rfl, hb1⟩
      obtain ⟨c_w1, z_w1⟩ := bcell hb1
      have s_w1 := hb1.size
      try simp at s_w1
      try simp at c_w1
      try simp at z_w1
      have q_w1_0 : w.heap.size < w1.heap.size := by omega
      have q_w1_1 : w.heap.size + 1 < w1.heap.size := by omega
      have q_w1_2 : w.heap.size + 1 + 1 < w1.heap.size := by omega
      go_wp2_with fail
      refine (ref_Formed (p := p') _ g _ (IsFr.ext (by (repeat with_reducible apply IsFr.alloc); exact hg0) hb1)).mono ?_
      rintro e w2 ⟨rfl, hb2⟩
      obtain ⟨c_w2, z_w2⟩ := bcell hb2
      have s_w2 := hb2.size
      try simp at s_w2
      try simp at c_w2
      try simp at z_w2
      have q_w2_0 : w.heap.size < w2.heap.size := by omega
      have q_w2_1 : w.heap.size + 1 < w2.heap.size := by omega
      have q_w2_2 : w.heap.size + 1 + 1 < w2.heap.size := by omega
      have B0 : Below w.heap.size w w2 := (((((Below.refl _ w).alloc (by simp) _).alloc (by simp) _).alloc (by simp; omega) _).trans (hb1.mono (by simp; omega))).trans (hb2.mono (by omega))
      by_cases hW : f.W = g.W
      · have hH := HN.out hW
        go_wp2_with fail
        refine bodyPost_ret (v := .tuple #[.agg #[.int .i64 0, .int .i64 0, .slice none 0 0, .slice none 0 0, .slice none 0 0], .int .i64 1]) (by simp only [results, Try.results12]; go_simp) rfl ⟨_, rfl, ⟨_, _, _, _, _, _, _, _, _, rfl, Byt.nil, Byt.nil, Byt.nil⟩, ?_⟩
        repeat refine Below.setCell ?_ (by simp; omega) _
        exact B0
      · have hW' : (f.W != g.W) = true := by simpa using hW
        go_wp2_with fail
        refine bodyPost_ret (v := .tuple #[.agg #[.int .i64 0, .int .i64 0, .slice none 0 0, .slice none 0 0, .slice none 0 0], .int .i64 1]) (by simp only [results, Try.results12]; go_simp) rfl ⟨_, rfl, ⟨_, _, _, _, _, _, _, _, _, rfl, Byt.nil, Byt.nil, Byt.nil⟩, ?_⟩
        repeat refine Below.setCell ?_ (by simp; omega) _
        exact B0
    · have h2' : formedB g = false := by simpa using h2
      clear hno
      go_enter Try.func12, Try.ntmps12
      go_wp2_with fail
      refine (ref_Formed (p := p) _ f _ (by (repeat with_reducible apply IsFr.alloc); exact hf0)).mono ?_
      rintro e w1 ⟨rfl, hb1⟩
      obtain ⟨c_w1, z_w1⟩ := bcell hb1
      have s_w1 := hb1.size
      try simp at s_w1
      try simp at c_w1
      try simp at z_w1
      have q_w1_0 : w.heap.size < w1.heap.size := by omega
      have q_w1_1 : w.heap.size + 1 < w1.heap.size := by omega
      have q_w1_2 : w.heap.size + 1 + 1 < w1.heap.size := by omega
      go_wp2_with fail
      refine (ref_Formed (p := p') _ g _ (IsFr.ext (by (repeat with_reducible apply IsFr.alloc); exact hg0) hb1)).mono ?_
      rintro e w2 ⟨rfl, hb2⟩
      obtain ⟨c_w2, z_w2⟩ := bcell hb2
      have s_w2 := hb2.size
      try simp at s_w2
      try simp at c_w2
      try simp at z_w2
      have q_w2_0 : w.heap.size < w2.heap.size := by omega
      have q_w2_1 : w.heap.size + 1 < w2.heap.size := by omega
      have q_w2_2 : w.heap.size + 1 + 1 < w2.heap.size := by omega
      have B0 : Below w.heap.size w w2 := (((((Below.refl _ w).alloc (by simp) _).alloc (by simp) _).alloc (by simp; omega) _).trans (hb1.mono (by simp; omega))).trans (hb2.mono (by omega))
      go_wp2_with fail
      refine bodyPost_ret (v := .tuple #[.agg #[.int .i64 0, .int .i64 0, .slice none 0 0, .slice none 0 0, .slice none 0 0], .int .i64 1]) (by simp only [results, Try.results12]; go_simp) rfl ⟨_, rfl, ⟨_, _, _, _, _, _, _, _, _, rfl, Byt.nil, Byt.nil, Byt.nil⟩, ?_⟩
      repeat refine Below.setCell ?_ (by simp; omega) _
      exact B0
  · have h1' : formedB f = false := by simpa using h1
    clear hno
    go_enter Try.func12, Try.ntmps12
    go_wp2_with fail
    refine (ref_Formed (p := p) _ f _ (by (repeat with_reducible apply IsFr.alloc); exact hf0)).mono ?_
    rintro e w1 ⟨rfl, hb1⟩
    obtain ⟨c_w1, z_w1⟩ := bcell hb1
    have s_w1 := hb1.size
    try simp at s_w1
    try simp at c_w1
    try simp at z_w1
    have q_w1_0 : w.heap.size < w1.heap.size := by omega
    have q_w1_1 : w.heap.size + 1 < w1.heap.size := by omega
    have q_w1_2 : w.heap.size + 1 + 1 < w1.heap.size := by omega
    have B0 : Below w.heap.size w w1 := ((((Below.refl _ w).alloc (by simp) _).alloc (by simp) _).alloc (by simp; omega) _).trans (hb1.mono (by simp; omega))
    go_wp2_with fail
    refine bodyPost_ret (v := .tuple #[.agg #[.int .i64 0, .int .i64 0, .slice none 0 0, .slice none 0 0, .slice none 0 0], .int .i64 1]) (by simp only [results, Try.results12]; go_simp) rfl ⟨_, rfl, ⟨_, _, _, _, _, _, _, _, _, rfl, Byt.nil, Byt.nil, Byt.nil⟩, ?_⟩
    repeat refine Below.setCell ?_ (by simp; omega) _
    exact B0

theorem ref_Average {p p' : Nat → Prop} (v v' : Value) (f g : Fr) (w : World) (hf : IsFr p w v f) (hg : IsFr p' w v' g) :
    Calls Try.prog 12 #[v, v'] w (RetFr w (avgF f g)) := by
  unfold avgF
  by_cases h : (formedB f && formedB g && decide (f.W = g.W) && decide (f.H = g.H)) = true
  · rw [if_pos h]
    obtain ⟨W, H, Y, U, V⟩ := f
    obtain ⟨W', H', Y', U', V'⟩ := g
    simp only [Bool.and_eq_true, decide_eq_true_eq] at h
    obtain ⟨⟨⟨h1, h2⟩, rfl⟩, rfl⟩ := h
    exact ref_Average_yes v v' W H Y U V Y' U' V' w hf hg h1 h2
  · rw [if_neg h]
    exact ref_Average_no v v' f g w hf hg (by simpa using h)

end Go.Proofs.Ytaedpadkpclldaa
