/- Samples at half positions: the plain functions, and the contracts of motion.inside, of the closure in motion.predict, and of sample and half of the reference. -/
import Derived.Test.YtaedpadkpclldaaForm
import Derived.Test.YtaedpadkpclldaaWords2
namespace Go.Proofs.Ytaedpadkpclldaa
open Go.RowKit

attribute [local go_sem ↓] run_min_mm run_max_mm i64_and_one
def clampI (i n : Int) : Int := max 0 (min i (n - 1))
theorem clampI_bd {i n : Int} (h : 1 ≤ n) : 0 ≤ clampI i n ∧ clampI i n ≤ n - 1 := by
  unfold clampI; omega
def pix (l : List Int) (cols rows x y : Int) : Int := l.getD (clampI y rows * cols + clampI x cols).toNat 0
def halfS (l : List Int) (cols rows a b : Int) : Int :=
  (pix l cols rows (a / 2) (b / 2) + pix l cols rows (a / 2 + a % 2) (b / 2) + pix l cols rows (a / 2) (b / 2 + b % 2) + pix l cols rows (a / 2 + a % 2) (b / 2 + b % 2) + 2) / 4

theorem ret_int {k : IntKind} {a b : Int} (h : a = b) : Ending.returned (.int k a) = .returned (.int k b) := by rw [h]

set_option maxHeartbeats 400000 in
theorem motion_inside (i n : Int) (h0 : -100000 ≤ i) (h1 : i ≤ 100000) (h2 : 1 ≤ n) (h3 : n ≤ 100000) (w : World) :
    Calls Try.prog 45 #[.int .i64 i, .int .i64 n] w fun e w' => e = .returned (.int .i64 (clampI i n)) ∧ w = w' := by
  go_enter Try.func45, Try.ntmps45
  go_wp2
  go_ret
  exact ⟨ret_int (by unfold clampI; omega), rfl⟩

/-- Four bytes whose rounded mean is asked for. -/
theorem mean4_bd {p q r s : Int} (hp : 0 ≤ p ∧ p ≤ 255) (hq : 0 ≤ q ∧ q ≤ 255) (hr : 0 ≤ r ∧ r ≤ 255) (hs : 0 ≤ s ∧ s ≤ 255) : 0 ≤ (p + q + r + s + 2) / 4 ∧ (p + q + r + s + 2) / 4 ≤ 255 := by omega
theorem pix_at {l : List Int} {cols rows x y : Int} {v : Int} (h : l[(clampI y rows * cols + clampI x cols).toNat]? = some v) : pix l cols rows x y = v := by
  unfold pix; rw [List.getD_eq_getElem?_getD, h]; rfl

/-- The place of a sample lies in the plane. -/
theorem place_bd {cols rows x y : Int} (hc : 1 ≤ cols) (hr : 1 ≤ rows) : 0 ≤ clampI y rows * cols + clampI x cols ∧ clampI y rows * cols + clampI x cols < cols * rows ∧ 0 ≤ clampI y rows * cols ∧ clampI y rows * cols < cols * rows := by
  have h1 := clampI_bd (i := x) hc
  have h2 := clampI_bd (i := y) hr
  have h3 : 0 ≤ clampI y rows * cols := Int.mul_nonneg h2.1 (by omega)
  have h4 : clampI y rows * cols ≤ (rows - 1) * cols := Int.mul_le_mul_of_nonneg_right h2.2 (by omega)
  have h5 : (rows - 1) * cols = cols * rows - cols := by rw [Int.sub_mul, Int.one_mul, Int.mul_comm]
  omega

set_option maxHeartbeats 2000000 in
theorem motion_interp {p : Nat → Prop} (col row cols rows rt dn : Int) (b2 b3 b4 b5 b6 : Nat) (A : Option Addr) (n c : Nat) (l : List Int) (w : World) (hl : Byt p w A n l) (hn : (n : Int) = cols * rows)
    (hc1 : 1 ≤ cols) (hc2 : cols ≤ 64) (hr1 : 1 ≤ rows) (hr2 : rows ≤ 64) (h1 : -1000 ≤ col) (h2 : col ≤ 1000) (h3 : -1000 ≤ row) (h4 : row ≤ 1000) (ht1 : 0 ≤ rt) (ht2 : rt ≤ 1) (hd1 : 0 ≤ dn) (hd2 : dn ≤ 1)
    (k2 : w.cell? ⟨b2, 0, none⟩ = some (.int .i64 cols)) (k3 : w.cell? ⟨b3, 0, none⟩ = some (.int .i64 rt)) (k4 : w.cell? ⟨b4, 0, none⟩ = some (.int .i64 rows)) (k5 : w.cell? ⟨b5, 0, none⟩ = some (.int .i64 dn)) (k6 : w.cell? ⟨b6, 0, none⟩ = some (.slice A n c)) :
    Calls Try.prog 44 #[.int .i64 col, .int .i64 row, .pointer (some ⟨b2, 0, none⟩), .pointer (some ⟨b3, 0, none⟩), .pointer (some ⟨b4, 0, none⟩), .pointer (some ⟨b5, 0, none⟩), .pointer (some ⟨b6, 0, none⟩)] w
      fun e w' => e = .returned (.int .u8 ((pix l cols rows col row + pix l cols rows (col + rt) row + pix l cols rows col (row + dn) + pix l cols rows (col + rt) (row + dn) + 2) / 4)) ∧ w.drew.drew.drew = w' := by
  have q1 := place_bd (x := col) (y := row) hc1 hr1
  have q2 := place_bd (x := col + rt) (y := row) hc1 hr1
  have q3 := place_bd (x := col) (y := row + dn) hc1 hr1
  have q4 := place_bd (x := col + rt) (y := row + dn) hc1 hr1
  obtain ⟨bb, oo, p1, rfl, _, hbb, hp1, z1, y1, c1⟩ := hl.at_ (k := (clampI row rows * cols + clampI col cols).toNat) (by omega)
  obtain ⟨_, _, p2, e2, _, _, hp2, z2, y2, c2⟩ := hl.at_ (k := (clampI row rows * cols + clampI (col + rt) cols).toNat) (by omega)
  obtain ⟨_, _, p3, e3, _, _, hp3, z3, y3, c3⟩ := hl.at_ (k := (clampI (row + dn) rows * cols + clampI col cols).toNat) (by omega)
  obtain ⟨_, _, p4, e4, _, _, hp4, z4, y4, c4⟩ := hl.at_ (k := (clampI (row + dn) rows * cols + clampI (col + rt) cols).toNat) (by omega)
  cases e2; cases e3; cases e4
  rw [pix_at hp1, pix_at hp2, pix_at hp3, pix_at hp4]
  clear hp1 hp2 hp3 hp4
  have r1 := clampI_bd (i := col) hc1
  have r2 := clampI_bd (i := col + rt) hc1
  have m64 : cols * rows ≤ 64 * 64 := (mul_bd (by omega) hc2 (by omega) hr2).2
  have HN := Lib.hid hn
  have hn' : (n : Int) ≤ cols * rows := by omega
  have hn'' : cols * rows ≤ (n : Int) := by omega
  clear hn
  have e0 : IntKind.i64.wrap (col + rt) = col + rt := IntWalk.i64_in _ (by omega)
  have e1 : IntKind.i64.wrap (row + dn) = row + dn := IntWalk.i64_in _ (by omega)
  go_enter Try.func44, Try.ntmps44
  go_wp2
  go_region_held3 (fun w' => w'.cell? ⟨b2, 0, none⟩ = some (.int .i64 cols) ∧ w'.cell? ⟨b3, 0, none⟩ = some (.int .i64 rt)) (go_keep)
    (first
     | (go_at_call 45; ((with_reducible refine (motion_inside _ _ ?_ ?_ ?_ ?_ _).mono ?_); (omega); (omega); (omega); (omega); rintro e w' ⟨rfl, rfl⟩)))
  generalize hA : clampI col cols = ca at *
  generalize hB : clampI (col + rt) cols = cb at *
  clear hA hB
  have e2 : IntKind.i64.wrap (clampI row rows * cols) = clampI row rows * cols := IntWalk.i64_in _ (by omega)
  have e3 : IntKind.i64.wrap (clampI (row + dn) rows * cols) = clampI (row + dn) rows * cols := IntWalk.i64_in _ (by omega)
  go_wp2
  go_region_held3 (fun w' => w'.cell? ⟨b2, 0, none⟩ = some (.int .i64 cols) ∧ w'.cell? ⟨b4, 0, none⟩ = some (.int .i64 rows) ∧ w'.cell? ⟨b5, 0, none⟩ = some (.int .i64 dn)) (go_keep)
    (first
     | (go_at_call 45; ((with_reducible refine (motion_inside _ _ ?_ ?_ ?_ ?_ _).mono ?_); (omega); (omega); (omega); (omega); rintro e w' ⟨rfl, rfl⟩)))
  clear e0 e1 e2 e3
  generalize hU : clampI row rows * cols = ru at *
  generalize hD : clampI (row + dn) rows * cols = rd at *
  clear hU hD
  have f1 : IntKind.i64.wrap (ru + ca) = ru + ca := IntWalk.i64_in _ (by omega)
  have f2 : IntKind.i64.wrap (ru + cb) = ru + cb := IntWalk.i64_in _ (by omega)
  have f3 : IntKind.i64.wrap (rd + ca) = rd + ca := IntWalk.i64_in _ (by omega)
  have f4 : IntKind.i64.wrap (rd + cb) = rd + cb := IntWalk.i64_in _ (by omega)
  have i1 : ru + ca < (n : Int) := by omega
  have i2 : ru + cb < (n : Int) := by omega
  have i3 : rd + ca < (n : Int) := by omega
  have i4 : rd + cb < (n : Int) := by omega
  have j1 : 0 ≤ ru + ca := by omega
  have j2 : 0 ≤ ru + cb := by omega
  have j3 : 0 ≤ rd + ca := by omega
  have j4 : 0 ≤ rd + cb := by omega
  have g1 : IntKind.i64.wrap p1 = p1 := IntWalk.i64_in _ (by omega)
  have g2 : IntKind.i64.wrap p2 = p2 := IntWalk.i64_in _ (by omega)
  have g3 : IntKind.i64.wrap p3 = p3 := IntWalk.i64_in _ (by omega)
  have g4 : IntKind.i64.wrap p4 = p4 := IntWalk.i64_in _ (by omega)
  have g5 : IntKind.i64.wrap (p1 + p2) = p1 + p2 := IntWalk.i64_in _ (by omega)
  have g6 : IntKind.i64.wrap (p1 + p2 + p3) = p1 + p2 + p3 := IntWalk.i64_in _ (by omega)
  have g7 : IntKind.i64.wrap (p1 + p2 + p3 + p4) = p1 + p2 + p3 + p4 := IntWalk.i64_in _ (by omega)
  go_wp2
  go_region_held3 (fun w' => w'.cell? ⟨b6, 0, none⟩ = some (.slice (some ⟨bb, oo, none⟩) n c) ∧ w'.cell? ⟨bb, oo + (ru + ca).toNat, none⟩ = some (.int .u8 p1) ∧ w'.cell? ⟨bb, oo + (ru + cb).toNat, none⟩ = some (.int .u8 p2) ∧ w'.cell? ⟨bb, oo + (rd + ca).toNat, none⟩ = some (.int .u8 p3) ∧ w'.cell? ⟨bb, oo + (rd + cb).toNat, none⟩ = some (.int .u8 p4)) (go_keep) (fail)
  clear f1 f2 f3 f4 g1 g2 g3 g4 g5 g6 g7
  go_wp2
  go_ret
  exact ⟨rfl, rfl⟩

set_option maxHeartbeats 1000000 in
theorem ref_sample {p : Nat → Prop} (x y cols rows : Int) (A : Option Addr) (n c : Nat) (l : List Int) (w : World) (hl : Byt p w A n l) (hn : (n : Int) = cols * rows)
    (hc1 : 1 ≤ cols) (hc2 : cols ≤ 64) (hr1 : 1 ≤ rows) (hr2 : rows ≤ 64) :
    Calls Try.prog 51 #[.slice A n c, .int .i64 cols, .int .i64 x, .int .i64 y] w fun e w' => e = .returned (.int .i64 (pix l cols rows x y)) ∧ w = w' := by
  have q1 := place_bd (x := x) (y := y) hc1 hr1
  obtain ⟨bb, oo, p1, rfl, _, hbb, hp1, z1, y1, c1⟩ := hl.at_ (k := (clampI y rows * cols + clampI x cols).toNat) (by omega)
  rw [pix_at hp1]
  clear hp1
  have r1 := clampI_bd (i := x) hc1
  have m64 : cols * rows ≤ 64 * 64 := (mul_bd (by omega) hc2 (by omega) hr2).2
  have hq : (n : Int) / cols = rows := by rw [hn]; exact Int.mul_ediv_cancel_left _ (by omega)
  have hn' : (n : Int) ≤ cols * rows := by omega
  have hn'' : cols * rows ≤ (n : Int) := by omega
  clear hn
  unfold clampI at *
  go_enter Try.func51, Try.ntmps51
  go_wp2
  go_ret
  exact ⟨rfl, rfl⟩

theorem pix_bd {l : List Int} (h : ∀ x ∈ l, 0 ≤ x ∧ x ≤ 255) (cols rows x y : Int) : 0 ≤ pix l cols rows x y ∧ pix l cols rows x y ≤ 255 := by
  unfold pix
  rw [List.getD_eq_getElem?_getD]
  rcases hv : l[(clampI y rows * cols + clampI x cols).toNat]? with _ | v
  · simp
  · exact h v (List.mem_of_getElem? hv)
theorem halfS_bd {l : List Int} (h : ∀ x ∈ l, 0 ≤ x ∧ x ≤ 255) (cols rows a b : Int) : 0 ≤ halfS l cols rows a b ∧ halfS l cols rows a b ≤ 255 := by
  unfold halfS
  have h1 := pix_bd h cols rows (a / 2) (b / 2)
  have h2 := pix_bd h cols rows (a / 2 + a % 2) (b / 2)
  have h3 := pix_bd h cols rows (a / 2) (b / 2 + b % 2)
  have h4 := pix_bd h cols rows (a / 2 + a % 2) (b / 2 + b % 2)
  omega

set_option maxHeartbeats 1000000 in
theorem ref_half {p : Nat → Prop} (a b cols rows : Int) (A : Option Addr) (n c : Nat) (l : List Int) (w : World) (hl : Byt p w A n l) (hn : (n : Int) = cols * rows)
    (hc1 : 1 ≤ cols) (hc2 : cols ≤ 64) (hr1 : 1 ≤ rows) (hr2 : rows ≤ 64) (h1 : -1000 ≤ a) (h2 : a ≤ 1000) (h3 : -1000 ≤ b) (h4 : b ≤ 1000) :
    Calls Try.prog 46 #[.slice A n c, .int .i64 cols, .int .i64 a, .int .i64 b] w fun e w' => e = .returned (.int .u8 (halfS l cols rows a b)) ∧ w = w' := by
  have HN := Lib.hid hn
  clear hn
  rcases Int.emod_two_eq a with ea | ea <;> rcases Int.emod_two_eq b with eb | eb
  · have g1 := pix_bd hl.rng cols rows (a / 2) (b / 2)
    have g2 := pix_bd hl.rng cols rows (a / 2) (b / 2)
    have g3 := pix_bd hl.rng cols rows (a / 2) (b / 2)
    have g4 := pix_bd hl.rng cols rows (a / 2) (b / 2)
    go_enter Try.func46, Try.ntmps46
    go_wp2_with (go_at_call 51; ((with_reducible refine (ref_sample _ _ cols rows _ _ _ l _ hl HN.out hc1 hc2 hr1 hr2).mono ?_); rintro e w' ⟨rfl, rfl⟩))
    go_ret
    refine ⟨ret_int ?_, rfl⟩
    unfold halfS
    simp only [ea, eb, Int.add_zero]
    omega
  · have g1 := pix_bd hl.rng cols rows (a / 2) (b / 2)
    have g2 := pix_bd hl.rng cols rows (a / 2) (b / 2)
    have g3 := pix_bd hl.rng cols rows (a / 2) (b / 2 + 1)
    have g4 := pix_bd hl.rng cols rows (a / 2) (b / 2 + 1)
    go_enter Try.func46, Try.ntmps46
    go_wp2_with (go_at_call 51; ((with_reducible refine (ref_sample _ _ cols rows _ _ _ l _ hl HN.out hc1 hc2 hr1 hr2).mono ?_); rintro e w' ⟨rfl, rfl⟩))
    go_ret
    refine ⟨ret_int ?_, rfl⟩
    unfold halfS
    simp only [ea, eb, Int.add_zero]
    omega
  · have g1 := pix_bd hl.rng cols rows (a / 2) (b / 2)
    have g2 := pix_bd hl.rng cols rows (a / 2 + 1) (b / 2)
    have g3 := pix_bd hl.rng cols rows (a / 2) (b / 2)
    have g4 := pix_bd hl.rng cols rows (a / 2 + 1) (b / 2)
    go_enter Try.func46, Try.ntmps46
    go_wp2_with (go_at_call 51; ((with_reducible refine (ref_sample _ _ cols rows _ _ _ l _ hl HN.out hc1 hc2 hr1 hr2).mono ?_); rintro e w' ⟨rfl, rfl⟩))
    go_ret
    refine ⟨ret_int ?_, rfl⟩
    unfold halfS
    simp only [ea, eb, Int.add_zero]
    omega
  · have g1 := pix_bd hl.rng cols rows (a / 2) (b / 2)
    have g2 := pix_bd hl.rng cols rows (a / 2 + 1) (b / 2)
    have g3 := pix_bd hl.rng cols rows (a / 2) (b / 2 + 1)
    have g4 := pix_bd hl.rng cols rows (a / 2 + 1) (b / 2 + 1)
    go_enter Try.func46, Try.ntmps46
    go_wp2_with (go_at_call 51; ((with_reducible refine (ref_sample _ _ cols rows _ _ _ l _ hl HN.out hc1 hc2 hr1 hr2).mono ?_); rintro e w' ⟨rfl, rfl⟩))
    go_ret
    refine ⟨ret_int ?_, rfl⟩
    unfold halfS
    simp only [ea, eb]
end Go.Proofs.Ytaedpadkpclldaa
