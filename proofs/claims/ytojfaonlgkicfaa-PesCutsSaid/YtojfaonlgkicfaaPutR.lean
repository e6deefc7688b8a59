/- The reference's Put. -/
import Derived.Test.YtojfaonlgkicfaaHeadR
namespace Go.Proofs.Ytojfaonlgkicfaa
open Go.RowKit

/-- What Put returns: bytes in new memory and a number. -/
def RetP (w : World) (l : List Int) (code : Int) (e : Ending) (w' : World) : Prop :=
  ∃ A n c, e = .returned (.tuple #[.slice A n c, .int .i64 code]) ∧ Byt (w.heap.size ≤ ·) w' A n l ∧ Below w.heap.size w w'
theorem OwB.lit (w : World) (base : Nat) (e : TypeId) (l : List Int) (n : Nat) (hn : l.length = n) {cs : Array Value} (hc : cs = (l.map (Value.int .u8)).toArray) {g : Nat} (hg : g = w.heap.size) (hb : base ≤ g) (hm : n ≤ 100000000) :
    OwB (w.alloc (.cells cs e)) base e (.slice (some ⟨g, 0, none⟩) n n) l := by
  subst hc hg hn
  refine ⟨by simp, .inr ⟨w.heap.size, l.length, _, rfl, hb, heap_alloc_new w _, Nat.le_refl _, by simp only [maxLen]; omega, by simp, ?_⟩⟩
  simp only [Nat.mul_one]
  exact List.take_of_length_le (by simp)

def putNum (p d : Int) (l : List Int) : Nat := 3 + (headL p d).2.length + l.length
def putL (s p d : Int) (l : List Int) : List Int :=
  [0, 0, 1, s, (putNum p d l : Int) / 256, (putNum p d l : Int) % 256, 128, (headL p d).1, ((headL p d).2.length : Int)] ++ (headL p d).2 ++ l
theorem headL_len (p d : Int) : (headL p d).2.length ≤ 10 := by
  unfold headL
  split
  · simp
  · split <;> simp [stampL]
theorem headL_kind (p d : Int) : 0 ≤ (headL p d).1 ∧ (headL p d).1 ≤ 255 := by
  unfold headL
  split
  · simp
  · split <;> simp
theorem headL_rng {s p d : Int} (hv : validP s p d = true) : ∀ x ∈ (headL p d).2, 0 ≤ x ∧ x ≤ 255 := by
  have h : 192 ≤ s ∧ s ≤ 239 ∧ -1 ≤ p ∧ p < 8589934592 ∧ -1 ≤ d ∧ d < 8589934592 ∧ (p ≠ -1 ∨ d = -1) := by simpa [validP] using hv
  unfold headL
  by_cases h1 : p < 0
  · rw [if_pos h1]; simp
  · rw [if_neg h1]
    by_cases h2 : d < 0
    · rw [if_pos h2]; exact stampL_rng (by omega) (by omega) (by omega) (by omega)
    · rw [if_neg h2]
      intro x hx
      rcases List.mem_append.1 hx with hx | hx
      · exact stampL_rng (by omega) (by omega) (by omega) (by omega) x hx
      · exact stampL_rng (by omega) (by omega) (by omega) (by omega) x hx
theorem valid_s {s p d : Int} (hv : validP s p d = true) : 192 ≤ s ∧ s ≤ 239 := by
  have h : 192 ≤ s ∧ s ≤ 239 ∧ -1 ≤ p ∧ p < 8589934592 ∧ -1 ≤ d ∧ d < 8589934592 ∧ (p ≠ -1 ∨ d = -1) := by simpa [validP] using hv
  exact ⟨h.1, h.2.1⟩

set_option maxHeartbeats 1000000 in
theorem ref_Put_arg (s p d : Int) (x : Value) (w : World) (hv : validP s p d = false) :
    Calls Try.prog 21 #[.agg #[.int .i64 s, .int .i64 p, .int .i64 d, x]] w (RetP w [] 1) := by
  go_enter Try.func21, Try.ntmps21
  go_wp2_with fail
  refine (ref_PValid s p d _ _).mono ?_
  rintro e w1 ⟨rfl, hb1⟩
  rw [hv]
  go_wp2_with fail
  go_ret2
  exact ⟨_, _, _, rfl, Byt.nil, ((Below.refl _ w).alloc (Nat.le_refl _) _).trans (hb1.mono (by simp))⟩

set_option maxHeartbeats 1000000 in
theorem ref_Put_size {q : Nat → Prop} (s p d : Int) (A : Option Addr) (n c : Nat) (l : List Int) (w : World) (hl : Byt q w A n l) (hv : validP s p d = true) (hn : n ≤ 1000000) (hbig : 65535 < putNum p d l) :
    Calls Try.prog 21 #[.agg #[.int .i64 s, .int .i64 p, .int .i64 d, .slice A n c]] w (RetP w [] 5) := by
  have hlen := hl.len
  unfold putNum at hbig
  have hH := headL_len p d
  go_enter Try.func21, Try.ntmps21
  go_wp2_with fail
  refine (ref_PValid s p d _ _).mono ?_
  rintro e w1 ⟨rfl, hb1⟩
  rw [hv]
  have x1 := (Bx.new w 29 #[.int .i64 s, .int .i64 p, .int .i64 d, .slice A n c]).ext hb1
  obtain ⟨f0, f1, f2, f3⟩ := x1.cells4
  have s1 := x1.lt
  go_wp2_with fail
  refine (ref_head s p d _ _ hv).mono ?_
  rintro e w2 ⟨A2, n2, c2, rfl, hB2, hb2⟩
  have x2 := x1.ext hb2
  obtain ⟨g0, g1, g2, g3⟩ := x2.cells4
  have s2 := x2.lt
  clear f0 f1 f2 f3
  have h2 := hB2.len
  have hn2 : n2 ≤ 10 := by omega
  have hbig' : 65535 < 3 + n2 + n := by omega
  clear hlen hbig h2
  go_wp2_with fail
  go_ret2
  have B1 : Below w.heap.size w w1 := ((Below.refl _ w).alloc (Nat.le_refl _) _).trans (hb1.mono (by simp))
  exact ⟨_, _, _, rfl, Byt.nil, B1.trans (hb2.mono B1.size)⟩

set_option maxRecDepth 10000 in
set_option maxHeartbeats 2000000 in
theorem ref_Put_ok {q : Nat → Prop} (s p d : Int) (A : Option Addr) (n c : Nat) (l : List Int) (w : World) (hl : Byt q w A n l) (hv : validP s p d = true) (hn : n ≤ 1000000) (hsm : putNum p d l ≤ 65535) :
    Calls Try.prog 21 #[.agg #[.int .i64 s, .int .i64 p, .int .i64 d, .slice A n c]] w (RetP w (putL s p d l) 0) := by
  have hlen := hl.len
  have hrl := hl.rng
  have HRL := Lib.hid hrl
  have hsv := valid_s hv
  have HN := Lib.hid (show putNum p d l = 3 + (headL p d).2.length + l.length from rfl)
  have hHR := headL_rng hv
  have HHR := Lib.hid hHR
  have hK := headL_kind p d
  have hH := headL_len p d
  have HP := Lib.hid (show putL s p d l = [0, 0, 1, s, (putNum p d l : Int) / 256, (putNum p d l : Int) % 256, 128, (headL p d).1, ((headL p d).2.length : Int)] ++ (headL p d).2 ++ l from rfl)
  clear hrl hHR
  have hl1 := hl.mono (q := (· < w.heap.size)) (fun b h _ => h)
  clear hl
  have hcall := fun W => ref_head s p d (.slice A n c) W hv
  generalize headL p d = HH at *
  obtain ⟨K, S⟩ := HH
  dsimp only at *
  generalize putNum p d l = N at *
  have HCALL := Lib.hid hcall
  clear hcall
  have r1 : s % 256 = s := by omega
  have r2 : (N : Int) / 256 % 256 = (N : Int) / 256 := by omega
  have R1 := Lib.hid r1
  have R2 := Lib.hid r2
  clear r1 r2
  go_enter Try.func21, Try.ntmps21
  go_wp2_with fail
  refine (ref_PValid s p d _ _).mono ?_
  rintro e w1 ⟨rfl, hb1⟩
  rw [hv]
  have x1 := (Bx.new w 29 #[.int .i64 s, .int .i64 p, .int .i64 d, .slice A n c]).ext hb1
  obtain ⟨f0, f1, f2, f3⟩ := x1.cells4
  have s1 := x1.lt
  go_wp2_with fail
  refine (HCALL.out _).mono ?_
  rintro e w2 ⟨A2, n2, c2, rfl, hB2, hb2⟩
  have x2 := x1.ext hb2
  obtain ⟨g0, g1, g2, g3⟩ := x2.cells4
  have s2 := x2.lt
  clear f0 f1 f2 f3
  have B1 : Below w.heap.size w w1 := ((Below.refl _ w).alloc (Nat.le_refl _) _).trans (hb1.mono (by simp))
  have B2 := B1.trans (hb2.mono B1.size)
  have l2 := hl1.below B2 (fun _ _ h => h)
  have hS := hB2.len
  have hN : N = 3 + n2 + n := by rw [HN.out, hS, hlen]
  have hn2 : n2 ≤ 10 := by omega
  have HLEN := Lib.hid hlen
  have HS := Lib.hid hS
  clear hlen hS HN
  have HN := Lib.hid hN
  have eN : 3 + (n2 : Int) + (n : Int) = (N : Int) := by omega
  clear hN
  have HB2 := Lib.hid B2
  clear hb1 B1 hb2 B2
  go_upto_region 8 with fail
  clear g0 g1 g2 g3
  have o3 := OwB.lit w2 (w.heap.size + 1) 5 [0, 0, 1, s, (N : Int) / 256, (N : Int) % 256, 128, K, (n2 : Int)] 9 rfl rfl rfl (by omega) (by omega)
  have x3 := x2.alloc (.cells ((List.map (Value.int .u8) [0, 0, 1, s, (N : Int) / 256, (N : Int) % 256, 128, K, (n2 : Int)]).toArray) 5)
  have l3 := l2.alloc (.cells ((List.map (Value.int .u8) [0, 0, 1, s, (N : Int) / 256, (N : Int) % 256, 128, K, (n2 : Int)]).toArray) 5)
  have b3 := hB2.alloc (.cells ((List.map (Value.int .u8) [0, 0, 1, s, (N : Int) / 256, (N : Int) % 256, 128, K, (n2 : Int)]).toArray) 5)
  have B3 := HB2.out.alloc (by omega) (.cells ((List.map (Value.int .u8) [0, 0, 1, s, (N : Int) / 256, (N : Int) % 256, 128, K, (n2 : Int)]).toArray) 5)
  simp only [List.map_cons, List.map_nil] at o3 x3 l3 b3 B3
  generalize w2.alloc (.cells #[.int .u8 0, .int .u8 0, .int .u8 1, .int .u8 s, .int .u8 ((N : Int) / 256), .int .u8 ((N : Int) % 256), .int .u8 128, .int .u8 K, .int .u8 (n2 : Int)] 5) = W at *
  have s3 := x3.lt
  have f3 : W.cell? ⟨w.heap.size, 3, none⟩ = some (.slice A n c) := x3.cell 3 rfl
  have b3' := b3.mono (q := fun b => b < W.heap.size) (fun b h _ => h)
  have hR9 : ∀ x ∈ ([0, 0, 1, s, (N : Int) / 256, (N : Int) % 256, 128, K, (n2 : Int)] : List Int), 0 ≤ x ∧ x ≤ 255 := by
    intro x hx
    simp only [List.mem_cons, List.not_mem_nil, or_false] at hx
    rcases hx with rfl | rfl | rfl | rfl | rfl | rfl | rfl | rfl | rfl <;> omega
  have HR9 := Lib.hid hR9
  clear hR9
  have tok : True := trivial
  go_region_held3 (fun w' => w'.cell? ⟨w.heap.size, 3, none⟩ = some (.slice A n c)) (first | exact x3.drew.cell 3 rfl | exact (x3.drew.grown hg4 (own_ne o3 (.inl (by omega)))).cell 3 rfl | exact ((x3.drew.grown hg4 (own_ne o3 (.inl (by omega)))).grown hg5 (own_ne ho4 (.inl (by omega)))).cell 3 rfl)
    (first
      | (have _t := tok; go_must (refine step_appB _ (by rfl) (.tmp 38) (.tmp 39) 27 (by rfl) 5 Try.underlying27 Try.infoB (w.heap.size + 1) _ _ (by rfl) o3.drew A2 n2 c2 S (by rfl) b3'.drew (by simp; omega) (by simp; omega) ?_; intro v4 w4 ho4 hg4 hat4; clear tok))
      | (go_must (refine step_appB _ (by rfl) (.tmp 40) (.tmp 42) 27 (by rfl) 5 Try.underlying27 Try.infoB (w.heap.size + 1) _ _ (by rfl) ho4 A n c l (by rfl) (l3.drew.grown hg4 (fun b hb => own_ne o3 (.inl (by omega)))) (by simp [HS.out]; omega) (by have := hg4.size; simp at this; omega) ?_; intro v5 w5 ho5 hg5 hat5)))
  all_goals
    obtain ⟨A5, c5, hv5, hB5⟩ := ho5.ret (p := (w.heap.size ≤ ·)) (fun b hb => by omega) (by
      intro x hx
      rcases List.mem_append.1 hx with hx | hx
      · rcases List.mem_append.1 hx with hx | hx
        · exact HR9.out x hx
        · exact HHR.out x hx
      · exact HRL.out x hx)
    subst hv5
    have B4 := (B3.drew.grown hg4 (by simp; omega) (fun k hk => by have := (o3.lt k hk).1; omega)).grown hg5 (by have := hg4.size; simp at this; omega) (fun k hk => by have := (ho4.lt k hk).1; omega)
    go_wp2_with fail
    go_ret2
    refine ⟨_, _, _, rfl, ?_, B4⟩
    rw [HP.out, HS.out]
    exact hB5

end Go.Proofs.Ytojfaonlgkicfaa
