/- The contract of the law's sanity check. -/
import Derived.Test.YtaedpadkpclldaaFlat
import Derived.Test.YtaedpadkpclldaaAverage
namespace Go.Proofs.Ytaedpadkpclldaa
open Go.RowKit

theorem Own3.isFr {p : Nat → Prop} {w : World} {base : Nat} {v : Value} {x y : Int} {Y U V : List Int} (h : Own3 w base v x y Y U V) (hp : ∀ b, base ≤ b → p b)
    (hY : ∀ x ∈ Y, 0 ≤ x ∧ x ≤ 255) (hU : ∀ x ∈ U, 0 ≤ x ∧ x ≤ 255) (hV : ∀ x ∈ V, 0 ≤ x ∧ x ≤ 255) : IsFr p w v ⟨x, y, Y, U, V⟩ := by
  obtain ⟨g1, g2, g3, rfl, k1, k2, k3, l1, l2, l3, _⟩ := h
  exact ⟨_, _, _, _, _, _, _, _, _, rfl, k1.byt (hp _ l1) hY, k2.byt (hp _ l2) hU, k3.byt (hp _ l3) hV⟩
theorem rep_rng {n : Nat} {a : Int} (h : 0 ≤ a ∧ a ≤ 255) : ∀ x ∈ List.replicate n a, 0 ≤ x ∧ x ≤ 255 := by
  intro x hx
  obtain rfl := List.eq_of_mem_replicate hx
  exact h
theorem meanL_rep (n : Nat) (a b : Int) : meanL (List.replicate n a) (List.replicate n b) = List.replicate n ((a + b + 1) / 2) := by
  simp [meanL]
def flatF (x y : Int) (a b c : Int) : Fr := ⟨x, y, List.replicate (x * y).toNat a, List.replicate (x / 2 * (y / 2)).toNat b, List.replicate (x / 2 * (y / 2)).toNat c⟩
theorem formed_flat {x y a b c : Int} (h : sizeB x y = true) : formedB (flatF x y a b c) = true := by
  obtain ⟨h1, h2, h3, h4, h5, h6⟩ := sizeB_true h
  have m1 := mul_bd (x := x) (y := y) (m := 64) (by omega) h2 (by omega) h5
  have m2 := mul_bd (x := x / 2) (y := y / 2) (m := 64) (by omega) (by omega) (by omega) (by omega)
  simp only [formedB, flatF, h, List.length_replicate, Int.toNat_of_nonneg m1.1, Int.toNat_of_nonneg m2.1, decide_true, Bool.and_self]
theorem avg_flat' {x y a b c a' b' c' : Int} (h : sizeB x y = true) : avgF (flatF x y a b c) (flatF x y a' b' c') = (flatF x y ((a + a' + 1) / 2) ((b + b' + 1) / 2) ((c + c' + 1) / 2), 0) := by
  unfold avgF
  rw [formed_flat h, formed_flat h]
  simp only [flatF, meanL_rep, decide_true, Bool.and_self, if_true]
theorem avg_flat : avgF (flatF 16 16 1 0 0) (flatF 16 16 2 0 1) = (flatF 16 16 2 0 1, 0) := avg_flat' (by decide)

theorem ref_FlatF (x y a b c : Int) (hx0 : 0 ≤ x) (hx : x ≤ 64) (hy0 : 0 ≤ y) (hy : y ≤ 64) (ha : 0 ≤ a ∧ a ≤ 255) (hb : 0 ≤ b ∧ b ≤ 255) (hc : 0 ≤ c ∧ c ≤ 255) (w : World) :
    Calls Try.prog 29 #[.int .i64 x, .int .i64 y, .int .u8 a, .int .u8 b, .int .u8 c] w fun e w' =>
      ∃ v, e = .returned v ∧ IsFr (w.heap.size ≤ ·) w' v (flatF x y a b c) ∧ Below w.heap.size w w' :=
  (ref_Flat x y a b c hx0 hx hy0 hy w).mono fun _ _ ⟨v, he, ho, hb'⟩ => ⟨v, he, ho.isFr (fun _ h => h) (rep_rng ha) (rep_rng hb) (rep_rng hc), hb'⟩

set_option maxHeartbeats 2000000 in
theorem law_awake (w : World) :
    Calls Try.prog 13 #[] w fun e w' => e = .returned (.bool true) ∧ Below w.heap.size w w' := by
  go_enter Try.func13, Try.ntmps13
  go_wp2_with fail
  refine (ref_FlatF 16 16 1 0 0 (by omega) (by omega) (by omega) (by omega) (by omega) (by omega) (by omega) _).mono ?_
  rintro e w1 ⟨v1, rfl, hf1, hb1⟩
  go_wp2_with fail
  refine (ref_FlatF 16 16 2 0 1 (by omega) (by omega) (by omega) (by omega) (by omega) (by omega) (by omega) _).mono ?_
  rintro e w2 ⟨v2, rfl, hf2, hb2⟩
  go_wp2_with fail
  refine (motion_Average _ _ _ _ _ (hf1.ext hb2) hf2).mono ?_
  rw [avg_flat]
  generalize hF : flatF 16 16 2 0 1 = F
  have HF := Lib.hid hF
  clear hF
  rintro e w3 ⟨v3, rfl, hf3, hb3⟩
  have hf3' := hf3
  obtain ⟨ya, yn, yc, ua, un, uc, va, vn, vc, rfl, hy, hu, hv⟩ := hf3
  have t1 := hb1.size
  have t2 := hb2.size
  have t3 := hb3.size
  have B0 : Below w.heap.size w w3 := (hb1.trans (hb2.mono (by omega))).trans (hb3.mono (by omega))
  go_wp2_with fail
  go_region_held3 (fun w' => w'.cell? ⟨w3.heap.size, 0, none⟩ = some (.int .i64 F.W) ∧ w'.cell? ⟨w3.heap.size, 1, none⟩ = some (.int .i64 F.H) ∧ w'.cell? ⟨w3.heap.size, 2, none⟩ = some (.slice ya yn yc) ∧ w'.cell? ⟨w3.heap.size, 3, none⟩ = some (.slice ua un uc) ∧ w'.cell? ⟨w3.heap.size, 4, none⟩ = some (.slice va vn vc))
    (first | (refine ⟨?_, ?_, ?_, ?_, ?_⟩ <;> go_simp; done) | go_keep)
    (first
     | (go_at_call 29; ((with_reducible refine (ref_FlatF 16 16 2 0 1 (by omega) (by omega) (by omega) (by omega) (by omega) (by omega) (by omega) _).mono ?_); rintro e w4 ⟨v4, rfl, hf4, hb4⟩; have hb4 := undrew hb4; obtain ⟨c4, z4⟩ := bcell hb4; try simp at c4))
     | (go_at_call 14; ((with_reducible refine (ref_Equal _ _ F _ _ (IsFr.ext (hf3'.alloc _) hb4) hf4).mono ?_); rintro e w5 ⟨rfl, hb5⟩; obtain ⟨c5, z5⟩ := bcell hb5; have q5 : w3.heap.size < w4.heap.size := (by have := hb4.size; simp at this; omega))))
  go_outline
  go_wp2
  go_ret
  refine ⟨ret_bool ?_, ?_⟩
  · rw [HF.out]; exact eqB_self F
  · exact ((B0.alloc (by omega) _).trans (hb4.mono (by simp; omega))).trans (hb5.mono (by have := hb4.size; simp at this; omega))
end Go.Proofs.Ytaedpadkpclldaa
