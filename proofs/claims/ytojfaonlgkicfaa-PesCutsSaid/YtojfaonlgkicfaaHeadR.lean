/- The reference's Valid, head. -/
import Derived.Test.YtojfaonlgkicfaaStampR
import Derived.Test.YtojfaonlgkicfaaPutA
import Derived.Test.YtojfaonlgkicfaaRowW
import Derived.Deep.DrawnRows
namespace Go.Proofs.Ytojfaonlgkicfaa
open Go.RowKit

theorem OwB.low {w : World} {base base' : Nat} {e : TypeId} {v : Value} {l : List Int} (h : OwB w base e v l) (hb : base' ≤ base) : OwB w base' e v l := by
  refine ⟨h.1, ?_⟩
  rcases h.2 with h | ⟨g, cap, cur, h1, h2, h3⟩
  · exact .inl h
  · exact .inr ⟨g, cap, cur, h1, by omega, h3⟩
theorem OwB.byt {w : World} {base : Nat} {e : TypeId} {A : Option Addr} {n c : Nat} {l : List Int} {p : Nat → Prop} (h : OwB w base e (.slice A n c) l) (hp : ∀ b, base ≤ b → p b) (hr : ∀ x ∈ l, 0 ≤ x ∧ x ≤ 255) : Byt p w A n l := by
  obtain ⟨A', c', hv, hB⟩ := h.ret hp hr
  injection hv with hA hn hc
  subst hA hn
  exact hB

theorem s2of {W : World} {g : Nat} {t : TypeId} {s p d x : Value} (h : Bx W g t #[s, p, d, x]) : W.cell? ⟨g, 1, none⟩ = some p ∧ W.cell? ⟨g, 2, none⟩ = some d := ⟨h.cell 1 rfl, h.cell 2 rfl⟩
def stampB (t : Int) : Bool := decide (-1 ≤ t ∧ t < 8589934592)
theorem ref_stamp (t : Int) (w : World) :
    Calls Try.prog 53 #[.int .i64 t] w fun e w' => e = .returned (.bool (stampB t)) ∧ w = w' := by
  go_enter Try.func53, Try.ntmps53
  go_wp2
  all_goals
    go_ret
    refine ⟨ret_bool ?_, rfl⟩
    rw [Bool.eq_iff_iff]
    simp [stampB]
    omega
set_option maxHeartbeats 1000000 in
theorem ref_PValid (s p d : Int) (x : Value) (w : World) :
    Calls Try.prog 34 #[.agg #[.int .i64 s, .int .i64 p, .int .i64 d, x]] w fun e w' => e = .returned (.bool (validP s p d)) ∧ Below w.heap.size w w' := by
  have fin : ∀ b : Bool, (b = true ↔ 192 ≤ s ∧ s ≤ 239 ∧ -1 ≤ p ∧ p < 8589934592 ∧ -1 ≤ d ∧ d < 8589934592 ∧ (p ≠ -1 ∨ d = -1)) → b = validP s p d := by
    intro b hb
    rw [Bool.eq_iff_iff, hb]
    simp [validP]
  have FIN := Lib.hid fin
  clear fin
  rcases hp : stampB p with _ | _ <;> rcases hd : stampB d with _ | _ <;> (have HP := Lib.hid hp; have HD := Lib.hid hd)
  all_goals
    simp [stampB] at hp hd
    have HP2 := Lib.hid hp
    have HD2 := Lib.hid hd
    clear hp hd
    go_enter Try.func34, Try.ntmps34
    go_wp2_with (first
      | (go_at_call 53; ((with_reducible refine (ref_stamp p _).mono ?_); rintro e w1 ⟨rfl, rfl⟩; rw [HP.out]))
      | (go_at_call 53; ((with_reducible refine (ref_stamp d _).mono ?_); rintro e w1 ⟨rfl, rfl⟩; rw [HD.out])))
    all_goals
      go_ret
      refine ⟨ret_bool (FIN.out _ ?_), (Below.refl _ _).alloc (Nat.le_refl _) _⟩
      have h1 := HP2.out
      have h2 := HD2.out
      simp
      omega

def headL (p d : Int) : Int × List Int := if p < 0 then (0, []) else if d < 0 then (128, stampL 2 p) else (192, stampL 3 p ++ stampL 1 d)
/-- What head returns: a number and a slice of new memory. -/
def RetH (w : World) (k : Int) (l : List Int) (e : Ending) (w' : World) : Prop :=
  ∃ A n c, e = .returned (.tuple #[.int .u8 k, .slice A n c]) ∧ Byt (w.heap.size ≤ ·) w' A n l ∧ Below w.heap.size w w'

set_option maxHeartbeats 1000000 in
theorem ref_head0 (s p d : Int) (x : Value) (w : World) (hp : p < 0) :
    Calls Try.prog 37 #[.agg #[.int .i64 s, .int .i64 p, .int .i64 d, x]] w (RetH w 0 []) := by
  go_enter Try.func37, Try.ntmps37
  go_wp2_with fail
  go_ret2
  exact ⟨_, _, _, rfl, Byt.nil, (Below.refl _ _).alloc (Nat.le_refl _) _⟩
set_option maxHeartbeats 1000000 in
theorem ref_head1 (s p d : Int) (x : Value) (w : World) (hp : 0 ≤ p) (hp2 : p < 8589934592) (hd : d < 0) :
    Calls Try.prog 37 #[.agg #[.int .i64 s, .int .i64 p, .int .i64 d, x]] w (RetH w 128 (stampL 2 p)) := by
  go_enter Try.func37, Try.ntmps37
  go_wp2_with fail
  refine (ref_stamped 2 p _ (by omega) (by omega) hp hp2).mono ?_
  rintro e w1 ⟨A1, c1, rfl, ho1, hb1⟩
  have hl5 : (stampL 2 p).length = 5 := rfl
  obtain ⟨A', c', hv, hB⟩ := ho1.ret (p := (w.heap.size ≤ ·)) (fun b hb => by simp at hb; omega) (stampL_rng (by omega) (by omega) hp hp2)
  injection hv with hA hn hc
  subst hA hc
  clear hn
  go_wp2_with fail
  go_ret2
  exact ⟨_, _, _, rfl, hB, ((Below.refl _ _).alloc (Nat.le_refl _) _).trans (hb1.mono (by simp))⟩
attribute [local go_sem ↓] Go.wp_at_zero Go.wp_at_succ
set_option maxHeartbeats 2000000 in
theorem ref_head2 (s p d : Int) (x : Value) (w : World) (hp : 0 ≤ p) (hp2 : p < 8589934592) (hd : 0 ≤ d) (hd2 : d < 8589934592) :
    Calls Try.prog 37 #[.agg #[.int .i64 s, .int .i64 p, .int .i64 d, x]] w (RetH w 192 (stampL 3 p ++ stampL 1 d)) := by
  go_enter Try.func37, Try.ntmps37
  go_wp2_with fail
  have hx0 := Bx.new w 29 #[.int .i64 s, .int .i64 p, .int .i64 d, x]
  have hB0 : Below w.heap.size w (w.alloc (.cells #[.int .i64 s, .int .i64 p, .int .i64 d, x] 29)) := (Below.refl _ _).alloc (Nat.le_refl _) _
  generalize hW : w.alloc (.cells #[.int .i64 s, .int .i64 p, .int .i64 d, x] 29) = W at *
  clear hW
  have f1 : W.cell? ⟨w.heap.size, 1, none⟩ = some (.int .i64 p) := hx0.cell 1 rfl
  have f2 : W.cell? ⟨w.heap.size, 2, none⟩ = some (.int .i64 d) := hx0.cell 2 rfl
  have hs0 := hx0.lt
  have r1 := stampL_rng (k := 1) (by omega) (by omega) hd hd2
  have R1 := Lib.hid r1
  clear r1
  have r3 := stampL_rng (k := 3) (by omega) (by omega) hp hp2
  have R3 := Lib.hid r3
  clear r3
  have n3 : (stampL 3 p).length + 5 ≤ 100000000 := by simp [stampL]
  go_region_held3 (fun w' => w'.cell? ⟨w.heap.size, 1, none⟩ = some (.int .i64 p) ∧ w'.cell? ⟨w.heap.size, 2, none⟩ = some (.int .i64 d)) (first | exact s2of hx0.drew | exact s2of (hx0.drew.ext hba) | exact s2of (hx0.drew.ext hbb) | exact s2of ((hx0.drew.ext hba).ext hbb) | exact s2of ((hx0.drew.ext hbb).ext hba) | exact s2of (((hx0.drew.ext hba).ext hbb).grown hg3 (own_ne hOa (.inl (by omega)))) | exact s2of (((hx0.drew.ext hbb).ext hba).grown hg3 (own_ne hOa (.inl (by omega)))))
    (first
      | (go_at_call 54; ((with_reducible refine (ref_stamped 3 p _ (by omega) (by omega) hp hp2).mono ?_); rintro e wa ⟨Aa, ca, rfl, hoa, hba⟩))
      | (go_at_call 54; ((with_reducible refine (ref_stamped 1 d _ (by omega) (by omega) hd hd2).mono ?_); rintro e wb ⟨Ab, cb, rfl, hob, hbb⟩))
      | (have hOa : OwB wb (w.heap.size + 1) 5 (.slice Aa 5 ca) (stampL 3 p) := (hoa.ext hbb).low (by simp; omega); have hY : w.heap.size + 1 ≤ wb.heap.size := (by have h1 := hba.size; have h2 := hbb.size; simp at h1; omega); have hBE : Below w.heap.size w wb := (hB0.drew.trans (hba.mono (by simp; omega))).trans (hbb.mono (by have h1 := hba.size; simp at h1; omega)); refine step_appB _ (by rfl) (.tmp 17) (.tmp 20) 27 (by rfl) 5 Try.underlying27 Try.infoB (w.heap.size + 1) _ _ (by rfl) hOa Ab 5 cb _ (by rfl) (hob.byt (p := fun _ => True) (fun _ _ => trivial) R1.out) n3 hY ?_; intro v3 w3 ho3 hg3 hat3)
      | (have hOa : OwB wa (w.heap.size + 1) 5 (.slice Aa 5 ca) (stampL 3 p) := hoa.low (by have h2 := hbb.size; simp at h2; omega); have hY : w.heap.size + 1 ≤ wa.heap.size := (by have h1 := hba.size; have h2 := hbb.size; simp at h2; omega); have hBE : Below w.heap.size w wa := (hB0.drew.trans (hbb.mono (by simp; omega))).trans (hba.mono (by have h1 := hbb.size; simp at h1; omega)); refine step_appB _ (by rfl) (.tmp 17) (.tmp 20) 27 (by rfl) 5 Try.underlying27 Try.infoB (w.heap.size + 1) _ _ (by rfl) hOa Ab 5 cb _ (by rfl) ((hob.ext hba).byt (p := fun _ => True) (fun _ _ => trivial) R1.out) n3 hY ?_; intro v3 w3 ho3 hg3 hat3))
  all_goals
    obtain ⟨A3, c3, rfl, hB3⟩ := ho3.ret (p := (w.heap.size ≤ ·)) (fun b hb => by omega) (by
      intro x hx
      rcases List.mem_append.1 hx with hx | hx
      · exact R3.out x hx
      · exact R1.out x hx)
    go_wp2_with fail
    go_ret2
    exact ⟨_, _, _, rfl, hB3, hBE.grown hg3 (by omega) (fun k hk => by have := (hOa.lt k hk).1; omega)⟩

theorem ref_head (s p d : Int) (x : Value) (w : World) (hv : validP s p d = true) :
    Calls Try.prog 37 #[.agg #[.int .i64 s, .int .i64 p, .int .i64 d, x]] w (RetH w (headL p d).1 (headL p d).2) := by
  have h : 192 ≤ s ∧ s ≤ 239 ∧ -1 ≤ p ∧ p < 8589934592 ∧ -1 ≤ d ∧ d < 8589934592 ∧ (p ≠ -1 ∨ d = -1) := by simpa [validP] using hv
  unfold headL
  by_cases h1 : p < 0
  · rw [if_pos h1]; exact ref_head0 s p d x w h1
  · rw [if_neg h1]
    by_cases h2 : d < 0
    · rw [if_pos h2]; exact ref_head1 s p d x w (by omega) (by omega) h2
    · rw [if_neg h2]; exact ref_head2 s p d x w (by omega) (by omega) (by omega) (by omega)

end Go.Proofs.Ytojfaonlgkicfaa
