/- loudness.Gain of any sound and limits. -/
import Derived.Test.YtcgejbnmbamchaaLdN
namespace Go.Proofs.Ytcgejbnmbamchaa
open Go.RowKit
attribute [local go_sem ↓] Go.wp_at_zero Go.wp_at_succ

def gnOk (X : Snd) (T pk : Int) : Prop := properB X = true ∧ 0 ≤ T ∧ T ≤ 4294967296 ∧ 0 ≤ pk ∧ pk ≤ 32767
instance (X : Snd) (T pk : Int) : Decidable (gnOk X T pk) := by unfold gnOk; infer_instance
/-- What Gain hands back: the number and the error. -/
def GnV (X : Snd) (T pk a er : Int) : Prop :=
  (gnOk X T pk ∧ er = 0 ∧ ∃ r : Nat, a = (r : Int) ∧ GainIs (powersL X) (peakF X).toNat T.toNat pk.toNat r) ∨ (¬ gnOk X T pk ∧ a = 0 ∧ er = 1)
theorem gnV_uniq {X : Snd} {T pk a er b er2 : Int} (h1 : GnV X T pk a er) (h2 : GnV X T pk b er2) : a = b ∧ er = er2 := by
  rcases h1 with ⟨k1, rfl, r, rfl, g1⟩ | ⟨k1, rfl, rfl⟩
  · rcases h2 with ⟨_, rfl, s, rfl, g2⟩ | ⟨k2, _, _⟩
    · exact ⟨by rw [gain_uniq g1 g2], rfl⟩
    · exact absurd k1 k2
  · rcases h2 with ⟨k2, _⟩ | ⟨_, rfl, rfl⟩
    · exact absurd k2 k1
    · exact ⟨rfl, rfl⟩
def RetGn (w : World) (X : Snd) (T pk : Int) (e : Ending) (w' : World) : Prop :=
  ∃ a er : Int, e = .returned (.tuple #[.int .i64 a, .int .i64 er]) ∧ GnV X T pk a er ∧ Below w.heap.size w w'

set_option maxRecDepth 100000 in
set_option maxHeartbeats 4000000 in
theorem ld_Gain_no {p : Nat → Prop} (A : Option Addr) (n c : Nat) (xs : List Ch) (T pk : Int) (w : World) (h : Pcm p w A n xs) (hno : ¬ gnOk (sndOf xs) T pk) :
    Calls Try.prog 20 #[.slice A n c, .int .i64 T, .int .i64 pk] w (RetGn w (sndOf xs) T pk) := by
  have hmf : ∀ (fn : Fn) (first cap : Array Value) (w : World), (Instr.makeFunc fn first cap).run Try.prog w = .ok (.func fn first cap) w := fun _ _ _ _ => rfl
  obtain ⟨X, hX⟩ : ∃ X, X = sndOf xs := ⟨_, rfl⟩
  have HP := Lib.hid (h.mono (q := (· < w.heap.size)) (fun b hb _ => hb))
  have HX := Lib.hid hX
  rw [← hX] at hno ⊢
  have HNO := Lib.hid hno
  clear h hX hno
  go_enter_defers Try.func20, Try.ntmps20
  go_upto_region 2 with fail
  have X4 : Bx ((((w.alloc (.cells #[.int .i64 T] 2)).alloc (.cells #[.int .i64 pk] 3)).alloc (.cells #[.int .i64 0] 3)).alloc (.cells #[.int .i64 0] 27)) w.heap.size 2 #[.int .i64 T] := (((Bx.new w _ _).alloc _).alloc _).alloc _
  have X5 : Bx ((((w.alloc (.cells #[.int .i64 T] 2)).alloc (.cells #[.int .i64 pk] 3)).alloc (.cells #[.int .i64 0] 3)).alloc (.cells #[.int .i64 0] 27)) (w.heap.size + 1) 3 #[.int .i64 pk] := ((Bx.new' _ _ _ _ (by simp)).alloc _).alloc _
  have X6 : Bx ((((w.alloc (.cells #[.int .i64 T] 2)).alloc (.cells #[.int .i64 pk] 3)).alloc (.cells #[.int .i64 0] 3)).alloc (.cells #[.int .i64 0] 27)) (w.heap.size + 1 + 1) 3 #[.int .i64 0] := (Bx.new' _ _ _ _ (by simp)).alloc _
  have X7 : Bx ((((w.alloc (.cells #[.int .i64 T] 2)).alloc (.cells #[.int .i64 pk] 3)).alloc (.cells #[.int .i64 0] 3)).alloc (.cells #[.int .i64 0] 27)) (w.heap.size + 1 + 1 + 1) 27 #[.int .i64 0] := Bx.new' _ _ _ _ (by simp)
  have B0 := ((((Below.refl _ w).alloc (Nat.le_refl _) (.cells #[.int .i64 T] 2)).alloc (by simp) (.cells #[.int .i64 pk] 3)).alloc (by simp; omega) (.cells #[.int .i64 0] 3)).alloc (by simp; omega) (.cells #[.int .i64 0] 27)
  generalize (((w.alloc (.cells #[.int .i64 T] 2)).alloc (.cells #[.int .i64 pk] 3)).alloc (.cells #[.int .i64 0] 3)).alloc (.cells #[.int .i64 0] 27) = W at *
  have HP2 := Lib.hid (HP.out.ext (B0.mono (Nat.le_refl _)))
  go_wp2_with fail
  refine (ld_proper A n c xs _ HP2.out).mono ?_
  rintro e w1 ⟨rfl, m, rfl⟩
  rw [← HX.out]
  have X4 := X4.drewN m
  have X5 := X5.drewN m
  have X6 := X6.drewN m
  have X7 := X7.drewN m
  have B1 := bdrewN B0 m
  generalize W.drewN m = w1 at *
  clear B0 HP2
  have c4 := X4.cell 0 rfl
  have c5 := X5.cell 0 rfl
  have c6 := X6.cell 0 rfl
  have c7 := X7.cell 0 rfl
  have f6 := X6.frozen 0
  have f7 := X7.frozen 0
  have l7 := X7.lt
  have Y6 := (X6.set_ 0 (.int .i64 0)).far (a := ⟨w.heap.size + 1 + 1 + 1, 0, none⟩) (by dsimp only; omega) (.int .i64 1)
  have Y7 := (X7.far (a := ⟨w.heap.size + 1 + 1, 0, none⟩) (by dsimp only; omega) (.int .i64 0)).set_ 0 (.int .i64 1)
  have BZ := bset (bset B1 ⟨w.heap.size + 1 + 1, 0, none⟩ (by dsimp only; omega) (.int .i64 0)) ⟨w.heap.size + 1 + 1 + 1, 0, none⟩ (by dsimp only; omega) (.int .i64 1)
  have HY := Lib.hid (And.intro Y6 (And.intro Y7 BZ))
  clear X4 X5 X6 X7 B1 Y6 Y7 BZ
  have hkey : properB X = false ∨ properB X = true ∧ (T < 0 ∨ ¬ T < 0 ∧ (4294967296 < T ∨ ¬ 4294967296 < T ∧ (pk < 0 ∨ ¬ pk < 0 ∧ 32767 < pk))) := by
    have := HNO.out
    unfold gnOk at this
    cases hp : properB X with
    | false => exact .inl rfl
    | true =>
      have h2 : ¬ (0 ≤ T ∧ T ≤ 4294967296 ∧ 0 ≤ pk ∧ pk ≤ 32767) := fun hh => this ⟨hp, hh⟩
      exact .inr ⟨rfl, by omega⟩
  rcases hkey with hp | ⟨hp, hkey⟩
  · rw [hp]
    clear hp
    go_wp2_with fail
    exact gain_leave _ _ rfl rfl rfl HY.out.1 HY.out.2.1 ⟨0, 1, rfl, .inr ⟨HNO.out, rfl, rfl⟩, HY.out.2.2⟩
  · rw [hp]
    clear hp
    rcases hkey with h1 | ⟨h1, hkey⟩
    · have k1 : decide (T < 0) = true := decide_eq_true h1
      go_wp2_with fail
      exact gain_leave _ _ rfl rfl rfl HY.out.1 HY.out.2.1 ⟨0, 1, rfl, .inr ⟨HNO.out, rfl, rfl⟩, HY.out.2.2⟩
    · have k1 : decide (T < 0) = false := decide_eq_false h1
      rcases hkey with h2 | ⟨h2, hkey⟩
      · have k2 : decide (4294967296 < T) = true := decide_eq_true h2
        go_wp2_with fail
        exact gain_leave _ _ rfl rfl rfl HY.out.1 HY.out.2.1 ⟨0, 1, rfl, .inr ⟨HNO.out, rfl, rfl⟩, HY.out.2.2⟩
      · have k2 : decide (4294967296 < T) = false := decide_eq_false h2
        rcases hkey with h3 | ⟨h3, h4⟩
        · have k3 : decide (pk < 0) = true := decide_eq_true h3
          go_wp2_with fail
          exact gain_leave _ _ rfl rfl rfl HY.out.1 HY.out.2.1 ⟨0, 1, rfl, .inr ⟨HNO.out, rfl, rfl⟩, HY.out.2.2⟩
        · have k3 : decide (pk < 0) = false := decide_eq_false h3
          have k4 : decide (32767 < pk) = true := decide_eq_true h4
          go_wp2_with fail
          exact gain_leave _ _ rfl rfl rfl HY.out.1 HY.out.2.1 ⟨0, 1, rfl, .inr ⟨HNO.out, rfl, rfl⟩, HY.out.2.2⟩
theorem ld_Gain {p : Nat → Prop} (A : Option Addr) (n c : Nat) (xs : List Ch) (T pk : Int) (w : World) (h : Pcm p w A n xs) :
    Calls Try.prog 20 #[.slice A n c, .int .i64 T, .int .i64 pk] w (RetGn w (sndOf xs) T pk) := by
  by_cases hk : gnOk (sndOf xs) T pk
  · obtain ⟨h1, h2, h3, h4, h5⟩ := id hk
    obtain ⟨t, rfl⟩ := Int.eq_ofNat_of_zero_le h2
    obtain ⟨q, rfl⟩ := Int.eq_ofNat_of_zero_le h4
    refine (ld_Gain_yes A n c xs t q w h h1 (by omega) (by omega)).mono ?_
    rintro e w' ⟨r, hr, rfl, hb⟩
    exact ⟨_, _, rfl, .inl ⟨hk, rfl, r, rfl, hr⟩, hb⟩
  · exact ld_Gain_no A n c xs T pk w h hk
end Go.Proofs.Ytcgejbnmbamchaa
