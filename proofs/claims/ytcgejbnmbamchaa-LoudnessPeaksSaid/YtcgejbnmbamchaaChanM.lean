/- The order of the channels does not matter, and a silent channel more changes nothing: plain numbers. -/
import Derived.Test.YtcgejbnmbamchaaLdU
import Derived.Test.YtcgejbnmbamchaaLdMe
import Derived.Test.YtcgejbnmbamchaaLdK
namespace Go.Proofs.Ytcgejbnmbamchaa
open Go.RowKit

theorem sqs_zero : ∀ {l : List Int}, (∀ x ∈ l, x = 0) → sqs l = 0
  | [], _ => rfl
  | x :: l, h => by rw [sqs_cons, h x (by simp), sqs_zero (l := l) (fun y hy => h y (by simp [hy]))]; rfl
theorem powC_zero (N a : Nat) : powC a (List.replicate N 0) = 0 :=
  sqs_zero (fun x hx => List.eq_of_mem_replicate (List.mem_of_mem_drop (List.mem_of_mem_take hx)))
/-- The sound with a silent channel ahead, the channels backwards. -/
def turned (X : Snd) : Snd := List.replicate (wide X) 0 :: X.reverse
theorem turned_wide (X : Snd) : wide (turned X) = wide X := by simp [wide, turned]
theorem turned_powers (X : Snd) : powersL (turned X) = powersL X := by
  unfold powersL
  rw [turned_wide]
  refine List.map_congr_left fun k _ => ?_
  unfold powAt turned
  rw [List.map_cons, List.sum_cons, powC_zero, List.map_reverse, List.sum_reverse]
  omega
theorem turned_proper {X : Snd} (h : properB X = true) (h3 : X.length ≤ 3) : properB (turned X) = true := by
  obtain ⟨h1, h2, hw, hall⟩ := proper_spec h
  have hw2 : ((turned X).headD []).length = wide X := by simp [turned]
  simp only [properB, Bool.and_eq_true, decide_eq_true_eq, List.all_eq_true, hw2]
  refine ⟨by simp [turned]; omega, fun c hc => ?_⟩
  simp only [turned, List.mem_cons, List.mem_reverse] at hc
  rcases hc with rfl | hc
  · rw [List.length_replicate]; exact ⟨rfl, hw⟩
  · rw [hall c hc]; exact ⟨rfl, hw⟩
theorem peakC_le {m k : Int} : ∀ {l : List Int}, peakC m l ≤ k ↔ m ≤ k ∧ ∀ x ∈ l, absI x ≤ k
  | [] => by simp [peakC]
  | x :: l => by
    show peakC (max m (absI x)) l ≤ k ↔ _
    rw [peakC_le (l := l)]
    simp only [List.mem_cons, forall_eq_or_imp]
    constructor
    · rintro ⟨h1, h2⟩; exact ⟨by omega, by omega, h2⟩
    · rintro ⟨h1, h2, h3⟩; exact ⟨by omega, h3⟩
theorem peakFold_le {k : Int} : ∀ {X : Snd} {m : Int}, X.foldl peakC m ≤ k ↔ m ≤ k ∧ ∀ c ∈ X, ∀ x ∈ c, absI x ≤ k
  | [], m => by simp
  | c :: X, m => by
    rw [List.foldl_cons, peakFold_le (X := X), peakC_le]
    simp only [List.mem_cons, forall_eq_or_imp]
    constructor
    · rintro ⟨⟨h1, h2⟩, h3⟩; exact ⟨h1, h2, h3⟩
    · rintro ⟨h1, h2, h3⟩; exact ⟨⟨h1, h2⟩, h3⟩
theorem peakL_le {X : Snd} {k : Int} : peakL X ≤ k ↔ 0 ≤ k ∧ ∀ c ∈ X, ∀ x ∈ c, absI x ≤ k := peakFold_le
theorem turned_peak {X : Snd} (h : properB X = true) (h3 : X.length ≤ 3) : peakF (turned X) = peakF X := by
  unfold peakF
  rw [if_pos (turned_proper h h3), if_pos h]
  have key : ∀ k, peakL (turned X) ≤ k ↔ peakL X ≤ k := by
    intro k
    rw [peakL_le, peakL_le]
    constructor
    · rintro ⟨h0, h1⟩
      exact ⟨h0, fun c hc x hx => h1 c (by simp [turned, hc]) x hx⟩
    · rintro ⟨h0, h1⟩
      refine ⟨h0, fun c hc x hx => ?_⟩
      simp only [turned, List.mem_cons, List.mem_reverse] at hc
      rcases hc with rfl | hc
      · rw [List.eq_of_mem_replicate hx]; simpa [absI] using h0
      · exact h1 c hc x hx
  have h1 := (key (peakL X)).2 (Int.le_refl _)
  have h2 := (key (peakL (turned X))).1 (Int.le_refl _)
  omega
theorem turned_meas {X : Snd} (h : properB X = true) (h3 : X.length ≤ 3) : measOutN (turned X) = measOutN X ∧ measOutD (turned X) = measOutD X ∧ powE (turned X) = powE X ∧ powOut (turned X) = powOut X := by
  unfold measOutN measOutD powE powOut
  rw [turned_proper h h3, h, turned_powers]
  exact ⟨rfl, rfl, rfl, rfl⟩
end Go.Proofs.Ytcgejbnmbamchaa
