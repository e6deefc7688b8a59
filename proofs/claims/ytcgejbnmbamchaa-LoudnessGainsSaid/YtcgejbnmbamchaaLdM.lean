/- Loudness in plain numbers: proper sound, the powers of windows, the gates, the measure, the peak, the gain. No condition. -/
import Derived.WalkKit
namespace Go.Proofs.Ytcgejbnmbamchaa

abbrev Snd := List (List Int)
/-- Every sample is one of 16 bits. -/
def Smp (l : List Int) : Prop := ∀ x ∈ l, -32768 ≤ x ∧ x ≤ 32767
def properB (X : Snd) : Bool := decide (1 ≤ X.length ∧ X.length ≤ 4) && X.all fun c => decide (c.length = (X.headD []).length ∧ c.length ≤ 1048576)
def wide (X : Snd) : Nat := (X.headD []).length
theorem proper_spec {X : Snd} (h : properB X = true) : 1 ≤ X.length ∧ X.length ≤ 4 ∧ wide X ≤ 1048576 ∧ ∀ c ∈ X, c.length = wide X := by
  simp only [properB, Bool.and_eq_true, decide_eq_true_eq, List.all_eq_true] at h
  obtain ⟨⟨h1, h2⟩, h3⟩ := h
  refine ⟨h1, h2, ?_, fun c hc => (h3 c hc).1⟩
  cases X with
  | nil => simp at h1
  | cons a X => have := h3 a (by simp); exact this.2
def sqs (l : List Int) : Int := (l.map fun x => x * x).sum
theorem sqs_nil : sqs [] = 0 := rfl
theorem sqs_cons (x : Int) (l : List Int) : sqs (x :: l) = x * x + sqs l := by simp [sqs]
theorem sqs_append (a b : List Int) : sqs (a ++ b) = sqs a + sqs b := by simp [sqs]
theorem sqs_snoc (l : List Int) (x : Int) : sqs (l ++ [x]) = sqs l + x * x := by simp [sqs]
theorem sq_nonneg (x : Int) : 0 ≤ x * x := by rcases Int.le_total 0 x with h0 | h0; exact Int.mul_nonneg h0 h0; exact Int.mul_nonneg_of_nonpos_of_nonpos h0 h0
theorem sq_bound {x : Int} (h : -32768 ≤ x ∧ x ≤ 32767) : 0 ≤ x * x ∧ x * x ≤ 1073741824 := by
  refine ⟨sq_nonneg x, ?_⟩
  have e : x * x = ((x.natAbs * x.natAbs : Nat) : Int) := by rw [Int.natCast_mul]; exact (Int.natAbs_mul_self' x).symm
  have h2 : x.natAbs * x.natAbs ≤ 32768 * 32768 := Nat.mul_le_mul (by omega) (by omega)
  omega
theorem sqs_bound : ∀ {l : List Int}, Smp l → 0 ≤ sqs l ∧ sqs l ≤ l.length * 1073741824
  | [], _ => by simp [sqs]
  | x :: l, h => by
    have h1 := sq_bound (h x (by simp))
    have h2 := sqs_bound (l := l) (fun y hy => h y (by simp [hy]))
    rw [sqs_cons, List.length_cons]
    omega
/-- The power of the window that begins at sample a. -/
def powC (a : Nat) (c : List Int) : Int := sqs ((c.drop a).take 480)
def powAt (X : Snd) (a : Nat) : Int := (X.map (powC a)).sum
def nWin (n : Nat) : Nat := (n - 360) / 120
def powersL (X : Snd) : List Int := (List.range (nWin (wide X))).map fun k => powAt X (120 * k)
theorem powersL_len (X : Snd) : (powersL X).length = nWin (wide X) := by simp [powersL]
theorem powC_bound {c : List Int} (h : Smp c) (a : Nat) : 0 ≤ powC a c ∧ powC a c ≤ 515396075520 := by
  have h1 := sqs_bound (l := (c.drop a).take 480) (fun x hx => h x (List.mem_of_mem_drop (List.mem_of_mem_take hx)))
  have h2 : ((c.drop a).take 480).length ≤ 480 := by rw [List.length_take]; omega
  unfold powC
  omega
theorem powAt_bound : ∀ {X : Snd}, (∀ c ∈ X, Smp c) → (a : Nat) → 0 ≤ powAt X a ∧ powAt X a ≤ X.length * 515396075520
  | [], _, a => by simp [powAt]
  | c :: X, h, a => by
    have h1 := powC_bound (h c (by simp)) a
    have h2 := powAt_bound (X := X) (fun d hd => h d (by simp [hd])) a
    simp only [powAt, List.map_cons, List.sum_cons, List.length_cons] at h2 ⊢
    omega
theorem powersL_bound {X : Snd} (hp : properB X = true) (h : ∀ c ∈ X, Smp c) : (powersL X).length ≤ 8735 ∧ ∀ x ∈ powersL X, 0 ≤ x ∧ x ≤ 2061584302080 := by
  obtain ⟨h1, h2, h3, h4⟩ := proper_spec hp
  refine ⟨by rw [powersL_len]; unfold nWin; omega, fun x hx => ?_⟩
  obtain ⟨k, _, rfl⟩ := List.mem_map.1 hx
  have := powAt_bound h (120 * k)
  omega
/-! The gates. -/
def loud (x : Int) : Bool := decide (30720 ≤ x)
def loudSum (l : List Int) : Int := (l.filter loud).sum
def loudMany (l : List Int) : Nat := (l.filter loud).length
def passes (l : List Int) (x : Int) : Bool := loud x && decide (loudSum l ≤ 10 * x * loudMany l)
/-- The indexes of the windows that pass both gates. -/
def gateL (l : List Int) : List Nat := (List.range l.length).filter fun i => passes l (l.getD i 0)
def gateSum (l : List Int) : Int := ((gateL l).map fun i => l.getD i 0).sum
def measureR (l : List Int) : Int × Int :=
  if (gateL l).length = 0 then (0, 1) else
    (gateSum l / (Nat.gcd (gateSum l).natAbs (480 * (gateL l).length) : Nat), (480 * ((gateL l).length : Int)) / (Nat.gcd (gateSum l).natAbs (480 * (gateL l).length) : Nat))
/-! The peak. -/
def absI (x : Int) : Int := max x (-x)
def peakC (m : Int) (l : List Int) : Int := l.foldl (fun m x => max m (absI x)) m
def peakL (X : Snd) : Int := X.foldl peakC 0
def peakF (X : Snd) : Int := if properB X = true then peakL X else 0
end Go.Proofs.Ytcgejbnmbamchaa
