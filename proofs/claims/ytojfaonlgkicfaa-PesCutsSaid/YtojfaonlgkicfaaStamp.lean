/- The contracts of pes.valid, pes.stamps, pes.appendStamp. -/
import Derived.Test.YtojfaonlgkicfaaSame
namespace Go.Proofs.Ytojfaonlgkicfaa
open Go.RowKit

theorem Try.infoB : (Try.prog.info? 5).map (fun i => (i.zero, i.size, i.bytes)) = some (some (.int .u8 0), 1, 1) := by kernel_rfl

def validP (s p d : Int) : Bool := decide (192 ≤ s ∧ s ≤ 239 ∧ -1 ≤ p ∧ p < 8589934592 ∧ -1 ≤ d ∧ d < 8589934592 ∧ (p ≠ -1 ∨ d = -1))

set_option maxHeartbeats 1000000 in
theorem pes_valid (s p d : Int) (x : Value) (w : World) :
    Calls Try.prog 31 #[.agg #[.int .i64 s, .int .i64 p, .int .i64 d, x]] w fun e w' => e = .returned (.bool (validP s p d)) ∧ Below w.heap.size w w' := by
  go_enter Try.func31, Try.ntmps31
  go_wp2
  all_goals
    go_ret
    refine ⟨ret_bool ?_, (Below.refl _ _).alloc (Nat.le_refl _) _⟩
    rw [Bool.eq_iff_iff]
    simp [validP]
    omega

def stampsP (p d : Int) : Int × Int := if d ≠ -1 then (192, 10) else if p ≠ -1 then (128, 5) else (0, 0)
set_option maxHeartbeats 1000000 in
theorem pes_stamps (s p d : Int) (x : Value) (w : World) :
    Calls Try.prog 35 #[.agg #[.int .i64 s, .int .i64 p, .int .i64 d, x]] w fun e w' => e = .returned (.tuple #[.int .u8 (stampsP p d).1, .int .i64 (stampsP p d).2]) ∧ Below w.heap.size w w' := by
  unfold stampsP
  go_enter Try.func35, Try.ntmps35
  go_wp2
  all_goals
    go_ret2
    refine ⟨?_, (Below.refl _ _).alloc (Nat.le_refl _) _⟩
    simp_all

def stampL (k t : Int) : List Int := [k * 16 + t / 1073741824 * 2 + 1, t / 4194304 % 256, t / 32768 % 128 * 2 + 1, t / 128 % 256, t % 128 * 2 + 1]
theorem stampL_rng {k t : Int} (hk0 : 0 ≤ k) (hk : k ≤ 15) (h0 : 0 ≤ t) (h1 : t < 8589934592) : ∀ x ∈ stampL k t, 0 ≤ x ∧ x ≤ 255 := by
  intro x hx
  simp only [stampL, List.mem_cons, List.not_mem_nil, or_false] at hx
  rcases hx with rfl | rfl | rfl | rfl | rfl <;> omega
/-- A slice of bytes that a call lays down written out. -/
theorem Byt.lit (w : World) (e : TypeId) (l : List Int) (hr : ∀ x ∈ l, 0 ≤ x ∧ x ≤ 255) {cs : Array Value} (hc : cs = (l.map (Value.int .u8)).toArray) :
    Byt (fun _ => True) (w.alloc (.cells cs e)) (some ⟨w.heap.size, 0, none⟩) l.length l := by
  subst hc
  exact Bk.byt (heap_alloc_new w _ : Bk _ e _ l) trivial hr

theorem u8_or_low (i : Nat) (a b : Int) (n : Int) (hn : n = ((2 ^ i : Nat) : Int)) (ha : 0 ≤ a) (hb : 0 ≤ b) (hbn : b < n) (h : a * n < 256) (hn2 : n ≤ 256) : bits .or .u8 (a * n) b = a * n + b := by
  obtain ⟨a, rfl⟩ := Int.eq_ofNat_of_zero_le ha
  obtain ⟨b, rfl⟩ := Int.eq_ofNat_of_zero_le hb
  subst hn
  have hm : ((a * 2 ^ i : Nat) : Int) < 256 := by rw [Int.natCast_mul]; exact h
  have hc : b < 2 ^ i := Int.ofNat_lt.1 hbn
  have he : a * 2 ^ i ||| b = a * 2 ^ i + b := by rw [Nat.mul_comm, ← Nat.two_pow_add_eq_or_of_lt hc]
  rw [← Int.natCast_mul, u8_or_nat _ _ (Int.ofNat_lt.1 hm) (by omega), he, Int.natCast_add]

set_option maxRecDepth 4000 in
set_option maxHeartbeats 1000000 in
theorem pes_appendStamp (base : Nat) (v : Value) (l : List Int) (k t : Int) (w : World) (hown : OwB w base 5 v l) (hb : base ≤ w.heap.size) (hl : l.length ≤ 1000)
    (hk0 : 0 ≤ k) (hk : k ≤ 15) (h0 : 0 ≤ t) (h1 : t < 8589934592) :
    Calls Try.prog 36 #[v, .int .u8 k, .int .i64 t] w fun e w' => ∃ v', e = .returned v' ∧ OwB w' base 5 v' (l ++ stampL k t) ∧ Below base w w' := by
  have o1 : bits .or .u8 (k * 16) (t / 1073741824 * 2) = k * 16 + t / 1073741824 * 2 := u8_or_low 4 k _ 16 rfl (by omega) (by omega) (by omega) (by omega) (by omega)
  have o2 : bits .or .u8 (k * 16 + t / 1073741824 * 2) 1 = k * 16 + t / 1073741824 * 2 + 1 := by
    have := u8_or_low 1 (k * 8 + t / 1073741824) 1 2 rfl (by omega) (by omega) (by omega) (by omega) (by omega)
    rwa [show (k * 8 + t / 1073741824) * 2 = k * 16 + t / 1073741824 * 2 by omega] at this
  have o3 : bits .or .u8 (t / 32768 % 256 * 2 % 256) 1 = t / 32768 % 128 * 2 + 1 := by
    have := u8_or_low 1 (t / 32768 % 128) 1 2 rfl (by omega) (by omega) (by omega) (by omega) (by omega)
    rwa [show t / 32768 % 128 * 2 = t / 32768 % 256 * 2 % 256 by omega] at this ⊢
  have o4 : bits .or .u8 (t % 256 * 2 % 256) 1 = t % 128 * 2 + 1 := by
    have := u8_or_low 1 (t % 128) 1 2 rfl (by omega) (by omega) (by omega) (by omega) (by omega)
    rwa [show t % 128 * 2 = t % 256 * 2 % 256 by omega] at this ⊢
  have hR := stampL_rng hk0 hk h0 h1
  have HR := Lib.hid hR
  clear hR
  go_enter Try.func36, Try.ntmps36
  go_wp2_with (first | (at_builtin; go_loud (refine wpList_appB _ rfl (.tmp 7) (.tmp 31) 27 rfl 5 Try.underlying27 Try.infoB base v l rfl (hown.alloc _) (some ⟨w.heap.size, 0, none⟩) 5 5 (stampL k t) rfl (Byt.lit w 5 (stampL k t) HR.out rfl) (by omega) (by simp; omega) ?_; intro v' w1 hown' hg hat)))
  go_ret
  exact ⟨_, rfl, hown', ((Below.refl _ _).alloc hb _).grown hg (by simp; omega) (fun b hb => (hown.lt b hb).1)⟩

end Go.Proofs.Ytojfaonlgkicfaa
