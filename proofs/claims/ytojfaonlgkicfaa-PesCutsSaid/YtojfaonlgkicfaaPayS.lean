/- The reference's stamped: the five bytes of a timestamp. -/
import Derived.Test.YtojfaonlgkicfaaPayR
namespace Go.Proofs.Ytojfaonlgkicfaa
open Go.RowKit

def stampBits (k t : Int) : List Int := ((((((bitsF k 4 ++ bitsF (t / 1073741824) 3) ++ [1]) ++ bitsF (t / 32768 % 32768) 15) ++ [1]) ++ bitsF (t % 32768) 15) ++ [1])
theorem mem_one {x : Int} {l m : List Int} (h : ∀ x ∈ l, 0 ≤ x ∧ x ≤ 1) (h2 : ∀ x ∈ m, 0 ≤ x ∧ x ≤ 1) (hx : x ∈ l ++ m) : 0 ≤ x ∧ x ≤ 1 := by
  rcases List.mem_append.1 hx with h' | h'
  · exact h x h'
  · exact h2 x h'
theorem one_one : ∀ x ∈ ([1] : List Int), 0 ≤ x ∧ x ≤ 1 := by simp
theorem stampBits_rng (k t : Int) : ∀ x ∈ stampBits k t, 0 ≤ x ∧ x ≤ 1 :=
  fun _ => mem_one (fun _ => mem_one (fun _ => mem_one (fun _ => mem_one (fun _ => mem_one (fun _ => mem_one (bitsF_rng _ _) (bitsF_rng _ _)) one_one) (bitsF_rng _ _)) one_one) (bitsF_rng _ _)) one_one
theorem take5 {m : List Int} {a b c d e : Int} (h0 : m[0]? = some a) (h1 : m[1]? = some b) (h2 : m[2]? = some c) (h3 : m[3]? = some d) (h4 : m[4]? = some e) : m.take 5 = [a, b, c, d, e] := by
  rcases m with _ | ⟨x0, _ | ⟨x1, _ | ⟨x2, _ | ⟨x3, _ | ⟨x4, m⟩⟩⟩⟩⟩ <;> simp_all
theorem byteOf (x : Int) : x / 128 % 2 * 128 + x / 64 % 2 * 64 + x / 32 % 2 * 32 + x / 16 % 2 * 16 + x / 8 % 2 * 8 + x / 4 % 2 * 4 + x / 2 % 2 * 2 + x % 2 = x % 256 := by
  have e0 : x = 2 * (x / 2) + x % 2 := by omega
  have e1 : x / 2 = 2 * (x / 4) + x / 2 % 2 := by omega
  have e2 : x / 4 = 2 * (x / 8) + x / 4 % 2 := by omega
  have e3 : x / 8 = 2 * (x / 16) + x / 8 % 2 := by omega
  have e4 : x / 16 = 2 * (x / 32) + x / 16 % 2 := by omega
  have e5 : x / 32 = 2 * (x / 64) + x / 32 % 2 := by omega
  have e6 : x / 64 = 2 * (x / 128) + x / 64 % 2 := by omega
  have e7 : x / 128 = 2 * (x / 256) + x / 128 % 2 := by omega
  have e8 : x = 256 * (x / 256) + x % 256 := by omega
  generalize x / 128 % 2 = b7 at *
  generalize x / 64 % 2 = b6 at *
  generalize x / 32 % 2 = b5 at *
  generalize x / 16 % 2 = b4 at *
  generalize x / 8 % 2 = b3 at *
  generalize x / 4 % 2 = b2 at *
  generalize x / 2 % 2 = b1 at *
  generalize x % 2 = b0 at *
  generalize x % 256 = r at *
  generalize x / 256 = c8 at *
  generalize x / 128 = c7 at *
  generalize x / 64 = c6 at *
  generalize x / 32 = c5 at *
  generalize x / 16 = c4 at *
  generalize x / 8 = c3 at *
  generalize x / 4 = c2 at *
  generalize x / 2 = c1 at *
  omega
theorem byteOf' {x b0 b1 b2 b3 b4 b5 b6 b7 y : Int} (h7 : b7 = x / 128 % 2) (h6 : b6 = x / 64 % 2) (h5 : b5 = x / 32 % 2) (h4 : b4 = x / 16 % 2) (h3 : b3 = x / 8 % 2) (h2 : b2 = x / 4 % 2) (h1 : b1 = x / 2 % 2) (h0 : b0 = x % 2) (hy : y = x % 256) :
    b7 * 128 + b6 * 64 + b5 * 32 + b4 * 16 + b3 * 8 + b2 * 4 + b1 * 2 + b0 = y := by rw [h7, h6, h5, h4, h3, h2, h1, h0, hy]; exact byteOf x
theorem list5 {a b c d e a' b' c' d' e' : Int} (h0 : a = a') (h1 : b = b') (h2 : c = c') (h3 : d = d') (h4 : e = e') : [a, b, c, d, e] = [a', b', c', d', e'] := by rw [h0, h1, h2, h3, h4]
set_option maxHeartbeats 1000000 in
theorem stampBits_pay (k t : Int) (hk0 : 0 ≤ k) (hk : k ≤ 15) (h0 : 0 ≤ t) (h1 : t < 8589934592) : (payL (stampBits k t)).take 5 = stampL k t := by
  have hr := stampBits_rng k t
  have hl : (stampBits k t).length = 40 := by simp [stampBits, bitsF_len]
  have H0 := payL_full (stampBits k t) 0 (k / 8 % 2) (k / 4 % 2) (k / 2 % 2) (k / 1 % 2) (t / 1073741824 / 4 % 2) (t / 1073741824 / 2 % 2) (t / 1073741824 / 1 % 2) (1) (by omega) rfl rfl rfl rfl rfl rfl rfl rfl hr
  have H1 := payL_full (stampBits k t) 1 (t / 32768 % 32768 / 16384 % 2) (t / 32768 % 32768 / 8192 % 2) (t / 32768 % 32768 / 4096 % 2) (t / 32768 % 32768 / 2048 % 2) (t / 32768 % 32768 / 1024 % 2) (t / 32768 % 32768 / 512 % 2) (t / 32768 % 32768 / 256 % 2) (t / 32768 % 32768 / 128 % 2) (by omega) rfl rfl rfl rfl rfl rfl rfl rfl hr
  have H2 := payL_full (stampBits k t) 2 (t / 32768 % 32768 / 64 % 2) (t / 32768 % 32768 / 32 % 2) (t / 32768 % 32768 / 16 % 2) (t / 32768 % 32768 / 8 % 2) (t / 32768 % 32768 / 4 % 2) (t / 32768 % 32768 / 2 % 2) (t / 32768 % 32768 / 1 % 2) (1) (by omega) rfl rfl rfl rfl rfl rfl rfl rfl hr
  have H3 := payL_full (stampBits k t) 3 (t % 32768 / 16384 % 2) (t % 32768 / 8192 % 2) (t % 32768 / 4096 % 2) (t % 32768 / 2048 % 2) (t % 32768 / 1024 % 2) (t % 32768 / 512 % 2) (t % 32768 / 256 % 2) (t % 32768 / 128 % 2) (by omega) rfl rfl rfl rfl rfl rfl rfl rfl hr
  have H4 := payL_full (stampBits k t) 4 (t % 32768 / 64 % 2) (t % 32768 / 32 % 2) (t % 32768 / 16 % 2) (t % 32768 / 8 % 2) (t % 32768 / 4 % 2) (t % 32768 / 2 % 2) (t % 32768 / 1 % 2) (1) (by omega) rfl rfl rfl rfl rfl rfl rfl rfl hr
  rw [take5 H0 H1 H2 H3 H4]
  clear H0 H1 H2 H3 H4 hr hl
  unfold stampL
  refine list5 (byteOf' (x := k * 16 + t / 1073741824 * 2 + 1) (by omega) (by omega) (by omega) (by omega) (by omega) (by omega) (by omega) (by omega) (by omega)) (byteOf' (x := t / 4194304) (by omega) (by omega) (by omega) (by omega) (by omega) (by omega) (by omega) (by omega) (by omega)) (byteOf' (x := t / 32768 * 2 + 1) (by omega) (by omega) (by omega) (by omega) (by omega) (by omega) (by omega) (by omega) (by omega)) (byteOf' (x := t / 128) (by omega) (by omega) (by omega) (by omega) (by omega) (by omega) (by omega) (by omega) (by omega)) (byteOf' (x := t * 2 + 1) (by omega) (by omega) (by omega) (by omega) (by omega) (by omega) (by omega) (by omega) (by omega))

end Go.Proofs.Ytojfaonlgkicfaa
