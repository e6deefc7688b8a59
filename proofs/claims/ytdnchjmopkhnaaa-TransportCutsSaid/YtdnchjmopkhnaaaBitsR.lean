/- The reference's Bits: the n least significant bits of a number, the most significant first. -/
import Derived.Test.YtdnchjmopkhnaaaGen
import Derived.Laws.ShiftsVarLaws
namespace Go.Proofs.Ytdnchjmopkhnaaa
open Go.RowKit

def bitsF (v : Int) : Nat → List Int
  | 0 => []
  | n + 1 => (v / 2 ^ n % 2) :: bitsF v n
theorem bitsF_len (v : Int) : ∀ n, (bitsF v n).length = n
  | 0 => rfl
  | n + 1 => by simp [bitsF, bitsF_len v n]
theorem bitsF_rng (v : Int) : ∀ n, ∀ x ∈ bitsF v n, 0 ≤ x ∧ x ≤ 1
  | 0 => by simp [bitsF]
  | n + 1 => by
    intro x hx
    simp only [bitsF, List.mem_cons] at hx
    rcases hx with rfl | hx
    · omega
    · exact bitsF_rng v n x hx
theorem u32_and_one (x : Int) (h0 : 0 ≤ x) (h1 : x < 4294967296) : bits .and .u32 x 1 = x % 2 := by
  rw [u32_and x 1 h0 h1 (by omega) (by omega)]
  simp
  omega
def BiRel (base : Nat) (w : World) (v : Int) (n : Nat) (o i : Value) (wr : World) : Prop :=
  ∃ (m : Nat) (l : List Int), m ≤ n ∧ i = .int .i64 ((m : Int) - 1) ∧ l ++ bitsF v m = bitsF v n ∧ OwB wr base 5 o l ∧ Below base w wr
theorem bi_next {base : Nat} {w wr : World} {v : Int} {n m : Nat} {l : List Int} {o i : Value} (hm : m + 1 ≤ n) (hi : i = .int .i64 ((m : Int) - 1)) (hl : l ++ bitsF v (m + 1) = bitsF v n) (ho : OwB wr base 5 o (l ++ [v / 2 ^ m % 2])) (hb : Below base w wr) : BiRel base w v n o i wr :=
  ⟨m, _, by omega, hi, by rw [← hl, bitsF]; simp, ho, hb⟩

set_option maxHeartbeats 1000000 in
set_option maxRecDepth 100000 in
theorem ref_Bits (v : Int) (n : Nat) (w : World) (h0 : 0 ≤ v) (h1 : v < 4294967296) (hn : n ≤ 32) :
    Calls Try.prog 53 #[.int .u32 v, .int .i64 (n : Int)] w fun e w' => ∃ o, e = .returned o ∧ OwB w' w.heap.size 5 o (bitsF v n) ∧ Below w.heap.size w w' := by
  go_enter Try.func53, Try.ntmps53
  go_wp2
  go_loopw [5, 6] (fun o i wr => BiRel w.heap.size w v n o i wr) (fun _ i _ => (intOf i + 1).toNat)
  case atStart => exact ⟨n, [], by omega, rfl, by simp, OwB.nil, Below.refl _ _⟩
  case round =>
    obtain ⟨m, l, hm, rfl, hl, ho, hb⟩ := hrel
    have hll : l.length + m = n := by have := congrArg List.length hl; simp [bitsF_len] at this; exact this
    have HLL : l.length ≤ 32 := by omega
    have HL := Lib.hid hl
    clear hl hll
    have hz := hb.size
    rcases m with _ | k
    · go_wp2
      go_ret
      refine ⟨_, rfl, ?_, hb⟩
      have := HL.out
      simp only [bitsF, List.append_nil] at this
      rw [← this]
      exact ho
    · have hk : k < 32 := by omega
      rw [show (((k + 1 : Nat) : Int) - 1) = (k : Int) by omega]
      have hp : 0 ≤ v / 2 ^ k := Int.ediv_nonneg h0 (Int.le_of_lt (Int.pow_pos (by decide)))
      have hp2 : v / 2 ^ k < 4294967296 := by have := Int.ediv_le_self (2 ^ k) h0; omega
      have e1 := u32_and_one _ hp hp2
      obtain ⟨b, hbv⟩ : ∃ b, b = v / 2 ^ k % 2 := ⟨_, rfl⟩
      rw [← hbv] at e1
      have hb0 : 0 ≤ b ∧ b ≤ 1 := by omega
      have HB := Lib.hid hbv
      clear hbv hp hp2
      have e2 : b % 256 = b := by omega
      go_wp2_with (first | (at_builtin; go_must (refine wpList_appB _ rfl (.tmp 13) (.tmp 20) 22 rfl 5 Try.underlying22 Try.infoB w.heap.size _ l rfl (ho.alloc _) (some ⟨wr.heap.size, 0, none⟩) 1 1 [b] rfl (Byt.one wr 5 b hb0.1 (by omega)) (by omega) (by simp; omega) ?_; intro v' w1 hown' hg hat)))
      go_roundw
      case rel =>
        refine bi_next hm rfl HL.out ?_ (((hb.alloc hz _)).grown hg (by simp; omega) (fun b hb => (ho.lt b hb).1))
        rw [← HB.out]
        exact hown'
      case measure => simp [intOf]

end Go.Proofs.Ytdnchjmopkhnaaa
