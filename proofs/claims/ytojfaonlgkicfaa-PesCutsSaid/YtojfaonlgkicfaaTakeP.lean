/- pes.Take: its parts. -/
import Derived.Test.YtojfaonlgkicfaaPutB
import Derived.Recover
import Derived.Lib.SliceRun
namespace Go.Proofs.Ytojfaonlgkicfaa
open Go.RowKit


set_option maxRecDepth 100000 in
set_option maxHeartbeats 1000000 in
theorem bytes_Clone {p : Nat → Prop} (A : Option Addr) (n c : Nat) (l : List Int) (w : World) (h : Byt p w A n l) (hn : n ≤ 1000000) :
    Calls Try.prog 33 #[.slice A n c] w (RetB w l) := by
  rcases A with _ | a
  · have : n = 0 := by
      rcases Nat.eq_zero_or_pos n with h0 | h0
      · exact h0
      · obtain ⟨b, off, hA, _⟩ := h.addr h0
        cases hA
    subst this
    have : l = [] := List.eq_nil_of_length_eq_zero h.len
    subst this
    have hnil := fun w => Lib.run_eql_slice_nil (P := Try.prog) w 27 5 none 0 c 0 0 Try.underlying27
    simp only [Option.isNone_none] at hnil
    go_enter Try.func33, Try.ntmps33
    go_wp2_with fail
    go_ret
    exact ⟨_, _, _, rfl, Byt.nil, Below.refl _ _⟩
  · have hnil := fun w => Lib.run_eql_slice_nil (P := Try.prog) w 27 5 (some a) n c 0 0 Try.underlying27
    simp only [Option.isNone_some] at hnil
    go_enter Try.func33, Try.ntmps33
    go_wp2_with (first | (at_builtin; go_must (refine wpList_appB _ rfl (.tmp 5) (.tmp 6) 27 rfl 5 Try.underlying27 Try.infoB w.heap.size _ [] rfl (OwB.lit w w.heap.size 5 [] 0 rfl rfl rfl (Nat.le_refl _) (by omega)) (some a) n c l rfl (h.alloc _) (by simp; omega) (by simp) ?_; intro v3 w3 ho3 hg3 hat3)))
    obtain ⟨A3, c3, rfl, hB3⟩ := ho3.ret (p := (w.heap.size ≤ ·)) (fun b hb => hb) (by simpa using h.rng)
    go_wp2_with fail
    go_ret
    refine ⟨_, _, _, rfl, by simpa using hB3, ((Below.refl _ _).alloc (Nat.le_refl _) _).grown hg3 (by simp) (fun k hk => ((OwB.lit w w.heap.size 5 [] 0 rfl rfl rfl (Nat.le_refl _) (by omega)).lt k hk).1)⟩

/-- A timestamp that is read from five bytes. -/
def tsOk (k b0 b2 b4 : Int) : Bool := decide (b0 / 16 = k ∧ b0 % 2 = 1 ∧ b2 % 2 = 1 ∧ b4 % 2 = 1)
def tsV (b0 b1 b2 b3 b4 : Int) : Int := b0 / 2 % 8 * 1073741824 + b1 * 4194304 + b2 / 2 * 32768 + b3 * 128 + b4 / 2

set_option maxRecDepth 100000 in
set_option maxHeartbeats 2000000 in
theorem pes_takeStamp_no {b off n c : Nat} (k x0 x1 x2 x3 x4 : Int) (w : World) (hn : 5 ≤ n) (c0 : w.cell? ⟨b, off, none⟩ = some (.int .u8 x0)) (c1 : w.cell? ⟨b, off + 1, none⟩ = some (.int .u8 x1)) (c2 : w.cell? ⟨b, off + 2, none⟩ = some (.int .u8 x2)) (c3 : w.cell? ⟨b, off + 3, none⟩ = some (.int .u8 x3)) (c4 : w.cell? ⟨b, off + 4, none⟩ = some (.int .u8 x4))
    (h0 : 0 ≤ x0 ∧ x0 ≤ 255) (h1 : 0 ≤ x1 ∧ x1 ≤ 255) (h2 : 0 ≤ x2 ∧ x2 ≤ 255) (h3 : 0 ≤ x3 ∧ x3 ≤ 255) (h4 : 0 ≤ x4 ∧ x4 ≤ 255) (hk : 0 ≤ k ∧ k ≤ 15) (hno : tsOk k x0 x2 x4 = false) :
    Calls Try.prog 40 #[.slice (some ⟨b, off, none⟩) n c, .int .u8 k] w fun e w' => e = .returned (.tuple #[.int .i64 0, .bool false]) ∧ w = w' := by
  have a0 : bits .and .u8 x0 1 = x0 % 2 := by rw [u8_and x0 1 (by omega) (by omega) (by omega) (by omega)]; simp; omega
  have a2 : bits .and .u8 x2 1 = x2 % 2 := by rw [u8_and x2 1 (by omega) (by omega) (by omega) (by omega)]; simp; omega
  have a4 : bits .and .u8 x4 1 = x4 % 2 := by rw [u8_and x4 1 (by omega) (by omega) (by omega) (by omega)]; simp; omega
  have HN : ¬ (x0 / 16 = k ∧ x0 % 2 = 1 ∧ x2 % 2 = 1 ∧ x4 % 2 = 1) := by simpa [tsOk] using hno
  have HNo := Lib.hid HN
  clear HN hno
  go_enter Try.func40, Try.ntmps40
  go_wp2_with fail
  all_goals first
    | (go_ret2; exact ⟨rfl, rfl⟩)
    | (exfalso; have h := HNo.out; simp_all; omega)

theorem i64_or_low (i : Nat) (a b : Int) (n : Int) (hn : n = ((2 ^ i : Nat) : Int)) (ha : 0 ≤ a) (hb : 0 ≤ b) (hbn : b < n) (h : a * n + n ≤ 9223372036854775808) : bits .or .i64 (a * n) b = a * n + b := by
  obtain ⟨a, rfl⟩ := Int.eq_ofNat_of_zero_le ha
  obtain ⟨b, rfl⟩ := Int.eq_ofNat_of_zero_le hb
  subst hn
  have hc : b < 2 ^ i := Int.ofNat_lt.1 hbn
  have he : a * 2 ^ i ||| b = a * 2 ^ i + b := by rw [Nat.mul_comm, ← Nat.two_pow_add_eq_or_of_lt hc]
  have hm : ((a * 2 ^ i : Nat) : Int) + ((2 ^ i : Nat) : Int) ≤ 9223372036854775808 := by rw [Int.natCast_mul]; exact h
  have h1 : a * 2 ^ i + b < 9223372036854775808 := by omega
  show IntKind.i64.wrap ((BitVec.ofInt 64 (((a : Nat) : Int) * ((2 ^ i : Nat) : Int)) ||| BitVec.ofInt 64 ((b : Nat) : Int)).toNat : Int) = _
  rw [← Int.natCast_mul, BitVec.toNat_or, ofInt_u64 _ (by omega), ofInt_u64 _ (by omega), he, IntWalk.i64_in _ (by omega)]
  omega

set_option maxRecDepth 100000 in
set_option maxHeartbeats 2000000 in
theorem pes_takeStamp_yes {b off n c : Nat} (k x0 x1 x2 x3 x4 : Int) (w : World) (hn : 5 ≤ n) (c0 : w.cell? ⟨b, off, none⟩ = some (.int .u8 x0)) (c1 : w.cell? ⟨b, off + 1, none⟩ = some (.int .u8 x1)) (c2 : w.cell? ⟨b, off + 2, none⟩ = some (.int .u8 x2)) (c3 : w.cell? ⟨b, off + 3, none⟩ = some (.int .u8 x3)) (c4 : w.cell? ⟨b, off + 4, none⟩ = some (.int .u8 x4))
    (h0 : 0 ≤ x0 ∧ x0 ≤ 255) (h1 : 0 ≤ x1 ∧ x1 ≤ 255) (h2 : 0 ≤ x2 ∧ x2 ≤ 255) (h3 : 0 ≤ x3 ∧ x3 ≤ 255) (h4 : 0 ≤ x4 ∧ x4 ≤ 255) (hyes : tsOk k x0 x2 x4 = true) :
    Calls Try.prog 40 #[.slice (some ⟨b, off, none⟩) n c, .int .u8 k] w fun e w' => e = .returned (.tuple #[.int .i64 (tsV x0 x1 x2 x3 x4), .bool true]) ∧ ∃ m, w' = w.drewN m := by
  have HY : x0 / 16 = k ∧ x0 % 2 = 1 ∧ x2 % 2 = 1 ∧ x4 % 2 = 1 := by simpa [tsOk] using hyes
  obtain ⟨y1, y2, y3, y4⟩ := HY
  have a0 : bits .and .u8 x0 1 = 1 := by rw [u8_and x0 1 (by omega) (by omega) (by omega) (by omega)]; simp; omega
  have a2 : bits .and .u8 x2 1 = 1 := by rw [u8_and x2 1 (by omega) (by omega) (by omega) (by omega)]; simp; omega
  have a4 : bits .and .u8 x4 1 = 1 := by rw [u8_and x4 1 (by omega) (by omega) (by omega) (by omega)]; simp; omega
  have a7 : bits .and .u8 (x0 / 2) 7 = x0 / 2 % 8 := by rw [u8_and _ 7 (by omega) (by omega) (by omega) (by omega)]; simp [nat_mask3]; omega
  have d1 : ((x0 / 16 : Int) != k) = false := by simp [y1]
  obtain ⟨hi, e_hi⟩ : ∃ x, x = x0 / 2 % 8 := ⟨_, rfl⟩
  obtain ⟨m2, e_m2⟩ : ∃ x, x = x2 / 2 := ⟨_, rfl⟩
  obtain ⟨m4, e_m4⟩ : ∃ x, x = x4 / 2 := ⟨_, rfl⟩
  have b1 : 0 ≤ hi ∧ hi ≤ 7 := by omega
  have b2 : 0 ≤ m2 ∧ m2 ≤ 127 := by omega
  have b4 : 0 ≤ m4 ∧ m4 ≤ 127 := by omega
  have HV := Lib.hid (show tsV x0 x1 x2 x3 x4 = hi * 1073741824 + x1 * 4194304 + m2 * 32768 + x3 * 128 + m4 by unfold tsV; rw [← e_hi, ← e_m2, ← e_m4])
  rw [← e_hi] at a7
  have E2 : x2 / 2 = m2 := e_m2.symm
  have E4 : x4 / 2 = m4 := e_m4.symm
  have o1 : bits .or .i64 (x1 * 128) m2 = x1 * 128 + m2 := i64_or_low 7 x1 m2 128 rfl (by omega) (by omega) (by omega) (by omega)
  have o2 : bits .or .i64 (x3 * 128) m4 = x3 * 128 + m4 := i64_or_low 7 x3 m4 128 rfl (by omega) (by omega) (by omega) (by omega)
  have o3 : bits .or .i64 (hi * 1073741824) ((x1 * 128 + m2) * 32768) = hi * 1073741824 + (x1 * 128 + m2) * 32768 := i64_or_low 30 hi _ 1073741824 rfl (by omega) (by omega) (by omega) (by omega)
  have o4 : bits .or .i64 (hi * 1073741824 + (x1 * 128 + m2) * 32768) (x3 * 128 + m4) = hi * 1073741824 + (x1 * 128 + m2) * 32768 + (x3 * 128 + m4) := by
    have := i64_or_low 15 (hi * 32768 + (x1 * 128 + m2)) (x3 * 128 + m4) 32768 rfl (by omega) (by omega) (by omega) (by omega)
    rwa [show (hi * 32768 + (x1 * 128 + m2)) * 32768 = hi * 1073741824 + (x1 * 128 + m2) * 32768 by omega] at this
  have w1 : IntKind.i64.wrap (x1 * 128) = x1 * 128 := IntWalk.i64_in _ (by omega)
  have w2 : IntKind.i64.wrap (x3 * 128) = x3 * 128 := IntWalk.i64_in _ (by omega)
  have w3 : IntKind.i64.wrap x1 = x1 := IntWalk.i64_in _ (by omega)
  have w4 : IntKind.i64.wrap x3 = x3 := IntWalk.i64_in _ (by omega)
  have w5 : IntKind.i64.wrap m2 = m2 := IntWalk.i64_in _ (by omega)
  have w6 : IntKind.i64.wrap m4 = m4 := IntWalk.i64_in _ (by omega)
  clear e_hi e_m2 e_m4 hyes y2 y3 y4
  go_enter Try.func40, Try.ntmps40
  go_wp2_with fail
  go_quiet (fail)
  go_wp2_with fail
  go_quiet (fail)
  go_wp2_with fail
  go_ret2
  refine ⟨?_, _, rfl⟩
  rw [HV.out, show hi * 1073741824 + x1 * 4194304 + m2 * 32768 + x3 * 128 + m4 = hi * 1073741824 + (x1 * 128 + m2) * 32768 + (x3 * 128 + m4) by omega]
  rfl

def szK (k : Int) : Int := if k = 128 then 5 else if k = 192 then 10 else 0
def okK (k : Int) : Bool := decide (k = 0 ∨ k = 128 ∨ k = 192)
theorem pes_sizeOf (k : Int) (w : World) : Calls Try.prog 39 #[.int .u8 k] w fun e w' => e = .returned (.tuple #[.int .i64 (szK k), .bool (okK k)]) ∧ w = w' := by
  unfold szK okK
  go_enter Try.func39, Try.ntmps39
  go_wp2
  all_goals
    go_ret2
    refine ⟨?_, rfl⟩
    simp_all

theorem take_idle (p q r : Addr) (w : World) :
    CallsD Try.prog 38 #[.pointer (some p), .pointer (some q), .pointer (some r)] .returning w fun e u' w' => e = .returned (.tuple #[]) ∧ u' = .returning ∧ w' = w := by
  refine callsD_of_wpS Try.func38 rfl fun c₀ cs hu => ?_
  apply wpS_seq
  apply wpS_region
  simp [wpOpsS, go_sem, recoverD, hu, Try.ntmps38, Exit.thenS]
  refine wpS_cond (t := false) (by simp [Act.eval, Array.replicate]) ?_
  simp only [Bool.false_eq_true, if_false]
  refine wpS_of_wp (wp_skip ?_)
  cases c₀
  simp_all [bodyPostS, results, Try.results38]

/-- What Take returns: a packet whose data lie in new memory, and two numbers. -/
def RetT (w : World) (s p d : Int) (l : List Int) (n code : Int) (e : Ending) (w' : World) : Prop :=
  ∃ A k c, e = .returned (.tuple #[.agg #[.int .i64 s, .int .i64 p, .int .i64 d, .slice A k c], .int .i64 n, .int .i64 code]) ∧ Byt (w.heap.size ≤ ·) w' A k l ∧ Below w.heap.size w w'

end Go.Proofs.Ytojfaonlgkicfaa
