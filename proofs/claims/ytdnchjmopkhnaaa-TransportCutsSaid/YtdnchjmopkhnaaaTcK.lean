/- Keys of packets, the map of distinct; transport.fields. -/
import Derived.Test.YtdnchjmopkhnaaaTcM
import Derived.Maps.OwnSet
import Derived.DeepKeys4
namespace Go.Proofs.Ytdnchjmopkhnaaa
open Go.RowKit Go.Maps

theorem Try.laidOutK : laidOutB Try.prog = true := by kernel_rfl
theorem Try.rowK : (95 : TypeId) < Try.prog.types.size := of_decide_eq_true (by kernel_rfl)
theorem Try.wideK : (match Try.prog.underlying 95 with | some (.array _ _) | some (.struct _) => true | _ => false) = true := by kernel_rfl
set_option maxRecDepth 100000 in
theorem lawK : Keyed Try.prog 95 := Keyed.of_law (deep_law_laid Try.laidOutK (m := 2) (by omega) Try.rowK (by kernel_rfl) Try.wideK)
theorem Try.keyTypeK : Try.prog.keyType 95 = true := by kernel_rfl
theorem Try.cellsK : Try.prog.cellsOf 95 = 4 := by kernel_rfl
theorem Try.cellsI : Try.prog.cellsOf 2 = 1 := by kernel_rfl
theorem Try.typesK : ∃ m, Try.prog.types.size + 1 = m + 2 := ⟨Try.prog.types.size - 1, by have h : 0 < Try.prog.types.size := Nat.lt_of_le_of_lt (Nat.zero_le _) Try.rowK; omega⟩
theorem zeroI (w : World) : (zeroValue 3).run Try.prog w = .ok (.int .i64 0) w := by kernel_rfl
def keyV (x : TP) : Value := .agg #[.int .i64 x.pid, .int .i64 x.cnt, .int .i64 (if x.st then 1 else 0), .int .i64 x.clk]
def SmallI (n : Int) : Prop := -9223372036854775808 ≤ n ∧ n ≤ 9223372036854775807
def TP.small (x : TP) : Prop := SmallI x.pid ∧ SmallI x.cnt ∧ SmallI x.clk
theorem wfI {n : Int} (h : SmallI n) : (Lit.int .i64 n).wf = true := by
  unfold SmallI at h
  have h1 : IntKind.i64.min = -9223372036854775808 := by decide
  have h2 : IntKind.i64.max = 9223372036854775807 := by decide
  simp only [Lit.wf, h1, h2, Bool.and_eq_true, decide_eq_true_eq]
  exact h
theorem key_mk (x : TP) (h : x.small) : ∃ kl, keyOf Try.prog 95 (keyV x) = some kl := by
  obtain ⟨m, hm⟩ := Try.typesK
  obtain ⟨h1, h2, h3⟩ := h
  have w1 := wfI h1
  have w2 := wfI h2
  have w3 := wfI h3
  have w0 : (Lit.int .i64 (if x.st then 1 else 0)).wf = true := by cases x.st <;> decide
  have hf : (keyV x).formed Try.prog 95 = true := by simp [keyV, Value.formed, Try.underlying95, Try.cellsK]
  have one : ∀ n, (Lit.int .i64 n).wf = true → Try.prog.keyLits (m + 1) 2 [.int .i64 n] = some [.int .i64 n] := fun n hn => by
    unfold Program.keyLits
    simp [Try.underlying2, hn]
  unfold keyOf
  rw [Try.underlying95]
  simp only [Try.keyTypeK, hf, Bool.and_self, if_true]
  rw [hm]
  unfold Program.keyLits
  rw [Try.underlying95]
  have hl : (keyV x).cells.toList.length = Try.prog.cellsOf 95 := by rw [Try.cellsK]; rfl
  simp only [hl, if_true]
  refine ⟨.string (keyBytes [.int .i64 x.pid, .int .i64 x.cnt, .int .i64 (if x.st then 1 else 0), .int .i64 x.clk]), ?_⟩
  have hr : ((List.range 4).mapM fun i => Try.prog.keyLits (m + 1) 2 (((keyV x).cells.toList.drop (i * Try.prog.cellsOf 2)).take (Try.prog.cellsOf 2))) = some [[.int .i64 x.pid], [.int .i64 x.cnt], [.int .i64 (if x.st then 1 else 0)], [.int .i64 x.clk]] := by
    rw [Try.cellsI]
    simp [List.range, List.range.loop, keyV, Value.cells, one _ w0, one _ w1, one _ w2, one _ w3]
  rw [hr]
  rfl
def InvD {H : Type} (ks : List TP) (k : Nat) (D : DataW H) : Prop :=
  ∀ (x : TP) (kl : Lit) (c : Int), keyOf Try.prog 95 (keyV x) = some kl → Maps.has D kl = true → D.atKey kl (.lit (.int .i64 0)) = .lit (.int .i64 c) → ∃ q : Nat, c = (q : Int) ∧ q < k ∧ (q + 1 = k → ∃ y, ks[q]? = some y ∧ keyV y = keyV x)
theorem InvD.start {H : Type} (ks : List TP) : InvD (H := H) ks 0 (.map []) := fun _ _ _ _ h _ => by cases h
theorem InvD.step {H : Type} {ks : List TP} {k : Nat} {D : DataW H} {z : TP} {kz : Lit} (h : InvD ks k D) (hD : Maps.IsMap D) (hz : ks[k]? = some z) (hk : keyOf Try.prog 95 (keyV z) = some kz) : InvD ks (k + 1) (D.put kz (.lit (.int .i64 (k : Int)))) := by
  intro x kl c hx hh ha
  by_cases e : kl = kz
  · subst e
    rw [atKey_put_same hD (lawK.key hk)] at ha
    injection ha with ha
    injection ha with _ ha
    exact ⟨k, ha.symm, Nat.lt_succ_self _, fun _ => ⟨z, hz, lawK.inj hk hx⟩⟩
  · rw [has_put_other e] at hh
    rw [atKey_put_other e] at ha
    obtain ⟨q, hq, hlt, _⟩ := h x kl c hx hh ha
    exact ⟨q, hq, by omega, fun h => by omega⟩
/-- Packets that stand side by side have different counters: the latest with the same fields is never the one before. -/
def SideBy (ks : List TP) : Prop := ∀ (i : Nat) (x y : TP), ks[i]? = some x → ks[i + 1]? = some y → x.cnt ≠ y.cnt
set_option maxRecDepth 100000 in
theorem InvD.not_last {H : Type} {ks : List TP} {k : Nat} {D : DataW H} {z : TP} {kz : Lit} {c : Int} (h : InvD ks k D) (hs : SideBy ks) (hz : ks[k]? = some z) (hk : keyOf Try.prog 95 (keyV z) = some kz) (hh : Maps.has D kz = true) (ha : D.atKey kz (.lit (.int .i64 0)) = .lit (.int .i64 c)) : c ≠ (k : Int) - 1 := by
  intro hc
  obtain ⟨q, hq, hlt, h2⟩ := h z kz c hk hh ha
  obtain ⟨y, hy, hv⟩ := h2 (by omega)
  obtain rfl : k = q + 1 := by omega
  refine hs q y z hy hz ?_
  unfold keyV at hv
  injection hv with hv
  simp at hv
  exact hv.2.1
set_option maxRecDepth 100000 in
set_option maxHeartbeats 1000000 in
theorem tr_fields (x : TP) (A : Option Addr) (n c : Nat) (w : World) :
    Calls Try.prog 55 #[.agg #[.int .i64 x.pid, .int .i64 x.cnt, .bool x.st, .int .i64 x.clk, .slice A n c]] w fun e w' => e = .returned (keyV x) ∧ Below w.heap.size w w' := by
  unfold keyV
  obtain ⟨pid, cnt, st, clk, l⟩ := x
  dsimp only
  cases st
  all_goals
    go_enter Try.func55, Try.ntmps55
    go_wp2_with fail
    refine bodyPost_ret ?h rfl ⟨rfl, ?_⟩
    case h => simp [results, Try.results55, go_sem]
    exact ((Below.refl _ _).alloc (Nat.le_refl _) _).alloc (by simp) _
end Go.Proofs.Ytdnchjmopkhnaaa
