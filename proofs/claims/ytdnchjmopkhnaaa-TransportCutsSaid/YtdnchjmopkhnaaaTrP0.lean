/- Words for transport.decode's last region. -/
import Derived.Test.YtdnchjmopkhnaaaTrQ
import Derived.Test.YtdnchjmopkhnaaaOrd
import Derived.Laws.Cover3
namespace Go.Proofs.Ytdnchjmopkhnaaa
open Go.RowKit

theorem updU_ne {u : Nat → Value} {i k : Nat} {v : Value} (h : k ≠ i) : updU u i v k = u k := by unfold updU; rw [if_neg h]
theorem updU_same {u : Nat → Value} {i : Nat} {v : Value} : updU u i v i = v := by unfold updU; rw [if_pos rfl]
theorem run_loadAt_box {P : Program} {w : World} {g : Nat} {t : TypeId} {cs : Array Value} {d : TypeDesc} (h : Bx w g t cs) (hu : P.underlying t = some d) (hd : (match d with | .struct _ | .array _ _ => true | _ => false) = true) (hi : (P.info? t).map (·.size) = some cs.size) :
    (Instr.loadAt t (.pointer (some ⟨g, 0, none⟩))).run P w = .ok (.agg cs) w := by
  have := run_loadVar_row w g t t cs (0, 0) d h hu hd hi
  simp only [Instr.loadAt, Instr.sureAddr, Sem.run_bind, Sem.run_pure, Result.andThen_ok, this]
/-- What the operations of decode's last region yield. -/
def decV (V : Bool) (PK : Value) (E l : List Int) (b off c : Nat) : Nat → Value → Prop
  | 0, v => v = PK
  | 1, v => v = PK
  | 2, v => v = .bool V
  | 3, v => v = .bool V
  | 4, v => V = true → v = PK
  | 5, v => V = true → v = .agg (rowN .u8 E)
  | 6, v => V = true → v = .slice (some ⟨b, off, none⟩) 188 c
  | 7, v => V = true → v = .slice (some ⟨b, off, none⟩) 188 c
  | 8, v => V = true → v = .pointer (some ⟨b, off, none⟩)
  | 9, v => V = true → v = .agg (rowN .u8 l)
  | 10, v => V = true → v = .bool (decide (E = l))
  | 11, v => v = .bool (V && decide (E = l))
  | 13, v => v = .bool (V && decide (E = l))
  | _, _ => True
/-- Bytes put together, the first k of them. -/
def accS (L : List Int) (k : Nat) : Int := (L.take k).foldl (fun a x => a * 256 + x) 0
theorem accS_step {L : List Int} {k : Nat} {x : Int} (h : L[k]? = some x) : accS L (k + 1) = accS L k * 256 + x := by
  unfold accS
  rw [take_snoc_at h, List.foldl_append]
  rfl
theorem accS_bd {L : List Int} (hr : ∀ x ∈ L, 0 ≤ x ∧ x ≤ 255) : ∀ k, 0 ≤ accS L k ∧ accS L k < 256 ^ k
  | 0 => by simp [accS]
  | k + 1 => by
    have ih := accS_bd hr k
    rw [Int.pow_succ]
    rcases h : L[k]? with _ | x
    · have : accS L (k + 1) = accS L k := by
        unfold accS
        rw [List.take_of_length_le (by have := List.getElem?_eq_none_iff.1 h; omega), List.take_of_length_le (by have := List.getElem?_eq_none_iff.1 h; omega)]
      rw [this]
      omega
    · have hx := hr x (List.mem_of_getElem? h)
      rw [accS_step h]
      omega
theorem accS_six (x6 x7 x8 x9 x10 x11 : Int) : accS [x6, x7, x8, x9, x10, x11] 6 = sixV x6 x7 x8 x9 x10 x11 := by
  unfold accS sixV
  simp
/-- What decode returns. -/
def DecR (l : List Int) (b off : Nat) (pid cnt : Int) (st : Bool) (clk : Int) (A' : Option Addr) (n' : Nat) : Bool → Prop
  | true => ∃ pl, validT pid cnt st clk n' = true ∧ pktL pid cnt st clk pl n' = l ∧ pl.length = n' ∧ ∀ (q : Nat → Prop) (W : World), Byt q W (some ⟨b, off, none⟩) 188 l → Byt q W A' n' pl
  | false => ∀ pid cnt st clk pl n, validT pid cnt st clk n = true → pl.length = n → pktL pid cnt st clk pl n ≠ l
def RetD (w : World) (b off : Nat) (l : List Int) (e : Ending) (w' : World) : Prop :=
  ∃ pid cnt st clk A' n' c' ok, e = .returned (.tuple #[.agg #[.int .i64 pid, .int .i64 cnt, .bool st, .int .i64 clk, .slice A' n' c'], .bool ok]) ∧ DecR l b off pid cnt st clk A' n' ok ∧ Below w.heap.size w w'

end Go.Proofs.Ytdnchjmopkhnaaa
