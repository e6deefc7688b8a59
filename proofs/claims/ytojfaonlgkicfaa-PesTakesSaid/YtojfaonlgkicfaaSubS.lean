/- Slicing a slice of bytes: one value under one name. -/
import Derived.Test.YtojfaonlgkicfaaTakeB
import Derived.Test.YtojfaonlgkicfaaRowW
import Derived.Lib.Hide
namespace Go.Proofs.Ytojfaonlgkicfaa
open Go.RowKit

set_option maxRecDepth 100000 in
theorem sub_any (b off n c : Nat) (lo hi : Int) (h0 : 0 ≤ lo) (h1 : lo ≤ hi) (h2 : hi ≤ c) :
    ∃ A' c', (∀ w, (Instr.slice 27 (.slice (some ⟨b, off, none⟩) n c) (some (.int .i64 lo)) (some (.int .i64 hi)) none).run Try.prog w = .ok (.slice A' (hi - lo).toNat c') w) ∧
      ∀ (q : Nat → Prop) (W : World) (l : List Int), hi ≤ n → Byt q W (some ⟨b, off, none⟩) n l → Byt q W A' (hi - lo).toNat ((l.drop lo.toNat).take (hi - lo).toNat) := by
  have hsz : ∀ w, (sizeOf 5).run Try.prog w = .ok 1 w := fun _ => by kernel_rfl
  by_cases hc : c = lo.toNat
  · refine ⟨some ⟨b, off, none⟩, 0, fun w => ?_, fun q W l hn hB => ?_⟩
    · rw [run_slice_lh (P := Try.prog) w 27 (some ⟨b, off, none⟩) n c Try.underlying27 .i64 .i64 lo hi h0 h1 h2]
      have hz := hsz w
      show ((sizeOf 5).run Try.prog w).andThen _ = _
      rw [hz]
      simp only [Result.andThen, sliced]
      rw [if_pos hc, show hi.toNat - lo.toNat = (hi - lo).toNat by omega, show c - lo.toNat = 0 by omega]
    · rw [show (hi - lo).toNat = 0 by omega]
      exact Byt.nil
  · refine ⟨some ⟨b, off + lo.toNat, none⟩, c - lo.toNat, fun w => ?_, fun q W l hn hB => Byt.sub hB (by omega)⟩
    rw [run_slice_lh (P := Try.prog) w 27 (some ⟨b, off, none⟩) n c Try.underlying27 .i64 .i64 lo hi h0 h1 h2]
    have hz := hsz w
    show ((sizeOf 5).run Try.prog w).andThen _ = _
    rw [hz]
    simp only [Result.andThen, sliced]
    rw [if_neg hc, show hi.toNat - lo.toNat = (hi - lo).toNat by omega]
    simp [Addr.add]

/-- append onto an empty row of the call's own, with what is known of one box and one cell besides. -/
theorem step_appM {P : Program} (w : World) {p : Nat → Prop} {ops : Array Oper} {o : Oper} {a : Act} {K : Act → World → Prop} {Q : Exit → Act → World → Prop} {E : Prop} (hgd : o.guard = none) (s x : Operand) (t : TypeId)
    (ho : o.op = .call { callee := .builtin .append, args := #[s, x], argTypes := #[t, t] }) (e : TypeId)
    (ht : P.underlying t = some (.slice e)) (hi : (P.info? e).map (fun i => (i.zero, i.size, i.bytes)) = some (some (.int .u8 0), 1, 1))
    (base : Nat) (v : Value) (hs : a.eval s = v) (A : Option Addr) (m c : Nat) (hx : a.eval x = .slice A m c) (news : List Int)
    (gb : Nat) (T : TypeId) (cs : Array Value) (cb : Addr) (u : Value) (hmid : Hid (OwB w base e v [] ∧ Byt p w A m news ∧ m ≤ 100000000 ∧ base ≤ w.heap.size ∧ Bx w gb T cs ∧ some gb ≠ v.ownBlock ∧ w.cell? cb = some u ∧ cb.block < base))
    (h : ∀ A3 k3 w3, OwB w3 base e (.slice A3 m k3) news → Bx w3 gb T cs → w3.cell? cb = some u → Below base w w3 → K (a.put o.dst (.slice A3 m k3)) w3) :
    if Region.wanted o (yielded ops a.tmps) = true then Oper.wp P o a w K Q else E := by
  obtain ⟨hown, hr, hlen, hbase, hbx, hne, hcb, hcl⟩ := hmid.out
  refine step_appB w hgd s x t ho e ht hi base v [] hs hown A m c news hx hr (by simpa using hlen) hbase ?_
  intro v' w' ho' hg' _
  rw [List.nil_append] at ho'
  have hm : news.length = m := hr.len
  obtain ⟨A3, k3, hv⟩ := own_slice ho'
  subst hv
  rw [hm]
  refine h A3 k3 w' (by rw [hm] at ho'; exact ho') (hbx.grown hg' hne) ?_ ?_
  · exact (World.cell?_of_block (hg'.block cb.block (by omega) (own_ne hown (.inl hcl)))).trans hcb
  · exact (Below.refl _ _).grown hg' hbase (fun k hk => (hown.lt k hk).1)

theorem cell_far4 {w : World} {g b o : Nat} {x v0 v1 v2 v3 : Value} (hne : ¬ b = g) (h : w.cell? ⟨b, o, none⟩ = some x) :
    ((((w.setCell ⟨g, 0, none⟩ v0).setCell ⟨g, 1, none⟩ v1).setCell ⟨g, 2, none⟩ v2).setCell ⟨g, 3, none⟩ v3).cell? ⟨b, o, none⟩ = some x := by
  have e : ∀ (w : World) (a : Addr) (v : Value), a.block = g → (w.setCell a v).cell? ⟨b, o, none⟩ = w.cell? ⟨b, o, none⟩ := fun w a v ha => World.cell?_of_block (Below.heap_setCell w a v b (by rw [ha]; exact hne))
  rw [e _ _ _ rfl, e _ _ _ rfl, e _ _ _ rfl, e _ _ _ rfl]
  exact h

set_option maxRecDepth 100000 in
theorem sub_head (b off n c : Nat) (hi : Int) (h1 : 0 ≤ hi) (h2 : hi ≤ c) :
    ∀ w, (Instr.slice 27 (.slice (some ⟨b, off, none⟩) n c) none (some (.int .i64 hi)) none).run Try.prog w = .ok (.slice (some ⟨b, off, none⟩) hi.toNat c) w := by
  intro w
  have hsz : ∀ w, (sizeOf 5).run Try.prog w = .ok 1 w := fun _ => by kernel_rfl
  rw [run_slice_h (P := Try.prog) w 27 (some ⟨b, off, none⟩) n c Try.underlying27 .i64 hi h1 h2]
  have hz := hsz w
  show ((sizeOf 5).run Try.prog w).andThen _ = _
  rw [hz]
  simp only [Result.andThen, sliced]
  by_cases hc : c = 0
  · subst hc
    simp
  · rw [if_neg hc]
    simp [Addr.add]
theorem own_apart {w : World} {base gb : Nat} {e T : TypeId} {A : Option Addr} {n c : Nat} {l : List Int} {cs : Array Value} (h : OwB w base e (.slice A n c) l) (hb : Bx w gb T cs) (hne : e ≠ T) (hr : ∀ x ∈ l, 0 ≤ x ∧ x ≤ 255) : Byt (fun b => base ≤ b ∧ b ≠ gb) w A n l := by
  have h0 := h.byt (p := fun b => base ≤ b) (fun _ h => h) hr
  rcases h.2 with ⟨hv, hn⟩ | ⟨g, cap, cur, hv, hg, hh, _⟩
  · injection hv with hA hn2 _
    subst hA hn2
    have : l = [] := List.eq_nil_of_length_eq_zero hn
    subst this
    exact Byt.nil
  · injection hv with hA hn2 _
    subst hA
    have hgb : g ≠ gb := by
      rintro rfl
      unfold Bx at hb
      rw [hh] at hb
      injection hb with hb
      injection hb with _ ht
      exact hne ht
    refine ⟨h0.len, hr, fun hn => ?_⟩
    obtain ⟨b', o', hA, hp, _, hc⟩ := h0.addr hn
    injection hA with hA
    injection hA with h1 h2
    subst h1 h2
    exact ⟨g, 0, rfl, ⟨hg, hgb⟩, hc⟩
/-- The packet that the reference's Take has laid in a box of its own, before its timestamps are set. -/
def TkMid (w : World) (x3 : Int) (data : List Int) (s7 : Value) (wx : World) : Prop :=
  ∃ (g : Nat) (A : Option Addr) (n c : Nat), s7 = .pointer (some ⟨g, 0, none⟩) ∧ Bx wx g 29 #[.int .i64 x3, .int .i64 (-1), .int .i64 (-1), .slice A n c] ∧ Byt (fun b => w.heap.size < b ∧ b ≠ g) wx A n data ∧ w.heap.size < g ∧
    Bx wx w.heap.size 29 #[.int .i64 0, .int .i64 0, .int .i64 0, .slice none 0 0] ∧ Below w.heap.size w wx
theorem tk1 {w w3 X : World} {x3 : Int} {data : List Int} {A : Option Addr} {n c g : Nat} {v : Value} (hv : v = .pointer (some ⟨g, 0, none⟩)) (hg : g = w3.heap.size) (ho : OwB w3 (w.heap.size + 1) 5 (.slice A n c) data) (xb : Bx w3 w.heap.size 29 #[.int .i64 0, .int .i64 0, .int .i64 0, .slice none 0 0]) (hr : ∀ x ∈ data, 0 ≤ x ∧ x ≤ 255) (hbe : Below (w.heap.size + 1) X w3) (hX : Below w.heap.size w X) :
    TkMid w x3 data v (w3.alloc (.cells #[.int .i64 x3, .int .i64 (-1), .int .i64 (-1), .slice A n c] 29)) := by
  subst hg
  have B := hX.trans (hbe.mono (by omega))
  exact ⟨_, A, n, c, hv, Bx.new _ _ _, ((ho.byt (p := fun b => w.heap.size < b) (fun _ h => h) hr).mono (fun b h1 h2 => ⟨h2, by omega⟩)).alloc _, xb.lt, xb.alloc _, B.alloc B.size _⟩
theorem tk2 {w w3 X : World} {x3 : Int} {data : List Int} {A : Option Addr} {n c g : Nat} {v : Value} (hv : v = .pointer (some ⟨g, 0, none⟩)) (hg : w.heap.size < g) (ho : OwB w3 (w.heap.size + 1) 5 (.slice A n c) data) (xb : Bx w3 g 29 #[.int .i64 0, .int .i64 0, .int .i64 0, .slice none 0 0]) (hr : ∀ x ∈ data, 0 ≤ x ∧ x ≤ 255) (hbe : Below (w.heap.size + 1) X w3) (hX : Below w.heap.size w X) (hX1 : Bx X w.heap.size 29 #[.int .i64 0, .int .i64 0, .int .i64 0, .slice none 0 0]) :
    TkMid w x3 data v ((((w3.setCell ⟨g, 0, none⟩ (.int .i64 x3)).setCell ⟨g, 1, none⟩ (.int .i64 (-1))).setCell ⟨g, 2, none⟩ (.int .i64 (-1))).setCell ⟨g, 3, none⟩ (.slice A n c)) := by
  have B := hX.trans (hbe.mono (by omega))
  have D := (own_apart ho xb (by decide) hr).mono (q := fun b => w.heap.size < b ∧ b ≠ g) (fun b _ h => ⟨by omega, h.2⟩)
  refine ⟨g, A, n, c, hv, (((xb.set_ 0 _).set_ 1 _).set_ 2 _).set_ 3 _, (((D.setCell (by simp) _).setCell (by simp) _).setCell (by simp) _).setCell (by simp) _, hg, ?_, ?_⟩
  · exact ((((hX1.below hbe (by omega)).far (by dsimp only; omega) _).far (by dsimp only; omega) _).far (by dsimp only; omega) _).far (by dsimp only; omega) _
  · exact (((B.setCell (by dsimp only; omega) _).setCell (by dsimp only; omega) _).setCell (by dsimp only; omega) _).setCell (by dsimp only; omega) _

end Go.Proofs.Ytojfaonlgkicfaa
