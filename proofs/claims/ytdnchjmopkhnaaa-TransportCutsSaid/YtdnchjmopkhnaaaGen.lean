/- Words for bytes that several layers use. -/
import Derived.Test.YtdnchjmopkhnaaaSame
import Derived.Test.YtdnchjmopkhnaaaRowW
import Derived.Lib.Hide
import Derived.Laws.MakeOwn
import Derived.Laws.ShiftsVarLaws
import Derived.Lib.SliceRun
import Derived.Recover
namespace Go.Proofs.Ytdnchjmopkhnaaa
open Go.RowKit

theorem Try.infoB : (Try.prog.info? 5).map (fun i => (i.zero, i.size, i.bytes)) = some (some (.int .u8 0), 1, 1) := by kernel_rfl
/-- A slice of bytes that a call lays down written out. -/
theorem Byt.lit (w : World) (e : TypeId) (l : List Int) (hr : ∀ x ∈ l, 0 ≤ x ∧ x ≤ 255) {cs : Array Value} (hc : cs = (l.map (Value.int .u8)).toArray) :
    Byt (fun _ => True) (w.alloc (.cells cs e)) (some ⟨w.heap.size, 0, none⟩) l.length l := by
  subst hc
  exact Bk.byt (heap_alloc_new w _ : Bk _ e _ l) trivial hr
theorem u8_or_low (i : Nat) (a b : Int) (n : Int) (hn : n = ((2 ^ i : Nat) : Int)) (ha : 0 ≤ a) (hb : 0 ≤ b) (hbn : b < n) (h : a * n < 256) (hn2 : n ≤ 256) : bits .or .u8 (a * n) b = a * n + b := by
  obtain ⟨a, rfl⟩ := Int.eq_ofNat_of_zero_le ha
  obtain ⟨b, rfl⟩ := Int.eq_ofNat_of_zero_le hb
  subst hn
  have hm : ((a * 2 ^ i : Nat) : Int) < 256 := by rw [Int.natCast_mul]; exact h
  have hc : b < 2 ^ i := Int.ofNat_lt.1 hbn
  have he : a * 2 ^ i ||| b = a * 2 ^ i + b := by rw [Nat.mul_comm, ← Nat.two_pow_add_eq_or_of_lt hc]
  rw [← Int.natCast_mul, u8_or_nat _ _ (Int.ofNat_lt.1 hm) (by omega), he, Int.natCast_add]
theorem Bx.cells4 {w : World} {g : Nat} {t : TypeId} {a0 a1 a2 a3 : Value} (h : Bx w g t #[a0, a1, a2, a3]) :
    w.cell? ⟨g, 0, none⟩ = some a0 ∧ w.cell? ⟨g, 1, none⟩ = some a1 ∧ w.cell? ⟨g, 2, none⟩ = some a2 ∧ w.cell? ⟨g, 3, none⟩ = some a3 :=
  ⟨h.cell 0 rfl, h.cell 1 rfl, h.cell 2 rfl, h.cell 3 rfl⟩
theorem OwB.made (w : World) (base : Nat) (e : TypeId) (c : Nat) (hb : base ≤ w.heap.size) (hc : c ≤ 100000000) : OwB (w.alloc (zeroB e c)) base e (.slice (some ⟨w.heap.size, 0, none⟩) 0 c) [] :=
  World.ownsRow_made w _ c hb (by simp only [maxLen]; omega) (by simp)
theorem Byt.lit' (w : World) (e : TypeId) (l : List Int) (hr : ∀ x ∈ l, 0 ≤ x ∧ x ≤ 255) {cs : Array Value} (hc : cs = (l.map (Value.int .u8)).toArray) {g : Nat} (hg : g = w.heap.size) :
    Byt (fun _ => True) (w.alloc (.cells cs e)) (some ⟨g, 0, none⟩) l.length l := by
  subst hg
  exact Byt.lit w e l hr hc
theorem OwB.lit (w : World) (base : Nat) (e : TypeId) (l : List Int) (n : Nat) (hn : l.length = n) {cs : Array Value} (hc : cs = (l.map (Value.int .u8)).toArray) {g : Nat} (hg : g = w.heap.size) (hb : base ≤ g) (hm : n ≤ 100000000) :
    OwB (w.alloc (.cells cs e)) base e (.slice (some ⟨g, 0, none⟩) n n) l := by
  subst hc hg hn
  refine ⟨by simp, .inr ⟨w.heap.size, l.length, _, rfl, hb, heap_alloc_new w _, Nat.le_refl _, by simp only [maxLen]; omega, by simp, ?_⟩⟩
  simp only [Nat.mul_one]
  exact List.take_of_length_le (by simp)
theorem OwB.low {w : World} {base base' : Nat} {e : TypeId} {v : Value} {l : List Int} (h : OwB w base e v l) (hb : base' ≤ base) : OwB w base' e v l := by
  refine ⟨h.1, ?_⟩
  rcases h.2 with h | ⟨g, cap, cur, h1, h2, h3⟩
  · exact .inl h
  · exact .inr ⟨g, cap, cur, h1, by omega, h3⟩
theorem OwB.byt {w : World} {base : Nat} {e : TypeId} {A : Option Addr} {n c : Nat} {l : List Int} {p : Nat → Prop} (h : OwB w base e (.slice A n c) l) (hp : ∀ b, base ≤ b → p b) (hr : ∀ x ∈ l, 0 ≤ x ∧ x ≤ 255) : Byt p w A n l := by
  obtain ⟨A', c', hv, hB⟩ := h.ret hp hr
  injection hv with hA hn hc
  subst hA hn
  exact hB
theorem u64_and_mask (i : Nat) (x m : Int) (hm : m = ((2 ^ i : Nat) : Int) - 1) (hi : i ≤ 63) (h0 : 0 ≤ x) (h1 : x < 18446744073709551616) : bits .and .u64 x m = x % ((2 ^ i : Nat) : Int) := by
  have hp : 2 ^ i ≤ 2 ^ 63 := Nat.pow_le_pow_right (by decide) hi
  have hq : 0 < 2 ^ i := Nat.pos_of_ne_zero (by simp)
  rw [u64_and x m h0 h1 (by omega) (by omega), show m.toNat = 2 ^ i - 1 by omega, Nat.and_two_pow_sub_one_eq_mod, Int.natCast_emod, Int.toNat_of_nonneg h0]
theorem OwB.slice {w : World} {base : Nat} {e : TypeId} {v : Value} {l : List Int} (h : OwB w base e v l) : ∃ A c, v = .slice A l.length c ∧ l.length ≤ c := by
  rcases h.2 with ⟨rfl, hn⟩ | ⟨g, cap, cur, rfl, _, _, hnc, _⟩
  · exact ⟨none, 0, by rw [hn], by omega⟩
  · exact ⟨_, _, rfl, hnc⟩
def RetBc (w : World) (l : List Int) (e : Ending) (w' : World) : Prop :=
  ∃ A n c, e = .returned (.slice A n c) ∧ Byt (w.heap.size ≤ ·) w' A n l ∧ Below w.heap.size w w' ∧ n ≤ c
theorem RetBc.b {w : World} {l : List Int} {e : Ending} {w' : World} (h : RetBc w l e w') : RetB w l e w' := by
  obtain ⟨A, n, c, h1, h2, h3, _⟩ := h
  exact ⟨A, n, c, h1, h2, h3⟩
set_option maxRecDepth 100000 in
set_option maxHeartbeats 1000000 in
theorem bytes_CloneC {p : Nat → Prop} (A : Option Addr) (n c : Nat) (l : List Int) (w : World) (h : Byt p w A n l) (hn : n ≤ 1000000) :
    Calls Try.prog 35 #[.slice A n c] w (RetBc w l) := by
  rcases A with _ | a
  · have : n = 0 := by
      rcases Nat.eq_zero_or_pos n with h0 | h0
      · exact h0
      · obtain ⟨b, off, hA, _⟩ := h.addr h0
        cases hA
    subst this
    have : l = [] := List.eq_nil_of_length_eq_zero h.len
    subst this
    have hnil := fun w => Lib.run_eql_slice_nil (P := Try.prog) w 22 5 none 0 c 0 0 Try.underlying22
    simp only [Option.isNone_none] at hnil
    go_enter Try.func35, Try.ntmps35
    go_wp2_with fail
    go_ret
    exact ⟨_, _, _, rfl, Byt.nil, Below.refl _ _, Nat.le_refl _⟩
  · have hnil := fun w => Lib.run_eql_slice_nil (P := Try.prog) w 22 5 (some a) n c 0 0 Try.underlying22
    simp only [Option.isNone_some] at hnil
    go_enter Try.func35, Try.ntmps35
    go_wp2_with (first | (at_builtin; go_must (refine wpList_appB _ rfl (.tmp 5) (.tmp 6) 22 rfl 5 Try.underlying22 Try.infoB w.heap.size _ [] rfl (OwB.lit w w.heap.size 5 [] 0 rfl rfl rfl (Nat.le_refl _) (by omega)) (some a) n c l rfl (h.alloc _) (by simp; omega) (by simp) ?_; intro v3 w3 ho3 hg3 hat3)))
    obtain ⟨A3, c3, rfl, hk3⟩ := ho3.slice
    have hB3 := OwB.byt (p := (w.heap.size ≤ ·)) ho3 (fun b hb => hb) (by simpa using h.rng)
    go_wp2_with fail
    go_ret
    refine ⟨_, _, _, rfl, by simpa using hB3, ((Below.refl _ _).alloc (Nat.le_refl _) _).grown hg3 (by simp) (fun k hk => ((OwB.lit w w.heap.size 5 [] 0 rfl rfl rfl (Nat.le_refl _) (by omega)).lt k hk).1), by simpa using hk3⟩
theorem bytes_Clone {p : Nat → Prop} (A : Option Addr) (n c : Nat) (l : List Int) (w : World) (h : Byt p w A n l) (hn : n ≤ 1000000) :
    Calls Try.prog 35 #[.slice A n c] w (RetB w l) := (bytes_CloneC A n c l w h hn).mono fun _ _ h => h.b
theorem i64_or_low (i : Nat) (a b : Int) (n : Int) (hn : n = ((2 ^ i : Nat) : Int)) (ha : 0 ≤ a) (hb : 0 ≤ b) (hbn : b < n) (h : a * n + n ≤ 9223372036854775808) : bits .or .i64 (a * n) b = a * n + b := by
  obtain ⟨a, rfl⟩ := Int.eq_ofNat_of_zero_le ha
  obtain ⟨b, rfl⟩ := Int.eq_ofNat_of_zero_le hb
  subst hn
  have hc : b < 2 ^ i := Int.ofNat_lt.1 hbn
  have he : a * 2 ^ i ||| b = a * 2 ^ i + b := by rw [Nat.mul_comm, ← Nat.two_pow_add_eq_or_of_lt hc]
  have hm : ((a * 2 ^ i : Nat) : Int) + ((2 ^ i : Nat) : Int) ≤ 9223372036854775808 := by rw [Int.natCast_mul]; exact h
  have h1 : a * 2 ^ i + b < 9223372036854775808 := by omega
  show IntKind.i64.wrap ((BitVec.ofInt 64 (((a : Nat) : Int) * ((2 ^ i : Nat) : Int)) ||| BitVec.ofInt 64 ((b : Nat) : Int)).toNat : Int) = _
  rw [← Int.natCast_mul, BitVec.toNat_or, ofInt_u64 _ (by omega), ofInt_u64 _ (by omega), he, IntWalk.i64_in _ (by omega)]
  omega
theorem Bx.drewN {w : World} {g : Nat} {t : TypeId} {cs : Array Value} (h : Bx w g t cs) (k : Nat) : Bx (w.drewN k) g t cs := h
theorem bdrewN {B : Nat} {w W : World} (h : Below B w W) (k : Nat) : Below B w (W.drewN k) := ⟨h.os, h.tape, h.output, h.size, h.block⟩
theorem bset {B : Nat} {w W : World} (h : Below B w W) (a : Addr) (ha : B ≤ a.block) (v : Value) : Below B w (W.setCell a v) := h.setCell ha v
theorem Byt.cast {p : Nat → Prop} {w : World} {A A2 : Option Addr} {n n2 : Nat} {l : List Int} (h : Byt p w A n l) (hA : A2 = A) (hn : n2 = n) : Byt p w A2 n2 l := by subst hA hn; exact h
theorem Byt.sub {p : Nat → Prop} {w : World} {b o k n m : Nat} {l : List Int} (h : Byt p w (some ⟨b, o, none⟩) n l) (hn : k + m ≤ n) : Byt p w (some ⟨b, o + k, none⟩) m ((l.drop k).take m) := by
  refine ⟨by rw [List.length_take, List.length_drop, h.len]; omega, fun x hx => h.rng x (List.mem_of_mem_drop (List.mem_of_mem_take hx)), fun hm => ⟨b, o + k, rfl, ?_, fun j x hx => ?_⟩⟩
  · obtain ⟨b', off, hA, hp, _⟩ := h.addr (by omega)
    injection hA with hA
    injection hA with hA
    subst hA
    exact hp
  · obtain ⟨b', off, hA, hp, _, hc⟩ := h.addr (by omega)
    injection hA with hA
    injection hA with hA1 hA2
    subst hA1 hA2
    have hj : j < m := by
      have := (List.getElem?_eq_some_iff.1 hx).1
      rw [List.length_take] at this
      omega
    rw [List.getElem?_take, if_pos hj, List.getElem?_drop] at hx
    have := hc (k + j) x hx
    rwa [show o + (k + j) = o + k + j by omega] at this
set_option maxRecDepth 100000 in
theorem sub_any (b off n c : Nat) (lo hi : Int) (h0 : 0 ≤ lo) (h1 : lo ≤ hi) (h2 : hi ≤ c) :
    ∃ A' c', (∀ w, (Instr.slice 22 (.slice (some ⟨b, off, none⟩) n c) (some (.int .i64 lo)) (some (.int .i64 hi)) none).run Try.prog w = .ok (.slice A' (hi - lo).toNat c') w) ∧
      ∀ (q : Nat → Prop) (W : World) (l : List Int), hi ≤ n → Byt q W (some ⟨b, off, none⟩) n l → Byt q W A' (hi - lo).toNat ((l.drop lo.toNat).take (hi - lo).toNat) := by
  have hsz : ∀ w, (sizeOf 5).run Try.prog w = .ok 1 w := fun _ => by kernel_rfl
  by_cases hc : c = lo.toNat
  · refine ⟨some ⟨b, off, none⟩, 0, fun w => ?_, fun q W l hn hB => ?_⟩
    · rw [run_slice_lh (P := Try.prog) w 22 (some ⟨b, off, none⟩) n c Try.underlying22 .i64 .i64 lo hi h0 h1 h2]
      have hz := hsz w
      show ((sizeOf 5).run Try.prog w).andThen _ = _
      rw [hz]
      simp only [Result.andThen, sliced]
      rw [if_pos hc, show hi.toNat - lo.toNat = (hi - lo).toNat by omega, show c - lo.toNat = 0 by omega]
    · rw [show (hi - lo).toNat = 0 by omega]
      exact Byt.nil
  · refine ⟨some ⟨b, off + lo.toNat, none⟩, c - lo.toNat, fun w => ?_, fun q W l hn hB => Byt.sub hB (by omega)⟩
    rw [run_slice_lh (P := Try.prog) w 22 (some ⟨b, off, none⟩) n c Try.underlying22 .i64 .i64 lo hi h0 h1 h2]
    have hz := hsz w
    show ((sizeOf 5).run Try.prog w).andThen _ = _
    rw [hz]
    simp only [Result.andThen, sliced]
    rw [if_neg hc, show hi.toNat - lo.toNat = (hi - lo).toNat by omega]
    simp [Addr.add]
/-- append onto an empty row of the call's own, with what is known of one box and one cell besides. -/
theorem step_appM {P : Program} (w : World) {p : Nat → Prop} {ops : Array Oper} {o : Oper} {a : Act} {K : Act → World → Prop} {Q : Exit → Act → World → Prop} {E : Prop} (hgd : o.guard = none) (s x : Operand) (t : TypeId)
    (ho : o.op = .call { callee := .builtin .append, args := #[s, x], argTypes := #[t, t] }) (e : TypeId)
    (ht : P.underlying t = some (.slice e)) (hi : (P.info? e).map (fun i => (i.zero, i.size, i.bytes)) = some (some (.int .u8 0), 1, 1))
    (base : Nat) (v : Value) (hs : a.eval s = v) (A : Option Addr) (m c : Nat) (hx : a.eval x = .slice A m c) (news : List Int)
    (gb : Nat) (T : TypeId) (cs : Array Value) (cb : Addr) (u : Value) (hmid : Hid (OwB w base e v [] ∧ Byt p w A m news ∧ m ≤ 100000000 ∧ base ≤ w.heap.size ∧ Bx w gb T cs ∧ some gb ≠ v.ownBlock ∧ w.cell? cb = some u ∧ cb.block < base))
    (h : ∀ A3 k3 w3, OwB w3 base e (.slice A3 m k3) news → Bx w3 gb T cs → w3.cell? cb = some u → Below base w w3 → K (a.put o.dst (.slice A3 m k3)) w3) :
    if Region.wanted o (yielded ops a.tmps) = true then Oper.wp P o a w K Q else E := by
  obtain ⟨hown, hr, hlen, hbase, hbx, hne, hcb, hcl⟩ := hmid.out
  refine step_appB w hgd s x t ho e ht hi base v [] hs hown A m c news hx hr (by simpa using hlen) hbase ?_
  intro v' w' ho' hg' _
  rw [List.nil_append] at ho'
  have hm : news.length = m := hr.len
  obtain ⟨A3, k3, hv⟩ := own_slice ho'
  subst hv
  rw [hm]
  refine h A3 k3 w' (by rw [hm] at ho'; exact ho') (hbx.grown hg' hne) ?_ ?_
  · exact (World.cell?_of_block (hg'.block cb.block (by omega) (own_ne hown (.inl hcl)))).trans hcb
  · exact (Below.refl _ _).grown hg' hbase (fun k hk => (hown.lt k hk).1)
theorem cell_far4 {w : World} {g b o : Nat} {x v0 v1 v2 v3 : Value} (hne : ¬ b = g) (h : w.cell? ⟨b, o, none⟩ = some x) :
    ((((w.setCell ⟨g, 0, none⟩ v0).setCell ⟨g, 1, none⟩ v1).setCell ⟨g, 2, none⟩ v2).setCell ⟨g, 3, none⟩ v3).cell? ⟨b, o, none⟩ = some x := by
  have e : ∀ (w : World) (a : Addr) (v : Value), a.block = g → (w.setCell a v).cell? ⟨b, o, none⟩ = w.cell? ⟨b, o, none⟩ := fun w a v ha => World.cell?_of_block (Below.heap_setCell w a v b (by rw [ha]; exact hne))
  rw [e _ _ _ rfl, e _ _ _ rfl, e _ _ _ rfl, e _ _ _ rfl]
  exact h
set_option maxRecDepth 100000 in
theorem sub_head (b off n c : Nat) (hi : Int) (h1 : 0 ≤ hi) (h2 : hi ≤ c) :
    ∀ w, (Instr.slice 22 (.slice (some ⟨b, off, none⟩) n c) none (some (.int .i64 hi)) none).run Try.prog w = .ok (.slice (some ⟨b, off, none⟩) hi.toNat c) w := by
  intro w
  have hsz : ∀ w, (sizeOf 5).run Try.prog w = .ok 1 w := fun _ => by kernel_rfl
  rw [run_slice_h (P := Try.prog) w 22 (some ⟨b, off, none⟩) n c Try.underlying22 .i64 hi h1 h2]
  have hz := hsz w
  show ((sizeOf 5).run Try.prog w).andThen _ = _
  rw [hz]
  simp only [Result.andThen, sliced]
  by_cases hc : c = 0
  · subst hc
    simp
  · rw [if_neg hc]
    simp [Addr.add]
theorem own_apart {w : World} {base gb : Nat} {e T : TypeId} {A : Option Addr} {n c : Nat} {l : List Int} {cs : Array Value} (h : OwB w base e (.slice A n c) l) (hb : Bx w gb T cs) (hne : e ≠ T) (hr : ∀ x ∈ l, 0 ≤ x ∧ x ≤ 255) : Byt (fun b => base ≤ b ∧ b ≠ gb) w A n l := by
  have h0 := h.byt (p := fun b => base ≤ b) (fun _ h => h) hr
  rcases h.2 with ⟨hv, hn⟩ | ⟨g, cap, cur, hv, hg, hh, _⟩
  · injection hv with hA hn2 _
    subst hA hn2
    have : l = [] := List.eq_nil_of_length_eq_zero hn
    subst this
    exact Byt.nil
  · injection hv with hA hn2 _
    subst hA
    have hgb : g ≠ gb := by
      rintro rfl
      unfold Bx at hb
      rw [hh] at hb
      injection hb with hb
      injection hb with _ ht
      exact hne ht
    refine ⟨h0.len, hr, fun hn => ?_⟩
    obtain ⟨b', o', hA, hp, _, hc⟩ := h0.addr hn
    injection hA with hA
    injection hA with h1 h2
    subst h1 h2
    exact ⟨g, 0, rfl, ⟨hg, hgb⟩, hc⟩
theorem Byt.cellsAt {q : Nat → Prop} {W : World} {b off n : Nat} {l : List Int} (h : Byt q W (some ⟨b, off, none⟩) n l) (hn : 0 < n) : b < W.heap.size ∧ ∀ j x, l[j]? = some x → W.cell? ⟨b, off + j, none⟩ = some (.int .u8 x) := by
  obtain ⟨b', o', hA, _, hb, hc⟩ := h.addr hn
  injection hA with hA
  injection hA with h1 h2
  subst h1 h2
  exact ⟨hb, hc⟩
theorem take_split {α : Type} (a b : List α) (k m : Nat) (hk : a.length = k) : (a ++ b).take (k + m) = a ++ b.take m := by
  subst hk
  rw [List.take_append, List.take_of_length_le (by omega)]
  simp
theorem drop_split {α : Type} (a b : List α) (k : Nat) (hk : a.length = k) : (a ++ b).drop k = b := by
  subst hk
  simp
theorem drop_take_left {α : Type} (a b c : List α) (k m : Nat) (hk : a.length = k) (hm : b.length = m) : ((a ++ b ++ c).drop k).take m = b := by
  subst hk hm
  simp

end Go.Proofs.Ytdnchjmopkhnaaa
