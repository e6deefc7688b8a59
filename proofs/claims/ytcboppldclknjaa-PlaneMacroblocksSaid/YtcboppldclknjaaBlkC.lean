/- Block where its arguments do not fit. -/
import Derived.Test.YtcboppldclknjaaBlkB
import Derived.Test.YtcboppldclknjaaBn
import Derived.Test.YtcboppldclknjaaInfo
import Derived.BigFrame
namespace Go.Proofs.Ytcboppldclknjaa
open Go.RowKit

def zeros64 : List Int := List.replicate 64 0
theorem Try.alloc64 (w : World) : (Instr.alloc 41 true (.tuple #[])).run Try.prog w = .ok (.pointer (some ⟨w.heap.size, 0, none⟩)) (w.alloc (.cells (rowN .i64 zeros64) 41)) := by kernel_rfl
theorem Try.build64 (w : World) : (Instr.build 41 #[]).run Try.prog w = .ok (.agg (rowN .i64 zeros64)) w := by kernel_rfl
theorem Try.info64 : (Try.prog.info? 41).map (·.size) = some 64 := by kernel_rfl
theorem Try.load64 {w : World} {e : TypeId} {g : Nat} {l : List Int} (h : Bn .i64 w e g l) (hl : l.length = 64) : (loadVar 41 ⟨g, 0, none⟩).run Try.prog w = .ok (.agg (rowN .i64 l)) w :=
  h.load Try.underlying41 rfl (by rw [hl]; exact Try.info64)
theorem Try.store64 {w : World} {e : TypeId} {g : Nat} {l m : List Int} (h : Bn .i64 w e g l) (hl : l.length = 64) (hm : m.length = 64) : (storeVar 41 ⟨g, 0, none⟩ (.agg (rowN .i64 m))).run Try.prog w = .ok () (w.setRow g (rowN .i64 m)) :=
  run_storeVar_row w g e 41 _ _ h (by rw [rowN_size, hm]; exact Try.info64) (by rw [rowN_size, rowN_size, hl, hm]) (rowN_one _ _)
theorem wpList_st64 {ops : Array Oper} {rest : List Oper} {o : Oper} {a : Act} {w : World} {Q : Exit → Act → World → Prop} (hgd : o.guard = none) (x y : Operand) (ho : o.op = .store 41 x y)
    (g : Nat) (m : List Int) (hx : a.eval x = .pointer (some ⟨g, 0, none⟩)) (hy : a.eval y = .agg (rowN .i64 m)) {e : TypeId} {l : List Int} (h : Bn .i64 w e g l) (hl : l.length = 64) (hm : m.length = 64)
    (hk : wpList Try.prog ops Q rest (a.put o.dst undef) (w.setRow g (rowN .i64 m))) : wpList Try.prog ops Q (o :: rest) a w :=
  wpList_store_row hgd 41 x y ho g _ hx hy e _ h (by rw [rowN_size, hm]; exact Try.info64) (by rw [rowN_size, rowN_size, hl, hm]) (rowN_one _ _) hk
theorem wpList_ld64 {ops : Array Oper} {rest : List Oper} {o : Oper} {a : Act} {w : World} {Q : Exit → Act → World → Prop} (hgd : o.guard = none) (x : Operand) (ho : o.op = .load 41 x)
    (g : Nat) (hx : a.eval x = .pointer (some ⟨g, 0, none⟩)) {e : TypeId} {l : List Int} (h : Bn .i64 w e g l) (hl : l.length = 64)
    (hk : wpList Try.prog ops Q rest (a.put o.dst (.agg (rowN .i64 l))) w) : wpList Try.prog ops Q (o :: rest) a w :=
  wpList_load_row hgd 41 x ho g hx e _ (0, 0) _ h Try.underlying41 rfl (by rw [rowN_size, hl]; exact Try.info64) hk
theorem wpList_ld64g {ops : Array Oper} {rest : List Oper} {o : Oper} {a : Act} {w : World} {Q : Exit → Act → World → Prop} (hw : Region.wanted o (yielded ops a.tmps) = true) (x : Operand) (ho : o.op = .load 41 x)
    (g : Nat) (hx : a.eval x = .pointer (some ⟨g, 0, none⟩)) {e : TypeId} {l : List Int} (h : Bn .i64 w e g l) (hl : l.length = 64)
    (hk : wpList Try.prog ops Q rest (a.put o.dst (.agg (rowN .i64 l))) w) : wpList Try.prog ops Q (o :: rest) a w :=
  Go.BigFrame.wpList_want hw fun _ hK => wp_load_row 41 x ho g hx e _ (0, 0) _ h Try.underlying41 rfl (by rw [rowN_size, hl]; exact Try.info64) (hK _ _ hk)
/-- A whole array is stored into a variable that was just made. -/
theorem wpList_st64new {ops : Array Oper} {rest : List Oper} {o : Oper} {a : Act} {w : World} {Q : Exit → Act → World → Prop} {old : Array Value} {t : TypeId} (hgd : o.guard = none) (x y : Operand) (ho : o.op = .store 41 x y)
    (m : List Int) (hx : a.eval x = .pointer (some ⟨w.heap.size, 0, none⟩)) (hy : a.eval y = .agg (rowN .i64 m)) (hold : old.size = 64) (hm : m.length = 64)
    (hk : ∀ w', Bn .i64 w' t w.heap.size m → Below w.heap.size w w' → wpList Try.prog ops Q rest (a.put o.dst undef) w') : wpList Try.prog ops Q (o :: rest) a (w.alloc (.cells old t)) := by
  refine wpList_store_row hgd 41 x y ho w.heap.size _ hx hy t _ (heap_alloc_new w _) (by rw [rowN_size, hm]; exact Try.info64) (by rw [rowN_size, hold, hm]) (rowN_one _ _) (hk _ ?_ ?_)
  · exact setRow_heap _ _ _ _ t (0, 0) (heap_alloc_new w _)
  · exact below_row ((Below.refl _ w).alloc (Nat.le_refl _) _) (Nat.le_refl _)
attribute [local go_sem ↓] Try.alloc64 Try.build64
def RetA (w : World) (r : List Int × Int) (e : Ending) (w' : World) : Prop := e = .returned (.tuple #[.agg (rowN .i64 r.1), .int .i64 r.2]) ∧ Below w.heap.size w w'
def blockOk (f : Fr) (mx my n : Int) : Prop := hasB f mx my = true ∧ 0 ≤ n ∧ n ≤ 5
instance (f : Fr) (mx my n : Int) : Decidable (blockOk f mx my n) := by unfold blockOk; infer_instance

set_option maxRecDepth 4000 in
set_option maxHeartbeats 2000000 in
theorem plane_Block_no {p : Nat → Prop} (v : Value) (f : Fr) (mx my n : Int) (fd : Bool) (w : World) (hf : IsFr p w v f) (hno : ¬ blockOk f mx my n) :
    Calls Try.prog 30 #[v, .int .i64 mx, .int .i64 my, .int .i64 n, .bool fd] w (RetA w (zeros64, 1)) := by
  have hf0 := hf
  obtain ⟨ya, yn, yc, ua, un, uc, va, vn, vc, rfl, hy, hu, hv⟩ := hf
  clear hy hu hv
  have hno' : hasB f mx my = true → n < 0 ∨ 5 < n := by
    intro h
    rcases Int.lt_or_le n 0 with h1 | h1
    · exact .inl h1
    · rcases Int.lt_or_le 5 n with h2 | h2
      · exact .inr h2
      · exact absurd ⟨h, h1, h2⟩ hno
  clear hno
  by_cases h1 : hasB f mx my = true
  · rcases hno' h1 with h2 | h2
    all_goals
      go_enter Try.func30, Try.ntmps30
      go_wp2_with fail
      refine (plane_has (p := p) _ f _ _ _ (by (repeat with_reducible apply IsFr.alloc); exact hf0)).mono ?_
      rintro e w1 ⟨rfl, hb1⟩
      have B1 : Below w.heap.size w w1 := (((Below.refl _ w).alloc (by simp) _).alloc (by simp) _).trans (hb1.mono (by simp; omega))
      have k1 : Bn .i64 w1 41 (w.heap.size + 1) zeros64 := (Bn.new' _ _ _ _ _ (by simp)).ext hb1
      have hls := k1.lt
      clear hb1
      go_wp2_with (refine wpList_st64 rfl (.tmp 10) (.tmp 28) rfl (w.heap.size + 1) zeros64 rfl rfl k1 rfl rfl ?_)
      all_goals
        have hld := Try.load64 (k1.row zeros64) rfl
        exact bodyPost_ret (v := .tuple #[.agg (rowN .i64 zeros64), .int .i64 1]) (results_row_tmp Try.results30 _ _ (w.heap.size + 1) _ _ rfl rfl hld) rfl ⟨rfl, below_row B1 (by omega)⟩
  · have h1' : hasB f mx my = false := by simpa using h1
    go_enter Try.func30, Try.ntmps30
    go_wp2_with fail
    refine (plane_has (p := p) _ f _ _ _ (by (repeat with_reducible apply IsFr.alloc); exact hf0)).mono ?_
    rintro e w1 ⟨rfl, hb1⟩
    have B1 : Below w.heap.size w w1 := (((Below.refl _ w).alloc (by simp) _).alloc (by simp) _).trans (hb1.mono (by simp; omega))
    have k1 : Bn .i64 w1 41 (w.heap.size + 1) zeros64 := (Bn.new' _ _ _ _ _ (by simp)).ext hb1
    have hls := k1.lt
    clear hb1
    go_wp2_with (refine wpList_st64 rfl (.tmp 10) (.tmp 28) rfl (w.heap.size + 1) zeros64 rfl rfl k1 rfl rfl ?_)
    all_goals
      have hld := Try.load64 (k1.row zeros64) rfl
      exact bodyPost_ret (v := .tuple #[.agg (rowN .i64 zeros64), .int .i64 1]) (results_row_tmp Try.results30 _ _ (w.heap.size + 1) _ _ rfl rfl hld) rfl ⟨rfl, below_row B1 (by omega)⟩
set_option maxRecDepth 4000 in
set_option maxHeartbeats 2000000 in
theorem ref_Block_no {p : Nat → Prop} (v : Value) (f : Fr) (mx my n : Int) (fd : Bool) (w : World) (hf : IsFr p w v f) (hno : ¬ blockOk f mx my n) :
    Calls Try.prog 31 #[v, .int .i64 mx, .int .i64 my, .int .i64 n, .bool fd] w (RetA w (zeros64, 1)) := by
  have hf0 := hf
  obtain ⟨ya, yn, yc, ua, un, uc, va, vn, vc, rfl, hy, hu, hv⟩ := hf
  clear hy hu hv
  have hno' : hasB f mx my = true → n < 0 ∨ 5 < n := by
    intro h
    rcases Int.lt_or_le n 0 with h1 | h1
    · exact .inl h1
    · rcases Int.lt_or_le 5 n with h2 | h2
      · exact .inr h2
      · exact absurd ⟨h, h1, h2⟩ hno
  clear hno
  by_cases h1 : hasB f mx my = true
  · rcases hno' h1 with h2 | h2
    all_goals
      go_enter Try.func31, Try.ntmps31
      go_wp2_with fail
      refine (ref_Has (p := p) _ f _ _ _ (by (repeat with_reducible apply IsFr.alloc); exact hf0)).mono ?_
      rintro e w1 ⟨rfl, hb1⟩
      have B1 : Below w.heap.size w w1 := (((Below.refl _ w).alloc (by simp) _).alloc (by simp) _).trans (hb1.mono (by simp; omega))
      have k1 : Bn .i64 w1 41 (w.heap.size + 1) zeros64 := (Bn.new' _ _ _ _ _ (by simp)).ext hb1
      have hls := k1.lt
      clear hb1
      go_wp2_with (refine wpList_st64 rfl (.tmp 10) (.tmp 27) rfl (w.heap.size + 1) zeros64 rfl rfl k1 rfl rfl ?_)
      all_goals
        have hld := Try.load64 (k1.row zeros64) rfl
        exact bodyPost_ret (v := .tuple #[.agg (rowN .i64 zeros64), .int .i64 1]) (results_row_tmp Try.results31 _ _ (w.heap.size + 1) _ _ rfl rfl hld) rfl ⟨rfl, below_row B1 (by omega)⟩
  · have h1' : hasB f mx my = false := by simpa using h1
    go_enter Try.func31, Try.ntmps31
    go_wp2_with fail
    refine (ref_Has (p := p) _ f _ _ _ (by (repeat with_reducible apply IsFr.alloc); exact hf0)).mono ?_
    rintro e w1 ⟨rfl, hb1⟩
    have B1 : Below w.heap.size w w1 := (((Below.refl _ w).alloc (by simp) _).alloc (by simp) _).trans (hb1.mono (by simp; omega))
    have k1 : Bn .i64 w1 41 (w.heap.size + 1) zeros64 := (Bn.new' _ _ _ _ _ (by simp)).ext hb1
    have hls := k1.lt
    clear hb1
    go_wp2_with (refine wpList_st64 rfl (.tmp 10) (.tmp 27) rfl (w.heap.size + 1) zeros64 rfl rfl k1 rfl rfl ?_)
    all_goals
      have hld := Try.load64 (k1.row zeros64) rfl
      exact bodyPost_ret (v := .tuple #[.agg (rowN .i64 zeros64), .int .i64 1]) (results_row_tmp Try.results31 _ _ (w.heap.size + 1) _ _ rfl rfl hld) rfl ⟨rfl, below_row B1 (by omega)⟩
end Go.Proofs.Ytcboppldclknjaa
