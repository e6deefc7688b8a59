/- Arrays of 188 bytes by value; copy of bytes into a block of any type that is known whole. -/
import Derived.Test.YtdnchjmopkhnaaaTrA
import Derived.Test.YtdnchjmopkhnaaaBn
import Derived.Laws.CopyOwn
namespace Go.Proofs.Ytdnchjmopkhnaaa
open Go.RowKit

/-- The list l with m laid over it from place o on. -/
def spl (l : List Int) (o : Nat) (m : List Int) : List Int := l.take o ++ m ++ l.drop (o + m.length)
theorem spl_len {l : List Int} {o : Nat} {m : List Int} (h : o + m.length ≤ l.length) : (spl l o m).length = l.length := by
  simp [spl]; omega
theorem spl_at {l : List Int} {o : Nat} {m : List Int} (h : o + m.length ≤ l.length) (j : Nat) :
    (spl l o m)[j]? = if j < o then l[j]? else if j < o + m.length then m[j - o]? else l[j]? := by
  unfold spl
  by_cases h1 : j < o
  · rw [if_pos h1, List.append_assoc, List.getElem?_append_left (by simp; omega), List.getElem?_take, if_pos h1]
  · rw [if_neg h1, List.append_assoc, List.getElem?_append_right (by simp; omega)]
    have e : (List.take o l).length = o := by simp; omega
    rw [e]
    by_cases h2 : j < o + m.length
    · rw [if_pos h2, List.getElem?_append_left (by omega)]
    · rw [if_neg h2, List.getElem?_append_right (by omega), List.getElem?_drop]
      congr 1
      omega
theorem spl_rng {l : List Int} {o : Nat} {m : List Int} (hl : ∀ x ∈ l, 0 ≤ x ∧ x ≤ 255) (hm : ∀ x ∈ m, 0 ≤ x ∧ x ≤ 255) : ∀ x ∈ spl l o m, 0 ≤ x ∧ x ≤ 255 := by
  intro x hx
  simp only [spl, List.mem_append] at hx
  rcases hx with (hx | hx) | hx
  · exact hl x (List.mem_of_mem_take hx)
  · exact hm x hx
  · exact hl x (List.mem_of_mem_drop hx)
theorem spl_nil {l : List Int} {o : Nat} : spl l o [] = l := by simp [spl]

section
variable {P : Program} (w : World)
theorem run_copyB {p : Nat → Prop} (t ty e T : TypeId) (ht : P.underlying t = some (.slice e)) (hi : (P.info? e).map (fun i => (i.zero, i.size, i.bytes)) = some (some (.int .u8 0), 1, 1))
    (D : Option Addr) (dn dc : Nat) (A : Option Addr) (sn sc : Nat) (g off : Nat) (l : List Int) (hB : Bk w T g l) (news : List Int) (hr : Byt p w A sn news)
    (hD : 0 < dn → D = some ⟨g, off, none⟩) (hfit : off + dn ≤ l.length) :
    ∃ w', (Builtin.copy_ #[t, t] ty #[.slice D dn dc, .slice A sn sc]).run P w = .ok (.int .i64 ((min sn dn : Nat) : Int)) w' ∧ Bk w' T g (spl l off (news.take dn)) ∧ w.grownBy w' (some g) := by
  obtain ⟨i, hi', hz, hs, hb⟩ := info_parts hi
  have hsz : (P.info? e).map (·.size) = some 1 := by rw [hi']; simp [hs]
  by_cases h0 : Nat.min sn dn = 0
  · have hrun := run_copy_none (P := P) w t t ty e D A dn dc sn sc ht hsz h0
    refine ⟨w, ?_, ?_, World.grownBy.refl w _⟩
    · rw [hrun]
      have : min sn dn = 0 := h0
      rw [this]
      rfl
    · have : news.take dn = [] := by
        apply List.eq_nil_of_length_eq_zero
        have h0' : min sn dn = 0 := h0
        rw [List.length_take, hr.1]
        omega
      rw [this, spl_nil]
      exact hB
  · have h0' : ¬ min sn dn = 0 := h0
    obtain rfl := hD (by omega)
    obtain ⟨b, o, rfl, _, _, hc⟩ := hr.addr (by omega)
    have hlen : (news.take dn).length = min sn dn := by rw [List.length_take, hr.1]; omega
    have hsrc : ∀ j v, ((news.take dn).map (Value.int .u8))[j]? = some v → w.cell? ((⟨b, o, none⟩ : Addr).add j) = some v := by
      intro j v hv
      rw [List.getElem?_map] at hv
      rcases hx : (news.take dn)[j]? with _ | x <;> simp [hx] at hv
      subst hv
      have hadd : (⟨b, o, none⟩ : Addr).add j = ⟨b, o + j, none⟩ := by unfold Addr.add; split <;> simp_all
      rw [hadd]
      rw [List.getElem?_take] at hx
      split at hx
      · exact hc j x hx
      · cases hx
    have hrun := run_copy_row (P := P) w t t ty e g off dn dc ⟨b, o, none⟩ sn sc (l.map (Value.int .u8)).toArray T ((news.take dn).map (Value.int .u8)) ht hsz hB (by rw [List.length_map, hlen]) hsrc (by simp; omega)
      (by intro u hu; obtain ⟨x, _, rfl⟩ := List.mem_map.1 hu; rfl)
    refine ⟨w.setRow g ((l.map (Value.int .u8)).toArray.toList.take off ++ (news.take dn).map (Value.int .u8) ++ (l.map (Value.int .u8)).toArray.toList.drop (off + ((news.take dn).map (Value.int .u8)).length)).toArray, ?_, ?_, ?_⟩
    · rw [hrun, List.length_map, hlen]
      rfl
    · have := setRow_heap w g _ ((l.map (Value.int .u8)).toArray.toList.take off ++ (news.take dn).map (Value.int .u8) ++ (l.map (Value.int .u8)).toArray.toList.drop (off + ((news.take dn).map (Value.int .u8)).length)).toArray T _ hB
      unfold Bk
      rw [this]
      simp [spl]
    · exact ⟨rfl, rfl, rfl, by simp, fun k _ hk => setRow_other w g k _ (fun e => hk (by rw [e]))⟩

theorem wp_copyB {p : Nat → Prop} {o : Oper} {a : Act} {K : Act → World → Prop} {Q : Exit → Act → World → Prop} (d s : Operand) (t : TypeId)
    (ho : o.op = .call { callee := .builtin .copy, args := #[d, s], argTypes := #[t, t] }) (e T : TypeId) (ht : P.underlying t = some (.slice e)) (hi : (P.info? e).map (fun i => (i.zero, i.size, i.bytes)) = some (some (.int .u8 0), 1, 1))
    (D : Option Addr) (dn dc : Nat) (A : Option Addr) (sn sc : Nat) (hd : a.eval d = .slice D dn dc) (hs : a.eval s = .slice A sn sc) (g off : Nat) (l : List Int) (hB : Bk w T g l) (news : List Int) (hr : Byt p w A sn news)
    (hD : 0 < dn → D = some ⟨g, off, none⟩) (hfit : off + dn ≤ l.length)
    (h : ∀ w', Bk w' T g (spl l off (news.take dn)) → w.grownBy w' (some g) → K (a.put o.dst (.int .i64 ((min sn dn : Nat) : Int))) w') : o.wp P a w K Q := by
  obtain ⟨w', hrun, h2, h3⟩ := run_copyB (P := P) w t o.type e T ht hi D dn dc A sn sc g off l hB news hr hD hfit
  unfold Oper.wp execOp
  simp only [ho, resolve, invoke, builtin, Sem.run_bind, Sem.run_pure, Result.andThen_ok, List.map_toArray, List.map_cons, List.map_nil, hd, hs, hrun]
  exact h w' h2 h3
theorem wpList_copyB {p : Nat → Prop} {ops : Array Oper} {rest : List Oper} {o : Oper} {a : Act} {Q : Exit → Act → World → Prop} (hgd : o.guard = none) (d s : Operand) (t : TypeId)
    (ho : o.op = .call { callee := .builtin .copy, args := #[d, s], argTypes := #[t, t] }) (e T : TypeId) (ht : P.underlying t = some (.slice e)) (hi : (P.info? e).map (fun i => (i.zero, i.size, i.bytes)) = some (some (.int .u8 0), 1, 1))
    (D : Option Addr) (dn dc : Nat) (A : Option Addr) (sn sc : Nat) (hd : a.eval d = .slice D dn dc) (hs : a.eval s = .slice A sn sc) (g off : Nat) (l : List Int) (hB : Bk w T g l) (news : List Int) (hr : Byt p w A sn news)
    (hD : 0 < dn → D = some ⟨g, off, none⟩) (hfit : off + dn ≤ l.length)
    (h : ∀ w', Bk w' T g (spl l off (news.take dn)) → w.grownBy w' (some g) → wpList P ops Q rest (a.put o.dst (.int .i64 ((min sn dn : Nat) : Int))) w') : wpList P ops Q (o :: rest) a w :=
  wpList_plain hgd fun _ hK => wp_copyB w d s t ho e T ht hi D dn dc A sn sc hd hs g off l hB news hr hD hfit fun w' h2 h3 => hK _ _ (h w' h2 h3)
theorem step_copyB {p : Nat → Prop} {ops : Array Oper} {o : Oper} {a : Act} {K : Act → World → Prop} {Q : Exit → Act → World → Prop} {E : Prop} (hgd : o.guard = none) (d s : Operand) (t : TypeId)
    (ho : o.op = .call { callee := .builtin .copy, args := #[d, s], argTypes := #[t, t] }) (e T : TypeId) (ht : P.underlying t = some (.slice e)) (hi : (P.info? e).map (fun i => (i.zero, i.size, i.bytes)) = some (some (.int .u8 0), 1, 1))
    (D : Option Addr) (dn dc : Nat) (A : Option Addr) (sn sc : Nat) (hd : a.eval d = .slice D dn dc) (hs : a.eval s = .slice A sn sc) (g off : Nat) (l : List Int) (hB : Bk w T g l) (news : List Int) (hr : Byt p w A sn news)
    (hD : 0 < dn → D = some ⟨g, off, none⟩) (hfit : off + dn ≤ l.length)
    (h : ∀ w', Bk w' T g (spl l off (news.take dn)) → w.grownBy w' (some g) → K (a.put o.dst (.int .i64 ((min sn dn : Nat) : Int))) w') :
    if Region.wanted o (yielded ops a.tmps) = true then Oper.wp P o a w K Q else E := by
  have hw : Region.wanted o (yielded ops a.tmps) = true := by simp [Region.wanted, hgd]
  rw [if_pos hw]
  exact wp_copyB w d s t ho e T ht hi D dn dc A sn sc hd hs g off l hB news hr hD hfit h
end

theorem bk_bn {w : World} {e : TypeId} {g : Nat} {l : List Int} (h : Bk w e g l) : Bn .u8 w e g l := h
theorem bn_bk {w : World} {e : TypeId} {g : Nat} {l : List Int} (h : Bn .u8 w e g l) : Bk w e g l := h
theorem Bk.grown {w w' : World} {e : TypeId} {g : Nat} {l : List Int} {row : Option Nat} (h : Bk w e g l) (hg : w.grownBy w' row) (hne : some g ≠ row) : Bk w' e g l := h.keep (hg.block g h.lt hne)
def z188 : List Int := List.replicate 188 0
theorem Try.alloc188 (w : World) : (Instr.alloc 73 true (.tuple #[])).run Try.prog w = .ok (.pointer (some ⟨w.heap.size, 0, none⟩)) (w.alloc (.cells (rowN .u8 z188) 73)) := by kernel_rfl
theorem Try.info188 : (Try.prog.info? 73).map (·.size) = some 188 := by kernel_rfl
theorem wpList_st188 {ops : Array Oper} {rest : List Oper} {o : Oper} {a : Act} {w : World} {Q : Exit → Act → World → Prop} (hgd : o.guard = none) (x y : Operand) (ho : o.op = .store 73 x y)
    (g : Nat) (m : List Int) (hx : a.eval x = .pointer (some ⟨g, 0, none⟩)) (hy : a.eval y = .agg (rowN .u8 m)) {e : TypeId} {l : List Int} (h : Bk w e g l) (hl : l.length = 188) (hm : m.length = 188)
    (hk : wpList Try.prog ops Q rest (a.put o.dst undef) (w.setRow g (rowN .u8 m))) : wpList Try.prog ops Q (o :: rest) a w :=
  wpList_store_row hgd 73 x y ho g _ hx hy e _ (bk_bn h) (by rw [rowN_size, hm]; exact Try.info188) (by rw [rowN_size, rowN_size, hl, hm]) (rowN_one _ _) hk
theorem wpList_ld188 {ops : Array Oper} {rest : List Oper} {o : Oper} {a : Act} {w : World} {Q : Exit → Act → World → Prop} (hgd : o.guard = none) (x : Operand) (ho : o.op = .load 73 x)
    (g : Nat) (hx : a.eval x = .pointer (some ⟨g, 0, none⟩)) {e : TypeId} {l : List Int} (h : Bk w e g l) (hl : l.length = 188)
    (hk : wpList Try.prog ops Q rest (a.put o.dst (.agg (rowN .u8 l))) w) : wpList Try.prog ops Q (o :: rest) a w :=
  wpList_load_row hgd 73 x ho g hx e _ (0, 0) _ (bk_bn h) Try.underlying73 rfl (by rw [rowN_size, hl]; exact Try.info188) hk

set_option maxRecDepth 100000 in
theorem sub_arr (g n : Nat) (hn : n ≤ 188) :
    ∃ D, (∀ w, (Instr.sliceAt 73 (.pointer (some ⟨g, 0, none⟩)) (some (.int .i64 (188 - (n : Int)))) none none).run Try.prog w = .ok (.slice D n n) w) ∧ (0 < n → D = some ⟨g, 188 - n, none⟩) := by
  have hsz : ∀ w, (sizeOf 5).run Try.prog w = .ok 1 w := fun _ => by kernel_rfl
  have hal : Try.prog.arrayLen 73 = 188 := by kernel_rfl
  have key : ∀ w, (Instr.sliceAt 73 (.pointer (some ⟨g, 0, none⟩)) (some (.int .i64 (188 - (n : Int)))) none none).run Try.prog w = .ok (slicedAt ⟨g, 0, none⟩ (188 - (n : Int)).toNat 188 188 1) w := by
    intro w
    have h := run_sliceAt_array_l (P := Try.prog) w 73 ⟨g, 0, none⟩ Try.underlying73 .i64 (188 - (n : Int)) (by omega) (by rw [hal]; omega)
    rw [hal] at h
    rw [h]
    have hz := hsz w
    show ((sizeOf 5).run Try.prog w).andThen _ = _
    rw [hz]
    rfl
  by_cases h0 : n = 0
  · subst h0
    refine ⟨some ⟨g, 0, none⟩, fun w => ?_, fun h => absurd h (by omega)⟩
    rw [key]
    rfl
  · refine ⟨some ⟨g, 188 - n, none⟩, fun w => ?_, fun _ => rfl⟩
    rw [key]
    unfold slicedAt
    rw [if_neg (by omega), show (188 - (n : Int)).toNat = 188 - n by omega, show 188 - (188 - n) = n by omega]
    simp [Addr.add]
    omega

set_option maxRecDepth 100000 in
theorem sub_arr5 (g k : Nat) (hk : k ≤ 183) :
    ∀ w, (Instr.sliceAt 73 (.pointer (some ⟨g, 0, none⟩)) (some (.int .i64 5)) (some (.int .i64 ((k : Int) + 5))) none).run Try.prog w = .ok (.slice (some ⟨g, 5, none⟩) k 183) w := by
  intro w
  have hsz : ∀ w, (sizeOf 5).run Try.prog w = .ok 1 w := fun _ => by kernel_rfl
  have hal : Try.prog.arrayLen 73 = 188 := by kernel_rfl
  have h := run_sliceAt_array_lh (P := Try.prog) w 73 ⟨g, 0, none⟩ Try.underlying73 .i64 .i64 5 ((k : Int) + 5) (by omega) (by omega) (by rw [hal]; omega)
  rw [hal] at h
  rw [h]
  have hz := hsz w
  show ((sizeOf 5).run Try.prog w).andThen _ = _
  rw [hz]
  show Result.ok (slicedAt ⟨g, 0, none⟩ (5 : Int).toNat ((k : Int) + 5).toNat 188 1) w = _
  unfold slicedAt
  rw [if_neg (by decide), show ((k : Int) + 5).toNat - (5 : Int).toNat = k by omega]
  rfl

theorem results_row1 {P : Program} {fn : Func} {p : Tmp} {ty : TypeId} (h : fn.results = #[.cell p ty]) (tmps : Array Value) (w : World) (g : Nat) (v : Value)
    (hp : tmps.getD p undef = .pointer (some ⟨g, 0, none⟩)) (hld : (loadVar ty ⟨g, 0, none⟩).run P w = .ok v w) : (results fn tmps).run P w = .ok v w := by
  have hp' : tmps[p]?.getD undef = .pointer (some ⟨g, 0, none⟩) := by simpa using hp
  simp [results, h, hp', asAddr, hld]
theorem Try.load188 {w : World} {e : TypeId} {g : Nat} {l : List Int} (h : Bk w e g l) (hl : l.length = 188) : (loadVar 73 ⟨g, 0, none⟩).run Try.prog w = .ok (.agg (rowN .u8 l)) w :=
  (bk_bn h).load Try.underlying73 rfl (by rw [hl]; exact Try.info188)
theorem Bk.row {w : World} {e : TypeId} {g : Nat} {l : List Int} (h : Bk w e g l) (m : List Int) : Bk (w.setRow g (rowN .u8 m)) e g m := bn_bk ((bk_bn h).row m)

end Go.Proofs.Ytdnchjmopkhnaaa
