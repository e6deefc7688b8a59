/- The contract of Copy of the reference: a frame of its own. -/
import Derived.Test.YtaedpadkpclldaaOrd
import Derived.Test.YtaedpadkpclldaaLines
import Derived.ArgAppend
import Derived.Maps.AppendAt
namespace Go.Proofs.Ytaedpadkpclldaa
open Go.RowKit

theorem emptyB (w : World) : (Instr.buildSlice 22 0 #[]).run Try.prog w = .ok (.slice (some ⟨w.heap.size, 0, none⟩) 0 0) (w.alloc (.cells #[] 5)) := by kernel_rfl

theorem OwB.base_mono {w : World} {base base' : Nat} {e : TypeId} {v : Value} {l : List Int} (h : OwB w base e v l) (hb : base' ≤ base) : OwB w base' e v l := by
  refine ⟨h.1, ?_⟩
  rcases h.2 with h2 | ⟨g, cap, cur, h3, hg, h4⟩
  · exact .inl h2
  · exact .inr ⟨g, cap, cur, h3, Nat.le_trans hb hg, h4⟩
theorem OwB.far {w : World} {base : Nat} {e : TypeId} {v : Value} {l : List Int} {a : Addr} (h : OwB w base e v l) (ha : v.ownBlock ≠ some a.block) (u : Value) : OwB (w.setCell a u) base e v l := by
  refine ⟨h.1, ?_⟩
  rcases h.2 with h2 | ⟨g, cap, cur, rfl, hg, hh, h4⟩
  · exact .inl h2
  · exact .inr ⟨g, cap, cur, rfl, hg, (Below.heap_setCell w a u g (fun e => ha (by rw [← e]; rfl))).trans hh, h4⟩
theorem OwB.low {w : World} {base : Nat} {e : TypeId} {v : Value} {l : List Int} {a : Addr} (h : OwB w base e v l) (ha : a.block < base) (u : Value) : OwB (w.setCell a u) base e v l :=
  h.far (fun hk => by have := (h.lt _ hk).1; omega) u
/-- What a slice of the call's own with an element looks like. -/
theorem OwB.form {w : World} {base : Nat} {e : TypeId} {v : Value} {l : List Int} (h : OwB w base e v l) (hl : 0 < l.length) :
    ∃ g cap, v = .slice (some ⟨g, 0, none⟩) l.length cap ∧ base ≤ g ∧ g < w.heap.size ∧ l.length ≤ cap ∧ (∀ j x, l[j]? = some x → w.cell? ⟨g, j, none⟩ = some (.int .u8 x)) ∧ (∀ j, w.frozen? ⟨g, j, none⟩ = false) := by
  have h0 := h
  rcases h.2 with ⟨_, hn⟩ | ⟨g, cap, cur, rfl, hg, hh, hnc, hcm, hcs, htake⟩
  · omega
  · refine ⟨g, cap, rfl, hg, (h0.lt g rfl).2, hnc, fun j x hx => ?_, fun j => by simp [World.frozen?, hh]⟩
    have := World.ownsRow.cells h0 (g := g) rfl j (.int .u8 x) (by rw [List.getElem?_map, hx]; rfl)
    have hadd : (⟨g, 0, none⟩ : Addr).add j = ⟨g, j, none⟩ := by unfold Addr.add; split <;> simp_all
    rwa [hadd] at this
theorem OwB.set_ {w : World} {base : Nat} {e : TypeId} {g n cap : Nat} {l : List Int} (h : OwB w base e (.slice (some ⟨g, 0, none⟩) n cap) l) (k : Nat) (hk : k < l.length) (x : Int) :
    OwB (w.setCell ⟨g, k, none⟩ (.int .u8 x)) base e (.slice (some ⟨g, 0, none⟩) n cap) (l.set k x) := by
  rcases h.2 with ⟨hn, _⟩ | ⟨g', cap', cur, hv, hg, hh, hnc, hcm, hcs, htake⟩
  · cases hn
  · injection hv with h1 h2 h3
    injection h1 with h1
    injection h1 with h1
    subst h1 h2 h3
    refine ⟨by simp, .inr ⟨g, cap, cur.setIfInBounds k (.int .u8 x), by rw [List.length_set], hg, ?_, by rw [List.length_set]; exact hnc, hcm, by simpa using hcs, ?_⟩⟩
    · simp [World.setCell, Array.getElem?_modify, hh]
    · rw [List.length_set, Nat.mul_one] at *
      rw [Array.toList_setIfInBounds, List.take_set, htake, List.map_set]
/-- What append gives that is laid onto an empty slice without room: a copy of its own. -/
def CopyOf (base : Nat) (n : Nat) (l : List Int) (v : Value) (w : World) : Prop := ∃ A c, v = .slice A n c ∧ n ≤ c ∧ Byt (base ≤ ·) w A n l ∧ (0 < n → OwB w base 5 v l)
def SepV (a b : Value) : Prop := ∀ k, a.ownBlock = some k → b.ownBlock ≠ some k
theorem run_copyOnto {p : Nat → Prop} (w : World) (ty : TypeId) (base g : Nat) (A : Option Addr) (n c : Nat) (l : List Int) (hl : Byt p w A n l) (hn : n ≤ 100000000) (hb : base ≤ w.heap.size) :
    ∃ v w', (Builtin.append_ #[22, 22] ty #[.slice (some ⟨g, 0, none⟩) 0 0, .slice A n c]).run Try.prog w = .ok v w' ∧ CopyOf base n l v w' ∧ (0 < n → ∀ k, v.ownBlock = some k → w.heap.size ≤ k) ∧ Below w.heap.size w w' := by
  obtain ⟨i, hi', hz, hs, hb'⟩ := info_parts Try.infoB
  rcases Nat.eq_zero_or_pos n with hm | hm
  · subst hm
    have hn0 : l = [] := List.eq_nil_of_length_eq_zero hl.1
    subst hn0
    refine ⟨.slice (some ⟨g, 0, none⟩) 0 0, w, ?_, ⟨_, _, rfl, Nat.le_refl _, Byt.nil, fun h => absurd h (by omega)⟩, fun h => absurd h (by omega), Below.refl _ _⟩
    rcases A with _ | ad
    · simp [Builtin.append_, run_underlying Try.underlying22, sizeOf, typeInfo, hi', Builtin.lenOf, Builtin.firstCells, storeCells]
    · simp [Builtin.append_, run_underlying Try.underlying22, sizeOf, typeInfo, hi', Builtin.lenOf, Builtin.firstCells, storeCells, loadCells, loadCellsFrom]
  · obtain ⟨b, off, rfl, _, _, hc⟩ := hl.addr hm
    have hcells : ∀ j u, (l.map (Value.int .u8))[j]? = some u → w.cell? ((⟨b, off, none⟩ : Addr).add j) = some u := by
      intro j u hu
      rw [List.getElem?_map] at hu
      rcases hx : l[j]? with _ | x <;> simp [hx] at hu
      subst hu
      have hadd : (⟨b, off, none⟩ : Addr).add j = ⟨b, off + j, none⟩ := by unfold Addr.add; split <;> simp_all
      rw [hadd]
      exact hc j x hx
    obtain ⟨v', w', hrun, h2, h3⟩ := run_append_arg_grows (P := Try.prog) w 22 ty 5 i (.int .u8 0) 1 1 Try.underlying22 hi' hz hs hb' rfl (by omega) ⟨g, 0, none⟩ 0 0 [] rfl (by simp) ⟨b, off, none⟩ n c
      (l.map (Value.int .u8)) (by rw [List.length_map, hl.1]; omega) hcells (by omega) (by simp only [maxLen]; omega) (by omega)
    rw [Nat.zero_add, List.nil_append] at h2
    have how : OwB w' w.heap.size 5 v' l := by unfold OwB; rw [hl.1]; exact h2
    have how0 := how
    obtain ⟨A', c', rfl, hcap, hB⟩ := how.retC (p := (base ≤ ·)) (fun b hb2 => Nat.le_trans hb hb2) hl.rng
    rw [hl.1] at hcap hB hrun how0
    exact ⟨_, w', hrun, ⟨A', c', rfl, hcap, hB, fun _ => how0.base_mono hb⟩, fun _ k hk => (how0.lt k hk).1, ⟨h3.os, h3.tape, h3.output, h3.size, fun k hk => h3.block k hk (by simp)⟩⟩

def copyV (B : Nat) (f : Fr) (g : Nat) (ya ua va : Option Addr) (yn yc un uc vn vc : Nat) : Nat → Value → World → Prop
  | 0, v, _ => ∃ g, v = .slice (some ⟨g, 0, none⟩) 0 0
  | 1, v, _ => v = .pointer (some ⟨g, 2, none⟩)
  | 2, v, _ => v = .slice ya yn yc
  | 3, v, w => CopyOf B yn f.Y v w
  | 4, v, _ => ∃ g, v = .slice (some ⟨g, 0, none⟩) 0 0
  | 5, v, _ => v = .pointer (some ⟨g, 3, none⟩)
  | 6, v, _ => v = .slice ua un uc
  | 7, v, w => CopyOf B un f.U v w
  | 8, v, _ => ∃ g, v = .slice (some ⟨g, 0, none⟩) 0 0
  | 9, v, _ => v = .pointer (some ⟨g, 4, none⟩)
  | 10, v, _ => v = .slice va vn vc
  | 11, v, w => CopyOf B vn f.V v w
  | 12, v, _ => v = .pointer (some ⟨g, 2, none⟩)
  | _, _, _ => True
theorem CopyOf.ext {B n : Nat} {l : List Int} {v : Value} {w w' : World} (h : CopyOf B n l v w) (hb : Below w.heap.size w w') : CopyOf B n l v w' := by
  obtain ⟨A, c, rfl, h1, h2, h3⟩ := h
  exact ⟨A, c, rfl, h1, h2.ext hb, fun hn => (h3 hn).ext hb⟩
theorem copyV_ext {B : Nat} {f : Fr} {g : Nat} {ya ua va : Option Addr} {yn yc un uc vn vc : Nat} : ∀ {k : Nat} {v : Value} {w w' : World}, copyV B f g ya ua va yn yc un uc vn vc k v w → Below w.heap.size w w' → copyV B f g ya ua va yn yc un uc vn vc k v w'
  | 0, _, _, _, h, _ => h
  | 1, _, _, _, h, _ => h
  | 2, _, _, _, h, _ => h
  | 3, _, _, _, h, hb => CopyOf.ext h hb
  | 4, _, _, _, h, _ => h
  | 5, _, _, _, h, _ => h
  | 6, _, _, _, h, _ => h
  | 7, _, _, _, h, hb => CopyOf.ext h hb
  | 8, _, _, _, h, _ => h
  | 9, _, _, _, h, _ => h
  | 10, _, _, _, h, _ => h
  | 11, _, _, _, h, hb => CopyOf.ext h hb
  | 12, _, _, _, h, _ => h
  | _ + 13, _, _, _, _, _ => True.intro
def copyS (yn un vn : Nat) : Nat → (Nat → Value) → Prop
  | 7, u => 0 < yn → 0 < un → SepV (u 3) (u 7)
  | 11, u => 0 < yn → 0 < un → 0 < vn → SepV (u 3) (u 11) ∧ SepV (u 7) (u 11)
  | _, _ => True
theorem updU_ne {u : Nat → Value} {i k : Nat} {v : Value} (h : k ≠ i) : updU u i v k = u k := by unfold updU; rw [if_neg h]
theorem updU_same {u : Nat → Value} {i : Nat} {v : Value} : updU u i v i = v := by unfold updU; rw [if_pos rfl]

/-- A frame whose planes are rows of the call's own, each apart from the others. -/
def OwnR (B : Nat) (w : World) (v : Value) (f : Fr) : Prop :=
  ∃ sy su sv, v = .agg #[.int .i64 f.W, .int .i64 f.H, sy, su, sv] ∧ OwB w B 5 sy f.Y ∧ OwB w B 5 su f.U ∧ OwB w B 5 sv f.V ∧ SepV sy su ∧ SepV sy sv ∧ SepV su sv
set_option maxHeartbeats 4000000 in
theorem ref_Copy {p : Nat → Prop} (v : Value) (f : Fr) (w : World) (hf : IsFr p w v f) (hY : f.Y.length ≤ 100000) (hU : f.U.length ≤ 100000) (hV : f.V.length ≤ 100000) :
    Calls Try.prog 21 #[v] w fun e w' => ∃ v', e = .returned v' ∧ CapsOK v' ∧ IsFr (w.heap.size ≤ ·) w' v' f ∧ (0 < f.Y.length → 0 < f.U.length → 0 < f.V.length → OwnR w.heap.size w' v' f) ∧ Below w.heap.size w w' := by
  obtain ⟨ya, yn, yc, ua, un, uc, va, vn, vc, rfl, hy, hu, hv⟩ := hf
  rw [hy.len] at hY
  rw [hu.len] at hU
  rw [hv.len] at hV
  go_enter Try.func21, Try.ntmps21
  go_wp2_with fail
  have x1 : Bx ((w.alloc (.cells #[.int .i64 f.W, .int .i64 f.H, .slice ya yn yc, .slice ua un uc, .slice va vn vc] 24)).alloc (.cells #[.int .i64 0, .int .i64 0, .slice none 0 0, .slice none 0 0, .slice none 0 0] 24)) w.heap.size 24 #[.int .i64 f.W, .int .i64 f.H, .slice ya yn yc, .slice ua un uc, .slice va vn vc] := (Bx.new w _ _).alloc _
  have y1 : Bx ((w.alloc (.cells #[.int .i64 f.W, .int .i64 f.H, .slice ya yn yc, .slice ua un uc, .slice va vn vc] 24)).alloc (.cells #[.int .i64 0, .int .i64 0, .slice none 0 0, .slice none 0 0, .slice none 0 0] 24)) (w.heap.size + 1) 24 #[.int .i64 0, .int .i64 0, .slice none 0 0, .slice none 0 0, .slice none 0 0] := Bx.new' _ _ _ _ (by simp)
  have B1 : Below w.heap.size w ((w.alloc (.cells #[.int .i64 f.W, .int .i64 f.H, .slice ya yn yc, .slice ua un uc, .slice va vn vc] 24)).alloc (.cells #[.int .i64 0, .int .i64 0, .slice none 0 0, .slice none 0 0, .slice none 0 0] 24)) := ((Below.refl _ w).alloc (by simp) _).alloc (by simp) _
  generalize (w.alloc (.cells #[.int .i64 f.W, .int .i64 f.H, .slice ya yn yc, .slice ua un uc, .slice va vn vc] 24)).alloc (.cells #[.int .i64 0, .int .i64 0, .slice none 0 0, .slice none 0 0, .slice none 0 0] 24) = wA at *
  refine wp_region_facts_tail 13 (by kernel_rfl) (by kernel_rfl) (by kernel_rfl) (fun w w' => Below w.heap.size w w') (fun k u w' => copyV wA.heap.size f w.heap.size ya ua va yn yc un uc vn vc k (u k) w' ∧ copyS yn un vn k u) (fun w' => Below wA.heap.size wA w') ?_ ?_ ?_ ?_ (by kernel_rfl) ?_
  · intro D k i u v w w' hcl hk hi hE h
    have hne : k ≠ i := fun e => by rw [e, hi] at hk; cases hk
    refine ⟨by rw [updU_ne hne]; exact copyV_ext h.1 hE, ?_⟩
    have h2 := h.2
    by_cases h7 : k = 7
    · subst h7
      have d3 : D 3 = true := hcl 7 _ rfl hk ⟨3, .chain⟩ (by simp) rfl
      have n3 : 3 ≠ i := fun e => by rw [← e, d3] at hi; cases hi
      show 0 < yn → 0 < un → SepV (updU u i v 3) (updU u i v 7)
      rw [updU_ne n3, updU_ne hne]
      exact h2
    · by_cases h11 : k = 11
      · subst h11
        have d7 : D 7 = true := hcl 11 _ rfl hk ⟨7, .chain⟩ (by simp) rfl
        have d3 : D 3 = true := hcl 7 _ rfl d7 ⟨3, .chain⟩ (by simp) rfl
        have n3 : 3 ≠ i := fun e => by rw [← e, d3] at hi; cases hi
        have n7 : 7 ≠ i := fun e => by rw [← e, d7] at hi; cases hi
        show 0 < yn → 0 < un → 0 < vn → SepV (updU u i v 3) (updU u i v 11) ∧ SepV (updU u i v 7) (updU u i v 11)
        rw [updU_ne n3, updU_ne n7, updU_ne hne]
        exact h2
      · unfold copyS
        split
        · exact absurd rfl h7
        · exact absurd rfl h11
        · exact True.intro
  · exact (Below.refl _ _).drew
  · intro w' w'' h h2
    exact h.trans (h2.mono h.size)
  · intro i o hi ho D u a wx fr hG hfacts hcl hDi hpre
    have xx := x1.ext hG
    have e1 : a.tmps[1]?.getD undef = .pointer (some ⟨w.heap.size, 0, none⟩) := fr.oldT 1 rfl
    rcases (show i = 0 ∨ i = 1 ∨ i = 2 ∨ i = 3 ∨ i = 4 ∨ i = 5 ∨ i = 6 ∨ i = 7 ∨ i = 8 ∨ i = 9 ∨ i = 10 ∨ i = 11 ∨ i = 12 by omega) with rfl | rfl | rfl | rfl | rfl | rfl | rfl | rfl | rfl | rfl | rfl | rfl | rfl
    all_goals (simp only [List.getElem?_cons_zero, List.getElem?_cons_succ, Option.some.injEq] at ho; subst ho)
    · refine (wp_value (v := .slice (some ⟨wx.heap.size, 0, none⟩) 0 0) (w' := wx.alloc (.cells #[] 5)) ?_ ⟨_, rfl, (Below.refl _ _).alloc (Nat.le_refl _) _, ?_⟩)
      · simp [execOp, emptyB]
      · exact ⟨by rw [updU_same]; exact ⟨_, rfl⟩, True.intro⟩
    · refine (wp_value (v := .pointer (some ⟨w.heap.size, 2, none⟩)) (w' := wx) ?_ ⟨_, rfl, Below.refl _ _, ?_⟩)
      · simp [execOp, e1, go_sem]
      · exact ⟨by rw [updU_same]; exact rfl, True.intro⟩
    · have e2 : a.tmps[4]?.getD undef = .pointer (some ⟨w.heap.size, 2, none⟩) := (fr.atT 1 (hpre ⟨1, .data⟩ (by simp) rfl) rfl).trans (hfacts 1 (hpre ⟨1, .data⟩ (by simp) rfl)).1
      have hc := xx.cell 2 rfl
      refine (wp_value (v := .slice ya yn yc) (w' := wx) ?_ ⟨_, rfl, Below.refl _ _, ?_⟩)
      · simp [execOp, e2, hc, go_sem]
      · exact ⟨by rw [updU_same]; exact rfl, True.intro⟩
    · obtain ⟨gq, hgq⟩ : ∃ g, u 0 = .slice (some ⟨g, 0, none⟩) 0 0 := (hfacts 0 (hpre ⟨0, .data⟩ (by simp) rfl)).1
      have hlq : u 2 = .slice ya yn yc := (hfacts 2 (hpre ⟨2, .data⟩ (by simp) rfl)).1
      have e2 : a.eval (.tmp 3) = .slice (some ⟨gq, 0, none⟩) 0 0 := (fr.at_ 0 (hpre ⟨0, .data⟩ (by simp) rfl) rfl).trans hgq
      have e3 : a.eval (.tmp 5) = .slice ya yn yc := (fr.at_ 2 (hpre ⟨2, .data⟩ (by simp) rfl) rfl).trans hlq
      obtain ⟨vq, wq, hrun, hcp, hgq2, hbq⟩ := run_copyOnto (p := p) wx 22 wA.heap.size gq ya yn yc f.Y ((hy.ext B1).ext hG) (by omega) hG.size
      refine (wp_value (v := vq) (w' := wq) ?_ ⟨_, rfl, hbq, ?_⟩)
      · simp only [execOp, resolve, invoke, builtin, Sem.run_bind, Sem.run_pure, Result.andThen_ok, List.map_toArray, List.map_cons, List.map_nil, e2, e3, hrun]
      · exact ⟨by rw [updU_same]; exact hcp, True.intro⟩
    · refine (wp_value (v := .slice (some ⟨wx.heap.size, 0, none⟩) 0 0) (w' := wx.alloc (.cells #[] 5)) ?_ ⟨_, rfl, (Below.refl _ _).alloc (Nat.le_refl _) _, ?_⟩)
      · simp [execOp, emptyB]
      · exact ⟨by rw [updU_same]; exact ⟨_, rfl⟩, True.intro⟩
    · refine (wp_value (v := .pointer (some ⟨w.heap.size, 3, none⟩)) (w' := wx) ?_ ⟨_, rfl, Below.refl _ _, ?_⟩)
      · simp [execOp, e1, go_sem]
      · exact ⟨by rw [updU_same]; exact rfl, True.intro⟩
    · have e2 : a.tmps[8]?.getD undef = .pointer (some ⟨w.heap.size, 3, none⟩) := (fr.atT 5 (hpre ⟨5, .data⟩ (by simp) rfl) rfl).trans (hfacts 5 (hpre ⟨5, .data⟩ (by simp) rfl)).1
      have hc := xx.cell 3 rfl
      refine (wp_value (v := .slice ua un uc) (w' := wx) ?_ ⟨_, rfl, Below.refl _ _, ?_⟩)
      · simp [execOp, e2, hc, go_sem]
      · exact ⟨by rw [updU_same]; exact rfl, True.intro⟩
    · obtain ⟨gq, hgq⟩ : ∃ g, u 4 = .slice (some ⟨g, 0, none⟩) 0 0 := (hfacts 4 (hpre ⟨4, .data⟩ (by simp) rfl)).1
      have hlq : u 6 = .slice ua un uc := (hfacts 6 (hpre ⟨6, .data⟩ (by simp) rfl)).1
      have e2 : a.eval (.tmp 7) = .slice (some ⟨gq, 0, none⟩) 0 0 := (fr.at_ 4 (hpre ⟨4, .data⟩ (by simp) rfl) rfl).trans hgq
      have e3 : a.eval (.tmp 9) = .slice ua un uc := (fr.at_ 6 (hpre ⟨6, .data⟩ (by simp) rfl) rfl).trans hlq
      obtain ⟨vq, wq, hrun, hcp, hgq2, hbq⟩ := run_copyOnto (p := p) wx 22 wA.heap.size gq ua un uc f.U ((hu.ext B1).ext hG) (by omega) hG.size
      refine (wp_value (v := vq) (w' := wq) ?_ ⟨_, rfl, hbq, ?_⟩)
      · simp only [execOp, resolve, invoke, builtin, Sem.run_bind, Sem.run_pure, Result.andThen_ok, List.map_toArray, List.map_cons, List.map_nil, e2, e3, hrun]
      · refine ⟨by rw [updU_same]; exact hcp, ?_⟩
        show 0 < yn → 0 < un → SepV (updU u 7 vq 3) (updU u 7 vq 7)
        rw [updU_ne (by omega), updU_same]
        intro p1 p2
        exact fun k hk he => by
          obtain ⟨_, _, _, _, _, ho⟩ : CopyOf _ _ _ (u 3) wx := (hfacts 3 (hpre ⟨3, .chain⟩ (by simp) rfl)).1
          have h1 := ((ho p1).lt k hk).2
          have h2 := hgq2 p2 k he
          omega
    · refine (wp_value (v := .slice (some ⟨wx.heap.size, 0, none⟩) 0 0) (w' := wx.alloc (.cells #[] 5)) ?_ ⟨_, rfl, (Below.refl _ _).alloc (Nat.le_refl _) _, ?_⟩)
      · simp [execOp, emptyB]
      · exact ⟨by rw [updU_same]; exact ⟨_, rfl⟩, True.intro⟩
    · refine (wp_value (v := .pointer (some ⟨w.heap.size, 4, none⟩)) (w' := wx) ?_ ⟨_, rfl, Below.refl _ _, ?_⟩)
      · simp [execOp, e1, go_sem]
      · exact ⟨by rw [updU_same]; exact rfl, True.intro⟩
    · have e2 : a.tmps[12]?.getD undef = .pointer (some ⟨w.heap.size, 4, none⟩) := (fr.atT 9 (hpre ⟨9, .data⟩ (by simp) rfl) rfl).trans (hfacts 9 (hpre ⟨9, .data⟩ (by simp) rfl)).1
      have hc := xx.cell 4 rfl
      refine (wp_value (v := .slice va vn vc) (w' := wx) ?_ ⟨_, rfl, Below.refl _ _, ?_⟩)
      · simp [execOp, e2, hc, go_sem]
      · exact ⟨by rw [updU_same]; exact rfl, True.intro⟩
    · obtain ⟨gq, hgq⟩ : ∃ g, u 8 = .slice (some ⟨g, 0, none⟩) 0 0 := (hfacts 8 (hpre ⟨8, .data⟩ (by simp) rfl)).1
      have hlq : u 10 = .slice va vn vc := (hfacts 10 (hpre ⟨10, .data⟩ (by simp) rfl)).1
      have e2 : a.eval (.tmp 11) = .slice (some ⟨gq, 0, none⟩) 0 0 := (fr.at_ 8 (hpre ⟨8, .data⟩ (by simp) rfl) rfl).trans hgq
      have e3 : a.eval (.tmp 13) = .slice va vn vc := (fr.at_ 10 (hpre ⟨10, .data⟩ (by simp) rfl) rfl).trans hlq
      obtain ⟨vq, wq, hrun, hcp, hgq2, hbq⟩ := run_copyOnto (p := p) wx 22 wA.heap.size gq va vn vc f.V ((hv.ext B1).ext hG) (by omega) hG.size
      refine (wp_value (v := vq) (w' := wq) ?_ ⟨_, rfl, hbq, ?_⟩)
      · simp only [execOp, resolve, invoke, builtin, Sem.run_bind, Sem.run_pure, Result.andThen_ok, List.map_toArray, List.map_cons, List.map_nil, e2, e3, hrun]
      · refine ⟨by rw [updU_same]; exact hcp, ?_⟩
        show 0 < yn → 0 < un → 0 < vn → SepV (updU u 11 vq 3) (updU u 11 vq 11) ∧ SepV (updU u 11 vq 7) (updU u 11 vq 11)
        rw [updU_ne (show 3 ≠ 11 by omega), updU_ne (show 7 ≠ 11 by omega), updU_same]
        intro p1 p2 p3
        have dq : D 7 = true := hpre ⟨7, .chain⟩ (by simp) rfl
        have dq3 : D 3 = true := hcl 7 _ rfl dq ⟨3, .chain⟩ (by simp) rfl
        refine ⟨fun k hk he => by
          obtain ⟨_, _, _, _, _, ho⟩ : CopyOf _ _ _ (u 3) wx := (hfacts 3 dq3).1
          have h1 := ((ho p1).lt k hk).2
          have h2 := hgq2 p3 k he
          omega, ?_⟩
        exact fun k hk he => by
          obtain ⟨_, _, _, _, _, ho⟩ : CopyOf _ _ _ (u 7) wx := (hfacts 7 dq).1
          have h1 := ((ho p2).lt k hk).2
          have h2 := hgq2 p3 k he
          omega
    · refine (wp_value (v := .pointer (some ⟨w.heap.size, 2, none⟩)) (w' := wx) ?_ ⟨_, rfl, Below.refl _ _, ?_⟩)
      · simp [execOp, e1, go_sem]
      · exact ⟨by rw [updU_same]; exact rfl, True.intro⟩
  · intro u wz hG hfacts
    have sep1 : 0 < yn → 0 < un → SepV (u 3) (u 7) := (hfacts 7 (by omega)).2
    have sep2 : 0 < yn → 0 < un → 0 < vn → SepV (u 3) (u 11) ∧ SepV (u 7) (u 11) := (hfacts 11 (by omega)).2
    obtain ⟨A3, m3, h3, hc3, hB3, ho3⟩ : CopyOf wA.heap.size yn f.Y (u 3) wz := (hfacts 3 (by omega)).1
    obtain ⟨A7, m7, h7, hc7, hB7, ho7⟩ : CopyOf wA.heap.size un f.U (u 7) wz := (hfacts 7 (by omega)).1
    obtain ⟨A11, m11, h11, hc11, hB11, ho11⟩ : CopyOf wA.heap.size vn f.V (u 11) wz := (hfacts 11 (by omega)).1
    have h12 : u 12 = .pointer (some ⟨w.heap.size, 2, none⟩) := (hfacts 12 (by omega)).1
    clear hfacts
    rw [h3] at ho3 sep1 sep2
    rw [h7] at ho7 sep1 sep2
    rw [h11] at ho11 sep2
    simp only [List.take_succ_cons, List.take_zero, List.drop_succ_cons, List.drop_zero, putsU, Act.put, List.setIfInBounds_toArray, List.set_cons_succ, List.set_cons_zero, Nat.zero_add, Nat.reduceAdd, h3, h7, h11, h12]
    have BZ : Below w.heap.size w wz := B1.trans (hG.mono B1.size)
    have xx := x1.ext hG
    have yy := y1.ext hG
    obtain ⟨c0, c1, c2, c3, c4⟩ := xx.cells5
    obtain ⟨d0, d1, d2, d3, d4⟩ := yy.cells5
    have s0 := xx.frozen 0
    have s1 := xx.frozen 1
    have s2 := xx.frozen 2
    have s3 := xx.frozen 3
    have s4 := xx.frozen 4
    have t0 := yy.frozen 0
    have t1 := yy.frozen 1
    have t2 := yy.frozen 2
    have t3 := yy.frozen 3
    have t4 := yy.frozen 4
    have q0 := xx.lt
    have q1 := yy.lt
    have q2 := y1.lt
    have HS1 := Lib.hid sep1
    have HS2 := Lib.hid sep2
    have HO3 := Lib.hid ho3
    have HO7 := Lib.hid ho7
    have HO11 := Lib.hid ho11
    clear sep1 sep2 ho3 ho7 ho11 h3 h7 h11 h12
    go_wp2
    have np0 : ¬ (wA.heap.size ≤ w.heap.size) := by omega
    have np1 : ¬ (wA.heap.size ≤ w.heap.size + 1) := by omega
    refine bodyPost_ret (v := .agg #[.int .i64 f.W, .int .i64 f.H, .slice A3 yn m3, .slice A7 un m7, .slice A11 vn m11]) (by simp only [results, Try.results21]; go_simp) rfl ⟨_, rfl, CapsOK.mk hc3 hc7 hc11, ⟨_, _, _, _, _, _, _, _, _, rfl, ?_, ?_, ?_⟩, ?_, ?_⟩
    · refine Byt.mono (p := (wA.heap.size ≤ ·)) ?_ (fun b _ h => by omega)
      repeat refine Byt.setCell ?_ (by first | exact np0 | exact np1) _
      exact hB3
    · refine Byt.mono (p := (wA.heap.size ≤ ·)) ?_ (fun b _ h => by omega)
      repeat refine Byt.setCell ?_ (by first | exact np0 | exact np1) _
      exact hB7
    · refine Byt.mono (p := (wA.heap.size ≤ ·)) ?_ (fun b _ h => by omega)
      repeat refine Byt.setCell ?_ (by first | exact np0 | exact np1) _
      exact hB11
    · intro p1 p2 p3
      rw [hy.len] at p1
      rw [hu.len] at p2
      rw [hv.len] at p3
      refine ⟨_, _, _, rfl, OwB.base_mono (base := wA.heap.size) ?_ (by omega), OwB.base_mono (base := wA.heap.size) ?_ (by omega), OwB.base_mono (base := wA.heap.size) ?_ (by omega), HS1.out p1 p2, (HS2.out p1 p2 p3).1, (HS2.out p1 p2 p3).2⟩
      · repeat refine OwB.low ?_ (by simp; omega) _
        exact HO3.out p1
      · repeat refine OwB.low ?_ (by simp; omega) _
        exact HO7.out p2
      · repeat refine OwB.low ?_ (by simp; omega) _
        exact HO11.out p3
    ·
      repeat (first | (with_reducible exact BZ) | (with_reducible refine Below.setCell ?_ (by first | (simp; done) | (simp; omega)) _) | (with_reducible refine Below.alloc ?_ (by first | (simp; done) | (simp; omega)) _) | (with_reducible refine Below.drew ?_))
end Go.Proofs.Ytaedpadkpclldaa
