/- transport.Scan. -/
import Derived.Test.YtdnchjmopkhnaaaTrSr
namespace Go.Proofs.Ytdnchjmopkhnaaa
open Go.RowKit
attribute [local go_sem ↓] Go.wp_at_zero Go.wp_at_succ

theorem trscan_idle (p q : Addr) (w : World) :
    CallsD Try.prog 40 #[.pointer (some p), .pointer (some q)] .returning w fun e u' w' => e = .returned (.tuple #[]) ∧ u' = .returning ∧ w' = w := by
  refine callsD_of_wpS Try.func40 rfl fun c₀ cs hu => ?_
  apply wpS_seq
  apply wpS_region
  simp [wpOpsS, go_sem, recoverD, hu, Try.ntmps40, Exit.thenS]
  refine wpS_cond (t := false) (by simp [Act.eval, Array.replicate]) ?_
  simp only [Bool.false_eq_true, if_false]
  refine wpS_of_wp (wp_skip ?_)
  cases c₀
  simp_all [bodyPostS, results, Try.results40]
theorem trscan_leave {w : World} {l : List Int} {o d : Value} {A : Option Addr} {n c : Nat} {A2 : Option Addr} {n2 c2 : Nat} {qs : List TA} {ds : List (Nat × Nat)} (a : Act) (W : World) (h2 : a.tmps[2]? = some (.pointer (some ⟨w.heap.size, 0, none⟩))) (h3 : a.tmps[3]? = some (.pointer (some ⟨w.heap.size + 1, 0, none⟩)))
    (hd : a.defers = [{ target := Target.fn (Fn.func 40) #[.pointer (some ⟨w.heap.size, 0, none⟩), .pointer (some ⟨w.heap.size + 1, 0, none⟩)], args := #[] }])
    (X1 : Bx W w.heap.size 40 #[o]) (X2 : Bx W (w.heap.size + 1) 41 #[d]) (ho : o = .slice A n c) (hdd : d = .slice A2 n2 c2)
    (hp : TPks (w.heap.size ≤ ·) (w.heap.size ≤ ·) W A n qs) (hr : Rw (w.heap.size ≤ ·) W A2 n2 2 (dfCells ds)) (hl : ds.length = n2) (e1 : datas qs = (scanL l).1) (e2 : ds = (scanL l).2) (hb : Below w.heap.size w W) :
    bodyPostD Try.prog Try.f19 (RetSc w l) .ret a W := by
  subst ho hdd
  have u0 : W.cell? ⟨w.heap.size, 0, none⟩ = some (.slice A n c) := X1.cell 0 rfl
  have u1 : W.cell? ⟨w.heap.size + 1, 0, none⟩ = some (.slice A2 n2 c2) := X2.cell 0 rfl
  obtain ⟨tmps, defers⟩ := a
  dsimp only at h2 h3 hd
  subst hd
  refine leaves_cons (f := 40) (args := #[.pointer (some ⟨w.heap.size, 0, none⟩), .pointer (some ⟨w.heap.size + 1, 0, none⟩)]) (by simp) (by simp [go_sem]) ?_
  refine (trscan_idle _ _ _).mono ?_
  rintro e u' w'' ⟨rfl, rfl, rfl⟩
  refine ⟨.tuple #[.slice A n c, .slice A2 n2 c2], by simp [results, Try.results19, go_sem, h2, h3, u0, u1], ?_⟩
  exact ⟨_, _, _, _, _, _, qs, ds, rfl, hp, hr, hl, e1, e2, hb⟩

theorem TPks.setCell {p q : Nat → Prop} {w : World} {A : Option Addr} {n : Nat} {ps : List TA} (h : TPks p q w A n ps) {a : Addr} (h1 : ¬ p a.block) (h2 : ¬ q a.block) (u : Value) : TPks p q (w.setCell a u) A n ps :=
  ⟨h.1, h.2.1.setCell h1 u, fun x hx => (h.2.2 x hx).setCell h2 u⟩
theorem TPks.mono {p q p' q' : Nat → Prop} {w : World} {A : Option Addr} {n : Nat} {ps : List TA} (h : TPks p q w A n ps) (h1 : ∀ b, b < w.heap.size → p b → p' b) (h2 : ∀ b, b < w.heap.size → q b → q' b) : TPks p' q' w A n ps :=
  ⟨h.1, h.2.1.mono h1, fun x hx => (h.2.2 x hx).mono h2⟩
theorem TPks.drew {p q : Nat → Prop} {w : World} {A : Option Addr} {n : Nat} {ps : List TA} (h : TPks p q w A n ps) : TPks p q w.drew A n ps := h
/-- A row of packets whose payloads lie where P says. -/
def OwnP (w : World) (base : Nat) (T : TypeId) (v : Value) (P : Nat → Prop) (ps : List TA) : Prop := w.ownsRow base T 5 v ps.length (tpCells ps) ∧ ∀ x ∈ ps, Byt P w x.A x.n x.p.l
def PP (base : Nat) (oB dB : Option Nat) (N0 : Nat) (b : Nat) : Prop := base ≤ b ∧ some b ≠ oB ∧ some b ≠ dB ∧ b < N0
theorem OwnT.pp {w : World} {base : Nat} {T : TypeId} {v : Value} {ex : Option Nat} {ps : List TA} (h : OwnT w base T v ex ps) : OwnP w base T v (PP base v.ownBlock ex w.heap.size) ps :=
  ⟨h.1, fun x hx => (h.2 x hx).mono (fun _ hb hp => ⟨hp.1, hp.2.1, hp.2.2, hb⟩)⟩
section
variable {w w' : World} {base : Nat} {T : TypeId} {v : Value} {P : Nat → Prop} {ps : List TA}
theorem OwnP.keep {row : Option Nat} (h : OwnP w base T v P ps) (hg : w.grownBy w' row) (h1 : v.ownBlock = none ∨ v.ownBlock ≠ row) (h2 : ∀ b, P b → some b ≠ row) : OwnP w' base T v P ps :=
  ⟨World.ownsRow.kept h.1 hg h1, fun x hx => (h.2 x hx).grown hg h2⟩
theorem OwnP.ext (h : OwnP w base T v P ps) (hb : Below w.heap.size w w') : OwnP w' base T v P ps := ⟨own_ext h.1 hb, fun x hx => (h.2 x hx).ext hb⟩
theorem OwnP.alloc (h : OwnP w base T v P ps) (o : Obj) : OwnP (w.alloc o) base T v P ps := h.ext ((Below.refl _ _).alloc (Nat.le_refl _) _)
theorem OwnP.set (h : OwnP w base T v P ps) {a : Addr} (h1 : v.ownBlock = none ∨ v.ownBlock ≠ some a.block) (h2 : ∀ b, P b → b ≠ a.block) (u : Value) : OwnP (w.setCell a u) base T v P ps :=
  h.keep (row := some a.block) ⟨rfl, rfl, rfl, by simp [World.setCell], fun k _ hk => Below.heap_setCell w a u k (fun e => hk (by rw [e]))⟩ h1 (fun b hb e => h2 b hb (by injection e))
theorem ownr_set {e : TypeId} {size n : Nat} {xs : List Value} {a : Addr} (h : w.ownsRow base e size v n xs) (ha : v.ownBlock = none ∨ v.ownBlock ≠ some a.block) (u : Value) : (w.setCell a u).ownsRow base e size v n xs :=
  World.ownsRow.kept h (row := some a.block) ⟨rfl, rfl, rfl, by simp [World.setCell], fun k _ hk => Below.heap_setCell w a u k (fun e => hk (by rw [e]))⟩ ha
end
/-- The program's scan at place j. -/
def PsRel (w : World) (l : List Int) (n : Nat) (f j : Value) (wr : World) : Prop :=
  ∃ (jn fn : Nat) (qs : List TA) (ds : List (Nat × Nat)) (o d : Value), j = .int .i64 (jn : Int) ∧ f = .int .i64 (fn : Int) ∧ jn ≤ n ∧ fn ≤ jn ∧ ScanAt l jn fn (datas qs) ds ∧
    Bx wr w.heap.size 40 #[o] ∧ Bx wr (w.heap.size + 1) 41 #[d] ∧
    OwnT wr (w.heap.size + 2) 28 o d.ownBlock qs ∧ OwnD wr (w.heap.size + 2) 50 d ds ∧ Below w.heap.size w wr ∧ ds.length ≤ jn ∧ qs.length ≤ jn
theorem tp_ne : 28 ≠ 50 := by decide

set_option maxRecDepth 100000 in
set_option maxHeartbeats 4000000 in
theorem tr_Scan {q : Nat → Prop} (A : Option Addr) (n c : Nat) (l : List Int) (w : World) (hl : Byt q w A n l) (hc : n ≤ c) (hn : n ≤ 5000) :
    Calls Try.prog 19 #[.slice A n c] w (RetSc w l) := by
  have hlen := hl.len
  have HLEN := Lib.hid hlen
  have hl1 := hl.mono (q := (· < w.heap.size)) (fun b h _ => h)
  have HL := Lib.hid hl1
  clear hl hl1 hlen
  have hmf : ∀ (fn : Fn) (first cap : Array Value) (w : World), (Instr.makeFunc fn first cap).run Try.prog w = .ok (.func fn first cap) w := fun _ _ _ _ => rfl
  have B0 : Below w.heap.size w ((w.alloc (.cells #[.slice none 0 0] 40)).alloc (.cells #[.slice none 0 0] 41)) := ((Below.refl _ w).alloc (Nat.le_refl _) _).alloc (by simp) _
  have X1 : Bx ((w.alloc (.cells #[.slice none 0 0] 40)).alloc (.cells #[.slice none 0 0] 41)) w.heap.size 40 #[.slice none 0 0] := (Bx.new _ _ _).alloc _
  have X2 : Bx ((w.alloc (.cells #[.slice none 0 0] 40)).alloc (.cells #[.slice none 0 0] 41)) (w.heap.size + 1) 41 #[.slice none 0 0] := Bx.new' _ _ _ _ (by simp)
  go_enter_defers Try.func19, Try.ntmps19
  go_upto_region 2 with fail
  generalize (w.alloc (.cells #[.slice none 0 0] 40)).alloc (.cells #[.slice none 0 0] 41) = W at *
  go_wp2_with fail
  go_loopw [4, 5] (fun f j wr => PsRel w l n f j wr) (fun _ j _ => n - (intOf j).toNat)
  case atStart => exact ⟨0, 0, [], [], _, _, rfl, rfl, by omega, by omega, ScanAt.start l, X1, X2, OwnT.nil, World.ownsRow_nil _ _ _ _, B0, by simp, by simp⟩
  case round =>
    obtain ⟨jn, fn, qs, ds, o, d, rfl, rfl, hj, hf, hS, x1, x2, ho, hd, hb, h1, h2⟩ := hrel
    clear X1 X2 B0
    obtain ⟨Ao, co, rfl⟩ := ho.slice
    obtain ⟨Ad, cd, rfl⟩ := own_slice hd
    have HS := Lib.hid hS
    have HO := Lib.hid ho
    have HD := Lib.hid hd
    have zb := hb.size
    have zx := x2.lt
    clear hS ho hd
    by_cases hlt : jn < n
    · obtain ⟨b, off, rfl, hpb, hbl, hcl⟩ := (HL.out.below hb (fun _ _ h => h)).addr (by omega)
      have hlr := HL.out.below hb (fun _ _ h => h)
      have HLR := Lib.hid hlr
      clear hcl hlr
      go_wp2_with fail
      refine (tr_begins b off n c jn l wr HLR.out hc hlt hn).mono ?_
      rintro e w1 ⟨pid, cnt, st, clk, A1, n1, c1, ok, rfl, hbg, hb1⟩
      have HBG := Lib.hid hbg
      have B1 := hb.trans (hb1.mono zb)
      have x11 := x1.ext hb1
      have x21 := x2.ext hb1
      have z1 := hb1.size
      have HO1 := Lib.hid (HO.out.ext hb1)
      have HQ1 := Lib.hid (HO.out.pp.ext hb1)
      have HD1 := Lib.hid (own_ext HD.out hb1)
      have HLR1 := Lib.hid (HLR.out.ext hb1)
      clear hbg hb1
      cases ok with
      | false =>
        go_wp2_with fail
        go_roundw
        case rel => exact ⟨jn + 1, fn, qs, ds, _, _, by go_num, rfl, by omega, by omega, HS.out.skip (by rw [HLEN.out]; exact hlt) HBG.out, x11.alloc _, x21.alloc _, HO1.out.alloc _, World.ownsRow.alloc HD1.out _, B1.alloc B1.size _, by omega, by omega⟩
        case measure => (simp [intOf]; try omega)
      | true =>
        obtain ⟨pl, hbg2, hpl, hby⟩ := HBG.out
        have hbd := (begF_bound hbg2).1
        have hok : validT pid cnt st clk pl.length = true := (begF_bound hbg2).2.1
        have hn1 : n1 ≤ 184 := by rw [← hpl]; exact (validT_spec hok).2.2.2.1
        rw [HLEN.out] at hbd
        have HBG2 := Lib.hid hbg2
        have HBY := Lib.hid hby
        clear hbg2 hby hpl hok
        go_upto_region 8 with fail
        have XG := Bx.new w1 28 #[.int .i64 pid, .int .i64 cnt, .bool st, .int .i64 clk, .slice A1 n1 c1]
        have hdl := World.ownsRow.lt HD.out
        have HNX : Hid (some w1.heap.size ≠ (Value.slice Ad ds.length cd).ownBlock) := Lib.hid (fun e => by have := (hdl _ e.symm).2; omega)
        have hoB := World.ownsRow.lt HO.out.1
        have HOB := Lib.hid hoB
        have HDB := Lib.hid hdl
        have HQ2 := Lib.hid (HQ1.out.alloc (.cells #[.int .i64 pid, .int .i64 cnt, .bool st, .int .i64 clk, .slice A1 n1 c1] 28))
        have HD2 := Lib.hid (World.ownsRow.alloc HD1.out (.cells #[.int .i64 pid, .int .i64 cnt, .bool st, .int .i64 clk, .slice A1 n1 c1] 28))
        have B2 := B1.alloc B1.size (.cells #[.int .i64 pid, .int .i64 cnt, .bool st, .int .i64 clk, .slice A1 n1 c1] 28)
        have X1 := x11.alloc (.cells #[.int .i64 pid, .int .i64 cnt, .bool st, .int .i64 clk, .slice A1 n1 c1] 28)
        have X2 := x21.alloc (.cells #[.int .i64 pid, .int .i64 cnt, .bool st, .int .i64 clk, .slice A1 n1 c1] 28)
        have zG : w1.heap.size < (w1.alloc (.cells #[.int .i64 pid, .int .i64 cnt, .bool st, .int .i64 clk, .slice A1 n1 c1] 28)).heap.size := by simp
        generalize w1.alloc (.cells #[.int .i64 pid, .int .i64 cnt, .bool st, .int .i64 clk, .slice A1 n1 c1] 28) = w2 at *
        clear x11 x21 x1 x2 B1 hdl hoB HQ1 HD1 HO1 HLR1
        by_cases hfj : fn < jn
        · have HQ2a := Lib.hid (HQ2.out.alloc (.cells #[.int .i64 (fn : Int), .int .i64 (jn : Int)] 50))
          have HD2a := Lib.hid (World.ownsRow.alloc HD2.out (.cells #[.int .i64 (fn : Int), .int .i64 (jn : Int)] 50))
          have HX1a := Lib.hid (X1.alloc (.cells #[.int .i64 (fn : Int), .int .i64 (jn : Int)] 50))
          have HX2a := Lib.hid (X2.alloc (.cells #[.int .i64 (fn : Int), .int .i64 (jn : Int)] 50))
          have HXGa := Lib.hid (XG.alloc (.cells #[.int .i64 (fn : Int), .int .i64 (jn : Int)] 50))
          have B2a := B2.alloc B2.size (.cells #[.int .i64 (fn : Int), .int .i64 (jn : Int)] 50)
          have z2b : (w2.alloc (.cells #[.int .i64 (fn : Int), .int .i64 (jn : Int)] 50)).heap.size = w2.heap.size + 1 := by simp
          have hz2 : w.heap.size + 2 ≤ (w2.alloc (.cells #[.int .i64 (fn : Int), .int .i64 (jn : Int)] 50)).heap.size := by have := X2.lt; omega
          have HZ2 := Lib.hid z2b
          have HNA : Hid (some w.heap.size ≠ (Value.slice Ad ds.length cd).ownBlock) := Lib.hid (fun e => by have := (HDB.out _ e.symm).1; omega)
          have HNB : Hid (some (w.heap.size + 1) ≠ (Value.slice Ad ds.length cd).ownBlock) := Lib.hid (fun e => by have := (HDB.out _ e.symm).1; omega)
          have u2 := X2.cell 0 rfl
          have s2 := X2.lt
          clear z2b
          go_upto_region 10 with (at_builtin; go_must (refine wpList_appR _ rfl (.tmp 26) (.tmp 30) 41 rfl 50 (.agg #[.int .i64 0, .int .i64 0]) 2 16 Try.underlying41 Try.infoDP rfl (by decide) (w.heap.size + 2) (.slice Ad ds.length cd) ds.length _ rfl HD2a.out (some ⟨w2.heap.size, 0, none⟩) 1 1 [.int .i64 (fn : Int), .int .i64 (jn : Int)] rfl (Rw.lit (p := fun _ => True) _ _ _ rfl 1 2 rfl rfl trivial) (by simp [Value.oneCell']) (by omega) (by omega) hz2 ?_; intro v3 w3' ho3 hg3 ha3; obtain ⟨A3, c3, rfl⟩ := own_slice ho3; have y2 := HX2a.out.grown hg3 HNB.out; have e2 := y2.cell 0 rfl; have f2 := y2.frozen 0; have l2 := y2.lt))
          obtain ⟨dt, hds⟩ : ∃ dt, dt = ds ++ [(fn, jn)] := ⟨_, rfl⟩
          obtain ⟨M, hM⟩ : ∃ M, M = ds.length + 1 := ⟨_, rfl⟩
          have hdl : dt.length = M := by rw [hds, hM]; simp
          have hd3 : w3'.ownsRow (w.heap.size + 2) 50 2 (.slice A3 M c3) dt.length (dfCells dt) := by
            rw [hdl, hds, dfCells_snoc, hM]
            exact ho3
          have HDN : Hid (∀ k, (Value.slice A3 M c3).ownBlock = some k → some k = (Value.slice Ad ds.length cd).ownBlock ∨ wr.heap.size ≤ k) := Lib.hid (fun k hk => by
            rw [hM] at hk
            rcases ha3 with h | h
            · exact .inl (hk.symm.trans h)
            · right
              rw [hk] at h
              injection h with h
              have := HZ2.out
              omega)
          have HGD : Hid ((Value.slice A3 M c3).ownBlock ≠ some w1.heap.size) := Lib.hid (fun hk => by
            rw [hM] at hk
            rcases ha3 with h | h
            · exact HNX.out (hk.symm.trans h)
            · rw [hk] at h
              injection h with h
              have := HZ2.out
              omega)
          rw [← hM] at ho3 ha3 ⊢
          have X2 : Bx (w3'.setCell ⟨w.heap.size + 1, 0, none⟩ (.slice A3 M c3)) (w.heap.size + 1) 41 #[.slice A3 M c3] := y2.set_ 0 (.slice A3 M c3)
          have X1 := (HX1a.out.grown hg3 HNA.out).far (a := ⟨w.heap.size + 1, 0, none⟩) (by dsimp only; omega) (.slice A3 M c3)
          have XG := (HXGa.out.grown hg3 HNX.out).far (a := ⟨w.heap.size + 1, 0, none⟩) (by dsimp only; omega) (.slice A3 M c3)
          have HQ3 := Lib.hid ((HQ2a.out.keep hg3 (own_sep HQ2a.out.1 HD2a.out tp_ne) (fun b hb => hb.2.2.1)).set (a := ⟨w.heap.size + 1, 0, none⟩) (.inr (fun e => by have := (HOB.out _ e).1; dsimp only at this; omega)) (fun b hb => by have := hb.1; dsimp only; omega) (.slice A3 M c3))
          have HD3 := Lib.hid (own_set (a := ⟨w.heap.size + 1, 0, none⟩) (u := .slice A3 M c3) hd3 (by dsimp only; omega))
          have B3 := bset (B2a.grown hg3 (by omega) (fun k hk => by have := (HDB.out k hk).1; omega)) ⟨w.heap.size + 1, 0, none⟩ (by dsimp only; omega) (.slice A3 M c3)
          have HDS := Lib.hid hds
          have HDL : Hid (dt.length = ds.length + 1) := Lib.hid (hdl.trans hM)
          clear y2 e2 f2 l2 u2 s2 ho3 hg3 ha3 hd3 hds B2a hz2
          generalize w3'.setCell ⟨w.heap.size + 1, 0, none⟩ (.slice A3 M c3) = w3 at *
          have HM := Lib.hid hM
          have hdl2 := hdl
          clear hM
          subst hdl2
          clear hdl
          obtain ⟨g0, g1, g2, g3, g4⟩ := XG.cells5
          have fg4 := XG.frozen 4
          have sg := XG.lt
          have s3 := X2.lt
          have z3 := B3.size
          have hbc := HBY.out (· < w.heap.size) w3 (HL.out.below B3 (fun _ _ h => h))
          go_wp2_with fail
          refine (bytes_Clone A1 n1 c1 pl w3 hbc (by omega)).mono ?_
          rintro e w4 ⟨A4, n4, c4, rfl, hB4, hb4⟩
          have X1 := X1.ext hb4
          have X2 := X2.ext hb4
          have XG := XG.ext hb4
          have B4 := B3.trans (hb4.mono z3)
          have HQ4 := Lib.hid (HQ3.out.ext hb4)
          have HD4 := Lib.hid (own_ext HD3.out hb4)
          have z4 := hb4.size
          have hld3 := World.ownsRow.lt HD3.out
          have HLD3 := Lib.hid hld3
          clear g0 g1 g2 g3 g4 fg4 s3 hbc hb4 hld3
          obtain ⟨g0, g1, g2, g3, g4⟩ := XG.cells5
          have fg4 := XG.frozen 4
          have sg4 := XG.lt
          have s4 := X2.lt
          go_upto_region 11 with fail
          have XG : Bx (w4.setCell ⟨w1.heap.size, 4, none⟩ (.slice A4 n4 c4)) w1.heap.size 28 #[.int .i64 pid, .int .i64 cnt, .bool st, .int .i64 clk, .slice A4 n4 c4] := XG.set_ 4 (.slice A4 n4 c4)
          have X1 := X1.far (a := ⟨w1.heap.size, 4, none⟩) (by dsimp only; omega) (.slice A4 n4 c4)
          have X2 := X2.far (a := ⟨w1.heap.size, 4, none⟩) (by dsimp only; omega) (.slice A4 n4 c4)
          have B5 := bset B4 ⟨w1.heap.size, 4, none⟩ (by dsimp only; omega) (.slice A4 n4 c4)
          have HQ5 := Lib.hid (HQ4.out.set (a := ⟨w1.heap.size, 4, none⟩) (.inr (fun e => by have := (HOB.out _ e).2; dsimp only at this; omega)) (fun b hb => by have := hb.2.2.2; dsimp only; omega) (.slice A4 n4 c4))
          have HD5 := Lib.hid (ownr_set HD4.out (a := ⟨w1.heap.size, 4, none⟩) (.inr (fun e => HGD.out e)) (.slice A4 n4 c4))
          have HP5 := Lib.hid (hB4.setCell (a := ⟨w1.heap.size, 4, none⟩) (by dsimp only; omega) (.slice A4 n4 c4))
          have sz5 : (w4.setCell ⟨w1.heap.size, 4, none⟩ (.slice A4 n4 c4)).heap.size = w4.heap.size := by simp [World.setCell]
          clear g0 g1 g2 g3 g4 fg4 hB4 B4
          generalize w4.setCell ⟨w1.heap.size, 4, none⟩ (.slice A4 n4 c4) = w5 at *
          obtain ⟨g0, g1, g2, g3, g4⟩ := XG.cells5
          have u1 := X1.cell 0 rfl
          have s5 := X2.lt
          have HX1 := Lib.hid (X1.alloc (.cells #[.int .i64 pid, .int .i64 cnt, .bool st, .int .i64 clk, .slice A4 n4 c4] 28))
          have HX2 := Lib.hid (X2.alloc (.cells #[.int .i64 pid, .int .i64 cnt, .bool st, .int .i64 clk, .slice A4 n4 c4] 28))
          have HQ6 := Lib.hid (HQ5.out.alloc (.cells #[.int .i64 pid, .int .i64 cnt, .bool st, .int .i64 clk, .slice A4 n4 c4] 28))
          have HD6 := Lib.hid (World.ownsRow.alloc HD5.out (.cells #[.int .i64 pid, .int .i64 cnt, .bool st, .int .i64 clk, .slice A4 n4 c4] 28))
          have HP6 := Lib.hid (HP5.out.alloc (.cells #[.int .i64 pid, .int .i64 cnt, .bool st, .int .i64 clk, .slice A4 n4 c4] 28))
          have B6 := B5.alloc B5.size (.cells #[.int .i64 pid, .int .i64 cnt, .bool st, .int .i64 clk, .slice A4 n4 c4] 28)
          have z6 : w.heap.size + 2 ≤ (w5.alloc (.cells #[.int .i64 pid, .int .i64 cnt, .bool st, .int .i64 clk, .slice A4 n4 c4] 28)).heap.size := by simp; omega
          have HN1 : Hid (some w.heap.size ≠ (Value.slice Ao qs.length co).ownBlock) := Lib.hid (fun e => by have := (HOB.out _ e.symm).1; omega)
          have HN2 : Hid (some (w.heap.size + 1) ≠ (Value.slice Ao qs.length co).ownBlock) := Lib.hid (fun e => by have := (HOB.out _ e.symm).1; omega)
          have z5b : (w5.alloc (.cells #[.int .i64 pid, .int .i64 cnt, .bool st, .int .i64 clk, .slice A4 n4 c4] 28)).heap.size = w5.heap.size + 1 := by simp
          have HZ5 := Lib.hid z5b
          have HSZ5 := Lib.hid sz5
          clear z5b sz5
          go_upto_region 12 with (at_builtin; go_must (refine wpList_appR _ rfl (.tmp 36) (.tmp 38) 40 rfl 28 (.agg #[.int .i64 0, .int .i64 0, .bool false, .int .i64 0, .slice none 0 0]) 5 56 Try.underlying40 Try.infoTP rfl (by decide) (w.heap.size + 2) (.slice Ao qs.length co) qs.length _ rfl HQ6.out.1 (some ⟨w5.heap.size, 0, none⟩) 1 1 [.int .i64 pid, .int .i64 cnt, .bool st, .int .i64 clk, .slice A4 n4 c4] rfl (Rw.lit (p := fun _ => True) _ _ _ rfl 1 5 rfl rfl trivial) (by simp [Value.oneCell']) (by omega) (by omega) z6 ?_; intro v7 w7 ho7 hg7 ha7; obtain ⟨A7, c7, rfl⟩ := own_slice ho7; have y1 := HX1.out.grown hg7 HN1.out; have y2 := HX2.out.grown hg7 HN2.out; have e1 := y1.cell 0 rfl; have f1 := y1.frozen 0; have l1 := y2.lt))
          have HR7 : Hid (OwnT w7 (w.heap.size + 2) 28 (.slice A7 (qs.length + 1) c7) (Value.slice A3 dt.length c3).ownBlock (qs ++ [⟨⟨pid, cnt, st, clk, pl⟩, A4, n4, c4⟩])) := Lib.hid (by
            have hA7 : ∀ k, (Value.slice A7 (qs.length + 1) c7).ownBlock = some k → some k = (Value.slice Ao qs.length co).ownBlock ∨ w5.heap.size < k := by
              intro k hk
              rcases ha7 with h | h
              · exact .inl (hk.symm.trans h)
              · right
                rw [hk] at h
                injection h with h
                have := HZ5.out
                omega
            refine ⟨by rw [tpCells_snoc, List.length_append]; exact ho7, fun x hx => ?_⟩
            rcases List.mem_append.1 hx with hx | hx
            · refine ((HQ6.out.2 x hx).grown hg7 (fun b hb => hb.2.1)).mono (fun b _ hb => ⟨hb.1, fun e => ?_, fun e => ?_⟩)
              · rcases hA7 b e.symm with h | h
                · exact hb.2.1 h
                · have := hb.2.2.2; have := HSZ5.out; omega
              · rcases HDN.out b e.symm with h | h
                · exact hb.2.2.1 h
                · have := hb.2.2.2; omega
            · rw [List.mem_singleton] at hx
              subst hx
              refine ((HP6.out.mono (q := fun b => w3.heap.size ≤ b ∧ b < w5.heap.size + 1) (fun b hb h => ⟨h, by have := HZ5.out; omega⟩)).grown hg7 (fun b hb e => by have := (HOB.out _ e.symm).2; have := hb.1; omega)).mono (fun b _ hb => ⟨by have := hb.1; omega, fun e => ?_, fun e => ?_⟩)
              · rcases hA7 b e.symm with h | h
                · have := (HOB.out _ h.symm).2; have := hb.1; omega
                · have := hb.2; omega
              · have := (HLD3.out b e.symm).2; have := hb.1; omega)
          have X1 : Bx (w7.setCell ⟨w.heap.size, 0, none⟩ (.slice A7 (qs.length + 1) c7)) w.heap.size 40 #[.slice A7 (qs.length + 1) c7] := y1.set_ 0 (.slice A7 (qs.length + 1) c7)
          have X2 := y2.far (a := ⟨w.heap.size, 0, none⟩) (by dsimp only; omega) (.slice A7 (qs.length + 1) c7)
          have HT7 := Lib.hid (HR7.out.setCell (a := ⟨w.heap.size, 0, none⟩) (by dsimp only; omega) (.slice A7 (qs.length + 1) c7))
          have hsp : (Value.slice A3 dt.length c3).ownBlock = none ∨ (Value.slice A3 dt.length c3).ownBlock ≠ (Value.slice Ao qs.length co).ownBlock := own_sep HD6.out HQ6.out.1 (fun e => tp_ne e.symm)
          have HD7 := Lib.hid (own_set (a := ⟨w.heap.size, 0, none⟩) (u := .slice A7 (qs.length + 1) c7) (World.ownsRow.kept HD6.out hg7 hsp) (by dsimp only; omega))
          have B7 := bset (B6.grown hg7 (by have := B6.size; omega) (fun k hk => by have := (HOB.out k hk).1; omega)) ⟨w.heap.size, 0, none⟩ (Nat.le_refl _) (.slice A7 (qs.length + 1) c7)
          clear e1 f1 l1 ho7 hg7 ha7 hsp y1 y2 XG g0 g1 g2 g3 g4 u1
          go_wp2_with fail
          go_roundw
          case rel =>
            refine ⟨jn + 188, jn + 188, qs ++ [⟨⟨pid, cnt, st, clk, pl⟩, A4, n4, c4⟩], dt, _, _, by go_num, by go_num, by omega, by omega, ?_, X1, X2, HT7.out, HD7.out, B7, ?_, by simp; omega⟩
            · have := HS.out.take (by rw [HLEN.out]; exact hlt) HBG2.out
              rw [if_pos hfj, ← HDS.out] at this
              simpa [datas] using this
            · first | omega | (have := HDL.out; omega) | (simp; omega)
          case measure => (simp [intOf]; try omega)
        · have HQ3 := HQ2
          have HD3 := HD2
          have B3 := B2
          have HDN : Hid (∀ k, (Value.slice Ad ds.length cd).ownBlock = some k → some k = (Value.slice Ad ds.length cd).ownBlock ∨ wr.heap.size ≤ k) := Lib.hid (fun k h => .inl h.symm)
          have HGD : Hid ((Value.slice Ad ds.length cd).ownBlock ≠ some w1.heap.size) := Lib.hid (fun e => HNX.out e.symm)
          go_upto_region 10 with fail
          obtain ⟨w3, hw3⟩ : ∃ w3, w3 = w2 := ⟨_, rfl⟩
          subst hw3
          obtain ⟨g0, g1, g2, g3, g4⟩ := XG.cells5
          have fg4 := XG.frozen 4
          have sg := XG.lt
          have s3 := X2.lt
          have z3 := B3.size
          have hbc := HBY.out (· < w.heap.size) w3 (HL.out.below B3 (fun _ _ h => h))
          go_wp2_with fail
          refine (bytes_Clone A1 n1 c1 pl w3 hbc (by omega)).mono ?_
          rintro e w4 ⟨A4, n4, c4, rfl, hB4, hb4⟩
          have X1 := X1.ext hb4
          have X2 := X2.ext hb4
          have XG := XG.ext hb4
          have B4 := B3.trans (hb4.mono z3)
          have HQ4 := Lib.hid (HQ3.out.ext hb4)
          have HD4 := Lib.hid (own_ext HD3.out hb4)
          have z4 := hb4.size
          have hld3 := World.ownsRow.lt HD3.out
          have HLD3 := Lib.hid hld3
          clear g0 g1 g2 g3 g4 fg4 s3 hbc hb4 hld3
          obtain ⟨g0, g1, g2, g3, g4⟩ := XG.cells5
          have fg4 := XG.frozen 4
          have sg4 := XG.lt
          have s4 := X2.lt
          go_upto_region 11 with fail
          have XG : Bx (w4.setCell ⟨w1.heap.size, 4, none⟩ (.slice A4 n4 c4)) w1.heap.size 28 #[.int .i64 pid, .int .i64 cnt, .bool st, .int .i64 clk, .slice A4 n4 c4] := XG.set_ 4 (.slice A4 n4 c4)
          have X1 := X1.far (a := ⟨w1.heap.size, 4, none⟩) (by dsimp only; omega) (.slice A4 n4 c4)
          have X2 := X2.far (a := ⟨w1.heap.size, 4, none⟩) (by dsimp only; omega) (.slice A4 n4 c4)
          have B5 := bset B4 ⟨w1.heap.size, 4, none⟩ (by dsimp only; omega) (.slice A4 n4 c4)
          have HQ5 := Lib.hid (HQ4.out.set (a := ⟨w1.heap.size, 4, none⟩) (.inr (fun e => by have := (HOB.out _ e).2; dsimp only at this; omega)) (fun b hb => by have := hb.2.2.2; dsimp only; omega) (.slice A4 n4 c4))
          have HD5 := Lib.hid (ownr_set HD4.out (a := ⟨w1.heap.size, 4, none⟩) (.inr (fun e => HGD.out e)) (.slice A4 n4 c4))
          have HP5 := Lib.hid (hB4.setCell (a := ⟨w1.heap.size, 4, none⟩) (by dsimp only; omega) (.slice A4 n4 c4))
          have sz5 : (w4.setCell ⟨w1.heap.size, 4, none⟩ (.slice A4 n4 c4)).heap.size = w4.heap.size := by simp [World.setCell]
          clear g0 g1 g2 g3 g4 fg4 hB4 B4
          generalize w4.setCell ⟨w1.heap.size, 4, none⟩ (.slice A4 n4 c4) = w5 at *
          obtain ⟨g0, g1, g2, g3, g4⟩ := XG.cells5
          have u1 := X1.cell 0 rfl
          have s5 := X2.lt
          have HX1 := Lib.hid (X1.alloc (.cells #[.int .i64 pid, .int .i64 cnt, .bool st, .int .i64 clk, .slice A4 n4 c4] 28))
          have HX2 := Lib.hid (X2.alloc (.cells #[.int .i64 pid, .int .i64 cnt, .bool st, .int .i64 clk, .slice A4 n4 c4] 28))
          have HQ6 := Lib.hid (HQ5.out.alloc (.cells #[.int .i64 pid, .int .i64 cnt, .bool st, .int .i64 clk, .slice A4 n4 c4] 28))
          have HD6 := Lib.hid (World.ownsRow.alloc HD5.out (.cells #[.int .i64 pid, .int .i64 cnt, .bool st, .int .i64 clk, .slice A4 n4 c4] 28))
          have HP6 := Lib.hid (HP5.out.alloc (.cells #[.int .i64 pid, .int .i64 cnt, .bool st, .int .i64 clk, .slice A4 n4 c4] 28))
          have B6 := B5.alloc B5.size (.cells #[.int .i64 pid, .int .i64 cnt, .bool st, .int .i64 clk, .slice A4 n4 c4] 28)
          have z6 : w.heap.size + 2 ≤ (w5.alloc (.cells #[.int .i64 pid, .int .i64 cnt, .bool st, .int .i64 clk, .slice A4 n4 c4] 28)).heap.size := by simp; omega
          have HN1 : Hid (some w.heap.size ≠ (Value.slice Ao qs.length co).ownBlock) := Lib.hid (fun e => by have := (HOB.out _ e.symm).1; omega)
          have HN2 : Hid (some (w.heap.size + 1) ≠ (Value.slice Ao qs.length co).ownBlock) := Lib.hid (fun e => by have := (HOB.out _ e.symm).1; omega)
          have z5b : (w5.alloc (.cells #[.int .i64 pid, .int .i64 cnt, .bool st, .int .i64 clk, .slice A4 n4 c4] 28)).heap.size = w5.heap.size + 1 := by simp
          have HZ5 := Lib.hid z5b
          have HSZ5 := Lib.hid sz5
          clear z5b sz5
          go_upto_region 12 with (at_builtin; go_must (refine wpList_appR _ rfl (.tmp 36) (.tmp 38) 40 rfl 28 (.agg #[.int .i64 0, .int .i64 0, .bool false, .int .i64 0, .slice none 0 0]) 5 56 Try.underlying40 Try.infoTP rfl (by decide) (w.heap.size + 2) (.slice Ao qs.length co) qs.length _ rfl HQ6.out.1 (some ⟨w5.heap.size, 0, none⟩) 1 1 [.int .i64 pid, .int .i64 cnt, .bool st, .int .i64 clk, .slice A4 n4 c4] rfl (Rw.lit (p := fun _ => True) _ _ _ rfl 1 5 rfl rfl trivial) (by simp [Value.oneCell']) (by omega) (by omega) z6 ?_; intro v7 w7 ho7 hg7 ha7; obtain ⟨A7, c7, rfl⟩ := own_slice ho7; have y1 := HX1.out.grown hg7 HN1.out; have y2 := HX2.out.grown hg7 HN2.out; have e1 := y1.cell 0 rfl; have f1 := y1.frozen 0; have l1 := y2.lt))
          have HR7 : Hid (OwnT w7 (w.heap.size + 2) 28 (.slice A7 (qs.length + 1) c7) (Value.slice Ad ds.length cd).ownBlock (qs ++ [⟨⟨pid, cnt, st, clk, pl⟩, A4, n4, c4⟩])) := Lib.hid (by
            have hA7 : ∀ k, (Value.slice A7 (qs.length + 1) c7).ownBlock = some k → some k = (Value.slice Ao qs.length co).ownBlock ∨ w5.heap.size < k := by
              intro k hk
              rcases ha7 with h | h
              · exact .inl (hk.symm.trans h)
              · right
                rw [hk] at h
                injection h with h
                have := HZ5.out
                omega
            refine ⟨by rw [tpCells_snoc, List.length_append]; exact ho7, fun x hx => ?_⟩
            rcases List.mem_append.1 hx with hx | hx
            · refine ((HQ6.out.2 x hx).grown hg7 (fun b hb => hb.2.1)).mono (fun b _ hb => ⟨hb.1, fun e => ?_, fun e => ?_⟩)
              · rcases hA7 b e.symm with h | h
                · exact hb.2.1 h
                · have := hb.2.2.2; have := HSZ5.out; omega
              · rcases HDN.out b e.symm with h | h
                · exact hb.2.2.1 h
                · have := hb.2.2.2; omega
            · rw [List.mem_singleton] at hx
              subst hx
              refine ((HP6.out.mono (q := fun b => w3.heap.size ≤ b ∧ b < w5.heap.size + 1) (fun b hb h => ⟨h, by have := HZ5.out; omega⟩)).grown hg7 (fun b hb e => by have := (HOB.out _ e.symm).2; have := hb.1; omega)).mono (fun b _ hb => ⟨by have := hb.1; omega, fun e => ?_, fun e => ?_⟩)
              · rcases hA7 b e.symm with h | h
                · have := (HOB.out _ h.symm).2; have := hb.1; omega
                · have := hb.2; omega
              · have := (HLD3.out b e.symm).2; have := hb.1; omega)
          have X1 : Bx (w7.setCell ⟨w.heap.size, 0, none⟩ (.slice A7 (qs.length + 1) c7)) w.heap.size 40 #[.slice A7 (qs.length + 1) c7] := y1.set_ 0 (.slice A7 (qs.length + 1) c7)
          have X2 := y2.far (a := ⟨w.heap.size, 0, none⟩) (by dsimp only; omega) (.slice A7 (qs.length + 1) c7)
          have HT7 := Lib.hid (HR7.out.setCell (a := ⟨w.heap.size, 0, none⟩) (by dsimp only; omega) (.slice A7 (qs.length + 1) c7))
          have hsp : (Value.slice Ad ds.length cd).ownBlock = none ∨ (Value.slice Ad ds.length cd).ownBlock ≠ (Value.slice Ao qs.length co).ownBlock := own_sep HD6.out HQ6.out.1 (fun e => tp_ne e.symm)
          have HD7 := Lib.hid (own_set (a := ⟨w.heap.size, 0, none⟩) (u := .slice A7 (qs.length + 1) c7) (World.ownsRow.kept HD6.out hg7 hsp) (by dsimp only; omega))
          have B7 := bset (B6.grown hg7 (by have := B6.size; omega) (fun k hk => by have := (HOB.out k hk).1; omega)) ⟨w.heap.size, 0, none⟩ (Nat.le_refl _) (.slice A7 (qs.length + 1) c7)
          clear e1 f1 l1 ho7 hg7 ha7 hsp y1 y2 XG g0 g1 g2 g3 g4 u1
          go_wp2_with fail
          go_roundw
          case rel =>
            refine ⟨jn + 188, jn + 188, qs ++ [⟨⟨pid, cnt, st, clk, pl⟩, A4, n4, c4⟩], ds, _, _, by go_num, by go_num, by omega, by omega, ?_, X1, X2, HT7.out, HD7.out, B7, ?_, by simp; omega⟩
            · have := HS.out.take (by rw [HLEN.out]; exact hlt) HBG2.out
              rw [if_neg hfj] at this
              simpa [datas] using this
            · first | omega | (have := HDL.out; omega) | (simp; omega)
          case measure => (simp [intOf]; try omega)
    · have hjn : jn = n := by omega
      subst hjn
      have HST : Hid (scanL l = (datas qs, if fn < jn then ds ++ [(fn, jn)] else ds)) := Lib.hid (by have := HS.out.stop (by rw [HLEN.out]; exact Nat.le_refl _); rwa [HLEN.out] at this)
      have hdl := World.ownsRow.lt HD.out
      have hol := World.ownsRow.lt HO.out.1
      by_cases hfj : fn < jn
      · have HO3 := Lib.hid (HO.out.alloc (.cells #[.int .i64 (fn : Int), .int .i64 (jn : Int)] 50))
        have HD3 := Lib.hid (World.ownsRow.alloc HD.out (.cells #[.int .i64 (fn : Int), .int .i64 (jn : Int)] 50))
        have HX1 := Lib.hid (x1.alloc (.cells #[.int .i64 (fn : Int), .int .i64 (jn : Int)] 50))
        have HX2 := Lib.hid (x2.alloc (.cells #[.int .i64 (fn : Int), .int .i64 (jn : Int)] 50))
        have B3 := hb.alloc zb (.cells #[.int .i64 (fn : Int), .int .i64 (jn : Int)] 50)
        have z3 : w.heap.size + 2 ≤ (wr.alloc (.cells #[.int .i64 (fn : Int), .int .i64 (jn : Int)] 50)).heap.size := by simp; omega
        have HNA : Hid (some w.heap.size ≠ (Value.slice Ad ds.length cd).ownBlock) := Lib.hid (fun e => by have := (hdl _ e.symm).1; omega)
        have HNB : Hid (some (w.heap.size + 1) ≠ (Value.slice Ad ds.length cd).ownBlock) := Lib.hid (fun e => by have := (hdl _ e.symm).1; omega)
        have u2 := x2.cell 0 rfl
        have HDLT := Lib.hid hdl
        clear hdl hol
        go_upto_region 16 with (at_builtin; go_must (refine wpList_appR _ rfl (.tmp 47) (.tmp 52) 41 rfl 50 (.agg #[.int .i64 0, .int .i64 0]) 2 16 Try.underlying41 Try.infoDP rfl (by decide) (w.heap.size + 2) (.slice Ad ds.length cd) ds.length _ rfl HD3.out (some ⟨wr.heap.size, 0, none⟩) 1 1 [.int .i64 (fn : Int), .int .i64 (jn : Int)] rfl (Rw.lit (p := fun _ => True) _ _ _ rfl 1 2 rfl rfl trivial) (by simp [Value.oneCell']) (by omega) (by omega) z3 ?_; intro v3 w3 ho3 hg3 ha3; obtain ⟨A3, c3, rfl⟩ := own_slice ho3; have y2 := HX2.out.grown hg3 HNB.out; have e2 := y2.cell 0 rfl; have f2 := y2.frozen 0; have l2 := y2.lt))
        have hpk := HO3.out.keep (ex' := none) hg3 (own_sep HO3.out.1 HD3.out tp_ne) (fun b _ _ _ h => h) (fun b _ _ => by simp)
        have X2 : Bx (w3.setCell ⟨w.heap.size + 1, 0, none⟩ (.slice A3 (ds.length + 1) c3)) (w.heap.size + 1) 41 #[.slice A3 (ds.length + 1) c3] := y2.set_ 0 (.slice A3 (ds.length + 1) c3)
        have X1 := (HX1.out.grown hg3 HNA.out).far (a := ⟨w.heap.size + 1, 0, none⟩) (by dsimp only; omega) (.slice A3 (ds.length + 1) c3)
        have HPK := Lib.hid (hpk.setCell (a := ⟨w.heap.size + 1, 0, none⟩) (by dsimp only; omega) (.slice A3 (ds.length + 1) c3))
        have HD4 := Lib.hid (own_set (a := ⟨w.heap.size + 1, 0, none⟩) (u := .slice A3 (ds.length + 1) c3) ho3 (by dsimp only; omega))
        have B4 := bset (B3.grown hg3 (by omega) (fun k hk => by have := (HDLT.out k hk).1; omega)) ⟨w.heap.size + 1, 0, none⟩ (by dsimp only; omega) (.slice A3 (ds.length + 1) c3)
        clear y2 e2 f2 l2 u2 ho3 hg3 ha3 hpk x1 x2 hb B3
        generalize w3.setCell ⟨w.heap.size + 1, 0, none⟩ (.slice A3 (ds.length + 1) c3) = w4 at *
        have c1 := X1.cell 0 rfl
        have c2 := X2.cell 0 rfl
        have f1 := X1.frozen 0
        have f2 := X2.frozen 0
        have l2 := X2.lt
        have Y1 : Bx (w4.setCell ⟨w.heap.size, 0, none⟩ (.slice Ao qs.length co)) w.heap.size 40 #[.slice Ao qs.length co] := X1.set_ 0 (.slice Ao qs.length co)
        have Y2 := X2.far (a := ⟨w.heap.size, 0, none⟩) (by dsimp only; omega) (.slice Ao qs.length co)
        have Z1 := (Y1.far (a := ⟨w.heap.size + 1, 0, none⟩) (by dsimp only; omega) (.slice A3 (ds.length + 1) c3)).drew
        have Z2 : Bx ((w4.setCell ⟨w.heap.size, 0, none⟩ (.slice Ao qs.length co)).setCell ⟨w.heap.size + 1, 0, none⟩ (.slice A3 (ds.length + 1) c3)).drew (w.heap.size + 1) 41 #[.slice A3 (ds.length + 1) c3] := (Y2.set_ 0 (.slice A3 (ds.length + 1) c3)).drew
        have BZ := (bset (bset B4 ⟨w.heap.size, 0, none⟩ (Nat.le_refl _) (.slice Ao qs.length co)) ⟨w.heap.size + 1, 0, none⟩ (by dsimp only; omega) (.slice A3 (ds.length + 1) c3)).drew
        have KS0 := Lib.hid (And.intro (X1.drew.cell 0 rfl) (X2.drew.cell 0 rfl))
        have KS1 := Lib.hid (And.intro (Y1.drew.cell 0 rfl) (Y2.drew.cell 0 rfl))
        have KS2 := Lib.hid (And.intro (Z1.cell 0 rfl) (Z2.cell 0 rfl))
        have KP : Hid (∀ (A : Option Addr), TPks (w.heap.size + 2 ≤ ·) (w.heap.size + 2 ≤ ·) w4 A qs.length qs → TPks (w.heap.size ≤ ·) (w.heap.size ≤ ·) ((w4.setCell ⟨w.heap.size, 0, none⟩ (.slice Ao qs.length co)).setCell ⟨w.heap.size + 1, 0, none⟩ (.slice A3 (ds.length + 1) c3)).drew A qs.length qs) := Lib.hid (fun A h => (((h.setCell (a := ⟨w.heap.size, 0, none⟩) (by dsimp only; omega) (by dsimp only; omega) _).setCell (a := ⟨w.heap.size + 1, 0, none⟩) (by dsimp only; omega) (by dsimp only; omega) _).drew).mono (fun _ _ h => by omega) (fun _ _ h => by omega))
        have KR : Hid (∀ (A : Option Addr) (n : Nat) (xs : List Value), Rw (w.heap.size + 2 ≤ ·) w4 A n 2 xs → Rw (w.heap.size ≤ ·) ((w4.setCell ⟨w.heap.size, 0, none⟩ (.slice Ao qs.length co)).setCell ⟨w.heap.size + 1, 0, none⟩ (.slice A3 (ds.length + 1) c3)).drew A n 2 xs) := Lib.hid (fun A n xs h => (((h.setCell (a := ⟨w.heap.size, 0, none⟩) (by dsimp only; omega) _).setCell (a := ⟨w.heap.size + 1, 0, none⟩) (by dsimp only; omega) _).drew).mono (fun _ _ h => by omega))
        have fz1 := Y1.frozen 0
        have fz2 := Y2.frozen 0
        go_region_held3 (fun w' => w'.cell? ⟨w.heap.size, 0, none⟩ = some (.slice Ao qs.length co) ∧ w'.cell? ⟨w.heap.size + 1, 0, none⟩ = some (.slice A3 (ds.length + 1) c3)) (first | exact KS0.out | exact KS1.out | exact KS2.out | go_keep) (fail)
        go_wp2_with fail
        obtain ⟨A5, c5, hv5, hpks⟩ := HPK.out.pks
        injection hv5 with e1 e2 e3
        subst e1 e3
        obtain ⟨A6, c6, hv6, hr6⟩ := own_rw (p := (w.heap.size + 2 ≤ ·)) HD4.out (fun _ h => h)
        injection hv6 with e1 e2 e3
        subst e1 e3
        refine trscan_leave (w := w) (qs := qs) (ds := ds ++ [(fn, jn)]) _ _ rfl rfl rfl Z1 Z2 rfl rfl ?_ ?_ (by simp) ?_ ?_ BZ
        · exact KP.out _ hpks
        · rw [dfCells_snoc]
          exact KR.out _ _ _ hr6
        · rw [HST.out]
        · rw [HST.out, if_pos hfj]
      · have HPK := HO
        have HD4 := HD
        have X1 := x1
        have X2 := x2
        have B4 := hb
        clear hdl hol
        go_upto_region 16 with fail
        obtain ⟨w4, hw4⟩ : ∃ w4, w4 = wr := ⟨_, rfl⟩
        subst hw4
        have c1 := X1.cell 0 rfl
        have c2 := X2.cell 0 rfl
        have f1 := X1.frozen 0
        have f2 := X2.frozen 0
        have l2 := X2.lt
        have Y1 : Bx (w4.setCell ⟨w.heap.size, 0, none⟩ (.slice Ao qs.length co)) w.heap.size 40 #[.slice Ao qs.length co] := X1.set_ 0 (.slice Ao qs.length co)
        have Y2 := X2.far (a := ⟨w.heap.size, 0, none⟩) (by dsimp only; omega) (.slice Ao qs.length co)
        have Z1 := (Y1.far (a := ⟨w.heap.size + 1, 0, none⟩) (by dsimp only; omega) (.slice Ad ds.length cd)).drew
        have Z2 : Bx ((w4.setCell ⟨w.heap.size, 0, none⟩ (.slice Ao qs.length co)).setCell ⟨w.heap.size + 1, 0, none⟩ (.slice Ad ds.length cd)).drew (w.heap.size + 1) 41 #[.slice Ad ds.length cd] := (Y2.set_ 0 (.slice Ad ds.length cd)).drew
        have BZ := (bset (bset B4 ⟨w.heap.size, 0, none⟩ (Nat.le_refl _) (.slice Ao qs.length co)) ⟨w.heap.size + 1, 0, none⟩ (by dsimp only; omega) (.slice Ad ds.length cd)).drew
        have KS0 := Lib.hid (And.intro (X1.drew.cell 0 rfl) (X2.drew.cell 0 rfl))
        have KS1 := Lib.hid (And.intro (Y1.drew.cell 0 rfl) (Y2.drew.cell 0 rfl))
        have KS2 := Lib.hid (And.intro (Z1.cell 0 rfl) (Z2.cell 0 rfl))
        have KP : Hid (∀ (A : Option Addr), TPks (w.heap.size + 2 ≤ ·) (w.heap.size + 2 ≤ ·) w4 A qs.length qs → TPks (w.heap.size ≤ ·) (w.heap.size ≤ ·) ((w4.setCell ⟨w.heap.size, 0, none⟩ (.slice Ao qs.length co)).setCell ⟨w.heap.size + 1, 0, none⟩ (.slice Ad ds.length cd)).drew A qs.length qs) := Lib.hid (fun A h => (((h.setCell (a := ⟨w.heap.size, 0, none⟩) (by dsimp only; omega) (by dsimp only; omega) _).setCell (a := ⟨w.heap.size + 1, 0, none⟩) (by dsimp only; omega) (by dsimp only; omega) _).drew).mono (fun _ _ h => by omega) (fun _ _ h => by omega))
        have KR : Hid (∀ (A : Option Addr) (n : Nat) (xs : List Value), Rw (w.heap.size + 2 ≤ ·) w4 A n 2 xs → Rw (w.heap.size ≤ ·) ((w4.setCell ⟨w.heap.size, 0, none⟩ (.slice Ao qs.length co)).setCell ⟨w.heap.size + 1, 0, none⟩ (.slice Ad ds.length cd)).drew A n 2 xs) := Lib.hid (fun A n xs h => (((h.setCell (a := ⟨w.heap.size, 0, none⟩) (by dsimp only; omega) _).setCell (a := ⟨w.heap.size + 1, 0, none⟩) (by dsimp only; omega) _).drew).mono (fun _ _ h => by omega))
        have fz1 := Y1.frozen 0
        have fz2 := Y2.frozen 0
        go_region_held3 (fun w' => w'.cell? ⟨w.heap.size, 0, none⟩ = some (.slice Ao qs.length co) ∧ w'.cell? ⟨w.heap.size + 1, 0, none⟩ = some (.slice Ad ds.length cd)) (first | exact KS0.out | exact KS1.out | exact KS2.out | go_keep) (fail)
        go_wp2_with fail
        obtain ⟨A5, c5, hv5, hpks⟩ := HPK.out.pks
        injection hv5 with e1 e2 e3
        subst e1 e3
        obtain ⟨A6, c6, hv6, hr6⟩ := own_rw (p := (w.heap.size + 2 ≤ ·)) HD4.out (fun _ h => h)
        injection hv6 with e1 e2 e3
        subst e1 e3
        refine trscan_leave (w := w) (qs := qs) (ds := ds) _ _ rfl rfl rfl Z1 Z2 rfl rfl ?_ ?_ rfl ?_ ?_ BZ
        · exact KP.out _ hpks
        · exact KR.out _ _ _ hr6
        · rw [HST.out]
        · rw [HST.out, if_neg hfj]
end Go.Proofs.Ytdnchjmopkhnaaa
