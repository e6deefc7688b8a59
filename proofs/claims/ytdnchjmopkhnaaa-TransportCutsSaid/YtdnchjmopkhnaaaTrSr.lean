/- The reference's Scan. -/
import Derived.Test.YtdnchjmopkhnaaaTrPk
import Derived.Test.YtdnchjmopkhnaaaTrBg
namespace Go.Proofs.Ytdnchjmopkhnaaa
open Go.RowKit

/-- What Scan returns: rows of new memory. -/
def RetSc (w : World) (l : List Int) (e : Ending) (w' : World) : Prop :=
  ∃ A n c A2 n2 c2 qs ds, e = .returned (.tuple #[.slice A n c, .slice A2 n2 c2]) ∧ TPks (w.heap.size ≤ ·) (w.heap.size ≤ ·) w' A n qs ∧ Rw (w.heap.size ≤ ·) w' A2 n2 2 (dfCells ds) ∧ ds.length = n2 ∧ datas qs = (scanL l).1 ∧ ds = (scanL l).2 ∧ Below w.heap.size w w'
/-- The reference's scan at place j. -/
def RsRel (w : World) (l : List Int) (n : Nat) (o d f j : Value) (wr : World) : Prop :=
  ∃ (jn fn : Nat) (qs : List TA) (ds : List (Nat × Nat)), j = .int .i64 (jn : Int) ∧ f = .int .i64 (fn : Int) ∧ jn ≤ n ∧ fn ≤ jn ∧ ScanAt l jn fn (datas qs) ds ∧
    OwnT wr w.heap.size 24 o d.ownBlock qs ∧ OwnD wr w.heap.size 51 d ds ∧ Below w.heap.size w wr ∧ ds.length ≤ jn ∧ qs.length ≤ jn
theorem tr_ne : 24 ≠ 51 := by decide

set_option maxRecDepth 100000 in
set_option maxHeartbeats 4000000 in
theorem ref_Scan {q : Nat → Prop} (A : Option Addr) (n c : Nat) (l : List Int) (w : World) (hl : Byt q w A n l) (hc : n ≤ c) (hn : n ≤ 5000) :
    Calls Try.prog 20 #[.slice A n c] w (RetSc w l) := by
  have hlen := hl.len
  have HLEN := Lib.hid hlen
  have hl1 := hl.mono (q := (· < w.heap.size)) (fun b h _ => h)
  have HL := Lib.hid hl1
  clear hl hl1 hlen
  go_enter Try.func20, Try.ntmps20
  go_wp2_with fail
  go_loopw [4, 5, 6, 7] (fun o d f j wr => RsRel w l n o d f j wr) (fun _ _ _ j _ => n - (intOf j).toNat)
  case atStart => exact ⟨0, 0, [], [], rfl, rfl, by omega, by omega, ScanAt.start l, OwnT.nil, World.ownsRow_nil _ _ _ _, Below.refl _ _, by simp, by simp⟩
  case round =>
    obtain ⟨jn, fn, qs, ds, rfl, rfl, hj, hf, hS, ho, hd, hb, h1, h2⟩ := hrel
    obtain ⟨Ao, co, rfl⟩ := ho.slice
    obtain ⟨Ad, cd, rfl⟩ := own_slice hd
    have HS := Lib.hid hS
    have HO := Lib.hid ho
    have HD := Lib.hid hd
    have zb := hb.size
    clear hS ho hd
    by_cases hlt : jn < n
    · obtain ⟨b, off, rfl, hpb, hbl, hcl⟩ := (HL.out.below hb (fun _ _ h => h)).addr (by omega)
      have hlr := HL.out.below hb (fun _ _ h => h)
      have HLR := Lib.hid hlr
      clear hcl hlr
      go_wp2_with fail
      refine (ref_begins b off n c jn l wr HLR.out hc hlt hn).mono ?_
      rintro e w1 ⟨pid, cnt, st, clk, A1, n1, c1, pl, ok, rfl, hB1, hb1, hbg⟩
      have HB1 := Lib.hid hB1
      have HBG := Lib.hid hbg
      have B1 := hb.trans (hb1.mono zb)
      have z1 := hb1.size
      have HO1 := Lib.hid (HO.out.ext hb1)
      have HD1 := Lib.hid (own_ext HD.out hb1)
      clear hB1 hbg hb1
      cases ok with
      | false =>
        go_wp2_with fail
        go_roundw
        case rel => exact ⟨jn + 1, fn, qs, ds, by go_num, rfl, by omega, by omega, HS.out.skip (by rw [HLEN.out]; exact hlt) (by simpa using HBG.out), HO1.out.alloc _, World.ownsRow.alloc HD1.out _, B1.alloc B1.size _, by omega, by omega⟩
        case measure => (simp [intOf]; try omega)
      | true =>
        have hbg2 : begF l jn = some ⟨pid, cnt, st, clk, pl⟩ := by simpa using HBG.out
        have hbd := (begF_bound hbg2).1
        rw [HLEN.out] at hbd
        have HBG2 := Lib.hid hbg2
        clear hbg2
        go_upto_region 9 with fail
        have x2 := Bx.new w1 24 #[.int .i64 pid, .int .i64 cnt, .bool st, .int .i64 clk, .slice A1 n1 c1]
        have HO2 := Lib.hid (HO1.out.alloc (.cells #[.int .i64 pid, .int .i64 cnt, .bool st, .int .i64 clk, .slice A1 n1 c1] 24))
        have HD2 := Lib.hid (World.ownsRow.alloc HD1.out (.cells #[.int .i64 pid, .int .i64 cnt, .bool st, .int .i64 clk, .slice A1 n1 c1] 24))
        have B2 := B1.alloc B1.size (.cells #[.int .i64 pid, .int .i64 cnt, .bool st, .int .i64 clk, .slice A1 n1 c1] 24)
        have hp2 := HB1.out.alloc (.cells #[.int .i64 pid, .int .i64 cnt, .bool st, .int .i64 clk, .slice A1 n1 c1] 24)
        have hlo := World.ownsRow.lt HO.out.1
        have hld := World.ownsRow.lt HD.out
        have HP2 := Lib.hid (hp2.mono (q := fun b => w.heap.size ≤ b ∧ some b ≠ (Value.slice Ao qs.length co).ownBlock ∧ some b ≠ (Value.slice Ad ds.length cd).ownBlock) (fun b _ h => ⟨by omega, fun e => by have := (hlo b e.symm).2; omega, fun e => by have := (hld b e.symm).2; omega⟩))
        have HNX : Hid (some w1.heap.size ≠ (Value.slice Ad ds.length cd).ownBlock) := Lib.hid (fun e => by have := (hld _ e.symm).2; omega)
        clear hp2 hlo hld
        generalize w1.alloc (.cells #[.int .i64 pid, .int .i64 cnt, .bool st, .int .i64 clk, .slice A1 n1 c1] 24) = w2 at *
        clear B1 HB1 HO1 HD1
        by_cases hfj : fn < jn
        · have HO3 := Lib.hid (HO2.out.alloc (.cells #[.int .i64 (fn : Int), .int .i64 (jn : Int)] 51))
          have HD3 := Lib.hid (World.ownsRow.alloc HD2.out (.cells #[.int .i64 (fn : Int), .int .i64 (jn : Int)] 51))
          have HP3 := Lib.hid (HP2.out.alloc (.cells #[.int .i64 (fn : Int), .int .i64 (jn : Int)] 51))
          have x3 := x2.alloc (.cells #[.int .i64 (fn : Int), .int .i64 (jn : Int)] 51)
          have B3 := B2.alloc B2.size (.cells #[.int .i64 (fn : Int), .int .i64 (jn : Int)] 51)
          have z3 := B3.size
          go_upto_region 11 with (at_builtin; go_must (refine wpList_appR _ rfl (.tmp 27) (.tmp 31) 45 rfl 51 (.agg #[.int .i64 0, .int .i64 0]) 2 16 Try.underlying45 Try.infoDR rfl (by decide) w.heap.size (.slice Ad ds.length cd) ds.length _ rfl HD3.out (some ⟨w2.heap.size, 0, none⟩) 1 1 [.int .i64 (fn : Int), .int .i64 (jn : Int)] rfl (Rw.lit (p := fun _ => True) _ _ _ rfl 1 2 rfl rfl trivial) (by simp [Value.oneCell']) (by omega) (by omega) z3 ?_; intro v3 w3 ho3 hg3 ha3))
          have hd3 : OwnD w3 w.heap.size 51 v3 (ds ++ [(fn, jn)]) := by
            unfold OwnD
            rw [dfCells_snoc, List.length_append]
            exact ho3
          have hne3 : ∀ b, b < (w2.alloc (.cells #[.int .i64 (fn : Int), .int .i64 (jn : Int)] 51)).heap.size → some b ≠ (Value.slice Ad ds.length cd).ownBlock → some b ≠ v3.ownBlock := by
            intro b hb h
            rcases ha3 with h1 | h1
            · rw [h1]; exact h
            · rw [h1]
              intro e
              injection e with e
              omega
          have ho3' := HO3.out.keep hg3 (own_sep HO3.out.1 HD3.out tr_ne) (fun b _ _ _ h => h) hne3
          have hp3' := ((HP3.out.mono (q := fun b => b < (w2.alloc (.cells #[.int .i64 (fn : Int), .int .i64 (jn : Int)] 51)).heap.size ∧ w.heap.size ≤ b ∧ some b ≠ (Value.slice Ao qs.length co).ownBlock ∧ some b ≠ (Value.slice Ad ds.length cd).ownBlock) (fun b hb h => ⟨hb, h⟩)).grown hg3 (fun b h => h.2.2.2)).mono (q := fun b => w.heap.size ≤ b ∧ some b ≠ (Value.slice Ao qs.length co).ownBlock ∧ some b ≠ v3.ownBlock) (fun b _ h => ⟨h.2.1, h.2.2.1, hne3 b h.1 h.2.2.2⟩)
          have x3 := x3.grown hg3 HNX.out
          have B3 := B3.grown hg3 z3 (fun k hk => (World.ownsRow.lt HD3.out k hk).1)
          have HO3 := Lib.hid ho3'
          have HP3 := Lib.hid hp3'
          have HD3 := Lib.hid hd3
          clear ho3 hg3 ha3 hd3 hne3 ho3' hp3' z3 x2 B2 HO2 HD2 HP2
          obtain ⟨dt, hds⟩ : ∃ dt, dt = ds ++ [(fn, jn)] := ⟨_, rfl⟩
          have hdl : dt.length = ds.length + 1 := by rw [hds]; simp
          have HDL := Lib.hid hdl
          clear hdl
          rw [← hds] at HD3
          have HDS := Lib.hid hds
          clear hds
          obtain ⟨A3, c3, rfl⟩ := own_slice HD3.out
          have x4 := x3.alloc (.cells #[.int .i64 pid, .int .i64 cnt, .bool st, .int .i64 clk, .slice A1 n1 c1] 24)
          have HO4 := Lib.hid (HO3.out.alloc (.cells #[.int .i64 pid, .int .i64 cnt, .bool st, .int .i64 clk, .slice A1 n1 c1] 24))
          have HP4 := Lib.hid (HP3.out.alloc (.cells #[.int .i64 pid, .int .i64 cnt, .bool st, .int .i64 clk, .slice A1 n1 c1] 24))
          have HD4 := Lib.hid (World.ownsRow.alloc HD3.out (.cells #[.int .i64 pid, .int .i64 cnt, .bool st, .int .i64 clk, .slice A1 n1 c1] 24))
          have B4 := B3.alloc B3.size (.cells #[.int .i64 pid, .int .i64 cnt, .bool st, .int .i64 clk, .slice A1 n1 c1] 24)
          obtain ⟨g0, g1, g2, g3, g4⟩ := x3.cells5
          have s3 := x3.lt
          have z4 := B4.size
          go_wp2_with (at_builtin; go_must (refine wpList_appR _ rfl (.tmp 33) (.tmp 35) 44 rfl 24 (.agg #[.int .i64 0, .int .i64 0, .bool false, .int .i64 0, .slice none 0 0]) 5 56 Try.underlying44 Try.infoTR rfl (by decide) w.heap.size (.slice Ao qs.length co) qs.length _ rfl HO4.out.1 (some ⟨w3.heap.size, 0, none⟩) 1 1 [.int .i64 pid, .int .i64 cnt, .bool st, .int .i64 clk, .slice A1 n1 c1] rfl (Rw.lit (p := fun _ => True) _ _ _ rfl 1 5 rfl rfl trivial) (by simp [Value.oneCell']) (by omega) (by omega) z4 ?_; intro v5 w5 ho5 hg5 ha5))
          have HO5 := Lib.hid (OwnT.app (x := ⟨⟨pid, cnt, st, clk, pl⟩, A1, n1, c1⟩) HO4.out ho5 hg5 ha5 HP4.out)
          have hsp : (Value.slice A3 dt.length c3).ownBlock = none ∨ (Value.slice A3 dt.length c3).ownBlock ≠ (Value.slice Ao qs.length co).ownBlock := own_sep HD4.out HO4.out.1 (fun e => tr_ne e.symm)
          have HD5 := Lib.hid (World.ownsRow.kept HD4.out hg5 hsp)
          have B5 := B4.grown hg5 z4 (fun k hk => (World.ownsRow.lt HO4.out.1 k hk).1)
          clear g0 g1 g2 g3 g4 s3 ho5 hg5 ha5 hsp
          go_roundw
          case rel =>
            refine ⟨jn + 188, jn + 188, qs ++ [⟨⟨pid, cnt, st, clk, pl⟩, A1, n1, c1⟩], dt, by go_num, by go_num, by omega, by omega, ?_, HO5.out, HD5.out, B5, ?_, by simp; omega⟩
            · have := HS.out.take (by rw [HLEN.out]; exact hlt) HBG2.out
              rw [if_pos hfj, ← HDS.out] at this
              simpa [datas] using this
            · first | omega | (have := HDL.out; omega) | (simp; omega)
          case measure => (simp [intOf]; try omega)
        · have HO3 := HO2
          have HD3 := HD2
          have HP3 := HP2
          have x3 := x2
          have B3 := B2
          go_upto_region 11 with fail
          obtain ⟨w3, hw3⟩ : ∃ w3, w3 = w2 := ⟨_, rfl⟩
          subst hw3
          have x4 := x3.alloc (.cells #[.int .i64 pid, .int .i64 cnt, .bool st, .int .i64 clk, .slice A1 n1 c1] 24)
          have HO4 := Lib.hid (HO3.out.alloc (.cells #[.int .i64 pid, .int .i64 cnt, .bool st, .int .i64 clk, .slice A1 n1 c1] 24))
          have HP4 := Lib.hid (HP3.out.alloc (.cells #[.int .i64 pid, .int .i64 cnt, .bool st, .int .i64 clk, .slice A1 n1 c1] 24))
          have HD4 := Lib.hid (World.ownsRow.alloc HD3.out (.cells #[.int .i64 pid, .int .i64 cnt, .bool st, .int .i64 clk, .slice A1 n1 c1] 24))
          have B4 := B3.alloc B3.size (.cells #[.int .i64 pid, .int .i64 cnt, .bool st, .int .i64 clk, .slice A1 n1 c1] 24)
          obtain ⟨g0, g1, g2, g3, g4⟩ := x3.cells5
          have s3 := x3.lt
          have z4 := B4.size
          go_wp2_with (at_builtin; go_must (refine wpList_appR _ rfl (.tmp 33) (.tmp 35) 44 rfl 24 (.agg #[.int .i64 0, .int .i64 0, .bool false, .int .i64 0, .slice none 0 0]) 5 56 Try.underlying44 Try.infoTR rfl (by decide) w.heap.size (.slice Ao qs.length co) qs.length _ rfl HO4.out.1 (some ⟨w3.heap.size, 0, none⟩) 1 1 [.int .i64 pid, .int .i64 cnt, .bool st, .int .i64 clk, .slice A1 n1 c1] rfl (Rw.lit (p := fun _ => True) _ _ _ rfl 1 5 rfl rfl trivial) (by simp [Value.oneCell']) (by omega) (by omega) z4 ?_; intro v5 w5 ho5 hg5 ha5))
          have HO5 := Lib.hid (OwnT.app (x := ⟨⟨pid, cnt, st, clk, pl⟩, A1, n1, c1⟩) HO4.out ho5 hg5 ha5 HP4.out)
          have hsp : (Value.slice Ad ds.length cd).ownBlock = none ∨ (Value.slice Ad ds.length cd).ownBlock ≠ (Value.slice Ao qs.length co).ownBlock := own_sep HD4.out HO4.out.1 (fun e => tr_ne e.symm)
          have HD5 := Lib.hid (World.ownsRow.kept HD4.out hg5 hsp)
          have B5 := B4.grown hg5 z4 (fun k hk => (World.ownsRow.lt HO4.out.1 k hk).1)
          clear g0 g1 g2 g3 g4 s3 ho5 hg5 ha5 hsp
          go_roundw
          case rel =>
            refine ⟨jn + 188, jn + 188, qs ++ [⟨⟨pid, cnt, st, clk, pl⟩, A1, n1, c1⟩], ds, by go_num, by go_num, by omega, by omega, ?_, HO5.out, HD5.out, B5, ?_, by simp; omega⟩
            · have := HS.out.take (by rw [HLEN.out]; exact hlt) HBG2.out
              rw [if_neg hfj] at this
              simpa [datas] using this
            · first | omega | (have := HDL.out; omega) | (simp; omega)
          case measure => (simp [intOf]; try omega)
    · have hjn : jn = n := by omega
      subst hjn
      have HST : Hid (scanL l = (datas qs, if fn < jn then ds ++ [(fn, jn)] else ds)) := Lib.hid (by have := HS.out.stop (by rw [HLEN.out]; exact Nat.le_refl _); rwa [HLEN.out] at this)
      by_cases hfj : fn < jn
      · have HO3 := Lib.hid (HO.out.alloc (.cells #[.int .i64 (fn : Int), .int .i64 (jn : Int)] 51))
        have HD3 := Lib.hid (World.ownsRow.alloc HD.out (.cells #[.int .i64 (fn : Int), .int .i64 (jn : Int)] 51))
        have B3 := hb.alloc zb (.cells #[.int .i64 (fn : Int), .int .i64 (jn : Int)] 51)
        have z3 := B3.size
        go_wp2_with (at_builtin; go_must (refine wpList_appR _ rfl (.tmp 44) (.tmp 49) 45 rfl 51 (.agg #[.int .i64 0, .int .i64 0]) 2 16 Try.underlying45 Try.infoDR rfl (by decide) w.heap.size (.slice Ad ds.length cd) ds.length _ rfl HD3.out (some ⟨wr.heap.size, 0, none⟩) 1 1 [.int .i64 (fn : Int), .int .i64 (jn : Int)] rfl (Rw.lit (p := fun _ => True) _ _ _ rfl 1 2 rfl rfl trivial) (by simp [Value.oneCell']) (by omega) (by omega) z3 ?_; intro v3 w3 ho3 hg3 ha3))
        have hpk := HO3.out.keep (ex' := none) hg3 (own_sep HO3.out.1 HD3.out tr_ne) (fun b _ _ _ h => h) (fun b _ _ => by simp)
        obtain ⟨A5, c5, hv5, hpks⟩ := hpk.pks
        injection hv5 with e1 e2 e3
        subst e1 e3
        obtain ⟨A3, c3, rfl, hr3⟩ := own_rw (p := (w.heap.size ≤ ·)) ho3 (fun _ h => h)
        have B4 := B3.grown hg3 z3 (fun k hk => (World.ownsRow.lt HD3.out k hk).1)
        clear ho3 hg3 ha3 hpk
        go_ret2
        refine ⟨_, _, _, _, _, _, qs, ds ++ [(fn, jn)], rfl, hpks, by rw [dfCells_snoc]; exact hr3, by simp, ?_, ?_, B4⟩
        · rw [HST.out]
        · rw [HST.out, if_pos hfj]
      · obtain ⟨A5, c5, hv5, hpks⟩ := HO.out.pks
        injection hv5 with e1 e2 e3
        subst e1 e3
        obtain ⟨A3, c3, hv3, hr3⟩ := own_rw (p := (w.heap.size ≤ ·)) HD.out (fun _ h => h)
        injection hv3 with e1 e2 e3
        subst e1 e3
        go_wp2_with fail
        go_ret2
        refine ⟨_, _, _, _, _, _, qs, ds, rfl, hpks, hr3, rfl, ?_, ?_, hb⟩
        · rw [HST.out]
        · rw [HST.out, if_neg hfj]
end Go.Proofs.Ytdnchjmopkhnaaa
