/- The contract of cadence.Weave. -/
import Derived.Test.YtclainbjidajbaaWeaveM
import Derived.Recover
import Derived.Deep.LoopGhost
import Derived.Deep.RegionLaw
import Derived.Deep.CutBlock
namespace Go.Proofs.Ytclainbjidajbaa
open Go.RowKit

def WvA (w : World) (a b c d : Int) (n : Nat) (v i : Value) (wr : World) : Prop :=
  ∃ (k : Nat) (A1 : Option Addr) (n1 c1 : Nat), k ≤ n ∧ i = .int .i64 k ∧ v = .slice A1 n1 c1 ∧ WSt w a b c d (ownL (cntF a b c d) k) A1 n1 c1 [] none 0 0 wr
def WvB (w : World) (a b c d : Int) (k : Nat) (v i : Value) (wr : World) : Prop :=
  ∃ (j : Nat) (A1 : Option Addr) (n1 c1 : Nat), j ≤ cntF a b c d k ∧ i = .int .i64 j ∧ v = .slice A1 n1 c1 ∧ WSt w a b c d (ownL (cntF a b c d) k ++ List.replicate j (k : Int)) A1 n1 c1 [] none 0 0 wr
def WvC (w : World) (a b c d : Int) (xs : List Int) (A1 : Option Addr) (n1 c1 : Nat) (i : Value) (wr : World) : Prop :=
  ∃ (k : Nat) (A2 : Option Addr) (c2 : Nat), k ≤ n1 / 2 ∧ i = .int .i64 k ∧ WSt w a b c d xs A1 n1 c1 (wovC (pairsL xs k)) A2 k c2 wr

set_option maxRecDepth 4000 in
set_option maxHeartbeats 2000000 in
theorem cad_Weave (n a b c d : Int) (w : World) (ha : I64 a) (hb : I64 b) (hc : I64 c) (hd : I64 d) :
    Calls Try.prog 18 #[.int .i64 n, .agg #[.int .i64 a, .int .i64 b], .agg #[.int .i64 c, .int .i64 d]] w (RetWv w (weaveR n a b c d)) := by
  have hmf : ∀ (fn : Fn) (first cap : Array Value) (w : World), (Instr.makeFunc fn first cap).run Try.prog w = .ok (.func fn first cap) w := fun _ _ _ _ => rfl
  have t := fun w => cad_telecine a b c d w ha hb hc hd
  by_cases h1 : teleB a b c d = true
  · rw [h1] at t
    have T := Lib.hid t
    have HT := Lib.hid h1
    clear t
    by_cases hn : 0 ≤ n
    · obtain ⟨N, rfl⟩ := Int.eq_ofNat_of_zero_le hn
      clear hn
      by_cases hn2 : N ≤ 256
      · have p := fun (k : Nat) (hk : k ≤ 256) w => cad_fieldsBefore (k : Int) a b c d w h1 (by omega) (by omega) (fun _ => div64_low (by
          obtain ⟨⟨v1, v2⟩, _⟩ := tele_bd h1
          rw [Int.natAbs_mul]
          have := Nat.mul_le_mul (show (2 * (k : Int)).natAbs ≤ 512 by omega) (show (c * b).natAbs ≤ 68719476736 by omega)
          omega) (by have := tele_bd h1; omega) (by have := tele_bd h1; omega))
        have P := Lib.hid p
        clear p h1
        go_enter_defers Try.func18, Try.ntmps18
        go_wp2_with fail
        refine (T.out _).mono ?_
        rintro e w1 ⟨rfl, hb1⟩
        have st1 : WSt w a b c d [] none 0 0 [] none 0 0 w1 := WSt.ext ⟨rfl, (((Bx.new _ _ _).alloc _).alloc _).alloc _, ((Bx.new' _ _ _ _ (by simp)).alloc _).alloc _, (Bx.new' _ _ _ _ (by simp)).alloc _, Bx.new' _ _ _ _ (by simp), World.ownsRow_nil _ _ _ _, World.ownsRow_nil _ _ _ _, ((((Below.refl _ w).alloc (Nat.le_refl _) _).alloc (by simp) _).alloc (by simp; omega) _).alloc (by simp; omega) _⟩ hb1
        obtain ⟨⟨f0, f1, f2, f3⟩, ⟨g0, g1, g2, g3⟩, z0, z1, z2, z3⟩ := st1.facts
        have ST1 := Lib.hid st1
        clear hb1 st1
        have d1 : decide ((N : Int) < 0) = false := by simp
        have d2 : decide ((256 : Int) < (N : Int)) = false := by simp; omega
        go_wp2_with fail
        clear f0 f1 f2 f3 g0 g1 g2 g3 z0 z1 z2 z3
        go_loopw [8, 24] (fun v i wr => WvA w a b c d N v i wr) (fun _ i _ => N - (intOf i).toNat)
        case atStart => exact ⟨0, none, 0, 0, Nat.zero_le _, rfl, rfl, ST1.out⟩
        case round =>
          obtain ⟨k, A1, n1, c1, hk, rfl, rfl, st⟩ := hrel
          obtain ⟨wo, rfl⟩ : ∃ wo : World, wo = wr := ⟨_, rfl⟩
          have hlen : n1 ≤ 200000 := by
            rw [st.l1]
            have := ownL_len (cntF a b c d) 768 k (fun j hj => cnt_le HT.out (by omega))
            omega
          by_cases hlt : k < N
          · have p1 := P.out (k + 1) (by omega)
            have p2 := P.out k (by omega)
            rw [show (((k + 1 : Nat)) : Int) = (k : Int) + 1 by omega] at p1
            have b1 := before_bd HT.out (show (0 : Int) ≤ (k : Int) + 1 by omega) (by omega)
            have b2 := before_bd HT.out (show (0 : Int) ≤ (k : Int) by omega) (by omega)
            have hcn : cntF a b c d k = (beforeF ((k : Int) + 1) a b c d - beforeF (k : Int) a b c d).toNat := rfl
            have hcl := cnt_le (a := a) (b := b) (c := c) (d := d) HT.out (k := k) (by omega)
            generalize beforeF ((k : Int) + 1) a b c d = q1 at *
            generalize beforeF (k : Int) a b c d = q2 at *
            generalize hcc : cntF a b c d k = cn at *
            have HCN := Lib.hid hcn
            have HCC := Lib.hid hcc
            clear hcn hcc
            have P1 := Lib.hid p1
            have P2 := Lib.hid p2
            clear p1 p2
            have wK : IntKind.i64.wrap ((k : Int) + 1) = (k : Int) + 1 := IntWalk.i64_in _ (by omega)
            have wQ : IntKind.i64.wrap (q1 - q2) = q1 - q2 := IntWalk.i64_in _ (by omega)
            obtain ⟨⟨f0, f1, f2, f3⟩, ⟨g0, g1, g2, g3⟩, z0, z1, z2, z3⟩ := st.facts
            have ST := Lib.hid st
            clear st
            go_wp2_with fail
            go_region_held3 (fun w' => w'.cell? ⟨w.heap.size, 0, none⟩ = some (.int .i64 a) ∧ w'.cell? ⟨w.heap.size, 1, none⟩ = some (.int .i64 b) ∧ w'.cell? ⟨w.heap.size + 1, 0, none⟩ = some (.int .i64 c) ∧ w'.cell? ⟨w.heap.size + 1, 1, none⟩ = some (.int .i64 d))
              (first | (refine ⟨?_, ?_, ?_, ?_⟩ <;> go_simp; done) | go_keep)
              (first
               | (go_at_call 36; ((with_reducible refine (P1.out _).mono ?_); rintro e w2 ⟨rfl, hb2⟩; have hb2 := undrew hb2; obtain ⟨c_w2, z_w2⟩ := bcell hb2; have s_w2 := hb2.size; have q_w2_0 : w.heap.size < w2.heap.size := (by omega); have q_w2_1 : w.heap.size + 1 < w2.heap.size := (by omega)))
               | (go_at_call 36; ((with_reducible refine (P2.out _).mono ?_); rintro e w3 ⟨rfl, hb3⟩; obtain ⟨c_w3, z_w3⟩ := bcell hb3; have s_w3 := hb3.size; have q_w3_0 : w.heap.size < w3.heap.size := (by omega); have q_w3_1 : w.heap.size + 1 < w3.heap.size := (by omega))))
            have st3 := (ST.out.ext hb2).ext hb3
            have ST3 := Lib.hid st3
            clear st3 ST c_w2 z_w2 c_w3 z_w3 hb2 hb3 f0 f1 f2 f3 g0 g1 g2 g3 wK wQ q_w2_0 q_w2_1 q_w3_0 q_w3_1 s_w2 s_w3 z0 z1 z2 z3
            go_wp2_with fail
            go_loopw [8, 38] (fun v i wr => WvB w a b c d k v i wr) (fun _ i _ => cn - (intOf i).toNat)
            case atStart => exact ⟨0, A1, n1, c1, Nat.zero_le _, rfl, rfl, by simpa using ST3.out⟩
            case round =>
              obtain ⟨j, B1, m1, e1, hj, rfl, rfl, st⟩ := hrel
              have hj' : j ≤ cn := by rw [← HCC.out]; exact hj
              have hm1 : m1 ≤ 200768 := by
                have e := st.l1
                rw [List.length_append, List.length_replicate, ← ST3.out.l1] at e
                omega
              clear hj
              have hcn' := HCN.out
              by_cases hjl : (j : Int) < q1 - q2
              · clear hcn'
                have zb := st.x0.lt
                have zc := st.x3.lt
                have ST := Lib.hid st
                clear st
                go_wp2_with (first | (at_builtin; go_must (refine wpList_appR _ rfl (.tmp 40) (.tmp 42) 22 rfl 3 (.int .i64 0) 1 8 Try.underlying22 Try.infoI rfl (by decide) (w.heap.size + 4) (.slice B1 m1 e1) m1 _ rfl (ST.out.alloc _).o1 (some ⟨wr.heap.size, 0, none⟩) 1 1 [.int .i64 k] rfl (Rw.lit (p := fun _ => True) _ _ _ rfl 1 1 rfl rfl trivial) (by simp [Value.oneCell']) (by omega) (by omega) (by simp; omega) ?_; intro v3 w4 ho3 hg3 ha3; obtain ⟨A3, c3, hv3⟩ := own_slice ho3; subst hv3)))
                go_roundw
                case rel =>
                  have st4 := (ST.out.alloc _).push1 k ho3 hg3
                  refine ⟨j + 1, _, _, _, by rw [HCC.out, HCN.out]; omega, by go_num, rfl, ?_⟩
                  rw [List.replicate_succ', ← List.append_assoc]
                  exact st4
                case measure => simp [intOf]; have := HCN.out; omega
              · have hje : j = cn := by omega
                have ST := Lib.hid st
                clear st hcn'
                have HJ := Lib.hid hje
                clear hje
                go_wp2_with fail
                go_roundw
                case rel =>
                  refine ⟨k + 1, _, _, _, by omega, by go_num, rfl, ?_⟩
                  rw [ownL_succ, HCC.out, ← HJ.out]
                  exact ST.out
                case measure => simp [intOf]; omega
          · have hkn : k = N := by omega
            subst hkn
            have ST := Lib.hid st
            have z0 := st.x3.lt
            have zb := st.x0.lt
            clear st
            go_upto_if 49 with fail
            go_cut [8] from 46 to 54 (fun v wx => ∃ (A3 : Option Addr) (n3 c3 : Nat), v = .slice A3 n3 c3 ∧ WSt w a b c d (weaveL k a b c d) A3 n3 c3 [] none 0 0 wx)
            case first =>
              by_cases hodd : n1 % 2 = 0
              · have tod : ((n1 : Int) % 2 != 0) = false := by simp; omega
                have st2 : WSt w a b c d (weaveL k a b c d) A1 n1 c1 [] none 0 0 wo := by
                  have := ST.out
                  unfold weaveL evenL
                  rwa [if_pos (by rw [← this.l1]; exact hodd)]
                have ST2 := Lib.hid st2
                clear st2 ST
                go_wp2_with fail
                go_meet
                exact ⟨_, _, _, rfl, ST2.out⟩
              · have tod : ((n1 : Int) % 2 != 0) = true := by simp; omega
                have hdone : ∀ (A3 : Option Addr) (n3 c3 : Nat) (w5 : World), WSt w a b c d (ownL (cntF a b c d) k ++ [(k : Int) - 1]) A3 n3 c3 [] none 0 0 w5 → WSt w a b c d (weaveL k a b c d) A3 n3 c3 [] none 0 0 w5 := by
                  intro A3 n3 c3 w5 h
                  unfold weaveL evenL
                  rwa [if_neg (by rw [← ST.out.l1]; exact hodd)]
                have HDN := Lib.hid hdone
                clear hdone
                go_wp2_with (first | (at_builtin; go_must (refine wpList_appR _ rfl (.tmp 50) (.tmp 53) 22 rfl 3 (.int .i64 0) 1 8 Try.underlying22 Try.infoI rfl (by decide) (w.heap.size + 4) (.slice A1 n1 c1) n1 _ rfl (ST.out.alloc _).o1 (some ⟨wo.heap.size, 0, none⟩) 1 1 [.int .i64 ((k : Int) - 1)] rfl (Rw.lit (p := fun _ => True) _ _ _ rfl 1 1 rfl rfl trivial) (by simp [Value.oneCell']) (by omega) (by omega) (by simp; omega) ?_; intro v3 w4 ho3 hg3 ha3; obtain ⟨A3, c3, hv3⟩ := own_slice ho3; subst hv3)))
                go_meet
                exact ⟨_, _, _, rfl, HDN.out _ _ _ _ ((ST.out.alloc _).push1 _ ho3 hg3)⟩
            case rest =>
              obtain ⟨A3, n3, c3, rfl, st2⟩ := hcut
              have hn3 : n3 ≤ 200001 := by
                have e := st2.l1
                have e1 := ST.out.l1
                unfold weaveL evenL at e
                split at e
                · omega
                · rw [List.length_append, ← e1] at e
                  simp at e
                  omega
              obtain ⟨⟨f0, f1, f2, f3⟩, ⟨g0, g1, g2, g3⟩, y0, y1, y2, y3⟩ := st2.facts
              have ST2 := Lib.hid st2
              clear st2 ST
              by_cases hbig : 256 < n3 / 2
              · have tb : (256 : Int) < (n3 : Int) / 2 := by omega
                go_wp2_with fail
                refine leaves_cons (f := 34) (args := #[.pointer (some ⟨w.heap.size + 1 + 1, 0, none⟩), .pointer (some ⟨w.heap.size + 1 + 1 + 1, 0, none⟩)]) (by simp) (by simp [go_sem]) ?_
                refine (weave_idle _ _ _).mono ?_
                rintro e u' w'' ⟨rfl, rfl, rfl⟩
                refine ⟨.tuple #[.slice none 0 0, .int .i64 5], by simp [results, Try.results18, go_sem, g0, g3], ?_⟩
                have hR : weaveR (k : Int) a b c d = ([], 5) := by
                  unfold weaveR
                  rw [if_pos ⟨HT.out, by omega⟩, if_neg (by omega), if_pos (by rw [Int.toNat_natCast, ← ST2.out.l1]; exact hbig)]
                rw [hR]
                exact ⟨none, 0, 0, rfl, rfl, Rw.nil, (ST2.out.be.setCell (by show w.heap.size ≤ w.heap.size + 1 + 1; omega) _).setCell (by show w.heap.size ≤ w.heap.size + 1 + 1 + 1; omega) _⟩
              · have tb : ¬ (256 : Int) < (n3 : Int) / 2 := by omega
                have tb' : decide ((256 : Int) < (n3 : Int) / 2) = false := by simp; omega
                go_wp2_with fail
                clear f0 f1 f2 f3 g0 g1 g2 g3 y0 y1 y2 y3
                go_loopw [62] (fun i wr => WvC w a b c d (weaveL k a b c d) A3 n3 c3 i wr) (fun i _ => n3 / 2 - (intOf i).toNat)
                case atStart => exact ⟨0, none, 0, Nat.zero_le _, rfl, ST2.out⟩
                case round =>
                  obtain ⟨j, A2, c2, hj, rfl, st⟩ := hrel
                  have hxl := st.l1
                  generalize hxs : weaveL k a b c d = xs at *
                  have HXS := Lib.hid hxs
                  clear hxs
                  have ST := Lib.hid st
                  obtain ⟨⟨f0, f1, f2, f3⟩, ⟨g0, g1, g2, g3⟩, y0, y1, y2, y3⟩ := st.facts
                  by_cases hjl : j < n3 / 2
                  · obtain ⟨A, c, hv, hrw⟩ := own_rw (p := fun _ => True) st.o1 (fun _ _ => trivial)
                    injection hv with hA hn hc
                    subst hA hc
                    obtain ⟨b0, off, hA, _, hbl, hce⟩ := hrw.addr (by omega)
                    have hx0 : (xs.map (Value.int .i64))[2 * j]? = some (.int .i64 (xs.getD (2 * j) 0)) := by
                      rw [List.getElem?_map, List.getD_eq_getElem?_getD, List.getElem?_eq_getElem (by omega)]; rfl
                    have hx1 : (xs.map (Value.int .i64))[2 * j + 1]? = some (.int .i64 (xs.getD (2 * j + 1) 0)) := by
                      rw [List.getElem?_map, List.getD_eq_getElem?_getD, List.getElem?_eq_getElem (by omega)]; rfl
                    have e0 := hce _ _ hx0
                    have e1 := hce _ _ hx1
                    obtain ⟨X, hX⟩ : ∃ X, xs.getD (2 * j) 0 = X := ⟨_, rfl⟩
                    obtain ⟨Y, hY⟩ : ∃ Y, xs.getD (2 * j + 1) 0 = Y := ⟨_, rfl⟩
                    rw [hX] at e0
                    rw [hY] at e1
                    have HX := Lib.hid hX
                    have HY := Lib.hid hY
                    have i0 : (0 : Int) ≤ 2 * (j : Int) := by omega
                    have i1 : 2 * (j : Int) < (n3 : Int) := by omega
                    have i2 : 2 * (j : Int) + 1 < (n3 : Int) := by omega
                    have i3 : (0 : Int) ≤ 2 * (j : Int) + 1 := by omega
                    have t0 : (2 * (j : Int)).toNat = 2 * j := by omega
                    have t1 : (2 * (j : Int) + 1).toNat = 2 * j + 1 := by omega
                    have w0 : IntKind.i64.wrap (2 * (j : Int)) = 2 * (j : Int) := IntWalk.i64_in _ (by omega)
                    have w1' : IntKind.i64.wrap (2 * (j : Int) + 1) = 2 * (j : Int) + 1 := IntWalk.i64_in _ (by omega)
                    subst hA
                    clear hx0 hx1 hce hrw hn hX hY st hxl
                    have hnb : some b0 ≠ (Value.slice A2 j c2).ownBlock := by
                      rcases own_sep ST.out.o1 ST.out.o2 (by decide) with h | h
                      · simp [Value.ownBlock] at h
                      · simpa [Value.ownBlock] using h
                    obtain ⟨inf, hi0, hz0, hz1, hz2⟩ := info_parts Try.infoW
                    have hjm : j + 1 ≤ maxLen := by simp only [maxLen]; omega
                    have HNB := Lib.hid hnb
                    have HI := Lib.hid hi0
                    have HZ0 := Lib.hid hz0
                    have HZ1 := Lib.hid hz1
                    have HZ2 := Lib.hid hz2
                    clear hnb hi0 hz0 hz1 hz2 f0 f1 f2 f3
                    go_upto_block 5 with fail
                    go_cut [11, 62] from 63 to 80 (fun _ i wx => i = .int .i64 (j : Int) ∧ ∃ (A4 : Option Addr) (c4 : Nat), WSt w a b c d xs (some ⟨b0, off, none⟩) n3 c3 (wovC (pairsL xs (j + 1))) A4 (j + 1) c4 wx)
                    case first =>
                      go_wp2_with fail
                      refine wp_region_noPanic ?_
                      go_region_law ((refine step_append_lies _ (by rfl) _ _ _ (by rfl) (w.heap.size + 4) 46 inf _ 2 16 Try.underlying34 HI.out HZ0.out HZ1.out HZ2.out rfl (by omega) (.slice A2 j c2) j _ (by rfl) ((ST.out.o2.alloc _).drew) ⟨wr.heap.size, 0, none⟩ 1 1 [.int .i64 X, .int .i64 Y] (by rfl) (by rfl) (World.news_of_block (cs := #[.int .i64 X, .int .i64 Y]) (t := 46) (fr := (0, 0)) (heap_alloc_new wr _)) (by simp [Value.oneCell']) (by omega) hjm (by omega) (by simp; omega) (wr.heap.size + 1) (by simp) ?_; intro gg cap w5 hown1 hgrow hat hlt; obtain ⟨r1, r2, r3⟩ := ((ST.out.alloc _).drew).grew2 hgrow))
                      all_goals
                        refine NoPanic.normal ?_
                        go_wp2_with fail
                        go_meet
                        refine ⟨rfl, some ⟨gg, 0, none⟩, cap, ?_⟩
                        rw [pairsL_succ, wovC_snoc, HX.out, HY.out]
                        exact ((ST.out.alloc _).drew).push2 _ hown1 hgrow
                    case rest =>
                      obtain ⟨rfl, A4, c4, st4⟩ := hcut
                      have ST4 := Lib.hid st4
                      clear st4
                      go_wp2_with fail
                      go_roundw
                      case rel => exact ⟨j + 1, A4, c4, by omega, by go_num, ST4.out⟩
                      case measure => simp [intOf]; omega
                  · have hje : j = n3 / 2 := by omega
                    have HJ := Lib.hid hje
                    have HXL := Lib.hid hxl
                    obtain ⟨A, c, hv, hrw⟩ := own_rw (p := (w.heap.size + 4 ≤ ·)) st.o2 (fun _ h => h)
                    injection hv with hA hn hc
                    subst hA hc
                    have HRW := Lib.hid hrw
                    clear hje hrw st hn hxl
                    go_wp2_with fail
                    refine leaves_cons (f := 34) (args := #[.pointer (some ⟨w.heap.size + 1 + 1, 0, none⟩), .pointer (some ⟨w.heap.size + 1 + 1 + 1, 0, none⟩)]) (by simp) (by simp [go_sem]) ?_
                    refine (weave_idle _ _ _).mono ?_
                    rintro e u' w'' ⟨rfl, rfl, rfl⟩
                    refine ⟨.tuple #[.slice A2 j c2, .int .i64 0], by simp [results, Try.results18, go_sem, g0, g3], ?_⟩
                    have hR : weaveR (k : Int) a b c d = (pairsL xs j, 0) := by
                      unfold weaveR
                      rw [if_pos ⟨HT.out, by omega⟩, if_neg (by omega), Int.toNat_natCast, HXS.out, if_neg (by rw [← HXL.out]; exact hbig), ← HXL.out, ← HJ.out]
                    rw [hR]
                    exact ⟨_, _, _, rfl, (pairsL_len _ _).symm, ((HRW.out.setCell (by show ¬ w.heap.size + 4 ≤ w.heap.size + 1 + 1; omega) _).setCell (by show ¬ w.heap.size + 4 ≤ w.heap.size + 1 + 1 + 1; omega) _).mono (fun b _ h => by omega), (ST.out.be.setCell (by show w.heap.size ≤ w.heap.size + 1 + 1; omega) _).setCell (by show w.heap.size ≤ w.heap.size + 1 + 1 + 1; omega) _⟩
      · have d1 : decide ((N : Int) < 0) = false := by simp
        clear h1
        go_enter_defers Try.func18, Try.ntmps18
        go_wp2_with fail
        refine (T.out _).mono ?_
        rintro e w1 ⟨rfl, hb1⟩
        have st1 : WSt w a b c d [] none 0 0 [] none 0 0 w1 := WSt.ext ⟨rfl, (((Bx.new _ _ _).alloc _).alloc _).alloc _, ((Bx.new' _ _ _ _ (by simp)).alloc _).alloc _, (Bx.new' _ _ _ _ (by simp)).alloc _, Bx.new' _ _ _ _ (by simp), World.ownsRow_nil _ _ _ _, World.ownsRow_nil _ _ _ _, ((((Below.refl _ w).alloc (Nat.le_refl _) _).alloc (by simp) _).alloc (by simp; omega) _).alloc (by simp; omega) _⟩ hb1
        obtain ⟨⟨f0, f1, f2, f3⟩, ⟨g0, g1, g2, g3⟩, z0, z1, z2, z3⟩ := st1.facts
        have ST1 := Lib.hid st1
        clear hb1 st1
        go_wp2_with fail
        refine leaves_cons (f := 34) (args := #[.pointer (some ⟨w.heap.size + 1 + 1, 0, none⟩), .pointer (some ⟨w.heap.size + 1 + 1 + 1, 0, none⟩)]) (by simp) (by simp [go_sem]) ?_
        refine (weave_idle _ _ _).mono ?_
        rintro e u' w'' ⟨rfl, rfl, rfl⟩
        refine ⟨.tuple #[.slice none 0 0, .int .i64 5], by simp [results, Try.results18, go_sem, g0, g3], ?_⟩
        unfold weaveR
        rw [if_pos ⟨HT.out, by omega⟩, if_pos (by omega)]
        exact ⟨none, 0, 0, rfl, rfl, Rw.nil, (ST1.out.be.setCell (by show w.heap.size ≤ w.heap.size + 1 + 1; omega) _).setCell (by show w.heap.size ≤ w.heap.size + 1 + 1 + 1; omega) _⟩
    · clear h1
      go_enter_defers Try.func18, Try.ntmps18
      go_wp2_with fail
      refine (T.out _).mono ?_
      rintro e w1 ⟨rfl, hb1⟩
      have st1 : WSt w a b c d [] none 0 0 [] none 0 0 w1 := WSt.ext ⟨rfl, (((Bx.new _ _ _).alloc _).alloc _).alloc _, ((Bx.new' _ _ _ _ (by simp)).alloc _).alloc _, (Bx.new' _ _ _ _ (by simp)).alloc _, Bx.new' _ _ _ _ (by simp), World.ownsRow_nil _ _ _ _, World.ownsRow_nil _ _ _ _, ((((Below.refl _ w).alloc (Nat.le_refl _) _).alloc (by simp) _).alloc (by simp; omega) _).alloc (by simp; omega) _⟩ hb1
      obtain ⟨⟨f0, f1, f2, f3⟩, ⟨g0, g1, g2, g3⟩, z0, z1, z2, z3⟩ := st1.facts
      have ST1 := Lib.hid st1
      clear hb1 st1
      go_wp2_with fail
      refine leaves_cons (f := 34) (args := #[.pointer (some ⟨w.heap.size + 1 + 1, 0, none⟩), .pointer (some ⟨w.heap.size + 1 + 1 + 1, 0, none⟩)]) (by simp) (by simp [go_sem]) ?_
      refine (weave_idle _ _ _).mono ?_
      rintro e u' w'' ⟨rfl, rfl, rfl⟩
      refine ⟨.tuple #[.slice none 0 0, .int .i64 1], by simp [results, Try.results18, go_sem, g0, g3], ?_⟩
      unfold weaveR
      rw [if_neg (by omega)]
      exact ⟨none, 0, 0, rfl, rfl, Rw.nil, (ST1.out.be.setCell (by show w.heap.size ≤ w.heap.size + 1 + 1; omega) _).setCell (by show w.heap.size ≤ w.heap.size + 1 + 1 + 1; omega) _⟩
  · have h1' : teleB a b c d = false := by simpa using h1
    rw [h1'] at t
    have T := Lib.hid t
    have H1 := Lib.hid h1
    clear t h1' h1
    go_enter_defers Try.func18, Try.ntmps18
    go_wp2_with fail
    refine (T.out _).mono ?_
    rintro e w1 ⟨rfl, hb1⟩
    have st1 : WSt w a b c d [] none 0 0 [] none 0 0 w1 := WSt.ext ⟨rfl, (((Bx.new _ _ _).alloc _).alloc _).alloc _, ((Bx.new' _ _ _ _ (by simp)).alloc _).alloc _, (Bx.new' _ _ _ _ (by simp)).alloc _, Bx.new' _ _ _ _ (by simp), World.ownsRow_nil _ _ _ _, World.ownsRow_nil _ _ _ _, ((((Below.refl _ w).alloc (Nat.le_refl _) _).alloc (by simp) _).alloc (by simp; omega) _).alloc (by simp; omega) _⟩ hb1
    obtain ⟨⟨f0, f1, f2, f3⟩, ⟨g0, g1, g2, g3⟩, z0, z1, z2, z3⟩ := st1.facts
    have ST1 := Lib.hid st1
    clear hb1 st1
    go_wp2_with fail
    refine leaves_cons (f := 34) (args := #[.pointer (some ⟨w.heap.size + 1 + 1, 0, none⟩), .pointer (some ⟨w.heap.size + 1 + 1 + 1, 0, none⟩)]) (by simp) (by simp [go_sem]) ?_
    refine (weave_idle _ _ _).mono ?_
    rintro e u' w'' ⟨rfl, rfl, rfl⟩
    refine ⟨.tuple #[.slice none 0 0, .int .i64 1], by simp [results, Try.results18, go_sem, g0, g3], ?_⟩
    unfold weaveR
    rw [if_neg (fun h => H1.out h.1)]
    exact ⟨none, 0, 0, rfl, rfl, Rw.nil, (ST1.out.be.setCell (by show w.heap.size ≤ w.heap.size + 1 + 1; omega) _).setCell (by show w.heap.size ≤ w.heap.size + 1 + 1 + 1; omega) _⟩
end Go.Proofs.Ytclainbjidajbaa
