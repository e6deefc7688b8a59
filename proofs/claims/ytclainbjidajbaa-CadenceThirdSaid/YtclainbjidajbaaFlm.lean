/- Tape.Picture and cutroomfilm.Frames. -/
import Derived.Test.YtclainbjidajbaaImA
namespace Go.Proofs.Ytclainbjidajbaa
open Go.RowKit

theorem Its.grown {k : IntKind} {p : Nat → Prop} {w w' : World} {A : Option Addr} {n : Nat} {l : List Int} {row : Option Nat} (h : Its k p w A n l) (hg : w.grownBy w' row) (hp : ∀ b, p b → some b ≠ row) : Its k p w' A n l := h.keep fun b hpb hlt => hg.block b hlt (hp b hpb)
theorem grown_alloc {w : World} {row : Option Nat} (o : Obj) : w.grownBy (w.alloc o) row := ⟨rfl, rfl, rfl, by simp, fun k hk _ => Below.heap_alloc w o k hk⟩
theorem own_low {w : World} {base base' : Nat} {e : TypeId} {size n : Nat} {v : Value} {xs : List Value} (h : w.ownsRow base e size v n xs) (hb : base' ≤ base) : w.ownsRow base' e size v n xs := by
  refine ⟨h.1, ?_⟩
  rcases h.2 with h2 | ⟨g, cap, cur, h3, hg, h4⟩
  · exact .inl h2
  · exact .inr ⟨g, cap, cur, h3, Nat.le_trans hb hg, h4⟩
theorem OwnF.low {q q' : Nat → Prop} {w : World} {base base' : Nat} {v : Value} {xs : List FA} (h : OwnF q w base v xs) (hb : base' ≤ base) (hq : ∀ b, b < w.heap.size → q b → q' b) : OwnF q' w base' v xs :=
  ⟨own_low h.1 hb, (h.mono hq).2⟩

/-- What Picture hands back. -/
def RetIm (w : World) (g : Nat) (A : Option Addr) (n c a s : Nat) (e : Ending) (w' : World) : Prop := ∃ (z : FA) (a' : Nat), e = .returned z.val ∧ SzF z.f (s / 2) (s / 2) ∧ FrmOk (w.heap.size ≤ ·) w' z ∧ a' ≤ a + 20 ∧ Bx w' g 50 #[.slice A n c, .int .i64 (a' : Int)] ∧ w.grownBy w' (some g)
set_option maxRecDepth 100000 in
set_option maxHeartbeats 4000000 in
theorem tape_Picture (g : Nat) (A : Option Addr) (n c a : Nat) (L : List Int) (s : Nat) (w : World) (hb : Bx w g 50 #[.slice A n c, .int .i64 (a : Int)]) (hi : Its .i64 (fun b => b ≠ g ∧ b < w.heap.size) w A n L) (hs : s = 16 ∨ s = 32) (hok : IntsOk L) (ha : a ≤ 900000) :
    Calls Try.prog 22 #[.pointer (some ⟨g, 0, none⟩), .int .i64 (s : Int)] w (RetIm w g A n c a s) := by
  have hlt := hb.lt
  have rb := Bx.new w 27 #[.int .i64 0, .int .i64 0, .slice none 0 0, .slice none 0 0, .slice none 0 0]
  have tb := hb.alloc (.cells #[.int .i64 0, .int .i64 0, .slice none 0 0, .slice none 0 0, .slice none 0 0] 27)
  have ti := (hi.alloc (.cells #[.int .i64 0, .int .i64 0, .slice none 0 0, .slice none 0 0, .slice none 0 0] 27)).mono (q := fun b => b ≠ g ∧ b < (w.alloc (.cells #[.int .i64 0, .int .i64 0, .slice none 0 0, .slice none 0 0, .slice none 0 0] 27)).heap.size) (fun b h1 h2 => ⟨h2.1, h1⟩)
  have hk := grown_alloc (w := w) (row := some g) (.cells #[.int .i64 0, .int .i64 0, .slice none 0 0, .slice none 0 0, .slice none 0 0] 27)
  clear hb hi
  go_enter Try.func22, Try.ntmps22
  go_upto_region 1 with fail
  generalize w.alloc (.cells #[.int .i64 0, .int .i64 0, .slice none 0 0, .slice none 0 0, .slice none 0 0] 27) = W1 at *
  have HC := Lib.hid (tape_Image g A n c a L s W1 tb ti hs hok ha)
  have HRB := Lib.hid rb
  have HK := Lib.hid hk
  have HLT := Lib.hid hlt
  clear tb ti hs hok rb hk
  go_wp2_with fail
  refine HC.out.mono ?_
  rintro e w2 ⟨⟨⟨zW, zH, zY, zU, zV⟩, ya, yn, yc, ua, un, uc, va, vn, vc⟩, a', rfl, hsz, hfo, ha', htb, _, hg2⟩
  have r2 := HRB.out.grown hg2 (fun e => by injection e with e; omega)
  have hle := HRB.out.lt
  have k2 := HK.out.trans hg2
  have HSZ := Lib.hid hsz
  have HA2 := Lib.hid ha'
  obtain ⟨g0, g1, g2, g3, g4⟩ := r2.cells5
  have gl := r2.lt
  have h0 := r2.frozen 0
  have h1 := r2.frozen 1
  have h2 := r2.frozen 2
  have h3 := r2.frozen 3
  have h4 := r2.frozen 4
  have HZB := Lib.hid (r2.set5 (.int .i64 zW) (.int .i64 zH) (.slice ya yn yc) (.slice ua un uc) (.slice va vn vc))
  have fo2 : FrmOk (w.heap.size ≤ ·) (set5 w2 w.heap.size (.int .i64 zW) (.int .i64 zH) (.slice ya yn yc) (.slice ua un uc) (.slice va vn vc)) ⟨⟨zW, zH, zY, zU, zV⟩, ya, yn, yc, ua, un, uc, va, vn, vc⟩ :=
    ⟨(hfo.y.set5 (by omega) _ _ _ _ _).mono (fun b _ h => by omega), (hfo.u.set5 (by omega) _ _ _ _ _).mono (fun b _ h => by omega), (hfo.v.set5 (by omega) _ _ _ _ _).mono (fun b _ h => by omega), hfo.cy, hfo.cu, hfo.cv⟩
  have HFO := Lib.hid fo2
  have HTB := Lib.hid (((((htb.far (a := ⟨w.heap.size, 0, none⟩) (by dsimp only; omega) (.int .i64 zW)).far (a := ⟨w.heap.size, 1, none⟩) (by dsimp only; omega) (.int .i64 zH)).far (a := ⟨w.heap.size, 2, none⟩) (by dsimp only; omega) (.slice ya yn yc)).far (a := ⟨w.heap.size, 3, none⟩) (by dsimp only; omega) (.slice ua un uc)).far (a := ⟨w.heap.size, 4, none⟩) (by dsimp only; omega) (.slice va vn vc))
  have HKK := Lib.hid (grown_set (grown_set (grown_set (grown_set (grown_set k2 (a := ⟨w.heap.size, 0, none⟩) (.inr (Nat.le_refl _)) (.int .i64 zW)) (a := ⟨w.heap.size, 1, none⟩) (.inr (Nat.le_refl _)) (.int .i64 zH)) (a := ⟨w.heap.size, 2, none⟩) (.inr (Nat.le_refl _)) (.slice ya yn yc)) (a := ⟨w.heap.size, 3, none⟩) (.inr (Nat.le_refl _)) (.slice ua un uc)) (a := ⟨w.heap.size, 4, none⟩) (.inr (Nat.le_refl _)) (.slice va vn vc))
  have KT : Hid (Bx (set5 w2 w.heap.size (.int .i64 zW) (.int .i64 zH) (.slice ya yn yc) (.slice ua un uc) (.slice va vn vc)) g 50 #[.slice A n c, .int .i64 (a' : Int)]) := HTB
  have KK : Hid (w.grownBy (set5 w2 w.heap.size (.int .i64 zW) (.int .i64 zH) (.slice ya yn yc) (.slice ua un uc) (.slice va vn vc)) (some g)) := HKK
  clear hfo htb hg2 r2 k2 fo2 hsz ha' HTB HKK
  simp only [FA.val]
  go_wp2_with fail
  obtain ⟨y0, y1, y2, y3, y4⟩ := HZB.out.cells5
  clear g0 g1 g2 g3 g4 h0 h1 h2 h3 h4
  show bodyPost _ _ _ _ _ (set5 w2 w.heap.size (.int .i64 zW) (.int .i64 zH) (.slice ya yn yc) (.slice ua un uc) (.slice va vn vc))
  generalize set5 w2 w.heap.size (.int .i64 zW) (.int .i64 zH) (.slice ya yn yc) (.slice ua un uc) (.slice va vn vc) = wz at *
  refine bodyPost_ret (v := .agg #[.int .i64 zW, .int .i64 zH, .slice ya yn yc, .slice ua un uc, .slice va vn vc]) (by simp only [results, Try.results22]; go_simp) rfl ⟨⟨⟨zW, zH, zY, zU, zV⟩, ya, yn, yc, ua, un, uc, va, vn, vc⟩, a', rfl, HSZ.out, HFO.out, HA2.out, KT.out, KK.out⟩

/-- What Frames hands back: frames of one size, whatever their samples. -/
def RetFm (w : World) (most : Nat) (e : Ending) (w' : World) : Prop := ∃ (A : Option Addr) (c : Nat) (qs : List FA) (s : Nat), e = .returned (.slice A qs.length c) ∧ qs.length ≤ most ∧ OwnF (w.heap.size ≤ ·) w' w.heap.size (.slice A qs.length c) qs ∧ (∀ x ∈ qs, SzF x.f s s) ∧ (s = 8 ∨ s = 16) ∧ Below w.heap.size w w'

set_option maxRecDepth 100000 in
set_option maxHeartbeats 4000000 in
theorem film_Frames {p : Nat → Prop} (A : Option Addr) (n c : Nat) (L : List Int) (most : Nat) (w : World) (hi : Its .i64 p w A n L) (hok : IntsOk L) (hm : most ≤ 1000) :
    Calls Try.prog 8 #[.slice A n c, .int .i64 (most : Int)] w (RetFm w most) := by
  have hi := hi.mono (q := (· < w.heap.size)) (fun b h _ => h)
  have HI0 := Lib.hid hi
  have tb := Bx.new w 50 #[.slice A n c, .int .i64 0]
  have ti := (hi.alloc (.cells #[.slice A n c, .int .i64 0] 50)).mono (q := (· < w.heap.size)) (fun b _ h => h)
  have B1 := (Below.refl w.heap.size w).alloc (Nat.le_refl _) (.cells #[.slice A n c, .int .i64 0] 50)
  clear hi
  go_enter Try.func8, Try.ntmps8
  go_upto_region 2 with fail
  generalize w.alloc (.cells #[.slice A n c, .int .i64 0] 50) = W1 at *
  have HTB := Lib.hid tb
  have HTI := Lib.hid ti
  have HB1 := Lib.hid B1
  have HOK := Lib.hid hok
  clear tb ti B1 hok
  go_wp2_with fail
  refine (tape_Next w.heap.size A n c 0 L 2 W1 ⟨HTB.out, HTI.out.mono (fun b _ h => by omega)⟩ HOK.out (by omega) (by omega) (by omega)).mono ?_
  rintro e W2 ⟨rfl, m2, hw2⟩
  have htb : Bx W2 w.heap.size 50 #[.slice A n c, .int .i64 ((1 : Nat) : Int)] := by rw [hw2]; exact (HTB.out.drewN m2).set_ 1 _
  have hti : Its .i64 (· < w.heap.size) W2 A n L := by rw [hw2]; exact (HTI.out.keep (fun _ _ _ => rfl) : Its .i64 (· < w.heap.size) (W1.drewN m2) A n L).setCell (by simp) _
  have hb2 : Below w.heap.size w W2 := by rw [hw2]; exact bset (bdrewN HB1.out m2) ⟨w.heap.size, 1, none⟩ (Nat.le_refl _) _
  clear hw2
  have hr2 := nxt_lt L 0 (n := 2) (by omega)
  generalize nxt L 0 2 = r2 at *
  have HT2 := Lib.hid htb
  have HI2 := Lib.hid hti
  have HB2 := Lib.hid hb2
  have hmb : ((most + 1 : Nat) : Int) = (most : Int) + 1 := by omega
  have w1 : IntKind.i64.wrap ((most : Int) + 1) = ((most + 1 : Nat) : Int) := by rw [IntWalk.i64_in _ (by omega)]; omega
  clear htb hti hb2 hmb
  go_wp2_with fail
  refine (tape_Next w.heap.size A n c 1 L (most + 1) W2 ⟨HT2.out, HI2.out.mono (fun b _ h => by omega)⟩ HOK.out (by omega) (by omega) (by omega)).mono ?_
  rintro e W3 ⟨rfl, m3, hw3⟩
  have htb : Bx W3 w.heap.size 50 #[.slice A n c, .int .i64 ((2 : Nat) : Int)] := by rw [hw3]; exact (HT2.out.drewN m3).set_ 1 _
  have hti : Its .i64 (· < w.heap.size) W3 A n L := by rw [hw3]; exact (HI2.out.keep (fun _ _ _ => rfl) : Its .i64 (· < w.heap.size) (W2.drewN m3) A n L).setCell (by simp) _
  have hb3 : Below w.heap.size w W3 := by rw [hw3]; exact bset (bdrewN HB2.out m3) ⟨w.heap.size, 1, none⟩ (Nat.le_refl _) _
  clear hw3
  have hr3 := nxt_lt L 1 (n := most + 1) (by omega)
  generalize nxt L 1 (most + 1) = r3 at *
  have HT3 := Lib.hid htb
  have HI3 := Lib.hid hti
  have HB3 := Lib.hid hb3
  clear htb hti hb3
  obtain ⟨s, hs⟩ : ∃ s, 16 + 16 * r2 = s := ⟨_, rfl⟩
  have hs2 : s = 16 ∨ s = 32 := by omega
  have HS := Lib.hid hs2
  have es : (16 : Int) + 16 * (r2 : Int) = (s : Int) := by omega
  go_wp2_with fail
  go_loopw [7, 8] (fun o i wr => ∃ (k : Nat) (A1 : Option Addr) (c1 : Nat) (qs : List FA) (a2 : Nat), i = .int .i64 (k : Int) ∧ o = .slice A1 qs.length c1 ∧ qs.length + k ≤ most ∧ a2 ≤ 2 + 20 * qs.length ∧ OwnF (w.heap.size + 1 ≤ ·) wr (w.heap.size + 1) (.slice A1 qs.length c1) qs ∧ (∀ x ∈ qs, SzF x.f (s / 2) (s / 2)) ∧ Bx wr w.heap.size 50 #[.slice A n c, .int .i64 (a2 : Int)] ∧ Below w.heap.size w wr) (fun _ i _ => (intOf i).toNat)
  case atStart => exact ⟨r3, none, 0, [], 2, rfl, rfl, by simp; omega, by simp, OwnF.nil, by simp, HT3.out, HB3.out⟩
  case round =>
    obtain ⟨k, A1, c1, qs, a2, rfl, rfl, hqk, ha2, ho, hsz, htb, hb⟩ := hrel
    have HO := Lib.hid ho
    have HSZ := Lib.hid hsz
    have HTT := Lib.hid htb
    have HB := Lib.hid hb
    clear ho hsz htb hb
    by_cases hpos : 0 < k
    · have i0 : (0 : Int) < (k : Int) := by omega
      have hsub : IntKind.i64.wrap ((k : Int) - 1) = ((k - 1 : Nat) : Int) := by rw [IntWalk.i64_in _ (by omega)]; omega
      have HCP := Lib.hid (tape_Picture w.heap.size A n c a2 L s wr HTT.out ((HI0.out.keep (fun b hb _ => HB.out.block b hb) : Its .i64 (· < w.heap.size) wr A n L).mono (fun b h1 h2 => ⟨by omega, h1⟩)) HS.out HOK.out (by omega))
      go_wp2_with fail
      refine HCP.out.mono ?_
      rintro e w4 ⟨⟨⟨zW, zH, zY, zU, zV⟩, ya, yn, yc, ua, un, uc, va, vn, vc⟩, a', rfl, hzs, hfo, ha', htb4, hg4⟩
      have hBs := HB.out.size
      have hlt0 := HO.out.1
      have ho4 : OwnF (w.heap.size + 1 ≤ ·) w4 (w.heap.size + 1) (.slice A1 qs.length c1) qs := HO.out.keep hg4 (.inr (fun e => by have := (World.ownsRow.lt hlt0 _ e).1; omega)) (fun b _ hb _ => by intro e; injection e with e; omega)
      have hbs1 : w.heap.size + 1 ≤ wr.heap.size := by have := HTT.out.lt; omega
      have hfo4 : FrmOk (fun b => w.heap.size + 1 ≤ b ∧ some b ≠ (Value.slice A1 qs.length c1).ownBlock) w4 ⟨⟨zW, zH, zY, zU, zV⟩, ya, yn, yc, ua, un, uc, va, vn, vc⟩ := hfo.mono (fun b _ hb => ⟨by omega, fun e => by have := (World.ownsRow.lt hlt0 _ e.symm).2; omega⟩)
      have hb4 := HB.out.grown hg4 HB.out.size (fun k hk => by cases hk; exact Nat.le_refl _)
      have z4 := hb4.size
      have hbs4 : w.heap.size + 1 ≤ w4.heap.size := by have := htb4.lt; omega
      have HO5 := Lib.hid (ho4.alloc (.cells #[.int .i64 zW, .int .i64 zH, .slice ya yn yc, .slice ua un uc, .slice va vn vc] 27))
      have HF5 := Lib.hid (hfo4.alloc (.cells #[.int .i64 zW, .int .i64 zH, .slice ya yn yc, .slice ua un uc, .slice va vn vc] 27))
      have HT5 := Lib.hid (htb4.alloc (.cells #[.int .i64 zW, .int .i64 zH, .slice ya yn yc, .slice ua un uc, .slice va vn vc] 27))
      have HB5 := Lib.hid (hb4.alloc z4 (.cells #[.int .i64 zW, .int .i64 zH, .slice ya yn yc, .slice ua un uc, .slice va vn vc] 27))
      have HZS := Lib.hid hzs
      have HA' := Lib.hid ha'
      clear hfo htb4 hg4 ho4 hfo4 hb4 hzs ha' hlt0
      simp only [FA.val]
      go_wp2_with (first | (at_builtin; go_must (refine wpList_appR _ rfl (.tmp 24) (.tmp 28) 23 rfl 27 (.agg #[.int .i64 0, .int .i64 0, .slice none 0 0, .slice none 0 0, .slice none 0 0]) 5 88 Try.underlying23 Try.infoF rfl (by decide) (w.heap.size + 1) (.slice A1 qs.length c1) qs.length _ rfl HO5.out.1 (some ⟨w4.heap.size, 0, none⟩) 1 1 [.int .i64 zW, .int .i64 zH, .slice ya yn yc, .slice ua un uc, .slice va vn vc] rfl (Rw.lit (p := fun _ => True) _ _ _ rfl 1 5 rfl rfl trivial) (by simp [Value.oneCell']) (by omega) (by omega) (by simp; omega) ?_; intro v3 w5 ho3 hg3 ha3; obtain ⟨A3, c3, hv3⟩ := own_slice ho3; subst hv3)))
      go_roundw
      case rel =>
        refine ⟨k - 1, A3, c3, qs ++ [⟨⟨zW, zH, zY, zU, zV⟩, ya, yn, yc, ua, un, uc, va, vn, vc⟩], a', rfl, by simp, by simp; omega, by have := HA'.out; simp; omega, ?_, ?_, ?_, ?_⟩
        · have := OwnF.app HO5.out (ys := [⟨⟨zW, zH, zY, zU, zV⟩, ya, yn, yc, ua, un, uc, va, vn, vc⟩]) (by simpa [frCells, FA.cells] using ho3) hg3 ha3 (fun y hy => by rw [List.mem_singleton] at hy; rw [hy]; exact HF5.out)
          simpa using this
        · intro x hx
          rcases List.mem_append.1 hx with h | h
          · exact HSZ.out x h
          · rw [List.mem_singleton] at h; rw [h]; exact HZS.out
        · exact HT5.out.grown hg3 (own_ne HO5.out.1 (.inl (by omega)))
        · exact HB5.out.grown hg3 (by simp; omega) (fun j hj => by have := (World.ownsRow.lt HO5.out.1 j hj).1; omega)
      case measure => (simp [intOf]; try omega)
    · have hz : k = 0 := by omega
      subst hz
      go_wp2_with fail
      go_ret
      exact ⟨A1, c1, qs, s / 2, rfl, by omega, HO.out.low (by omega) (fun b _ h => by omega), HSZ.out, by rcases HS.out with h | h <;> omega, HB.out⟩
end Go.Proofs.Ytclainbjidajbaa
