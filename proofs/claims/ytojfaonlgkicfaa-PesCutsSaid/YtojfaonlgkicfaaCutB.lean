/- One round of the loop of pes.Cut. -/
import Derived.Test.YtojfaonlgkicfaaCutW
import Derived.Test.YtojfaonlgkicfaaOrdIn
import Derived.RangeFuncFrom
namespace Go.Proofs.Ytojfaonlgkicfaa
open Go.RowKit

theorem Try.infoP : (Try.prog.info? 30).map (fun i => (i.zero, i.size, i.bytes)) = some (some (.agg #[.int .i64 0, .int .i64 0, .int .i64 0, .slice none 0 0]), 4, 48) := by kernel_rfl
theorem own_cells {w : World} {base : Nat} {e : TypeId} {size n g : Nat} {v : Value} {xs : List Value} (h : w.ownsRow base e size v n xs) (hg : v.ownBlock = some g) : ∃ cs t, w.heap[g]? = some (.cells cs t (0, 0)) := by
  rcases h.2 with ⟨rfl, _⟩ | ⟨g', cap, cur, rfl, _, hh, _⟩
  · cases hg
  · simp only [Value.ownBlock, Option.some.injEq] at hg
    subst hg
    exact ⟨_, _, hh⟩
/-- What comes up while a packet is appended. -/
structure CE where
  Ad : Option Addr
  cd : Nat
  gb : Nat
  A3 : Option Addr
  c3 : Nat
structure CG (w0 wr : World) (n0 base Bs Bk g5 g7 g8 g10 g11 : Nat) (s pp dd : Int) (v : Value) (j nd : Nat) (ks : List Pk) (dt : List Int) (env : CE) (d5 d7 d8 d9 : Bool) (W : World) : Prop where
  be : Below n0 w0 W
  bs : base ≤ W.heap.size
  sz : wr.heap.size ≤ W.heap.size
  ko : ∀ (k : Nat) (o : Obj), wr.heap[k]? = some o → o.isCells = false → W.heap[k]? = some o
  hks : W.heap[Bs]? = wr.heap[Bs]?
  hkk : W.heap[Bk]? = wr.heap[Bk]?
  ls : Bs < W.heap.size
  lk : Bk < W.heap.size
  r0 : d8 = false → OwnK (base ≤ ·) W base v ks
  z : d5 = true → d8 = false → Byt (fun b => base ≤ b ∧ some b ≠ v.ownBlock) W env.Ad nd dt
  zb : d7 = true → d8 = false → Bx W env.gb 30 #[.int .i64 s, .int .i64 pp, .int .i64 dd, .slice env.Ad nd env.cd] ∧ some env.gb ≠ v.ownBlock
  r1 : d8 = true → OwnK (base ≤ ·) W base (.slice env.A3 (j + 1) env.c3) (ks ++ [⟨s, pp, dd, env.Ad, nd, env.cd, dt⟩])
  b10 : d9 = false → Bx W g10 26 #[v]
  b10' : d9 = true → Bx W g10 26 #[.slice env.A3 (j + 1) env.c3]
  b5 : Bx W g5 3 #[.int .i64 s]
  b7 : Bx W g7 2 #[.int .i64 pp]
  b8 : Bx W g8 2 #[.int .i64 dd]
  b11 : Bx W g11 38 #[.int .i64 0]
def cuV (A1 Ai : Option Addr) (j c1 nd g5 g7 g8 g10 : Nat) (s pp dd : Int) (env : CE) : Nat → Value
  | 0 => .slice A1 j c1
  | 1 => .int .i64 s
  | 2 => .int .i64 pp
  | 3 => .int .i64 dd
  | 4 => .slice Ai nd nd
  | 5 => .slice env.Ad nd env.cd
  | 6 => .agg #[.int .i64 s, .int .i64 pp, .int .i64 dd, .slice env.Ad nd env.cd]
  | 7 => .slice (some ⟨env.gb, 0, none⟩) 1 1
  | 8 => .slice env.A3 (j + 1) env.c3
  | _ => undef
theorem cuV_env {A1 Ai : Option Addr} {j c1 nd g5 g7 g8 g10 : Nat} {s pp dd : Int} {env : CE} {Ad : Option Addr} {cd : Nat} {i : Nat} (h5 : i ≠ 5) (h6 : i ≠ 6) (h7 : i ≠ 7) (h8 : i ≠ 8) (hl : i < 10) : cuV A1 Ai j c1 nd g5 g7 g8 g10 s pp dd ⟨Ad, cd, env.gb, env.A3, env.c3⟩ i = cuV A1 Ai j c1 nd g5 g7 g8 g10 s pp dd env i := by
  rcases (show i = 0 ∨ i = 1 ∨ i = 2 ∨ i = 3 ∨ i = 4 ∨ i = 5 ∨ i = 6 ∨ i = 7 ∨ i = 8 ∨ i = 9 by omega) with rfl | rfl | rfl | rfl | rfl | rfl | rfl | rfl | rfl | rfl <;> first | rfl | exact absurd rfl h5 | exact absurd rfl h6 | exact absurd rfl h7 | exact absurd rfl h8
theorem cuV_env' {A1 Ai : Option Addr} {j c1 nd g5 g7 g8 g10 : Nat} {s pp dd : Int} {env : CE} {Ad : Option Addr} {cd gb : Nat} {i : Nat} (h1 : Ad = env.Ad) (h2 : cd = env.cd) (h7 : i ≠ 7) (h8 : i ≠ 8) (hl : i < 10) : cuV A1 Ai j c1 nd g5 g7 g8 g10 s pp dd ⟨Ad, cd, gb, env.A3, env.c3⟩ i = cuV A1 Ai j c1 nd g5 g7 g8 g10 s pp dd env i := by
  subst h1 h2
  rcases (show i = 0 ∨ i = 1 ∨ i = 2 ∨ i = 3 ∨ i = 4 ∨ i = 5 ∨ i = 6 ∨ i = 7 ∨ i = 8 ∨ i = 9 by omega) with rfl | rfl | rfl | rfl | rfl | rfl | rfl | rfl | rfl | rfl <;> first | rfl | exact absurd rfl h7 | exact absurd rfl h8
theorem cuV_env2 {A1 Ai : Option Addr} {j c1 nd g5 g7 g8 g10 : Nat} {s pp dd : Int} {env : CE} {Ad A3 : Option Addr} {cd gb c3 : Nat} {i : Nat} (h1 : Ad = env.Ad) (h2 : cd = env.cd) (h3 : gb = env.gb) (h8 : i ≠ 8) (hl : i < 10) : cuV A1 Ai j c1 nd g5 g7 g8 g10 s pp dd ⟨Ad, cd, gb, A3, c3⟩ i = cuV A1 Ai j c1 nd g5 g7 g8 g10 s pp dd env i := by
  subst h1 h2 h3
  rcases (show i = 0 ∨ i = 1 ∨ i = 2 ∨ i = 3 ∨ i = 4 ∨ i = 5 ∨ i = 6 ∨ i = 7 ∨ i = 8 ∨ i = 9 by omega) with rfl | rfl | rfl | rfl | rfl | rfl | rfl | rfl | rfl | rfl <;> first | rfl | exact absurd rfl h8

theorem Bx.turn {W W' : World} {g B : Nat} {t : TypeId} {cs : Array Value} {row : Option Nat} (h : Bx W g t cs) (hg : W.grownBy W' row) (hr : ∀ r, row = some r → B ≤ r ∧ ∃ o : Obj, W.heap[r]? = some o ∧ o.isCells = false) : Bx W' g t cs :=
  h.grown hg (fun e => by
    obtain ⟨_, o, ho, hc⟩ := hr g e.symm
    have h2 : W.heap[g]? = some (.cells cs t (0, 0)) := h
    rw [h2] at ho
    injection ho with ho
    subst ho
    cases hc)
theorem Byt.turn {p : Nat → Prop} {W W' : World} {A : Option Addr} {n B : Nat} {l : List Int} {row : Option Nat} (h : Byt p W A n l) (hg : W.grownBy W' row) (hr : ∀ r, row = some r → B ≤ r ∧ ∃ o : Obj, W.heap[r]? = some o ∧ o.isCells = false) : Byt p W' A n l := by
  refine ⟨h.1, h.2.1, fun hn => ?_⟩
  obtain ⟨b, o, e, hp, hc⟩ := h.2.2 hn
  exact ⟨b, o, e, hp, fun j x hx => cell_kept (hc j x hx) hg (fun r e => (hr r e).2)⟩
theorem OwnK.turn {q : Nat → Prop} {W W' : World} {base B : Nat} {v : Value} {ks : List Pk} {row : Option Nat} (h : OwnK q W base v ks) (hg : W.grownBy W' row) (hr : ∀ r, row = some r → B ≤ r ∧ ∃ o : Obj, W.heap[r]? = some o ∧ o.isCells = false) : OwnK q W' base v ks := by
  refine ⟨World.ownsRow.kept h.1 hg ?_, fun x hx => (h.2 x hx).turn hg hr⟩
  cases hv : v.ownBlock with
  | none => exact .inl rfl
  | some g =>
    refine .inr (fun e => ?_)
    obtain ⟨cs, t, hcs⟩ := own_cells h.1 hv
    obtain ⟨_, o, ho, hc⟩ := hr g e.symm
    rw [hcs] at ho
    injection ho with ho
    subst ho
    cases hc
theorem Pks.monoK {p q p' q' : Nat → Prop} {w : World} {A : Option Addr} {n : Nat} {ps : List Pk} (h : Pks p q w A n ps) (h1 : ∀ b, p b → p' b) (h2 : ∀ b, q b → q' b) : Pks p' q' w A n ps := ⟨h.1, h.2.1.mono (fun b _ => h1 b), fun x hx => (h.2.2 x hx).mono (fun b _ => h2 b)⟩
/-- The packets as data. -/
def pkv (x : Pk) : Int × Int × Int × List Int := (x.s, x.p, x.d, x.l)
def cutQ (s pts dts : Int) (l : List Int) (k : Nat) : List Nat → List (Int × Int × Int × List Int)
  | [] => []
  | x :: t => (s, pts, dts, pcL l k x) :: t.map fun y => (s, -1, -1, pcL l k y)
theorem cutQ_snoc (s pts dts : Int) (l : List Int) (k : Nat) (pre : List Nat) (x : Nat) : cutQ s pts dts l k (pre ++ [x]) = cutQ s pts dts l k pre ++ [(s, if pre = [] then pts else -1, if pre = [] then dts else -1, pcL l k x)] := by
  cases pre with
  | nil => rfl
  | cons a t => simp [cutQ]
def cutL (s pts dts : Int) (l : List Int) (k : Nat) : List (Int × Int × Int × List Int) := cutQ s pts dts l k (List.range (pcN l.length k))
def valsOf {m : Nat} (pre : List { i : Nat // i < m }) : List Nat := pre.map Subtype.val
theorem valsOf_snoc {m : Nat} (pre : List { i : Nat // i < m }) (x : { i : Nat // i < m }) : valsOf (pre ++ [x]) = valsOf pre ++ [x.1] := by simp [valsOf]
theorem uptoF_val (m : Nat) : ∀ (j : Nat) (h : j ≤ m), valsOf (uptoF m j h) = List.range j
  | 0, _ => rfl
  | j + 1, h => by rw [uptoF_succ, valsOf_snoc, uptoF_val m j, List.range_succ]
/-- What Cut hands back. -/
def RetCu (w : World) (e0 : Int) (r : List (Int × Int × Int × List Int)) (e : Ending) (w' : World) : Prop := ∃ A n c ks, e = .returned (.tuple #[.slice A n c, .int .i64 e0]) ∧ Pks (w.heap.size ≤ ·) (w.heap.size ≤ ·) w' A n ks ∧ ks.map pkv = r ∧ Below w.heap.size w w'
end Go.Proofs.Ytojfaonlgkicfaa
