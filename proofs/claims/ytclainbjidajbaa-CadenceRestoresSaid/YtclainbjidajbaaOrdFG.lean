/- A region that draws its order, with guards that are all met, where each operation yields one known value. -/
import Derived.Test.YtclainbjidajbaaOrdF
import Derived.Test.YtclainbjidajbaaOrdG
namespace Go.Proofs.Ytclainbjidajbaa
open Go

section
variable {P : Program} {Q : Exit → Act → World → Prop}
theorem wp_region_fixedG {id : Nat} {l : List Oper} {a0 : Act} {w0 : World} (val : Nat → Value) (G : (Nat → Bool) → World → Prop) (hm : P.follows .mixedOrders = true) (hB : backB .any l.toArray = true) (hd : dstsOk l a0.tmps.size [] = true)
    (h0 : G (fun _ => false) w0.drew)
    (hstep : ∀ (i : Nat) (o : Oper), l[i]? = some o → ∀ D a w, FrameOf l a0 D val a → G D w → ClosedD .any l.toArray D → D i = false → (∀ e ∈ o.after, Region.binds .any e = true → D e.on = true) →
      Region.wanted o (yielded l.toArray a.tmps) = true ∧ o.wp P a w (fun a' w' => a' = a.put o.dst (val i) ∧ G (updD D i) w') Q)
    (hend : ∀ D w, G D w → (∀ k, k < l.length → D k = true) → Q .normal (putsU val l 0 a0) w) :
    (Code.region id l.toArray true).wp P Q a0 w0 := by
  refine wp_region_inv hm hB (fun D a w => FrameOf l a0 D val a ∧ G D w) ⟨FrameOf.start l a0 val, h0⟩ ?_ ?_
  · rintro D a w ⟨hf, hg⟩ hcl i o ho hi hpre
    have ho' : l[i]? = some o := by simpa using ho
    obtain ⟨hw, hs⟩ := hstep i o ho' D a w hf hg hcl hi hpre
    refine wpOp_mono ?_ (wpOp_G ho true hw (fun _ => hs) (fun h => by cases h))
    rintro a' w' ⟨rfl, hg'⟩
    exact ⟨hf.putV hd ho', hg'⟩
  · rintro D a w ⟨hf, hg⟩ hall
    have hall' : ∀ k, k < l.length → D k = true := fun k hk => hall k (by simpa using hk)
    rw [hf.all hd hall']
    exact hend D w hg hall'
end
end Go.Proofs.Ytclainbjidajbaa
