/- The blocks of all macroblocks cover a frame: plain lists. -/
import Derived.Test.YtcboppldclknjaaSetM
import Derived.Test.YtcboppldclknjaaBlkC
namespace Go.Proofs.Ytcboppldclknjaa
open Go.RowKit

def agr (g f : Fr) (b t : Nat) : Prop := (compL g b).getD t 0 = (compL f b).getD t 0
structure SameSize (g f : Fr) : Prop where
  W : g.W = f.W
  H : g.H = f.H
  Y : g.Y.length = f.Y.length
  U : g.U.length = f.U.length
  V : g.V.length = f.V.length
theorem getD_set' {l : List Int} {i t : Nat} {x : Int} (hi : i < l.length) : (l.set i x).getD t 0 = if i = t then x else l.getD t 0 := by
  rw [List.getD_eq_getElem?_getD, List.getElem?_set]
  by_cases h : i = t
  · subst h; rw [if_pos rfl, if_pos hi, if_pos rfl]; rfl
  · rw [if_neg h, if_neg h, List.getD_eq_getElem?_getD]
theorem setsL_agree {m F s : List Int} {P : Nat → Nat} : ∀ K, (∀ k, k < K → s.getD k 0 = F.getD (P k) 0) → (∀ k, k < K → P k < m.length) →
    (∀ t, m.getD t 0 = F.getD t 0 → (setsL m P s K).getD t 0 = F.getD t 0) ∧ ∀ k, k < K → (setsL m P s K).getD (P k) 0 = F.getD (P k) 0
  | 0, _, _ => ⟨fun _ h => h, fun k hk => absurd hk (by omega)⟩
  | K + 1, hs, hP => by
    obtain ⟨h1, h2⟩ := setsL_agree K (fun k hk => hs k (by omega)) (fun k hk => hP k (by omega))
    have hl : P K < (setsL m P s K).length := by rw [setsL_len]; exact hP K (by omega)
    refine ⟨fun t ht => ?_, fun k hk => ?_⟩
    · rw [setsL, getD_set' hl]
      by_cases he : P K = t
      · rw [if_pos he, hs K (by omega), he]
      · rw [if_neg he]; exact h1 t ht
    · rw [setsL, getD_set' hl]
      by_cases he : P K = P k
      · rw [if_pos he, hs K (by omega), he]
      · have hne : k ≠ K := fun e => he (by rw [e])
        rw [if_neg he]; exact h2 k (by omega)
def cls (b : Nat) : Nat := if b = 4 then 1 else if b = 5 then 2 else 0
theorem compL_cls {f : Fr} {b c : Nat} (h : cls b = cls c) : compL f b = compL f c := by
  unfold cls at h
  unfold compL
  by_cases b4 : b = 4 <;> by_cases b5 : b = 5 <;> by_cases c4 : c = 4 <;> by_cases c5 : c = 5 <;> simp_all
theorem compL_setComp (f : Fr) (n : Nat) (l : List Int) (b : Nat) : compL (setComp f n l) b = if cls b = cls n then l else compL f b := by
  unfold compL setComp cls
  by_cases b4 : b = 4 <;> by_cases b5 : b = 5 <;> by_cases n4 : n = 4 <;> by_cases n5 : n = 5 <;> simp_all
theorem clipI_id {x : Int} (h : 0 ≤ x ∧ x ≤ 255) : clipI x = x := by unfold clipI; omega
theorem comp_rng {f : Fr} (rY : ∀ x ∈ f.Y, 0 ≤ x ∧ x ≤ 255) (rU : ∀ x ∈ f.U, 0 ≤ x ∧ x ≤ 255) (rV : ∀ x ∈ f.V, 0 ≤ x ∧ x ≤ 255) (n : Nat) : ∀ x ∈ compL f n, 0 ≤ x ∧ x ≤ 255 := by
  unfold compL
  split
  · exact rU
  · split
    · exact rV
    · exact rY
theorem SameSize.comp {g f : Fr} (h : SameSize g f) (n : Nat) : (compL g n).length = (compL f n).length := by
  unfold compL
  split
  · exact h.U
  · split
    · exact h.V
    · exact h.Y
theorem SameSize.has {g f : Fr} (h : SameSize g f) (mx my : Int) : hasB g mx my = hasB f mx my := by
  unfold hasB validB formedB
  rw [h.W, h.H, h.Y, h.U, h.V]
theorem tile_step {f g : Fr} {mx my n a b : Nat} {fd : Bool} (hsz : SameSize g f) (hW : f.W = ((16 * a : Nat) : Int)) (hmx : mx < a) (hmy : my < b) (hn : n ≤ 5)
    (lY : f.Y.length = (16 * b) * (16 * a)) (lU : f.U.length = (8 * b) * (8 * a)) (lV : f.V.length = (8 * b) * (8 * a))
    (rY : ∀ x ∈ f.Y, 0 ≤ x ∧ x ≤ 255) (rU : ∀ x ∈ f.U, 0 ≤ x ∧ x ≤ 255) (rV : ∀ x ∈ f.V, 0 ≤ x ∧ x ≤ 255) :
    SameSize (setBlkF g mx my n fd (blockL f mx my n fd)) f ∧ (∀ c t, agr g f c t → agr (setBlkF g mx my n fd (blockL f mx my n fd)) f c t) ∧ ∀ k, k < 64 → agr (setBlkF g mx my n fd (blockL f mx my n fd)) f n (placeN f.W.toNat mx my n fd k) := by
  have hP : ∀ k, k < 64 → placeN g.W.toNat mx my n fd k < (compL g n).length := fun k hk => by
    rw [hsz.W, hsz.comp]; exact place_lt hW hmx hmy hn hk lY lU lV
  have hs : ∀ k, k < 64 → (clipL (blockL f mx my n fd)).getD k 0 = (compL f n).getD (placeN g.W.toNat mx my n fd k) 0 := fun k hk => by
    rw [List.getD_eq_getElem?_getD, clipL, List.getElem?_map, blockL_at hk, hsz.W]
    show clipI _ = _
    exact clipI_id (getD_rng (comp_rng rY rU rV n) _)
  obtain ⟨h1, h2⟩ := setsL_agree 64 hs hP
  unfold setBlkF
  generalize hL : setsL (compL g n) (placeN g.W.toNat mx my n fd) (clipL (blockL f mx my n fd)) 64 = L at *
  have hlen : L.length = (compL g n).length := by rw [← hL]; exact setsL_len _ _ _ _
  refine ⟨?_, fun c t h => ?_, fun k hk => ?_⟩
  · have hc := hsz.comp n
    unfold setComp
    unfold compL at hlen hc
    by_cases h4 : n = 4
    · simp only [if_pos h4] at *; exact ⟨hsz.W, hsz.H, hsz.Y, hlen.trans hc, hsz.V⟩
    · simp only [if_neg h4] at *
      by_cases h5 : n = 5
      · simp only [if_pos h5] at *; exact ⟨hsz.W, hsz.H, hsz.Y, hsz.U, hlen.trans hc⟩
      · simp only [if_neg h5] at *; exact ⟨hsz.W, hsz.H, hlen.trans hc, hsz.U, hsz.V⟩
  · unfold agr at h ⊢
    rw [compL_setComp]
    by_cases hc : cls c = cls n
    · rw [if_pos hc, compL_cls hc]
      rw [compL_cls hc, compL_cls hc] at h
      exact h1 t h
    · rw [if_neg hc]; exact h
  · unfold agr
    rw [compL_setComp, if_pos rfl, ← hsz.W]
    exact h2 k hk
theorem cover_Y {a b t : Nat} (ha : 0 < a) (ht : t < (16 * b) * (16 * a)) (fl : Nat → Bool) :
    ∃ m n k, m < a * b ∧ n < 4 ∧ k < 64 ∧ t = placeN (16 * a) (m % a) (m / a) n (fl m) k := by
  obtain ⟨r, hr⟩ : ∃ r, r = t / (16 * a) := ⟨_, rfl⟩
  obtain ⟨c, hc⟩ : ∃ c, c = t % (16 * a) := ⟨_, rfl⟩
  have hrb : r < 16 * b := by rw [hr]; exact Nat.div_lt_of_lt_mul (by rw [Nat.mul_comm]; exact ht)
  have hca : c < 16 * a := by rw [hc]; exact Nat.mod_lt _ (by omega)
  have hte : t = r * (16 * a) + c := by rw [hr, hc, Nat.mul_comm]; exact (Nat.div_add_mod t (16 * a)).symm
  have hm1 : (r / 16 * a + c / 16) % a = c / 16 := by rw [Nat.mul_comm, Nat.mul_add_mod]; exact Nat.mod_eq_of_lt (by omega)
  have hm2 : (r / 16 * a + c / 16) / a = r / 16 := by rw [Nat.mul_comm, Nat.mul_add_div ha, Nat.div_eq_of_lt (show c / 16 < a by omega), Nat.add_zero]
  have hmlt : r / 16 * a + c / 16 < a * b := by
    have : (r / 16 + 1) * a ≤ b * a := Nat.mul_le_mul_right _ (by omega)
    rw [Nat.add_mul, Nat.mul_comm b a] at this
    omega
  cases hf : fl (r / 16 * a + c / 16)
  · refine ⟨_, 2 * (r % 16 / 8) + c % 16 / 8, 8 * (r % 8) + c % 8, hmlt, by omega, by omega, ?_⟩
    rw [hm1, hm2, hf]
    unfold placeN
    rw [if_neg (by omega), if_neg (by decide), hte]
    have : 16 * (r / 16) + (8 * ((2 * (r % 16 / 8) + c % 16 / 8) / 2) + (8 * (r % 8) + c % 8) / 8) = r := by omega
    rw [this]
    omega
  · refine ⟨_, 2 * (r % 2) + c % 16 / 8, 8 * (r % 16 / 2) + c % 8, hmlt, by omega, by omega, ?_⟩
    rw [hm1, hm2, hf]
    unfold placeN
    rw [if_neg (by omega), if_pos rfl, hte]
    have : 16 * (r / 16) + (2 * ((8 * (r % 16 / 2) + c % 8) / 8) + (2 * (r % 2) + c % 16 / 8) / 2) = r := by omega
    rw [this]
    omega
theorem cover_C {a b t n : Nat} (ha : 0 < a) (ht : t < (8 * b) * (8 * a)) (hn : 4 ≤ n) (fl : Nat → Bool) :
    ∃ m k, m < a * b ∧ k < 64 ∧ t = placeN (16 * a) (m % a) (m / a) n (fl m) k := by
  obtain ⟨r, hr⟩ : ∃ r, r = t / (8 * a) := ⟨_, rfl⟩
  obtain ⟨c, hc⟩ : ∃ c, c = t % (8 * a) := ⟨_, rfl⟩
  have hrb : r < 8 * b := by rw [hr]; exact Nat.div_lt_of_lt_mul (by rw [Nat.mul_comm]; exact ht)
  have hca : c < 8 * a := by rw [hc]; exact Nat.mod_lt _ (by omega)
  have hte : t = r * (8 * a) + c := by rw [hr, hc, Nat.mul_comm]; exact (Nat.div_add_mod t (8 * a)).symm
  have hm1 : (r / 8 * a + c / 8) % a = c / 8 := by rw [Nat.mul_comm, Nat.mul_add_mod]; exact Nat.mod_eq_of_lt (by omega)
  have hm2 : (r / 8 * a + c / 8) / a = r / 8 := by rw [Nat.mul_comm, Nat.mul_add_div ha, Nat.div_eq_of_lt (show c / 8 < a by omega), Nat.add_zero]
  have hmlt : r / 8 * a + c / 8 < a * b := by
    have : (r / 8 + 1) * a ≤ b * a := Nat.mul_le_mul_right _ (by omega)
    rw [Nat.add_mul, Nat.mul_comm b a] at this
    omega
  refine ⟨_, 8 * (r % 8) + c % 8, hmlt, by omega, ?_⟩
  rw [hm1, hm2]
  unfold placeN
  rw [if_pos hn, hte, show 16 * a / 2 = 8 * a by omega]
  have : 8 * (r / 8) + (8 * (r % 8) + c % 8) / 8 = r := by omega
  rw [this]
  omega
/-- All blocks agree: the frames are the same. -/
theorem tiles_all {f g : Fr} {a b : Nat} {fl : Nat → Bool} (hsz : SameSize g f) (hW : f.W = ((16 * a : Nat) : Int)) (ha : 0 < a)
    (lY : f.Y.length = (16 * b) * (16 * a)) (lU : f.U.length = (8 * b) * (8 * a)) (lV : f.V.length = (8 * b) * (8 * a))
    (h : ∀ m n k, m < a * b → n < 6 → k < 64 → agr g f n (placeN (16 * a) (m % a) (m / a) n (fl m) k)) : g = f := by
  have ext : ∀ {l l' : List Int}, l.length = l'.length → (∀ t, t < l'.length → l.getD t 0 = l'.getD t 0) → l = l' := by
    intro l l' hl he
    apply List.ext_getElem?
    intro t
    by_cases ht : t < l'.length
    · have := he t ht
      rw [List.getD_eq_getElem?_getD, List.getD_eq_getElem?_getD, List.getElem?_eq_getElem ht, List.getElem?_eq_getElem (by omega)] at this
      rw [List.getElem?_eq_getElem ht, List.getElem?_eq_getElem (by omega)]
      simpa using this
    · rw [List.getElem?_eq_none (by omega), List.getElem?_eq_none (by omega)]
  have hY : g.Y = f.Y := ext hsz.Y fun t ht => by
    obtain ⟨m, n, k, h1, h2, h3, h4⟩ := cover_Y ha (by rw [← lY]; exact ht) fl
    have := h m n k h1 (by omega) h3
    rw [← h4] at this
    unfold agr compL at this
    rwa [if_neg (by omega), if_neg (by omega), if_neg (by omega), if_neg (by omega)] at this
  have hU : g.U = f.U := ext hsz.U fun t ht => by
    obtain ⟨m, k, h1, h3, h4⟩ := cover_C (n := 4) ha (by rw [← lU]; exact ht) (by omega) fl
    have := h m 4 k h1 (by omega) h3
    rw [← h4] at this
    exact this
  have hV : g.V = f.V := ext hsz.V fun t ht => by
    obtain ⟨m, k, h1, h3, h4⟩ := cover_C (n := 5) ha (by rw [← lV]; exact ht) (by omega) fl
    have := h m 5 k h1 (by omega) h3
    rw [← h4] at this
    exact this
  cases g
  cases f
  simp only [Fr.mk.injEq]
  exact ⟨hsz.W, hsz.H, hY, hU, hV⟩
end Go.Proofs.Ytcboppldclknjaa
