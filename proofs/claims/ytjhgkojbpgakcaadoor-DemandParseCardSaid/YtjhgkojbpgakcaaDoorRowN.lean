/- Rows of rows: elements that are slices, which read as lists; elements read in the midst of a region. -/
import Derived.Test.YtjhgkojbpgakcaaDoorRowC
namespace Go.Proofs.YtjhgkojbpgakcaaDoor
open Go.RowKit
/-- A kind whose head is of one kind. -/
class HdK {α : Type} (K : EK α) where
  n : Nat
  hd : ∀ {w : World} {cs x u}, K.R w cs x → cs[0]? = some u → rkV u = n
section
variable {α : Type} {K : EK α} {w w' : World}
theorem SlV.one0 {p : Option Addr} {n c : Nat} {xs : List α} (h : SlV K w (.slice p n c) xs) : n = xs.length := by
  obtain ⟨css, h1, ⟨rfl, p', c', e⟩ | ⟨g, o, c', e, _⟩⟩ := h
  · injection e with _ e2
  · injection e with _ e2
theorem SlV.spare [OwnK K] [HdK K] {p : Option Addr} {n c R : Nat} {xs : List α} (h : SlV K w (.slice p n c) xs) (h0 : ∀ g o i, p = some ⟨g, o, i⟩ → o = 0) (hg : NoHd (HdK.n K :: K.S) R w) : Spares R w (fun w => SlV K w (.slice p n c) xs) := fun w1 hs hf w2 hb => by
  have hS : NoHd K.S R w := fun v hv => by
    have := hg v hv
    simp only [List.contains_cons, Bool.or_eq_false_iff] at this
    exact this.2
  obtain ⟨css, h1, h2⟩ := h
  refine ⟨css, h1.spare hS w1 hs hf w2 hb, h2.imp id fun ⟨g, o, c', e, hl, hc1, hc2, ha⟩ => ⟨g, o, c', e, Nat.lt_of_lt_of_le hl (Nat.le_trans hs hb.size), hc1, hc2, fun k cs j u c1 c2 => ?_⟩⟩
  injection e with e1 e2 e3
  obtain rfl := h0 g o none e1
  have hne : g ≠ R := fun e => by
    subst e
    have hk : 0 < css.length := Nat.lt_of_le_of_lt (Nat.zero_le _) (List.getElem?_eq_some_iff.1 c1).1
    have hc0 : css[0]? = some css[0] := List.getElem?_eq_getElem hk
    have hr := h1.el 0 _ _ hc0 (List.getElem?_eq_getElem (h1.len ▸ hk))
    have hz := K.len hr
    have hp := K.pos
    have hu : css[0][0]? = some (css[0][0]'(by omega)) := List.getElem?_eq_getElem (by omega)
    have h3 := ha 0 _ 0 _ hc0 hu
    rw [show 0 + 0 * K.sz + 0 = 0 by omega] at h3
    have h4 := hg _ h3
    rw [HdK.hd hr hu] at h4
    simp at h4
  rw [(hb.cell (p := ⟨g, _, none⟩) (Nat.lt_of_lt_of_le hl hs)), ← ha k cs j u c1 c2]
  exact World.cell?_of_block (hf g hne hl)
theorem Lies.apart {w0 : World} {r q : Option Addr} (h : Lies w0 none r) (hb : ∀ g, ob q = some g → g < w0.heap.size) : ∀ g, ob r = some g → ob q ≠ some g := fun g e e2 => by
  rcases h with h | h
  · rw [h] at e; cases e
  · have := h g e
    have := hb g e2
    omega
theorem SlV.lt {p : Option Addr} {n c : Nat} {xs : List α} (h : SlV K w (.slice p n c) xs) (hne : xs ≠ []) {g : Nat} (hg : ob p = some g) : g < w.heap.size := by
  obtain ⟨css, h1, ⟨rfl, p', c', e⟩ | ⟨g', o, c', e, hl, _⟩⟩ := h
  · exact absurd rfl hne
  · injection e with e1
    subst e1
    have : g' = g := Option.some.inj hg
    exact this ▸ hl
end
end Go.Proofs.YtjhgkojbpgakcaaDoor
