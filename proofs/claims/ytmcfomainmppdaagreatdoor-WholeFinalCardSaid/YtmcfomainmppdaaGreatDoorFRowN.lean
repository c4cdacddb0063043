/- Calls that change a row of one's own: the row, where the new one lies, what outlives the call. Rows of rows: elements that are slices, which read as lists; elements read in the midst of a region. -/
import Derived.Test.YtmcfomainmppdaaGreatDoorFRowG
namespace Go.Proofs.YtmcfomainmppdaaGreatDoor
open Go.RowKit
def GB (w0 : World) (q : Option Addr) (w : World) : Prop := w0.grownBy w (ob q)
def Lies (w0 : World) (q r : Option Addr) : Prop := ob r = ob q ∨ ∀ g, ob r = some g → w0.heap.size ≤ g
section
variable {α : Type} {K : EK α} {t : TypeId} {v : Value} {xs ys zs : List α} {P : Program} {V w w0 w1 w2 : World} {ops : Array Oper} {Q : Exit → Act → World → Prop} {o : Oper} {rest : List Oper} {fs : List (World → Prop)} {a : Act} {q p r : Option Addr} {n d m c base : Nat}
theorem grown_belo (h : w0.grownBy w (ob q)) (hb : Below w.heap.size w w1) : w0.grownBy w1 (ob q) :=
  ⟨hb.os.trans h.os, hb.tape.trans h.tape, hb.output.trans h.output, Nat.le_trans h.size hb.size, fun k hk hne => (hb.block k (Nat.lt_of_lt_of_le hk h.size)).trans (h.block k hk hne)⟩
theorem GB.start (w : World) (q : Option Addr) : GB w q w := ⟨rfl, rfl, rfl, Nat.le_refl _, fun _ _ _ => rfl⟩
theorem GB.below (h : GB w0 q w) (hb : Below w.heap.size w w1) : GB w0 q w1 := grown_belo h hb
theorem GB.sz (h : GB w0 q w) : w0.heap.size ≤ w.heap.size := h.size
theorem GB.grown (h : GB w0 q w) (hl : Lies w0 q r) (hg : w.grownBy w1 (ob r)) : GB w0 q w1 :=
  ⟨hg.os.trans h.os, hg.tape.trans h.tape, hg.output.trans h.output, Nat.le_trans h.size hg.size, fun k hk hne => by
    refine (hg.block k (Nat.lt_of_lt_of_le hk h.size) fun e => ?_).trans (h.block k hk hne)
    rcases hl with hl | hl
    · exact hne (e.trans hl)
    · have := hl k e.symm; omega⟩
theorem Lies.app (hr : ob r = ob p ∨ ob r = some w.heap.size) (hl : Lies w0 q p) (hs : w0.heap.size ≤ w.heap.size) : Lies w0 q r := by
  rcases hr with h | h
  · exact hl.imp (fun e => h.trans e) fun e g hg => e g (h ▸ hg)
  · exact .inr fun g hg => by rw [h] at hg; injection hg with hg; omega
theorem Lies.box {R : Nat} (hl : Lies w q r) (hn : ob q ≠ some R) (hR : R < w.heap.size) : ob r ≠ some R := by
  rcases hl with h | h
  · rw [h]; exact hn
  · exact fun e => absurd (h R e) (by omega)
theorem Lies.row {q' : Option Addr} (hl : Lies w q r) (hn : ∀ g, ob q = some g → ob q' ≠ some g) (hR : ∀ g, ob q' = some g → g < w.heap.size) : ∀ g, ob r = some g → ob q' ≠ some g := fun g hg e => by
  rcases hl with h | h
  · rw [h] at hg; exact hn g hg e
  · exact absurd (h g hg) (by have := hR g e; omega)
end
section
variable {α : Type} {K : EK α} [OwnK K] {t tt uu u' : TypeId} {xs ys : List α} {P : Program} {V : World} {B : Nat} {ops : Array Oper} {Q2 : Act → World → Prop} {ks : List Nat} {o : Oper} {rest : List Oper} {fs f0 : List (World → Prop)} {a : Act} {q p : Option Addr} {n d m c bytes : Nat} {z : Value}
end
end Go.Proofs.YtmcfomainmppdaaGreatDoor
namespace Go.Proofs.YtmcfomainmppdaaGreatDoor
open Go.RowKit
/-- A kind whose head is of one kind. -/
class HdK {α : Type} (K : EK α) where
  n : Nat
  hd : ∀ {w : World} {cs x u}, K.R w cs x → cs[0]? = some u → rkV u = n
section
variable {α : Type} {K : EK α} {w w' : World}
theorem SlV.one0 {p : Option Addr} {n c : Nat} {xs : List α} (h : SlV K w (.slice p n c) xs) : n = xs.length := by
  obtain ⟨css, h1, ⟨rfl, p', c', e⟩ | ⟨g, o, c', e, _⟩⟩ := h
  · injection e with _ e2
  · injection e with _ e2
theorem SlV.spare [OwnK K] [HdK K] {p : Option Addr} {n c R : Nat} {xs : List α} (h : SlV K w (.slice p n c) xs) (h0 : ∀ g o i, p = some ⟨g, o, i⟩ → o = 0) (hg : NoHd (HdK.n K :: K.S) R w) : Spares R w (fun w => SlV K w (.slice p n c) xs) := fun w1 hs hf w2 hb => by
  have hS : NoHd K.S R w := fun v hv => by
    have := hg v hv
    simp only [List.contains_cons, Bool.or_eq_false_iff] at this
    exact this.2
  obtain ⟨css, h1, h2⟩ := h
  refine ⟨css, h1.spare hS w1 hs hf w2 hb, h2.imp id fun ⟨g, o, c', e, hl, hc1, hc2, ha⟩ => ⟨g, o, c', e, Nat.lt_of_lt_of_le hl (Nat.le_trans hs hb.size), hc1, hc2, fun k cs j u c1 c2 => ?_⟩⟩
  injection e with e1 e2 e3
  obtain rfl := h0 g o none e1
  have hne : g ≠ R := fun e => by
    subst e
    have hk : 0 < css.length := Nat.lt_of_le_of_lt (Nat.zero_le _) (List.getElem?_eq_some_iff.1 c1).1
    have hc0 : css[0]? = some css[0] := List.getElem?_eq_getElem hk
    have hr := h1.el 0 _ _ hc0 (List.getElem?_eq_getElem (h1.len ▸ hk))
    have hz := K.len hr
    have hp := K.pos
    have hu : css[0][0]? = some (css[0][0]'(by omega)) := List.getElem?_eq_getElem (by omega)
    have h3 := ha 0 _ 0 _ hc0 hu
    rw [show 0 + 0 * K.sz + 0 = 0 by omega] at h3
    have h4 := hg _ h3
    rw [HdK.hd hr hu] at h4
    simp at h4
  rw [(hb.cell (p := ⟨g, _, none⟩) (Nat.lt_of_lt_of_le hl hs)), ← ha k cs j u c1 c2]
  exact World.cell?_of_block (hf g hne hl)
theorem Lies.apart {w0 : World} {r q : Option Addr} (h : Lies w0 none r) (hb : ∀ g, ob q = some g → g < w0.heap.size) : ∀ g, ob r = some g → ob q ≠ some g := fun g e e2 => by
  rcases h with h | h
  · rw [h] at e; cases e
  · have := h g e
    have := hb g e2
    omega
theorem SlV.spareA [OwnK K] {p : Option Addr} {n c R : Nat} {xs : List α} (h : SlV K w (.slice p n c) xs) (hne : ob p ≠ some R) (hg : NoHd K.S R w) : Spares R w (fun w => SlV K w (.slice p n c) xs) := fun w1 hs hf w2 hb => by
  obtain ⟨css, h1, h2⟩ := h
  refine ⟨css, h1.spare hg w1 hs hf w2 hb, h2.imp id fun ⟨g, o, c', e, hl, hc1, hc2, ha⟩ => ⟨g, o, c', e, Nat.lt_of_lt_of_le hl (Nat.le_trans hs hb.size), hc1, hc2, fun k cs j u c1 c2 => ?_⟩⟩
  injection e with e1 e2 e3
  have hn : g ≠ R := fun e => hne (by rw [e1, e]; rfl)
  rw [(hb.cell (p := ⟨g, _, none⟩) (Nat.lt_of_lt_of_le hl hs)), ← ha k cs j u c1 c2]
  exact World.cell?_of_block (hf g hn hl)
theorem SlV.lt {p : Option Addr} {n c : Nat} {xs : List α} (h : SlV K w (.slice p n c) xs) (hne : xs ≠ []) {g : Nat} (hg : ob p = some g) : g < w.heap.size := by
  obtain ⟨css, h1, ⟨rfl, p', c', e⟩ | ⟨g', o, c', e, hl, _⟩⟩ := h
  · exact absurd rfl hne
  · injection e with e1
    subst e1
    have : g' = g := Option.some.inj hg
    exact this ▸ hl
theorem made_flat (cs : List Value) (n : Nat) (h : 0 < cs.length) : (madeCells cs.toArray (n * cs.length)).toList = (List.replicate n cs).flatten := by
  refine List.ext_getElem? fun k => ?_
  have hl := flat_len (sz := cs.length) (List.replicate n cs) (fun x hx => by rw [(List.mem_replicate.1 hx).2])
  rw [List.length_replicate] at hl
  by_cases hk : k < n * cs.length
  · have hq : k / cs.length < n := Nat.div_lt_of_lt_mul (by rwa [Nat.mul_comm] at hk)
    have hm := Nat.mod_lt k h
    have h2 := flat_at (sz := cs.length) (List.replicate n cs) (fun x hx => by rw [(List.mem_replicate.1 hx).2]) (k / cs.length) (k % cs.length) cs (by simp [hq]) hm
    rw [Nat.mul_comm, Nat.div_add_mod] at h2
    rw [h2]
    simp [madeCells, hk, hm]
  · rw [List.getElem?_eq_none (by simp [madeCells]; omega), List.getElem?_eq_none (by omega)]
end
end Go.Proofs.YtmcfomainmppdaaGreatDoor
