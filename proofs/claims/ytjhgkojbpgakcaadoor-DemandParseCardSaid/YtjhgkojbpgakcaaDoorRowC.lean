/- Calls that change a row of one's own: the row, where the new one lies, what outlives the call. -/
import Derived.Test.YtjhgkojbpgakcaaDoorRowG
namespace Go.Proofs.YtjhgkojbpgakcaaDoor
open Go.RowKit
def GB (w0 : World) (q : Option Addr) (w : World) : Prop := w0.grownBy w (ob q)
def Lies (w0 : World) (q r : Option Addr) : Prop := ob r = ob q ∨ ∀ g, ob r = some g → w0.heap.size ≤ g
structure TurnRes {α : Type} (K : EK α) (t : TypeId) (base : Nat) (q : Option Addr) (v r : Value) (zs : List α) (w : World) (u : Value) (w' : World) : Prop where
  eq : u = r
  own : OwV K t base w' v zs
  gr : w.grownBy w' (ob q)
section
variable {α : Type} {K : EK α} {t : TypeId} {v : Value} {xs ys zs : List α} {P : Program} {V w w0 w1 w2 : World} {ops : Array Oper} {Q : Exit → Act → World → Prop} {o : Oper} {rest : List Oper} {fs : List (World → Prop)} {a : Act} {q p r : Option Addr} {n d m c base : Nat}
theorem grown_belo (h : w0.grownBy w (ob q)) (hb : Below w.heap.size w w1) : w0.grownBy w1 (ob q) :=
  ⟨hb.os.trans h.os, hb.tape.trans h.tape, hb.output.trans h.output, Nat.le_trans h.size hb.size, fun k hk hne => (hb.block k (Nat.lt_of_lt_of_le hk h.size)).trans (h.block k hk hne)⟩
theorem GB.start (w : World) (q : Option Addr) : GB w q w := ⟨rfl, rfl, rfl, Nat.le_refl _, fun _ _ _ => rfl⟩
theorem GB.below (h : GB w0 q w) (hb : Below w.heap.size w w1) : GB w0 q w1 := grown_belo h hb
theorem GB.sz (h : GB w0 q w) : w0.heap.size ≤ w.heap.size := h.size
theorem GB.grown (h : GB w0 q w) (hl : Lies w0 q r) (hg : w.grownBy w1 (ob r)) : GB w0 q w1 :=
  ⟨hg.os.trans h.os, hg.tape.trans h.tape, hg.output.trans h.output, Nat.le_trans h.size hg.size, fun k hk hne => by
    refine (hg.block k (Nat.lt_of_lt_of_le hk h.size) fun e => ?_).trans (h.block k hk hne)
    rcases hl with hl | hl
    · exact hne (e.trans hl)
    · have := hl k e.symm; omega⟩
theorem Lies.app (hr : ob r = ob p ∨ ob r = some w.heap.size) (hl : Lies w0 q p) (hs : w0.heap.size ≤ w.heap.size) : Lies w0 q r := by
  rcases hr with h | h
  · exact hl.imp (fun e => h.trans e) fun e g hg => e g (h ▸ hg)
  · exact .inr fun g hg => by rw [h] at hg; injection hg with hg; omega
theorem Lies.box {R : Nat} (hl : Lies w q r) (hn : ob q ≠ some R) (hR : R < w.heap.size) : ob r ≠ some R := by
  rcases hl with h | h
  · rw [h]; exact hn
  · exact fun e => absurd (h R e) (by omega)
theorem Lies.row {q' : Option Addr} (hl : Lies w q r) (hn : ∀ g, ob q = some g → ob q' ≠ some g) (hR : ∀ g, ob q' = some g → g < w.heap.size) : ∀ g, ob r = some g → ob q' ≠ some g := fun g hg e => by
  rcases hl with h | h
  · rw [h] at hg; exact hn g hg e
  · exact absurd (h g hg) (by have := hR g e; omega)
theorem txTurn (q : Option Addr) (n d : Nat) (v : Value) (zs : List α) (kept : List (World → Prop)) (hg : Wants ops o a) (hq : ∀ w, KS V fs w → ∀ g, ob q = some g → V.heap.size ≤ g)
    (h2 : ∀ w, KS V fs w → ∀ F ∈ kept, Grows (.slice q 0 0) w F)
    (h1 : ∀ u ys, RowKit.Hid (v = u ∧ zs = ys) → ∀ w, KS V fs w → Does P (TurnRes K t V.heap.size q (.slice q n d) u ys w) ((execOp a.eval o).run P w))
    (h : Tx P V ops Q rest ((fun w => OwV K t V.heap.size w (.slice q n d) zs) :: kept) (a.put o.dst v)) : Tx P V ops Q (o :: rest) fs a := by
  refine txP (α := Unit) (fun _ => v) (fun _ => (fun w => OwV K t V.heap.size w (.slice q n d) zs) :: kept) hg (fun f1 l1 hl w hw => ?_) (fun _ => h)
  obtain ⟨rfl, rfl⟩ := hl.out
  exact (h1 v zs (hid ⟨rfl, rfl⟩) w hw).mono fun u w' ⟨c0, c1, c2⟩ => ⟨(), c0, grow_ks hw (hq w hw) c2 (al1 (fun w2 hb => c1.below hb) fun F hF w2 hb => h2 w hw F hF w' c2 w2 hb)⟩
end
section
variable {α : Type} {K : EK α} [OwnK K] {t tt uu u' : TypeId} {xs ys : List α} {P : Program} {V : World} {B : Nat} {ops : Array Oper} {Q2 : Act → World → Prop} {ks : List Nat} {o : Oper} {rest : List Oper} {fs f0 : List (World → Prop)} {a : Act} {q p : Option Addr} {n d m c bytes : Nat} {z : Value}
end
end Go.Proofs.YtjhgkojbpgakcaaDoor
