/- Calls that change a row of one's own: the row, where the new one lies, what outlives the call. -/
import Derived.Test.YtcdbgincfdejkaaGreatDoorRowG
namespace Go.Proofs.YtcdbgincfdejkaaGreatDoor
open Go.RowKit
def GB (w0 : World) (q : Option Addr) (w : World) : Prop := w0.grownBy w (ob q)
def Lies (w0 : World) (q r : Option Addr) : Prop := ob r = ob q ∨ ∀ g, ob r = some g → w0.heap.size ≤ g
section
variable {α : Type} {K : EK α} {t : TypeId} {v : Value} {xs ys zs : List α} {P : Program} {V w w0 w1 w2 : World} {ops : Array Oper} {Q : Exit → Act → World → Prop} {o : Oper} {rest : List Oper} {fs : List (World → Prop)} {a : Act} {q p r : Option Addr} {n d m c base : Nat}
theorem grown_belo (h : w0.grownBy w (ob q)) (hb : Below w.heap.size w w1) : w0.grownBy w1 (ob q) :=
  ⟨hb.os.trans h.os, hb.tape.trans h.tape, hb.output.trans h.output, Nat.le_trans h.size hb.size, fun k hk hne => (hb.block k (Nat.lt_of_lt_of_le hk h.size)).trans (h.block k hk hne)⟩
theorem GB.start (w : World) (q : Option Addr) : GB w q w := ⟨rfl, rfl, rfl, Nat.le_refl _, fun _ _ _ => rfl⟩
theorem GB.below (h : GB w0 q w) (hb : Below w.heap.size w w1) : GB w0 q w1 := grown_belo h hb
theorem GB.sz (h : GB w0 q w) : w0.heap.size ≤ w.heap.size := h.size
theorem GB.grown (h : GB w0 q w) (hl : Lies w0 q r) (hg : w.grownBy w1 (ob r)) : GB w0 q w1 :=
  ⟨hg.os.trans h.os, hg.tape.trans h.tape, hg.output.trans h.output, Nat.le_trans h.size hg.size, fun k hk hne => by
    refine (hg.block k (Nat.lt_of_lt_of_le hk h.size) fun e => ?_).trans (h.block k hk hne)
    rcases hl with hl | hl
    · exact hne (e.trans hl)
    · have := hl k e.symm; omega⟩
theorem gwG (h : GB w0 p w) (hl : Lies w0 p q) : Grows (.slice q 0 0) w (GB w0 p) := fun _ hg _ hb => (h.grown hl hg).below hb
theorem put_low {B R : Nat} (hR : B ≤ R) : ∀ (cs : List Value) (o : Nat) (W : World), Below B w W → Below B w (putAt R o cs W)
  | [], _, _, h => h
  | c :: cs, o, W, h => put_low hR cs (o + 1) (W.setCell ⟨R, o, none⟩ c) (h.setCell (p := ⟨R, o, none⟩) hR c)
theorem GB.low (h : GB w0 q w) (hb : Below w0.heap.size w w1) : GB w0 q w1 :=
  ⟨hb.os.trans h.os, hb.tape.trans h.tape, hb.output.trans h.output, Nat.le_trans h.size hb.size, fun k hk hne => (hb.block k hk).trans (h.block k hk hne)⟩
theorem spGB {R o : Nat} {cs : List Value} (hR : w0.heap.size ≤ R) (h : GB w0 q w) : ∀ w', Below (putAt R o cs w).heap.size (putAt R o cs w) w' → GB w0 q w' := fun _ hb =>
  (h.low (put_low hR cs o w (Below.refl _ _))).below hb
theorem New.gb {R : Nat} (h : New V fs R) (hm : GB w0 q ∈ fs) : w0.heap.size ≤ R := by
  obtain ⟨w, hw, rfl⟩ := h
  exact (hw.get hm).sz
theorem Lies.app (hr : ob r = ob p ∨ ob r = some w.heap.size) (hl : Lies w0 q p) (hs : w0.heap.size ≤ w.heap.size) : Lies w0 q r := by
  rcases hr with h | h
  · exact hl.imp (fun e => h.trans e) fun e g hg => e g (h ▸ hg)
  · exact .inr fun g hg => by rw [h] at hg; injection hg with hg; omega
theorem Lies.box {R : Nat} (hl : Lies w q r) (hn : ob q ≠ some R) (hR : R < w.heap.size) : ob r ≠ some R := by
  rcases hl with h | h
  · rw [h]; exact hn
  · exact fun e => absurd (h R e) (by omega)
theorem Lies.row {q' : Option Addr} (hl : Lies w q r) (hn : ∀ g, ob q = some g → ob q' ≠ some g) (hR : ∀ g, ob q' = some g → g < w.heap.size) : ∀ g, ob r = some g → ob q' ≠ some g := fun g hg e => by
  rcases hl with h | h
  · rw [h] at hg; exact hn g hg e
  · exact absurd (h g hg) (by have := hR g e; omega)
end
section
variable {α : Type} {K : EK α} [OwnK K] {t tt uu u' : TypeId} {xs ys : List α} {P : Program} {V : World} {B : Nat} {ops : Array Oper} {Q2 : Act → World → Prop} {ks : List Nat} {o : Oper} {rest : List Oper} {fs f0 : List (World → Prop)} {a : Act} {q p : Option Addr} {n d m c bytes : Nat} {z : Value}
end
end Go.Proofs.YtcdbgincfdejkaaGreatDoor
