/- A strings.Builder among the facts of a walk. -/
import Derived.Test.YtbbjjjaclbkolaaGreatDoorRowG
import Derived.Test.YtbbjjjaclbkolaaGreatDoorShelf
import Derived.Test.YtbbjjjaclbkolaaGreatDoorShelfB
namespace Go.Proofs.YtbbjjjaclbkolaaGreatDoor
open Go.RowKit
def BdV (B R : Nat) (l : List UInt8) (w : World) : Prop := B ≤ R ∧ R < w.heap.size ∧ Lib.IsBuilder 57 5 R R (Lib.byteCells l) w
theorem owns_low {w w' : World} {base sz n : Nat} {e : TypeId} {v : Value} {xs : List Value} (h : w.ownsRow base e sz v n xs) (hb : Below w.heap.size w w') : w'.ownsRow base e sz v n xs :=
  ⟨h.1, h.2.imp id fun ⟨g, cap, cur, e1, h3, hg, h4⟩ => ⟨g, cap, cur, e1, h3, (hb.block g (Array.getElem?_eq_some_iff.1 hg).1).trans hg, h4⟩⟩
theorem bat_low {w w' : World} {T e : TypeId} {B b : Nat} {p : Value} {bs : List Value} (h : Lib.BuilderAt T e B b p bs w) (hb : Below w.heap.size w w') : Lib.BuilderAt T e B b p bs w' := by
  obtain ⟨h1, v, h2, h3, h4⟩ := h
  exact ⟨h1, v, (hb.block b (Array.getElem?_eq_some_iff.1 h2).1).trans h2, owns_low h3 hb, h4⟩
theorem BdV.below {B R : Nat} {l : List UInt8} {w w' : World} (h : BdV B R l w) (hb : Below w.heap.size w w') : BdV B R l w' :=
  ⟨h.1, Nat.lt_of_lt_of_le h.2.1 hb.size, h.2.2.imp (fun h => bat_low h hb) (fun h => bat_low h hb)⟩
theorem BdV.new {B R : Nat} {w : World} (h : Has B R (.cells #[.pointer none, .slice none 0 0] 57) w) : BdV B R [] w :=
  ⟨h.1, h.ltS, .inl ⟨Nat.le_refl _, .slice none 0 0, h.2, ⟨rfl, .inl ⟨rfl, rfl⟩⟩, by simp [Value.ownBlock]⟩⟩
theorem bd_byte {B R : Nat} {l : List UInt8} (c : UInt8) (w : World) (h : BdV B R l w) (hl : l.length ≤ 100000000) :
    Calls Tryz.prog 24 #[.pointer (some ⟨R, 0, none⟩), .int .u8 (c.toNat : Int)] w fun e w' => e = .returned .nilIface ∧ BdV B R (l ++ [c]) w' ∧ Below R w w' :=
  (Tryz.Builder_WriteByte R R _ _ w h.2.2 (by rw [Lib.byteCells_length]; omega) (Nat.le_of_lt h.2.1)).mono fun e w' ⟨h1, h2, h3⟩ => ⟨h1, ⟨h.1, Nat.lt_of_lt_of_le h.2.1 h3.size, .inr (by rw [Lib.byteCells_append]; exact h2)⟩, h3⟩
theorem bd_str {B R : Nat} {l : List UInt8} (s : List UInt8) (w : World) (h : BdV B R l w) (hl : l.length + s.length ≤ 100000000) :
    Calls Tryz.prog 25 #[.pointer (some ⟨R, 0, none⟩), .string ⟨s.toArray⟩] w fun e w' => e = .returned (.tuple #[.int .i64 (s.length : Int), .nilIface]) ∧ BdV B R (l ++ s) w' ∧ Below R w w' :=
  (Tryz.Builder_WriteString R R _ ⟨s.toArray⟩ w h.2.2 (by rw [Lib.byteCells_length]; show _ + s.toArray.size ≤ _; simp; omega) (Nat.le_of_lt h.2.1)).mono fun e w' ⟨h1, h2, h3⟩ => ⟨by rw [h1]; rfl, ⟨h.1, Nat.lt_of_lt_of_le h.2.1 h3.size, .inr (by rw [Lib.byteCells_append]; exact h2)⟩, h3⟩
theorem bd_get {B R : Nat} {l : List UInt8} (w : World) (h : BdV B R l w) :
    Calls Tryz.prog 27 #[.pointer (some ⟨R, 0, none⟩)] w fun e w' => e = .returned (.string ⟨l.toArray⟩) ∧ Below R w w' := Tryz.Builder_String_any R R l w h.2.2 (Nat.le_of_lt h.2.1)
def Low (R : Nat) (w : World) (F : World → Prop) : Prop := ∀ w1, Below R w w1 → ∀ w2, Below w1.heap.size w1 w2 → F w2
theorem lowH {b R R' : Nat} {obj : Obj} {w : World} (h : Has b R' obj w) (hlt : R' < R) : Low R w (Has b R' obj) := fun _ h1 _ h2 => Has.below ⟨h.1, (h1.block R' hlt).trans h.2⟩ h2
section
variable {P : Program} {V : World} {R : Nat} {ops : Array Oper} {Q : Exit → Act → World → Prop} {o : Oper} {rest : List Oper} {fs : List (World → Prop)} {a : Act}
theorem txBld (R : Nat) (v : Value) (F : World → Prop) (kept : List (World → Prop)) (hg : Wants ops o a) (hR : ∀ w, KS V fs w → V.heap.size ≤ R)
    (h2 : ∀ w, KS V fs w → ∀ G ∈ kept, Low R w G)
    (h1 : ∀ u F1, RowKit.Hid (v = u ∧ F = F1) → ∀ w, KS V fs w → Does P (fun x w' => x = u ∧ Below R w w' ∧ ∀ w2, Below w'.heap.size w' w2 → F1 w2) ((execOp a.eval o).run P w))
    (h : Tx P V ops Q rest (F :: kept) (a.put o.dst v)) : Tx P V ops Q (o :: rest) fs a := by
  refine txP (α := Unit) (fun _ => v) (fun _ => F :: kept) hg (fun f1 l1 hl w hw => ?_) (fun _ => h)
  obtain ⟨rfl, rfl⟩ := hl.out
  exact (h1 v F (hid ⟨rfl, rfl⟩) w hw).mono fun u w' ⟨c1, c2, c3⟩ => ⟨(), c1, hw.old.trans (c2.mono (hR w hw)), al1 c3 fun G hG w2 hb => h2 w hw G hG w' c2 w2 hb⟩
end
end Go.Proofs.YtbbjjjaclbkolaaGreatDoor
