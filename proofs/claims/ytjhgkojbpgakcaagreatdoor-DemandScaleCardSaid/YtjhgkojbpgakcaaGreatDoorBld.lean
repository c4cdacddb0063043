/- A strings.Builder among the facts of a walk. -/
import Derived.Test.YtjhgkojbpgakcaaGreatDoorRowG
import Derived.Test.YtjhgkojbpgakcaaGreatDoorShelf
import Derived.Test.YtjhgkojbpgakcaaGreatDoorShelfB
namespace Go.Proofs.YtjhgkojbpgakcaaGreatDoor
open Go.RowKit
def BdV (B R : Nat) (l : List UInt8) (w : World) : Prop := B ≤ R ∧ R < w.heap.size ∧ Lib.IsBuilder 85 5 R R (Lib.byteCells l) w
theorem owns_low {w w' : World} {base sz n : Nat} {e : TypeId} {v : Value} {xs : List Value} (h : w.ownsRow base e sz v n xs) (hb : Below w.heap.size w w') : w'.ownsRow base e sz v n xs :=
  ⟨h.1, h.2.imp id fun ⟨g, cap, cur, e1, h3, hg, h4⟩ => ⟨g, cap, cur, e1, h3, (hb.block g (Array.getElem?_eq_some_iff.1 hg).1).trans hg, h4⟩⟩
theorem bat_low {w w' : World} {T e : TypeId} {B b : Nat} {p : Value} {bs : List Value} (h : Lib.BuilderAt T e B b p bs w) (hb : Below w.heap.size w w') : Lib.BuilderAt T e B b p bs w' := by
  obtain ⟨h1, v, h2, h3, h4⟩ := h
  exact ⟨h1, v, (hb.block b (Array.getElem?_eq_some_iff.1 h2).1).trans h2, owns_low h3 hb, h4⟩
theorem BdV.below {B R : Nat} {l : List UInt8} {w w' : World} (h : BdV B R l w) (hb : Below w.heap.size w w') : BdV B R l w' :=
  ⟨h.1, Nat.lt_of_lt_of_le h.2.1 hb.size, h.2.2.imp (fun h => bat_low h hb) (fun h => bat_low h hb)⟩
theorem BdV.new {B R : Nat} {w : World} (h : Has B R (.cells #[.pointer none, .slice none 0 0] 85) w) : BdV B R [] w :=
  ⟨h.1, h.ltS, .inl ⟨Nat.le_refl _, .slice none 0 0, h.2, ⟨rfl, .inl ⟨rfl, rfl⟩⟩, by simp [Value.ownBlock]⟩⟩
section
variable {P : Program} {V : World} {R : Nat} {ops : Array Oper} {Q : Exit → Act → World → Prop} {o : Oper} {rest : List Oper} {fs : List (World → Prop)} {a : Act}
end
end Go.Proofs.YtjhgkojbpgakcaaGreatDoor
