/- A strings.Builder among the facts of a walk, with what was laid after it kept. -/
import Derived.Test.YtjhgkojbpgakcaaGreatDoorBld
import Derived.Shelf.Strings.BuilderK
namespace Go.Proofs.YtjhgkojbpgakcaaGreatDoor
open Go.RowKit
theorem ownsF_low {w w' : World} {base sz n : Nat} {e : TypeId} {v : Value} {xs : List Value} (h : w.ownsRowF base e sz v n xs) (hb : Below w.heap.size w w') : w'.ownsRowF base e sz v n xs :=
  ⟨h.1, h.2.imp id fun ⟨g, cap, cur, fz, e1, h3, hg, h4⟩ => ⟨g, cap, cur, fz, e1, h3, (hb.block g (Array.getElem?_eq_some_iff.1 hg).1).trans hg, h4⟩⟩
theorem batF_low {w w' : World} {T e : TypeId} {B b : Nat} {p : Value} {bs : List Value} (h : Lib.BuilderAtF T e B b p bs w) (hb : Below w.heap.size w w') : Lib.BuilderAtF T e B b p bs w' := by
  obtain ⟨h1, v, h2, h3, h4⟩ := h
  exact ⟨h1, v, (hb.block b (Array.getElem?_eq_some_iff.1 h2).1).trans h2, ownsF_low h3 hb, h4⟩
def BdK (B R : Nat) (l : List UInt8) (w : World) : Prop := B ≤ R ∧ R < w.heap.size ∧ Lib.IsBuilderF 85 5 R R (Lib.byteCells l) w
theorem BdK.below {B R : Nat} {l : List UInt8} {w w' : World} (h : BdK B R l w) (hb : Below w.heap.size w w') : BdK B R l w' :=
  ⟨h.1, Nat.lt_of_lt_of_le h.2.1 hb.size, h.2.2.imp (fun h => batF_low h hb) (fun h => batF_low h hb)⟩
theorem BdK.new {B R : Nat} {w : World} (h : Has B R (.cells #[.pointer none, .slice none 0 0] 85) w) : BdK B R [] w :=
  ⟨h.1, h.ltS, .of (.inl ⟨Nat.le_refl _, .slice none 0 0, h.2, ⟨rfl, .inl ⟨rfl, rfl⟩⟩, by simp [Value.ownBlock]⟩)⟩
theorem ownsF_keep {w w1 : World} {base sz n : Nat} {e : TypeId} {v : Value} {xs : List Value} (h : w.ownsRowF base e sz v n xs) (hb : ∀ (g : Nat) c fz, w.heap[g]? = some (Obj.cells c e fz) → w1.heap[g]? = w.heap[g]?) : w1.ownsRowF base e sz v n xs :=
  ⟨h.1, h.2.imp id fun ⟨g, cap, cur, fz, e1, h3, hg, h4⟩ => ⟨g, cap, cur, fz, e1, h3, (hb g _ _ hg).trans hg, h4⟩⟩
theorem batF_keep {w w1 : World} {T e : TypeId} {B b : Nat} {p : Value} {bs : List Value} (h : Lib.BuilderAtF T e B b p bs w) (hR : w1.heap[b]? = w.heap[b]?) (hb : ∀ (g : Nat) c fz, w.heap[g]? = some (Obj.cells c e fz) → w1.heap[g]? = w.heap[g]?) : Lib.BuilderAtF T e B b p bs w1 := by
  obtain ⟨h1, v, h2, h3, h4⟩ := h
  exact ⟨h1, v, hR.trans h2, ownsF_keep h3 hb, h4⟩
theorem BdK.spare {B R g : Nat} {l : List UInt8} {w : World} (h : BdK B R l w) (hne : R ≠ g) (hg : ∀ c fz, w.heap[g]? ≠ some (Obj.cells c 5 fz)) : Spares g w (BdK B R l) := fun w1 hs hf w2 hb => by
  have hk : ∀ (g' : Nat) c fz, w.heap[g']? = some (Obj.cells c 5 fz) → w1.heap[g']? = w.heap[g']? := fun g' c fz e => hf g' (fun q => hg c fz (by rw [← q]; exact e)) (Array.getElem?_eq_some_iff.1 e).1
  have hR := hf R hne h.2.1
  exact BdK.below ⟨h.1, Nat.lt_of_lt_of_le h.2.1 hs, h.2.2.imp (fun h => batF_keep h hR hk) (fun h => batF_keep h hR hk)⟩ hb
theorem spBK {B R R' b o : Nat} {l : List UInt8} {w : World} {cs : Array Value} {ds : List Value} {t : TypeId} (hk : Has b R' (.cells cs t) w) (ht : t ≠ 5) (hne : R ≠ R') (h : BdK B R l w) : ∀ w', Below (putAt R' o ds w).heap.size (putAt R' o ds w) w' → BdK B R l w' :=
  Spares.put (h.spare hne fun c fz e => by rw [hk.2] at e; injection e with e; injection e with _ e _; exact ht e) o ds
theorem New.bdk {V : World} {fs : List (World → Prop)} {R R' B : Nat} {l : List UInt8} (h : New V fs R) (hm : BdK B R' l ∈ fs) : R' < R := by
  obtain ⟨w, hw, rfl⟩ := h
  exact (hw.get hm).2.1
def Oth (R : Nat) (w w' : World) : Prop := Below R w w' ∧ Lib.OthersKept 5 (some R) w w'
theorem bk_byte {B R : Nat} {l : List UInt8} (c : UInt8) (w : World) (h : BdK B R l w) (hl : l.length ≤ 100000000) :
    Calls Tryz.prog 47 #[.pointer (some ⟨R, 0, none⟩), .int .u8 (c.toNat : Int)] w fun e w' => e = .returned .nilIface ∧ BdK B R (l ++ [c]) w' ∧ Oth R w w' :=
  (Any.Builder_WriteByte_k Tryz.lays167 Tryz.Builder_Extra_167 R R _ _ w h.2.2 (by rw [Lib.byteCells_length]; omega) (Nat.le_of_lt h.2.1)).mono fun e w' ⟨h1, h2, h3, h4⟩ => ⟨h1, ⟨h.1, Nat.lt_of_lt_of_le h.2.1 h3.size, .inr (by rw [Lib.byteCells_append]; exact h2)⟩, h3, h4⟩
theorem bk_str {B R : Nat} {l : List UInt8} (s : List UInt8) (w : World) (h : BdK B R l w) (hl : l.length + s.length ≤ 100000000) :
    Calls Tryz.prog 46 #[.pointer (some ⟨R, 0, none⟩), .string ⟨s.toArray⟩] w fun e w' => e = .returned (.tuple #[.int .i64 (s.length : Int), .nilIface]) ∧ BdK B R (l ++ s) w' ∧ Oth R w w' :=
  (Any.Builder_WriteString_k Tryz.lays166 Tryz.Builder_Extra_166 R R _ ⟨s.toArray⟩ w h.2.2 (by rw [Lib.byteCells_length]; show _ + s.toArray.size ≤ _; simp; omega) (Nat.le_of_lt h.2.1)).mono fun e w' ⟨h1, h2, h3, h4⟩ => ⟨by rw [h1]; rfl, ⟨h.1, Nat.lt_of_lt_of_le h.2.1 h3.size, .inr (by rw [Lib.byteCells_append]; exact h2)⟩, h3, h4⟩
theorem bk_get {B R : Nat} {l : List UInt8} (w : World) (h : BdK B R l w) :
    Calls Tryz.prog 49 #[.pointer (some ⟨R, 0, none⟩)] w fun e w' => e = .returned (.string ⟨l.toArray⟩) ∧ Oth R w w' :=
  (Any.Builder_String_any_k Tryz.lays169 Tryz.Builder_Extra_169 R R l w h.2.2 (Nat.le_of_lt h.2.1)).mono fun _ _ ⟨h1, _, h3, h4⟩ => ⟨h1, h3, h4⟩
def LowK (R : Nat) (w : World) (F : World → Prop) : Prop := ∀ w1, Oth R w w1 → ∀ w2, Below w1.heap.size w1 w2 → F w2
theorem lkG {b R R' : Nat} {cs : Array Value} {t : TypeId} {w : World} (h : Has b R' (.cells cs t) w) (hlt : R < R') (ht : t ≠ 5) : LowK R w (Has b R' (.cells cs t)) := fun _ h1 _ h2 =>
  Has.below ⟨h.1, h1.2 R' _ h.2 (fun e => by injection e with e; omega) (fun c fz e => by injection e with _ e _; exact ht e)⟩ h2
section
variable {P : Program} {V : World} {R : Nat} {ops : Array Oper} {Q : Exit → Act → World → Prop} {o : Oper} {rest : List Oper} {fs : List (World → Prop)} {a : Act}
theorem txBdK (R : Nat) (v : Value) (F : World → Prop) (kept : List (World → Prop)) (hg : Wants ops o a) (hR : ∀ w, KS V fs w → V.heap.size ≤ R)
    (h2 : ∀ w, KS V fs w → ∀ G ∈ kept, LowK R w G)
    (h1 : ∀ u F1, RowKit.Hid (v = u ∧ F = F1) → ∀ w, KS V fs w → Does P (fun x w' => x = u ∧ Oth R w w' ∧ ∀ w2, Below w'.heap.size w' w2 → F1 w2) ((execOp a.eval o).run P w))
    (h : Tx P V ops Q rest (F :: kept) (a.put o.dst v)) : Tx P V ops Q (o :: rest) fs a := by
  refine txP (α := Unit) (fun _ => v) (fun _ => F :: kept) hg (fun f1 l1 hl w hw => ?_) (fun _ => h)
  obtain ⟨rfl, rfl⟩ := hl.out
  exact (h1 v F (hid ⟨rfl, rfl⟩) w hw).mono fun u w' ⟨c1, c2, c3⟩ => ⟨(), c1, hw.old.trans (c2.1.mono (hR w hw)), al1 c3 fun G hG w2 hb => h2 w hw G hG w' c2 w2 hb⟩
end
end Go.Proofs.YtjhgkojbpgakcaaGreatDoor
