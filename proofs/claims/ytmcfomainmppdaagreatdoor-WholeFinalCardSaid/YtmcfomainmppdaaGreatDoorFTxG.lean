/- Walking a region operation by operation with facts about worlds (for texts that a program prints): regions in the order of the text, and regions that draw; stores into boxes of any size. -/
import Derived.Test.YtmcfomainmppdaaGreatDoorFMA
namespace Go.Proofs.YtmcfomainmppdaaGreatDoor
open Go.RowKit
structure Sl where
  p : Option Addr
  l : Nat
  c : Nat
instance : Nonempty Sl := ⟨⟨none, 0, 0⟩⟩
structure Duo (α β : Type) where
  a : α
  b : β
instance {α β : Type} [h : Nonempty α] [h' : Nonempty β] : Nonempty (Duo α β) := h.elim fun a => h'.elim fun b => ⟨⟨a, b⟩⟩
def Lasts (l : List (World → Prop)) (w : World) : Prop := ∀ F ∈ l, ∀ w2, Below w.heap.size w w2 → F w2
theorem Lasts.nil (w : World) : Lasts [] w := fun _ h => absurd h List.not_mem_nil
theorem Lasts.cons {F : World → Prop} {l : List (World → Prop)} {w : World} (h : ∀ w2, Below w.heap.size w w2 → F w2) (h' : Lasts l w) : Lasts (F :: l) w := fun G hG => by
  rcases List.mem_cons.1 hG with rfl | hG
  · exact h
  · exact h' G hG
structure Stays (v : Value) (w : World) (u : Value) (w' : World) : Prop where
  eq : u = v
  below : Below w.heap.size w w'
theorem KS.over {V W w : World} {fs l : List (World → Prop)} (h : KS V l W) (h' : KS W fs w) : KS V fs w := ⟨h.old.trans (h'.old.mono h.old.size), h'.all⟩
theorem KS.more {V w : World} {l l' : List (World → Prop)} (h : KS V l w) (h' : Lasts l' w) : KS V (l' ++ l) w := h.app h'
theorem KS.is {V w w' : World} {l : List (World → Prop)} (h : KS V l w) (e : w' = w) : KS V l w' := e ▸ h
theorem KS.subl {V w : World} {l l' : List (World → Prop)} (h : KS V l w) (hs : l'.Sublist l) : KS V l' w := h.sub fun _ hF => hs.subset hF
theorem pA {α : Type _} (l : List α) (i : Nat) (a : α) : l.toArray.setIfInBounds i a = (l.set i a).toArray := List.setIfInBounds_toArray ..
theorem pB {α : Type _} (x : α) (xs : List α) (a : α) : (x :: xs).set 0 a = a :: xs := List.set_cons_zero ..
theorem pC {α : Type _} (x : α) (xs : List α) (i : Nat) (a : α) : (x :: xs).set (i + 1) a = x :: xs.set i a := List.set_cons_succ ..
theorem pD {α : Type _} (x : α) (xs l : List α) : (x :: xs) ++ l = x :: (xs ++ l) := List.cons_append ..
theorem pE {α : Type _} (l : List α) : [] ++ l = l := List.nil_append ..
theorem Calls.hide {P : Program} {f : FuncId} {args : Array Value} {w : World} {Post : Ending → World → Prop} (h : ∀ Q, RowKit.Hid (Post = Q) → Calls P f args w Q) : Calls P f args w Post := h Post (hid rfl)
def putAt (R : Nat) : Nat → List Value → World → World
  | _, [], w => w
  | o, c :: cs, w => putAt R (o + 1) cs (w.setCell ⟨R, o, none⟩ c)
def setL : List Value → Nat → List Value → List Value
  | l, _, [] => l
  | l, o, c :: cs => setL (l.set o c) (o + 1) cs
theorem put_size (R : Nat) : ∀ (cs : List Value) (o : Nat) (w : World), w.heap.size ≤ (putAt R o cs w).heap.size
  | [], _, _ => Nat.le_refl _
  | c :: cs, o, w => Nat.le_trans (by simp [World.setCell]) (put_size R cs (o + 1) (w.setCell ⟨R, o, none⟩ c))
theorem put_far {R g : Nat} (hne : g ≠ R) : ∀ (cs : List Value) (o : Nat) (w : World), (putAt R o cs w).heap[g]? = w.heap[g]?
  | [], _, _ => rfl
  | c :: cs, o, w => (put_far hne cs (o + 1) (w.setCell ⟨R, o, none⟩ c)).trans (setCell_far _ hne)
theorem put_at {R : Nat} {t : TypeId} : ∀ (cs : List Value) (o : Nat) (l : List Value) (w : World), w.heap[R]? = some (.cells l.toArray t) → (putAt R o cs w).heap[R]? = some (.cells (setL l o cs).toArray t)
  | [], _, _, _, h => h
  | c :: cs, o, l, w, h => put_at cs (o + 1) (l.set o c) (w.setCell ⟨R, o, none⟩ c) (by rw [heap_setCell_at h c, List.setIfInBounds_toArray])
def Spares (R : Nat) (w : World) (F : World → Prop) : Prop := ∀ w1, w.heap.size ≤ w1.heap.size → (∀ g, g ≠ R → g < w.heap.size → w1.heap[g]? = w.heap[g]?) → ∀ w2, Below w1.heap.size w1 w2 → F w2
theorem Spares.put {R : Nat} {w : World} {F : World → Prop} (h : Spares R w F) (o : Nat) (cs : List Value) : ∀ w', Below (putAt R o cs w).heap.size (putAt R o cs w) w' → F w' :=
  h _ (put_size R cs o w) (fun _ hg _ => put_far hg cs o w)
theorem has_put {base R : Nat} {w w' : World} {l : List Value} {t : TypeId} (h : Has base R (.cells l.toArray t) w) (o : Nat) (cs : List Value) (hb : Below (putAt R o cs w).heap.size (putAt R o cs w) w') : Has base R (.cells (setL l o cs).toArray t) w' :=
  Has.below ⟨h.1, put_at cs o l w h.2⟩ hb
theorem Has.ltS {base R : Nat} {w : World} {obj : Obj} (h : Has base R obj w) : R < w.heap.size := (Array.getElem?_eq_some_iff.1 h.2).1
theorem has_spare {base R R' : Nat} {obj : Obj} {w : World} (h : Has base R' obj w) (hne : R' ≠ R) : Spares R w (Has base R' obj) := fun _ _ hf _ hb =>
  Has.below ⟨h.1, (hf R' hne (Array.getElem?_eq_some_iff.1 h.2).1).trans h.2⟩ hb
def rkV : Value → Nat
  | .int .u32 _ => 0
  | .int .i64 _ => 1
  | .bool _ => 2
  | .slice .. => 3
  | .string _ => 4
  | .pointer _ => 5
  | .int _ _ => 6
  | _ => 7
def NoHd (S : List Nat) (R : Nat) (w : World) : Prop := ∀ v, w.cell? ⟨R, 0, none⟩ = some v → S.contains (rkV v) = false
def HdIs (R : Nat) (n : Nat) (w : World) : Prop := ∀ v, w.cell? ⟨R, 0, none⟩ = some v → rkV v = n
theorem HdIs.no {S : List Nat} {R n : Nat} {w : World} (h : HdIs R n w) (hS : S.contains n = false) : NoHd S R w := fun v hv => by rw [h v hv]; exact hS
theorem hdIs_of {base R : Nat} {w : World} {c : Value} {l : List Value} {t : TypeId} (h : Has base R (.cells (c :: l).toArray t) w) : HdIs R (rkV c) w := fun v e => by
  have e2 : w.cell? ⟨R, 0, none⟩ = some c := by simp [World.cell?, h.2]
  rw [e2] at e
  rw [Option.some.inj e]
theorem hdIs_nil {base R n : Nat} {w : World} {t : TypeId} (h : Has base R (.cells #[] t) w) : HdIs R n w := fun v e => by
  unfold World.cell? at e
  rw [h.2] at e
  cases e
section
variable {R R' base o : Nat} {cs : List Value} {w : World} {obj : Obj}
end
theorem aN {P : (World → Prop) → Prop} : ∀ F ∈ ([] : List (World → Prop)), P F := fun _ h => absurd h List.not_mem_nil
theorem m0 {α : Type _} {a : α} {l : List α} : a ∈ a :: l := List.mem_cons_self ..
theorem ms {α : Type _} {a b : α} {l : List α} (h : a ∈ l) : a ∈ b :: l := List.mem_cons_of_mem _ h
theorem m1 {α : Type _} {a : α} {b0 : α} {l : List α} : a ∈ b0 :: a :: l := ms m0
theorem m2 {α : Type _} {a : α} {b0 b1 : α} {l : List α} : a ∈ b0 :: b1 :: a :: l := ms m1
theorem m3 {α : Type _} {a : α} {b0 b1 b2 : α} {l : List α} : a ∈ b0 :: b1 :: b2 :: a :: l := ms m2
theorem m4 {α : Type _} {a : α} {b0 b1 b2 b3 : α} {l : List α} : a ∈ b0 :: b1 :: b2 :: b3 :: a :: l := ms m3
theorem m5 {α : Type _} {a : α} {b0 b1 b2 b3 b4 : α} {l : List α} : a ∈ b0 :: b1 :: b2 :: b3 :: b4 :: a :: l := ms m4
theorem m6 {α : Type _} {a : α} {b0 b1 b2 b3 b4 b5 : α} {l : List α} : a ∈ b0 :: b1 :: b2 :: b3 :: b4 :: b5 :: a :: l := ms m5
theorem m7 {α : Type _} {a : α} {b0 b1 b2 b3 b4 b5 b6 : α} {l : List α} : a ∈ b0 :: b1 :: b2 :: b3 :: b4 :: b5 :: b6 :: a :: l := ms m6
theorem m8 {α : Type _} {a : α} {b0 b1 b2 b3 b4 b5 b6 b7 : α} {l : List α} : a ∈ b0 :: b1 :: b2 :: b3 :: b4 :: b5 :: b6 :: b7 :: a :: l := ms m7
theorem m9 {α : Type _} {a : α} {b0 b1 b2 b3 b4 b5 b6 b7 b8 : α} {l : List α} : a ∈ b0 :: b1 :: b2 :: b3 :: b4 :: b5 :: b6 :: b7 :: b8 :: a :: l := ms m8
theorem Has.at {base R : Nat} {w : World} {l : List Value} {t : TypeId} (h : Has base R (.cells l.toArray t) w) (o : Nat) {c : Value} (hc : l[o]? = some c) : w.cell? ⟨R, o, none⟩ = some c := by
  unfold World.cell?
  rw [h.2]
  simpa using hc
theorem Has.c2 {base R : Nat} {w : World} {a b : Value} {t : TypeId} (H : Has base R (.cells #[a, b] t) w) : w.cell? ⟨R, 0, none⟩ = some a ∧ w.cell? ⟨R, 1, none⟩ = some b := ⟨H.at 0 rfl, H.at 1 rfl⟩
theorem Has.c3 {base R : Nat} {w : World} {a b c : Value} {t : TypeId} (H : Has base R (.cells #[a, b, c] t) w) : w.cell? ⟨R, 0, none⟩ = some a ∧ w.cell? ⟨R, 1, none⟩ = some b ∧ w.cell? ⟨R, 2, none⟩ = some c := ⟨H.at 0 rfl, H.at 1 rfl, H.at 2 rfl⟩
theorem Has.c4 {base R : Nat} {w : World} {a b c d : Value} {t : TypeId} (H : Has base R (.cells #[a, b, c, d] t) w) : w.cell? ⟨R, 0, none⟩ = some a ∧ w.cell? ⟨R, 1, none⟩ = some b ∧ w.cell? ⟨R, 2, none⟩ = some c ∧ w.cell? ⟨R, 3, none⟩ = some d := ⟨H.at 0 rfl, H.at 1 rfl, H.at 2 rfl, H.at 3 rfl⟩
theorem Has.c5 {base R : Nat} {w : World} {a b c d e : Value} {t : TypeId} (H : Has base R (.cells #[a, b, c, d, e] t) w) : w.cell? ⟨R, 0, none⟩ = some a ∧ w.cell? ⟨R, 1, none⟩ = some b ∧ w.cell? ⟨R, 2, none⟩ = some c ∧ w.cell? ⟨R, 3, none⟩ = some d ∧ w.cell? ⟨R, 4, none⟩ = some e := ⟨H.at 0 rfl, H.at 1 rfl, H.at 2 rfl, H.at 3 rfl, H.at 4 rfl⟩
theorem Has.c6 {base R : Nat} {w : World} {a b c d e f : Value} {t : TypeId} (H : Has base R (.cells #[a, b, c, d, e, f] t) w) : w.cell? ⟨R, 0, none⟩ = some a ∧ w.cell? ⟨R, 1, none⟩ = some b ∧ w.cell? ⟨R, 2, none⟩ = some c ∧ w.cell? ⟨R, 3, none⟩ = some d ∧ w.cell? ⟨R, 4, none⟩ = some e ∧ w.cell? ⟨R, 5, none⟩ = some f := ⟨H.at 0 rfl, H.at 1 rfl, H.at 2 rfl, H.at 3 rfl, H.at 4 rfl, H.at 5 rfl⟩
theorem Has.c7 {base R : Nat} {w : World} {a b c d e f g : Value} {t : TypeId} (H : Has base R (.cells #[a, b, c, d, e, f, g] t) w) : w.cell? ⟨R, 0, none⟩ = some a ∧ w.cell? ⟨R, 1, none⟩ = some b ∧ w.cell? ⟨R, 2, none⟩ = some c ∧ w.cell? ⟨R, 3, none⟩ = some d ∧ w.cell? ⟨R, 4, none⟩ = some e ∧ w.cell? ⟨R, 5, none⟩ = some f ∧ w.cell? ⟨R, 6, none⟩ = some g := ⟨H.at 0 rfl, H.at 1 rfl, H.at 2 rfl, H.at 3 rfl, H.at 4 rfl, H.at 5 rfl, H.at 6 rfl⟩
theorem Has.c8 {base R : Nat} {w : World} {a b c d e f g h : Value} {t : TypeId} (H : Has base R (.cells #[a, b, c, d, e, f, g, h] t) w) : w.cell? ⟨R, 0, none⟩ = some a ∧ w.cell? ⟨R, 1, none⟩ = some b ∧ w.cell? ⟨R, 2, none⟩ = some c ∧ w.cell? ⟨R, 3, none⟩ = some d ∧ w.cell? ⟨R, 4, none⟩ = some e ∧ w.cell? ⟨R, 5, none⟩ = some f ∧ w.cell? ⟨R, 6, none⟩ = some g ∧ w.cell? ⟨R, 7, none⟩ = some h := ⟨H.at 0 rfl, H.at 1 rfl, H.at 2 rfl, H.at 3 rfl, H.at 4 rfl, H.at 5 rfl, H.at 6 rfl, H.at 7 rfl⟩
theorem Has.fz {base R : Nat} {w : World} {c : Array Value} {t : TypeId} (h : Has base R (.cells c t) w) : ∀ o, w.frozen? ⟨R, o, none⟩ = false := by intro o; simp [World.frozen?, h.2]
section
variable {P : Program} {V : World} {ops : Array Oper} {Q : Exit → Act → World → Prop} {o : Oper} {rest : List Oper} {fs : List (World → Prop)} {a : Act} {v : Value}
structure Tx (P : Program) (V : World) (ops : Array Oper) (Q : Exit → Act → World → Prop) (l : List Oper) (fs : List (World → Prop)) (a : Act) : Prop where
  out : ∀ w, KS V fs w → wpList P ops Q l a w
theorem tx_step (k : Nat) (h : mStep P (KS V []) V.heap.size ops k o (KS V fs) a (fun S' a' => ∀ w, S' w → wpList P ops Q rest a' w)) : Tx P V ops Q (o :: rest) fs a :=
  ⟨fun _ hw => mStep.wp (P0 := KS V []) (base := V.heap.size) (K' := fun a' w' => wpList P ops Q rest a' w') (fun _ hw => hw.old.size) (KS.clos _ _) (fun _ hw => hw.nil) hw (fun _ _ w' _ _ hw' hk => hk w' hw') h⟩
theorem txF (hg : Wants ops o a) (h1 : ∀ w, KS V fs w → Flt v w ((execOp a.eval o).run P w)) (h : Tx P V ops Q rest fs (a.put o.dst v)) : Tx P V ops Q (o :: rest) fs a := by
  refine tx_step 1 ?_
  unfold mStep
  rw [if_pos hg]
  exact ⟨v, fun w hw => Flt.does ⟨rfl, Below.refl _ _, hw⟩ (h1 w hw), h.out⟩
theorem txB (b : Bool) (hg : Wants ops o a) (h1 : ∀ w, KS V fs w → Flt (.bool b) w ((execOp a.eval o).run P w)) (h : Tx P V ops Q rest fs (a.put o.dst (.bool b))) : Tx P V ops Q (o :: rest) fs a := txF hg h1 h
theorem txH (hg : Wants ops o a) (h1 : ∀ u, RowKit.Hid (v = u) → ∀ w, KS V fs w → Does P (Stays u w) ((execOp a.eval o).run P w)) (h : Tx P V ops Q rest fs (a.put o.dst v)) : Tx P V ops Q (o :: rest) fs a := by
  refine tx_step 1 ?_
  unfold mStep
  rw [if_pos hg]
  exact ⟨v, fun w hw => (h1 v (hid rfl) w hw).mono fun u w' ⟨c1, c2⟩ => ⟨c1, c2, hw.step c2⟩, h.out⟩
theorem txEnd (h : ∀ w, KS V fs w → Q .normal a w) : Tx P V ops Q [] fs a := ⟨fun w hw => h w hw⟩
theorem wp_region_tx {id : Nat} {w : World} {l : List Oper} (V : World) {fs : List (World → Prop)} (hS : KS V fs w) (h : Tx P V l.toArray Q l fs a) : (Code.region id l.toArray false).wp P Q a w :=
  wp_region_lit (h.out w hS)
variable {B : Nat} {f0 : List (World → Prop)} {Q2 : Act → World → Prop} {ks : List Nat}
theorem lxH1 (hg : Wants ops o a) (h1 : ∀ u, RowKit.Hid (v = u) → ∀ w, KS V f0 w → KS V fs w → Does P (Stays u w) ((execOp a.eval o).run P w)) (h : Lx P V B f0 ops Q2 ks rest fs (a.put o.dst v)) : Lx P V B f0 ops Q2 (1 :: ks) (o :: rest) fs a :=
  lxH0 hg (fun w h0 hK => (h1 v (hid rfl) w h0 hK).mono fun _ _ ⟨c1, c2⟩ => ⟨c1, c2⟩) h
end
end Go.Proofs.YtmcfomainmppdaaGreatDoor
