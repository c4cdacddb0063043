/- Numbers and their digits to a base, the lowest one first; decimal texts. No program in sight. Long division, a digit of the quotient at a time: what guess, reduce and the shifts compute. No program in sight. Long division, a digit of the quotient at a time: the state between the places. No program in sight. What the reference's loops compute: products group by group, the greatest 64-bit number, halves. No program in sight. Decimal texts: groups of digits. No program in sight. Rational numbers by sign, numerator and denominator. No program in sight. Signs, comparisons, floors of rational numbers: what the program's functions compute. No program in sight. Texts of rational numbers. No program in sight. A region that draws its order of evaluation, walked once in the order of the text: each of its operations is of one of three kinds: one that yields its value in every world; one that yields one value in every world of a class and leaves a world of the class; one that turns the class. Conditions: the region's own order leads the third kind past the second and past itself. Small lemmas of the walks: a world over another one; rows of one's own; blocks as they stand. A region that draws its order of evaluation and makes new blocks that wait for nothing: walked once in the order of the text. Each operation is of one of five kinds: one that yields its value in every world; one that yields one value in each world of a class and leaves the class; one that turns the class and leaves the o -/
import Derived.Lib.ItoaNum
import Derived.Lib.Repeat
import Derived.OrdersHeld
import Derived.Still
import Derived.Tactics2
import Derived.KernelRfl
import Derived.Below
import Derived.Test.YtmcfomainmppdaaGreatDoorProg
import Derived.WalkKit
import Derived.WalkSpells
import Derived.WalkLawsBesides
import Derived.Deep.Cut
import Derived.Deep.LoopGhost
import Derived.Maps.AppendAt
namespace Go.Proofs.YtmcfomainmppdaaGreatDoor
def val (B : Nat) : List Nat → Nat
  | [] => 0
  | d :: ds => d + B * val B ds
section
variable {B : Nat}
end
end Go.Proofs.YtmcfomainmppdaaGreatDoor
namespace Go.Proofs.YtmcfomainmppdaaGreatDoor
end Go.Proofs.YtmcfomainmppdaaGreatDoor
namespace Go.Proofs.YtmcfomainmppdaaGreatDoor
section
variable {B : Nat}
end
end Go.Proofs.YtmcfomainmppdaaGreatDoor
namespace Go.Proofs.YtmcfomainmppdaaGreatDoor
def cv : List Nat → List Nat → Nat → Nat
  | [], _, _ => 0
  | a :: _, bs, 0 => a * bs.getD 0 0
  | a :: xa, bs, k + 1 => a * bs.getD (k + 1) 0 + cv xa bs k
end Go.Proofs.YtmcfomainmppdaaGreatDoor
namespace Go.Proofs.YtmcfomainmppdaaGreatDoor
open Go.Lib (decDigits repeatL)
end Go.Proofs.YtmcfomainmppdaaGreatDoor
namespace Go.Proofs.YtmcfomainmppdaaGreatDoor
end Go.Proofs.YtmcfomainmppdaaGreatDoor
namespace Go.Proofs.YtmcfomainmppdaaGreatDoor
def one0 (z : Nat) : Nat := if z = 0 then 1 else z
end Go.Proofs.YtmcfomainmppdaaGreatDoor
namespace Go.Proofs.YtmcfomainmppdaaGreatDoor
open Go.Lib (decDigits)
end Go.Proofs.YtmcfomainmppdaaGreatDoor
namespace Go.Proofs.YtmcfomainmppdaaGreatDoor
theorem hid {p : Prop} (h : p) : RowKit.Hid p := h
section
variable {P : Program} {P0 : World → Prop} {ops : Array Oper} {md : Region.Mode}
def Does (P : Program) (R : Value → World → Prop) : Result Next → Prop
  | .ok (.value u) w' => R u w'
  | .ok .skip w' => R undef w'
  | .ok (.enter f args) w' => Calls P f args w' (fun e w'' => ∃ v, e = .returned v ∧ R v w'')
  | _ => False
theorem Does.mono {R R' : Value → World → Prop} (h : ∀ v w, R v w → R' v w) {r : Result Next} (hd : Does P R r) : Does P R' r := by
  cases r with
  | ok n w =>
    cases n with
    | value u => exact h _ _ hd
    | skip => exact h _ _ hd
    | enter f args => exact Calls.mono hd fun _ _ ⟨v, he, hr⟩ => ⟨v, he, h _ _ hr⟩
    | _ => exact False.elim hd
  | halt x w => exact False.elim hd
theorem Does.upon {R : Value → World → Prop} {a : Act} {o : Oper} {K : Act → World → Prop} {Q : Exit → Act → World → Prop} (h : ∀ v w, R v w → K (a.put o.dst v) w)
    {r : Result Next} (hd : Does P R r) : o.upon P a K Q r := by
  cases r with
  | ok n w =>
    cases n with
    | value u => exact h _ _ hd
    | skip => exact h _ _ hd
    | enter f args => exact Calls.mono hd fun _ _ ⟨v, he, hr⟩ => by subst he; exact h _ _ hr
    | _ => exact False.elim hd
  | halt x w => exact False.elim hd
def Flt (v : Value) (w : World) : Result Next → Prop
  | .ok (.value u) w' => u = v ∧ w' = w
  | .ok .skip w' => v = undef ∧ w' = w
  | _ => False
theorem Flt.does {v : Value} {w : World} {R : Value → World → Prop} (h : R v w) {r : Result Next} (hd : Flt v w r) : Does P R r := by
  cases r with
  | ok n w =>
    cases n with
    | value u => obtain ⟨e1, e2⟩ := hd; subst e1; subst e2; exact h
    | skip => obtain ⟨e1, e2⟩ := hd; subst e1; subst e2; exact h
    | _ => exact False.elim hd
  | halt x w => exact False.elim hd
theorem Flt.uniq {v u : Value} {w : World} {r : Result Next} (hd : Flt v w r) (he : Flt u w r) : v = u := by
  cases r with
  | ok n w =>
    cases n with
    | value u => exact hd.1.symm.trans he.1
    | skip => exact hd.1.trans he.1.symm
    | _ => exact False.elim hd
  | halt x w => exact False.elim hd
def sStep (P : Program) (P0 : World → Prop) (ops : Array Oper) (k : Nat) (o : Oper) (S : World → Prop) (a : Act) (K : (World → Prop) → Act → Prop) : Prop :=
  if Region.wanted o (yielded ops a.tmps) = true then
    match k with
    | 0 => ∃ v, (∀ w, P0 w → Flt v w ((execOp a.eval o).run P w)) ∧ K S (a.put o.dst v)
    | 1 => ∃ v, (∀ w, S w → Does P (fun u w' => u = v ∧ S w') ((execOp a.eval o).run P w)) ∧ K S (a.put o.dst v)
    | _ => ∃ (α : Type) (_ : Nonempty α) (f : α → Value) (S' : α → World → Prop), ((∀ x w, S' x w → P0 w) ∧ ∀ w, S w → Does P (fun v w' => ∃ x, v = f x ∧ S' x w') ((execOp a.eval o).run P w)) ∧ ∀ x, K (S' x) (a.put o.dst (f x))
  else K S (a.put o.dst undef)
theorem sStep.mono {k : Nat} {o : Oper} {S : World → Prop} {a : Act} {K K' : (World → Prop) → Act → Prop} (h : ∀ S a, K S a → K' S a) (hs : sStep P P0 ops k o S a K) : sStep P P0 ops k o S a K' := by
  unfold sStep at *
  split
  · rename_i hw
    rw [if_pos hw] at hs
    rcases k with _ | _ | k
    · obtain ⟨v, h1, h2⟩ := hs; exact ⟨v, h1, h _ _ h2⟩
    · obtain ⟨v, h1, h2⟩ := hs; exact ⟨v, h1, h _ _ h2⟩
    · obtain ⟨α, hα, f, S', h1, h2⟩ := hs; exact ⟨α, hα, f, S', h1, fun x => h _ _ (h2 x)⟩
  · rename_i hw
    rw [if_neg hw] at hs
    exact h _ _ hs
def slotOf : List Value → Nat → Value
  | [], _ => undef
  | x :: _, 0 => x
  | _ :: l, n + 1 => slotOf l n
theorem slotOf_bool {c : Bool} : ∀ {l : List Value} {n : Nat}, slotOf l n = .bool c → l[n]? = some (.bool c)
  | [], _, h => by cases h
  | x :: _, 0, h => by simpa [slotOf] using h
  | _ :: l, n + 1, h => by simpa using slotOf_bool (l := l) h
theorem wanted_none {o : Oper} {a : Act} (hg : o.guard = none) : Region.wanted o (yielded ops a.tmps) = true := by
  unfold Region.wanted; rw [hg]
theorem wanted_some {o : Oper} {a : Act} {j d : Nat} {b c : Bool} (hg : o.guard = some (j, b)) (hd : (ops[j]?).bind (·.dst) = some d) (hv : slotOf a.tmps.toList d = .bool c) :
    Region.wanted o (yielded ops a.tmps) = (c == b) := by
  have h1 : a.tmps[d]? = some (.bool c) := by rw [← Array.getElem?_toList]; exact slotOf_bool hv
  unfold Region.wanted yielded
  rw [hg]
  dsimp only
  rw [hd]
  simp only [Option.bind_some, h1]
  cases c <;> cases b <;> rfl
section
variable {Q : Act → World → Prop} {ks : List Nat} {o : Oper} {rest : List Oper} {S : World → Prop} {a : Act} {v : Value}
end
def sOp (P : Program) (P0 : World → Prop) (ops : Array Oper) (kd : Nat → Nat) (i : Nat) (S : World → Prop) (a : Act) (K : (World → Prop) → Act → Prop) : Prop :=
  match ops[i]? with
  | none => K S a
  | some o => sStep P P0 ops (kd i) o S a K
theorem sOp.mono {kd : Nat → Nat} {i : Nat} {S : World → Prop} {a : Act} {K K' : (World → Prop) → Act → Prop} (h : ∀ S a, K S a → K' S a) (hs : sOp P P0 ops kd i S a K) : sOp P P0 ops kd i S a K' := by
  unfold sOp at *
  split
  · rename_i ho; rw [ho] at hs; exact h _ _ hs
  · rename_i ho; rw [ho] at hs; exact sStep.mono h hs
theorem sStep.wp {k : Nat} {o : Oper} {S : World → Prop} {a : Act} {K : (World → Prop) → Act → Prop} {K' : Act → World → Prop} {Q' : Exit → Act → World → Prop} {w : World} (hSP : ∀ w, S w → P0 w) (hw : S w)
    (h : ∀ S' a' w', (∀ w, S' w → P0 w) → S' w' → K S' a' → K' a' w') (hs : sStep P P0 ops k o S a K) :
    if Region.wanted o (yielded ops a.tmps) = true then o.wp P a w K' Q' ∨ (o.asks P a w ∧ LetsOut Q') else K' (a.put o.dst undef) w := by
  unfold sStep at hs
  split
  · rename_i hg
    rw [if_pos hg] at hs
    refine .inl ?_
    unfold Oper.wp
    split at hs
    · obtain ⟨v, h1, h2⟩ := hs
      exact Does.upon (R := fun u w' => u = v ∧ w' = w) (fun u w' ⟨e1, e2⟩ => by subst e1; subst e2; exact h _ _ _ hSP hw h2) (Flt.does ⟨rfl, rfl⟩ (h1 w (hSP w hw)))
    · obtain ⟨v, h1, h2⟩ := hs
      exact Does.upon (fun u w' ⟨e1, e2⟩ => by subst e1; exact h _ _ _ hSP e2 h2) (h1 w hw)
    · obtain ⟨α, _, f, S', ⟨hP, h1⟩, h2⟩ := hs
      exact Does.upon (fun u w' ⟨x, hx, hu⟩ => by subst hx; exact h _ _ _ (hP x) hu (h2 x)) (h1 w hw)
  · rename_i hg
    rw [if_neg hg] at hs
    exact h _ _ _ hSP hw hs
def ancOf (md : Region.Mode) (acc : List (List Nat)) (o : Oper) : List Nat :=
  ((o.after.toList.filter (Region.binds md)).flatMap fun e => e.on :: acc.getD e.on []).eraseDups
def ancAll (md : Region.Mode) : List Oper → List (List Nat) → List (List Nat)
  | [], acc => acc
  | o :: rest, acc => ancAll md rest (acc ++ [ancOf md acc o])
def Closed (md : Region.Mode) (ops : Array Oper) (listed : Array Bool) : Prop :=
  ∀ j o, ops[j]? = some o → listed.getD j false = true → ∀ e ∈ o.after, Region.binds md e = true → listed.getD e.on false = true
theorem Closed.set {listed : Array Bool} {i : Nat} (h : Closed md ops listed) (hi : i ∈ Region.ready md ops listed) : Closed md ops (listed.setIfInBounds i true) := by
  intro j o ho hj e he hb
  by_cases hij : i = j
  · subst hij
    obtain ⟨_, o', ho', hall⟩ := mem_ready.1 hi
    rw [ho] at ho'
    cases ho'
    exact getD_set_true (hall e he hb)
  · rw [getD_set_ne false hij] at hj
    exact getD_set_true (h j o ho hj e he hb)
theorem ancAll_sound {listed : Array Bool} (hc : Closed md ops listed) : ∀ (l : List Oper) (acc : List (List Nat)), (∀ j, l[j]? = ops[acc.length + j]?) →
    (∀ j o, j < acc.length → ops[j]? = some o → (∀ e ∈ o.after, Region.binds md e = true → listed.getD e.on false = true) → ∀ x ∈ acc.getD j [], listed.getD x false = true) →
    ∀ j o, ops[j]? = some o → j < (ancAll md l acc).length → (∀ e ∈ o.after, Region.binds md e = true → listed.getD e.on false = true) → ∀ x ∈ (ancAll md l acc).getD j [], listed.getD x false = true
  | [], acc, _, hinv => fun j o ho hj hd x hx => hinv j o hj ho hd x hx
  | o :: l, acc, hl, hinv => by
    refine ancAll_sound hc l (acc ++ [ancOf md acc o]) (fun j => ?_) (fun j o' hj ho' hd x hx => ?_)
    · have := hl (j + 1)
      simpa [Nat.add_assoc, Nat.add_comm 1 j] using this
    · simp only [List.length_append, List.length_cons, List.length_nil, Nat.zero_add] at hj
      rcases Nat.lt_or_ge j acc.length with hlt | hge
      · rw [List.getD_eq_getElem?_getD, List.getElem?_append_left hlt, ← List.getD_eq_getElem?_getD] at hx
        exact hinv j o' hlt ho' hd x hx
      · obtain rfl : j = acc.length := by omega
        have h0 : ops[acc.length]? = some o := by simpa using (hl 0).symm
        rw [h0] at ho'
        cases ho'
        rw [List.getD_eq_getElem?_getD, List.getElem?_append_right (Nat.le_refl _)] at hx
        simp only [Nat.sub_self, List.getElem?_cons_zero, Option.getD_some, ancOf, List.mem_eraseDups, List.mem_flatMap, List.mem_filter, List.mem_cons] at hx
        obtain ⟨e, ⟨he, hb⟩, hx⟩ := hx
        have he' : e ∈ o.after := by simpa using he
        have hon := hd e he' hb
        rcases hx with rfl | hx
        · exact hon
        · rcases Nat.lt_or_ge e.on acc.length with hlt | hge'
          · cases ho2 : ops[e.on]? with
            | none =>
              have := hl 0
              exfalso
              have hs : acc.length < ops.size := (Array.getElem?_eq_some_iff.1 h0).1
              have hn := Array.getElem?_eq_none_iff.1 ho2
              omega
            | some o2 => exact hinv e.on o2 hlt ho2 (fun e2 he2 hb2 => hc e.on o2 ho2 hon e2 he2 hb2) x hx
          · rw [List.getD_eq_getElem?_getD, List.getElem?_eq_none (by omega)] at hx
            simp at hx
def clash : Nat → Nat → Bool
  | 0, _ | _, 0 => false
  | 1, 1 => false
  | _, _ => true
def After (md : Region.Mode) (ops : Array Oper) (i j : Nat) : Prop := ∀ listed, Closed md ops listed → j ∈ Region.ready md ops listed → listed.getD i false = true
theorem length_ancAll : ∀ (l : List Oper) (acc : List (List Nat)), (ancAll md l acc).length = acc.length + l.length
  | [], acc => rfl
  | o :: l, acc => by simp [ancAll, length_ancAll l]; omega
def Leaves1 (P : Program) (P0 : World → Prop) (ops : Array Oper) (k : Nat) (o : Oper) (S : World → Prop) (v : Value) (a : Act) : Prop :=
  (Region.wanted o (yielded ops a.tmps) = true ∧ ((k = 0 ∧ ∀ w, P0 w → Flt v w ((execOp a.eval o).run P w)) ∨ (k = 1 ∧ ∀ w, S w → Does P (fun u w' => u = v ∧ S w') ((execOp a.eval o).run P w)))) ∨
  (Region.wanted o (yielded ops a.tmps) = false ∧ v = undef)
theorem Leaves1.step {k : Nat} {o : Oper} {S : World → Prop} {v : Value} {a : Act} {K : (World → Prop) → Act → Prop} (h : Leaves1 P P0 ops k o S v a) (hk : K S (a.put o.dst v)) : sStep P P0 ops k o S a K := by
  unfold sStep
  rcases h with ⟨hw, ⟨rfl, h⟩ | ⟨rfl, h⟩⟩ | ⟨hw, rfl⟩
  · rw [if_pos hw]; exact ⟨v, h, hk⟩
  · rw [if_pos hw]; exact ⟨v, h, hk⟩
  · rw [if_neg (by simp [hw])]; exact hk
theorem Leaves1.any {o : Oper} {S S' : World → Prop} {v : Value} {a : Act} (h : Leaves1 P P0 ops 0 o S v a) : Leaves1 P P0 ops 0 o S' v a := by
  rcases h with ⟨hw, ⟨h0, h⟩ | ⟨h0, h⟩⟩ | h
  · exact .inl ⟨hw, .inl ⟨rfl, h⟩⟩
  · exact absurd h0 (by decide)
  · exact .inr h
def Fits (md : Region.Mode) (ops : Array Oper) (kd : Nat → Nat) (i : Nat) (oi : Oper) (listed : Array Bool) : Prop :=
  ∀ j oj, ops[j]? = some oj → j ≠ i → listed.getD j true = false →
    ((∀ e ∈ oj.after, Region.binds md e = true → e.on ≠ i) → oi.apart ops oj = true) ∧ (clash (kd i) (kd j) = true → After md ops i j)
theorem Fits.set {kd : Nat → Nat} {i j : Nat} {oi : Oper} {listed : Array Bool} (h : Fits md ops kd i oi listed) (hj : listed.getD j true = false) : Fits md ops kd i oi (listed.setIfInBounds j true) := fun k ok hk hki hun => by
  refine h k ok hk hki ?_
  by_cases hjk : j = k
  · subst hjk; exact hj
  · rw [getD_set_ne true hjk] at hun; exact hun
end
end Go.Proofs.YtmcfomainmppdaaGreatDoor
namespace Go.Proofs.YtmcfomainmppdaaGreatDoor
open Go.RowKit
theorem heap_new (w : World) (o : Obj) : (w.alloc o).heap[w.heap.size]? = some o := by
  show (w.heap.push o)[w.heap.size]? = _
  simp
theorem heap_setCell_at {w : World} {b o : Nat} {c : Array Value} {t : TypeId} {m : Nat × Nat} (h : w.heap[b]? = some (.cells c t m)) (u : Value) : (w.setCell ⟨b, o, none⟩ u).heap[b]? = some (.cells (c.setIfInBounds o u) t m) := by
  obtain ⟨hlt, hk⟩ := Array.getElem?_eq_some_iff.1 h
  show (w.heap.modify b _)[b]? = _
  rw [Array.getElem?_eq_getElem (by rw [Array.size_modify]; exact hlt), Array.getElem_modify_self, hk]
  rfl
theorem setCell_far {w : World} {b o c : Nat} (u : Value) (h : c ≠ b) : (w.setCell ⟨b, o, none⟩ u).heap[c]? = w.heap[c]? := Below.heap_setCell _ _ _ _ h
end Go.Proofs.YtmcfomainmppdaaGreatDoor
namespace Go.Proofs.YtmcfomainmppdaaGreatDoor
open Go.RowKit
section
variable {P : Program} {P0 : World → Prop} {base : Nat} {ops : Array Oper} {md : Region.Mode}
def Clos (S : World → Prop) : Prop := ∀ w w', S w → Below w.heap.size w w' → S w'
def Has (base R : Nat) (obj : Obj) (w : World) : Prop := base ≤ R ∧ w.heap[R]? = some obj
theorem Has.below {R : Nat} {obj : Obj} {w w' : World} (h : Has base R obj w) (hb : Below w.heap.size w w') : Has base R obj w' :=
  ⟨h.1, (hb.block _ (Array.getElem?_eq_some_iff.1 h.2).1).trans h.2⟩
theorem Clos.has {S : World → Prop} (h : Clos S) (R : Nat) (obj : Obj) : Clos (fun w => S w ∧ Has base R obj w) :=
  fun w w' ⟨h1, h2⟩ hb => ⟨h w w' h1 hb, h2.below hb⟩
def mkOf (o : Oper) (R : Nat) : Value := match o.op with
  | .buildSlice _ n _ => .slice (some ⟨R, 0, none⟩) n n
  | _ => .pointer (some ⟨R, 0, none⟩)
def Fr (base : Nat) (w w' : World) : Prop := ∀ R obj, Has base R obj w → Has base R obj w'
def mStep (P : Program) (P0 : World → Prop) (base : Nat) (ops : Array Oper) (k : Nat) (o : Oper) (S : World → Prop) (a : Act) (K : (World → Prop) → Act → Prop) : Prop :=
  if Region.wanted o (yielded ops a.tmps) = true then
    match k with
    | 0 => ∃ v, (∀ w, P0 w → Flt v w ((execOp a.eval o).run P w)) ∧ K S (a.put o.dst v)
    | 1 => ∃ v, (∀ w, S w → Does P (fun u w' => u = v ∧ Below w.heap.size w w' ∧ S w') ((execOp a.eval o).run P w)) ∧ K S (a.put o.dst v)
    | 2 => ∃ (α : Type) (_ : Nonempty α) (f : α → Value) (S' : α → World → Prop), (∀ x, Clos (S' x)) ∧ (∀ x w, S' x w → P0 w ∧ S w) ∧ (∀ w, S w → Does P (fun v w' => ∃ x, v = f x ∧ Below w.heap.size w w' ∧ S' x w') ((execOp a.eval o).run P w)) ∧ ∀ x, K (S' x) (a.put o.dst (f x))
    | 3 => ∃ obj : Obj, (∀ w, P0 w → (execOp a.eval o).run P w = .ok (.value (mkOf o w.heap.size)) (w.alloc obj)) ∧ ∀ R, K (fun w => S w ∧ Has base R obj w) (a.put o.dst (mkOf o R))
    | 4 => ∃ S' : World → Prop, Clos S' ∧ (∀ w, S' w → P0 w) ∧ (∀ w, S w → Does P (fun v w' => v = undef ∧ S' w') ((execOp a.eval o).run P w)) ∧ K S' (a.put o.dst undef)
    | k => ∃ (α : Type) (_ : Nonempty α) (f : α → Value) (S' : α → World → Prop), (∀ x, Clos (S' x)) ∧ (∀ x w, S' x w → P0 w) ∧ (∀ w, S w → Does P (fun v w' => ∃ x, v = f x ∧ (k = 5 → Fr base w w') ∧ S' x w') ((execOp a.eval o).run P w)) ∧ ∀ x, K (S' x) (a.put o.dst (f x))
  else K S (a.put o.dst undef)
theorem mStep.mono {k : Nat} {o : Oper} {S : World → Prop} {a : Act} {K K' : (World → Prop) → Act → Prop} (hc : Clos S) (hp : ∀ w, S w → P0 w) (h : ∀ S' a', Clos S' → (∀ w, S' w → P0 w) → K S' a' → K' S' a') (hs : mStep P P0 base ops k o S a K) : mStep P P0 base ops k o S a K' := by
  unfold mStep at *
  split
  · rename_i hw
    rw [if_pos hw] at hs
    rcases k with _ | _ | _ | _ | _ | k
    · obtain ⟨v, h1, h2⟩ := hs; exact ⟨v, h1, h _ _ hc hp h2⟩
    · obtain ⟨v, h1, h2⟩ := hs; exact ⟨v, h1, h _ _ hc hp h2⟩
    · obtain ⟨α, hα, f, S', h1, h2, h3, h4⟩ := hs; exact ⟨α, hα, f, S', h1, h2, h3, fun x => h _ _ (h1 x) (fun w hw => (h2 x w hw).1) (h4 x)⟩
    · obtain ⟨obj, h1, h2⟩ := hs; exact ⟨obj, h1, fun R => h _ _ (hc.has R obj) (fun w hw => hp w hw.1) (h2 R)⟩
    · obtain ⟨S', h1, h2, h3, h4⟩ := hs; exact ⟨S', h1, h2, h3, h _ _ h1 h2 h4⟩
    · obtain ⟨α, hα, f, S', h1, h2, h3, h4⟩ := hs; exact ⟨α, hα, f, S', h1, h2, h3, fun x => h _ _ (h1 x) (fun w hw => h2 x w hw) (h4 x)⟩
  · rename_i hw
    rw [if_neg hw] at hs
    exact h _ _ hc hp hs
def okPair : Nat → Nat → Bool
  | 0, _ => true
  | _, 0 => true
  | 1, 1 => true
  | 1, 2 => true
  | 1, 3 => true
  | 2, 3 => true
  | 3, 3 => true
  | 5, 3 => true
  | _, _ => false
section
variable {oi oj : Oper} {S : World → Prop} {a : Act} {K : (World → Prop) → Act → Prop}
theorem want_swap (hap : oi.apart ops oj = true) (v : Value) : Region.wanted oj (yielded ops (a.put oi.dst v).tmps) = Region.wanted oj (yielded ops a.tmps) := wanted_put oj a oi.dst v (Oper.apart_spec hap).1
theorem exec_swap (hs : ∀ cs b, oj.op ≠ .select cs b) (hap : oi.apart ops oj = true) (v : Value) : execOp (a.put oi.dst v).eval oj = execOp a.eval oj := execOp_put oj hs a oi.dst v (Oper.apart_spec hap).1
theorem apart_symm (h : oi.apart ops oj = true) : oj.apart ops oi = true := by
  obtain ⟨h1, h2, h3⟩ := Oper.apart_spec h
  unfold Oper.apart
  rw [Bool.and_eq_true]
  refine ⟨?_, ?_⟩
  · cases hd : oj.dst with
    | none => rfl
    | some d =>
      have h4 := h3 d hd
      simp only [Bool.and_eq_true, Bool.not_eq_true', bne_iff_ne, ne_eq]
      refine ⟨by simpa using h4, fun e => h2 d e hd⟩
  · cases hd : oi.dst with
    | none => rfl
    | some d =>
      have h4 := h1 d hd
      simpa using h4
theorem mStep_put {k : Nat} {u : Value} (hap : oj.apart ops oi = true) (hs : ∀ cs b, oi.op ≠ .select cs b) (h : mStep P P0 base ops k oi S (a.put oj.dst u) K) :
    mStep P P0 base ops k oi S a (fun S' a' => (∃ x, a' = a.put oi.dst x) ∧ (k < 2 → S' = S) ∧ K S' (a'.put oj.dst u)) := by
  obtain ⟨h1, h2, h3⟩ := Oper.apart_spec hap
  have hcm : ∀ v, (a.put oj.dst u).put oi.dst v = (a.put oi.dst v).put oj.dst u := fun v => Act.put_comm a u v h2
  unfold mStep at *
  rw [wanted_put oi a oj.dst u h1] at h
  rw [execOp_put oi hs a oj.dst u h1] at h
  split
  · rename_i hw
    rw [if_pos hw] at h
    rcases k with _ | _ | _ | _ | _ | k
    · obtain ⟨v, hv, hk⟩ := h
      exact ⟨v, hv, ⟨v, rfl⟩, fun _ => rfl, by rw [← hcm]; exact hk⟩
    · obtain ⟨v, hv, hk⟩ := h
      exact ⟨v, hv, ⟨v, rfl⟩, fun _ => rfl, by rw [← hcm]; exact hk⟩
    · obtain ⟨α, hα, f, S', c1, c2, hv, hk⟩ := h
      exact ⟨α, hα, f, S', c1, c2, hv, fun x => ⟨⟨f x, rfl⟩, fun h => absurd h (by omega), by rw [← hcm]; exact hk x⟩⟩
    · obtain ⟨obj, hv, hk⟩ := h
      exact ⟨obj, hv, fun R => ⟨⟨_, rfl⟩, fun h => absurd h (by omega), by rw [← hcm]; exact hk R⟩⟩
    · obtain ⟨S', c1, c2, hv, hk⟩ := h
      exact ⟨S', c1, c2, hv, ⟨_, rfl⟩, fun h => absurd h (by omega), by rw [← hcm]; exact hk⟩
    · obtain ⟨α, hα, f, S', c1, c2, hv, hk⟩ := h
      exact ⟨α, hα, f, S', c1, c2, hv, fun x => ⟨⟨f x, rfl⟩, fun h => absurd h (by omega), by rw [← hcm]; exact hk x⟩⟩
  · rename_i hw
    rw [if_neg hw] at h
    exact ⟨⟨_, rfl⟩, fun _ => rfl, by rw [← hcm]; exact h⟩
theorem obj_uniq {w : World} {o o' : Obj} {n n' : Next} (h : (Result.ok n (w.alloc o)) = .ok n' (w.alloc o')) : o = o' := by
  have h1 : w.alloc o = w.alloc o' := by injection h
  have h2 := heap_new w o
  rw [h1, heap_new w o'] at h2
  exact (Option.some.inj h2).symm
theorem swap {ki kj : Nat} {w0 : World} (hw0 : P0 w0) (hap : oj.apart ops oi = true) (hsi : ∀ cs b, oi.op ≠ .select cs b) (hsj : ∀ cs b, oj.op ≠ .select cs b) (hok : okPair kj ki = true) (hc : Clos S) (hp : ∀ w, S w → P0 w)
    (h : mStep P P0 base ops kj oj S a (fun S' a' => mStep P P0 base ops ki oi S' a' K)) : mStep P P0 base ops ki oi S a (fun S' a' => mStep P P0 base ops kj oj S' a' K) := by
  have hap' := apart_symm hap
  have wj : ∀ x, Region.wanted oj (yielded ops (a.put oi.dst x).tmps) = Region.wanted oj (yielded ops a.tmps) := fun x => want_swap hap' x
  have ej : ∀ x, execOp (a.put oi.dst x).eval oj = execOp a.eval oj := fun x => exec_swap hsj hap' x
  have wi : ∀ x, Region.wanted oi (yielded ops (a.put oj.dst x).tmps) = Region.wanted oi (yielded ops a.tmps) := fun x => want_swap hap x
  have ei : ∀ x, execOp (a.put oj.dst x).eval oi = execOp a.eval oi := fun x => exec_swap hsi hap x
  have hcm : ∀ u v, (a.put oj.dst u).put oi.dst v = (a.put oi.dst v).put oj.dst u := fun u v => Act.put_comm a u v (Oper.apart_spec hap).2.1
  by_cases hwj : Region.wanted oj (yielded ops a.tmps) = true
  case neg =>
    unfold mStep at h
    rw [if_neg hwj] at h
    refine mStep.mono hc hp (fun S' a' _ _ hk => ?_) (mStep_put hap hsi h)
    obtain ⟨⟨x, rfl⟩, _, hk⟩ := hk
    unfold mStep
    rw [wj, if_neg hwj]
    exact hk
  have h0 : ∀ v, (∀ w, P0 w → Flt v w ((execOp a.eval oj).run P w)) → mStep P P0 base ops ki oi S (a.put oj.dst v) K → mStep P P0 base ops ki oi S a (fun S' a' => mStep P P0 base ops 0 oj S' a' K) := fun v h1 h2 => by
    refine mStep.mono hc hp (fun S' a' _ _ hk => ?_) (mStep_put hap hsi h2)
    obtain ⟨⟨x, rfl⟩, _, hk⟩ := hk
    unfold mStep
    rw [wj, if_pos hwj, ej]
    exact ⟨v, h1, hk⟩
  rcases kj with _ | kj
  · unfold mStep at h
    rw [if_pos hwj] at h
    obtain ⟨v, h1, h2⟩ := h
    exact h0 v h1 h2
  by_cases hwi : Region.wanted oi (yielded ops a.tmps) = true
  case neg =>
    have e : ∀ (S' : World → Prop) x, mStep P P0 base ops ki oi S' (a.put oj.dst x) K → K S' ((a.put oi.dst undef).put oj.dst x) := fun S' x h => by
      unfold mStep at h
      rw [wi, if_neg hwi, hcm] at h
      exact h
    unfold mStep at h ⊢
    rw [if_pos hwj] at h
    rw [if_neg hwi]
    dsimp only
    rw [wj, if_pos hwj]
    simp only [ej]
    rcases kj with _ | _ | _ | _ | kj
    · obtain ⟨v, h1, h2⟩ := h
      exact ⟨v, h1, e _ _ h2⟩
    · obtain ⟨α, hα, f, S', c1, c2, h1, h2⟩ := h
      exact ⟨α, hα, f, S', c1, c2, h1, fun x => e _ _ (h2 x)⟩
    · obtain ⟨obj, h1, h2⟩ := h
      exact ⟨obj, h1, fun R => e _ _ (h2 R)⟩
    · obtain ⟨S', c1, c2, h1, h2⟩ := h
      exact ⟨S', c1, c2, h1, e _ _ h2⟩
    · obtain ⟨α, hα, f, S', c1, c2, h1, h2⟩ := h
      exact ⟨α, hα, f, S', c1, c2, h1, fun x => e _ _ (h2 x)⟩
  rcases ki with _ | ki
  · -- the one that is pulled yields its value in every world
    have e : ∀ (S' : World → Prop) x, mStep P P0 base ops 0 oi S' (a.put oj.dst x) K → ∃ v, (∀ w, P0 w → Flt v w ((execOp a.eval oi).run P w)) ∧ K S' ((a.put oi.dst v).put oj.dst x) := fun S' x h => by
      unfold mStep at h
      rw [wi, if_pos hwi, ei] at h
      obtain ⟨v, h1, h2⟩ := h
      rw [hcm] at h2
      exact ⟨v, h1, h2⟩
    have key : (∃ v, (∀ w, P0 w → Flt v w ((execOp a.eval oi).run P w)) ∧ mStep P P0 base ops (kj + 1) oj S (a.put oi.dst v) K) := by
      unfold mStep at h
      rw [if_pos hwj] at h
      rcases kj with _ | _ | _ | _ | kj
      · obtain ⟨v, h1, h2⟩ := h
        obtain ⟨u, h3, h4⟩ := e _ _ h2
        refine ⟨u, h3, ?_⟩
        unfold mStep
        rw [wj, if_pos hwj, ej]
        exact ⟨v, h1, h4⟩
      · obtain ⟨α, hα, f, S', c1, c2, h1, h2⟩ := h
        obtain ⟨u, h3, _⟩ := e _ _ (h2 (Classical.choice hα))
        refine ⟨u, h3, ?_⟩
        unfold mStep
        rw [wj, if_pos hwj, ej]
        refine ⟨α, hα, f, S', c1, c2, h1, fun x => ?_⟩
        obtain ⟨u', h3', h4⟩ := e _ _ (h2 x)
        rw [Flt.uniq (h3 w0 hw0) (h3' w0 hw0)]
        exact h4
      · obtain ⟨obj, h1, h2⟩ := h
        obtain ⟨u, h3, _⟩ := e _ _ (h2 0)
        refine ⟨u, h3, ?_⟩
        unfold mStep
        rw [wj, if_pos hwj, ej]
        refine ⟨obj, h1, fun R => ?_⟩
        obtain ⟨u', h3', h4⟩ := e _ _ (h2 R)
        rw [Flt.uniq (h3 w0 hw0) (h3' w0 hw0)]
        exact h4
      · obtain ⟨S', c1, c2, h1, h2⟩ := h
        obtain ⟨u, h3, h4⟩ := e _ _ h2
        refine ⟨u, h3, ?_⟩
        unfold mStep
        rw [wj, if_pos hwj, ej]
        exact ⟨S', c1, c2, h1, h4⟩
      · obtain ⟨α, hα, f, S', c1, c2, h1, h2⟩ := h
        obtain ⟨u, h3, _⟩ := e _ _ (h2 (Classical.choice hα))
        refine ⟨u, h3, ?_⟩
        unfold mStep
        rw [wj, if_pos hwj, ej]
        refine ⟨α, hα, f, S', c1, c2, h1, fun x => ?_⟩
        obtain ⟨u', h3', h4⟩ := e _ _ (h2 x)
        rw [Flt.uniq (h3 w0 hw0) (h3' w0 hw0)]
        exact h4
    obtain ⟨v, h1, h2⟩ := key
    unfold mStep
    rw [if_pos hwi]
    exact ⟨v, h1, h2⟩
  rcases ki with _ | ki
  · -- both of the second kind
    rcases kj with _ | kj
    case succ => rcases kj with _ | _ | _ | _ | _ | kj <;> cases hok
    unfold mStep at h
    rw [if_pos hwj] at h
    obtain ⟨v, h1, h2⟩ := h
    rw [wi, if_pos hwi, ei] at h2
    obtain ⟨u, h3, h4⟩ := h2
    unfold mStep
    rw [if_pos hwi]
    refine ⟨u, h3, ?_⟩
    dsimp only
    rw [wj, if_pos hwj, ej]
    exact ⟨v, h1, by rw [← hcm]; exact h4⟩
  rcases ki with _ | ki
  · -- a call that leaves facts is pulled before a read of elder ones
    rcases kj with _ | kj
    case succ => rcases kj with _ | _ | _ | _ | _ | kj <;> cases hok
    unfold mStep at h
    rw [if_pos hwj] at h
    obtain ⟨v, h1, h2⟩ := h
    rw [wi, if_pos hwi, ei] at h2
    obtain ⟨α, hα, f, S', c1, c2, h3, h4⟩ := h2
    unfold mStep
    rw [if_pos hwi]
    refine ⟨α, hα, f, S', c1, c2, h3, fun x => ?_⟩
    dsimp only
    rw [wj, if_pos hwj, ej]
    exact ⟨v, fun w hw => (h1 w (c2 x w hw).2).mono fun u w' ⟨d1, d2, _⟩ => ⟨d1, d2, c1 x _ _ hw d2⟩, by rw [← hcm]; exact h4 x⟩
  rcases ki with _ | ki
  · -- a new block is pulled
    have e : ∀ (S' : World → Prop) x, mStep P P0 base ops 3 oi S' (a.put oj.dst x) K → ∃ obj : Obj, (∀ w, P0 w → (execOp a.eval oi).run P w = .ok (.value (mkOf oi w.heap.size)) (w.alloc obj)) ∧ ∀ R, K (fun w => S' w ∧ Has base R obj w) ((a.put oi.dst (mkOf oi R)).put oj.dst x) := fun S' x h => by
      unfold mStep at h
      rw [wi, if_pos hwi, ei] at h
      obtain ⟨obj, h1, h2⟩ := h
      refine ⟨obj, h1, fun R => ?_⟩
      rw [← hcm]
      exact h2 R
    unfold mStep at h ⊢
    rw [if_pos hwj] at h
    rw [if_pos hwi]
    rcases kj with _ | _ | _ | kj
    · obtain ⟨v, h1, h2⟩ := h
      obtain ⟨obj, h3, h4⟩ := e _ _ h2
      refine ⟨obj, h3, fun R => ?_⟩
      dsimp only
      rw [wj, if_pos hwj, ej]
      exact ⟨v, fun w hw => (h1 w hw.1).mono fun u w' ⟨c1, c2, c3⟩ => ⟨c1, c2, c3, hw.2.below c2⟩, h4 R⟩
    · obtain ⟨α, hα, f, S', c1, c2, h1, h2⟩ := h
      obtain ⟨obj, h3, _⟩ := e _ _ (h2 (Classical.choice hα))
      refine ⟨obj, h3, fun R => ?_⟩
      dsimp only
      rw [wj, if_pos hwj, ej]
      refine ⟨α, hα, f, fun x w => S' x w ∧ Has base R obj w, fun x => (c1 x).has R obj, fun x w hw => ⟨(c2 x w hw.1).1, (c2 x w hw.1).2, hw.2⟩, fun w hw => (h1 w hw.1).mono fun u w' ⟨x, d1, d2, d3⟩ => ⟨x, d1, d2, d3, hw.2.below d2⟩, fun x => ?_⟩
      obtain ⟨obj', h3', h4⟩ := e _ _ (h2 x)
      obtain rfl := obj_uniq ((h3 w0 hw0).symm.trans (h3' w0 hw0))
      exact h4 R
    · obtain ⟨objj, h1, h2⟩ := h
      obtain ⟨obj, h3, _⟩ := e _ _ (h2 0)
      refine ⟨obj, h3, fun R => ?_⟩
      dsimp only
      rw [wj, if_pos hwj, ej]
      refine ⟨objj, h1, fun R' => ?_⟩
      obtain ⟨obj', h3', h4⟩ := e _ _ (h2 R')
      obtain rfl := obj_uniq ((h3 w0 hw0).symm.trans (h3' w0 hw0))
      have e2 : (fun w => (S w ∧ Has base R obj w) ∧ Has base R' objj w) = (fun w => (S w ∧ Has base R' objj w) ∧ Has base R obj w) := by
        funext w
        exact propext ⟨fun ⟨⟨x, y⟩, z⟩ => ⟨⟨x, z⟩, y⟩, fun ⟨⟨x, y⟩, z⟩ => ⟨⟨x, z⟩, y⟩⟩
      rw [e2]
      exact h4 R
    · rcases kj with _ | _ | kj
      · cases hok
      rotate_left
      · cases hok
      obtain ⟨α, hα, f, S', c1, c2, h1, h2⟩ := h
      obtain ⟨obj, h3, _⟩ := e _ _ (h2 (Classical.choice hα))
      refine ⟨obj, h3, fun R => ?_⟩
      dsimp only
      rw [wj, if_pos hwj, ej]
      refine ⟨α, hα, f, fun x w => S' x w ∧ Has base R obj w, fun x => (c1 x).has R obj, fun x w hw => c2 x w hw.1, fun w hw => (h1 w hw.1).mono fun u w' ⟨x, d1, d2, d3⟩ => ⟨x, d1, d2, d3, d2 rfl R obj hw.2⟩, fun x => ?_⟩
      obtain ⟨obj', h3', h4⟩ := e _ _ (h2 x)
      obtain rfl := obj_uniq ((h3 w0 hw0).symm.trans (h3' w0 hw0))
      exact h4 R
  · rcases kj with _ | _ | _ | _ | _ | _ | kj <;> cases hok
end
def wpM (P : Program) (P0 : World → Prop) (base : Nat) (ops : Array Oper) (kd : Nat → Nat) (Q : Act → World → Prop) : List Nat → (World → Prop) → Act → Prop
  | [], S, a => ∀ w, S w → Q a w
  | i :: l, S, a => match ops[i]? with
    | none => False
    | some o => mStep P P0 base ops (kd i) o S a (wpM P P0 base ops kd Q l)
theorem pull {kd : Nat → Nat} {Q : Act → World → Prop} {w0 : World} (hw0 : P0 w0) (hsel : ∀ (j : Nat) (o : Oper) cs b, ops[j]? = some o → o.op ≠ .select cs b) {i : Nat} {oi : Oper} (hi : ops[i]? = some oi) : ∀ (l : List Nat) (S : World → Prop) (a : Act), l.Pairwise (· < ·) → i ∈ l →
    (∀ j ∈ l, j < i → ∀ oj, ops[j]? = some oj → oj.apart ops oi = true ∧ okPair (kd j) (kd i) = true) → Clos S → (∀ w, S w → P0 w) → wpM P P0 base ops kd Q l S a → mStep P P0 base ops (kd i) oi S a (wpM P P0 base ops kd Q (l.erase i))
  | [], _, _, _, hm, _, _, _, _ => by cases hm
  | j :: l, S, a, hl, hm, hcl, hc, hp, h => by
    by_cases hji : j = i
    · subst hji
      rw [List.erase_cons_head]
      unfold wpM at h
      rw [hi] at h
      exact h
    · have hm' : i ∈ l := by
        rcases List.mem_cons.1 hm with e | e
        · exact absurd e.symm hji
        · exact e
      rw [List.pairwise_cons] at hl
      have hlt := hl.1 i hm'
      rw [List.erase_cons_tail (by simpa using hji)]
      unfold wpM at h
      cases hj : ops[j]? with
      | none => rw [hj] at h; exact h.elim
      | some oj =>
        rw [hj] at h
        obtain ⟨hap, hok⟩ := hcl j (List.mem_cons_self ..) hlt oj hj
        have h1 := mStep.mono hc hp (fun S' a' hc' hp' hk => pull hw0 hsel hi l S' a' hl.2 hm' (fun k hk' => hcl k (List.mem_cons_of_mem _ hk')) hc' hp' hk) h
        have h2 := swap hw0 hap (fun cs b => hsel i oi cs b hi) (fun cs b => hsel j oj cs b hj) hok hc hp h1
        refine mStep.mono hc hp (fun S' a' _ _ hk => ?_) h2
        unfold wpM
        rw [hj]
        exact hk
theorem mStep.wp {k : Nat} {o : Oper} {S : World → Prop} {a : Act} {K : (World → Prop) → Act → Prop} {K' : Act → World → Prop} {Q' : Exit → Act → World → Prop} {w : World} (hbase : ∀ w, P0 w → base ≤ w.heap.size) (hc : Clos S) (hSP : ∀ w, S w → P0 w) (hw : S w)
    (h : ∀ S' a' w', Clos S' → (∀ w, S' w → P0 w) → S' w' → K S' a' → K' a' w') (hs : mStep P P0 base ops k o S a K) :
    if Region.wanted o (yielded ops a.tmps) = true then o.wp P a w K' Q' ∨ (o.asks P a w ∧ LetsOut Q') else K' (a.put o.dst undef) w := by
  unfold mStep at hs
  split
  · rename_i hg
    rw [if_pos hg] at hs
    refine .inl ?_
    unfold Oper.wp
    rcases k with _ | _ | _ | _ | _ | k
    · obtain ⟨v, h1, h2⟩ := hs
      exact Does.upon (R := fun u w' => u = v ∧ w' = w) (fun u w' ⟨e1, e2⟩ => by subst e1; subst e2; exact h _ _ _ hc hSP hw h2) (Flt.does ⟨rfl, rfl⟩ (h1 w (hSP w hw)))
    · obtain ⟨v, h1, h2⟩ := hs
      exact Does.upon (fun u w' ⟨e1, _, e2⟩ => by subst e1; exact h _ _ _ hc hSP e2 h2) (h1 w hw)
    · obtain ⟨α, _, f, S', c1, c2, h1, h2⟩ := hs
      exact Does.upon (fun u w' ⟨x, hx, _, hu⟩ => by subst hx; exact h _ _ _ (c1 x) (fun w hw => (c2 x w hw).1) hu (h2 x)) (h1 w hw)
    · obtain ⟨obj, h1, h2⟩ := hs
      rw [h1 w (hSP w hw)]
      exact h _ _ _ (hc.has _ obj) (fun w' hw' => hSP w' hw'.1) ⟨hc w _ hw ((Below.refl _ _).alloc (Nat.le_refl _) _), hbase w (hSP w hw), heap_new w obj⟩ (h2 w.heap.size)
    · obtain ⟨S', c1, c2, h1, h2⟩ := hs
      exact Does.upon (fun u w' ⟨e, hu⟩ => by subst e; exact h _ _ _ c1 c2 hu h2) (h1 w hw)
    · obtain ⟨α, _, f, S', c1, c2, h1, h2⟩ := hs
      exact Does.upon (fun u w' ⟨x, hx, _, hu⟩ => by subst hx; exact h _ _ _ (c1 x) (fun w hw => c2 x w hw) hu (h2 x)) (h1 w hw)
  · rename_i hg
    rw [if_neg hg] at hs
    exact h _ _ _ hc hSP hw hs
def floatB (md : Region.Mode) (ops : Array Oper) (ks : List Nat) : Bool :=
  let an := ancAll md ops.toList []
  (List.range ops.size).all fun j => match ops[j]? with
    | none => true
    | some oj => (oj.after.toList.all fun e => !Region.binds md e || decide (e.on < j)) &&
      (List.range j).all fun i => (an.getD j []).contains i || (okPair (ks.getD i 0) (ks.getD j 0) && match ops[i]? with
        | none => true
        | some oi => oi.apart ops oj)
theorem floatB_spec {ks : List Nat} (h : floatB md ops ks = true) {j : Nat} {oj : Oper} (hj : ops[j]? = some oj) :
    (∀ e ∈ oj.after, Region.binds md e = true → e.on < j) ∧ ∀ i oi, i < j → ops[i]? = some oi → After md ops i j ∨ (okPair (ks.getD i 0) (ks.getD j 0) = true ∧ oi.apart ops oj = true) := by
  unfold floatB at h
  have hjs : j < ops.size := (Array.getElem?_eq_some_iff.1 hj).1
  have h1 := List.all_eq_true.1 h j (List.mem_range.2 hjs)
  rw [hj] at h1
  simp only [Bool.and_eq_true] at h1
  refine ⟨fun e he hb => ?_, fun i oi hi ho => ?_⟩
  · have := List.all_eq_true.1 h1.1 e (by simpa using he)
    simpa [hb] using this
  · have h2 := List.all_eq_true.1 h1.2 i (List.mem_range.2 hi)
    rw [ho] at h2
    simp only [Bool.or_eq_true, Bool.and_eq_true] at h2
    rcases h2 with h2 | ⟨h2, h3⟩
    · refine .inl fun listed hc hr => ?_
      obtain ⟨_, o, ho', hd⟩ := mem_ready.1 hr
      exact ancAll_sound hc ops.toList [] (fun j => by simp) (fun j o hj => absurd hj (Nat.not_lt_zero _)) j o ho' (by rw [length_ancAll]; simpa using hjs) hd i (by simpa using h2)
    · exact .inr ⟨h2, h3⟩
theorem wpAny_of_M {kd : Nat → Nat} {ks : List Nat} (hkd : ∀ i, kd i = ks.getD i 0) {Q : Act → World → Prop} {Q' : Exit → Act → World → Prop} (hQ : ∀ a w, Q a w → Q' .normal a w) {w0 : World} (hw0 : P0 w0) (hbase : ∀ w, P0 w → base ≤ w.heap.size) (hsel : ∀ (j : Nat) (o : Oper) cs b, ops[j]? = some o → o.op ≠ .select cs b) (hB : floatB md ops ks = true) :
    ∀ (fuel : Nat) (listed : Array Bool) (l : List Nat) (S : World → Prop) (a : Act) (w : World), (∀ i, i ∈ l ↔ i < ops.size ∧ listed.getD i true = false) → l.Pairwise (· < ·) → listed.size = ops.size → Closed md ops listed → Clos S → (∀ w, S w → P0 w) → S w → wpM P P0 base ops kd Q l S a → l.length ≤ fuel → wpAny P md ops Q' fuel listed a w
  | 0, listed, l, S, a, w, hm, _, _, _, _, _, hw, h, hf => by
    obtain rfl : l = [] := List.eq_nil_of_length_eq_zero (by omega)
    refine ⟨?_, hQ _ _ (h w hw)⟩
    refine List.eq_nil_iff_forall_not_mem.2 fun j hj => ?_
    obtain ⟨h1, o, ho, _⟩ := mem_ready.1 hj
    exact absurd ((hm j).2 ⟨(Array.getElem?_eq_some_iff.1 ho).1, h1⟩) List.not_mem_nil
  | fuel + 1, listed, l, S, a, w, hm, hpw, hsz, hcl, hc, hp, hw, h, hf => by
    refine ⟨fun h0 => ?_, fun i hi => ?_⟩
    · cases l with
      | nil => exact hQ _ _ (h w hw)
      | cons j l =>
        exfalso
        obtain ⟨hj1, hj2⟩ := (hm j).1 (List.mem_cons_self ..)
        have hoj : ops[j]? = some ops[j] := Array.getElem?_eq_getElem hj1
        have hr : j ∈ Region.ready md ops listed := mem_ready.2 ⟨hj2, _, hoj, fun e he hb => by
          have hlt := (floatB_spec hB hoj).1 e he hb
          cases hv : listed.getD e.on false with
          | true => rfl
          | false =>
            exfalso
            have hes : e.on < listed.size := by omega
            have h3 : listed.getD e.on true = false := by
              rw [Array.getD_eq_getD_getElem?, Array.getElem?_eq_getElem hes] at hv ⊢
              simpa using hv
            have h4 := (hm e.on).2 ⟨by omega, h3⟩
            rw [List.pairwise_cons] at hpw
            rcases List.mem_cons.1 h4 with h5 | h5
            · omega
            · have := hpw.1 _ h5; omega⟩
        rw [h0] at hr
        cases hr
    · obtain ⟨hun, oi, ho, _⟩ := mem_ready.1 hi
      have hil : i ∈ l := (hm i).2 ⟨(Array.getElem?_eq_some_iff.1 ho).1, hun⟩
      have hpl := pull (kd := kd) hw0 hsel ho l S a hpw hil (fun j hj hlt oj hoj => by
        rcases (floatB_spec hB ho).2 j oj hlt hoj with h1 | h1
        · have h2 := h1 listed hcl hi
          have h3 := ((hm j).1 hj).2
          have hjs : j < listed.size := by rw [hsz]; exact ((hm j).1 hj).1
          rw [Array.getD_eq_getD_getElem?, Array.getElem?_eq_getElem hjs] at h2 h3
          simp only [Option.getD_some] at h2 h3
          rw [h2] at h3; cases h3
        · rw [hkd, hkd]; exact ⟨h1.2, h1.1⟩) hc hp h
      unfold wpOp
      rw [ho]
      refine mStep.wp hbase hc hp hw (fun S' a' w' hc' hp' hw' hk => ?_) hpl
      refine wpAny_of_M hkd hQ hw0 hbase hsel hB fuel _ (l.erase i) S' a' w' (fun k => ?_) (hpw.sublist List.erase_sublist) (by rw [Array.size_setIfInBounds]; exact hsz) (hcl.set hi) hc' hp' hw' hk (by rw [List.length_erase_of_mem hil]; omega)
      have hnd : l.Nodup := hpw.imp (fun h => Nat.ne_of_lt h)
      rw [hnd.mem_erase_iff, hm k]
      by_cases hki : i = k
      · subst hki
        have his : i < listed.size := by rw [hsz]; exact (Array.getElem?_eq_some_iff.1 ho).1
        simp [his]
      · rw [getD_set_ne true hki]
        exact ⟨fun h => h.2, fun h => ⟨fun e => hki e.symm, h⟩⟩
structure KS (V : World) (l : List (World → Prop)) (w : World) : Prop where
  old : Below V.heap.size V w
  all : ∀ F ∈ l, ∀ w', Below w.heap.size w w' → F w'
theorem KS.get {V w : World} {l : List (World → Prop)} (h : KS V l w) {F : World → Prop} (hm : F ∈ l) : F w := h.all F hm w (Below.refl _ _)
theorem KS.step {V w w' : World} {l : List (World → Prop)} (h : KS V l w) (hb : Below w.heap.size w w') : KS V l w' :=
  ⟨h.old.trans (hb.mono h.old.size), fun F hF w2 h2 => h.all F hF w2 (hb.trans (h2.mono hb.size))⟩
theorem KS.start (V : World) : KS V [] V := ⟨Below.refl _ _, fun _ h => absurd h List.not_mem_nil⟩
theorem KS.add {V w : World} {l : List (World → Prop)} (h : KS V l w) {F : World → Prop} (hF : ∀ w', Below w.heap.size w w' → F w') : KS V (F :: l) w :=
  ⟨h.old, fun G hG => by
    rcases List.mem_cons.1 hG with rfl | hG
    · exact hF
    · exact h.all G hG⟩
theorem KS.app {V w : World} {l l' : List (World → Prop)} (h : KS V l w) (hF : ∀ F ∈ l', ∀ w', Below w.heap.size w w' → F w') : KS V (l' ++ l) w :=
  ⟨h.old, fun G hG => by
    rcases List.mem_append.1 hG with hG | hG
    · exact hF G hG
    · exact h.all G hG⟩
theorem KS.sub {V w : World} {l l' : List (World → Prop)} (h : KS V l w) (hs : ∀ F ∈ l', F ∈ l) : KS V l' w := ⟨h.old, fun F hF => h.all F (hs F hF)⟩
theorem KS.re {V w : World} {l : List (World → Prop)} (h : KS V l w) : KS w l w := ⟨Below.refl _ _, h.all⟩
theorem KS.drew {V w : World} {l : List (World → Prop)} (h : KS V l w) : KS V l w.drew := h.step (Below.refl _ _).drew
theorem KS.clos (V : World) (l : List (World → Prop)) : Clos (KS V l) := fun _ _ h hb => h.step hb
theorem KS.has {V : World} {l : List (World → Prop)} {R : Nat} {obj : Obj} : (fun w => KS V l w ∧ Has V.heap.size R obj w) = KS V (Has V.heap.size R obj :: l) := by
  funext w
  refine propext ⟨fun ⟨h1, h2⟩ => h1.add fun w' hb => h2.below hb, fun h => ⟨h.sub fun F hF => List.mem_cons_of_mem _ hF, h.get (List.mem_cons_self ..)⟩⟩
def Cls (V : World) (f0 fs : List (World → Prop)) (w : World) : Prop := KS V f0 w ∧ KS V fs w
theorem Cls.clos (V : World) (f0 fs : List (World → Prop)) : Clos (Cls V f0 fs) := fun _ _ h hb => ⟨h.1.step hb, h.2.step hb⟩
theorem Cls.has {V : World} {B : Nat} {f0 l : List (World → Prop)} {R : Nat} {obj : Obj} : (fun w => Cls V f0 l w ∧ Has B R obj w) = Cls V f0 (Has B R obj :: l) := by
  funext w
  refine propext ⟨fun ⟨h1, h2⟩ => ⟨h1.1, h1.2.add fun w' hb => h2.below hb⟩, fun h => ⟨⟨h.1, h.2.sub fun F hF => List.mem_cons_of_mem _ hF⟩, h.2.get (List.mem_cons_self ..)⟩⟩
def wpLx (P : Program) (V : World) (B : Nat) (f0 : List (World → Prop)) (ops : Array Oper) (Q : Act → World → Prop) : List Nat → List Oper → (World → Prop) → Act → Prop
  | _, [], S, a => ∀ w, S w → Q a w
  | [], _ :: _, _, _ => False
  | k :: ks, o :: rest, S, a => mStep P (KS V f0) B ops k o S a (wpLx P V B f0 ops Q ks rest)
structure Lx (P : Program) (V : World) (B : Nat) (f0 : List (World → Prop)) (ops : Array Oper) (Q : Act → World → Prop) (ks : List Nat) (l : List Oper) (fs : List (World → Prop)) (a : Act) : Prop where
  out : wpLx P V B f0 ops Q ks l (Cls V f0 fs) a
section
variable {V : World} {B : Nat} {f0 : List (World → Prop)} {Q : Act → World → Prop} {ks : List Nat} {o : Oper} {rest : List Oper} {fs : List (World → Prop)} {a : Act} {v : Value}
theorem wanted_undef {j d : Nat} {b : Bool} (hg : o.guard = some (j, b)) (hd : (ops[j]?).bind (·.dst) = some d) (hv : slotOf a.tmps.toList d = undef) : Region.wanted o (yielded ops a.tmps) = false := by
  have h1 : yielded ops a.tmps j = none := by
    unfold yielded
    rw [hd]
    have h2 : ∀ (l : List Value) (n : Nat), slotOf l n = undef → l[n]? = some undef ∨ l[n]? = none := fun l => by
      induction l with
      | nil => intro n _; exact .inr (by simp)
      | cons x l ih =>
        intro n h
        cases n with
        | zero => exact .inl (by simpa [slotOf] using h)
        | succ n => simpa using ih n h
    simp only [Option.bind_some]
    rcases h2 _ _ hv with h3 | h3
    · rw [← Array.getElem?_toList, h3]; rfl
    · rw [← Array.getElem?_toList, h3]
  unfold Region.wanted
  rw [hg]
  dsimp only
  rw [h1]
  rfl
abbrev Wants (ops : Array Oper) (o : Oper) (a : Act) : Prop := Region.wanted o (yielded ops a.tmps) = true
theorem wants0 (hg : o.guard = none) : Wants ops o a := wanted_none hg
theorem wantsg {j d : Nat} {b c : Bool} (hg : o.guard = some (j, b)) (hd : (ops[j]?).bind (·.dst) = some d) (hv : slotOf a.tmps.toList d = .bool c) (hc : (c == b) = true) : Wants ops o a := (wanted_some hg hd hv).trans hc
theorem lxF0 (hg : Wants ops o a) (h1 : ∀ w, KS V f0 w → Flt v w ((execOp a.eval o).run P w)) (h : Lx P V B f0 ops Q ks rest fs (a.put o.dst v)) : Lx P V B f0 ops Q (0 :: ks) (o :: rest) fs a := by
  refine ⟨?_⟩
  show mStep _ _ _ _ 0 o _ a _
  unfold mStep
  rw [if_pos hg]
  exact ⟨v, h1, h.out⟩
theorem lxH0 (hg : Wants ops o a) (h1 : ∀ w, KS V f0 w → KS V fs w → Does P (fun u w' => u = v ∧ Below w.heap.size w w') ((execOp a.eval o).run P w)) (h : Lx P V B f0 ops Q ks rest fs (a.put o.dst v)) : Lx P V B f0 ops Q (1 :: ks) (o :: rest) fs a := by
  refine ⟨?_⟩
  show mStep _ _ _ _ 1 o _ a _
  unfold mStep
  rw [if_pos hg]
  exact ⟨v, fun w hw => (h1 w hw.1 hw.2).mono fun u w' ⟨c1, c2⟩ => ⟨c1, c2, Cls.clos _ _ _ _ _ hw c2⟩, h.out⟩
theorem lxA0 (obj : Obj) (hg : Wants ops o a) (h1 : ∀ w, KS V f0 w → (execOp a.eval o).run P w = .ok (.value (mkOf o w.heap.size)) (w.alloc obj)) (h : ∀ R, Lx P V B f0 ops Q ks rest (Has B R obj :: fs) (a.put o.dst (mkOf o R))) : Lx P V B f0 ops Q (3 :: ks) (o :: rest) fs a := by
  refine ⟨?_⟩
  show mStep _ _ _ _ 3 o _ a _
  unfold mStep
  rw [if_pos hg]
  refine ⟨obj, h1, fun R => ?_⟩
  rw [Cls.has]
  exact (h R).out
theorem lxEnd (h : ∀ w, KS V fs w → Q a w) : Lx P V B f0 ops Q ks [] fs a := ⟨by cases ks <;> exact fun w hw => h w hw.2⟩
theorem lx_to_M {kd : Nat → Nat} {ks0 : List Nat} (hkd : ∀ i, kd i = ks0.getD i 0) (hlen : ops.size ≤ ks0.length) : ∀ (l : List Oper) (k : Nat) (S : World → Prop) (a : Act), (∀ j, l[j]? = ops[k + j]?) → wpLx P V B f0 ops Q (ks0.drop k) l S a → wpM P (KS V f0) B ops kd Q (List.range' k l.length) S a
  | [], k, S, a, _, h => by cases hk : ks0.drop k <;> (rw [hk] at h; exact h)
  | o :: l, k, S, a, hl, h => by
    have h0 : ops[k]? = some o := by simpa using (hl 0).symm
    have hks : k < ks0.length := Nat.lt_of_lt_of_le (Array.getElem?_eq_some_iff.1 h0).1 hlen
    have hdrop : ks0.drop k = ks0.getD k 0 :: ks0.drop (k + 1) := by
      rw [List.drop_eq_getElem_cons hks]
      simp [hks]
    rw [hdrop] at h
    rw [List.length_cons, List.range'_succ]
    unfold wpM
    rw [h0]
    dsimp only
    rw [hkd]
    have hk : ∀ S' a', wpLx P V B f0 ops Q (ks0.drop (k + 1)) l S' a' → wpM P (KS V f0) B ops kd Q (List.range' (k + 1) l.length) S' a' := fun S' a' h' =>
      lx_to_M hkd hlen l (k + 1) S' a' (fun j => by have := hl (j + 1); simpa [Nat.add_assoc, Nat.add_comm 1 j] using this) h'
    change mStep P (KS V f0) B ops (ks0.getD k 0) o S a (wpLx P V B f0 ops Q (ks0.drop (k + 1)) l) at h
    generalize ks0.getD k 0 = kk at h
    unfold mStep at h ⊢
    split
    · rename_i hw
      rw [if_pos hw] at h
      rcases kk with _ | _ | _ | _ | _ | kk
      · obtain ⟨v, h1, h2⟩ := h; exact ⟨v, h1, hk _ _ h2⟩
      · obtain ⟨v, h1, h2⟩ := h; exact ⟨v, h1, hk _ _ h2⟩
      · obtain ⟨α, hα, f, S', h1, h2, h3, h4⟩ := h; exact ⟨α, hα, f, S', h1, h2, h3, fun x => hk _ _ (h4 x)⟩
      · obtain ⟨obj, h1, h2⟩ := h; exact ⟨obj, h1, fun R => hk _ _ (h2 R)⟩
      · obtain ⟨S', h1, h2, h3, h4⟩ := h; exact ⟨S', h1, h2, h3, hk _ _ h4⟩
      · obtain ⟨α, hα, f, S', h1, h2, h3, h4⟩ := h; exact ⟨α, hα, f, S', h1, h2, h3, fun x => hk _ _ (h4 x)⟩
    · rename_i hw
      rw [if_neg hw] at h
      exact hk _ _ h
end
theorem wp_region_floatB {id : Nat} {Q : Exit → Act → World → Prop} {a : Act} {w : World} {l : List Oper} (V : World) (B : Nat) (f0 fs : List (World → Prop)) (ks : List Nat) (hm : P.follows .mixedOrders = true)
    (hn : Region.noSelect l.toArray = true) (hlen : (l.length == ks.length) = true) (hst : floatB .any l.toArray ks = true) (hB : ∀ w, KS V f0 w → B ≤ w.heap.size) (hS0 : KS V f0 w.drew) (hS : KS V fs w.drew) (h : Lx P V B f0 l.toArray (fun a w => Q .normal a w) ks l fs a) :
    (Code.region id l.toArray true).wp P Q a w := by
  have hlen' : l.length = ks.length := by simpa using hlen
  refine wp_region_any hm ?_
  refine wpAny_of_M (P0 := KS V f0) (base := B) (kd := fun i => ks.getD i 0) (ks := ks) (fun _ => rfl) (Q := fun a w => Q .normal a w) (fun _ _ h => h) hS0 hB (Region.noSelect_spec hn) hst _ _ (List.range' 0 l.length) (Cls V f0 fs) a _ (fun i => ?_) List.pairwise_lt_range' (by simp) (fun j o hj ht => ?_) (Cls.clos _ _ _) (fun w hw => hw.1) ⟨hS0, hS⟩
    (lx_to_M (ops := l.toArray) (ks0 := ks) (fun _ => rfl) (by simp [hlen']) l 0 _ a (by simp) (by simpa using h.out)) (by simp)
  · rw [List.mem_range'_1]
    constructor
    · intro hi
      have hlt : i < l.length := by omega
      simp [hlt]
    · intro hi
      have := hi.1
      simp at this
      omega
  · have hlt : j < l.toArray.size := (Array.getElem?_eq_some_iff.1 hj).1
    simp at hlt
    simp [hlt] at ht
theorem wp_region_float0 {id : Nat} {Q : Exit → Act → World → Prop} {a : Act} {w : World} {l : List Oper} (V : World) (f0 fs : List (World → Prop)) (ks : List Nat) (hm : P.follows .mixedOrders = true)
    (hn : Region.noSelect l.toArray = true) (hlen : (l.length == ks.length) = true) (hst : floatB .any l.toArray ks = true) (hS0 : KS V f0 w.drew) (hS : KS V fs w.drew) (h : Lx P V V.heap.size f0 l.toArray (fun a w => Q .normal a w) ks l fs a) :
    (Code.region id l.toArray true).wp P Q a w := wp_region_floatB V V.heap.size f0 fs ks hm hn hlen hst (fun _ hw => hw.old.size) hS0 hS h
theorem KS.nil {V w : World} {l : List (World → Prop)} (h : KS V l w) : KS V [] w := ⟨h.old, fun _ h => absurd h List.not_mem_nil⟩
end
end Go.Proofs.YtmcfomainmppdaaGreatDoor
