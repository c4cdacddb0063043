/- A region that draws its order of evaluation and makes new blocks that wait for nothing: walked once in the order of the text. Each operation is of one of five kinds: one that yields its value in every world; one that yields one value in each world of a class and leaves the class; one that turns the class and leaves the old memory; a new block; a store. Conditions (checked by a Bool): the region's own order leads those whose order matters. -/
import Derived.Test.YtepljhpamconbaaDoorStage
import Derived.Test.YtepljhpamconbaaDoorUtil
namespace Go.Proofs.YtepljhpamconbaaDoor
open Go.RowKit
section
variable {P : Program} {P0 : World → Prop} {base : Nat} {ops : Array Oper} {md : Region.Mode}

/-- A class that nothing leaves which leaves the old memory. -/
def Clos (S : World → Prop) : Prop := ∀ w w', S w → Below w.heap.size w w' → S w'
/-- A block stands there. -/
def Has (base R : Nat) (obj : Obj) (w : World) : Prop := base ≤ R ∧ w.heap[R]? = some obj
theorem Has.below {R : Nat} {obj : Obj} {w w' : World} (h : Has base R obj w) (hb : Below w.heap.size w w') : Has base R obj w' :=
  ⟨h.1, (hb.block _ (Array.getElem?_eq_some_iff.1 h.2).1).trans h.2⟩
theorem Clos.has {S : World → Prop} (h : Clos S) (R : Nat) (obj : Obj) : Clos (fun w => S w ∧ Has base R obj w) :=
  fun w w' ⟨h1, h2⟩ hb => ⟨h w w' h1 hb, h2.below hb⟩
/-- The address or the slice of a new block. -/
def mkOf (o : Oper) (R : Nat) : Value := match o.op with
  | .buildSlice _ n _ => .slice (some ⟨R, 0, none⟩) n n
  | _ => .pointer (some ⟨R, 0, none⟩)

def mStep (P : Program) (P0 : World → Prop) (base : Nat) (ops : Array Oper) (k : Nat) (o : Oper) (S : World → Prop) (a : Act) (K : (World → Prop) → Act → Prop) : Prop :=
  if Region.wanted o (yielded ops a.tmps) = true then
    match k with
    | 0 => ∃ v, (∀ w, P0 w → Flt v w ((execOp a.eval o).run P w)) ∧ K S (a.put o.dst v)
    | 1 => ∃ v, (∀ w, S w → Does P (fun u w' => u = v ∧ Below w.heap.size w w' ∧ S w') ((execOp a.eval o).run P w)) ∧ K S (a.put o.dst v)
    | 2 => ∃ (α : Type) (_ : Nonempty α) (f : α → Value) (S' : α → World → Prop), (∀ x, Clos (S' x)) ∧ (∀ x w, S' x w → P0 w ∧ S w) ∧ (∀ w, S w → Does P (fun v w' => ∃ x, v = f x ∧ Below w.heap.size w w' ∧ S' x w') ((execOp a.eval o).run P w)) ∧ ∀ x, K (S' x) (a.put o.dst (f x))
    | 3 => ∃ obj : Obj, (∀ w, P0 w → (execOp a.eval o).run P w = .ok (.value (mkOf o w.heap.size)) (w.alloc obj)) ∧ ∀ R, K (fun w => S w ∧ Has base R obj w) (a.put o.dst (mkOf o R))
    | _ => ∃ S' : World → Prop, Clos S' ∧ (∀ w, S' w → P0 w) ∧ (∀ w, S w → Does P (fun v w' => v = undef ∧ S' w') ((execOp a.eval o).run P w)) ∧ K S' (a.put o.dst undef)
  else K S (a.put o.dst undef)

theorem mStep.mono {k : Nat} {o : Oper} {S : World → Prop} {a : Act} {K K' : (World → Prop) → Act → Prop} (hc : Clos S) (hp : ∀ w, S w → P0 w) (h : ∀ S' a', Clos S' → (∀ w, S' w → P0 w) → K S' a' → K' S' a') (hs : mStep P P0 base ops k o S a K) : mStep P P0 base ops k o S a K' := by
  unfold mStep at *
  split
  · rename_i hw
    rw [if_pos hw] at hs
    rcases k with _ | _ | _ | _ | k
    · obtain ⟨v, h1, h2⟩ := hs; exact ⟨v, h1, h _ _ hc hp h2⟩
    · obtain ⟨v, h1, h2⟩ := hs; exact ⟨v, h1, h _ _ hc hp h2⟩
    · obtain ⟨α, hα, f, S', h1, h2, h3, h4⟩ := hs; exact ⟨α, hα, f, S', h1, h2, h3, fun x => h _ _ (h1 x) (fun w hw => (h2 x w hw).1) (h4 x)⟩
    · obtain ⟨obj, h1, h2⟩ := hs; exact ⟨obj, h1, fun R => h _ _ (hc.has R obj) (fun w hw => hp w hw.1) (h2 R)⟩
    · obtain ⟨S', h1, h2, h3, h4⟩ := hs; exact ⟨S', h1, h2, h3, h _ _ h1 h2 h4⟩
  · rename_i hw
    rw [if_neg hw] at hs
    exact h _ _ hc hp hs

/-- May the second be taken before the first, as far as their kinds go? -/
def okPair : Nat → Nat → Bool
  | 0, _ => true
  | _, 0 => true
  | 1, 1 => true
  | 1, 2 => true
  | 1, 3 => true
  | 2, 3 => true
  | 3, 3 => true
  | _, _ => false

section
variable {oi oj : Oper} {S : World → Prop} {a : Act} {K : (World → Prop) → Act → Prop}
theorem want_swap (hap : oi.apart ops oj = true) (v : Value) : Region.wanted oj (yielded ops (a.put oi.dst v).tmps) = Region.wanted oj (yielded ops a.tmps) := wanted_put oj a oi.dst v (Oper.apart_spec hap).1
theorem exec_swap (hs : ∀ cs b, oj.op ≠ .select cs b) (hap : oi.apart ops oj = true) (v : Value) : execOp (a.put oi.dst v).eval oj = execOp a.eval oj := execOp_put oj hs a oi.dst v (Oper.apart_spec hap).1
theorem apart_symm (h : oi.apart ops oj = true) : oj.apart ops oi = true := by
  obtain ⟨h1, h2, h3⟩ := Oper.apart_spec h
  unfold Oper.apart
  rw [Bool.and_eq_true]
  refine ⟨?_, ?_⟩
  · cases hd : oj.dst with
    | none => rfl
    | some d =>
      have h4 := h3 d hd
      simp only [Bool.and_eq_true, Bool.not_eq_true', bne_iff_ne, ne_eq]
      refine ⟨by simpa using h4, fun e => h2 d e hd⟩
  · cases hd : oi.dst with
    | none => rfl
    | some d =>
      have h4 := h1 d hd
      simpa using h4

/-- An operation whose slot holds a value already, put back. -/
theorem mStep_put {k : Nat} {u : Value} (hap : oj.apart ops oi = true) (hs : ∀ cs b, oi.op ≠ .select cs b) (h : mStep P P0 base ops k oi S (a.put oj.dst u) K) :
    mStep P P0 base ops k oi S a (fun S' a' => (∃ x, a' = a.put oi.dst x) ∧ (k < 2 → S' = S) ∧ K S' (a'.put oj.dst u)) := by
  obtain ⟨h1, h2, h3⟩ := Oper.apart_spec hap
  have hcm : ∀ v, (a.put oj.dst u).put oi.dst v = (a.put oi.dst v).put oj.dst u := fun v => Act.put_comm a u v h2
  unfold mStep at *
  rw [wanted_put oi a oj.dst u h1] at h
  rw [execOp_put oi hs a oj.dst u h1] at h
  split
  · rename_i hw
    rw [if_pos hw] at h
    rcases k with _ | _ | _ | _ | k
    · obtain ⟨v, hv, hk⟩ := h
      exact ⟨v, hv, ⟨v, rfl⟩, fun _ => rfl, by rw [← hcm]; exact hk⟩
    · obtain ⟨v, hv, hk⟩ := h
      exact ⟨v, hv, ⟨v, rfl⟩, fun _ => rfl, by rw [← hcm]; exact hk⟩
    · obtain ⟨α, hα, f, S', c1, c2, hv, hk⟩ := h
      exact ⟨α, hα, f, S', c1, c2, hv, fun x => ⟨⟨f x, rfl⟩, fun h => absurd h (by omega), by rw [← hcm]; exact hk x⟩⟩
    · obtain ⟨obj, hv, hk⟩ := h
      exact ⟨obj, hv, fun R => ⟨⟨_, rfl⟩, fun h => absurd h (by omega), by rw [← hcm]; exact hk R⟩⟩
    · obtain ⟨S', c1, c2, hv, hk⟩ := h
      exact ⟨S', c1, c2, hv, ⟨_, rfl⟩, fun h => absurd h (by omega), by rw [← hcm]; exact hk⟩
  · rename_i hw
    rw [if_neg hw] at h
    exact ⟨⟨_, rfl⟩, fun _ => rfl, by rw [← hcm]; exact h⟩

theorem obj_uniq {w : World} {o o' : Obj} {n n' : Next} (h : (Result.ok n (w.alloc o)) = .ok n' (w.alloc o')) : o = o' := by
  have h1 : w.alloc o = w.alloc o' := by injection h
  have h2 := heap_new w o
  rw [h1, heap_new w o'] at h2
  exact (Option.some.inj h2).symm

/-- Two operations apart whose kinds allow it change places. -/
theorem swap {ki kj : Nat} {w0 : World} (hw0 : P0 w0) (hap : oj.apart ops oi = true) (hsi : ∀ cs b, oi.op ≠ .select cs b) (hsj : ∀ cs b, oj.op ≠ .select cs b) (hok : okPair kj ki = true) (hc : Clos S) (hp : ∀ w, S w → P0 w)
    (h : mStep P P0 base ops kj oj S a (fun S' a' => mStep P P0 base ops ki oi S' a' K)) : mStep P P0 base ops ki oi S a (fun S' a' => mStep P P0 base ops kj oj S' a' K) := by
  have hap' := apart_symm hap
  have wj : ∀ x, Region.wanted oj (yielded ops (a.put oi.dst x).tmps) = Region.wanted oj (yielded ops a.tmps) := fun x => want_swap hap' x
  have ej : ∀ x, execOp (a.put oi.dst x).eval oj = execOp a.eval oj := fun x => exec_swap hsj hap' x
  have wi : ∀ x, Region.wanted oi (yielded ops (a.put oj.dst x).tmps) = Region.wanted oi (yielded ops a.tmps) := fun x => want_swap hap x
  have ei : ∀ x, execOp (a.put oj.dst x).eval oi = execOp a.eval oi := fun x => exec_swap hsi hap x
  have hcm : ∀ u v, (a.put oj.dst u).put oi.dst v = (a.put oi.dst v).put oj.dst u := fun u v => Act.put_comm a u v (Oper.apart_spec hap).2.1
  by_cases hwj : Region.wanted oj (yielded ops a.tmps) = true
  case neg =>
    unfold mStep at h
    rw [if_neg hwj] at h
    refine mStep.mono hc hp (fun S' a' _ _ hk => ?_) (mStep_put hap hsi h)
    obtain ⟨⟨x, rfl⟩, _, hk⟩ := hk
    unfold mStep
    rw [wj, if_neg hwj]
    exact hk
  have h0 : ∀ v, (∀ w, P0 w → Flt v w ((execOp a.eval oj).run P w)) → mStep P P0 base ops ki oi S (a.put oj.dst v) K → mStep P P0 base ops ki oi S a (fun S' a' => mStep P P0 base ops 0 oj S' a' K) := fun v h1 h2 => by
    refine mStep.mono hc hp (fun S' a' _ _ hk => ?_) (mStep_put hap hsi h2)
    obtain ⟨⟨x, rfl⟩, _, hk⟩ := hk
    unfold mStep
    rw [wj, if_pos hwj, ej]
    exact ⟨v, h1, hk⟩
  rcases kj with _ | kj
  · unfold mStep at h
    rw [if_pos hwj] at h
    obtain ⟨v, h1, h2⟩ := h
    exact h0 v h1 h2
  by_cases hwi : Region.wanted oi (yielded ops a.tmps) = true
  case neg =>
    have e : ∀ (S' : World → Prop) x, mStep P P0 base ops ki oi S' (a.put oj.dst x) K → K S' ((a.put oi.dst undef).put oj.dst x) := fun S' x h => by
      unfold mStep at h
      rw [wi, if_neg hwi, hcm] at h
      exact h
    unfold mStep at h ⊢
    rw [if_pos hwj] at h
    rw [if_neg hwi]
    dsimp only
    rw [wj, if_pos hwj]
    simp only [ej]
    rcases kj with _ | _ | _ | kj
    · obtain ⟨v, h1, h2⟩ := h
      exact ⟨v, h1, e _ _ h2⟩
    · obtain ⟨α, hα, f, S', c1, c2, h1, h2⟩ := h
      exact ⟨α, hα, f, S', c1, c2, h1, fun x => e _ _ (h2 x)⟩
    · obtain ⟨obj, h1, h2⟩ := h
      exact ⟨obj, h1, fun R => e _ _ (h2 R)⟩
    · obtain ⟨S', c1, c2, h1, h2⟩ := h
      exact ⟨S', c1, c2, h1, e _ _ h2⟩
  rcases ki with _ | ki
  · -- the one that is pulled yields its value in every world
    have e : ∀ (S' : World → Prop) x, mStep P P0 base ops 0 oi S' (a.put oj.dst x) K → ∃ v, (∀ w, P0 w → Flt v w ((execOp a.eval oi).run P w)) ∧ K S' ((a.put oi.dst v).put oj.dst x) := fun S' x h => by
      unfold mStep at h
      rw [wi, if_pos hwi, ei] at h
      obtain ⟨v, h1, h2⟩ := h
      rw [hcm] at h2
      exact ⟨v, h1, h2⟩
    have key : (∃ v, (∀ w, P0 w → Flt v w ((execOp a.eval oi).run P w)) ∧ mStep P P0 base ops (kj + 1) oj S (a.put oi.dst v) K) := by
      unfold mStep at h
      rw [if_pos hwj] at h
      rcases kj with _ | _ | _ | kj
      · obtain ⟨v, h1, h2⟩ := h
        obtain ⟨u, h3, h4⟩ := e _ _ h2
        refine ⟨u, h3, ?_⟩
        unfold mStep
        rw [wj, if_pos hwj, ej]
        exact ⟨v, h1, h4⟩
      · obtain ⟨α, hα, f, S', c1, c2, h1, h2⟩ := h
        obtain ⟨u, h3, _⟩ := e _ _ (h2 (Classical.choice hα))
        refine ⟨u, h3, ?_⟩
        unfold mStep
        rw [wj, if_pos hwj, ej]
        refine ⟨α, hα, f, S', c1, c2, h1, fun x => ?_⟩
        obtain ⟨u', h3', h4⟩ := e _ _ (h2 x)
        rw [Flt.uniq (h3 w0 hw0) (h3' w0 hw0)]
        exact h4
      · obtain ⟨obj, h1, h2⟩ := h
        obtain ⟨u, h3, _⟩ := e _ _ (h2 0)
        refine ⟨u, h3, ?_⟩
        unfold mStep
        rw [wj, if_pos hwj, ej]
        refine ⟨obj, h1, fun R => ?_⟩
        obtain ⟨u', h3', h4⟩ := e _ _ (h2 R)
        rw [Flt.uniq (h3 w0 hw0) (h3' w0 hw0)]
        exact h4
      · obtain ⟨S', c1, c2, h1, h2⟩ := h
        obtain ⟨u, h3, h4⟩ := e _ _ h2
        refine ⟨u, h3, ?_⟩
        unfold mStep
        rw [wj, if_pos hwj, ej]
        exact ⟨S', c1, c2, h1, h4⟩
    obtain ⟨v, h1, h2⟩ := key
    unfold mStep
    rw [if_pos hwi]
    exact ⟨v, h1, h2⟩
  rcases ki with _ | ki
  · -- both of the second kind
    rcases kj with _ | kj
    case succ => rcases kj with _ | _ | kj <;> cases hok
    unfold mStep at h
    rw [if_pos hwj] at h
    obtain ⟨v, h1, h2⟩ := h
    rw [wi, if_pos hwi, ei] at h2
    obtain ⟨u, h3, h4⟩ := h2
    unfold mStep
    rw [if_pos hwi]
    refine ⟨u, h3, ?_⟩
    dsimp only
    rw [wj, if_pos hwj, ej]
    exact ⟨v, h1, by rw [← hcm]; exact h4⟩
  rcases ki with _ | ki
  · -- a call that leaves facts is pulled before a read of elder ones
    rcases kj with _ | kj
    case succ => rcases kj with _ | _ | kj <;> cases hok
    unfold mStep at h
    rw [if_pos hwj] at h
    obtain ⟨v, h1, h2⟩ := h
    rw [wi, if_pos hwi, ei] at h2
    obtain ⟨α, hα, f, S', c1, c2, h3, h4⟩ := h2
    unfold mStep
    rw [if_pos hwi]
    refine ⟨α, hα, f, S', c1, c2, h3, fun x => ?_⟩
    dsimp only
    rw [wj, if_pos hwj, ej]
    exact ⟨v, fun w hw => (h1 w (c2 x w hw).2).mono fun u w' ⟨d1, d2, _⟩ => ⟨d1, d2, c1 x _ _ hw d2⟩, by rw [← hcm]; exact h4 x⟩
  rcases ki with _ | ki
  · -- a new block is pulled
    have e : ∀ (S' : World → Prop) x, mStep P P0 base ops 3 oi S' (a.put oj.dst x) K → ∃ obj : Obj, (∀ w, P0 w → (execOp a.eval oi).run P w = .ok (.value (mkOf oi w.heap.size)) (w.alloc obj)) ∧ ∀ R, K (fun w => S' w ∧ Has base R obj w) ((a.put oi.dst (mkOf oi R)).put oj.dst x) := fun S' x h => by
      unfold mStep at h
      rw [wi, if_pos hwi, ei] at h
      obtain ⟨obj, h1, h2⟩ := h
      refine ⟨obj, h1, fun R => ?_⟩
      rw [← hcm]
      exact h2 R
    unfold mStep at h ⊢
    rw [if_pos hwj] at h
    rw [if_pos hwi]
    rcases kj with _ | _ | _ | kj
    · obtain ⟨v, h1, h2⟩ := h
      obtain ⟨obj, h3, h4⟩ := e _ _ h2
      refine ⟨obj, h3, fun R => ?_⟩
      dsimp only
      rw [wj, if_pos hwj, ej]
      exact ⟨v, fun w hw => (h1 w hw.1).mono fun u w' ⟨c1, c2, c3⟩ => ⟨c1, c2, c3, hw.2.below c2⟩, h4 R⟩
    · obtain ⟨α, hα, f, S', c1, c2, h1, h2⟩ := h
      obtain ⟨obj, h3, _⟩ := e _ _ (h2 (Classical.choice hα))
      refine ⟨obj, h3, fun R => ?_⟩
      dsimp only
      rw [wj, if_pos hwj, ej]
      refine ⟨α, hα, f, fun x w => S' x w ∧ Has base R obj w, fun x => (c1 x).has R obj, fun x w hw => ⟨(c2 x w hw.1).1, (c2 x w hw.1).2, hw.2⟩, fun w hw => (h1 w hw.1).mono fun u w' ⟨x, d1, d2, d3⟩ => ⟨x, d1, d2, d3, hw.2.below d2⟩, fun x => ?_⟩
      obtain ⟨obj', h3', h4⟩ := e _ _ (h2 x)
      obtain rfl := obj_uniq ((h3 w0 hw0).symm.trans (h3' w0 hw0))
      exact h4 R
    · obtain ⟨objj, h1, h2⟩ := h
      obtain ⟨obj, h3, _⟩ := e _ _ (h2 0)
      refine ⟨obj, h3, fun R => ?_⟩
      dsimp only
      rw [wj, if_pos hwj, ej]
      refine ⟨objj, h1, fun R' => ?_⟩
      obtain ⟨obj', h3', h4⟩ := e _ _ (h2 R')
      obtain rfl := obj_uniq ((h3 w0 hw0).symm.trans (h3' w0 hw0))
      have e2 : (fun w => (S w ∧ Has base R obj w) ∧ Has base R' objj w) = (fun w => (S w ∧ Has base R' objj w) ∧ Has base R obj w) := by
        funext w
        exact propext ⟨fun ⟨⟨x, y⟩, z⟩ => ⟨⟨x, z⟩, y⟩, fun ⟨⟨x, y⟩, z⟩ => ⟨⟨x, z⟩, y⟩⟩
      rw [e2]
      exact h4 R
    · cases hok
  · rcases kj with _ | _ | _ | kj <;> cases hok
end

/-- The walk of the operations that a list of places names. -/
def wpM (P : Program) (P0 : World → Prop) (base : Nat) (ops : Array Oper) (kd : Nat → Nat) (Q : Act → World → Prop) : List Nat → (World → Prop) → Act → Prop
  | [], S, a => ∀ w, S w → Q a w
  | i :: l, S, a => match ops[i]? with
    | none => False
    | some o => mStep P P0 base ops (kd i) o S a (wpM P P0 base ops kd Q l)

/-- Whatever may be taken first is pulled out. -/
theorem pull {kd : Nat → Nat} {Q : Act → World → Prop} {w0 : World} (hw0 : P0 w0) (hsel : ∀ (j : Nat) (o : Oper) cs b, ops[j]? = some o → o.op ≠ .select cs b) {i : Nat} {oi : Oper} (hi : ops[i]? = some oi) : ∀ (l : List Nat) (S : World → Prop) (a : Act), l.Pairwise (· < ·) → i ∈ l →
    (∀ j ∈ l, j < i → ∀ oj, ops[j]? = some oj → oj.apart ops oi = true ∧ okPair (kd j) (kd i) = true) → Clos S → (∀ w, S w → P0 w) → wpM P P0 base ops kd Q l S a → mStep P P0 base ops (kd i) oi S a (wpM P P0 base ops kd Q (l.erase i))
  | [], _, _, _, hm, _, _, _, _ => by cases hm
  | j :: l, S, a, hl, hm, hcl, hc, hp, h => by
    by_cases hji : j = i
    · subst hji
      rw [List.erase_cons_head]
      unfold wpM at h
      rw [hi] at h
      exact h
    · have hm' : i ∈ l := by
        rcases List.mem_cons.1 hm with e | e
        · exact absurd e.symm hji
        · exact e
      rw [List.pairwise_cons] at hl
      have hlt := hl.1 i hm'
      rw [List.erase_cons_tail (by simpa using hji)]
      unfold wpM at h
      cases hj : ops[j]? with
      | none => rw [hj] at h; exact h.elim
      | some oj =>
        rw [hj] at h
        obtain ⟨hap, hok⟩ := hcl j (List.mem_cons_self ..) hlt oj hj
        have h1 := mStep.mono hc hp (fun S' a' hc' hp' hk => pull hw0 hsel hi l S' a' hl.2 hm' (fun k hk' => hcl k (List.mem_cons_of_mem _ hk')) hc' hp' hk) h
        have h2 := swap hw0 hap (fun cs b => hsel i oi cs b hi) (fun cs b => hsel j oj cs b hj) hok hc hp h1
        refine mStep.mono hc hp (fun S' a' _ _ hk => ?_) h2
        unfold wpM
        rw [hj]
        exact hk

theorem mStep.wp {k : Nat} {o : Oper} {S : World → Prop} {a : Act} {K : (World → Prop) → Act → Prop} {K' : Act → World → Prop} {Q' : Exit → Act → World → Prop} {w : World} (hbase : ∀ w, P0 w → base ≤ w.heap.size) (hc : Clos S) (hSP : ∀ w, S w → P0 w) (hw : S w)
    (h : ∀ S' a' w', Clos S' → (∀ w, S' w → P0 w) → S' w' → K S' a' → K' a' w') (hs : mStep P P0 base ops k o S a K) :
    if Region.wanted o (yielded ops a.tmps) = true then o.wp P a w K' Q' ∨ (o.asks P a w ∧ LetsOut Q') else K' (a.put o.dst undef) w := by
  unfold mStep at hs
  split
  · rename_i hg
    rw [if_pos hg] at hs
    refine .inl ?_
    unfold Oper.wp
    rcases k with _ | _ | _ | _ | k
    · obtain ⟨v, h1, h2⟩ := hs
      exact Does.upon (R := fun u w' => u = v ∧ w' = w) (fun u w' ⟨e1, e2⟩ => by subst e1; subst e2; exact h _ _ _ hc hSP hw h2) (Flt.does ⟨rfl, rfl⟩ (h1 w (hSP w hw)))
    · obtain ⟨v, h1, h2⟩ := hs
      exact Does.upon (fun u w' ⟨e1, _, e2⟩ => by subst e1; exact h _ _ _ hc hSP e2 h2) (h1 w hw)
    · obtain ⟨α, _, f, S', c1, c2, h1, h2⟩ := hs
      exact Does.upon (fun u w' ⟨x, hx, _, hu⟩ => by subst hx; exact h _ _ _ (c1 x) (fun w hw => (c2 x w hw).1) hu (h2 x)) (h1 w hw)
    · obtain ⟨obj, h1, h2⟩ := hs
      rw [h1 w (hSP w hw)]
      exact h _ _ _ (hc.has _ obj) (fun w' hw' => hSP w' hw'.1) ⟨hc w _ hw ((Below.refl _ _).alloc (Nat.le_refl _) _), hbase w (hSP w hw), heap_new w obj⟩ (h2 w.heap.size)
    · obtain ⟨S', c1, c2, h1, h2⟩ := hs
      exact Does.upon (fun u w' ⟨e, hu⟩ => by subst e; exact h _ _ _ c1 c2 hu h2) (h1 w hw)
  · rename_i hg
    rw [if_neg hg] at hs
    exact h _ _ _ hc hSP hw hs

/-- The check of the region's order. -/
def floatB (md : Region.Mode) (ops : Array Oper) (ks : List Nat) : Bool :=
  let an := ancAll md ops.toList []
  (List.range ops.size).all fun j => match ops[j]? with
    | none => true
    | some oj => (oj.after.toList.all fun e => !Region.binds md e || decide (e.on < j)) &&
      (List.range j).all fun i => (an.getD j []).contains i || (okPair (ks.getD i 0) (ks.getD j 0) && match ops[i]? with
        | none => true
        | some oi => oi.apart ops oj)
theorem floatB_spec {ks : List Nat} (h : floatB md ops ks = true) {j : Nat} {oj : Oper} (hj : ops[j]? = some oj) :
    (∀ e ∈ oj.after, Region.binds md e = true → e.on < j) ∧ ∀ i oi, i < j → ops[i]? = some oi → After md ops i j ∨ (okPair (ks.getD i 0) (ks.getD j 0) = true ∧ oi.apart ops oj = true) := by
  unfold floatB at h
  have hjs : j < ops.size := (Array.getElem?_eq_some_iff.1 hj).1
  have h1 := List.all_eq_true.1 h j (List.mem_range.2 hjs)
  rw [hj] at h1
  simp only [Bool.and_eq_true] at h1
  refine ⟨fun e he hb => ?_, fun i oi hi ho => ?_⟩
  · have := List.all_eq_true.1 h1.1 e (by simpa using he)
    simpa [hb] using this
  · have h2 := List.all_eq_true.1 h1.2 i (List.mem_range.2 hi)
    rw [ho] at h2
    simp only [Bool.or_eq_true, Bool.and_eq_true] at h2
    rcases h2 with h2 | ⟨h2, h3⟩
    · refine .inl fun listed hc hr => ?_
      obtain ⟨_, o, ho', hd⟩ := mem_ready.1 hr
      exact ancAll_sound hc ops.toList [] (fun j => by simp) (fun j o hj => absurd hj (Nat.not_lt_zero _)) j o ho' (by rw [length_ancAll]; simpa using hjs) hd i (by simpa using h2)
    · exact .inr ⟨h2, h3⟩

theorem wpAny_of_M {kd : Nat → Nat} {ks : List Nat} (hkd : ∀ i, kd i = ks.getD i 0) {Q : Act → World → Prop} {Q' : Exit → Act → World → Prop} (hQ : ∀ a w, Q a w → Q' .normal a w) {w0 : World} (hw0 : P0 w0) (hbase : ∀ w, P0 w → base ≤ w.heap.size) (hsel : ∀ (j : Nat) (o : Oper) cs b, ops[j]? = some o → o.op ≠ .select cs b) (hB : floatB md ops ks = true) :
    ∀ (fuel : Nat) (listed : Array Bool) (l : List Nat) (S : World → Prop) (a : Act) (w : World), (∀ i, i ∈ l ↔ i < ops.size ∧ listed.getD i true = false) → l.Pairwise (· < ·) → listed.size = ops.size → Closed md ops listed → Clos S → (∀ w, S w → P0 w) → S w → wpM P P0 base ops kd Q l S a → l.length ≤ fuel → wpAny P md ops Q' fuel listed a w
  | 0, listed, l, S, a, w, hm, _, _, _, _, _, hw, h, hf => by
    obtain rfl : l = [] := List.eq_nil_of_length_eq_zero (by omega)
    refine ⟨?_, hQ _ _ (h w hw)⟩
    refine List.eq_nil_iff_forall_not_mem.2 fun j hj => ?_
    obtain ⟨h1, o, ho, _⟩ := mem_ready.1 hj
    exact absurd ((hm j).2 ⟨(Array.getElem?_eq_some_iff.1 ho).1, h1⟩) List.not_mem_nil
  | fuel + 1, listed, l, S, a, w, hm, hpw, hsz, hcl, hc, hp, hw, h, hf => by
    refine ⟨fun h0 => ?_, fun i hi => ?_⟩
    · cases l with
      | nil => exact hQ _ _ (h w hw)
      | cons j l =>
        exfalso
        obtain ⟨hj1, hj2⟩ := (hm j).1 (List.mem_cons_self ..)
        have hoj : ops[j]? = some ops[j] := Array.getElem?_eq_getElem hj1
        have hr : j ∈ Region.ready md ops listed := mem_ready.2 ⟨hj2, _, hoj, fun e he hb => by
          have hlt := (floatB_spec hB hoj).1 e he hb
          cases hv : listed.getD e.on false with
          | true => rfl
          | false =>
            exfalso
            have hes : e.on < listed.size := by omega
            have h3 : listed.getD e.on true = false := by
              rw [Array.getD_eq_getD_getElem?, Array.getElem?_eq_getElem hes] at hv ⊢
              simpa using hv
            have h4 := (hm e.on).2 ⟨by omega, h3⟩
            rw [List.pairwise_cons] at hpw
            rcases List.mem_cons.1 h4 with h5 | h5
            · omega
            · have := hpw.1 _ h5; omega⟩
        rw [h0] at hr
        cases hr
    · obtain ⟨hun, oi, ho, _⟩ := mem_ready.1 hi
      have hil : i ∈ l := (hm i).2 ⟨(Array.getElem?_eq_some_iff.1 ho).1, hun⟩
      have hpl := pull (kd := kd) hw0 hsel ho l S a hpw hil (fun j hj hlt oj hoj => by
        rcases (floatB_spec hB ho).2 j oj hlt hoj with h1 | h1
        · have h2 := h1 listed hcl hi
          have h3 := ((hm j).1 hj).2
          have hjs : j < listed.size := by rw [hsz]; exact ((hm j).1 hj).1
          rw [Array.getD_eq_getD_getElem?, Array.getElem?_eq_getElem hjs] at h2 h3
          simp only [Option.getD_some] at h2 h3
          rw [h2] at h3; cases h3
        · rw [hkd, hkd]; exact ⟨h1.2, h1.1⟩) hc hp h
      unfold wpOp
      rw [ho]
      refine mStep.wp hbase hc hp hw (fun S' a' w' hc' hp' hw' hk => ?_) hpl
      refine wpAny_of_M hkd hQ hw0 hbase hsel hB fuel _ (l.erase i) S' a' w' (fun k => ?_) (hpw.sublist List.erase_sublist) (by rw [Array.size_setIfInBounds]; exact hsz) (hcl.set hi) hc' hp' hw' hk (by rw [List.length_erase_of_mem hil]; omega)
      have hnd : l.Nodup := hpw.imp (fun h => Nat.ne_of_lt h)
      rw [hnd.mem_erase_iff, hm k]
      by_cases hki : i = k
      · subst hki
        have his : i < listed.size := by rw [hsz]; exact (Array.getElem?_eq_some_iff.1 ho).1
        simp [his]
      · rw [getD_set_ne true hki]
        exact ⟨fun h => h.2, fun h => ⟨fun e => hki e.symm, h⟩⟩

/-! ### The walk as it is typed: the class is a list of facts that outlive whatever comes -/
/-- Facts of a world over V, each of which outlives whatever leaves the old memory. -/
structure KS (V : World) (l : List (World → Prop)) (w : World) : Prop where
  old : Below V.heap.size V w
  all : ∀ F ∈ l, ∀ w', Below w.heap.size w w' → F w'
theorem KS.get {V w : World} {l : List (World → Prop)} (h : KS V l w) {F : World → Prop} (hm : F ∈ l) : F w := h.all F hm w (Below.refl _ _)
theorem KS.step {V w w' : World} {l : List (World → Prop)} (h : KS V l w) (hb : Below w.heap.size w w') : KS V l w' :=
  ⟨h.old.trans (hb.mono h.old.size), fun F hF w2 h2 => h.all F hF w2 (hb.trans (h2.mono hb.size))⟩
theorem KS.start (V : World) : KS V [] V := ⟨Below.refl _ _, fun _ h => absurd h List.not_mem_nil⟩
theorem KS.add {V w : World} {l : List (World → Prop)} (h : KS V l w) {F : World → Prop} (hF : ∀ w', Below w.heap.size w w' → F w') : KS V (F :: l) w :=
  ⟨h.old, fun G hG => by
    rcases List.mem_cons.1 hG with rfl | hG
    · exact hF
    · exact h.all G hG⟩
theorem KS.app {V w : World} {l l' : List (World → Prop)} (h : KS V l w) (hF : ∀ F ∈ l', ∀ w', Below w.heap.size w w' → F w') : KS V (l' ++ l) w :=
  ⟨h.old, fun G hG => by
    rcases List.mem_append.1 hG with hG | hG
    · exact hF G hG
    · exact h.all G hG⟩
theorem KS.sub {V w : World} {l l' : List (World → Prop)} (h : KS V l w) (hs : ∀ F ∈ l', F ∈ l) : KS V l' w := ⟨h.old, fun F hF => h.all F (hs F hF)⟩
theorem KS.re {V w : World} {l : List (World → Prop)} (h : KS V l w) : KS w l w := ⟨Below.refl _ _, h.all⟩
theorem KS.drew {V w : World} {l : List (World → Prop)} (h : KS V l w) : KS V l w.drew := h.step (Below.refl _ _).drew
theorem KS.clos (V : World) (l : List (World → Prop)) : Clos (KS V l) := fun _ _ h hb => h.step hb
theorem KS.has {V : World} {l : List (World → Prop)} {R : Nat} {obj : Obj} : (fun w => KS V l w ∧ Has V.heap.size R obj w) = KS V (Has V.heap.size R obj :: l) := by
  funext w
  refine propext ⟨fun ⟨h1, h2⟩ => h1.add fun w' hb => h2.below hb, fun h => ⟨h.sub fun F hF => List.mem_cons_of_mem _ hF, h.get (List.mem_cons_self ..)⟩⟩
/-- The class of the walk: what holds all through the region, and what holds at the place. -/
def Cls (V : World) (f0 fs : List (World → Prop)) (w : World) : Prop := KS V f0 w ∧ KS V fs w
theorem Cls.clos (V : World) (f0 fs : List (World → Prop)) : Clos (Cls V f0 fs) := fun _ _ h hb => ⟨h.1.step hb, h.2.step hb⟩
theorem Cls.has {V : World} {f0 l : List (World → Prop)} {R : Nat} {obj : Obj} : (fun w => Cls V f0 l w ∧ Has V.heap.size R obj w) = Cls V f0 (Has V.heap.size R obj :: l) := by
  funext w
  refine propext ⟨fun ⟨h1, h2⟩ => ⟨h1.1, h1.2.add fun w' hb => h2.below hb⟩, fun h => ⟨⟨h.1, h.2.sub fun F hF => List.mem_cons_of_mem _ hF⟩, h.2.get (List.mem_cons_self ..)⟩⟩

def wpLx (P : Program) (V : World) (f0 : List (World → Prop)) (ops : Array Oper) (Q : Act → World → Prop) : List Nat → List Oper → (World → Prop) → Act → Prop
  | _, [], S, a => ∀ w, S w → Q a w
  | [], _ :: _, _, _ => False
  | k :: ks, o :: rest, S, a => mStep P (KS V f0) V.heap.size ops k o S a (wpLx P V f0 ops Q ks rest)
structure Lx (P : Program) (V : World) (f0 : List (World → Prop)) (ops : Array Oper) (Q : Act → World → Prop) (ks : List Nat) (l : List Oper) (fs : List (World → Prop)) (a : Act) : Prop where
  out : wpLx P V f0 ops Q ks l (Cls V f0 fs) a

section
variable {V : World} {f0 : List (World → Prop)} {Q : Act → World → Prop} {ks : List Nat} {o : Oper} {rest : List Oper} {fs : List (World → Prop)} {a : Act} {v : Value}
theorem wanted_undef {j d : Nat} {b : Bool} (hg : o.guard = some (j, b)) (hd : (ops[j]?).bind (·.dst) = some d) (hv : slotOf a.tmps.toList d = undef) : Region.wanted o (yielded ops a.tmps) = false := by
  have h1 : yielded ops a.tmps j = none := by
    unfold yielded
    rw [hd]
    have h2 : ∀ (l : List Value) (n : Nat), slotOf l n = undef → l[n]? = some undef ∨ l[n]? = none := fun l => by
      induction l with
      | nil => intro n _; exact .inr (by simp)
      | cons x l ih =>
        intro n h
        cases n with
        | zero => exact .inl (by simpa [slotOf] using h)
        | succ n => simpa using ih n h
    simp only [Option.bind_some]
    rcases h2 _ _ hv with h3 | h3
    · rw [← Array.getElem?_toList, h3]; rfl
    · rw [← Array.getElem?_toList, h3]
  unfold Region.wanted
  rw [hg]
  dsimp only
  rw [h1]
  rfl
/-- What a guard says. -/
abbrev Wants (ops : Array Oper) (o : Oper) (a : Act) : Prop := Region.wanted o (yielded ops a.tmps) = true
theorem wants0 (hg : o.guard = none) : Wants ops o a := wanted_none hg
theorem wantsg {j d : Nat} {b c : Bool} (hg : o.guard = some (j, b)) (hd : (ops[j]?).bind (·.dst) = some d) (hv : slotOf a.tmps.toList d = .bool c) (hc : (c == b) = true) : Wants ops o a := (wanted_some hg hd hv).trans hc
theorem lxF0 (hg : Wants ops o a) (h1 : ∀ w, KS V f0 w → Flt v w ((execOp a.eval o).run P w)) (h : Lx P V f0 ops Q ks rest fs (a.put o.dst v)) : Lx P V f0 ops Q (0 :: ks) (o :: rest) fs a := by
  refine ⟨?_⟩
  show mStep _ _ _ _ 0 o _ a _
  unfold mStep
  rw [if_pos hg]
  exact ⟨v, h1, h.out⟩
theorem lxR0 (hg : Wants ops o a) (h1 : ∀ w, KS V f0 w → KS V fs w → Flt v w ((execOp a.eval o).run P w)) (h : Lx P V f0 ops Q ks rest fs (a.put o.dst v)) : Lx P V f0 ops Q (1 :: ks) (o :: rest) fs a := by
  refine ⟨?_⟩
  show mStep _ _ _ _ 1 o _ a _
  unfold mStep
  rw [if_pos hg]
  exact ⟨v, fun w hw => Flt.does ⟨rfl, Below.refl _ _, hw⟩ (h1 w hw.1 hw.2), h.out⟩
theorem lxH0 (hg : Wants ops o a) (h1 : ∀ w, KS V f0 w → KS V fs w → Does P (fun u w' => u = v ∧ Below w.heap.size w w') ((execOp a.eval o).run P w)) (h : Lx P V f0 ops Q ks rest fs (a.put o.dst v)) : Lx P V f0 ops Q (1 :: ks) (o :: rest) fs a := by
  refine ⟨?_⟩
  show mStep _ _ _ _ 1 o _ a _
  unfold mStep
  rw [if_pos hg]
  exact ⟨v, fun w hw => (h1 w hw.1 hw.2).mono fun u w' ⟨c1, c2⟩ => ⟨c1, c2, Cls.clos _ _ _ _ _ hw c2⟩, h.out⟩
theorem lxE0 {α : Type} [hα : Nonempty α] (f : α → Value) (l' : α → List (World → Prop)) (hg : Wants ops o a) (h1 : ∀ w, KS V f0 w → KS V fs w → Does P (fun u w' => ∃ x, u = f x ∧ Below w.heap.size w w' ∧ ∀ F ∈ l' x, ∀ w2, Below w'.heap.size w' w2 → F w2) ((execOp a.eval o).run P w))
    (h : ∀ x, Lx P V f0 ops Q ks rest (l' x ++ fs) (a.put o.dst (f x))) : Lx P V f0 ops Q (2 :: ks) (o :: rest) fs a := by
  refine ⟨?_⟩
  show mStep _ _ _ _ 2 o _ a _
  unfold mStep
  rw [if_pos hg]
  exact ⟨α, hα, f, fun x => Cls V f0 (l' x ++ fs), fun x => Cls.clos _ _ _, fun x w hw => ⟨hw.1, hw.1, hw.2.sub fun F hF => List.mem_append_right _ hF⟩, fun w hw => (h1 w hw.1 hw.2).mono fun u w' ⟨x, c1, c2, c3⟩ => ⟨x, c1, c2, hw.1.step c2, (hw.2.step c2).app c3⟩, fun x => (h x).out⟩
theorem lxA0 (obj : Obj) (hg : Wants ops o a) (h1 : ∀ w, KS V f0 w → (execOp a.eval o).run P w = .ok (.value (mkOf o w.heap.size)) (w.alloc obj)) (h : ∀ R, Lx P V f0 ops Q ks rest (Has V.heap.size R obj :: fs) (a.put o.dst (mkOf o R))) : Lx P V f0 ops Q (3 :: ks) (o :: rest) fs a := by
  refine ⟨?_⟩
  show mStep _ _ _ _ 3 o _ a _
  unfold mStep
  rw [if_pos hg]
  refine ⟨obj, h1, fun R => ?_⟩
  rw [Cls.has]
  exact (h R).out
theorem lxS0 (l' : List (World → Prop)) (hg : Wants ops o a) (h1 : ∀ w, KS V f0 w → KS V fs w → Does P (fun u w' => u = undef ∧ KS V f0 w' ∧ KS V l' w') ((execOp a.eval o).run P w)) (h : Lx P V f0 ops Q ks rest l' (a.put o.dst undef)) : Lx P V f0 ops Q (4 :: ks) (o :: rest) fs a := by
  refine ⟨?_⟩
  show mStep _ _ _ _ 4 o _ a _
  unfold mStep
  rw [if_pos hg]
  exact ⟨Cls V f0 l', Cls.clos _ _ _, fun w hw => hw.1, fun w hw => h1 w hw.1 hw.2, h.out⟩
theorem lxN0 {k : Nat} (hg : Region.wanted o (yielded ops a.tmps) = false) (h : Lx P V f0 ops Q ks rest fs (a.put o.dst undef)) : Lx P V f0 ops Q (k :: ks) (o :: rest) fs a := by
  refine ⟨?_⟩
  show mStep _ _ _ _ k o _ a _
  unfold mStep
  rw [if_neg (by simp [hg])]
  exact h.out
theorem lxN {k j d : Nat} {b c : Bool} (hg : o.guard = some (j, b)) (hd : (ops[j]?).bind (·.dst) = some d) (hv : slotOf a.tmps.toList d = .bool c) (hc : (c == b) = false)
    (h : Lx P V f0 ops Q ks rest fs (a.put o.dst undef)) : Lx P V f0 ops Q (k :: ks) (o :: rest) fs a := lxN0 ((wanted_some hg hd hv).trans hc) h
theorem lxN' {k j d : Nat} {b : Bool} (hg : o.guard = some (j, b)) (hd : (ops[j]?).bind (·.dst) = some d) (hv : slotOf a.tmps.toList d = undef)
    (h : Lx P V f0 ops Q ks rest fs (a.put o.dst undef)) : Lx P V f0 ops Q (k :: ks) (o :: rest) fs a :=
  lxN0 (wanted_undef hg hd hv) h
theorem lxEnd (h : ∀ w, KS V fs w → Q a w) : Lx P V f0 ops Q ks [] fs a := ⟨by cases ks <;> exact fun w hw => h w hw.2⟩
theorem lxEnd2 (h : ∀ w, KS V f0 w → KS V fs w → Q a w) : Lx P V f0 ops Q ks [] fs a := ⟨by cases ks <;> exact fun w hw => h w hw.1 hw.2⟩
theorem lx_to_M {kd : Nat → Nat} {ks0 : List Nat} (hkd : ∀ i, kd i = ks0.getD i 0) (hlen : ops.size ≤ ks0.length) : ∀ (l : List Oper) (k : Nat) (S : World → Prop) (a : Act), (∀ j, l[j]? = ops[k + j]?) → wpLx P V f0 ops Q (ks0.drop k) l S a → wpM P (KS V f0) V.heap.size ops kd Q (List.range' k l.length) S a
  | [], k, S, a, _, h => by cases hk : ks0.drop k <;> (rw [hk] at h; exact h)
  | o :: l, k, S, a, hl, h => by
    have h0 : ops[k]? = some o := by simpa using (hl 0).symm
    have hks : k < ks0.length := Nat.lt_of_lt_of_le (Array.getElem?_eq_some_iff.1 h0).1 hlen
    have hdrop : ks0.drop k = ks0.getD k 0 :: ks0.drop (k + 1) := by
      rw [List.drop_eq_getElem_cons hks]
      simp [hks]
    rw [hdrop] at h
    rw [List.length_cons, List.range'_succ]
    unfold wpM
    rw [h0]
    dsimp only
    rw [hkd]
    have hk : ∀ S' a', wpLx P V f0 ops Q (ks0.drop (k + 1)) l S' a' → wpM P (KS V f0) V.heap.size ops kd Q (List.range' (k + 1) l.length) S' a' := fun S' a' h' =>
      lx_to_M hkd hlen l (k + 1) S' a' (fun j => by have := hl (j + 1); simpa [Nat.add_assoc, Nat.add_comm 1 j] using this) h'
    change mStep P (KS V f0) V.heap.size ops (ks0.getD k 0) o S a (wpLx P V f0 ops Q (ks0.drop (k + 1)) l) at h
    generalize ks0.getD k 0 = kk at h
    unfold mStep at h ⊢
    split
    · rename_i hw
      rw [if_pos hw] at h
      rcases kk with _ | _ | _ | _ | kk
      · obtain ⟨v, h1, h2⟩ := h; exact ⟨v, h1, hk _ _ h2⟩
      · obtain ⟨v, h1, h2⟩ := h; exact ⟨v, h1, hk _ _ h2⟩
      · obtain ⟨α, hα, f, S', h1, h2, h3, h4⟩ := h; exact ⟨α, hα, f, S', h1, h2, h3, fun x => hk _ _ (h4 x)⟩
      · obtain ⟨obj, h1, h2⟩ := h; exact ⟨obj, h1, fun R => hk _ _ (h2 R)⟩
      · obtain ⟨S', h1, h2, h3, h4⟩ := h; exact ⟨S', h1, h2, h3, hk _ _ h4⟩
    · rename_i hw
      rw [if_neg hw] at h
      exact hk _ _ h
end

/-- **A REGION THAT DRAWS ITS ORDER, WITH NEW BLOCKS, WALKED ONCE.** f0: what holds all through the region; a read of what it says needs no place in the order. -/
theorem wp_region_float0 {id : Nat} {Q : Exit → Act → World → Prop} {a : Act} {w : World} {l : List Oper} (V : World) (f0 fs : List (World → Prop)) (ks : List Nat) (hm : P.follows .mixedOrders = true)
    (hn : Region.noSelect l.toArray = true) (hlen : (l.length == ks.length) = true) (hst : floatB .any l.toArray ks = true) (hS0 : KS V f0 w.drew) (hS : KS V fs w.drew) (h : Lx P V f0 l.toArray (fun a w => Q .normal a w) ks l fs a) :
    (Code.region id l.toArray true).wp P Q a w := by
  have hlen' : l.length = ks.length := by simpa using hlen
  refine wp_region_any hm ?_
  refine wpAny_of_M (P0 := KS V f0) (base := V.heap.size) (kd := fun i => ks.getD i 0) (ks := ks) (fun _ => rfl) (Q := fun a w => Q .normal a w) (fun _ _ h => h) hS0 (fun w hw => hw.old.size) (Region.noSelect_spec hn) hst _ _ (List.range' 0 l.length) (Cls V f0 fs) a _ (fun i => ?_) List.pairwise_lt_range' (by simp) (fun j o hj ht => ?_) (Cls.clos _ _ _) (fun w hw => hw.1) ⟨hS0, hS⟩
    (lx_to_M (ops := l.toArray) (ks0 := ks) (fun _ => rfl) (by simp [hlen']) l 0 _ a (by simp) (by simpa using h.out)) (by simp)
  · rw [List.mem_range'_1]
    constructor
    · intro hi
      have hlt : i < l.length := by omega
      simp [hlt]
    · intro hi
      have := hi.1
      simp at this
      omega
  · have hlt : j < l.toArray.size := (Array.getElem?_eq_some_iff.1 hj).1
    simp at hlt
    simp [hlt] at ht
theorem KS.nil {V w : World} {l : List (World → Prop)} (h : KS V l w) : KS V [] w := ⟨h.old, fun _ h => absurd h List.not_mem_nil⟩
theorem wp_region_float {id : Nat} {Q : Exit → Act → World → Prop} {a : Act} {w : World} {l : List Oper} (V : World) (fs : List (World → Prop)) (ks : List Nat) (hm : P.follows .mixedOrders = true)
    (hn : Region.noSelect l.toArray = true) (hlen : (l.length == ks.length) = true) (hst : floatB .any l.toArray ks = true) (hS : KS V fs w.drew) (h : Lx P V [] l.toArray (fun a w => Q .normal a w) ks l fs a) :
    (Code.region id l.toArray true).wp P Q a w := wp_region_float0 V [] fs ks hm hn hlen hst hS.nil hS h
theorem wpList_of_lx {V : World} {f0 : List (World → Prop)} {Q' : Exit → Act → World → Prop} : ∀ (ks : List Nat) (l : List Oper) (S : World → Prop) (a : Act) (w : World), Clos S → (∀ w, S w → KS V f0 w) → S w →
    wpLx P V f0 ops (fun a w => Q' .normal a w) ks l S a → wpList P ops Q' l a w
  | [], [], _, _, _, _, _, hw, h => h _ hw
  | _ :: _, [], _, _, _, _, _, hw, h => h _ hw
  | [], _ :: _, _, _, _, _, _, _, h => False.elim h
  | _ :: ks, _ :: rest, _, _, _, hc, hSP, hw, h => mStep.wp (P0 := KS V f0) (base := V.heap.size) (fun _ hw => hw.old.size) hc hSP hw (fun S' a' w' hc' hP' hw' hk => wpList_of_lx ks rest S' a' w' hc' hP' hw' hk) h
/-- A region that keeps the order of the text, by the same steps. -/
theorem wp_region_ftext {id : Nat} {Q : Exit → Act → World → Prop} {a : Act} {w : World} {l : List Oper} (V : World) (fs : List (World → Prop)) (ks : List Nat) (hS : KS V fs w) (h : Lx P V [] l.toArray (fun a w => Q .normal a w) ks l fs a) :
    (Code.region id l.toArray false).wp P Q a w :=
  wp_region_lit (wpList_of_lx ks l (Cls V [] fs) a w (Cls.clos _ _ _) (fun w hw => hw.1) ⟨hS.nil, hS⟩ h.out)
end
end Go.Proofs.YtepljhpamconbaaDoor
