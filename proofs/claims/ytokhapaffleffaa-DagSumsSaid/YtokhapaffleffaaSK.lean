/- Regions walked once in the order of the text, in whatever order they are carried out: what the walk knows is a class of worlds and the blocks that it names; new blocks are none of those. Facts of a world that own blocks, apart from one another: a change of what one of them owns leaves the others. Steps of a walk, shortly told. Families of rows: a row of slices, with the rows that they are; one of them may be taken out. -/
import Derived.Test.YtokhapaffleffaaTxG
import Derived.Test.YtokhapaffleffaaRowX
namespace Go.Proofs.Ytokhapaffleffaa
open Go.RowKit
def mkV (P : Program) (e : Sem Next) (R : Nat) : Value := match e.run P { (default : World) with heap := Array.replicate R default } with
  | .ok (.value v) _ => v
  | _ => undef
theorem mkV_of {P : Program} {e : Sem Next} {f : Nat → Value} {obj : Obj} (h : ∀ w, e.run P w = .ok (.value (f w.heap.size)) (w.alloc obj)) (R : Nat) : mkV P e R = f R := by
  unfold mkV
  rw [h]
  simp
structure Kl where
  n : Nat → Prop
  s : World → Prop
def cup (A B : Nat → Prop) : Nat → Prop := fun g => A g ∨ B g
theorem Kl.eq {A B : Nat → Prop} {S T : World → Prop} (h : ∀ g, A g ↔ B g) (h' : ∀ w, S w ↔ T w) : (⟨A, S⟩ : Kl) = ⟨B, T⟩ := by
  rw [funext fun g => propext (h g), funext fun w => propext (h' w)]
structure Gd (P0 : World → Prop) (S : Kl) : Prop where
  cl : Clos S.s
  p : ∀ w, S.s w → P0 w
  k : ∀ w, S.s w → ∀ g, S.n g → g < w.heap.size
def FrN (n : Nat → Prop) (w w' : World) : Prop := ∀ R, R < w.heap.size → ¬ n R → w'.heap[R]? = w.heap[R]?
def Kl.new (S : Kl) (base R : Nat) (obj : Obj) : Kl := ⟨cup S.n (fun g => g = R), fun w => S.s w ∧ Has base R obj w ∧ ¬ S.n R⟩
section
variable {P : Program} {P0 : World → Prop} {base : Nat} {ops : Array Oper} {md : Region.Mode}
theorem Gd.new {S : Kl} (h : Gd P0 S) (R : Nat) (obj : Obj) : Gd P0 (S.new base R obj) :=
  ⟨fun _ _ ⟨h1, h2, h3⟩ hb => ⟨h.cl _ _ h1 hb, h2.below hb, h3⟩, fun w hw => h.p w hw.1, fun w hw g hg => hg.elim (h.k w hw.1 g) fun e => e ▸ hw.2.1.ltS⟩
theorem Kl.new_comm (S : Kl) (R R' : Nat) (o o' : Obj) : (S.new base R o).new base R' o' = (S.new base R' o').new base R o :=
  Kl.eq (fun _g => ⟨fun h => h.elim (fun h => h.elim (fun h => .inl (.inl h)) .inr) fun h => .inl (.inr h), fun h => h.elim (fun h => h.elim (fun h => .inl (.inl h)) .inr) fun h => .inl (.inr h)⟩)
    fun _w => ⟨fun ⟨⟨a, b, c⟩, d, e⟩ => ⟨⟨a, d, fun h => e (.inl h)⟩, b, fun h => h.elim c fun h => e (.inr h.symm)⟩, fun ⟨⟨a, b, c⟩, d, e⟩ => ⟨⟨a, d, fun h => e (.inl h)⟩, b, fun h => h.elim c fun h => e (.inr h.symm)⟩⟩
def nStep (P : Program) (P0 : World → Prop) (base : Nat) (ops : Array Oper) (k : Nat) (o : Oper) (S : Kl) (a : Act) (K : Kl → Act → Prop) : Prop :=
  if Region.wanted o (yielded ops a.tmps) = true then
    match k with
    | 0 => ∃ v, (∀ w, P0 w → Flt v w ((execOp a.eval o).run P w)) ∧ K S (a.put o.dst v)
    | 1 => ∃ v, (∀ w, S.s w → Does P (fun u w' => u = v ∧ Below w.heap.size w w') ((execOp a.eval o).run P w)) ∧ K S (a.put o.dst v)
    | 3 => ∃ obj : Obj, (∀ w, P0 w → (execOp a.eval o).run P w = .ok (.value (mkV P (execOp a.eval o) w.heap.size)) (w.alloc obj)) ∧ ∀ R, K (S.new base R obj) (a.put o.dst (mkV P (execOp a.eval o) R))
    | k => ∃ (α : Type) (_ : Nonempty α) (f : α → Value) (S' : α → Kl), (∀ x, Gd P0 (S' x)) ∧ (k = 2 → ∀ x, (∀ w, (S' x).s w → S.s w) ∧ ∀ g, S.n g → (S' x).n g) ∧ (∀ w, S.s w → Does P (fun v w' => ∃ x, v = f x ∧ (k = 2 → Below w.heap.size w w') ∧ (k = 5 → FrN S.n w w') ∧ (k ≠ 4 → ∀ g, (S' x).n g → S.n g ∨ w.heap.size ≤ g) ∧ (S' x).s w') ((execOp a.eval o).run P w)) ∧ ∀ x, K (S' x) (a.put o.dst (f x))
  else K S (a.put o.dst undef)
theorem nStep.mono {k : Nat} {o : Oper} {S : Kl} {a : Act} {K K' : Kl → Act → Prop} (hS : Gd P0 S) (h : ∀ S' a', Gd P0 S' → K S' a' → K' S' a') (hs : nStep P P0 base ops k o S a K) : nStep P P0 base ops k o S a K' := by
  unfold nStep at *
  split
  · rename_i hw
    rw [if_pos hw] at hs
    split
    · obtain ⟨v, h1, h2⟩ := hs; exact ⟨v, h1, h _ _ hS h2⟩
    · obtain ⟨v, h1, h2⟩ := hs; exact ⟨v, h1, h _ _ hS h2⟩
    · obtain ⟨obj, h1, h2⟩ := hs; exact ⟨obj, h1, fun R => h _ _ (hS.new R obj) (h2 R)⟩
    · rename_i k0 k1 k3
      split at hs
      · exact absurd rfl k0
      · exact absurd rfl k1
      · exact absurd rfl k3
      · obtain ⟨α, hα, f, S', h1, h2, h3, h4⟩ := hs; exact ⟨α, hα, f, S', h1, h2, h3, fun x => h _ _ (h1 x) (h4 x)⟩
  · rename_i hw
    rw [if_neg hw] at hs
    exact h _ _ hS hs
section
variable {oi oj : Oper} {S : Kl} {a : Act} {K : Kl → Act → Prop}
theorem nStep_put {k : Nat} {u : Value} (hap : oj.apart ops oi = true) (hs : ∀ cs b, oi.op ≠ .select cs b) (h : nStep P P0 base ops k oi S (a.put oj.dst u) K) :
    nStep P P0 base ops k oi S a (fun S' a' => (∃ x, a' = a.put oi.dst x) ∧ K S' (a'.put oj.dst u)) := by
  obtain ⟨h1, h2, h3⟩ := Oper.apart_spec hap
  have hcm : ∀ v, (a.put oj.dst u).put oi.dst v = (a.put oi.dst v).put oj.dst u := fun v => Act.put_comm a u v h2
  unfold nStep at *
  rw [wanted_put oi a oj.dst u h1, execOp_put oi hs a oj.dst u h1] at h
  simp only [hcm] at h
  split
  · rename_i hw
    rw [if_pos hw] at h
    split
    · obtain ⟨v, hv, hk⟩ := h; exact ⟨v, hv, ⟨v, rfl⟩, hk⟩
    · obtain ⟨v, hv, hk⟩ := h; exact ⟨v, hv, ⟨v, rfl⟩, hk⟩
    · obtain ⟨obj, hv, hk⟩ := h; exact ⟨obj, hv, fun R => ⟨⟨_, rfl⟩, hk R⟩⟩
    · rename_i k0 k1 k3
      split at h
      · exact absurd rfl k0
      · exact absurd rfl k1
      · exact absurd rfl k3
      · obtain ⟨α, hα, f, S', c1, c2, hv, hk⟩ := h; exact ⟨α, hα, f, S', c1, c2, hv, fun x => ⟨⟨f x, rfl⟩, hk x⟩⟩
  · rename_i hw
    rw [if_neg hw] at h
    exact ⟨⟨_, rfl⟩, h⟩
theorem nStep_at {k : Nat} {u : Value} (hap : oj.apart ops oi = true) (hs : ∀ cs b, oi.op ≠ .select cs b) (hw : Region.wanted oi (yielded ops a.tmps) = true) (h : nStep P P0 base ops k oi S (a.put oj.dst u) K) :
    (k = 0 → ∃ v, (∀ w, P0 w → Flt v w ((execOp a.eval oi).run P w)) ∧ K S ((a.put oi.dst v).put oj.dst u)) ∧
    (k = 1 → ∃ v, (∀ w, S.s w → Does P (fun u w' => u = v ∧ Below w.heap.size w w') ((execOp a.eval oi).run P w)) ∧ K S ((a.put oi.dst v).put oj.dst u)) ∧
    (k = 3 → ∃ obj : Obj, (∀ w, P0 w → (execOp a.eval oi).run P w = .ok (.value (mkV P (execOp a.eval oi) w.heap.size)) (w.alloc obj)) ∧ ∀ R, K (S.new base R obj) ((a.put oi.dst (mkV P (execOp a.eval oi) R)).put oj.dst u)) ∧
    (k = 2 → ∃ (α : Type) (_ : Nonempty α) (f : α → Value) (S' : α → Kl), (∀ x, Gd P0 (S' x)) ∧ (∀ x, (∀ w, (S' x).s w → S.s w) ∧ ∀ g, S.n g → (S' x).n g) ∧ (∀ w, S.s w → Does P (fun v w' => ∃ x, v = f x ∧ Below w.heap.size w w' ∧ (∀ g, (S' x).n g → S.n g ∨ w.heap.size ≤ g) ∧ (S' x).s w') ((execOp a.eval oi).run P w)) ∧ ∀ x, K (S' x) ((a.put oi.dst (f x)).put oj.dst u)) := by
  have h := nStep_put hap hs h
  unfold nStep at h
  rw [if_pos hw] at h
  refine ⟨fun e => ?_, fun e => ?_, fun e => ?_, fun e => ?_⟩ <;> subst e
  · obtain ⟨v, hv, _, hk⟩ := h; exact ⟨v, hv, hk⟩
  · obtain ⟨v, hv, _, hk⟩ := h; exact ⟨v, hv, hk⟩
  · obtain ⟨obj, hv, hk⟩ := h; exact ⟨obj, hv, fun R => (hk R).2⟩
  · obtain ⟨α, hα, f, S', c1, c2, hv, hk⟩ := h
    exact ⟨α, hα, f, S', c1, c2 rfl, fun w hw => (hv w hw).mono fun v w' ⟨x, d1, d2, _, d3, d4⟩ => ⟨x, d1, d2 rfl, d3 (by decide), d4⟩, fun x => (hk x).2⟩
theorem nStep_back {k : Nat} {b : Act} {K' : Kl → Act → Prop} (hw : Region.wanted oj (yielded ops b.tmps) = true)
    (h : match k with
      | 0 => ∃ v, (∀ w, P0 w → Flt v w ((execOp b.eval oj).run P w)) ∧ K' S (b.put oj.dst v)
      | 1 => ∃ v, (∀ w, S.s w → Does P (fun u w' => u = v ∧ Below w.heap.size w w') ((execOp b.eval oj).run P w)) ∧ K' S (b.put oj.dst v)
      | 3 => ∃ obj : Obj, (∀ w, P0 w → (execOp b.eval oj).run P w = .ok (.value (mkV P (execOp b.eval oj) w.heap.size)) (w.alloc obj)) ∧ ∀ R, K' (S.new base R obj) (b.put oj.dst (mkV P (execOp b.eval oj) R))
      | k => ∃ (α : Type) (_ : Nonempty α) (f : α → Value) (S' : α → Kl), (∀ x, Gd P0 (S' x)) ∧ (k = 2 → ∀ x, (∀ w, (S' x).s w → S.s w) ∧ ∀ g, S.n g → (S' x).n g) ∧ (∀ w, S.s w → Does P (fun v w' => ∃ x, v = f x ∧ (k = 2 → Below w.heap.size w w') ∧ (k = 5 → FrN S.n w w') ∧ (k ≠ 4 → ∀ g, (S' x).n g → S.n g ∨ w.heap.size ≤ g) ∧ (S' x).s w') ((execOp b.eval oj).run P w)) ∧ ∀ x, K' (S' x) (b.put oj.dst (f x))) : nStep P P0 base ops k oj S b K' := by
  unfold nStep
  rw [if_pos hw]
  exact h
end
theorem nSwap {ki kj : Nat} {oi oj : Oper} {S : Kl} {a : Act} {K : Kl → Act → Prop} {w0 : World} (hw0 : P0 w0) (hap : oj.apart ops oi = true) (hsi : ∀ cs b, oi.op ≠ .select cs b) (hsj : ∀ cs b, oj.op ≠ .select cs b) (hok : okPair kj ki = true) (hS : Gd P0 S)
    (h : nStep P P0 base ops kj oj S a (fun S' a' => nStep P P0 base ops ki oi S' a' K)) : nStep P P0 base ops ki oi S a (fun S' a' => nStep P P0 base ops kj oj S' a' K) := by
  have hap' := apart_symm hap
  have wj : ∀ x, Region.wanted oj (yielded ops (a.put oi.dst x).tmps) = Region.wanted oj (yielded ops a.tmps) := fun x => want_swap hap' x
  have ej : ∀ x, execOp (a.put oi.dst x).eval oj = execOp a.eval oj := fun x => exec_swap hsj hap' x
  have wi : ∀ x, Region.wanted oi (yielded ops (a.put oj.dst x).tmps) = Region.wanted oi (yielded ops a.tmps) := fun x => want_swap hap x
  have hcm : ∀ u v, (a.put oj.dst u).put oi.dst v = (a.put oi.dst v).put oj.dst u := fun u v => Act.put_comm a u v (Oper.apart_spec hap).2.1
  by_cases hwj : Region.wanted oj (yielded ops a.tmps) = true
  case neg =>
    unfold nStep at h
    rw [if_neg hwj] at h
    refine nStep.mono hS (fun S' a' _ hk => ?_) (nStep_put hap hsi h)
    obtain ⟨⟨x, rfl⟩, hk⟩ := hk
    unfold nStep
    rw [wj, if_neg hwj]
    exact hk
  by_cases hwi : Region.wanted oi (yielded ops a.tmps) = true
  case neg =>
    have e : ∀ (S' : Kl) x, nStep P P0 base ops ki oi S' (a.put oj.dst x) K → K S' ((a.put oi.dst undef).put oj.dst x) := fun S' x h => by
      unfold nStep at h
      rw [wi, if_neg hwi, hcm] at h
      exact h
    unfold nStep at h ⊢
    rw [if_pos hwj] at h
    rw [if_neg hwi]
    refine nStep_back (by rw [wj]; exact hwj) ?_
    simp only [ej]
    split
    · obtain ⟨v, h1, h2⟩ := h; exact ⟨v, h1, e _ _ h2⟩
    · obtain ⟨v, h1, h2⟩ := h; exact ⟨v, h1, e _ _ h2⟩
    · obtain ⟨obj, h1, h2⟩ := h; exact ⟨obj, h1, fun R => e _ _ (h2 R)⟩
    · rename_i k0 k1 k3
      split at h
      · exact absurd rfl k0
      · exact absurd rfl k1
      · exact absurd rfl k3
      · obtain ⟨α, hα, f, S', c1, c2, h1, h2⟩ := h; exact ⟨α, hα, f, S', c1, c2, h1, fun x => e _ _ (h2 x)⟩
  have hat := fun (S' : Kl) x (h : nStep P P0 base ops ki oi S' (a.put oj.dst x) K) => nStep_at hap hsi hwi h
  have back : ∀ (S' : Kl) v {K' : Kl → Act → Prop}, _ → nStep P P0 base ops kj oj S' (a.put oi.dst v) K' := fun S' v {K'} => nStep_back (P := P) (P0 := P0) (base := base) (ops := ops) (S := S') (k := kj) (b := a.put oi.dst v) (K' := K') (by rw [wj]; exact hwj)
  have fwd : ∀ {K' : Kl → Act → Prop}, _ → nStep P P0 base ops ki oi S a K' := fun {K'} => nStep_back (P := P) (P0 := P0) (base := base) (ops := ops) (S := S) (k := ki) (b := a) (K' := K') hwi
  -- the first yields its value in every world
  by_cases hj0 : kj = 0
  · subst hj0
    unfold nStep at h
    rw [if_pos hwj] at h
    obtain ⟨v, h1, h2⟩ := h
    refine nStep.mono hS (fun S' a' _ hk => ?_) (nStep_put hap hsi h2)
    obtain ⟨⟨x, rfl⟩, hk⟩ := hk
    exact back S' x ⟨v, by rw [ej]; exact h1, hk⟩
  by_cases hi0 : ki = 0
  · -- the one that is pulled yields its value in every world
    subst hi0
    have key : ∃ v, (∀ w, P0 w → Flt v w ((execOp a.eval oi).run P w)) ∧ nStep P P0 base ops kj oj S (a.put oi.dst v) K := by
      unfold nStep at h
      rw [if_pos hwj] at h
      split at h
      · exact absurd rfl hj0
      · obtain ⟨v, h1, h2⟩ := h
        obtain ⟨u, h3, h4⟩ := (hat _ _ h2).1 rfl
        exact ⟨u, h3, back S u ⟨v, by rw [ej]; exact h1, h4⟩⟩
      · obtain ⟨obj, h1, h2⟩ := h
        obtain ⟨u, h3, _⟩ := (hat _ _ (h2 0)).1 rfl
        refine ⟨u, h3, back S u ⟨obj, by rw [ej]; exact h1, fun R => ?_⟩⟩
        obtain ⟨u', h3', h4⟩ := (hat _ _ (h2 R)).1 rfl
        rw [Flt.uniq (h3 w0 hw0) (h3' w0 hw0), ej]
        exact h4
      · rename_i k0 k1 k3
        obtain ⟨α, hα, f, S', c1, c2, h1, h2⟩ := h
        obtain ⟨u, h3, _⟩ := (hat _ _ (h2 (Classical.choice hα))).1 rfl
        refine ⟨u, h3, back S u ?_⟩
        split
        · exact absurd rfl k0
        · exact absurd rfl k1
        · exact absurd rfl k3
        · refine ⟨α, hα, f, S', c1, c2, by rw [ej]; exact h1, fun x => ?_⟩
          obtain ⟨u', h3', h4⟩ := (hat _ _ (h2 x)).1 rfl
          rw [Flt.uniq (h3 w0 hw0) (h3' w0 hw0)]
          exact h4
    obtain ⟨v, h1, h2⟩ := key
    exact fwd ⟨v, h1, h2⟩
  by_cases hi1 : ki = 1
  · -- both of the second kind
    subst hi1
    have hj : kj = 1 := by rcases kj with _ | _ | _ | _ | _ | _ | kj <;> first | rfl | exact absurd rfl hj0 | cases hok
    subst hj
    unfold nStep at h
    rw [if_pos hwj] at h
    obtain ⟨v, h1, h2⟩ := h
    obtain ⟨u, h3, h4⟩ := (hat _ _ h2).2.1 rfl
    exact fwd ⟨u, h3, back S u ⟨v, by rw [ej]; exact h1, h4⟩⟩
  by_cases hi2 : ki = 2
  · -- a call that leaves facts is pulled before a read of elder ones
    subst hi2
    have hj : kj = 1 := by rcases kj with _ | _ | _ | _ | _ | _ | kj <;> first | rfl | exact absurd rfl hj0 | cases hok
    subst hj
    unfold nStep at h
    rw [if_pos hwj] at h
    obtain ⟨v, h1, h2⟩ := h
    obtain ⟨α, hα, f, S', c1, c2, h3, h4⟩ := (hat _ _ h2).2.2.2 rfl
    refine fwd ⟨α, hα, f, S', c1, fun _ => c2, fun w hw => (h3 w hw).mono fun v w' ⟨x, d1, d2, d3, d4⟩ => ⟨x, d1, fun _ => d2, fun h => absurd h (by omega), fun _ => d3, d4⟩, fun x => ?_⟩
    exact back (S' x) (f x) ⟨v, fun w hw => by rw [ej]; exact h1 w ((c2 x).1 w hw), h4 x⟩
  -- a new block is pulled
  have hi : ki = 3 := by rcases kj with _ | _ | _ | _ | _ | _ | kj <;> rcases ki with _ | _ | _ | _ | ki <;> first | rfl | exact absurd rfl hi0 | exact absurd rfl hi1 | exact absurd rfl hi2 | exact absurd rfl hj0 | cases hok
  subst hi
  unfold nStep at h
  rw [if_pos hwj] at h
  split at h
  · exact absurd rfl hj0
  · obtain ⟨v, h1, h2⟩ := h
    obtain ⟨obj, h3, h4⟩ := (hat _ _ h2).2.2.1 rfl
    exact fwd ⟨obj, h3, fun R => back _ _ ⟨v, fun w hw => by rw [ej]; exact h1 w hw.1, h4 R⟩⟩
  · obtain ⟨objj, h1, h2⟩ := h
    obtain ⟨obj, h3, _⟩ := (hat _ _ (h2 0)).2.2.1 rfl
    refine fwd ⟨obj, h3, fun R => back _ _ ⟨objj, by rw [ej]; exact h1, fun R' => ?_⟩⟩
    obtain ⟨obj', h3', h4⟩ := (hat _ _ (h2 R')).2.2.1 rfl
    obtain rfl := obj_uniq ((h3 w0 hw0).symm.trans (h3' w0 hw0))
    rw [Kl.new_comm, ej]
    exact h4 R
  · rename_i k0 k1 k3
    have hk : kj = 2 ∨ kj = 5 := by rcases kj with _ | _ | _ | _ | _ | _ | kj <;> first | exact .inl rfl | exact .inr rfl | exact absurd rfl hj0 | exact absurd rfl k1 | exact absurd rfl k3 | cases hok
    obtain ⟨α, hα, f, S', c1, c2, h1, h2⟩ := h
    obtain ⟨obj, h3, _⟩ := (hat _ _ (h2 (Classical.choice hα))).2.2.1 rfl
    refine fwd ⟨obj, h3, fun R => back _ _ ?_⟩
    split
    · exact absurd rfl k0
    · exact absurd rfl k1
    · exact absurd rfl k3
    · refine ⟨α, hα, f, fun x => (S' x).new base R obj, fun x => (c1 x).new R obj, fun e x => ⟨fun w hw => ⟨(c2 e x).1 w hw.1, hw.2.1, fun h => hw.2.2 ((c2 e x).2 R h)⟩, fun g hg => hg.imp ((c2 e x).2 g) id⟩, fun w hw => ?_, fun x => ?_⟩
      · rw [ej]
        refine (h1 w hw.1).mono fun u w' ⟨x, d1, d2, d3, d4, d6⟩ => ⟨x, d1, d2, fun e R' hR' hn => d3 e R' hR' fun h => hn (.inl h), fun hk4 g hg => ?_, d6, ⟨hw.2.1.1, ?_⟩, fun hR => ?_⟩
        · rcases hg with hg | hg
          · exact (d4 hk4 g hg).imp .inl id
          · exact .inl (.inr hg)
        · rcases hk with hk | hk
          · exact ((d2 hk).block _ hw.2.1.ltS).trans hw.2.1.2
          · exact (d3 hk R hw.2.1.ltS hw.2.2).trans hw.2.1.2
        · rcases d4 (by rcases hk with e | e <;> omega) R hR with h | h
          · exact hw.2.2 h
          · exact absurd hw.2.1.ltS (Nat.not_lt.2 h)
      · obtain ⟨obj', h3', h4⟩ := (hat _ _ (h2 x)).2.2.1 rfl
        obtain rfl := obj_uniq ((h3 w0 hw0).symm.trans (h3' w0 hw0))
        exact h4 R
def wpN (P : Program) (P0 : World → Prop) (base : Nat) (ops : Array Oper) (kd : Nat → Nat) (Q : Act → World → Prop) : List Nat → Kl → Act → Prop
  | [], S, a => ∀ w, S.s w → Q a w
  | i :: l, S, a => match ops[i]? with
    | none => False
    | some o => nStep P P0 base ops (kd i) o S a (wpN P P0 base ops kd Q l)
theorem nPull {kd : Nat → Nat} {Q : Act → World → Prop} {w0 : World} (hw0 : P0 w0) (hsel : ∀ (j : Nat) (o : Oper) cs b, ops[j]? = some o → o.op ≠ .select cs b) {i : Nat} {oi : Oper} (hi : ops[i]? = some oi) : ∀ (l : List Nat) (S : Kl) (a : Act), l.Pairwise (· < ·) → i ∈ l →
    (∀ j ∈ l, j < i → ∀ oj, ops[j]? = some oj → oj.apart ops oi = true ∧ okPair (kd j) (kd i) = true) → Gd P0 S → wpN P P0 base ops kd Q l S a → nStep P P0 base ops (kd i) oi S a (wpN P P0 base ops kd Q (l.erase i))
  | [], _, _, _, hm, _, _, _ => by cases hm
  | j :: l, S, a, hl, hm, hcl, hS, h => by
    by_cases hji : j = i
    · subst hji
      rw [List.erase_cons_head]
      unfold wpN at h
      rw [hi] at h
      exact h
    · have hm' : i ∈ l := by
        rcases List.mem_cons.1 hm with e | e
        · exact absurd e.symm hji
        · exact e
      rw [List.pairwise_cons] at hl
      have hlt := hl.1 i hm'
      rw [List.erase_cons_tail (by simpa using hji)]
      unfold wpN at h
      cases hj : ops[j]? with
      | none => rw [hj] at h; exact h.elim
      | some oj =>
        rw [hj] at h
        obtain ⟨hap, hok⟩ := hcl j (List.mem_cons_self ..) hlt oj hj
        have h1 := nStep.mono hS (fun S' a' hS' hk => nPull hw0 hsel hi l S' a' hl.2 hm' (fun k hk' => hcl k (List.mem_cons_of_mem _ hk')) hS' hk) h
        have h2 := nSwap hw0 hap (fun cs b => hsel i oi cs b hi) (fun cs b => hsel j oj cs b hj) hok hS h1
        refine nStep.mono hS (fun S' a' _ hk => ?_) h2
        unfold wpN
        rw [hj]
        exact hk
theorem nStep.wp {k : Nat} {o : Oper} {S : Kl} {a : Act} {K : Kl → Act → Prop} {K' : Act → World → Prop} {Q' : Exit → Act → World → Prop} {w : World} (hbase : ∀ w, P0 w → base ≤ w.heap.size) (hS : Gd P0 S) (hw : S.s w)
    (h : ∀ S' a' w', Gd P0 S' → S'.s w' → K S' a' → K' a' w') (hs : nStep P P0 base ops k o S a K) :
    if Region.wanted o (yielded ops a.tmps) = true then o.wp P a w K' Q' ∨ (o.asks P a w ∧ LetsOut Q') else K' (a.put o.dst undef) w := by
  unfold nStep at hs
  split
  · rename_i hg
    rw [if_pos hg] at hs
    refine .inl ?_
    unfold Oper.wp
    split at hs
    · obtain ⟨v, h1, h2⟩ := hs
      exact Does.upon (R := fun u w' => u = v ∧ w' = w) (fun u w' ⟨e1, e2⟩ => by subst e1; subst e2; exact h _ _ _ hS hw h2) (Flt.does ⟨rfl, rfl⟩ (h1 w (hS.p w hw)))
    · obtain ⟨v, h1, h2⟩ := hs
      exact Does.upon (fun u w' ⟨e1, e2⟩ => by subst e1; exact h _ _ _ hS (hS.cl _ _ hw e2) h2) (h1 w hw)
    · obtain ⟨obj, h1, h2⟩ := hs
      rw [h1 w (hS.p w hw)]
      exact h _ _ _ (hS.new _ obj) ⟨hS.cl w _ hw ((Below.refl _ _).alloc (Nat.le_refl _) _), ⟨hbase w (hS.p w hw), heap_new w obj⟩, fun hn => Nat.lt_irrefl _ (hS.k w hw _ hn)⟩ (h2 w.heap.size)
    · obtain ⟨α, _, f, S', c1, c2, h1, h2⟩ := hs
      exact Does.upon (fun u w' ⟨x, hx, _, _, _, hu⟩ => by subst hx; exact h _ _ _ (c1 x) hu (h2 x)) (h1 w hw)
  · rename_i hg
    rw [if_neg hg] at hs
    exact h _ _ _ hS hw hs
theorem wpAny_of_N {kd : Nat → Nat} {ks : List Nat} (hkd : ∀ i, kd i = ks.getD i 0) {Q : Act → World → Prop} {Q' : Exit → Act → World → Prop} (hQ : ∀ a w, Q a w → Q' .normal a w) {w0 : World} (hw0 : P0 w0) (hbase : ∀ w, P0 w → base ≤ w.heap.size) (hsel : ∀ (j : Nat) (o : Oper) cs b, ops[j]? = some o → o.op ≠ .select cs b) (hB : floatB md ops ks = true) :
    ∀ (fuel : Nat) (listed : Array Bool) (l : List Nat) (S : Kl) (a : Act) (w : World), (∀ i, i ∈ l ↔ i < ops.size ∧ listed.getD i true = false) → l.Pairwise (· < ·) → listed.size = ops.size → Closed md ops listed → Gd P0 S → S.s w → wpN P P0 base ops kd Q l S a → l.length ≤ fuel → wpAny P md ops Q' fuel listed a w
  | 0, listed, l, S, a, w, hm, _, _, _, _, hw, h, hf => by
    obtain rfl : l = [] := List.eq_nil_of_length_eq_zero (by omega)
    refine ⟨?_, hQ _ _ (h w hw)⟩
    refine List.eq_nil_iff_forall_not_mem.2 fun j hj => ?_
    obtain ⟨h1, o, ho, _⟩ := mem_ready.1 hj
    exact absurd ((hm j).2 ⟨(Array.getElem?_eq_some_iff.1 ho).1, h1⟩) List.not_mem_nil
  | fuel + 1, listed, l, S, a, w, hm, hpw, hsz, hcl, hS, hw, h, hf => by
    refine ⟨fun h0 => ?_, fun i hi => ?_⟩
    · cases l with
      | nil => exact hQ _ _ (h w hw)
      | cons j l =>
        exfalso
        obtain ⟨hj1, hj2⟩ := (hm j).1 (List.mem_cons_self ..)
        have hoj : ops[j]? = some ops[j] := Array.getElem?_eq_getElem hj1
        have hr : j ∈ Region.ready md ops listed := mem_ready.2 ⟨hj2, _, hoj, fun e he hb => by
          have hlt := (floatB_spec hB hoj).1 e he hb
          cases hv : listed.getD e.on false with
          | true => rfl
          | false =>
            exfalso
            have hes : e.on < listed.size := by omega
            have h3 : listed.getD e.on true = false := by
              rw [Array.getD_eq_getD_getElem?, Array.getElem?_eq_getElem hes] at hv ⊢
              simpa using hv
            have h4 := (hm e.on).2 ⟨by omega, h3⟩
            rw [List.pairwise_cons] at hpw
            rcases List.mem_cons.1 h4 with h5 | h5
            · omega
            · have := hpw.1 _ h5; omega⟩
        rw [h0] at hr
        cases hr
    · obtain ⟨hun, oi, ho, _⟩ := mem_ready.1 hi
      have hil : i ∈ l := (hm i).2 ⟨(Array.getElem?_eq_some_iff.1 ho).1, hun⟩
      have hpl := nPull (kd := kd) hw0 hsel ho l S a hpw hil (fun j hj hlt oj hoj => by
        rcases (floatB_spec hB ho).2 j oj hlt hoj with h1 | h1
        · have h2 := h1 listed hcl hi
          have h3 := ((hm j).1 hj).2
          have hjs : j < listed.size := by rw [hsz]; exact ((hm j).1 hj).1
          rw [Array.getD_eq_getD_getElem?, Array.getElem?_eq_getElem hjs] at h2 h3
          simp only [Option.getD_some] at h2 h3
          rw [h2] at h3; cases h3
        · rw [hkd, hkd]; exact ⟨h1.2, h1.1⟩) hS h
      unfold wpOp
      rw [ho]
      refine nStep.wp hbase hS hw (fun S' a' w' hS' hw' hk => ?_) hpl
      refine wpAny_of_N hkd hQ hw0 hbase hsel hB fuel _ (l.erase i) S' a' w' (fun k => ?_) (hpw.sublist List.erase_sublist) (by rw [Array.size_setIfInBounds]; exact hsz) (hcl.set hi) hS' hw' hk (by rw [List.length_erase_of_mem hil]; omega)
      have hnd : l.Nodup := hpw.imp (fun h => Nat.ne_of_lt h)
      rw [hnd.mem_erase_iff, hm k]
      by_cases hki : i = k
      · subst hki
        have his : i < listed.size := by rw [hsz]; exact (Array.getElem?_eq_some_iff.1 ho).1
        simp [his]
      · rw [getD_set_ne true hki]
        exact ⟨fun h => h.2, fun h => ⟨fun e => hki e.symm, h⟩⟩
def wpX (P : Program) (P0 : World → Prop) (base : Nat) (ops : Array Oper) (Q : Act → World → Prop) : List Nat → List Oper → Kl → Act → Prop
  | _, [], S, a => ∀ w, S.s w → Q a w
  | [], _ :: _, _, _ => False
  | k :: ks, o :: rest, S, a => nStep P P0 base ops k o S a (wpX P P0 base ops Q ks rest)
theorem wpX_to_N {Q : Act → World → Prop} {kd : Nat → Nat} {ks0 : List Nat} (hkd : ∀ i, kd i = ks0.getD i 0) (hlen : ops.size ≤ ks0.length) : ∀ (l : List Oper) (k : Nat) (S : Kl) (a : Act), Gd P0 S → (∀ j, l[j]? = ops[k + j]?) → wpX P P0 base ops Q (ks0.drop k) l S a → wpN P P0 base ops kd Q (List.range' k l.length) S a
  | [], k, S, a, _, _, h => by cases hk : ks0.drop k <;> (rw [hk] at h; exact h)
  | o :: l, k, S, a, hS, hl, h => by
    have h0 : ops[k]? = some o := by simpa using (hl 0).symm
    have hks : k < ks0.length := Nat.lt_of_lt_of_le (Array.getElem?_eq_some_iff.1 h0).1 hlen
    have hdrop : ks0.drop k = ks0.getD k 0 :: ks0.drop (k + 1) := by
      rw [List.drop_eq_getElem_cons hks]
      simp [hks]
    rw [hdrop] at h
    rw [List.length_cons, List.range'_succ]
    unfold wpN
    rw [h0]
    dsimp only
    rw [hkd]
    exact nStep.mono hS (fun S' a' hS' h' => wpX_to_N hkd hlen l (k + 1) S' a' hS' (fun j => by have := hl (j + 1); simpa [Nat.add_assoc, Nat.add_comm 1 j] using this) h') h
theorem wp_region_X {id : Nat} {Q : Exit → Act → World → Prop} {a : Act} {w : World} {l : List Oper} (P0 : World → Prop) (base : Nat) (S : Kl) (ks : List Nat) (hm : P.follows .mixedOrders = true)
    (hn : Region.noSelect l.toArray = true) (hlen : (l.length == ks.length) = true) (hst : floatB .any l.toArray ks = true) (hB : ∀ w, P0 w → base ≤ w.heap.size) (hS : Gd P0 S) (hw : S.s w.drew) (h : wpX P P0 base l.toArray (fun a w => Q .normal a w) ks l S a) :
    (Code.region id l.toArray true).wp P Q a w := by
  have hlen' : l.length = ks.length := by simpa using hlen
  refine wp_region_any hm ?_
  refine wpAny_of_N (P0 := P0) (base := base) (kd := fun i => ks.getD i 0) (ks := ks) (fun _ => rfl) (Q := fun a w => Q .normal a w) (fun _ _ h => h) (hS.p _ hw) hB (Region.noSelect_spec hn) hst _ _ (List.range' 0 l.length) S a _ (fun i => ?_) List.pairwise_lt_range' (by simp) (fun j o hj ht => ?_) hS hw
    (wpX_to_N (ops := l.toArray) (ks0 := ks) (fun _ => rfl) (by simp [hlen']) l 0 S a hS (by simp) (by simpa using h)) (by simp)
  · rw [List.mem_range'_1]
    constructor
    · intro hi
      have hlt : i < l.length := by omega
      simp [hlt]
    · intro hi
      have := hi.1
      simp at this
      omega
  · have hlt : j < l.toArray.size := (Array.getElem?_eq_some_iff.1 hj).1
    simp at hlt
    simp [hlt] at ht
theorem wpList_of_X {Q' : Exit → Act → World → Prop} (hB : ∀ w, P0 w → base ≤ w.heap.size) : ∀ (ks : List Nat) (l : List Oper) (S : Kl) (a : Act) (w : World), Gd P0 S → S.s w →
    wpX P P0 base ops (fun a w => Q' .normal a w) ks l S a → wpList P ops Q' l a w
  | [], [], _, _, _, _, hw, h => h _ hw
  | _ :: _, [], _, _, _, _, hw, h => h _ hw
  | [], _ :: _, _, _, _, _, _, h => False.elim h
  | _ :: ks, _ :: rest, _, _, _, hS, hw, h => nStep.wp hB hS hw (fun S' a' w' hS' hw' hk => wpList_of_X hB ks rest S' a' w' hS' hw' hk) h
end
end Go.Proofs.Ytokhapaffleffaa
namespace Go.Proofs.Ytokhapaffleffaa
open Go.RowKit
structure Ft where
  own : Nat → Prop
  ln : List Nat
  F : World → Prop
  lt : ∀ {w g}, F w → own g → g < w.heap.size
  bel : ∀ {w w'}, F w → Below w.heap.size w w' → F w'
  spa : ∀ {w R}, F w → ¬ own R → NoHd ln R w → Spares R w F
def Own (l : List Ft) (g : Nat) : Prop := ∃ f ∈ l, f.own g
structure SS (V : World) (l : List Ft) (w : World) : Prop where
  old : Below V.heap.size V w
  has : ∀ f ∈ l, f.F w
  lo : ∀ f ∈ l, ∀ g, f.own g → V.heap.size ≤ g
  ap : l.Pairwise fun f f' => ∀ g, f.own g → ¬ f'.own g
section
variable {V w w' : World} {l l' : List Ft} {f f' : Ft} {R n i : Nat}
theorem SS.get (h : SS V l w) (hm : f ∈ l) : f.F w := h.has f hm
theorem SS.start (V : World) : SS V [] V := ⟨Below.refl _ _, fun _ h => absurd h List.not_mem_nil, fun _ h => absurd h List.not_mem_nil, .nil⟩
theorem SS.step (h : SS V l w) (hb : Below w.heap.size w w') : SS V l w' := ⟨h.old.trans (hb.mono h.old.size), fun f hf => f.bel (h.has f hf) hb, h.lo, h.ap⟩
theorem SS.subl (h : SS V l w) (hs : l'.Sublist l) : SS V l' w := ⟨h.old, fun f hf => h.has f (hs.subset hf), fun f hf => h.lo f (hs.subset hf), h.ap.sublist hs⟩
theorem SS.perm (h : SS V l w) (hp : l.Perm l') : SS V l' w :=
  ⟨h.old, fun f hf => h.has f (hp.mem_iff.2 hf), fun f hf => h.lo f (hp.mem_iff.2 hf), (hp.pairwise_iff fun h g h1 h2 => h g h2 h1).1 h.ap⟩
theorem SS.more (h : SS V l w) (h' : SS w l' w') : SS V (l' ++ l) w' :=
  ⟨h.old.trans (h'.old.mono h.old.size), fun f hf => (List.mem_append.1 hf).elim (h'.has f) fun hf => f.bel (h.has f hf) h'.old, fun f hf g hg => (List.mem_append.1 hf).elim (fun hf => Nat.le_trans h.old.size (h'.lo f hf g hg)) fun hf => h.lo f hf g hg,
    List.pairwise_append.2 ⟨h'.ap, h.ap, fun f hf f' hf' g h1 h2 => absurd (f'.lt (h.has f' hf') h2) (Nat.not_lt.2 (h'.lo f hf g h1))⟩⟩
theorem SS.one (h : SS V l w) (hf : f.F w) (hl : ∀ g, f.own g → V.heap.size ≤ g) (ha : ∀ f' ∈ l, ∀ g, f.own g → ¬ f'.own g) : SS V (f :: l) w :=
  ⟨h.old, fun _f' hf' => (List.mem_cons.1 hf').elim (fun e => e ▸ hf) (h.has _), fun _f' hf' => (List.mem_cons.1 hf').elim (fun e => e ▸ hl) (h.lo _), .cons ha h.ap⟩
theorem SS.fact (h : SS V l w) (f : Ft) (hf : f.F w) (h0 : ∀ g, ¬ f.own g := by exact fun _ h => h) : SS V (f :: l) w := h.one hf (fun g hg => absurd hg (h0 g)) fun _ _ g hg => absurd hg (h0 g)
theorem SS.lt (h : SS V l w) {g : Nat} (hg : Own l g) : g < w.heap.size := by
  obtain ⟨f, hf, hg⟩ := hg
  exact f.lt (h.has f hf) hg
theorem SS.drew (h : SS V l w) : SS V l w.drew := h.step (Below.refl _ _).drew
theorem SS.nil (h : SS V l w) : SS V [] w := h.subl (List.nil_sublist _)
def Qt (b : Option Nat) (w : World) (i : Nat) (l : List Ft) : Prop := ∀ R, b = some R → ∀ j f, j ≠ i → l[j]? = some f → NoHd f.ln R w
def OkA (n : Nat) : List Ft → Prop
  | [] => True
  | f :: l => f.ln.contains n = false ∧ OkA n l
def OkL (n : Nat) : Nat → List Ft → Prop
  | _, [] => True
  | 0, _ :: l => OkA n l
  | i + 1, f :: l => f.ln.contains n = false ∧ OkL n i l
def OzA : List Ft → Prop
  | [] => True
  | f :: l => f.ln = [] ∧ OzA l
def OzL : Nat → List Ft → Prop
  | _, [] => True
  | 0, _ :: l => OzA l
  | i + 1, f :: l => f.ln = [] ∧ OzL i l
theorem OkA.at : ∀ {l : List Ft} {j : Nat} {f : Ft}, OkA n l → l[j]? = some f → f.ln.contains n = false
  | [], _, _, _, h => by simp at h
  | _ :: _, 0, _, hk, h => by simp at h; subst h; exact hk.1
  | _ :: l, j + 1, _, hk, h => OkA.at (l := l) hk.2 (by simpa using h)
theorem OkL.at : ∀ {l : List Ft} {i j : Nat} {f : Ft}, OkL n i l → j ≠ i → l[j]? = some f → f.ln.contains n = false
  | [], _, _, _, _, _, h => by simp at h
  | _ :: _, 0, 0, _, _, hne, _ => absurd rfl hne
  | _ :: _, 0, j + 1, _, hk, _, h => OkA.at hk (by simpa using h)
  | _ :: _, i + 1, 0, _, hk, _, h => by simp at h; subst h; exact hk.1
  | _ :: l, i + 1, j + 1, _, hk, hne, h => OkL.at (l := l) hk.2 (fun e => hne (congrArg (· + 1) e)) (by simpa using h)
theorem OzA.at : ∀ {l : List Ft} {j : Nat} {f : Ft}, OzA l → l[j]? = some f → f.ln = []
  | [], _, _, _, h => by simp at h
  | _ :: _, 0, _, hk, h => by simp at h; subst h; exact hk.1
  | _ :: l, j + 1, _, hk, h => OzA.at (l := l) hk.2 (by simpa using h)
theorem OzL.at : ∀ {l : List Ft} {i j : Nat} {f : Ft}, OzL i l → j ≠ i → l[j]? = some f → f.ln = []
  | [], _, _, _, _, _, h => by simp at h
  | _ :: _, 0, 0, _, _, hne, _ => absurd rfl hne
  | _ :: _, 0, j + 1, _, hk, _, h => OzA.at hk (by simpa using h)
  | _ :: _, i + 1, 0, _, hk, _, h => by simp at h; subst h; exact hk.1
  | _ :: l, i + 1, j + 1, _, hk, hne, h => OzL.at (l := l) hk.2 (fun e => hne (congrArg (· + 1) e)) (by simpa using h)
theorem qtN {b : Option Nat} (hn : ∀ R, b = some R → HdIs R n w) (h : OkL n i l) : Qt b w i l := fun R e _ _ hne hj => (hn R e).no (h.at hne hj)
theorem qtZ {b : Option Nat} (h : OzL i l) : Qt b w i l := fun R _ _ _ hne hj => by rw [h.at hne hj]; exact fun _ _ => rfl
theorem SS.turn {b : Option Nat} (h : SS V l w) (hi : l[i]? = some f) (hg : w.grownBy w' b) (hb : ∀ R, b = some R → f.own R) (hq : Qt b w i l) (hf : f'.F w') (ho : ∀ g, f'.own g → f.own g ∨ w.heap.size ≤ g) : SS V (l.set i f') w' := by
  have hm := List.mem_of_getElem? hi
  have hil := (List.getElem?_eq_some_iff.1 hi).1
  have hall : ∀ j f1, j ≠ i → l[j]? = some f1 → f1.F w' := fun j f1 hne hj => by
    have h1 := h.has f1 (List.mem_of_getElem? hj)
    cases hbb : b with
    | none => exact f1.bel h1 ⟨hg.os, hg.tape, hg.output, hg.size, fun k hk => hg.block k hk (by rw [hbb]; simp)⟩
    | some R =>
      refine f1.spa h1 (fun hR => ?_) (hq R hbb j f1 hne hj) w' hg.size (fun k hk hlt => hg.block k hlt (by rw [hbb]; simpa using hk)) w' (Below.refl _ _)
      have hfR := hb R hbb
      have hjl := (List.getElem?_eq_some_iff.1 hj).1
      have e1 : l[j] = f1 := (List.getElem?_eq_some_iff.1 hj).2
      have e2 : l[i] = f := (List.getElem?_eq_some_iff.1 hi).2
      rcases Nat.lt_or_gt_of_ne hne with hlt | hlt
      · exact List.pairwise_iff_getElem.1 h.ap j i hjl hil hlt R (by rw [e1]; exact hR) (by rw [e2]; exact hfR)
      · exact List.pairwise_iff_getElem.1 h.ap i j hil hjl hlt R (by rw [e2]; exact hfR) (by rw [e1]; exact hR)
  have hcase : ∀ f1 ∈ l.set i f', f1 = f' ∨ ∃ j, j ≠ i ∧ l[j]? = some f1 := fun f1 hf1 => by
    obtain ⟨j, hj⟩ := List.mem_iff_getElem?.1 hf1
    rw [List.getElem?_set] at hj
    by_cases e : i = j
    · rw [if_pos e, if_pos hil] at hj; exact .inl (Option.some.inj hj).symm
    · rw [if_neg e] at hj; exact .inr ⟨j, Ne.symm e, hj⟩
  have hfl : ∀ g, f'.own g → V.heap.size ≤ g := fun g hgo => (ho g hgo).elim (h.lo f hm g) fun h2 => Nat.le_trans h.old.size h2
  refine ⟨h.old.trans ⟨hg.os, hg.tape, hg.output, hg.size, fun k hk => hg.block k (Nat.lt_of_lt_of_le hk h.old.size) fun e => absurd (h.lo f hm k (hb k e.symm)) (Nat.not_le.2 hk)⟩, fun f1 hf1 => ?_, fun f1 hf1 => ?_, ?_⟩
  · rcases hcase f1 hf1 with rfl | ⟨j, hne, hj⟩
    · exact hf
    · exact hall j f1 hne hj
  · rcases hcase f1 hf1 with rfl | ⟨j, hne, hj⟩
    · exact hfl
    · exact h.lo f1 (List.mem_of_getElem? hj)
  · refine List.pairwise_iff_getElem.2 fun j k hj hk hjk g h1 h2 => ?_
    rw [List.length_set] at hj hk
    have key : ∀ m (hm : m < l.length), m ≠ i → f'.own g → l[m].own g → False := fun m hm2 hne h3 h4 => by
      rcases ho g h3 with h5 | h5
      · have e2 : l[i] = f := (List.getElem?_eq_some_iff.1 hi).2
        rcases Nat.lt_or_gt_of_ne hne with hlt | hlt
        · exact List.pairwise_iff_getElem.1 h.ap m i hm2 hil hlt g h4 (by rw [e2]; exact h5)
        · exact List.pairwise_iff_getElem.1 h.ap i m hil hm2 hlt g (by rw [e2]; exact h5) h4
      · exact absurd (l[m].lt (h.has _ (List.getElem_mem hm2)) h4) (Nat.not_lt.2 h5)
    by_cases ej : i = j
    · subst ej
      simp only [List.getElem_set_self] at h1
      rw [List.getElem_set_ne (by omega)] at h2
      exact key k hk (by omega) h1 h2
    · rw [List.getElem_set_ne ej] at h1
      by_cases ek : i = k
      · subst ek
        simp only [List.getElem_set_self] at h2
        exact key j hj (by omega) h2 h1
      · rw [List.getElem_set_ne ek] at h2
        exact List.pairwise_iff_getElem.1 h.ap j k hj hk hjk g h1 h2
end
theorem put_grown {R : Nat} : ∀ (cs : List Value) (o : Nat) (w : World), w.grownBy (putAt R o cs w) (some R)
  | [], _, _ => ⟨rfl, rfl, rfl, Nat.le_refl _, fun _ _ _ => rfl⟩
  | c :: cs, o, w => by
    obtain ⟨h1, h2, h3, h4, h5⟩ := put_grown (R := R) cs (o + 1) (w.setCell ⟨R, o, none⟩ c)
    have hs : (w.setCell ⟨R, o, none⟩ c).heap.size = w.heap.size := by simp [World.setCell]
    exact ⟨h1, h2, h3, by rw [← hs]; exact h4, fun j hj hne => (h5 j (by rw [hs]; exact hj) hne).trans (setCell_far _ fun e => hne (by rw [e]))⟩
def bx (R : Nat) (obj : Obj) : Ft := ⟨fun g => g = R, [], Has 0 R obj, fun h e => e ▸ h.ltS, fun h hb => h.below hb, fun h hn _ => has_spare h fun e => hn e.symm⟩
def rO {α : Type} (K : EK α) [OwnK K] (t : TypeId) (p : Option Addr) (n c : Nat) (xs : List α) : Ft :=
  ⟨fun g => ob p = some g, K.S, fun w => OwV K t 0 w (.slice p n c) xs, fun h e => (h.block e).2, fun h hb => h.below hb, fun h hn hS => h.spare (by rw [ob_eq]; exact hn) (.inr hS)⟩
def pF (S : List Nat) (F : World → Prop) (h1 : ∀ {w w'}, F w → Below w.heap.size w w' → F w') (h2 : ∀ {w R}, F w → NoHd S R w → Spares R w F) : Ft := ⟨fun _ => False, S, F, fun _ h => h.elim, h1, fun h _ => h2 h⟩
def cF (p : Prop) : Ft := ⟨fun _ => False, [], fun _ => p, fun _ h => h.elim, fun h _ => h, fun h _ _ _ _ _ _ _ => h⟩
section
variable {α : Type} {K : EK α} {w : World} {t : TypeId} {p : Option Addr} {n c i b : Nat} {xs : List α}
theorem OwV.len (h : OwV K t b w (.slice p n c) xs) : n = xs.length := h.slv.one0
theorem SlV.pt (h : SlV K w (.slice p n c) xs) (hi : i < n) : ∃ g o, p = some ⟨g, o, none⟩ := by
  have hl := h.one0
  obtain ⟨g, o, e, _⟩ := h.ptr (List.getElem?_eq_getElem (show i < xs.length by omega))
  exact ⟨g, o, e⟩
theorem OwV.some_cell {g : Nat} (h : OwV K t b w (.slice (some ⟨g, 0, none⟩) n c) xs) (hi : i < xs.length) {j : Nat} (hj : j < K.sz) : ∃ u, w.cell? ⟨g, i * K.sz + j, none⟩ = some u := by
  obtain ⟨cs, h1, h2⟩ := h.slv.at (List.getElem?_eq_getElem hi)
  have hl := K.len h2
  refine ⟨cs[j]'(by omega), ?_⟩
  have := h1.2 j _ (List.getElem?_eq_getElem (by omega))
  rwa [Nat.zero_add] at this
end
section
variable {α : Type} {K : EK α} [OwnK K] {V w w' : World} {l : List Ft} {t : TypeId} {p : Option Addr} {n c i R b : Nat} {xs : List α} {obj : Obj} {v : Value}
theorem SS.own (h : SS V l w) (hm : rO K t p n c xs ∈ l) : OwV K t 0 w (.slice p n c) xs := h.get hm
theorem SS.box (h : SS V l w) (hm : bx R obj ∈ l) : Has 0 R obj w := h.get hm
theorem SS.slv (h : SS V l w) (hm : rO K t p n c xs ∈ l) : SlV K w (.slice p n c) xs := (h.own hm).slv
theorem SS.len (h : SS V l w) (hm : rO K t p n c xs ∈ l) : n = xs.length := (h.own hm).len
theorem SS.cap (h : SS V l w) (hm : rO K t p n c xs ∈ l) : xs.length ≤ c ∧ c ≤ 9223372036854775807 := (h.own hm).le
theorem SS.pt (h : SS V l w) (hm : rO K t p n c xs ∈ l) (hi : i < n) : ∃ g, p = some ⟨g, 0, none⟩ := by
  have hl := h.len hm
  obtain ⟨r, e, e1, h1 | ⟨g, e2, _⟩⟩ := (h.own hm).sh
  · rw [h1.1] at hl; subst hl; exact absurd hi (Nat.not_lt_zero _)
  · injection e1 with e1
    exact ⟨g, by rw [e1, e2]⟩
theorem SS.repl {f f' : Ft} (h : SS V (f :: l) w) (hf : f'.F w) (ho : ∀ g, f'.own g → f.own g) : SS V (f' :: l) w :=
  (h.subl (List.sublist_cons_self ..)).one hf (fun g hg => h.lo _ (List.mem_cons_self ..) g (ho g hg)) fun f1 h1 g hg => (List.pairwise_cons.1 h.ap).1 f1 h1 g (ho g hg)
theorem SS.cut {m : Nat} (h : SS V (rO K t p n c xs :: l) w) (hm : m ≤ xs.length) : SS V (rO K t p m c (xs.take m) :: l) w := h.repl ((h.own (List.mem_cons_self ..)).take hm) fun _ h => h
end
section
variable {w : World} {g o n c i : Nat} {t : TypeId} {b : Nat}
theorem SlV.cel {α : Type} {K : EK α} {f : α → List Value} (hf : ∀ {w cs x}, K.R w cs x → cs = f x) {xs : List α} {x : α} (h : SlV K w (.slice (some ⟨g, o, none⟩) n c) xs) (hx : xs[i]? = some x) (j : Nat) {u : Value} (hu : (f x)[j]? = some u) : w.cell? ⟨g, o + i * K.sz + j, none⟩ = some u := by
  obtain ⟨cs, h1, h2⟩ := h.at hx
  have h3 := hf h2
  subst h3
  exact h1.2 j u hu
theorem SlV.int {xs : List Int} {x : Int} (h : SlV intK w (.slice (some ⟨g, o, none⟩) n c) xs) (hx : xs[i]? = some x) : w.cell? ⟨g, o + i, none⟩ = some (.int .i64 x) := by
  have h1 := h.cel (f := fun x => [.int .i64 x]) (fun e => e) hx 0 rfl
  rwa [show o + i * intK.sz + 0 = o + i from by show o + i * 1 + 0 = _; omega] at h1
theorem OwV.int {xs : List Int} {x : Int} (h : OwV intK t b w (.slice (some ⟨g, 0, none⟩) n c) xs) (hx : xs[i]? = some x) : w.cell? ⟨g, i, none⟩ = some (.int .i64 x) := by
  have h1 := h.slv.int hx
  rwa [Nat.zero_add] at h1
end
section
variable {P : Program} {V : World} {ops : Array Oper} {Q : Act → World → Prop} {f0 fs fs' : List Ft} {k : Nat} {ks : List Nat} {o : Oper} {rest : List Oper} {a a' : Act} {v : Value}
theorem gdS (hs : f0.Sublist fs) : Gd (SS V f0) ⟨Own fs, SS V fs⟩ := ⟨fun _ _ h hb => SS.step h hb, fun _ h => SS.subl h hs, fun _ h _ hg => SS.lt h hg⟩
structure Sx (P : Program) (V : World) (ops : Array Oper) (Q : Act → World → Prop) (f0 : List Ft) (ks : List Nat) (l : List Oper) (fs : List Ft) (a : Act) : Prop where
  out : f0.Sublist fs → wpX P (SS V f0) V.heap.size ops Q ks l ⟨Own fs, SS V fs⟩ a
theorem wp_region_S {id : Nat} {Q : Exit → Act → World → Prop} {w : World} {l : List Oper} (f0 : List Ft) (ks : List Nat) (hK : SS V fs w) (h : Sx P V l.toArray (fun a w => Q .normal a w) f0 ks l fs a) (hs : f0.Sublist fs) (hm : P.follows .mixedOrders = true := by kernel_rfl)
    (hn : Region.noSelect l.toArray = true := by kernel_rfl) (hlen : (l.length == ks.length) = true := by kernel_rfl) (hst : floatB .any l.toArray ks = true := by kernel_rfl) : (Code.region id l.toArray true).wp P Q a w :=
  wp_region_X (SS V f0) V.heap.size _ ks hm hn hlen hst (fun _ h => h.old.size) (gdS hs) hK.drew (h.out hs)
theorem wp_region_T {id : Nat} {Q : Exit → Act → World → Prop} {w : World} {l : List Oper} (ks : List Nat) (hK : SS V fs w) (h : Sx P V l.toArray (fun a w => Q .normal a w) [] ks l fs a) : (Code.region id l.toArray false).wp P Q a w :=
  wp_region_lit (wpList_of_X (P0 := SS V []) (base := V.heap.size) (fun _ h => h.old.size) ks l _ a w (gdS (List.nil_sublist _)) hK (h.out (List.nil_sublist _)))
theorem sxEnd (h : ∀ w, SS V fs w → Q a w) : Sx P V ops Q f0 ks [] fs a := ⟨fun _ => by cases ks <;> exact h⟩
theorem sxN (hg : Region.wanted o (yielded ops a.tmps) = false) (h : Sx P V ops Q f0 ks rest fs (a.put o.dst undef)) : Sx P V ops Q f0 (k :: ks) (o :: rest) fs a := ⟨fun hs => by
  show nStep _ _ _ _ _ _ _ _ _
  unfold nStep
  rw [if_neg (by simp [hg])]
  exact h.out hs⟩
theorem sx0 (hg : Wants ops o a) (h1 : ∀ w, SS V f0 w → Flt v w ((execOp a.eval o).run P w)) (h : Sx P V ops Q f0 ks rest fs (a.put o.dst v)) : Sx P V ops Q f0 (0 :: ks) (o :: rest) fs a := ⟨fun hs => by
  show nStep _ _ _ _ _ _ _ _ _
  unfold nStep
  rw [if_pos hg]
  exact ⟨v, h1, h.out hs⟩⟩
theorem sx1 (hg : Wants ops o a) (h1 : ∀ w, SS V fs w → Does P (fun u w' => u = v ∧ Below w.heap.size w w') ((execOp a.eval o).run P w)) (h : Sx P V ops Q f0 ks rest fs (a.put o.dst v)) : Sx P V ops Q f0 (1 :: ks) (o :: rest) fs a := ⟨fun hs => by
  show nStep _ _ _ _ _ _ _ _ _
  unfold nStep
  rw [if_pos hg]
  exact ⟨v, h1, h.out hs⟩⟩
theorem sx2 {α : Type} [hα : Nonempty α] {f : α → Value} {l' : α → List Ft} (hg : Wants ops o a) (h1 : ∀ w, SS V fs w → Does P (fun u w' => ∃ x, u = f x ∧ SS w (l' x) w') ((execOp a.eval o).run P w)) (h : ∀ x, Sx P V ops Q f0 ks rest (l' x ++ fs) (a.put o.dst (f x))) : Sx P V ops Q f0 (2 :: ks) (o :: rest) fs a := ⟨fun hs => by
  have hs2 : ∀ x, f0.Sublist (l' x ++ fs) := fun x => hs.trans (List.sublist_append_right _ _)
  show nStep _ _ _ _ _ _ _ _ _
  unfold nStep
  rw [if_pos hg]
  refine ⟨α, hα, f, fun x => ⟨Own (l' x ++ fs), SS V (l' x ++ fs)⟩, fun x => gdS (hs2 x), fun _ x => ⟨fun w hw => SS.subl hw (List.sublist_append_right _ _), fun g ⟨f, hf, hg⟩ => ⟨f, List.mem_append_right _ hf, hg⟩⟩, fun w hw => (h1 w hw).mono fun u w' ⟨x, e, hu⟩ => ⟨x, e, fun _ => hu.old, fun e => absurd e (by decide), fun _ g ⟨f, hf, hg⟩ => ?_, SS.more hw hu⟩, fun x => (h x).out (hs2 x)⟩
  exact (List.mem_append.1 hf).elim (fun hf => .inr (hu.lo f hf g hg)) fun hf => .inl ⟨f, hf, hg⟩⟩
theorem sx3 {f : Nat → Value} (obj : Obj) (hg : Wants ops o a) (h1 : ∀ w, (execOp a.eval o).run P w = .ok (.value (f w.heap.size)) (w.alloc obj)) (h : ∀ R, Sx P V ops Q f0 ks rest (bx R obj :: fs) (a.put o.dst (f R))) : Sx P V ops Q f0 (3 :: ks) (o :: rest) fs a := ⟨fun hs => by
  show nStep _ _ _ _ _ _ _ _ _
  unfold nStep
  rw [if_pos hg]
  have hm := mkV_of h1
  refine ⟨obj, fun w _ => by rw [hm]; exact h1 w, fun R => ?_⟩
  rw [hm]
  have e : Kl.new ⟨Own fs, SS V fs⟩ V.heap.size R obj = ⟨Own (bx R obj :: fs), SS V (bx R obj :: fs)⟩ := by
    refine Kl.eq (fun g => ⟨fun h => h.elim (fun ⟨f, hf, hg⟩ => ⟨f, List.mem_cons_of_mem _ hf, hg⟩) fun h => ⟨_, List.mem_cons_self .., h⟩, fun ⟨f, hf, hg⟩ => ?_⟩) fun w => ⟨fun ⟨h1, h2, h3⟩ => SS.one h1 ⟨Nat.zero_le _, h2.2⟩ (fun g e => e ▸ h2.1) fun f hf g e hg => h3 ⟨f, hf, e ▸ hg⟩, fun h => ⟨h.subl (List.sublist_cons_self ..), ⟨h.lo _ (List.mem_cons_self ..) R rfl, (h.get (List.mem_cons_self ..)).2⟩, fun ⟨f, hf, hg⟩ => (List.pairwise_cons.1 h.ap).1 f hf R rfl hg⟩⟩
    rcases List.mem_cons.1 hf with rfl | hf
    · exact .inr hg
    · exact .inl ⟨f, hf, hg⟩
  rw [e]
  exact (h R).out (hs.cons _)⟩
theorem sx4 {α : Type} [hα : Nonempty α] {f : α → Value} {l' : α → List Ft} (hg : Wants ops o a) (hs2 : ∀ x, f0.Sublist (l' x)) (h1 : ∀ w, SS V fs w → Does P (fun u w' => ∃ x, u = f x ∧ SS V (l' x) w') ((execOp a.eval o).run P w)) (h : ∀ x, Sx P V ops Q f0 ks rest (l' x) (a.put o.dst (f x))) : Sx P V ops Q f0 (4 :: ks) (o :: rest) fs a := ⟨fun hs => by
  show nStep _ _ _ _ _ _ _ _ _
  unfold nStep
  rw [if_pos hg]
  exact ⟨α, hα, f, fun x => ⟨Own (l' x), SS V (l' x)⟩, fun x => gdS (hs2 x), fun e => absurd e (by decide), fun w hw => (h1 w hw).mono fun u w' ⟨x, e, h4⟩ => ⟨x, e, fun e => absurd e (by decide), fun e => absurd e (by decide), fun e => absurd rfl e, h4⟩, fun x => (h x).out (hs2 x)⟩⟩
theorem sx5 {α : Type} [hα : Nonempty α] {f : α → Value} {l' : α → List Ft} (hg : Wants ops o a) (hs2 : ∀ x, f0.Sublist (l' x)) (h1 : ∀ w, SS V fs w → Does P (fun u w' => ∃ x, u = f x ∧ FrN (Own fs) w w' ∧ (∀ g, Own (l' x) g → Own fs g ∨ w.heap.size ≤ g) ∧ SS V (l' x) w') ((execOp a.eval o).run P w)) (h : ∀ x, Sx P V ops Q f0 ks rest (l' x) (a.put o.dst (f x))) : Sx P V ops Q f0 (5 :: ks) (o :: rest) fs a := ⟨fun hs => by
  show nStep _ _ _ _ _ _ _ _ _
  unfold nStep
  rw [if_pos hg]
  exact ⟨α, hα, f, fun x => ⟨Own (l' x), SS V (l' x)⟩, fun x => gdS (hs2 x), fun e => absurd e (by decide), fun w hw => (h1 w hw).mono fun u w' ⟨x, e, h1, h3, h4⟩ => ⟨x, e, fun e => absurd e (by decide), fun _ => h1, fun _ => h3, h4⟩, fun x => (h x).out (hs2 x)⟩⟩
end
end Go.Proofs.Ytokhapaffleffaa
namespace Go.Proofs.Ytokhapaffleffaa
open Go.RowKit
section
variable {P : Program} {V : World} {ops : Array Oper} {Q : Act → World → Prop} {f0 fs fs' : List Ft} {k : Nat} {ks : List Nat} {o : Oper} {rest : List Oper} {a a' : Act} {v v0 : Value} {R : Nat} {cs : Array Value} {t : TypeId} {f : FuncId} {args : Array Value}
theorem e0 (h : Sx P V ops Q f0 ks rest fs a') (hg : Wants ops o a := by first | exact wants0 rfl | exact wantsg rfl rfl rfl rfl) (h1 : ∀ w, SS V f0 w → Flt v w ((execOp a.eval o).run P w) := by intro w' hK; go_simp; (try go_bits); first | exact ⟨rfl, rfl⟩ | (rw [if_pos (by omega)]; exact ⟨rfl, rfl⟩)) (ha : a.put o.dst v = a' := by (simp only [mkOf, Act.put, pA, pB, pC, pD, pE]) <;> exact rfl) : Sx P V ops Q f0 (0 :: ks) (o :: rest) fs a := sx0 hg h1 (by rw [ha]; exact h)
theorem eV (v : Value) (h1 : ∀ w, Flt v w ((execOp a.eval o).run P w)) (h : Sx P V ops Q f0 ks rest fs a') (hg : Wants ops o a := by first | exact wants0 rfl | exact wantsg rfl rfl rfl rfl) (ha : a.put o.dst v = a' := by (simp only [mkOf, Act.put, pA, pB, pC, pD, pE]) <;> exact rfl) : Sx P V ops Q f0 (0 :: ks) (o :: rest) fs a := sx0 hg (fun w _ => h1 w) (by rw [ha]; exact h)
theorem eN {j d : Nat} {p c : Bool} (h : Sx P V ops Q f0 ks rest fs a') (hg : o.guard = some (j, p) := by rfl) (hd : (ops[j]?).bind (·.dst) = some d := by rfl) (hv : slotOf a.tmps.toList d = .bool c := by rfl) (hc : (c == p) = false := by rfl) (ha : a.put o.dst undef = a' := by (simp only [mkOf, Act.put, pA, pB, pC, pD, pE]) <;> exact rfl) : Sx P V ops Q f0 (k :: ks) (o :: rest) fs a := sxN ((wanted_some hg hd hv).trans hc) (by rw [ha]; exact h)
theorem eU {j d : Nat} {p : Bool} (h : Sx P V ops Q f0 ks rest fs a') (hg : o.guard = some (j, p) := by rfl) (hd : (ops[j]?).bind (·.dst) = some d := by rfl) (hv : slotOf a.tmps.toList d = undef := by rfl) (ha : a.put o.dst undef = a' := by (simp only [mkOf, Act.put, pA, pB, pC, pD, pE]) <;> exact rfl) : Sx P V ops Q f0 (k :: ks) (o :: rest) fs a := sxN (wanted_undef hg hd hv) (by rw [ha]; exact h)
theorem eB {a2 : Bool → Act} (e : Bool) (h : ∀ b, RowKit.Hid (e = b) → Sx P V ops Q f0 ks rest fs (a2 b)) (hg : Wants ops o a := by first | exact wants0 rfl | exact wantsg rfl rfl rfl rfl) (h1 : ∀ w, Flt (.bool e) w ((execOp a.eval o).run P w) := by intro w'; go_simp; (try go_bits); exact ⟨by first | rfl | simp, rfl⟩) (ha : ∀ b, a.put o.dst (.bool b) = a2 b := by intro b; (simp only [mkOf, Act.put, pA, pB, pC, pD, pE]) <;> exact rfl) : Sx P V ops Q f0 (0 :: ks) (o :: rest) fs a := sx0 hg (fun w _ => h1 w) (by rw [ha]; exact h e (hid rfl))
theorem eL (hm : bx R (.cells cs t) ∈ fs) (h : Sx P V ops Q f0 ks rest fs a') (hg : Wants ops o a := by first | exact wants0 rfl | exact wantsg rfl rfl rfl rfl) (h1 : ∀ w, Has 0 R (.cells cs t) w → Flt v w ((execOp a.eval o).run P w) := by intro w' k; (first | have ⟨_, _, _⟩ := k.c3 | have ⟨_, _⟩ := k.c2 | have ⟨_, _, _, _⟩ := k.c4 | have ⟨_, _, _, _, _⟩ := k.c5 | have ⟨_, _, _, _, _, _⟩ := k.c6 | have ⟨_, _, _, _, _, _, _⟩ := k.c7 | have ⟨_, _, _, _, _, _, _, _⟩ := k.c8 | have k0 := k.at 0 rfl); go_simp; (try go_bits); exact ⟨rfl, rfl⟩) (ha : a.put o.dst v = a' := by (simp only [mkOf, Act.put, pA, pB, pC, pD, pE]) <;> exact rfl) : Sx P V ops Q f0 (1 :: ks) (o :: rest) fs a :=
  sx1 hg (fun w hw => Flt.does ⟨rfl, Below.refl _ _⟩ (h1 w (hw.get hm))) (by rw [ha]; exact h)
theorem eL0 (hm : bx R (.cells cs t) ∈ f0) (h : Sx P V ops Q f0 ks rest fs a') (hg : Wants ops o a := by first | exact wants0 rfl | exact wantsg rfl rfl rfl rfl) (h1 : ∀ w, Has 0 R (.cells cs t) w → Flt v w ((execOp a.eval o).run P w) := by intro w' k; (first | have ⟨_, _, _⟩ := k.c3 | have ⟨_, _⟩ := k.c2 | have ⟨_, _, _, _⟩ := k.c4 | have ⟨_, _, _, _, _⟩ := k.c5 | have ⟨_, _, _, _, _, _⟩ := k.c6 | have ⟨_, _, _, _, _, _, _⟩ := k.c7 | have ⟨_, _, _, _, _, _, _, _⟩ := k.c8 | have k0 := k.at 0 rfl); go_simp; (try go_bits); exact ⟨rfl, rfl⟩) (ha : a.put o.dst v = a' := by (simp only [mkOf, Act.put, pA, pB, pC, pD, pE]) <;> exact rfl) : Sx P V ops Q f0 (0 :: ks) (o :: rest) fs a :=
  sx0 hg (fun w hw => h1 w (hw.get hm)) (by rw [ha]; exact h)
theorem eR {ad : Addr} {u : Value} (hc : ∀ w, SS V fs w → w.cell? ad = some u) (h : Sx P V ops Q f0 ks rest fs a') (hg : Wants ops o a := by first | exact wants0 rfl | exact wantsg rfl rfl rfl rfl) (h1 : ∀ w, w.cell? ad = some u → Flt v w ((execOp a.eval o).run P w) := by intro w' c; go_simp; (try go_bits); exact ⟨rfl, rfl⟩) (ha : a.put o.dst v = a' := by (simp only [mkOf, Act.put, pA, pB, pC, pD, pE]) <;> exact rfl) : Sx P V ops Q f0 (1 :: ks) (o :: rest) fs a :=
  sx1 hg (fun w hw => Flt.does ⟨rfl, Below.refl _ _⟩ (h1 w (hc w hw))) (by rw [ha]; exact h)
theorem eR0 {ad : Addr} {u : Value} (hc : ∀ w, SS V f0 w → w.cell? ad = some u) (h : Sx P V ops Q f0 ks rest fs a') (hg : Wants ops o a := by first | exact wants0 rfl | exact wantsg rfl rfl rfl rfl) (h1 : ∀ w, w.cell? ad = some u → Flt v w ((execOp a.eval o).run P w) := by intro w' c; go_simp; (try go_bits); exact ⟨rfl, rfl⟩) (ha : a.put o.dst v = a' := by (simp only [mkOf, Act.put, pA, pB, pC, pD, pE]) <;> exact rfl) : Sx P V ops Q f0 (0 :: ks) (o :: rest) fs a :=
  sx0 hg (fun w hw => h1 w (hc w hw)) (by rw [ha]; exact h)
theorem eQ (con : ∀ w, SS V fs w → Calls P f args w (fun e w1 => e = .returned v0 ∧ Below w.heap.size w w1)) (h : Sx P V ops Q f0 ks rest fs a') (hv : v0 = v := by rfl) (ho : ∀ w X, Calls P f args w (fun e w5 => ∃ v, e = .returned v ∧ X v w5) → Does P X ((execOp a.eval o).run P w) := by intro w' X hc; go_simp; (try go_bits); exact hc) (hg : Wants ops o a := by first | exact wants0 rfl | exact wantsg rfl rfl rfl rfl) (ha : a.put o.dst v = a' := by (simp only [mkOf, Act.put, pA, pB, pC, pD, pE]) <;> exact rfl) : Sx P V ops Q f0 (1 :: ks) (o :: rest) fs a :=
  sx1 hg (fun w hw => ho w _ ((con w hw).mono fun e w5 ⟨he, hb⟩ => by subst he; exact ⟨_, rfl, hv, hb⟩)) (by rw [ha]; exact h)
theorem eC {α : Type} [Nonempty α] {g : α → Value} {l' fs2 : α → List Ft} {a2 : α → Act} (con : ∀ w, SS V fs w → Calls P f args w (fun e w1 => ∃ x, e = .returned (g x) ∧ SS w (l' x) w1)) (h : ∀ x, Sx P V ops Q f0 ks rest (fs2 x) (a2 x)) (ho : ∀ w X, Calls P f args w (fun e w5 => ∃ v, e = .returned v ∧ X v w5) → Does P X ((execOp a.eval o).run P w) := by intro w' X hc; go_simp; (try go_bits); exact hc) (hg : Wants ops o a := by first | exact wants0 rfl | exact wantsg rfl rfl rfl rfl) (ha : ∀ x, a.put o.dst (g x) = a2 x := by intro x; (simp only [mkOf, Act.put, pA, pB, pC, pD, pE]) <;> exact rfl) (hf : ∀ x, l' x ++ fs = fs2 x := by intro x; (simp only [pD, pE]) <;> exact rfl) : Sx P V ops Q f0 (2 :: ks) (o :: rest) fs a :=
  sx2 hg (fun w hw => ho w _ ((con w hw).mono fun e w5 ⟨x, he, hb⟩ => by subst he; exact ⟨_, rfl, x, rfl, hb⟩)) (fun x => by rw [ha, hf]; exact h x)
theorem eA {a2 : Nat → Act} (obj : Obj) (h : ∀ R, Sx P V ops Q f0 ks rest (bx R obj :: fs) (a2 R)) (hg : Wants ops o a := by first | exact wants0 rfl | exact wantsg rfl rfl rfl rfl) (h1 : ∀ w, (execOp a.eval o).run P w = .ok (.value (mkOf o w.heap.size)) (w.alloc obj) := by intro w'; go_simp; rfl) (ha : ∀ R, a.put o.dst (mkOf o R) = a2 R := by intro R; (simp only [mkOf, Act.put, pA, pB, pC, pD, pE]) <;> exact rfl) : Sx P V ops Q f0 (3 :: ks) (o :: rest) fs a := sx3 (f := mkOf o) obj hg h1 fun R => by rw [ha]; exact h R
theorem eM {α : Type} [Nonempty α] {g : α → Value} {fs2 : α → List Ft} {a2 : α → Act} (con : ∀ w, SS V fs w → Calls P f args w (fun e w1 => ∃ x, e = .returned (g x) ∧ SS V (fs2 x) w1)) (h : ∀ x, Sx P V ops Q f0 ks rest (fs2 x) (a2 x)) (hs : ∀ x, f0.Sublist (fs2 x) := by exact fun _ => List.nil_sublist _) (ho : ∀ w X, Calls P f args w (fun e w5 => ∃ v, e = .returned v ∧ X v w5) → Does P X ((execOp a.eval o).run P w) := by intro w' X hc; go_simp; (try go_bits); exact hc) (hg : Wants ops o a := by first | exact wants0 rfl | exact wantsg rfl rfl rfl rfl) (ha : ∀ x, a.put o.dst (g x) = a2 x := by intro x; (simp only [mkOf, Act.put, pA, pB, pC, pD, pE]) <;> exact rfl) : Sx P V ops Q f0 (4 :: ks) (o :: rest) fs a :=
  sx4 hg hs (fun w hw => ho w _ ((con w hw).mono fun e w5 ⟨x, he, h3⟩ => by subst he; exact ⟨_, rfl, x, rfl, h3⟩)) (fun x => by rw [ha]; exact h x)
theorem sxS {i R : Nat} {f1 f2 : Ft} (hi : fs[i]? = some f1) (hR : f1.own R) (ho : ∀ g, f2.own g → f1.own g) (hq : ∀ w, f1.F w → Qt (some R) w i fs) (hs : f0.Sublist (fs.set i f2)) (hg : Wants ops o a) (h1 : ∀ w, SS V fs w → f1.F w → Does P (fun u w' => u = undef ∧ (∃ o' cs, w' = putAt R o' cs w) ∧ f2.F w') ((execOp a.eval o).run P w)) (h : Sx P V ops Q f0 ks rest (fs.set i f2) (a.put o.dst undef)) : Sx P V ops Q f0 (4 :: ks) (o :: rest) fs a :=
  sx4 (α := Unit) (f := fun _ => undef) (l' := fun _ => fs.set i f2) hg (fun _ => hs) (fun w hw => (h1 w hw (hw.get (List.mem_of_getElem? hi))).mono fun u w' ⟨e1, ⟨o', cs, e2⟩, e3⟩ => ⟨(), e1, by
    subst e2
    exact hw.turn hi (put_grown ..) (fun R' e => by injection e with e; subst e; exact hR) (hq w (hw.get (List.mem_of_getElem? hi))) e3 fun g hg => .inl (ho g hg)⟩) fun _ => h
theorem eP {c : Value} {l : List Value} (i o' : Nat) (cs : List Value) (h : Sx P V ops Q f0 ks rest fs' a') (hi : fs[i]? = some (bx R (.cells (c :: l).toArray t)) := by rfl) (hf : fs.set i (bx R (.cells (setL (c :: l) o' cs).toArray t)) = fs' := by (simp only [setL, pB, pC]) <;> exact rfl) (hs : f0.Sublist fs' := by exact List.nil_sublist _) (hq : OzL i fs ∨ OkL (rkV c) i fs := by first | exact .inl (by repeat (first | exact trivial | (show OzA _; assumption) | refine ⟨rfl, ?_⟩)) | exact .inr (by repeat (first | exact trivial | (show OkA _ _; assumption) | refine ⟨rfl, ?_⟩))) (hg : Wants ops o a := by first | exact wants0 rfl | exact wantsg rfl rfl rfl rfl)
    (h1 : ∀ w, Has 0 R (.cells (c :: l).toArray t) w → Does P (fun u w' => u = undef ∧ w' = putAt R o' cs w) ((execOp a.eval o).run P w) := by intro w' k; (first | have ⟨_, _, _⟩ := k.c3 | have ⟨_, _⟩ := k.c2 | have ⟨_, _, _, _⟩ := k.c4 | have ⟨_, _, _, _, _⟩ := k.c5 | have ⟨_, _, _, _, _, _⟩ := k.c6 | have ⟨_, _, _, _, _, _, _⟩ := k.c7 | have ⟨_, _, _, _, _, _, _, _⟩ := k.c8 | have k0 := k.at 0 rfl); have f := k.fz; go_simp; exact ⟨rfl, rfl⟩) (ha : a.put o.dst undef = a' := by (simp only [mkOf, Act.put, pA, pB, pC, pD, pE]) <;> exact rfl) : Sx P V ops Q f0 (4 :: ks) (o :: rest) fs a :=
  sxS (f2 := bx R (.cells (setL (c :: l) o' cs).toArray t)) hi rfl (fun _ h => h) (fun w k => hq.elim qtZ fun hk => qtN (fun R' e => by injection e with e; subst e; exact hdIs_of (base := 0) k) hk) (by rw [hf]; exact hs) hg (fun w _ k => (h1 w k).mono fun u w' ⟨e1, e2⟩ => by subst e2; exact ⟨e1, ⟨_, _, rfl⟩, has_put k o' cs (Below.refl _ _)⟩) (by rw [hf, ha]; exact h)
theorem eWI {g n c j : Nat} {xs : List Int} {y : Int} (i : Nat) (hj : j < xs.length) (h : Sx P V ops Q f0 ks rest fs' a') (hi : fs[i]? = some (rO intK t (some ⟨g, 0, none⟩) n c xs) := by rfl) (hf : fs.set i (rO intK t (some ⟨g, 0, none⟩) n c (xs.set j y)) = fs' := by (simp only [pB, pC]) <;> exact rfl) (hs : f0.Sublist fs' := by exact List.nil_sublist _) (hq : OzL i fs ∨ OkL 1 i fs := by first | exact .inl (by repeat (first | exact trivial | (show OzA _; assumption) | refine ⟨rfl, ?_⟩)) | exact .inr (by repeat (first | exact trivial | (show OkA _ _; assumption) | refine ⟨rfl, ?_⟩))) (hg : Wants ops o a := by first | exact wants0 rfl | exact wantsg rfl rfl rfl rfl)
    (h1 : ∀ w u, w.cell? ⟨g, j, none⟩ = some u → (∀ o, w.frozen? ⟨g, o, none⟩ = false) → Does P (fun u w' => u = undef ∧ w' = w.setCell ⟨g, j, none⟩ (.int .i64 y)) ((execOp a.eval o).run P w) := by intro w' u c f; go_simp; exact ⟨rfl, rfl⟩) (ha : a.put o.dst undef = a' := by (simp only [mkOf, Act.put, pA, pB, pC, pD, pE]) <;> exact rfl) : Sx P V ops Q f0 (4 :: ks) (o :: rest) fs a :=
  sxS (R := g) (f2 := rO intK t (some ⟨g, 0, none⟩) n c (xs.set j y)) hi rfl (fun _ h => h) (fun w k => hq.elim qtZ fun hk => qtN (fun R' e => by injection e with e; subst e; exact OwV.hd k (List.ne_nil_of_length_pos (by omega)) (fun {_ _ _ _} h hu => by cases h; cases hu; rfl)) hk) (by rw [hf]; exact hs) hg (fun w _ k => by
    obtain ⟨u, hu⟩ := OwV.some_cell k hj (j := 0) (by decide)
    refine (h1 w u (by have : j * intK.sz + 0 = j := by show j * 1 + 0 = j; omega
                       rwa [this] at hu) (OwV.fz k)).mono fun u w' ⟨e1, e2⟩ => ?_
    have e3 : w' = putAt g (j * intK.sz) [.int .i64 y] w := by rw [show j * intK.sz = j by show j * 1 = j; omega]; exact e2
    subst e3
    exact ⟨e1, ⟨_, _, rfl⟩, OwV.put k rfl hj _ (Below.refl _ _)⟩) (by rw [hf, ha]; exact h)
theorem frN_grown {w w' : World} {b : Option Nat} {l : List Ft} (hg : w.grownBy w' b) (hb : ∀ R, b = some R → Own l R) : FrN (Own l) w w' := fun R hR hn => hg.block R hR fun e => hn (hb R e.symm)
theorem sxG {α : Type} [Nonempty α] {i : Nat} {f1 : Ft} {g : α → Value} {f2 : α → Ft} {b : Option Nat} (hi : fs[i]? = some f1) (hR : ∀ R, b = some R → f1.own R) (hq : ∀ w, f1.F w → Qt b w i fs) (hs : ∀ x, f0.Sublist (fs.set i (f2 x))) (hg : Wants ops o a) (h1 : ∀ w, SS V fs w → f1.F w → Does P (fun u w' => ∃ x, u = g x ∧ w.grownBy w' b ∧ (∀ g, (f2 x).own g → f1.own g ∨ w.heap.size ≤ g) ∧ (f2 x).F w') ((execOp a.eval o).run P w)) (h : ∀ x, Sx P V ops Q f0 ks rest (fs.set i (f2 x)) (a.put o.dst (g x))) : Sx P V ops Q f0 (5 :: ks) (o :: rest) fs a :=
  sx5 (l' := fun x => fs.set i (f2 x)) hg hs (fun w hw => by
    have hm := List.mem_of_getElem? hi
    refine (h1 w hw (hw.get hm)).mono fun u w' ⟨x, e1, e2, e3, e4⟩ => ⟨x, e1, frN_grown e2 fun R e => ⟨f1, hm, hR R e⟩, fun g ⟨f, hf, hg⟩ => ?_, hw.turn hi e2 hR (hq w (hw.get hm)) e4 e3⟩
    rcases List.mem_or_eq_of_mem_set hf with hf | rfl
    · exact .inl ⟨f, hf, hg⟩
    · exact (e3 g hg).imp (fun h => ⟨f1, hm, h⟩) id) h
theorem app_doesS {α : Type} {K : EK α} [OwnK K] {q p : Option Addr} {n d m c bytes : Nat} {tt uu u' : TypeId} {xs ys : List α} {z : Value} {w : World} {s x : Operand} (ho : o.op = .call { callee := .builtin .append, args := #[s, x], argTypes := #[tt, uu] }) (ht : P.underlying tt = some (.slice t)) (hu : P.underlying uu = some (.slice u')) (hinf : (P.info? t).map (fun i => (i.zero, i.size, i.bytes)) = some (some z, K.sz, bytes)) (hzs : z.cells.size = K.sz)
    (hs : a.eval s = .slice q n d) (hx : a.eval x = .slice p m c) (h63 : xs.length + ys.length ≤ maxLen) (hbytes : (xs.length + ys.length) * bytes ≤ 140737488355328) (how : OwV K t 0 w (.slice q n d) xs) (hok : ∀ g, ob q = some g → K.Free ∨ NoHd K.S g w) (hsrc : SlV K w (.slice p m c) ys) :
    Does P (fun u w' => ∃ y : Sl, u = .slice y.p y.l y.c ∧ w.grownBy w' (ob q) ∧ (∀ g, ob y.p = some g → ob q = some g ∨ w.heap.size ≤ g) ∧ OwV K t 0 w' (.slice y.p y.l y.c) (xs ++ ys)) ((execOp a.eval o).run P w) :=
  (app_does ho ht hu hinf hzs hs hx h63 hbytes (Nat.zero_le _) ⟨how, hok, hsrc⟩).mono fun u w' ⟨c1, c2, c3⟩ => by
    obtain ⟨r, e, rfl, _⟩ := c1.sh
    rw [ob_eq] at c3
    exact ⟨⟨r, _, e⟩, rfl, c2, fun g hg => c3.elim (fun h => .inl (h ▸ hg)) fun h => .inr (by rw [h] at hg; injection hg with hg; omega), c1⟩
theorem eApp {α : Type} {K : EK α} [OwnK K] {q p : Option Addr} {n d m c bytes : Nat} {tt uu u' : TypeId} {xs ys : List α} {z : Value} {s x : Operand} {a2 : Sl → Act} {fs2 : Sl → List Ft} (i : Nat) (hK : K.Free) (hi : fs[i]? = some (rO K t q n d xs)) (hinf : (P.info? t).map (fun i => (i.zero, i.size, i.bytes)) = some (some z, K.sz, bytes)) (hsrc : ∀ w, SS V fs w → SlV K w (.slice p m c) ys) (h63 : xs.length + ys.length ≤ 1000000000) (h : ∀ y, Sx P V ops Q f0 ks rest (fs2 y) (a2 y)) (hf : ∀ y : Sl, fs.set i (rO K t y.p y.l y.c (xs ++ ys)) = fs2 y := by intro y; (simp only [pB, pC]) <;> exact rfl) (hs : ∀ x, f0.Sublist (fs2 x) := by exact fun _ => List.nil_sublist _) (hq : OzL i fs := by repeat (first | exact trivial | (show OzA _; assumption) | refine ⟨rfl, ?_⟩))
    (ho : o.op = .call { callee := .builtin .append, args := #[s, x], argTypes := #[tt, uu] } := by rfl) (ht : P.underlying tt = some (.slice t) := by first | rfl | kernel_rfl) (hu : P.underlying uu = some (.slice u') := by first | rfl | kernel_rfl) (hzs : z.cells.size = K.sz := by rfl) (hbz : bytes ≤ 100000 := by decide) (hes : a.eval s = .slice q n d := by rfl) (hex : a.eval x = .slice p m c := by rfl) (hg : Wants ops o a := by first | exact wants0 rfl | exact wantsg rfl rfl rfl rfl) (ha : ∀ y : Sl, a.put o.dst (.slice y.p y.l y.c) = a2 y := by intro x; (simp only [mkOf, Act.put, pA, pB, pC, pD, pE]) <;> exact rfl) : Sx P V ops Q f0 (5 :: ks) (o :: rest) fs a :=
  sxG (α := Sl) (g := fun y => .slice y.p y.l y.c) (f2 := fun y => rO K t y.p y.l y.c (xs ++ ys)) (b := ob q) hi (fun R h => h) (fun w _ => qtZ hq) (fun y => by rw [hf]; exact hs y) hg (fun w hw k => by
    refine (app_doesS (u' := u') ho ht hu hinf hzs hes hex (by simp [maxLen]; omega) (Nat.le_trans (Nat.mul_le_mul h63 hbz) (by decide)) k (fun _ _ => .inl hK) (hsrc w hw)).mono fun u w' ⟨y, e1, e2, e3, e4⟩ => ⟨y, e1, e2, e3, e4⟩) fun y => by rw [hf, ha]; exact h y
theorem SS.nilRow {α : Type} {K : EK α} [OwnK K] {V w : World} (h : SS V fs w) (t : TypeId) : SS V (rO K t none 0 0 [] :: fs) w := h.fact _ OwV.nil fun _ h => by cases h
theorem SS.one1 {α : Type} {K : EK α} {V w : World} {cs : List Value} {x : α} {ty : TypeId} (h : SS V fs w) (hm : bx R (.cells cs.toArray ty) ∈ fs) (hr : K.R w cs x) : SlV K w (.slice (some ⟨R, 0, none⟩) 1 1) [x] := .one (h.box hm) hr (Nat.le_refl 1) (by decide)
theorem SS.made {α : Type} {K : EK α} [OwnK K] {V w : World} {x : α} {zs : List Value} {R n : Nat} (h : SS V (bx R (.cells (madeCells zs.toArray (n * K.sz)) t) :: fs) w) (hx : ∀ w : World, K.R w zs x) (hn : n ≤ maxLen) : SS V (rO K t (some ⟨R, 0, none⟩) n n (List.replicate n x) :: fs) w := by
  have hb := h.box (List.mem_cons_self ..)
  have hl : zs.length = K.sz := K.len (hx w)
  refine h.repl (f' := rO K t (some ⟨R, 0, none⟩) n n (List.replicate n x)) ⟨List.replicate n zs, ⟨by simp, fun k cs y c1 c2 => ?_⟩, ?_⟩ fun g e => (Option.some.inj e).symm
  · have e1 := (List.mem_replicate.1 (List.mem_of_getElem? c1)).2
    have e2 := (List.mem_replicate.1 (List.mem_of_getElem? c2)).2
    subst e1; subst e2; exact hx w
  · have e : (madeCells zs.toArray (n * K.sz)).toList = (List.replicate n zs).flatten := by rw [← hl]; exact made_flat zs n (by have := K.pos; omega)
    rw [← e, List.length_replicate]
    refine ⟨by rw [Array.length_toList]; exact size_madeCells _ _, .inr ⟨R, n, _, rfl, Nat.zero_le _, hb.2, Nat.le_refl _, hn, size_madeCells _ _, ?_⟩⟩
    rw [List.take_of_length_le (by rw [Array.length_toList]; exact Nat.le_of_eq (size_madeCells _ _))]
theorem eMk {α : Type} {K : EK α} [OwnK K] {x : α} {zs : List Value} {z : Value} {bytes : Nat} {tt : TypeId} {l1 l2 : Operand} {a2 : Nat → Act} {vi : Int} (n : Nat) (_hx : ∀ w : World, K.R w zs x) (hz : z.cells = zs.toArray) (hinf : (P.info? t).map (fun i => (i.zero, i.size, i.bytes)) = some (some z, K.sz, bytes)) (hn : n * K.sz ≤ 16777216) (hb : bytes ≤ 100000) (h : ∀ g, Sx P V ops Q f0 ks rest (bx g (.cells (madeCells zs.toArray (n * K.sz)) t) :: fs) (a2 g)) (ho : o.op = .makeSlice tt l1 l2 := by rfl) (ht : P.underlying tt = some (.slice t) := by first | rfl | kernel_rfl) (he1 : a.eval l1 = .int .i64 vi := by rfl) (he2 : a.eval l2 = .int .i64 vi := by rfl) (hv : vi = (n : Int) := by rfl) (hg : Wants ops o a := by first | exact wants0 rfl | exact wantsg rfl rfl rfl rfl) (ha : ∀ g : Nat, a.put o.dst (.slice (some ⟨g, 0, none⟩) n n) = a2 g := by intro x; (simp only [mkOf, Act.put, pA, pB, pC, pD, pE]) <;> exact rfl) : Sx P V ops Q f0 (3 :: ks) (o :: rest) fs a :=
  sx3 (f := fun g => .slice (some ⟨g, 0, none⟩) n n) (.cells (madeCells zs.toArray (n * K.sz)) t) hg (fun w => by
    have hn1 : n ≤ 16777216 := Nat.le_trans (Nat.le_mul_of_pos_right n K.pos) hn
    obtain ⟨i0, hi, hz0, hz1, hz2⟩ := info_parts hinf
    subst hz2
    have e1 : i0.bytes * n ≤ 100000 * 16777216 := Nat.mul_le_mul hb hn1
    have e2 : ((i0.bytes * n : Nat) : Int) ≤ 281474976710656 := by omega
    rw [Int.natCast_mul] at e2
    have hr := run_make (P := P) w tt t i0 z ht hi hz0 .i64 .i64 n n (by omega) (Int.le_refl _) e2 (by omega)
    rw [hz, hz1] at hr
    unfold execOp
    simp only [ho, Sem.run_bind, Sem.run_pure, he1, he2, hv, hr, Result.andThen_ok, Int.toNat_natCast]) fun g => by rw [ha]; exact h g
theorem eX0 (hc : ∀ w, SS V f0 w → Has 0 R (.cells cs t) w) (h : Sx P V ops Q f0 ks rest fs a') (hg : Wants ops o a := by first | exact wants0 rfl | exact wantsg rfl rfl rfl rfl) (h1 : ∀ w, Has 0 R (.cells cs t) w → Flt v w ((execOp a.eval o).run P w) := by intro w' k; (first | have ⟨_, _, _⟩ := k.c3 | have ⟨_, _⟩ := k.c2 | have ⟨_, _, _, _⟩ := k.c4 | have ⟨_, _, _, _, _⟩ := k.c5 | have ⟨_, _, _, _, _, _⟩ := k.c6 | have ⟨_, _, _, _, _, _, _⟩ := k.c7 | have ⟨_, _, _, _, _, _, _, _⟩ := k.c8 | have k0 := k.at 0 rfl); go_simp; (try go_bits); exact ⟨rfl, rfl⟩) (ha : a.put o.dst v = a' := by (simp only [mkOf, Act.put, pA, pB, pC, pD, pE]) <;> exact rfl) : Sx P V ops Q f0 (0 :: ks) (o :: rest) fs a :=
  sx0 hg (fun w hw => h1 w (hc w hw)) (by rw [ha]; exact h)
end
section
variable {V w : World} {l l' : List Ft} {F a b c d e f g h : Ft}
theorem sK2 (h : l'.Sublist l) : (F :: l').Sublist (F :: l) := h.cons_cons _
theorem sC2 (h : l'.Sublist l) : l'.Sublist (F :: l) := h.cons _
theorem sZ2 : ([] : List Ft).Sublist [] := .slnil
theorem SS.up1 (k : SS V (a :: b :: l) w) : SS V (b :: a :: l) w := k.perm (.swap _ _ _)
theorem up_cons {l l' : List Ft} (h : l.Perm (F :: l')) : (a :: l).Perm (F :: a :: l') := (h.cons a).trans (.swap _ _ _)
theorem SS.up2 (k : SS V (a :: b :: c :: l) w) : SS V (c :: a :: b :: l) w := k.perm (up_cons (up_cons (.refl _)))
theorem SS.up3 (k : SS V (a :: b :: c :: d :: l) w) : SS V (d :: a :: b :: c :: l) w := k.perm (up_cons (up_cons (up_cons (.refl _))))
theorem SS.up4 (k : SS V (a :: b :: c :: d :: e :: l) w) : SS V (e :: a :: b :: c :: d :: l) w := k.perm (up_cons (up_cons (up_cons (up_cons (.refl _)))))
theorem SS.up5 (k : SS V (a :: b :: c :: d :: e :: f :: l) w) : SS V (f :: a :: b :: c :: d :: e :: l) w := k.perm (up_cons (up_cons (up_cons (up_cons (up_cons (.refl _))))))
theorem SS.up6 (k : SS V (a :: b :: c :: d :: e :: f :: g :: l) w) : SS V (g :: a :: b :: c :: d :: e :: f :: l) w := k.perm (up_cons (up_cons (up_cons (up_cons (up_cons (up_cons (.refl _)))))))
theorem SS.up7 (k : SS V (a :: b :: c :: d :: e :: f :: g :: h :: l) w) : SS V (h :: a :: b :: c :: d :: e :: f :: g :: l) w := k.perm (up_cons (up_cons (up_cons (up_cons (up_cons (up_cons (up_cons (.refl _))))))))
theorem slBox1 {α : Type} {K : EK α} {R : Nat} {cs : List Value} {x : α} {ty : TypeId} (h : Has 0 R (.cells cs.toArray ty) w) (hr : K.R w cs x) : SlV K w (.slice (some ⟨R, 0, none⟩) 1 1) [x] := .one h hr (Nat.le_refl 1) (by decide)
end
end Go.Proofs.Ytokhapaffleffaa
namespace Go.Proofs.Ytokhapaffleffaa
open Go.RowKit
def slcK : EK Sl where
  sz := 1
  pos := by decide
  R := fun _ cs s => cs = [.slice s.p s.l s.c]
  len := fun e => by rw [e]; rfl
  one := fun e u hu => by
    subst e
    simp only [List.mem_cons, List.not_mem_nil, or_false] at hu
    subst hu; rfl
  below := fun e _ => e
theorem slcK_free : slcK.Free := fun _ _ _ _ h => h
instance : OwnK slcK := ⟨[], fun h _ _ _ _ _ _ => h, .inl slcK_free⟩
structure FamO {α : Type} (K : EK α) (tt t : TypeId) (k : Nat) (p : Option Addr) (n c : Nat) (ss : List Sl) (xss : List (List α)) (w : World) : Prop where
  out : OwV slcK tt 0 w (.slice p n c) ss
  len : ss.length = xss.length
  row : ∀ j s xs, j ≠ k → ss[j]? = some s → xss[j]? = some xs → OwV K t 0 w (.slice s.p s.l s.c) xs
  ap : ∀ i j s u g, i ≠ j → i ≠ k → j ≠ k → ss[i]? = some s → ss[j]? = some u → ob s.p = some g → ob u.p ≠ some g
  ao : ∀ j s g, j ≠ k → ss[j]? = some s → ob s.p = some g → ob p ≠ some g
theorem FamO.slv {α : Type} {K : EK α} {w : World} {tt t : TypeId} {k : Nat} {p : Option Addr} {n c i : Nat} {ss : List Sl} {xss : List (List α)} {s : Sl} {xs : List α} (h : FamO K tt t k p n c ss xss w) (hi : i ≠ k) (hs : ss[i]? = some s) (hx : xss[i]? = some xs) : SlV K w (.slice s.p s.l s.c) xs := (h.row i s xs hi hs hx).slv
def fX {α : Type} (K : EK α) [OwnK K] (tt t : TypeId) (k : Nat) (p : Option Addr) (n c : Nat) (ss : List Sl) (xss : List (List α)) : Ft :=
  ⟨fun g => ob p = some g ∨ ∃ j s, j ≠ k ∧ ss[j]? = some s ∧ ob s.p = some g, K.S, FamO K tt t k p n c ss xss, fun h e => e.elim (fun e => (h.out.block e).2) fun ⟨j, s, h1, h2, h3⟩ => by
    have hl := (List.getElem?_eq_some_iff.1 h2).1
    exact ((h.row j s _ h1 h2 (List.getElem?_eq_getElem (h.len ▸ hl))).block h3).2,
  fun h hb => ⟨h.out.below hb, h.len, fun j s xs h1 h2 h3 => (h.row j s xs h1 h2 h3).below hb, h.ap, h.ao⟩,
  fun {w R} h hn hS w1 hs hf w2 hb => ⟨h.out.spare (by rw [ob_eq]; exact fun e => hn (.inl e)) (.inl slcK_free) w1 hs hf w2 hb, h.len, fun j s xs h1 h2 h3 => (h.row j s xs h1 h2 h3).spare (by rw [ob_eq]; exact fun e => hn (.inr ⟨j, s, h1, h2, e⟩)) (.inr hS) w1 hs hf w2 hb, h.ap, h.ao⟩⟩
section
variable {α : Type} {K : EK α} [OwnK K] {V w : World} {l : List Ft} {tt t : TypeId} {k m : Nat} {p : Option Addr} {n c i : Nat} {ss : List Sl} {xss : List (List α)} {s : Sl} {xs : List α}
theorem SS.fam (h : SS V l w) (hm : fX K tt t k p n c ss xss ∈ l) : FamO K tt t k p n c ss xss w := h.get hm
theorem SS.lenF (h : SS V l w) (hm : fX K tt t k p n c ss xss ∈ l) : n = ss.length := (h.fam hm).out.len
theorem SS.ptF (h : SS V l w) (hm : fX K tt t k p n c ss xss ∈ l) (hi : i < n) : ∃ g, p = some ⟨g, 0, none⟩ := by
  obtain ⟨g, o, e⟩ := (h.fam hm).out.slv.pt hi
  obtain rfl := (h.fam hm).out.off e
  exact ⟨g, e⟩
theorem SS.famS (h : SS V (rO slcK tt p n c (List.replicate m ⟨none, 0, 0⟩) :: l) w) (t : TypeId) : SS V (fX K tt t (List.replicate m (⟨none, 0, 0⟩ : Sl)).length p n c (List.replicate m ⟨none, 0, 0⟩) (List.replicate m []) :: l) w := by
  rw [List.length_replicate]
  have hn : ∀ j (s : Sl), (List.replicate m (⟨none, 0, 0⟩ : Sl))[j]? = some s → s = ⟨none, 0, 0⟩ := fun j s e => (List.mem_replicate.1 (List.mem_of_getElem? e)).2
  have hown : ∀ g, (fX K tt t m p n c (List.replicate m ⟨none, 0, 0⟩) (List.replicate m [])).own g → ob p = some g := fun g e => e.elim id fun ⟨j, s, _, h2, h3⟩ => by rw [hn j s h2] at h3; cases h3
  refine ⟨h.old, fun f hf => ?_, fun f hf g hg => ?_, ?_⟩
  · rcases List.mem_cons.1 hf with rfl | hf
    · refine ⟨h.get m0, by simp, fun j s xs _ h2 h3 => ?_, fun i j s u g _ _ _ h1 _ e => ?_, fun j s g _ h1 e => ?_⟩
      · rw [hn j s h2, (List.mem_replicate.1 (List.mem_of_getElem? h3)).2]; exact .nil
      · rw [hn i s h1] at e; cases e
      · rw [hn j s h1] at e; cases e
    · exact h.has f (List.mem_cons_of_mem _ hf)
  · rcases List.mem_cons.1 hf with rfl | hf
    · exact h.lo _ (List.mem_cons_self ..) g (hown g hg)
    · exact h.lo f (List.mem_cons_of_mem _ hf) g hg
  · obtain ⟨h1, h2⟩ := List.pairwise_cons.1 h.ap
    exact .cons (fun f hf g hg => h1 f hf g (hown g hg)) h2
theorem SS.famO (h : SS V (fX K tt t m p n c ss xss :: l) w) (hm : ss.length ≤ m) (hs : ss[k]? = some s) (hx : xss[k]? = some xs) : SS V (fX K tt t k p n c ss xss :: rO K t s.p s.l s.c xs :: l) w := by
  have hk : k ≠ m := fun e => by have := (List.getElem?_eq_some_iff.1 hs).1; omega
  have hF := h.fam m0
  have hlt : ∀ j s, ss[j]? = some s → j ≠ m := fun j s e e2 => by have := (List.getElem?_eq_some_iff.1 e).1; omega
  have hown : ∀ g, (fX K tt t k p n c ss xss).own g → (fX K tt t m p n c ss xss).own g := fun g e => e.imp id fun ⟨j, u, _, h2, h3⟩ => ⟨j, u, hlt j u h2, h2, h3⟩
  have hown2 : ∀ g, ob s.p = some g → (fX K tt t m p n c ss xss).own g := fun g e => .inr ⟨k, s, hk, hs, e⟩
  obtain ⟨h1, h2⟩ := List.pairwise_cons.1 h.ap
  refine ⟨h.old, fun f hf => ?_, fun f hf g hg => ?_, .cons (fun f hf g hg => ?_) (.cons (fun f hf g hg => h1 f hf g (hown2 g hg)) h2)⟩
  · rcases List.mem_cons.1 hf with rfl | hf
    · exact ⟨hF.out, hF.len, fun j u xs _ e1 e2 => hF.row j u xs (hlt j u e1) e1 e2, fun i j u v g e _ _ e1 e2 => hF.ap i j u v g e (hlt i u e1) (hlt j v e2) e1 e2, fun j u g _ e1 => hF.ao j u g (hlt j u e1) e1⟩
    · rcases List.mem_cons.1 hf with rfl | hf
      · exact hF.row k s xs hk hs hx
      · exact h.has f (List.mem_cons_of_mem _ hf)
  · rcases List.mem_cons.1 hf with rfl | hf
    · exact h.lo _ (List.mem_cons_self ..) g (hown g hg)
    · rcases List.mem_cons.1 hf with rfl | hf
      · exact h.lo _ (List.mem_cons_self ..) g (hown2 g hg)
      · exact h.lo f (List.mem_cons_of_mem _ hf) g hg
  · rcases List.mem_cons.1 hf with rfl | hf
    · intro hg2
      have hg2 : ob s.p = some g := hg2
      rcases hg with e | ⟨j, u, e1, e2, e3⟩
      · exact hF.ao k s g hk hs hg2 e
      · exact hF.ap k j s u g (Ne.symm e1) hk (hlt j u e2) hs e2 hg2 e3
    · exact h1 f hf g (hown g hg)
theorem SS.famB (h : SS V (fX K tt t k p n c ss xss :: rO K t s.p s.l s.c xs :: l) w) (hs : ss[k]? = some s) : SS V (fX K tt t ss.length p n c ss (xss.set k xs) :: l) w := by
  obtain ⟨h1, h2⟩ := List.pairwise_cons.1 h.ap
  obtain ⟨h3, h4⟩ := List.pairwise_cons.1 h2
  have hF := h.fam m0
  have hr : OwV K t 0 w (.slice s.p s.l s.c) xs := h.get m1
  have ha := fun g (e : (fX K tt t k p n c ss xss).own g) (e2 : ob s.p = some g) => h1 _ (List.mem_cons_self ..) g e e2
  have hown : ∀ g, (fX K tt t ss.length p n c ss (xss.set k xs)).own g → (fX K tt t k p n c ss xss).own g ∨ ob s.p = some g := fun g e => e.elim (fun e => .inl (.inl e)) fun ⟨j, u, _, e2, e3⟩ => by
    by_cases e : j = k
    · subst e
      rw [hs] at e2
      exact .inr (by rw [Option.some.inj e2]; exact e3)
    · exact .inl (.inr ⟨j, u, e, e2, e3⟩)
  refine ⟨h.old, fun f hf => ?_, fun f hf g hg => ?_, .cons (fun f hf g hg => ?_) h4⟩
  · rcases List.mem_cons.1 hf with rfl | hf
    · refine ⟨hF.out, by rw [List.length_set]; exact hF.len, fun j u ys _ e1 e2 => ?_, fun i j u v g e _ _ e1 e2 e3 e4 => ?_, fun j u g _ e1 e2 e3 => ?_⟩
      · by_cases e : j = k
        · subst e
          rw [hs] at e1
          rw [List.getElem?_set_self (by rw [← hF.len]; exact (List.getElem?_eq_some_iff.1 hs).1)] at e2
          rw [← Option.some.inj e1, ← Option.some.inj e2]; exact hr
        · rw [List.getElem?_set_ne (Ne.symm e)] at e2; exact hF.row j u ys e e1 e2
      · by_cases ei : i = k
        · subst ei
          rw [hs] at e1
          rw [← Option.some.inj e1] at e3
          exact ha g (.inr ⟨j, v, Ne.symm e, e2, e4⟩) e3
        · by_cases ej : j = k
          · subst ej
            rw [hs] at e2
            rw [← Option.some.inj e2] at e4
            exact ha g (.inr ⟨i, u, e, e1, e3⟩) e4
          · exact hF.ap i j u v g e ei ej e1 e2 e3 e4
      · by_cases ej : j = k
        · subst ej
          rw [hs] at e1
          rw [← Option.some.inj e1] at e2
          exact ha g (.inl e3) e2
        · exact hF.ao j u g ej e1 e2 e3
    · exact h.has f (List.mem_cons_of_mem _ (List.mem_cons_of_mem _ hf))
  · rcases List.mem_cons.1 hf with rfl | hf
    · exact (hown g hg).elim (h.lo _ (List.mem_cons_self ..) g) (h.lo _ (List.mem_cons_of_mem _ (List.mem_cons_self ..)) g)
    · exact h.lo f (List.mem_cons_of_mem _ (List.mem_cons_of_mem _ hf)) g hg
  · exact (hown g hg).elim (fun e => h1 f (List.mem_cons_of_mem _ hf) g e) (fun e => h3 f hf g e)
end
section
variable {w : World} {g n c i b : Nat} {t : TypeId}
theorem OwV.slc {ss : List Sl} {s : Sl} (h : OwV slcK t b w (.slice (some ⟨g, 0, none⟩) n c) ss) (hx : ss[i]? = some s) : w.cell? ⟨g, i, none⟩ = some (.slice s.p s.l s.c) := by
  have h1 := h.slv.cel (f := fun s : Sl => [.slice s.p s.l s.c]) (fun e => e) hx 0 rfl
  rwa [show 0 + i * slcK.sz + 0 = i from by show 0 + i * 1 + 0 = _; omega] at h1
end
section
variable {α : Type} {K : EK α} [OwnK K] {P : Program} {V : World} {ops : Array Oper} {Q : Act → World → Prop} {f0 fs fs' : List Ft} {ks : List Nat} {o : Oper} {rest : List Oper} {a a' : Act} {tt t : TypeId} {ss : List Sl} {xss : List (List α)}
theorem eWF {g n c j : Nat} {y : Sl} (i : Nat) (hj : j < ss.length) (h : Sx P V ops Q f0 ks rest fs' a') (hi : fs[i]? = some (fX K tt t j (some ⟨g, 0, none⟩) n c ss xss) := by rfl) (h3 : K.S.contains 3 = false := by rfl) (hf : fs.set i (fX K tt t j (some ⟨g, 0, none⟩) n c (ss.set j y) xss) = fs' := by (simp only [pB, pC]) <;> exact rfl) (hs : f0.Sublist fs' := by exact List.nil_sublist _) (hq : OzL i fs ∨ OkL 3 i fs := by first | exact .inl (by repeat (first | exact trivial | (show OzA _; assumption) | refine ⟨rfl, ?_⟩)) | exact .inr (by repeat (first | exact trivial | (show OkA _ _; assumption) | refine ⟨rfl, ?_⟩))) (hg : Wants ops o a := by first | exact wants0 rfl | exact wantsg rfl rfl rfl rfl)
    (h1 : ∀ w u, w.cell? ⟨g, j, none⟩ = some u → (∀ o, w.frozen? ⟨g, o, none⟩ = false) → Does P (fun u w' => u = undef ∧ w' = w.setCell ⟨g, j, none⟩ (.slice y.p y.l y.c)) ((execOp a.eval o).run P w) := by intro w' u c f; go_simp; exact ⟨rfl, rfl⟩) (ha : a.put o.dst undef = a' := by (simp only [mkOf, Act.put, pA, pB, pC, pD, pE]) <;> exact rfl) : Sx P V ops Q f0 (4 :: ks) (o :: rest) fs a := by
  have hset : ∀ k, k ≠ j → (ss.set j y)[k]? = ss[k]? := fun k hk => List.getElem?_set_ne (Ne.symm hk)
  refine sxS (R := g) (f1 := fX K tt t j (some ⟨g, 0, none⟩) n c ss xss) (f2 := fX K tt t j (some ⟨g, 0, none⟩) n c (ss.set j y) xss) hi (.inl rfl) (fun _ h => h.imp id fun ⟨k, s, e1, e2, e3⟩ => ⟨k, s, e1, by rwa [hset k e1] at e2, e3⟩) (fun w k => hq.elim qtZ fun hk => qtN (fun R' e => by injection e with e; subst e; exact OwV.hd k.out (List.ne_nil_of_length_pos (by omega)) (fun {_ _ _ _} h hu => by cases h; cases hu; rfl)) hk) (by rw [hf]; exact hs) hg (fun w _ k => ?_) (by rw [hf, ha]; exact h)
  have k : FamO K tt t j (some ⟨g, 0, none⟩) n c ss xss w := k
  obtain ⟨u, hu⟩ := OwV.some_cell k.out hj (j := 0) (by decide)
  refine (h1 w u (by have : j * slcK.sz + 0 = j := by show j * 1 + 0 = j; omega
                     rwa [this] at hu) (OwV.fz k.out)).mono fun u w' ⟨e1, e2⟩ => ?_
  have e3 : w' = putAt g (j * slcK.sz) [.slice y.p y.l y.c] w := by rw [show j * slcK.sz = j by show j * 1 = j; omega]; exact e2
  subst e3
  have hsp := OwV.put k.out (show slcK.R w [.slice y.p y.l y.c] y from rfl) hj _ (Below.refl _ _)
  have hnoS : K.Free ∨ NoHd K.S g w := .inr ((OwV.hd k.out (List.ne_nil_of_length_pos (by omega)) (m := 3) (fun {_ _ _ _} h hu => by cases h; cases hu; rfl)).no h3)
  exact ⟨e1, ⟨_, _, rfl⟩, hsp, by rw [List.length_set]; exact k.len, fun i s xs e1 e2 e3 => (k.row i s xs e1 (by rwa [hset i e1] at e2) e3).spare (by rw [ob_eq]; exact fun e => k.ao i s g e1 (by rwa [hset i e1] at e2) e rfl) hnoS _ (put_size ..) (fun _ hg _ => put_far hg ..) _ (Below.refl _ _), fun i j s u g e e1 e2 e3 e4 => k.ap i j s u g e e1 e2 (by rwa [hset i e1] at e3) (by rwa [hset j e2] at e4), fun i s g e1 e2 => k.ao i s g e1 (by rwa [hset i e1] at e2)⟩
end
end Go.Proofs.Ytokhapaffleffaa
