/- Regions walked once in the order of the text, in whatever order they are carried out: what the walk knows is a class of worlds and the blocks that it names; new blocks are none of those. -/
import Derived.Test.YtmcfomainmppdaaGreatDoorFTxG
namespace Go.Proofs.YtmcfomainmppdaaGreatDoor
open Go.RowKit
def mkV (P : Program) (e : Sem Next) (R : Nat) : Value := match e.run P { (default : World) with heap := Array.replicate R default } with
  | .ok (.value v) _ => v
  | _ => undef
theorem mkV_of {P : Program} {e : Sem Next} {f : Nat → Value} {obj : Obj} (h : ∀ w, e.run P w = .ok (.value (f w.heap.size)) (w.alloc obj)) (R : Nat) : mkV P e R = f R := by
  unfold mkV
  rw [h]
  simp
structure Kl where
  n : Nat → Prop
  s : World → Prop
def cup (A B : Nat → Prop) : Nat → Prop := fun g => A g ∨ B g
theorem Kl.eq {A B : Nat → Prop} {S T : World → Prop} (h : ∀ g, A g ↔ B g) (h' : ∀ w, S w ↔ T w) : (⟨A, S⟩ : Kl) = ⟨B, T⟩ := by
  rw [funext fun g => propext (h g), funext fun w => propext (h' w)]
structure Gd (P0 : World → Prop) (S : Kl) : Prop where
  cl : Clos S.s
  p : ∀ w, S.s w → P0 w
  k : ∀ w, S.s w → ∀ g, S.n g → g < w.heap.size
def FrN (n : Nat → Prop) (w w' : World) : Prop := ∀ R, R < w.heap.size → ¬ n R → w'.heap[R]? = w.heap[R]?
def Kl.new (S : Kl) (base R : Nat) (obj : Obj) : Kl := ⟨cup S.n (fun g => g = R), fun w => S.s w ∧ Has base R obj w ∧ ¬ S.n R⟩
section
variable {P : Program} {P0 : World → Prop} {base : Nat} {ops : Array Oper} {md : Region.Mode}
theorem Gd.new {S : Kl} (h : Gd P0 S) (R : Nat) (obj : Obj) : Gd P0 (S.new base R obj) :=
  ⟨fun _ _ ⟨h1, h2, h3⟩ hb => ⟨h.cl _ _ h1 hb, h2.below hb, h3⟩, fun w hw => h.p w hw.1, fun w hw g hg => hg.elim (h.k w hw.1 g) fun e => e ▸ hw.2.1.ltS⟩
theorem Kl.new_comm (S : Kl) (R R' : Nat) (o o' : Obj) : (S.new base R o).new base R' o' = (S.new base R' o').new base R o :=
  Kl.eq (fun _g => ⟨fun h => h.elim (fun h => h.elim (fun h => .inl (.inl h)) .inr) fun h => .inl (.inr h), fun h => h.elim (fun h => h.elim (fun h => .inl (.inl h)) .inr) fun h => .inl (.inr h)⟩)
    fun _w => ⟨fun ⟨⟨a, b, c⟩, d, e⟩ => ⟨⟨a, d, fun h => e (.inl h)⟩, b, fun h => h.elim c fun h => e (.inr h.symm)⟩, fun ⟨⟨a, b, c⟩, d, e⟩ => ⟨⟨a, d, fun h => e (.inl h)⟩, b, fun h => h.elim c fun h => e (.inr h.symm)⟩⟩
def nStep (P : Program) (P0 : World → Prop) (base : Nat) (ops : Array Oper) (k : Nat) (o : Oper) (S : Kl) (a : Act) (K : Kl → Act → Prop) : Prop :=
  if Region.wanted o (yielded ops a.tmps) = true then
    match k with
    | 0 => ∃ v, (∀ w, P0 w → Flt v w ((execOp a.eval o).run P w)) ∧ K S (a.put o.dst v)
    | 1 => ∃ v, (∀ w, S.s w → Does P (fun u w' => u = v ∧ Below w.heap.size w w') ((execOp a.eval o).run P w)) ∧ K S (a.put o.dst v)
    | 3 => ∃ obj : Obj, (∀ w, P0 w → (execOp a.eval o).run P w = .ok (.value (mkV P (execOp a.eval o) w.heap.size)) (w.alloc obj)) ∧ ∀ R, K (S.new base R obj) (a.put o.dst (mkV P (execOp a.eval o) R))
    | k => ∃ (α : Type) (_ : Nonempty α) (f : α → Value) (S' : α → Kl), (∀ x, Gd P0 (S' x)) ∧ (k = 2 → ∀ x, (∀ w, (S' x).s w → S.s w) ∧ ∀ g, S.n g → (S' x).n g) ∧ (∀ w, S.s w → Does P (fun v w' => ∃ x, v = f x ∧ (k = 2 → Below w.heap.size w w') ∧ (k = 5 → FrN S.n w w') ∧ (k ≠ 4 → ∀ g, (S' x).n g → S.n g ∨ w.heap.size ≤ g) ∧ (S' x).s w') ((execOp a.eval o).run P w)) ∧ ∀ x, K (S' x) (a.put o.dst (f x))
  else K S (a.put o.dst undef)
theorem nStep.mono {k : Nat} {o : Oper} {S : Kl} {a : Act} {K K' : Kl → Act → Prop} (hS : Gd P0 S) (h : ∀ S' a', Gd P0 S' → K S' a' → K' S' a') (hs : nStep P P0 base ops k o S a K) : nStep P P0 base ops k o S a K' := by
  unfold nStep at *
  split
  · rename_i hw
    rw [if_pos hw] at hs
    split
    · obtain ⟨v, h1, h2⟩ := hs; exact ⟨v, h1, h _ _ hS h2⟩
    · obtain ⟨v, h1, h2⟩ := hs; exact ⟨v, h1, h _ _ hS h2⟩
    · obtain ⟨obj, h1, h2⟩ := hs; exact ⟨obj, h1, fun R => h _ _ (hS.new R obj) (h2 R)⟩
    · rename_i k0 k1 k3
      split at hs
      · exact absurd rfl k0
      · exact absurd rfl k1
      · exact absurd rfl k3
      · obtain ⟨α, hα, f, S', h1, h2, h3, h4⟩ := hs; exact ⟨α, hα, f, S', h1, h2, h3, fun x => h _ _ (h1 x) (h4 x)⟩
  · rename_i hw
    rw [if_neg hw] at hs
    exact h _ _ hS hs
section
variable {oi oj : Oper} {S : Kl} {a : Act} {K : Kl → Act → Prop}
theorem nStep_put {k : Nat} {u : Value} (hap : oj.apart ops oi = true) (hs : ∀ cs b, oi.op ≠ .select cs b) (h : nStep P P0 base ops k oi S (a.put oj.dst u) K) :
    nStep P P0 base ops k oi S a (fun S' a' => (∃ x, a' = a.put oi.dst x) ∧ K S' (a'.put oj.dst u)) := by
  obtain ⟨h1, h2, h3⟩ := Oper.apart_spec hap
  have hcm : ∀ v, (a.put oj.dst u).put oi.dst v = (a.put oi.dst v).put oj.dst u := fun v => Act.put_comm a u v h2
  unfold nStep at *
  rw [wanted_put oi a oj.dst u h1, execOp_put oi hs a oj.dst u h1] at h
  simp only [hcm] at h
  split
  · rename_i hw
    rw [if_pos hw] at h
    split
    · obtain ⟨v, hv, hk⟩ := h; exact ⟨v, hv, ⟨v, rfl⟩, hk⟩
    · obtain ⟨v, hv, hk⟩ := h; exact ⟨v, hv, ⟨v, rfl⟩, hk⟩
    · obtain ⟨obj, hv, hk⟩ := h; exact ⟨obj, hv, fun R => ⟨⟨_, rfl⟩, hk R⟩⟩
    · rename_i k0 k1 k3
      split at h
      · exact absurd rfl k0
      · exact absurd rfl k1
      · exact absurd rfl k3
      · obtain ⟨α, hα, f, S', c1, c2, hv, hk⟩ := h; exact ⟨α, hα, f, S', c1, c2, hv, fun x => ⟨⟨f x, rfl⟩, hk x⟩⟩
  · rename_i hw
    rw [if_neg hw] at h
    exact ⟨⟨_, rfl⟩, h⟩
theorem nStep_at {k : Nat} {u : Value} (hap : oj.apart ops oi = true) (hs : ∀ cs b, oi.op ≠ .select cs b) (hw : Region.wanted oi (yielded ops a.tmps) = true) (h : nStep P P0 base ops k oi S (a.put oj.dst u) K) :
    (k = 0 → ∃ v, (∀ w, P0 w → Flt v w ((execOp a.eval oi).run P w)) ∧ K S ((a.put oi.dst v).put oj.dst u)) ∧
    (k = 1 → ∃ v, (∀ w, S.s w → Does P (fun u w' => u = v ∧ Below w.heap.size w w') ((execOp a.eval oi).run P w)) ∧ K S ((a.put oi.dst v).put oj.dst u)) ∧
    (k = 3 → ∃ obj : Obj, (∀ w, P0 w → (execOp a.eval oi).run P w = .ok (.value (mkV P (execOp a.eval oi) w.heap.size)) (w.alloc obj)) ∧ ∀ R, K (S.new base R obj) ((a.put oi.dst (mkV P (execOp a.eval oi) R)).put oj.dst u)) ∧
    (k = 2 → ∃ (α : Type) (_ : Nonempty α) (f : α → Value) (S' : α → Kl), (∀ x, Gd P0 (S' x)) ∧ (∀ x, (∀ w, (S' x).s w → S.s w) ∧ ∀ g, S.n g → (S' x).n g) ∧ (∀ w, S.s w → Does P (fun v w' => ∃ x, v = f x ∧ Below w.heap.size w w' ∧ (∀ g, (S' x).n g → S.n g ∨ w.heap.size ≤ g) ∧ (S' x).s w') ((execOp a.eval oi).run P w)) ∧ ∀ x, K (S' x) ((a.put oi.dst (f x)).put oj.dst u)) := by
  have h := nStep_put hap hs h
  unfold nStep at h
  rw [if_pos hw] at h
  refine ⟨fun e => ?_, fun e => ?_, fun e => ?_, fun e => ?_⟩ <;> subst e
  · obtain ⟨v, hv, _, hk⟩ := h; exact ⟨v, hv, hk⟩
  · obtain ⟨v, hv, _, hk⟩ := h; exact ⟨v, hv, hk⟩
  · obtain ⟨obj, hv, hk⟩ := h; exact ⟨obj, hv, fun R => (hk R).2⟩
  · obtain ⟨α, hα, f, S', c1, c2, hv, hk⟩ := h
    exact ⟨α, hα, f, S', c1, c2 rfl, fun w hw => (hv w hw).mono fun v w' ⟨x, d1, d2, _, d3, d4⟩ => ⟨x, d1, d2 rfl, d3 (by decide), d4⟩, fun x => (hk x).2⟩
theorem nStep_back {k : Nat} {b : Act} {K' : Kl → Act → Prop} (hw : Region.wanted oj (yielded ops b.tmps) = true)
    (h : match k with
      | 0 => ∃ v, (∀ w, P0 w → Flt v w ((execOp b.eval oj).run P w)) ∧ K' S (b.put oj.dst v)
      | 1 => ∃ v, (∀ w, S.s w → Does P (fun u w' => u = v ∧ Below w.heap.size w w') ((execOp b.eval oj).run P w)) ∧ K' S (b.put oj.dst v)
      | 3 => ∃ obj : Obj, (∀ w, P0 w → (execOp b.eval oj).run P w = .ok (.value (mkV P (execOp b.eval oj) w.heap.size)) (w.alloc obj)) ∧ ∀ R, K' (S.new base R obj) (b.put oj.dst (mkV P (execOp b.eval oj) R))
      | k => ∃ (α : Type) (_ : Nonempty α) (f : α → Value) (S' : α → Kl), (∀ x, Gd P0 (S' x)) ∧ (k = 2 → ∀ x, (∀ w, (S' x).s w → S.s w) ∧ ∀ g, S.n g → (S' x).n g) ∧ (∀ w, S.s w → Does P (fun v w' => ∃ x, v = f x ∧ (k = 2 → Below w.heap.size w w') ∧ (k = 5 → FrN S.n w w') ∧ (k ≠ 4 → ∀ g, (S' x).n g → S.n g ∨ w.heap.size ≤ g) ∧ (S' x).s w') ((execOp b.eval oj).run P w)) ∧ ∀ x, K' (S' x) (b.put oj.dst (f x))) : nStep P P0 base ops k oj S b K' := by
  unfold nStep
  rw [if_pos hw]
  exact h
end
theorem nSwap {ki kj : Nat} {oi oj : Oper} {S : Kl} {a : Act} {K : Kl → Act → Prop} {w0 : World} (hw0 : P0 w0) (hap : oj.apart ops oi = true) (hsi : ∀ cs b, oi.op ≠ .select cs b) (hsj : ∀ cs b, oj.op ≠ .select cs b) (hok : okPair kj ki = true) (hS : Gd P0 S)
    (h : nStep P P0 base ops kj oj S a (fun S' a' => nStep P P0 base ops ki oi S' a' K)) : nStep P P0 base ops ki oi S a (fun S' a' => nStep P P0 base ops kj oj S' a' K) := by
  have hap' := apart_symm hap
  have wj : ∀ x, Region.wanted oj (yielded ops (a.put oi.dst x).tmps) = Region.wanted oj (yielded ops a.tmps) := fun x => want_swap hap' x
  have ej : ∀ x, execOp (a.put oi.dst x).eval oj = execOp a.eval oj := fun x => exec_swap hsj hap' x
  have wi : ∀ x, Region.wanted oi (yielded ops (a.put oj.dst x).tmps) = Region.wanted oi (yielded ops a.tmps) := fun x => want_swap hap x
  have hcm : ∀ u v, (a.put oj.dst u).put oi.dst v = (a.put oi.dst v).put oj.dst u := fun u v => Act.put_comm a u v (Oper.apart_spec hap).2.1
  by_cases hwj : Region.wanted oj (yielded ops a.tmps) = true
  case neg =>
    unfold nStep at h
    rw [if_neg hwj] at h
    refine nStep.mono hS (fun S' a' _ hk => ?_) (nStep_put hap hsi h)
    obtain ⟨⟨x, rfl⟩, hk⟩ := hk
    unfold nStep
    rw [wj, if_neg hwj]
    exact hk
  by_cases hwi : Region.wanted oi (yielded ops a.tmps) = true
  case neg =>
    have e : ∀ (S' : Kl) x, nStep P P0 base ops ki oi S' (a.put oj.dst x) K → K S' ((a.put oi.dst undef).put oj.dst x) := fun S' x h => by
      unfold nStep at h
      rw [wi, if_neg hwi, hcm] at h
      exact h
    unfold nStep at h ⊢
    rw [if_pos hwj] at h
    rw [if_neg hwi]
    refine nStep_back (by rw [wj]; exact hwj) ?_
    simp only [ej]
    split
    · obtain ⟨v, h1, h2⟩ := h; exact ⟨v, h1, e _ _ h2⟩
    · obtain ⟨v, h1, h2⟩ := h; exact ⟨v, h1, e _ _ h2⟩
    · obtain ⟨obj, h1, h2⟩ := h; exact ⟨obj, h1, fun R => e _ _ (h2 R)⟩
    · rename_i k0 k1 k3
      split at h
      · exact absurd rfl k0
      · exact absurd rfl k1
      · exact absurd rfl k3
      · obtain ⟨α, hα, f, S', c1, c2, h1, h2⟩ := h; exact ⟨α, hα, f, S', c1, c2, h1, fun x => e _ _ (h2 x)⟩
  have hat := fun (S' : Kl) x (h : nStep P P0 base ops ki oi S' (a.put oj.dst x) K) => nStep_at hap hsi hwi h
  have back : ∀ (S' : Kl) v {K' : Kl → Act → Prop}, _ → nStep P P0 base ops kj oj S' (a.put oi.dst v) K' := fun S' v {K'} => nStep_back (P := P) (P0 := P0) (base := base) (ops := ops) (S := S') (k := kj) (b := a.put oi.dst v) (K' := K') (by rw [wj]; exact hwj)
  have fwd : ∀ {K' : Kl → Act → Prop}, _ → nStep P P0 base ops ki oi S a K' := fun {K'} => nStep_back (P := P) (P0 := P0) (base := base) (ops := ops) (S := S) (k := ki) (b := a) (K' := K') hwi
  -- the first yields its value in every world
  by_cases hj0 : kj = 0
  · subst hj0
    unfold nStep at h
    rw [if_pos hwj] at h
    obtain ⟨v, h1, h2⟩ := h
    refine nStep.mono hS (fun S' a' _ hk => ?_) (nStep_put hap hsi h2)
    obtain ⟨⟨x, rfl⟩, hk⟩ := hk
    exact back S' x ⟨v, by rw [ej]; exact h1, hk⟩
  by_cases hi0 : ki = 0
  · -- the one that is pulled yields its value in every world
    subst hi0
    have key : ∃ v, (∀ w, P0 w → Flt v w ((execOp a.eval oi).run P w)) ∧ nStep P P0 base ops kj oj S (a.put oi.dst v) K := by
      unfold nStep at h
      rw [if_pos hwj] at h
      split at h
      · exact absurd rfl hj0
      · obtain ⟨v, h1, h2⟩ := h
        obtain ⟨u, h3, h4⟩ := (hat _ _ h2).1 rfl
        exact ⟨u, h3, back S u ⟨v, by rw [ej]; exact h1, h4⟩⟩
      · obtain ⟨obj, h1, h2⟩ := h
        obtain ⟨u, h3, _⟩ := (hat _ _ (h2 0)).1 rfl
        refine ⟨u, h3, back S u ⟨obj, by rw [ej]; exact h1, fun R => ?_⟩⟩
        obtain ⟨u', h3', h4⟩ := (hat _ _ (h2 R)).1 rfl
        rw [Flt.uniq (h3 w0 hw0) (h3' w0 hw0), ej]
        exact h4
      · rename_i k0 k1 k3
        obtain ⟨α, hα, f, S', c1, c2, h1, h2⟩ := h
        obtain ⟨u, h3, _⟩ := (hat _ _ (h2 (Classical.choice hα))).1 rfl
        refine ⟨u, h3, back S u ?_⟩
        split
        · exact absurd rfl k0
        · exact absurd rfl k1
        · exact absurd rfl k3
        · refine ⟨α, hα, f, S', c1, c2, by rw [ej]; exact h1, fun x => ?_⟩
          obtain ⟨u', h3', h4⟩ := (hat _ _ (h2 x)).1 rfl
          rw [Flt.uniq (h3 w0 hw0) (h3' w0 hw0)]
          exact h4
    obtain ⟨v, h1, h2⟩ := key
    exact fwd ⟨v, h1, h2⟩
  by_cases hi1 : ki = 1
  · -- both of the second kind
    subst hi1
    have hj : kj = 1 := by rcases kj with _ | _ | _ | _ | _ | _ | kj <;> first | rfl | exact absurd rfl hj0 | cases hok
    subst hj
    unfold nStep at h
    rw [if_pos hwj] at h
    obtain ⟨v, h1, h2⟩ := h
    obtain ⟨u, h3, h4⟩ := (hat _ _ h2).2.1 rfl
    exact fwd ⟨u, h3, back S u ⟨v, by rw [ej]; exact h1, h4⟩⟩
  by_cases hi2 : ki = 2
  · -- a call that leaves facts is pulled before a read of elder ones
    subst hi2
    have hj : kj = 1 := by rcases kj with _ | _ | _ | _ | _ | _ | kj <;> first | rfl | exact absurd rfl hj0 | cases hok
    subst hj
    unfold nStep at h
    rw [if_pos hwj] at h
    obtain ⟨v, h1, h2⟩ := h
    obtain ⟨α, hα, f, S', c1, c2, h3, h4⟩ := (hat _ _ h2).2.2.2 rfl
    refine fwd ⟨α, hα, f, S', c1, fun _ => c2, fun w hw => (h3 w hw).mono fun v w' ⟨x, d1, d2, d3, d4⟩ => ⟨x, d1, fun _ => d2, fun h => absurd h (by omega), fun _ => d3, d4⟩, fun x => ?_⟩
    exact back (S' x) (f x) ⟨v, fun w hw => by rw [ej]; exact h1 w ((c2 x).1 w hw), h4 x⟩
  -- a new block is pulled
  have hi : ki = 3 := by rcases kj with _ | _ | _ | _ | _ | _ | kj <;> rcases ki with _ | _ | _ | _ | ki <;> first | rfl | exact absurd rfl hi0 | exact absurd rfl hi1 | exact absurd rfl hi2 | exact absurd rfl hj0 | cases hok
  subst hi
  unfold nStep at h
  rw [if_pos hwj] at h
  split at h
  · exact absurd rfl hj0
  · obtain ⟨v, h1, h2⟩ := h
    obtain ⟨obj, h3, h4⟩ := (hat _ _ h2).2.2.1 rfl
    exact fwd ⟨obj, h3, fun R => back _ _ ⟨v, fun w hw => by rw [ej]; exact h1 w hw.1, h4 R⟩⟩
  · obtain ⟨objj, h1, h2⟩ := h
    obtain ⟨obj, h3, _⟩ := (hat _ _ (h2 0)).2.2.1 rfl
    refine fwd ⟨obj, h3, fun R => back _ _ ⟨objj, by rw [ej]; exact h1, fun R' => ?_⟩⟩
    obtain ⟨obj', h3', h4⟩ := (hat _ _ (h2 R')).2.2.1 rfl
    obtain rfl := obj_uniq ((h3 w0 hw0).symm.trans (h3' w0 hw0))
    rw [Kl.new_comm, ej]
    exact h4 R
  · rename_i k0 k1 k3
    have hk : kj = 2 ∨ kj = 5 := by rcases kj with _ | _ | _ | _ | _ | _ | kj <;> first | exact .inl rfl | exact .inr rfl | exact absurd rfl hj0 | exact absurd rfl k1 | exact absurd rfl k3 | cases hok
    obtain ⟨α, hα, f, S', c1, c2, h1, h2⟩ := h
    obtain ⟨obj, h3, _⟩ := (hat _ _ (h2 (Classical.choice hα))).2.2.1 rfl
    refine fwd ⟨obj, h3, fun R => back _ _ ?_⟩
    split
    · exact absurd rfl k0
    · exact absurd rfl k1
    · exact absurd rfl k3
    · refine ⟨α, hα, f, fun x => (S' x).new base R obj, fun x => (c1 x).new R obj, fun e x => ⟨fun w hw => ⟨(c2 e x).1 w hw.1, hw.2.1, fun h => hw.2.2 ((c2 e x).2 R h)⟩, fun g hg => hg.imp ((c2 e x).2 g) id⟩, fun w hw => ?_, fun x => ?_⟩
      · rw [ej]
        refine (h1 w hw.1).mono fun u w' ⟨x, d1, d2, d3, d4, d6⟩ => ⟨x, d1, d2, fun e R' hR' hn => d3 e R' hR' fun h => hn (.inl h), fun hk4 g hg => ?_, d6, ⟨hw.2.1.1, ?_⟩, fun hR => ?_⟩
        · rcases hg with hg | hg
          · exact (d4 hk4 g hg).imp .inl id
          · exact .inl (.inr hg)
        · rcases hk with hk | hk
          · exact ((d2 hk).block _ hw.2.1.ltS).trans hw.2.1.2
          · exact (d3 hk R hw.2.1.ltS hw.2.2).trans hw.2.1.2
        · rcases d4 (by rcases hk with e | e <;> omega) R hR with h | h
          · exact hw.2.2 h
          · exact absurd hw.2.1.ltS (Nat.not_lt.2 h)
      · obtain ⟨obj', h3', h4⟩ := (hat _ _ (h2 x)).2.2.1 rfl
        obtain rfl := obj_uniq ((h3 w0 hw0).symm.trans (h3' w0 hw0))
        exact h4 R
def wpN (P : Program) (P0 : World → Prop) (base : Nat) (ops : Array Oper) (kd : Nat → Nat) (Q : Act → World → Prop) : List Nat → Kl → Act → Prop
  | [], S, a => ∀ w, S.s w → Q a w
  | i :: l, S, a => match ops[i]? with
    | none => False
    | some o => nStep P P0 base ops (kd i) o S a (wpN P P0 base ops kd Q l)
theorem nPull {kd : Nat → Nat} {Q : Act → World → Prop} {w0 : World} (hw0 : P0 w0) (hsel : ∀ (j : Nat) (o : Oper) cs b, ops[j]? = some o → o.op ≠ .select cs b) {i : Nat} {oi : Oper} (hi : ops[i]? = some oi) : ∀ (l : List Nat) (S : Kl) (a : Act), l.Pairwise (· < ·) → i ∈ l →
    (∀ j ∈ l, j < i → ∀ oj, ops[j]? = some oj → oj.apart ops oi = true ∧ okPair (kd j) (kd i) = true) → Gd P0 S → wpN P P0 base ops kd Q l S a → nStep P P0 base ops (kd i) oi S a (wpN P P0 base ops kd Q (l.erase i))
  | [], _, _, _, hm, _, _, _ => by cases hm
  | j :: l, S, a, hl, hm, hcl, hS, h => by
    by_cases hji : j = i
    · subst hji
      rw [List.erase_cons_head]
      unfold wpN at h
      rw [hi] at h
      exact h
    · have hm' : i ∈ l := by
        rcases List.mem_cons.1 hm with e | e
        · exact absurd e.symm hji
        · exact e
      rw [List.pairwise_cons] at hl
      have hlt := hl.1 i hm'
      rw [List.erase_cons_tail (by simpa using hji)]
      unfold wpN at h
      cases hj : ops[j]? with
      | none => rw [hj] at h; exact h.elim
      | some oj =>
        rw [hj] at h
        obtain ⟨hap, hok⟩ := hcl j (List.mem_cons_self ..) hlt oj hj
        have h1 := nStep.mono hS (fun S' a' hS' hk => nPull hw0 hsel hi l S' a' hl.2 hm' (fun k hk' => hcl k (List.mem_cons_of_mem _ hk')) hS' hk) h
        have h2 := nSwap hw0 hap (fun cs b => hsel i oi cs b hi) (fun cs b => hsel j oj cs b hj) hok hS h1
        refine nStep.mono hS (fun S' a' _ hk => ?_) h2
        unfold wpN
        rw [hj]
        exact hk
theorem nStep.wp {k : Nat} {o : Oper} {S : Kl} {a : Act} {K : Kl → Act → Prop} {K' : Act → World → Prop} {Q' : Exit → Act → World → Prop} {w : World} (hbase : ∀ w, P0 w → base ≤ w.heap.size) (hS : Gd P0 S) (hw : S.s w)
    (h : ∀ S' a' w', Gd P0 S' → S'.s w' → K S' a' → K' a' w') (hs : nStep P P0 base ops k o S a K) :
    if Region.wanted o (yielded ops a.tmps) = true then o.wp P a w K' Q' ∨ (o.asks P a w ∧ LetsOut Q') else K' (a.put o.dst undef) w := by
  unfold nStep at hs
  split
  · rename_i hg
    rw [if_pos hg] at hs
    refine .inl ?_
    unfold Oper.wp
    split at hs
    · obtain ⟨v, h1, h2⟩ := hs
      exact Does.upon (R := fun u w' => u = v ∧ w' = w) (fun u w' ⟨e1, e2⟩ => by subst e1; subst e2; exact h _ _ _ hS hw h2) (Flt.does ⟨rfl, rfl⟩ (h1 w (hS.p w hw)))
    · obtain ⟨v, h1, h2⟩ := hs
      exact Does.upon (fun u w' ⟨e1, e2⟩ => by subst e1; exact h _ _ _ hS (hS.cl _ _ hw e2) h2) (h1 w hw)
    · obtain ⟨obj, h1, h2⟩ := hs
      rw [h1 w (hS.p w hw)]
      exact h _ _ _ (hS.new _ obj) ⟨hS.cl w _ hw ((Below.refl _ _).alloc (Nat.le_refl _) _), ⟨hbase w (hS.p w hw), heap_new w obj⟩, fun hn => Nat.lt_irrefl _ (hS.k w hw _ hn)⟩ (h2 w.heap.size)
    · obtain ⟨α, _, f, S', c1, c2, h1, h2⟩ := hs
      exact Does.upon (fun u w' ⟨x, hx, _, _, _, hu⟩ => by subst hx; exact h _ _ _ (c1 x) hu (h2 x)) (h1 w hw)
  · rename_i hg
    rw [if_neg hg] at hs
    exact h _ _ _ hS hw hs
theorem wpAny_of_N {kd : Nat → Nat} {ks : List Nat} (hkd : ∀ i, kd i = ks.getD i 0) {Q : Act → World → Prop} {Q' : Exit → Act → World → Prop} (hQ : ∀ a w, Q a w → Q' .normal a w) {w0 : World} (hw0 : P0 w0) (hbase : ∀ w, P0 w → base ≤ w.heap.size) (hsel : ∀ (j : Nat) (o : Oper) cs b, ops[j]? = some o → o.op ≠ .select cs b) (hB : floatB md ops ks = true) :
    ∀ (fuel : Nat) (listed : Array Bool) (l : List Nat) (S : Kl) (a : Act) (w : World), (∀ i, i ∈ l ↔ i < ops.size ∧ listed.getD i true = false) → l.Pairwise (· < ·) → listed.size = ops.size → Closed md ops listed → Gd P0 S → S.s w → wpN P P0 base ops kd Q l S a → l.length ≤ fuel → wpAny P md ops Q' fuel listed a w
  | 0, listed, l, S, a, w, hm, _, _, _, _, hw, h, hf => by
    obtain rfl : l = [] := List.eq_nil_of_length_eq_zero (by omega)
    refine ⟨?_, hQ _ _ (h w hw)⟩
    refine List.eq_nil_iff_forall_not_mem.2 fun j hj => ?_
    obtain ⟨h1, o, ho, _⟩ := mem_ready.1 hj
    exact absurd ((hm j).2 ⟨(Array.getElem?_eq_some_iff.1 ho).1, h1⟩) List.not_mem_nil
  | fuel + 1, listed, l, S, a, w, hm, hpw, hsz, hcl, hS, hw, h, hf => by
    refine ⟨fun h0 => ?_, fun i hi => ?_⟩
    · cases l with
      | nil => exact hQ _ _ (h w hw)
      | cons j l =>
        exfalso
        obtain ⟨hj1, hj2⟩ := (hm j).1 (List.mem_cons_self ..)
        have hoj : ops[j]? = some ops[j] := Array.getElem?_eq_getElem hj1
        have hr : j ∈ Region.ready md ops listed := mem_ready.2 ⟨hj2, _, hoj, fun e he hb => by
          have hlt := (floatB_spec hB hoj).1 e he hb
          cases hv : listed.getD e.on false with
          | true => rfl
          | false =>
            exfalso
            have hes : e.on < listed.size := by omega
            have h3 : listed.getD e.on true = false := by
              rw [Array.getD_eq_getD_getElem?, Array.getElem?_eq_getElem hes] at hv ⊢
              simpa using hv
            have h4 := (hm e.on).2 ⟨by omega, h3⟩
            rw [List.pairwise_cons] at hpw
            rcases List.mem_cons.1 h4 with h5 | h5
            · omega
            · have := hpw.1 _ h5; omega⟩
        rw [h0] at hr
        cases hr
    · obtain ⟨hun, oi, ho, _⟩ := mem_ready.1 hi
      have hil : i ∈ l := (hm i).2 ⟨(Array.getElem?_eq_some_iff.1 ho).1, hun⟩
      have hpl := nPull (kd := kd) hw0 hsel ho l S a hpw hil (fun j hj hlt oj hoj => by
        rcases (floatB_spec hB ho).2 j oj hlt hoj with h1 | h1
        · have h2 := h1 listed hcl hi
          have h3 := ((hm j).1 hj).2
          have hjs : j < listed.size := by rw [hsz]; exact ((hm j).1 hj).1
          rw [Array.getD_eq_getD_getElem?, Array.getElem?_eq_getElem hjs] at h2 h3
          simp only [Option.getD_some] at h2 h3
          rw [h2] at h3; cases h3
        · rw [hkd, hkd]; exact ⟨h1.2, h1.1⟩) hS h
      unfold wpOp
      rw [ho]
      refine nStep.wp hbase hS hw (fun S' a' w' hS' hw' hk => ?_) hpl
      refine wpAny_of_N hkd hQ hw0 hbase hsel hB fuel _ (l.erase i) S' a' w' (fun k => ?_) (hpw.sublist List.erase_sublist) (by rw [Array.size_setIfInBounds]; exact hsz) (hcl.set hi) hS' hw' hk (by rw [List.length_erase_of_mem hil]; omega)
      have hnd : l.Nodup := hpw.imp (fun h => Nat.ne_of_lt h)
      rw [hnd.mem_erase_iff, hm k]
      by_cases hki : i = k
      · subst hki
        have his : i < listed.size := by rw [hsz]; exact (Array.getElem?_eq_some_iff.1 ho).1
        simp [his]
      · rw [getD_set_ne true hki]
        exact ⟨fun h => h.2, fun h => ⟨fun e => hki e.symm, h⟩⟩
def wpX (P : Program) (P0 : World → Prop) (base : Nat) (ops : Array Oper) (Q : Act → World → Prop) : List Nat → List Oper → Kl → Act → Prop
  | _, [], S, a => ∀ w, S.s w → Q a w
  | [], _ :: _, _, _ => False
  | k :: ks, o :: rest, S, a => nStep P P0 base ops k o S a (wpX P P0 base ops Q ks rest)
theorem wpX_to_N {Q : Act → World → Prop} {kd : Nat → Nat} {ks0 : List Nat} (hkd : ∀ i, kd i = ks0.getD i 0) (hlen : ops.size ≤ ks0.length) : ∀ (l : List Oper) (k : Nat) (S : Kl) (a : Act), Gd P0 S → (∀ j, l[j]? = ops[k + j]?) → wpX P P0 base ops Q (ks0.drop k) l S a → wpN P P0 base ops kd Q (List.range' k l.length) S a
  | [], k, S, a, _, _, h => by cases hk : ks0.drop k <;> (rw [hk] at h; exact h)
  | o :: l, k, S, a, hS, hl, h => by
    have h0 : ops[k]? = some o := by simpa using (hl 0).symm
    have hks : k < ks0.length := Nat.lt_of_lt_of_le (Array.getElem?_eq_some_iff.1 h0).1 hlen
    have hdrop : ks0.drop k = ks0.getD k 0 :: ks0.drop (k + 1) := by
      rw [List.drop_eq_getElem_cons hks]
      simp [hks]
    rw [hdrop] at h
    rw [List.length_cons, List.range'_succ]
    unfold wpN
    rw [h0]
    dsimp only
    rw [hkd]
    exact nStep.mono hS (fun S' a' hS' h' => wpX_to_N hkd hlen l (k + 1) S' a' hS' (fun j => by have := hl (j + 1); simpa [Nat.add_assoc, Nat.add_comm 1 j] using this) h') h
theorem wp_region_X {id : Nat} {Q : Exit → Act → World → Prop} {a : Act} {w : World} {l : List Oper} (P0 : World → Prop) (base : Nat) (S : Kl) (ks : List Nat) (hm : P.follows .mixedOrders = true)
    (hn : Region.noSelect l.toArray = true) (hlen : (l.length == ks.length) = true) (hst : floatB .any l.toArray ks = true) (hB : ∀ w, P0 w → base ≤ w.heap.size) (hS : Gd P0 S) (hw : S.s w.drew) (h : wpX P P0 base l.toArray (fun a w => Q .normal a w) ks l S a) :
    (Code.region id l.toArray true).wp P Q a w := by
  have hlen' : l.length = ks.length := by simpa using hlen
  refine wp_region_any hm ?_
  refine wpAny_of_N (P0 := P0) (base := base) (kd := fun i => ks.getD i 0) (ks := ks) (fun _ => rfl) (Q := fun a w => Q .normal a w) (fun _ _ h => h) (hS.p _ hw) hB (Region.noSelect_spec hn) hst _ _ (List.range' 0 l.length) S a _ (fun i => ?_) List.pairwise_lt_range' (by simp) (fun j o hj ht => ?_) hS hw
    (wpX_to_N (ops := l.toArray) (ks0 := ks) (fun _ => rfl) (by simp [hlen']) l 0 S a hS (by simp) (by simpa using h)) (by simp)
  · rw [List.mem_range'_1]
    constructor
    · intro hi
      have hlt : i < l.length := by omega
      simp [hlt]
    · intro hi
      have := hi.1
      simp at this
      omega
  · have hlt : j < l.toArray.size := (Array.getElem?_eq_some_iff.1 hj).1
    simp at hlt
    simp [hlt] at ht
theorem wpList_of_X {Q' : Exit → Act → World → Prop} (hB : ∀ w, P0 w → base ≤ w.heap.size) : ∀ (ks : List Nat) (l : List Oper) (S : Kl) (a : Act) (w : World), Gd P0 S → S.s w →
    wpX P P0 base ops (fun a w => Q' .normal a w) ks l S a → wpList P ops Q' l a w
  | [], [], _, _, _, _, hw, h => h _ hw
  | _ :: _, [], _, _, _, _, hw, h => h _ hw
  | [], _ :: _, _, _, _, _, _, h => False.elim h
  | _ :: ks, _ :: rest, _, _, _, hS, hw, h => nStep.wp hB hS hw (fun S' a' w' hS' hw' hk => wpList_of_X hB ks rest S' a' w' hS' hw' hk) h
end
end Go.Proofs.YtmcfomainmppdaaGreatDoor
