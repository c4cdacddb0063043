/- The walk's machinery with a stricter order of worlds, which counts the draws: for functions that a library function calls back. -/
import Derived.Test.YtmcfomainmppdaaGreatDoorFRowI
import Derived.Sort.Grow
namespace Go.Proofs.YtmcfomainmppdaaGreatDoor.Q
open Go.RowKit
structure Below (B : Nat) (w w' : World) : Prop where
  b : RowKit.Below B w w'
  drawn : w.drawn ≤ w'.drawn
section
variable {B : Nat} {a w w' : World}
theorem Below.refl (B : Nat) (w : World) : Below B w w := ⟨RowKit.Below.refl _ _, Nat.le_refl _⟩
theorem Below.trans {a b c : World} (h : Below B a b) (k : Below B b c) : Below B a c := ⟨h.b.trans k.b, Nat.le_trans h.drawn k.drawn⟩
theorem Below.mono {B' : Nat} (h : Below B w w') (hB : B' ≤ B) : Below B' w w' := ⟨h.b.mono hB, h.drawn⟩
theorem Below.drew (h : Below B a w) : Below B a w.drew := ⟨h.b.drew, Nat.le_trans h.drawn (Nat.le_succ _)⟩
theorem Below.alloc (h : Below B a w) (hB : B ≤ w.heap.size) (o : Obj) : Below B a (w.alloc o) := ⟨h.b.alloc hB o, h.drawn⟩
theorem Below.setCell (h : Below B a w) {p : Addr} (hp : B ≤ p.block) (u : Value) : Below B a (w.setCell p u) := ⟨h.b.setCell hp u, h.drawn⟩
theorem Below.cell (h : Below B w w') {p : Addr} (hp : p.block < B) : w'.cell? p = w.cell? p := h.b.cell hp
theorem Below.frozen (h : Below B w w') {p : Addr} (hp : p.block < B) : w'.frozen? p = w.frozen? p := h.b.frozen hp
theorem Below.size (h : Below B w w') : w.heap.size ≤ w'.heap.size := h.b.size
theorem Below.block (h : Below B w w') (k : Nat) (hk : k < B) : w'.heap[k]? = w.heap[k]? := h.b.block k hk
theorem Below.heap_setCell (w : World) (a : Addr) (u : Value) (k : Nat) (h : k ≠ a.block) : (w.setCell a u).heap[k]? = w.heap[k]? := RowKit.Below.heap_setCell w a u k h
theorem Below.grown (h : Below w.heap.size w w') : ∃ q os, w' = Sort.grow (w.drewN q) os := by
  refine ⟨w'.drawn - w.drawn, w'.heap.extract w.heap.size w'.heap.size, ?_⟩
  have hd := h.drawn
  obtain ⟨h1, h2, h3, h4, h5⟩ := h.b
  obtain ⟨hp, tp, dr, os, ou⟩ := w'
  obtain ⟨hp0, tp0, dr0, os0, ou0⟩ := w
  simp only at *
  subst h1; subst h2; subst h3
  show _ = World.mk _ _ _ _ _
  congr 1
  · refine Array.ext_getElem? fun k => ?_
    by_cases hk : k < hp0.size
    · rw [h5 k hk]
      show _ = (hp0 ++ _)[k]?
      rw [Array.getElem?_append_left hk]
    · show _ = (hp0 ++ _)[k]?
      rw [Array.getElem?_append_right (by omega)]
      simp only [Array.getElem?_extract]
      split
      · congr 1; omega
      · rw [Array.getElem?_eq_none]; omega
  · show dr = dr0 + _
    omega
end
section
variable {P : Program} {P0 : World → Prop} {base : Nat} {ops : Array Oper} {md : Region.Mode}
def Clos (S : World → Prop) : Prop := ∀ w w', S w → Below w.heap.size w w' → S w'
def Has (base R : Nat) (obj : Obj) (w : World) : Prop := base ≤ R ∧ w.heap[R]? = some obj
theorem Has.below {R : Nat} {obj : Obj} {w w' : World} (h : Has base R obj w) (hb : Below w.heap.size w w') : Has base R obj w' :=
  ⟨h.1, (hb.block _ (Array.getElem?_eq_some_iff.1 h.2).1).trans h.2⟩
theorem Clos.has {S : World → Prop} (h : Clos S) (R : Nat) (obj : Obj) : Clos (fun w => S w ∧ Has base R obj w) :=
  fun w w' ⟨h1, h2⟩ hb => ⟨h w w' h1 hb, h2.below hb⟩
def mkOf (o : Oper) (R : Nat) : Value := match o.op with
  | .buildSlice _ n _ => .slice (some ⟨R, 0, none⟩) n n
  | _ => .pointer (some ⟨R, 0, none⟩)
def Fr (base : Nat) (w w' : World) : Prop := ∀ R obj, Has base R obj w → Has base R obj w'
def mStep (P : Program) (P0 : World → Prop) (base : Nat) (ops : Array Oper) (k : Nat) (o : Oper) (S : World → Prop) (a : Act) (K : (World → Prop) → Act → Prop) : Prop :=
  if Region.wanted o (yielded ops a.tmps) = true then
    match k with
    | 0 => ∃ v, (∀ w, P0 w → Flt v w ((execOp a.eval o).run P w)) ∧ K S (a.put o.dst v)
    | 1 => ∃ v, (∀ w, S w → Does P (fun u w' => u = v ∧ Below w.heap.size w w' ∧ S w') ((execOp a.eval o).run P w)) ∧ K S (a.put o.dst v)
    | 2 => ∃ (α : Type) (_ : Nonempty α) (f : α → Value) (S' : α → World → Prop), (∀ x, Clos (S' x)) ∧ (∀ x w, S' x w → P0 w ∧ S w) ∧ (∀ w, S w → Does P (fun v w' => ∃ x, v = f x ∧ Below w.heap.size w w' ∧ S' x w') ((execOp a.eval o).run P w)) ∧ ∀ x, K (S' x) (a.put o.dst (f x))
    | 3 => ∃ obj : Obj, (∀ w, P0 w → (execOp a.eval o).run P w = .ok (.value (mkOf o w.heap.size)) (w.alloc obj)) ∧ ∀ R, K (fun w => S w ∧ Has base R obj w) (a.put o.dst (mkOf o R))
    | 4 => ∃ S' : World → Prop, Clos S' ∧ (∀ w, S' w → P0 w) ∧ (∀ w, S w → Does P (fun v w' => v = undef ∧ S' w') ((execOp a.eval o).run P w)) ∧ K S' (a.put o.dst undef)
    | k => ∃ (α : Type) (_ : Nonempty α) (f : α → Value) (S' : α → World → Prop), (∀ x, Clos (S' x)) ∧ (∀ x w, S' x w → P0 w) ∧ (∀ w, S w → Does P (fun v w' => ∃ x, v = f x ∧ (k = 5 → Fr base w w') ∧ S' x w') ((execOp a.eval o).run P w)) ∧ ∀ x, K (S' x) (a.put o.dst (f x))
  else K S (a.put o.dst undef)
theorem mStep.mono {k : Nat} {o : Oper} {S : World → Prop} {a : Act} {K K' : (World → Prop) → Act → Prop} (hc : Clos S) (hp : ∀ w, S w → P0 w) (h : ∀ S' a', Clos S' → (∀ w, S' w → P0 w) → K S' a' → K' S' a') (hs : mStep P P0 base ops k o S a K) : mStep P P0 base ops k o S a K' := by
  unfold mStep at *
  split
  · rename_i hw
    rw [if_pos hw] at hs
    rcases k with _ | _ | _ | _ | _ | k
    · obtain ⟨v, h1, h2⟩ := hs; exact ⟨v, h1, h _ _ hc hp h2⟩
    · obtain ⟨v, h1, h2⟩ := hs; exact ⟨v, h1, h _ _ hc hp h2⟩
    · obtain ⟨α, hα, f, S', h1, h2, h3, h4⟩ := hs; exact ⟨α, hα, f, S', h1, h2, h3, fun x => h _ _ (h1 x) (fun w hw => (h2 x w hw).1) (h4 x)⟩
    · obtain ⟨obj, h1, h2⟩ := hs; exact ⟨obj, h1, fun R => h _ _ (hc.has R obj) (fun w hw => hp w hw.1) (h2 R)⟩
    · obtain ⟨S', h1, h2, h3, h4⟩ := hs; exact ⟨S', h1, h2, h3, h _ _ h1 h2 h4⟩
    · obtain ⟨α, hα, f, S', h1, h2, h3, h4⟩ := hs; exact ⟨α, hα, f, S', h1, h2, h3, fun x => h _ _ (h1 x) (fun w hw => h2 x w hw) (h4 x)⟩
  · rename_i hw
    rw [if_neg hw] at hs
    exact h _ _ hc hp hs
def okPair : Nat → Nat → Bool
  | 0, _ => true
  | _, 0 => true
  | 1, 1 => true
  | 1, 2 => true
  | 1, 3 => true
  | 2, 3 => true
  | 3, 3 => true
  | 5, 3 => true
  | _, _ => false
section
variable {oi oj : Oper} {S : World → Prop} {a : Act} {K : (World → Prop) → Act → Prop}
theorem want_swap (hap : oi.apart ops oj = true) (v : Value) : Region.wanted oj (yielded ops (a.put oi.dst v).tmps) = Region.wanted oj (yielded ops a.tmps) := wanted_put oj a oi.dst v (Oper.apart_spec hap).1
theorem exec_swap (hs : ∀ cs b, oj.op ≠ .select cs b) (hap : oi.apart ops oj = true) (v : Value) : execOp (a.put oi.dst v).eval oj = execOp a.eval oj := execOp_put oj hs a oi.dst v (Oper.apart_spec hap).1
theorem apart_symm (h : oi.apart ops oj = true) : oj.apart ops oi = true := by
  obtain ⟨h1, h2, h3⟩ := Oper.apart_spec h
  unfold Oper.apart
  rw [Bool.and_eq_true]
  refine ⟨?_, ?_⟩
  · cases hd : oj.dst with
    | none => rfl
    | some d =>
      have h4 := h3 d hd
      simp only [Bool.and_eq_true, Bool.not_eq_true', bne_iff_ne, ne_eq]
      refine ⟨by simpa using h4, fun e => h2 d e hd⟩
  · cases hd : oi.dst with
    | none => rfl
    | some d =>
      have h4 := h1 d hd
      simpa using h4
theorem mStep_put {k : Nat} {u : Value} (hap : oj.apart ops oi = true) (hs : ∀ cs b, oi.op ≠ .select cs b) (h : mStep P P0 base ops k oi S (a.put oj.dst u) K) :
    mStep P P0 base ops k oi S a (fun S' a' => (∃ x, a' = a.put oi.dst x) ∧ (k < 2 → S' = S) ∧ K S' (a'.put oj.dst u)) := by
  obtain ⟨h1, h2, h3⟩ := Oper.apart_spec hap
  have hcm : ∀ v, (a.put oj.dst u).put oi.dst v = (a.put oi.dst v).put oj.dst u := fun v => Act.put_comm a u v h2
  unfold mStep at *
  rw [wanted_put oi a oj.dst u h1] at h
  rw [execOp_put oi hs a oj.dst u h1] at h
  split
  · rename_i hw
    rw [if_pos hw] at h
    rcases k with _ | _ | _ | _ | _ | k
    · obtain ⟨v, hv, hk⟩ := h
      exact ⟨v, hv, ⟨v, rfl⟩, fun _ => rfl, by rw [← hcm]; exact hk⟩
    · obtain ⟨v, hv, hk⟩ := h
      exact ⟨v, hv, ⟨v, rfl⟩, fun _ => rfl, by rw [← hcm]; exact hk⟩
    · obtain ⟨α, hα, f, S', c1, c2, hv, hk⟩ := h
      exact ⟨α, hα, f, S', c1, c2, hv, fun x => ⟨⟨f x, rfl⟩, fun h => absurd h (by omega), by rw [← hcm]; exact hk x⟩⟩
    · obtain ⟨obj, hv, hk⟩ := h
      exact ⟨obj, hv, fun R => ⟨⟨_, rfl⟩, fun h => absurd h (by omega), by rw [← hcm]; exact hk R⟩⟩
    · obtain ⟨S', c1, c2, hv, hk⟩ := h
      exact ⟨S', c1, c2, hv, ⟨_, rfl⟩, fun h => absurd h (by omega), by rw [← hcm]; exact hk⟩
    · obtain ⟨α, hα, f, S', c1, c2, hv, hk⟩ := h
      exact ⟨α, hα, f, S', c1, c2, hv, fun x => ⟨⟨f x, rfl⟩, fun h => absurd h (by omega), by rw [← hcm]; exact hk x⟩⟩
  · rename_i hw
    rw [if_neg hw] at h
    exact ⟨⟨_, rfl⟩, fun _ => rfl, by rw [← hcm]; exact h⟩
theorem obj_uniq {w : World} {o o' : Obj} {n n' : Next} (h : (Result.ok n (w.alloc o)) = .ok n' (w.alloc o')) : o = o' := by
  have h1 : w.alloc o = w.alloc o' := by injection h
  have h2 := heap_new w o
  rw [h1, heap_new w o'] at h2
  exact (Option.some.inj h2).symm
theorem swap {ki kj : Nat} {w0 : World} (hw0 : P0 w0) (hap : oj.apart ops oi = true) (hsi : ∀ cs b, oi.op ≠ .select cs b) (hsj : ∀ cs b, oj.op ≠ .select cs b) (hok : okPair kj ki = true) (hc : Clos S) (hp : ∀ w, S w → P0 w)
    (h : mStep P P0 base ops kj oj S a (fun S' a' => mStep P P0 base ops ki oi S' a' K)) : mStep P P0 base ops ki oi S a (fun S' a' => mStep P P0 base ops kj oj S' a' K) := by
  have hap' := apart_symm hap
  have wj : ∀ x, Region.wanted oj (yielded ops (a.put oi.dst x).tmps) = Region.wanted oj (yielded ops a.tmps) := fun x => want_swap hap' x
  have ej : ∀ x, execOp (a.put oi.dst x).eval oj = execOp a.eval oj := fun x => exec_swap hsj hap' x
  have wi : ∀ x, Region.wanted oi (yielded ops (a.put oj.dst x).tmps) = Region.wanted oi (yielded ops a.tmps) := fun x => want_swap hap x
  have ei : ∀ x, execOp (a.put oj.dst x).eval oi = execOp a.eval oi := fun x => exec_swap hsi hap x
  have hcm : ∀ u v, (a.put oj.dst u).put oi.dst v = (a.put oi.dst v).put oj.dst u := fun u v => Act.put_comm a u v (Oper.apart_spec hap).2.1
  by_cases hwj : Region.wanted oj (yielded ops a.tmps) = true
  case neg =>
    unfold mStep at h
    rw [if_neg hwj] at h
    refine mStep.mono hc hp (fun S' a' _ _ hk => ?_) (mStep_put hap hsi h)
    obtain ⟨⟨x, rfl⟩, _, hk⟩ := hk
    unfold mStep
    rw [wj, if_neg hwj]
    exact hk
  have h0 : ∀ v, (∀ w, P0 w → Flt v w ((execOp a.eval oj).run P w)) → mStep P P0 base ops ki oi S (a.put oj.dst v) K → mStep P P0 base ops ki oi S a (fun S' a' => mStep P P0 base ops 0 oj S' a' K) := fun v h1 h2 => by
    refine mStep.mono hc hp (fun S' a' _ _ hk => ?_) (mStep_put hap hsi h2)
    obtain ⟨⟨x, rfl⟩, _, hk⟩ := hk
    unfold mStep
    rw [wj, if_pos hwj, ej]
    exact ⟨v, h1, hk⟩
  rcases kj with _ | kj
  · unfold mStep at h
    rw [if_pos hwj] at h
    obtain ⟨v, h1, h2⟩ := h
    exact h0 v h1 h2
  by_cases hwi : Region.wanted oi (yielded ops a.tmps) = true
  case neg =>
    have e : ∀ (S' : World → Prop) x, mStep P P0 base ops ki oi S' (a.put oj.dst x) K → K S' ((a.put oi.dst undef).put oj.dst x) := fun S' x h => by
      unfold mStep at h
      rw [wi, if_neg hwi, hcm] at h
      exact h
    unfold mStep at h ⊢
    rw [if_pos hwj] at h
    rw [if_neg hwi]
    dsimp only
    rw [wj, if_pos hwj]
    simp only [ej]
    rcases kj with _ | _ | _ | _ | kj
    · obtain ⟨v, h1, h2⟩ := h
      exact ⟨v, h1, e _ _ h2⟩
    · obtain ⟨α, hα, f, S', c1, c2, h1, h2⟩ := h
      exact ⟨α, hα, f, S', c1, c2, h1, fun x => e _ _ (h2 x)⟩
    · obtain ⟨obj, h1, h2⟩ := h
      exact ⟨obj, h1, fun R => e _ _ (h2 R)⟩
    · obtain ⟨S', c1, c2, h1, h2⟩ := h
      exact ⟨S', c1, c2, h1, e _ _ h2⟩
    · obtain ⟨α, hα, f, S', c1, c2, h1, h2⟩ := h
      exact ⟨α, hα, f, S', c1, c2, h1, fun x => e _ _ (h2 x)⟩
  rcases ki with _ | ki
  · -- the one that is pulled yields its value in every world
    have e : ∀ (S' : World → Prop) x, mStep P P0 base ops 0 oi S' (a.put oj.dst x) K → ∃ v, (∀ w, P0 w → Flt v w ((execOp a.eval oi).run P w)) ∧ K S' ((a.put oi.dst v).put oj.dst x) := fun S' x h => by
      unfold mStep at h
      rw [wi, if_pos hwi, ei] at h
      obtain ⟨v, h1, h2⟩ := h
      rw [hcm] at h2
      exact ⟨v, h1, h2⟩
    have key : (∃ v, (∀ w, P0 w → Flt v w ((execOp a.eval oi).run P w)) ∧ mStep P P0 base ops (kj + 1) oj S (a.put oi.dst v) K) := by
      unfold mStep at h
      rw [if_pos hwj] at h
      rcases kj with _ | _ | _ | _ | kj
      · obtain ⟨v, h1, h2⟩ := h
        obtain ⟨u, h3, h4⟩ := e _ _ h2
        refine ⟨u, h3, ?_⟩
        unfold mStep
        rw [wj, if_pos hwj, ej]
        exact ⟨v, h1, h4⟩
      · obtain ⟨α, hα, f, S', c1, c2, h1, h2⟩ := h
        obtain ⟨u, h3, _⟩ := e _ _ (h2 (Classical.choice hα))
        refine ⟨u, h3, ?_⟩
        unfold mStep
        rw [wj, if_pos hwj, ej]
        refine ⟨α, hα, f, S', c1, c2, h1, fun x => ?_⟩
        obtain ⟨u', h3', h4⟩ := e _ _ (h2 x)
        rw [Flt.uniq (h3 w0 hw0) (h3' w0 hw0)]
        exact h4
      · obtain ⟨obj, h1, h2⟩ := h
        obtain ⟨u, h3, _⟩ := e _ _ (h2 0)
        refine ⟨u, h3, ?_⟩
        unfold mStep
        rw [wj, if_pos hwj, ej]
        refine ⟨obj, h1, fun R => ?_⟩
        obtain ⟨u', h3', h4⟩ := e _ _ (h2 R)
        rw [Flt.uniq (h3 w0 hw0) (h3' w0 hw0)]
        exact h4
      · obtain ⟨S', c1, c2, h1, h2⟩ := h
        obtain ⟨u, h3, h4⟩ := e _ _ h2
        refine ⟨u, h3, ?_⟩
        unfold mStep
        rw [wj, if_pos hwj, ej]
        exact ⟨S', c1, c2, h1, h4⟩
      · obtain ⟨α, hα, f, S', c1, c2, h1, h2⟩ := h
        obtain ⟨u, h3, _⟩ := e _ _ (h2 (Classical.choice hα))
        refine ⟨u, h3, ?_⟩
        unfold mStep
        rw [wj, if_pos hwj, ej]
        refine ⟨α, hα, f, S', c1, c2, h1, fun x => ?_⟩
        obtain ⟨u', h3', h4⟩ := e _ _ (h2 x)
        rw [Flt.uniq (h3 w0 hw0) (h3' w0 hw0)]
        exact h4
    obtain ⟨v, h1, h2⟩ := key
    unfold mStep
    rw [if_pos hwi]
    exact ⟨v, h1, h2⟩
  rcases ki with _ | ki
  · -- both of the second kind
    rcases kj with _ | kj
    case succ => rcases kj with _ | _ | _ | _ | _ | kj <;> cases hok
    unfold mStep at h
    rw [if_pos hwj] at h
    obtain ⟨v, h1, h2⟩ := h
    rw [wi, if_pos hwi, ei] at h2
    obtain ⟨u, h3, h4⟩ := h2
    unfold mStep
    rw [if_pos hwi]
    refine ⟨u, h3, ?_⟩
    dsimp only
    rw [wj, if_pos hwj, ej]
    exact ⟨v, h1, by rw [← hcm]; exact h4⟩
  rcases ki with _ | ki
  · -- a call that leaves facts is pulled before a read of elder ones
    rcases kj with _ | kj
    case succ => rcases kj with _ | _ | _ | _ | _ | kj <;> cases hok
    unfold mStep at h
    rw [if_pos hwj] at h
    obtain ⟨v, h1, h2⟩ := h
    rw [wi, if_pos hwi, ei] at h2
    obtain ⟨α, hα, f, S', c1, c2, h3, h4⟩ := h2
    unfold mStep
    rw [if_pos hwi]
    refine ⟨α, hα, f, S', c1, c2, h3, fun x => ?_⟩
    dsimp only
    rw [wj, if_pos hwj, ej]
    exact ⟨v, fun w hw => (h1 w (c2 x w hw).2).mono fun u w' ⟨d1, d2, _⟩ => ⟨d1, d2, c1 x _ _ hw d2⟩, by rw [← hcm]; exact h4 x⟩
  rcases ki with _ | ki
  · -- a new block is pulled
    have e : ∀ (S' : World → Prop) x, mStep P P0 base ops 3 oi S' (a.put oj.dst x) K → ∃ obj : Obj, (∀ w, P0 w → (execOp a.eval oi).run P w = .ok (.value (mkOf oi w.heap.size)) (w.alloc obj)) ∧ ∀ R, K (fun w => S' w ∧ Has base R obj w) ((a.put oi.dst (mkOf oi R)).put oj.dst x) := fun S' x h => by
      unfold mStep at h
      rw [wi, if_pos hwi, ei] at h
      obtain ⟨obj, h1, h2⟩ := h
      refine ⟨obj, h1, fun R => ?_⟩
      rw [← hcm]
      exact h2 R
    unfold mStep at h ⊢
    rw [if_pos hwj] at h
    rw [if_pos hwi]
    rcases kj with _ | _ | _ | kj
    · obtain ⟨v, h1, h2⟩ := h
      obtain ⟨obj, h3, h4⟩ := e _ _ h2
      refine ⟨obj, h3, fun R => ?_⟩
      dsimp only
      rw [wj, if_pos hwj, ej]
      exact ⟨v, fun w hw => (h1 w hw.1).mono fun u w' ⟨c1, c2, c3⟩ => ⟨c1, c2, c3, hw.2.below c2⟩, h4 R⟩
    · obtain ⟨α, hα, f, S', c1, c2, h1, h2⟩ := h
      obtain ⟨obj, h3, _⟩ := e _ _ (h2 (Classical.choice hα))
      refine ⟨obj, h3, fun R => ?_⟩
      dsimp only
      rw [wj, if_pos hwj, ej]
      refine ⟨α, hα, f, fun x w => S' x w ∧ Has base R obj w, fun x => (c1 x).has R obj, fun x w hw => ⟨(c2 x w hw.1).1, (c2 x w hw.1).2, hw.2⟩, fun w hw => (h1 w hw.1).mono fun u w' ⟨x, d1, d2, d3⟩ => ⟨x, d1, d2, d3, hw.2.below d2⟩, fun x => ?_⟩
      obtain ⟨obj', h3', h4⟩ := e _ _ (h2 x)
      obtain rfl := obj_uniq ((h3 w0 hw0).symm.trans (h3' w0 hw0))
      exact h4 R
    · obtain ⟨objj, h1, h2⟩ := h
      obtain ⟨obj, h3, _⟩ := e _ _ (h2 0)
      refine ⟨obj, h3, fun R => ?_⟩
      dsimp only
      rw [wj, if_pos hwj, ej]
      refine ⟨objj, h1, fun R' => ?_⟩
      obtain ⟨obj', h3', h4⟩ := e _ _ (h2 R')
      obtain rfl := obj_uniq ((h3 w0 hw0).symm.trans (h3' w0 hw0))
      have e2 : (fun w => (S w ∧ Has base R obj w) ∧ Has base R' objj w) = (fun w => (S w ∧ Has base R' objj w) ∧ Has base R obj w) := by
        funext w
        exact propext ⟨fun ⟨⟨x, y⟩, z⟩ => ⟨⟨x, z⟩, y⟩, fun ⟨⟨x, y⟩, z⟩ => ⟨⟨x, z⟩, y⟩⟩
      rw [e2]
      exact h4 R
    · rcases kj with _ | _ | kj
      · cases hok
      rotate_left
      · cases hok
      obtain ⟨α, hα, f, S', c1, c2, h1, h2⟩ := h
      obtain ⟨obj, h3, _⟩ := e _ _ (h2 (Classical.choice hα))
      refine ⟨obj, h3, fun R => ?_⟩
      dsimp only
      rw [wj, if_pos hwj, ej]
      refine ⟨α, hα, f, fun x w => S' x w ∧ Has base R obj w, fun x => (c1 x).has R obj, fun x w hw => c2 x w hw.1, fun w hw => (h1 w hw.1).mono fun u w' ⟨x, d1, d2, d3⟩ => ⟨x, d1, d2, d3, d2 rfl R obj hw.2⟩, fun x => ?_⟩
      obtain ⟨obj', h3', h4⟩ := e _ _ (h2 x)
      obtain rfl := obj_uniq ((h3 w0 hw0).symm.trans (h3' w0 hw0))
      exact h4 R
  · rcases kj with _ | _ | _ | _ | _ | _ | kj <;> cases hok
end
def wpM (P : Program) (P0 : World → Prop) (base : Nat) (ops : Array Oper) (kd : Nat → Nat) (Q : Act → World → Prop) : List Nat → (World → Prop) → Act → Prop
  | [], S, a => ∀ w, S w → Q a w
  | i :: l, S, a => match ops[i]? with
    | none => False
    | some o => mStep P P0 base ops (kd i) o S a (wpM P P0 base ops kd Q l)
theorem pull {kd : Nat → Nat} {Q : Act → World → Prop} {w0 : World} (hw0 : P0 w0) (hsel : ∀ (j : Nat) (o : Oper) cs b, ops[j]? = some o → o.op ≠ .select cs b) {i : Nat} {oi : Oper} (hi : ops[i]? = some oi) : ∀ (l : List Nat) (S : World → Prop) (a : Act), l.Pairwise (· < ·) → i ∈ l →
    (∀ j ∈ l, j < i → ∀ oj, ops[j]? = some oj → oj.apart ops oi = true ∧ okPair (kd j) (kd i) = true) → Clos S → (∀ w, S w → P0 w) → wpM P P0 base ops kd Q l S a → mStep P P0 base ops (kd i) oi S a (wpM P P0 base ops kd Q (l.erase i))
  | [], _, _, _, hm, _, _, _, _ => by cases hm
  | j :: l, S, a, hl, hm, hcl, hc, hp, h => by
    by_cases hji : j = i
    · subst hji
      rw [List.erase_cons_head]
      unfold wpM at h
      rw [hi] at h
      exact h
    · have hm' : i ∈ l := by
        rcases List.mem_cons.1 hm with e | e
        · exact absurd e.symm hji
        · exact e
      rw [List.pairwise_cons] at hl
      have hlt := hl.1 i hm'
      rw [List.erase_cons_tail (by simpa using hji)]
      unfold wpM at h
      cases hj : ops[j]? with
      | none => rw [hj] at h; exact h.elim
      | some oj =>
        rw [hj] at h
        obtain ⟨hap, hok⟩ := hcl j (List.mem_cons_self ..) hlt oj hj
        have h1 := mStep.mono hc hp (fun S' a' hc' hp' hk => pull hw0 hsel hi l S' a' hl.2 hm' (fun k hk' => hcl k (List.mem_cons_of_mem _ hk')) hc' hp' hk) h
        have h2 := swap hw0 hap (fun cs b => hsel i oi cs b hi) (fun cs b => hsel j oj cs b hj) hok hc hp h1
        refine mStep.mono hc hp (fun S' a' _ _ hk => ?_) h2
        unfold wpM
        rw [hj]
        exact hk
theorem mStep.wp {k : Nat} {o : Oper} {S : World → Prop} {a : Act} {K : (World → Prop) → Act → Prop} {K' : Act → World → Prop} {Q' : Exit → Act → World → Prop} {w : World} (hbase : ∀ w, P0 w → base ≤ w.heap.size) (hc : Clos S) (hSP : ∀ w, S w → P0 w) (hw : S w)
    (h : ∀ S' a' w', Clos S' → (∀ w, S' w → P0 w) → S' w' → K S' a' → K' a' w') (hs : mStep P P0 base ops k o S a K) :
    if Region.wanted o (yielded ops a.tmps) = true then o.wp P a w K' Q' ∨ (o.asks P a w ∧ LetsOut Q') else K' (a.put o.dst undef) w := by
  unfold mStep at hs
  split
  · rename_i hg
    rw [if_pos hg] at hs
    refine .inl ?_
    unfold Oper.wp
    rcases k with _ | _ | _ | _ | _ | k
    · obtain ⟨v, h1, h2⟩ := hs
      exact Does.upon (R := fun u w' => u = v ∧ w' = w) (fun u w' ⟨e1, e2⟩ => by subst e1; subst e2; exact h _ _ _ hc hSP hw h2) (Flt.does ⟨rfl, rfl⟩ (h1 w (hSP w hw)))
    · obtain ⟨v, h1, h2⟩ := hs
      exact Does.upon (fun u w' ⟨e1, _, e2⟩ => by subst e1; exact h _ _ _ hc hSP e2 h2) (h1 w hw)
    · obtain ⟨α, _, f, S', c1, c2, h1, h2⟩ := hs
      exact Does.upon (fun u w' ⟨x, hx, _, hu⟩ => by subst hx; exact h _ _ _ (c1 x) (fun w hw => (c2 x w hw).1) hu (h2 x)) (h1 w hw)
    · obtain ⟨obj, h1, h2⟩ := hs
      rw [h1 w (hSP w hw)]
      exact h _ _ _ (hc.has _ obj) (fun w' hw' => hSP w' hw'.1) ⟨hc w _ hw ((Below.refl _ _).alloc (Nat.le_refl _) _), hbase w (hSP w hw), heap_new w obj⟩ (h2 w.heap.size)
    · obtain ⟨S', c1, c2, h1, h2⟩ := hs
      exact Does.upon (fun u w' ⟨e, hu⟩ => by subst e; exact h _ _ _ c1 c2 hu h2) (h1 w hw)
    · obtain ⟨α, _, f, S', c1, c2, h1, h2⟩ := hs
      exact Does.upon (fun u w' ⟨x, hx, _, hu⟩ => by subst hx; exact h _ _ _ (c1 x) (fun w hw => c2 x w hw) hu (h2 x)) (h1 w hw)
  · rename_i hg
    rw [if_neg hg] at hs
    exact h _ _ _ hc hSP hw hs
def floatB (md : Region.Mode) (ops : Array Oper) (ks : List Nat) : Bool :=
  let an := ancAll md ops.toList []
  (List.range ops.size).all fun j => match ops[j]? with
    | none => true
    | some oj => (oj.after.toList.all fun e => !Region.binds md e || decide (e.on < j)) &&
      (List.range j).all fun i => (an.getD j []).contains i || (okPair (ks.getD i 0) (ks.getD j 0) && match ops[i]? with
        | none => true
        | some oi => oi.apart ops oj)
theorem floatB_spec {ks : List Nat} (h : floatB md ops ks = true) {j : Nat} {oj : Oper} (hj : ops[j]? = some oj) :
    (∀ e ∈ oj.after, Region.binds md e = true → e.on < j) ∧ ∀ i oi, i < j → ops[i]? = some oi → After md ops i j ∨ (okPair (ks.getD i 0) (ks.getD j 0) = true ∧ oi.apart ops oj = true) := by
  unfold floatB at h
  have hjs : j < ops.size := (Array.getElem?_eq_some_iff.1 hj).1
  have h1 := List.all_eq_true.1 h j (List.mem_range.2 hjs)
  rw [hj] at h1
  simp only [Bool.and_eq_true] at h1
  refine ⟨fun e he hb => ?_, fun i oi hi ho => ?_⟩
  · have := List.all_eq_true.1 h1.1 e (by simpa using he)
    simpa [hb] using this
  · have h2 := List.all_eq_true.1 h1.2 i (List.mem_range.2 hi)
    rw [ho] at h2
    simp only [Bool.or_eq_true, Bool.and_eq_true] at h2
    rcases h2 with h2 | ⟨h2, h3⟩
    · refine .inl fun listed hc hr => ?_
      obtain ⟨_, o, ho', hd⟩ := mem_ready.1 hr
      exact ancAll_sound hc ops.toList [] (fun j => by simp) (fun j o hj => absurd hj (Nat.not_lt_zero _)) j o ho' (by rw [length_ancAll]; simpa using hjs) hd i (by simpa using h2)
    · exact .inr ⟨h2, h3⟩
theorem wpAny_of_M {kd : Nat → Nat} {ks : List Nat} (hkd : ∀ i, kd i = ks.getD i 0) {Q : Act → World → Prop} {Q' : Exit → Act → World → Prop} (hQ : ∀ a w, Q a w → Q' .normal a w) {w0 : World} (hw0 : P0 w0) (hbase : ∀ w, P0 w → base ≤ w.heap.size) (hsel : ∀ (j : Nat) (o : Oper) cs b, ops[j]? = some o → o.op ≠ .select cs b) (hB : floatB md ops ks = true) :
    ∀ (fuel : Nat) (listed : Array Bool) (l : List Nat) (S : World → Prop) (a : Act) (w : World), (∀ i, i ∈ l ↔ i < ops.size ∧ listed.getD i true = false) → l.Pairwise (· < ·) → listed.size = ops.size → Closed md ops listed → Clos S → (∀ w, S w → P0 w) → S w → wpM P P0 base ops kd Q l S a → l.length ≤ fuel → wpAny P md ops Q' fuel listed a w
  | 0, listed, l, S, a, w, hm, _, _, _, _, _, hw, h, hf => by
    obtain rfl : l = [] := List.eq_nil_of_length_eq_zero (by omega)
    refine ⟨?_, hQ _ _ (h w hw)⟩
    refine List.eq_nil_iff_forall_not_mem.2 fun j hj => ?_
    obtain ⟨h1, o, ho, _⟩ := mem_ready.1 hj
    exact absurd ((hm j).2 ⟨(Array.getElem?_eq_some_iff.1 ho).1, h1⟩) List.not_mem_nil
  | fuel + 1, listed, l, S, a, w, hm, hpw, hsz, hcl, hc, hp, hw, h, hf => by
    refine ⟨fun h0 => ?_, fun i hi => ?_⟩
    · cases l with
      | nil => exact hQ _ _ (h w hw)
      | cons j l =>
        exfalso
        obtain ⟨hj1, hj2⟩ := (hm j).1 (List.mem_cons_self ..)
        have hoj : ops[j]? = some ops[j] := Array.getElem?_eq_getElem hj1
        have hr : j ∈ Region.ready md ops listed := mem_ready.2 ⟨hj2, _, hoj, fun e he hb => by
          have hlt := (floatB_spec hB hoj).1 e he hb
          cases hv : listed.getD e.on false with
          | true => rfl
          | false =>
            exfalso
            have hes : e.on < listed.size := by omega
            have h3 : listed.getD e.on true = false := by
              rw [Array.getD_eq_getD_getElem?, Array.getElem?_eq_getElem hes] at hv ⊢
              simpa using hv
            have h4 := (hm e.on).2 ⟨by omega, h3⟩
            rw [List.pairwise_cons] at hpw
            rcases List.mem_cons.1 h4 with h5 | h5
            · omega
            · have := hpw.1 _ h5; omega⟩
        rw [h0] at hr
        cases hr
    · obtain ⟨hun, oi, ho, _⟩ := mem_ready.1 hi
      have hil : i ∈ l := (hm i).2 ⟨(Array.getElem?_eq_some_iff.1 ho).1, hun⟩
      have hpl := pull (kd := kd) hw0 hsel ho l S a hpw hil (fun j hj hlt oj hoj => by
        rcases (floatB_spec hB ho).2 j oj hlt hoj with h1 | h1
        · have h2 := h1 listed hcl hi
          have h3 := ((hm j).1 hj).2
          have hjs : j < listed.size := by rw [hsz]; exact ((hm j).1 hj).1
          rw [Array.getD_eq_getD_getElem?, Array.getElem?_eq_getElem hjs] at h2 h3
          simp only [Option.getD_some] at h2 h3
          rw [h2] at h3; cases h3
        · rw [hkd, hkd]; exact ⟨h1.2, h1.1⟩) hc hp h
      unfold wpOp
      rw [ho]
      refine mStep.wp hbase hc hp hw (fun S' a' w' hc' hp' hw' hk => ?_) hpl
      refine wpAny_of_M hkd hQ hw0 hbase hsel hB fuel _ (l.erase i) S' a' w' (fun k => ?_) (hpw.sublist List.erase_sublist) (by rw [Array.size_setIfInBounds]; exact hsz) (hcl.set hi) hc' hp' hw' hk (by rw [List.length_erase_of_mem hil]; omega)
      have hnd : l.Nodup := hpw.imp (fun h => Nat.ne_of_lt h)
      rw [hnd.mem_erase_iff, hm k]
      by_cases hki : i = k
      · subst hki
        have his : i < listed.size := by rw [hsz]; exact (Array.getElem?_eq_some_iff.1 ho).1
        simp [his]
      · rw [getD_set_ne true hki]
        exact ⟨fun h => h.2, fun h => ⟨fun e => hki e.symm, h⟩⟩
structure KS (V : World) (l : List (World → Prop)) (w : World) : Prop where
  old : Below V.heap.size V w
  all : ∀ F ∈ l, ∀ w', Below w.heap.size w w' → F w'
theorem KS.get {V w : World} {l : List (World → Prop)} (h : KS V l w) {F : World → Prop} (hm : F ∈ l) : F w := h.all F hm w (Below.refl _ _)
theorem KS.step {V w w' : World} {l : List (World → Prop)} (h : KS V l w) (hb : Below w.heap.size w w') : KS V l w' :=
  ⟨h.old.trans (hb.mono h.old.size), fun F hF w2 h2 => h.all F hF w2 (hb.trans (h2.mono hb.size))⟩
theorem KS.start (V : World) : KS V [] V := ⟨Below.refl _ _, fun _ h => absurd h List.not_mem_nil⟩
theorem KS.add {V w : World} {l : List (World → Prop)} (h : KS V l w) {F : World → Prop} (hF : ∀ w', Below w.heap.size w w' → F w') : KS V (F :: l) w :=
  ⟨h.old, fun G hG => by
    rcases List.mem_cons.1 hG with rfl | hG
    · exact hF
    · exact h.all G hG⟩
theorem KS.app {V w : World} {l l' : List (World → Prop)} (h : KS V l w) (hF : ∀ F ∈ l', ∀ w', Below w.heap.size w w' → F w') : KS V (l' ++ l) w :=
  ⟨h.old, fun G hG => by
    rcases List.mem_append.1 hG with hG | hG
    · exact hF G hG
    · exact h.all G hG⟩
theorem KS.sub {V w : World} {l l' : List (World → Prop)} (h : KS V l w) (hs : ∀ F ∈ l', F ∈ l) : KS V l' w := ⟨h.old, fun F hF => h.all F (hs F hF)⟩
theorem KS.re {V w : World} {l : List (World → Prop)} (h : KS V l w) : KS w l w := ⟨Below.refl _ _, h.all⟩
theorem KS.drew {V w : World} {l : List (World → Prop)} (h : KS V l w) : KS V l w.drew := h.step (Below.refl _ _).drew
theorem KS.clos (V : World) (l : List (World → Prop)) : Clos (KS V l) := fun _ _ h hb => h.step hb
theorem KS.has {V : World} {l : List (World → Prop)} {R : Nat} {obj : Obj} : (fun w => KS V l w ∧ Has V.heap.size R obj w) = KS V (Has V.heap.size R obj :: l) := by
  funext w
  refine propext ⟨fun ⟨h1, h2⟩ => h1.add fun w' hb => h2.below hb, fun h => ⟨h.sub fun F hF => List.mem_cons_of_mem _ hF, h.get (List.mem_cons_self ..)⟩⟩
def Cls (V : World) (f0 fs : List (World → Prop)) (w : World) : Prop := KS V f0 w ∧ KS V fs w
theorem Cls.clos (V : World) (f0 fs : List (World → Prop)) : Clos (Cls V f0 fs) := fun _ _ h hb => ⟨h.1.step hb, h.2.step hb⟩
theorem Cls.has {V : World} {B : Nat} {f0 l : List (World → Prop)} {R : Nat} {obj : Obj} : (fun w => Cls V f0 l w ∧ Has B R obj w) = Cls V f0 (Has B R obj :: l) := by
  funext w
  refine propext ⟨fun ⟨h1, h2⟩ => ⟨h1.1, h1.2.add fun w' hb => h2.below hb⟩, fun h => ⟨⟨h.1, h.2.sub fun F hF => List.mem_cons_of_mem _ hF⟩, h.2.get (List.mem_cons_self ..)⟩⟩
def wpLx (P : Program) (V : World) (B : Nat) (f0 : List (World → Prop)) (ops : Array Oper) (Q : Act → World → Prop) : List Nat → List Oper → (World → Prop) → Act → Prop
  | _, [], S, a => ∀ w, S w → Q a w
  | [], _ :: _, _, _ => False
  | k :: ks, o :: rest, S, a => mStep P (KS V f0) B ops k o S a (wpLx P V B f0 ops Q ks rest)
structure Lx (P : Program) (V : World) (B : Nat) (f0 : List (World → Prop)) (ops : Array Oper) (Q : Act → World → Prop) (ks : List Nat) (l : List Oper) (fs : List (World → Prop)) (a : Act) : Prop where
  out : wpLx P V B f0 ops Q ks l (Cls V f0 fs) a
section
variable {V : World} {B : Nat} {f0 : List (World → Prop)} {Q : Act → World → Prop} {ks : List Nat} {o : Oper} {rest : List Oper} {fs : List (World → Prop)} {a : Act} {v : Value}
theorem wanted_undef {j d : Nat} {b : Bool} (hg : o.guard = some (j, b)) (hd : (ops[j]?).bind (·.dst) = some d) (hv : slotOf a.tmps.toList d = undef) : Region.wanted o (yielded ops a.tmps) = false := by
  have h1 : yielded ops a.tmps j = none := by
    unfold yielded
    rw [hd]
    have h2 : ∀ (l : List Value) (n : Nat), slotOf l n = undef → l[n]? = some undef ∨ l[n]? = none := fun l => by
      induction l with
      | nil => intro n _; exact .inr (by simp)
      | cons x l ih =>
        intro n h
        cases n with
        | zero => exact .inl (by simpa [slotOf] using h)
        | succ n => simpa using ih n h
    simp only [Option.bind_some]
    rcases h2 _ _ hv with h3 | h3
    · rw [← Array.getElem?_toList, h3]; rfl
    · rw [← Array.getElem?_toList, h3]
  unfold Region.wanted
  rw [hg]
  dsimp only
  rw [h1]
  rfl
abbrev Wants (ops : Array Oper) (o : Oper) (a : Act) : Prop := Region.wanted o (yielded ops a.tmps) = true
theorem wants0 (hg : o.guard = none) : Wants ops o a := wanted_none hg
theorem wantsg {j d : Nat} {b c : Bool} (hg : o.guard = some (j, b)) (hd : (ops[j]?).bind (·.dst) = some d) (hv : slotOf a.tmps.toList d = .bool c) (hc : (c == b) = true) : Wants ops o a := (wanted_some hg hd hv).trans hc
theorem lxF0 (hg : Wants ops o a) (h1 : ∀ w, KS V f0 w → Flt v w ((execOp a.eval o).run P w)) (h : Lx P V B f0 ops Q ks rest fs (a.put o.dst v)) : Lx P V B f0 ops Q (0 :: ks) (o :: rest) fs a := by
  refine ⟨?_⟩
  show mStep _ _ _ _ 0 o _ a _
  unfold mStep
  rw [if_pos hg]
  exact ⟨v, h1, h.out⟩
theorem lxH0 (hg : Wants ops o a) (h1 : ∀ w, KS V f0 w → KS V fs w → Does P (fun u w' => u = v ∧ Below w.heap.size w w') ((execOp a.eval o).run P w)) (h : Lx P V B f0 ops Q ks rest fs (a.put o.dst v)) : Lx P V B f0 ops Q (1 :: ks) (o :: rest) fs a := by
  refine ⟨?_⟩
  show mStep _ _ _ _ 1 o _ a _
  unfold mStep
  rw [if_pos hg]
  exact ⟨v, fun w hw => (h1 w hw.1 hw.2).mono fun u w' ⟨c1, c2⟩ => ⟨c1, c2, Cls.clos _ _ _ _ _ hw c2⟩, h.out⟩
theorem lxA0 (obj : Obj) (hg : Wants ops o a) (h1 : ∀ w, KS V f0 w → (execOp a.eval o).run P w = .ok (.value (mkOf o w.heap.size)) (w.alloc obj)) (h : ∀ R, Lx P V B f0 ops Q ks rest (Has B R obj :: fs) (a.put o.dst (mkOf o R))) : Lx P V B f0 ops Q (3 :: ks) (o :: rest) fs a := by
  refine ⟨?_⟩
  show mStep _ _ _ _ 3 o _ a _
  unfold mStep
  rw [if_pos hg]
  refine ⟨obj, h1, fun R => ?_⟩
  rw [Cls.has]
  exact (h R).out
theorem lxEnd (h : ∀ w, KS V fs w → Q a w) : Lx P V B f0 ops Q ks [] fs a := ⟨by cases ks <;> exact fun w hw => h w hw.2⟩
theorem lx_to_M {kd : Nat → Nat} {ks0 : List Nat} (hkd : ∀ i, kd i = ks0.getD i 0) (hlen : ops.size ≤ ks0.length) : ∀ (l : List Oper) (k : Nat) (S : World → Prop) (a : Act), (∀ j, l[j]? = ops[k + j]?) → wpLx P V B f0 ops Q (ks0.drop k) l S a → wpM P (KS V f0) B ops kd Q (List.range' k l.length) S a
  | [], k, S, a, _, h => by cases hk : ks0.drop k <;> (rw [hk] at h; exact h)
  | o :: l, k, S, a, hl, h => by
    have h0 : ops[k]? = some o := by simpa using (hl 0).symm
    have hks : k < ks0.length := Nat.lt_of_lt_of_le (Array.getElem?_eq_some_iff.1 h0).1 hlen
    have hdrop : ks0.drop k = ks0.getD k 0 :: ks0.drop (k + 1) := by
      rw [List.drop_eq_getElem_cons hks]
      simp [hks]
    rw [hdrop] at h
    rw [List.length_cons, List.range'_succ]
    unfold wpM
    rw [h0]
    dsimp only
    rw [hkd]
    have hk : ∀ S' a', wpLx P V B f0 ops Q (ks0.drop (k + 1)) l S' a' → wpM P (KS V f0) B ops kd Q (List.range' (k + 1) l.length) S' a' := fun S' a' h' =>
      lx_to_M hkd hlen l (k + 1) S' a' (fun j => by have := hl (j + 1); simpa [Nat.add_assoc, Nat.add_comm 1 j] using this) h'
    change mStep P (KS V f0) B ops (ks0.getD k 0) o S a (wpLx P V B f0 ops Q (ks0.drop (k + 1)) l) at h
    generalize ks0.getD k 0 = kk at h
    unfold mStep at h ⊢
    split
    · rename_i hw
      rw [if_pos hw] at h
      rcases kk with _ | _ | _ | _ | _ | kk
      · obtain ⟨v, h1, h2⟩ := h; exact ⟨v, h1, hk _ _ h2⟩
      · obtain ⟨v, h1, h2⟩ := h; exact ⟨v, h1, hk _ _ h2⟩
      · obtain ⟨α, hα, f, S', h1, h2, h3, h4⟩ := h; exact ⟨α, hα, f, S', h1, h2, h3, fun x => hk _ _ (h4 x)⟩
      · obtain ⟨obj, h1, h2⟩ := h; exact ⟨obj, h1, fun R => hk _ _ (h2 R)⟩
      · obtain ⟨S', h1, h2, h3, h4⟩ := h; exact ⟨S', h1, h2, h3, hk _ _ h4⟩
      · obtain ⟨α, hα, f, S', h1, h2, h3, h4⟩ := h; exact ⟨α, hα, f, S', h1, h2, h3, fun x => hk _ _ (h4 x)⟩
    · rename_i hw
      rw [if_neg hw] at h
      exact hk _ _ h
end
theorem wp_region_floatB {id : Nat} {Q : Exit → Act → World → Prop} {a : Act} {w : World} {l : List Oper} (V : World) (B : Nat) (f0 fs : List (World → Prop)) (ks : List Nat) (hm : P.follows .mixedOrders = true)
    (hn : Region.noSelect l.toArray = true) (hlen : (l.length == ks.length) = true) (hst : floatB .any l.toArray ks = true) (hB : ∀ w, KS V f0 w → B ≤ w.heap.size) (hS0 : KS V f0 w.drew) (hS : KS V fs w.drew) (h : Lx P V B f0 l.toArray (fun a w => Q .normal a w) ks l fs a) :
    (Code.region id l.toArray true).wp P Q a w := by
  have hlen' : l.length = ks.length := by simpa using hlen
  refine wp_region_any hm ?_
  refine wpAny_of_M (P0 := KS V f0) (base := B) (kd := fun i => ks.getD i 0) (ks := ks) (fun _ => rfl) (Q := fun a w => Q .normal a w) (fun _ _ h => h) hS0 hB (Region.noSelect_spec hn) hst _ _ (List.range' 0 l.length) (Cls V f0 fs) a _ (fun i => ?_) List.pairwise_lt_range' (by simp) (fun j o hj ht => ?_) (Cls.clos _ _ _) (fun w hw => hw.1) ⟨hS0, hS⟩
    (lx_to_M (ops := l.toArray) (ks0 := ks) (fun _ => rfl) (by simp [hlen']) l 0 _ a (by simp) (by simpa using h.out)) (by simp)
  · rw [List.mem_range'_1]
    constructor
    · intro hi
      have hlt : i < l.length := by omega
      simp [hlt]
    · intro hi
      have := hi.1
      simp at this
      omega
  · have hlt : j < l.toArray.size := (Array.getElem?_eq_some_iff.1 hj).1
    simp at hlt
    simp [hlt] at ht
theorem wp_region_float0 {id : Nat} {Q : Exit → Act → World → Prop} {a : Act} {w : World} {l : List Oper} (V : World) (f0 fs : List (World → Prop)) (ks : List Nat) (hm : P.follows .mixedOrders = true)
    (hn : Region.noSelect l.toArray = true) (hlen : (l.length == ks.length) = true) (hst : floatB .any l.toArray ks = true) (hS0 : KS V f0 w.drew) (hS : KS V fs w.drew) (h : Lx P V V.heap.size f0 l.toArray (fun a w => Q .normal a w) ks l fs a) :
    (Code.region id l.toArray true).wp P Q a w := wp_region_floatB V V.heap.size f0 fs ks hm hn hlen hst (fun _ hw => hw.old.size) hS0 hS h
theorem KS.nil {V w : World} {l : List (World → Prop)} (h : KS V l w) : KS V [] w := ⟨h.old, fun _ h => absurd h List.not_mem_nil⟩
end
structure Sl where
  p : Option Addr
  l : Nat
  c : Nat
instance : Nonempty Sl := ⟨⟨none, 0, 0⟩⟩
structure Duo (α β : Type) where
  a : α
  b : β
instance {α β : Type} [h : Nonempty α] [h' : Nonempty β] : Nonempty (Duo α β) := h.elim fun a => h'.elim fun b => ⟨⟨a, b⟩⟩
def Lasts (l : List (World → Prop)) (w : World) : Prop := ∀ F ∈ l, ∀ w2, Below w.heap.size w w2 → F w2
theorem Lasts.nil (w : World) : Lasts [] w := fun _ h => absurd h List.not_mem_nil
theorem Lasts.cons {F : World → Prop} {l : List (World → Prop)} {w : World} (h : ∀ w2, Below w.heap.size w w2 → F w2) (h' : Lasts l w) : Lasts (F :: l) w := fun G hG => by
  rcases List.mem_cons.1 hG with rfl | hG
  · exact h
  · exact h' G hG
structure Stays (v : Value) (w : World) (u : Value) (w' : World) : Prop where
  eq : u = v
  below : Below w.heap.size w w'
theorem KS.over {V W w : World} {fs l : List (World → Prop)} (h : KS V l W) (h' : KS W fs w) : KS V fs w := ⟨h.old.trans (h'.old.mono h.old.size), h'.all⟩
theorem KS.more {V w : World} {l l' : List (World → Prop)} (h : KS V l w) (h' : Lasts l' w) : KS V (l' ++ l) w := h.app h'
theorem KS.is {V w w' : World} {l : List (World → Prop)} (h : KS V l w) (e : w' = w) : KS V l w' := e ▸ h
theorem KS.subl {V w : World} {l l' : List (World → Prop)} (h : KS V l w) (hs : l'.Sublist l) : KS V l' w := h.sub fun _ hF => hs.subset hF
theorem pA {α : Type _} (l : List α) (i : Nat) (a : α) : l.toArray.setIfInBounds i a = (l.set i a).toArray := List.setIfInBounds_toArray ..
theorem pB {α : Type _} (x : α) (xs : List α) (a : α) : (x :: xs).set 0 a = a :: xs := List.set_cons_zero ..
theorem pC {α : Type _} (x : α) (xs : List α) (i : Nat) (a : α) : (x :: xs).set (i + 1) a = x :: xs.set i a := List.set_cons_succ ..
theorem pD {α : Type _} (x : α) (xs l : List α) : (x :: xs) ++ l = x :: (xs ++ l) := List.cons_append ..
theorem pE {α : Type _} (l : List α) : [] ++ l = l := List.nil_append ..
theorem Calls.hide {P : Program} {f : FuncId} {args : Array Value} {w : World} {Post : Ending → World → Prop} (h : ∀ Q, RowKit.Hid (Post = Q) → Calls P f args w Q) : Calls P f args w Post := h Post (hid rfl)
def putAt (R : Nat) : Nat → List Value → World → World
  | _, [], w => w
  | o, c :: cs, w => putAt R (o + 1) cs (w.setCell ⟨R, o, none⟩ c)
def setL : List Value → Nat → List Value → List Value
  | l, _, [] => l
  | l, o, c :: cs => setL (l.set o c) (o + 1) cs
theorem put_size (R : Nat) : ∀ (cs : List Value) (o : Nat) (w : World), w.heap.size ≤ (putAt R o cs w).heap.size
  | [], _, _ => Nat.le_refl _
  | c :: cs, o, w => Nat.le_trans (by simp [World.setCell]) (put_size R cs (o + 1) (w.setCell ⟨R, o, none⟩ c))
theorem put_far {R g : Nat} (hne : g ≠ R) : ∀ (cs : List Value) (o : Nat) (w : World), (putAt R o cs w).heap[g]? = w.heap[g]?
  | [], _, _ => rfl
  | c :: cs, o, w => (put_far hne cs (o + 1) (w.setCell ⟨R, o, none⟩ c)).trans (setCell_far _ hne)
theorem put_at {R : Nat} {t : TypeId} : ∀ (cs : List Value) (o : Nat) (l : List Value) (w : World), w.heap[R]? = some (.cells l.toArray t) → (putAt R o cs w).heap[R]? = some (.cells (setL l o cs).toArray t)
  | [], _, _, _, h => h
  | c :: cs, o, l, w, h => put_at cs (o + 1) (l.set o c) (w.setCell ⟨R, o, none⟩ c) (by rw [heap_setCell_at h c, List.setIfInBounds_toArray])
def Spares (R : Nat) (w : World) (F : World → Prop) : Prop := ∀ w1, w.heap.size ≤ w1.heap.size → (∀ g, g ≠ R → g < w.heap.size → w1.heap[g]? = w.heap[g]?) → ∀ w2, Below w1.heap.size w1 w2 → F w2
theorem Spares.put {R : Nat} {w : World} {F : World → Prop} (h : Spares R w F) (o : Nat) (cs : List Value) : ∀ w', Below (putAt R o cs w).heap.size (putAt R o cs w) w' → F w' :=
  h _ (put_size R cs o w) (fun _ hg _ => put_far hg cs o w)
theorem has_put {base R : Nat} {w w' : World} {l : List Value} {t : TypeId} (h : Has base R (.cells l.toArray t) w) (o : Nat) (cs : List Value) (hb : Below (putAt R o cs w).heap.size (putAt R o cs w) w') : Has base R (.cells (setL l o cs).toArray t) w' :=
  Has.below ⟨h.1, put_at cs o l w h.2⟩ hb
theorem Has.ltS {base R : Nat} {w : World} {obj : Obj} (h : Has base R obj w) : R < w.heap.size := (Array.getElem?_eq_some_iff.1 h.2).1
theorem has_spare {base R R' : Nat} {obj : Obj} {w : World} (h : Has base R' obj w) (hne : R' ≠ R) : Spares R w (Has base R' obj) := fun _ _ hf _ hb =>
  Has.below ⟨h.1, (hf R' hne (Array.getElem?_eq_some_iff.1 h.2).1).trans h.2⟩ hb
section
variable {R R' base o : Nat} {cs : List Value} {w : World} {obj : Obj}
end
theorem aN {P : (World → Prop) → Prop} : ∀ F ∈ ([] : List (World → Prop)), P F := fun _ h => absurd h List.not_mem_nil
theorem m0 {α : Type _} {a : α} {l : List α} : a ∈ a :: l := List.mem_cons_self ..
theorem ms {α : Type _} {a b : α} {l : List α} (h : a ∈ l) : a ∈ b :: l := List.mem_cons_of_mem _ h
theorem m1 {α : Type _} {a : α} {b0 : α} {l : List α} : a ∈ b0 :: a :: l := ms m0
theorem m2 {α : Type _} {a : α} {b0 b1 : α} {l : List α} : a ∈ b0 :: b1 :: a :: l := ms m1
theorem m3 {α : Type _} {a : α} {b0 b1 b2 : α} {l : List α} : a ∈ b0 :: b1 :: b2 :: a :: l := ms m2
theorem m4 {α : Type _} {a : α} {b0 b1 b2 b3 : α} {l : List α} : a ∈ b0 :: b1 :: b2 :: b3 :: a :: l := ms m3
theorem m5 {α : Type _} {a : α} {b0 b1 b2 b3 b4 : α} {l : List α} : a ∈ b0 :: b1 :: b2 :: b3 :: b4 :: a :: l := ms m4
theorem m6 {α : Type _} {a : α} {b0 b1 b2 b3 b4 b5 : α} {l : List α} : a ∈ b0 :: b1 :: b2 :: b3 :: b4 :: b5 :: a :: l := ms m5
theorem m7 {α : Type _} {a : α} {b0 b1 b2 b3 b4 b5 b6 : α} {l : List α} : a ∈ b0 :: b1 :: b2 :: b3 :: b4 :: b5 :: b6 :: a :: l := ms m6
theorem m8 {α : Type _} {a : α} {b0 b1 b2 b3 b4 b5 b6 b7 : α} {l : List α} : a ∈ b0 :: b1 :: b2 :: b3 :: b4 :: b5 :: b6 :: b7 :: a :: l := ms m7
theorem m9 {α : Type _} {a : α} {b0 b1 b2 b3 b4 b5 b6 b7 b8 : α} {l : List α} : a ∈ b0 :: b1 :: b2 :: b3 :: b4 :: b5 :: b6 :: b7 :: b8 :: a :: l := ms m8
theorem Has.at {base R : Nat} {w : World} {l : List Value} {t : TypeId} (h : Has base R (.cells l.toArray t) w) (o : Nat) {c : Value} (hc : l[o]? = some c) : w.cell? ⟨R, o, none⟩ = some c := by
  unfold World.cell?
  rw [h.2]
  simpa using hc
theorem Has.c2 {base R : Nat} {w : World} {a b : Value} {t : TypeId} (H : Has base R (.cells #[a, b] t) w) : w.cell? ⟨R, 0, none⟩ = some a ∧ w.cell? ⟨R, 1, none⟩ = some b := ⟨H.at 0 rfl, H.at 1 rfl⟩
theorem Has.c3 {base R : Nat} {w : World} {a b c : Value} {t : TypeId} (H : Has base R (.cells #[a, b, c] t) w) : w.cell? ⟨R, 0, none⟩ = some a ∧ w.cell? ⟨R, 1, none⟩ = some b ∧ w.cell? ⟨R, 2, none⟩ = some c := ⟨H.at 0 rfl, H.at 1 rfl, H.at 2 rfl⟩
theorem Has.c4 {base R : Nat} {w : World} {a b c d : Value} {t : TypeId} (H : Has base R (.cells #[a, b, c, d] t) w) : w.cell? ⟨R, 0, none⟩ = some a ∧ w.cell? ⟨R, 1, none⟩ = some b ∧ w.cell? ⟨R, 2, none⟩ = some c ∧ w.cell? ⟨R, 3, none⟩ = some d := ⟨H.at 0 rfl, H.at 1 rfl, H.at 2 rfl, H.at 3 rfl⟩
theorem Has.c5 {base R : Nat} {w : World} {a b c d e : Value} {t : TypeId} (H : Has base R (.cells #[a, b, c, d, e] t) w) : w.cell? ⟨R, 0, none⟩ = some a ∧ w.cell? ⟨R, 1, none⟩ = some b ∧ w.cell? ⟨R, 2, none⟩ = some c ∧ w.cell? ⟨R, 3, none⟩ = some d ∧ w.cell? ⟨R, 4, none⟩ = some e := ⟨H.at 0 rfl, H.at 1 rfl, H.at 2 rfl, H.at 3 rfl, H.at 4 rfl⟩
theorem Has.c6 {base R : Nat} {w : World} {a b c d e f : Value} {t : TypeId} (H : Has base R (.cells #[a, b, c, d, e, f] t) w) : w.cell? ⟨R, 0, none⟩ = some a ∧ w.cell? ⟨R, 1, none⟩ = some b ∧ w.cell? ⟨R, 2, none⟩ = some c ∧ w.cell? ⟨R, 3, none⟩ = some d ∧ w.cell? ⟨R, 4, none⟩ = some e ∧ w.cell? ⟨R, 5, none⟩ = some f := ⟨H.at 0 rfl, H.at 1 rfl, H.at 2 rfl, H.at 3 rfl, H.at 4 rfl, H.at 5 rfl⟩
theorem Has.c7 {base R : Nat} {w : World} {a b c d e f g : Value} {t : TypeId} (H : Has base R (.cells #[a, b, c, d, e, f, g] t) w) : w.cell? ⟨R, 0, none⟩ = some a ∧ w.cell? ⟨R, 1, none⟩ = some b ∧ w.cell? ⟨R, 2, none⟩ = some c ∧ w.cell? ⟨R, 3, none⟩ = some d ∧ w.cell? ⟨R, 4, none⟩ = some e ∧ w.cell? ⟨R, 5, none⟩ = some f ∧ w.cell? ⟨R, 6, none⟩ = some g := ⟨H.at 0 rfl, H.at 1 rfl, H.at 2 rfl, H.at 3 rfl, H.at 4 rfl, H.at 5 rfl, H.at 6 rfl⟩
theorem Has.c8 {base R : Nat} {w : World} {a b c d e f g h : Value} {t : TypeId} (H : Has base R (.cells #[a, b, c, d, e, f, g, h] t) w) : w.cell? ⟨R, 0, none⟩ = some a ∧ w.cell? ⟨R, 1, none⟩ = some b ∧ w.cell? ⟨R, 2, none⟩ = some c ∧ w.cell? ⟨R, 3, none⟩ = some d ∧ w.cell? ⟨R, 4, none⟩ = some e ∧ w.cell? ⟨R, 5, none⟩ = some f ∧ w.cell? ⟨R, 6, none⟩ = some g ∧ w.cell? ⟨R, 7, none⟩ = some h := ⟨H.at 0 rfl, H.at 1 rfl, H.at 2 rfl, H.at 3 rfl, H.at 4 rfl, H.at 5 rfl, H.at 6 rfl, H.at 7 rfl⟩
theorem Has.fz {base R : Nat} {w : World} {c : Array Value} {t : TypeId} (h : Has base R (.cells c t) w) : ∀ o, w.frozen? ⟨R, o, none⟩ = false := by intro o; simp [World.frozen?, h.2]
section
variable {P : Program} {V : World} {ops : Array Oper} {Q : Exit → Act → World → Prop} {o : Oper} {rest : List Oper} {fs : List (World → Prop)} {a : Act} {v : Value}
structure Tx (P : Program) (V : World) (ops : Array Oper) (Q : Exit → Act → World → Prop) (l : List Oper) (fs : List (World → Prop)) (a : Act) : Prop where
  out : ∀ w, KS V fs w → wpList P ops Q l a w
theorem tx_step (k : Nat) (h : mStep P (KS V []) V.heap.size ops k o (KS V fs) a (fun S' a' => ∀ w, S' w → wpList P ops Q rest a' w)) : Tx P V ops Q (o :: rest) fs a :=
  ⟨fun _ hw => mStep.wp (P0 := KS V []) (base := V.heap.size) (K' := fun a' w' => wpList P ops Q rest a' w') (fun _ hw => hw.old.size) (KS.clos _ _) (fun _ hw => hw.nil) hw (fun _ _ w' _ _ hw' hk => hk w' hw') h⟩
theorem txF (hg : Wants ops o a) (h1 : ∀ w, KS V fs w → Flt v w ((execOp a.eval o).run P w)) (h : Tx P V ops Q rest fs (a.put o.dst v)) : Tx P V ops Q (o :: rest) fs a := by
  refine tx_step 1 ?_
  unfold mStep
  rw [if_pos hg]
  exact ⟨v, fun w hw => Flt.does ⟨rfl, Below.refl _ _, hw⟩ (h1 w hw), h.out⟩
theorem txB (b : Bool) (hg : Wants ops o a) (h1 : ∀ w, KS V fs w → Flt (.bool b) w ((execOp a.eval o).run P w)) (h : Tx P V ops Q rest fs (a.put o.dst (.bool b))) : Tx P V ops Q (o :: rest) fs a := txF hg h1 h
theorem txH (hg : Wants ops o a) (h1 : ∀ u, RowKit.Hid (v = u) → ∀ w, KS V fs w → Does P (Stays u w) ((execOp a.eval o).run P w)) (h : Tx P V ops Q rest fs (a.put o.dst v)) : Tx P V ops Q (o :: rest) fs a := by
  refine tx_step 1 ?_
  unfold mStep
  rw [if_pos hg]
  exact ⟨v, fun w hw => (h1 v (hid rfl) w hw).mono fun u w' ⟨c1, c2⟩ => ⟨c1, c2, hw.step c2⟩, h.out⟩
theorem txEnd (h : ∀ w, KS V fs w → Q .normal a w) : Tx P V ops Q [] fs a := ⟨fun w hw => h w hw⟩
theorem wp_region_tx {id : Nat} {w : World} {l : List Oper} (V : World) {fs : List (World → Prop)} (hS : KS V fs w) (h : Tx P V l.toArray Q l fs a) : (Code.region id l.toArray false).wp P Q a w :=
  wp_region_lit (h.out w hS)
variable {B : Nat} {f0 : List (World → Prop)} {Q2 : Act → World → Prop} {ks : List Nat}
theorem lxH1 (hg : Wants ops o a) (h1 : ∀ u, RowKit.Hid (v = u) → ∀ w, KS V f0 w → KS V fs w → Does P (Stays u w) ((execOp a.eval o).run P w)) (h : Lx P V B f0 ops Q2 ks rest fs (a.put o.dst v)) : Lx P V B f0 ops Q2 (1 :: ks) (o :: rest) fs a :=
  lxH0 hg (fun w h0 hK => (h1 v (hid rfl) w h0 hK).mono fun _ _ ⟨c1, c2⟩ => ⟨c1, c2⟩) h
end
structure EK (α : Type) where
  sz : Nat
  pos : 0 < sz
  R : World → List Value → α → Prop
  len : ∀ {w cs x}, R w cs x → cs.length = sz
  one : ∀ {w cs x}, R w cs x → ∀ u ∈ cs, u.oneCell' = true
  below : ∀ {w w' cs x}, R w cs x → Below w.heap.size w w' → R w' cs x
abbrev EK.Free {α : Type} (K : EK α) : Prop := ∀ (w w' : World) (cs : List Value) (x : α), K.R w cs x → K.R w' cs x
section
variable {α : Type} {K : EK α} {t : TypeId} {base g : Nat} {w w' : World} {v : Value} {xs ys : List α} {css dss : List (List Value)} {P : Program}
structure Els (K : EK α) (w : World) (css : List (List Value)) (xs : List α) : Prop where
  len : css.length = xs.length
  el : ∀ (k : Nat) cs x, css[k]? = some cs → xs[k]? = some x → K.R w cs x
theorem Els.nil : Els K w [] [] := ⟨rfl, fun k cs x h => by simp at h⟩
theorem Els.below (h : Els K w css xs) (hb : Below w.heap.size w w') : Els K w' css xs := ⟨h.len, fun k cs x h1 h2 => K.below (h.el k cs x h1 h2) hb⟩
theorem Els.mem (h : Els K w css xs) {cs : List Value} (hc : cs ∈ css) : ∃ x ∈ xs, K.R w cs x := by
  obtain ⟨k, hk, rfl⟩ := List.getElem_of_mem hc
  have hk' : k < xs.length := h.len ▸ hk
  exact ⟨xs[k], List.getElem_mem hk', h.el k _ _ (List.getElem?_eq_getElem hk) (List.getElem?_eq_getElem hk')⟩
theorem Els.sizes (h : Els K w css xs) : ∀ cs ∈ css, cs.length = K.sz := fun _ hc => by
  obtain ⟨x, _, hr⟩ := h.mem hc
  exact K.len hr
theorem Els.ones (h : Els K w css xs) : ∀ u ∈ css.flatten, u.oneCell' = true := fun u hu => by
  obtain ⟨cs, hc, hu⟩ := List.mem_flatten.1 hu
  obtain ⟨x, _, hr⟩ := h.mem hc
  exact K.one hr u hu
theorem Els.append (h : Els K w css xs) (h' : Els K w dss ys) : Els K w (css ++ dss) (xs ++ ys) := by
  refine ⟨by rw [List.length_append, List.length_append, h.len, h'.len], fun k cs x h1 h2 => ?_⟩
  have hl := h.len
  by_cases hk : k < css.length
  · rw [List.getElem?_append_left hk] at h1
    rw [List.getElem?_append_left (by omega)] at h2
    exact h.el k cs x h1 h2
  · rw [List.getElem?_append_right (by omega)] at h1
    rw [List.getElem?_append_right (by omega)] at h2
    rw [hl] at h1
    exact h'.el _ cs x h1 h2
theorem Els.one {cs : List Value} {x : α} (h : K.R w cs x) : Els K w [cs] [x] := ⟨rfl, fun k cs' x' h1 h2 => by
  cases k with
  | zero => simp at h1 h2; subst h1; subst h2; exact h
  | succ k => simp at h1⟩
theorem Els.set (h : Els K w css xs) {cs : List Value} {x : α} (hr : K.R w cs x) (k : Nat) : Els K w (css.set k cs) (xs.set k x) := by
  refine ⟨by simp [h.len], fun j cs' x' h1 h2 => ?_⟩
  by_cases e : k = j
  · subst e
    rw [List.getElem?_set_self'] at h1 h2
    cases e1 : css[k]? with
    | none => rw [e1] at h1; cases h1
    | some a =>
      cases e2 : xs[k]? with
      | none => rw [e2] at h2; cases h2
      | some b =>
        rw [e1] at h1
        rw [e2] at h2
        simp at h1 h2
        subst h1; subst h2; exact hr
  · rw [List.getElem?_set_ne e] at h1 h2
    exact h.el j cs' x' h1 h2
theorem Els.take (h : Els K w css xs) (n : Nat) : Els K w (css.take n) (xs.take n) := by
  refine ⟨by rw [List.length_take, List.length_take, h.len], fun k cs x h1 h2 => ?_⟩
  rw [List.getElem?_take] at h1 h2
  split at h1
  · rename_i hk; rw [if_pos hk] at h2; exact h.el k cs x h1 h2
  · cases h1
theorem Els.drop (h : Els K w css xs) (n : Nat) : Els K w (css.drop n) (xs.drop n) := by
  refine ⟨by rw [List.length_drop, List.length_drop, h.len], fun k cs x h1 h2 => ?_⟩
  rw [List.getElem?_drop] at h1 h2
  exact h.el _ cs x h1 h2
theorem Els.free (hK : K.Free) (h : Els K w css xs) : Els K w' css xs := ⟨h.len, fun k cs x h1 h2 => hK _ _ _ _ (h.el k cs x h1 h2)⟩
theorem flat_len {sz : Nat} : ∀ (css : List (List Value)), (∀ cs ∈ css, cs.length = sz) → css.flatten.length = css.length * sz
  | [], _ => by simp
  | c :: css, h => by
    rw [List.flatten_cons, List.length_append, flat_len css (fun x hx => h x (List.mem_cons_of_mem _ hx)), h c (List.mem_cons_self ..), List.length_cons, Nat.succ_mul, Nat.add_comm]
theorem flat_at {sz : Nat} : ∀ (css : List (List Value)), (∀ cs ∈ css, cs.length = sz) → ∀ (k j : Nat) (cs : List Value), css[k]? = some cs → j < sz → css.flatten[k * sz + j]? = cs[j]?
  | [], _, k, j, cs, h, _ => by simp at h
  | c :: css, h, k, j, cs, hk, hj => by
    have hc := h c (List.mem_cons_self ..)
    rw [List.flatten_cons]
    cases k with
    | zero =>
      simp at hk
      subst hk
      rw [Nat.zero_mul, Nat.zero_add, List.getElem?_append_left (by omega)]
    | succ k =>
      rw [List.getElem?_append_right (by rw [Nat.succ_mul]; omega), hc, show (k + 1) * sz + j - sz = k * sz + j by rw [Nat.succ_mul]; omega]
      exact flat_at css (fun x hx => h x (List.mem_cons_of_mem _ hx)) k j cs (by simpa using hk) hj
theorem flat_set {sz : Nat} : ∀ (css : List (List Value)), (∀ cs ∈ css, cs.length = sz) → ∀ (k : Nat) (cs : List Value), cs.length = sz → k < css.length → (css.set k cs).flatten = setL css.flatten (k * sz) cs := by
  have key : ∀ (l m cs : List Value) (o : Nat), o = l.length → ∀ r, cs.length = r.length → setL (l ++ (r ++ m)) o cs = l ++ (cs ++ m) := by
    intro l m cs
    induction cs generalizing l with
    | nil => intro o _ r hr; obtain rfl : r = [] := List.eq_nil_of_length_eq_zero (by simpa using hr.symm); rfl
    | cons c cs ih =>
      intro o ho r hr
      cases r with
      | nil => simp at hr
      | cons a r =>
        subst ho
        unfold setL
        have e : (l ++ (a :: r ++ m)).set l.length c = (l ++ [c]) ++ (r ++ m) := by simp
        rw [e, ih (l ++ [c]) (l.length + 1) (by simp) r (by simpa using hr)]
        simp
  intro css h k cs hcs hk
  have h1 : css = css.take k ++ (css[k] :: css.drop (k + 1)) := by rw [← List.drop_eq_getElem_cons hk, List.take_append_drop]
  have h2 : css.set k cs = css.take k ++ (cs :: css.drop (k + 1)) := List.set_eq_take_append_cons_drop.trans (if_pos hk)
  have h3 : css.flatten = (css.take k).flatten ++ (css[k] ++ (css.drop (k + 1)).flatten) := by
    have := congrArg List.flatten h1
    rw [List.flatten_append, List.flatten_cons] at this
    exact this
  rw [h2, h3, List.flatten_append, List.flatten_cons]
  refine (key _ _ _ _ ?_ _ ?_).symm
  · rw [flat_len (sz := sz) _ (fun x hx => h x (List.mem_of_mem_take hx)), List.length_take, Nat.min_eq_left (by omega)]
  · rw [hcs, h _ (List.getElem_mem hk)]
def SlV (K : EK α) (w : World) (v : Value) (xs : List α) : Prop := ∃ css, Els K w css xs ∧ ((xs = [] ∧ ∃ p c, v = .slice p 0 c) ∨ ∃ g o c, v = .slice (some ⟨g, o, none⟩) xs.length c ∧ g < w.heap.size ∧ xs.length ≤ c ∧ c ≤ 9223372036854775807 ∧ ∀ k cs j u, css[k]? = some cs → cs[j]? = some u → w.cell? ⟨g, o + k * K.sz + j, none⟩ = some u)
theorem SlV.below (h : SlV K w v xs) (hb : Below w.heap.size w w') : SlV K w' v xs := by
  obtain ⟨css, h1, h2⟩ := h
  refine ⟨css, h1.below hb, h2.imp id fun ⟨g, o, c, e, hl, hc1, hc2, ha⟩ => ⟨g, o, c, e, Nat.lt_of_lt_of_le hl hb.size, hc1, hc2, fun k cs j u c1 c2 => (hb.cell (p := ⟨g, _, none⟩) hl).trans (ha k cs j u c1 c2)⟩⟩
theorem SlV.nil {p : Option Addr} {c : Nat} : SlV K w (.slice p 0 c) [] := ⟨[], .nil, .inl ⟨rfl, p, c, rfl⟩⟩
theorem SlV.sh (h : SlV K w v xs) : ∃ p c, v = .slice p xs.length c ∧ (xs ≠ [] → ∃ g o, p = some ⟨g, o, none⟩ ∧ g < w.heap.size ∧ xs.length ≤ c ∧ c ≤ 9223372036854775807) := by
  obtain ⟨css, h1, ⟨rfl, p, c, rfl⟩ | ⟨g, o, c, rfl, hl, hc1, hc2, ha⟩⟩ := h
  · exact ⟨p, c, rfl, fun h => absurd rfl h⟩
  · exact ⟨_, c, rfl, fun _ => ⟨g, o, rfl, hl, hc1, hc2⟩⟩
def CelAt (g o : Nat) (cs : List Value) (w : World) : Prop := g < w.heap.size ∧ ∀ j u, cs[j]? = some u → w.cell? ⟨g, o + j, none⟩ = some u
theorem CelAt.below {g o : Nat} {cs : List Value} (h : CelAt g o cs w) (hb : Below w.heap.size w w') : CelAt g o cs w' := ⟨Nat.lt_of_lt_of_le h.1 hb.size, fun j u hu => (hb.cell (p := ⟨g, _, none⟩) h.1).trans (h.2 j u hu)⟩
theorem CelAt.spare {g o R : Nat} {cs : List Value} (h : CelAt g o cs w) (hne : g ≠ R) : Spares R w (CelAt g o cs) := fun w1 hs hf w2 hb => by
  refine ⟨Nat.lt_of_lt_of_le h.1 (Nat.le_trans hs hb.size), fun j u hu => ?_⟩
  rw [(hb.cell (p := ⟨g, _, none⟩) (Nat.lt_of_lt_of_le h.1 hs)), ← h.2 j u hu]
  exact World.cell?_of_block (hf g hne h.1)
theorem SlV.at {g o n c k : Nat} {x : α} (h : SlV K w (.slice (some ⟨g, o, none⟩) n c) xs) (hx : xs[k]? = some x) : ∃ cs, CelAt g (o + k * K.sz) cs w ∧ K.R w cs x := by
  obtain ⟨css, h1, ⟨rfl, p, c, e⟩ | ⟨g', o', c', e, hl, hc1, hc2, ha⟩⟩ := h
  · simp at hx
  · injection e with e1 e2 e3
    injection e1 with e1
    injection e1 with e1 e4 e5
    subst e1; subst e4
    have hk := (List.getElem?_eq_some_iff.1 hx).1
    have hk' : k < css.length := h1.len ▸ hk
    have hc : css[k]? = some css[k] := List.getElem?_eq_getElem hk'
    exact ⟨css[k], ⟨hl, fun j u hu => ha k _ j u hc hu⟩, h1.el k _ x hc hx⟩
theorem SlV.ptr {p : Option Addr} {n c k : Nat} {x : α} (h : SlV K w (.slice p n c) xs) (hx : xs[k]? = some x) : ∃ g o, p = some ⟨g, o, none⟩ ∧ g < w.heap.size := by
  obtain ⟨css, h1, ⟨rfl, p', c', e⟩ | ⟨g, o, c', e, hl, _⟩⟩ := h
  · simp at hx
  · injection e with e1 e2 e3
    exact ⟨g, o, e1, hl⟩
theorem KS.at {V : World} {l : List (World → Prop)} {g o n c k : Nat} {x : α} (hK : KS V l w) (h : SlV K w (.slice (some ⟨g, o, none⟩) n c) xs) (hx : xs[k]? = some x) : ∃ cs, KS V (CelAt g (o + k * K.sz) cs :: (fun w => K.R w cs x) :: l) w := by
  obtain ⟨cs, h1, h2⟩ := h.at hx
  exact ⟨cs, (hK.add (F := fun w => K.R w cs x) fun w' hb => K.below h2 hb).add fun w' hb => h1.below hb⟩
theorem SlV.one {R c : Nat} {cs : List Value} {x : α} {ty : TypeId} (h : Has base R (.cells cs.toArray ty) w) (hr : K.R w cs x) (hc : 1 ≤ c) (hc2 : c ≤ 9223372036854775807) : SlV K w (.slice (some ⟨R, 0, none⟩) 1 c) [x] := by
  refine ⟨[cs], .one hr, .inr ⟨R, 0, c, rfl, h.ltS, hc, hc2, fun k cs' j u c1 c2 => ?_⟩⟩
  cases k with
  | zero =>
    simp at c1
    subst c1
    rw [show 0 + 0 * K.sz + j = j by omega]
    exact h.at j c2
  | succ k => simp at c1
theorem SlV.take {p : Option Addr} {n c m : Nat} (h : SlV K w (.slice p n c) xs) (hm : m ≤ xs.length) : SlV K w (.slice p m c) (xs.take m) := by
  obtain ⟨css, h1, ⟨rfl, p', c', e⟩ | ⟨g, o, c', e, hl, hc1, hc2, ha⟩⟩ := h
  · obtain rfl : m = 0 := by simpa using hm
    exact .nil
  · injection e with e1 e2 e3
    subst e1; subst e3
    refine ⟨css.take m, h1.take m, .inr ⟨g, o, c, ?_, hl, by rw [List.length_take]; omega, hc2, fun k cs j u c1 c2 => ?_⟩⟩
    · rw [List.length_take, Nat.min_eq_left hm]
    · rw [List.getElem?_take] at c1
      split at c1
      · exact ha k cs j u c1 c2
      · cases c1
theorem SlV.drop {g o n c m : Nat} (h : SlV K w (.slice (some ⟨g, o, none⟩) n c) xs) (hm : m ≤ xs.length) : SlV K w (.slice (some ⟨g, o + m * K.sz, none⟩) (xs.length - m) (c - m)) (xs.drop m) := by
  obtain ⟨css, h1, ⟨rfl, p', c', e⟩ | ⟨g', o', c', e, hl, hc1, hc2, ha⟩⟩ := h
  · refine ⟨[], ?_, .inl ⟨by simp, _, _, by simp; exact ⟨rfl, rfl⟩⟩⟩
    simpa using Els.nil
  · injection e with e1 e2 e3
    injection e1 with e1
    injection e1 with e1 e4 e5
    subst e1; subst e4; subst e3
    refine ⟨css.drop m, h1.drop m, .inr ⟨g, _, _, by rw [List.length_drop], hl, by rw [List.length_drop]; omega, by omega, fun k cs j u c1 c2 => ?_⟩⟩
    rw [List.getElem?_drop] at c1
    have := ha _ cs j u c1 c2
    rw [show o + m * K.sz + k * K.sz + j = o + (m + k) * K.sz + j by rw [Nat.add_mul]; omega]
    exact this
end
def intK : EK Int where
  sz := 1
  pos := by decide
  R := fun _ cs x => cs = [.int .i64 x]
  len := fun e => by rw [e]; rfl
  one := fun e u hu => by
    subst e
    simp only [List.mem_cons, List.not_mem_nil, or_false] at hu
    subst hu; rfl
  below := fun e _ => e
def strK : EK (List UInt8) where
  sz := 1
  pos := by decide
  R := fun _ cs x => cs = [.string ⟨x.toArray⟩]
  len := fun e => by rw [e]; rfl
  one := fun e u hu => by
    subst e
    simp only [List.mem_cons, List.not_mem_nil, or_false] at hu
    subst hu; rfl
  below := fun e _ => e
section
variable {α : Type} {V w : World} {l : List (World → Prop)} {g o n c k : Nat}
theorem KS.atI {xs : List Int} {x : Int} (hK : KS V l w) (h : SlV intK w (.slice (some ⟨g, o, none⟩) n c) xs) (hx : xs[k]? = some x) : KS V (CelAt g (o + k * 1) [.int .i64 x] :: l) w := by
  obtain ⟨cs, h1, rfl⟩ := h.at hx
  exact hK.add fun w' hb => h1.below hb
theorem SlV.ofBox {K : EK α} {f : α → List Value} (hf : ∀ w x, K.R w (f x) x) {xs : List α} {base R : Nat} {ty : TypeId} (h : Has base R (.cells (xs.map f).flatten.toArray ty) w) (hl : xs.length ≤ 9223372036854775807) : SlV K w (.slice (some ⟨R, 0, none⟩) xs.length xs.length) xs := by
  have he : Els K w (xs.map f) xs := ⟨by simp, fun k cs x h1 h2 => by
    rw [List.getElem?_map, h2] at h1
    simp at h1
    subst h1
    exact hf w x⟩
  refine ⟨xs.map f, he, .inr ⟨R, 0, _, rfl, h.ltS, Nat.le_refl _, hl, fun k cs j u h1 h2 => ?_⟩⟩
  have hj : j < K.sz := (he.sizes cs (List.mem_of_getElem? h1)) ▸ (List.getElem?_eq_some_iff.1 h2).1
  rw [show 0 + k * K.sz + j = k * K.sz + j by omega]
  exact h.at _ ((flat_at _ he.sizes k j cs h1 hj).trans h2)
end
end Go.Proofs.YtmcfomainmppdaaGreatDoor.Q
