/- A region that draws its order of evaluation, walked once in the order of the text: each of its operations is of one of three kinds: one that yields its value in every world; one that yields one value in every world of a class and leaves a world of the class; one that turns the class. Conditions: the region's own order leads the third kind past the second and past itself. -/
import Derived.OrdersHeld
import Derived.Still
import Derived.Tactics2
import Derived.KernelRfl
import Derived.Below
namespace Go.Proofs.YtepljhpamconbaaDoor
/-- A fact kept from the walk. -/
theorem hid {p : Prop} (h : p) : RowKit.Hid p := h
section
variable {P : Program} {P0 : World → Prop} {ops : Array Oper} {md : Region.Mode}

/-- What an operation's run may come to, and what is asked of its value and world. -/
def Does (P : Program) (R : Value → World → Prop) : Result Next → Prop
  | .ok (.value u) w' => R u w'
  | .ok .skip w' => R undef w'
  | .ok (.enter f args) w' => Calls P f args w' (fun e w'' => ∃ v, e = .returned v ∧ R v w'')
  | _ => False

theorem Does.mono {R R' : Value → World → Prop} (h : ∀ v w, R v w → R' v w) {r : Result Next} (hd : Does P R r) : Does P R' r := by
  cases r with
  | ok n w =>
    cases n with
    | value u => exact h _ _ hd
    | skip => exact h _ _ hd
    | enter f args => exact Calls.mono hd fun _ _ ⟨v, he, hr⟩ => ⟨v, he, h _ _ hr⟩
    | _ => exact False.elim hd
  | halt x w => exact False.elim hd

theorem Does.upon {R : Value → World → Prop} {a : Act} {o : Oper} {K : Act → World → Prop} {Q : Exit → Act → World → Prop} (h : ∀ v w, R v w → K (a.put o.dst v) w)
    {r : Result Next} (hd : Does P R r) : o.upon P a K Q r := by
  cases r with
  | ok n w =>
    cases n with
    | value u => exact h _ _ hd
    | skip => exact h _ _ hd
    | enter f args => exact Calls.mono hd fun _ _ ⟨v, he, hr⟩ => by subst he; exact h _ _ hr
    | _ => exact False.elim hd
  | halt x w => exact False.elim hd

/-- An operation of the first kind: its value in every world, the world as it was. -/
def Flt (v : Value) (w : World) : Result Next → Prop
  | .ok (.value u) w' => u = v ∧ w' = w
  | .ok .skip w' => v = undef ∧ w' = w
  | _ => False

theorem Flt.does {v : Value} {w : World} {R : Value → World → Prop} (h : R v w) {r : Result Next} (hd : Flt v w r) : Does P R r := by
  cases r with
  | ok n w =>
    cases n with
    | value u => obtain ⟨e1, e2⟩ := hd; subst e1; subst e2; exact h
    | skip => obtain ⟨e1, e2⟩ := hd; subst e1; subst e2; exact h
    | _ => exact False.elim hd
  | halt x w => exact False.elim hd

theorem Flt.uniq {v u : Value} {w : World} {r : Result Next} (hd : Flt v w r) (he : Flt u w r) : v = u := by
  cases r with
  | ok n w =>
    cases n with
    | value u => exact hd.1.symm.trans he.1
    | skip => exact hd.1.trans he.1.symm
    | _ => exact False.elim hd
  | halt x w => exact False.elim hd

/-- One operation of kind k, what follows behind K. -/
def sStep (P : Program) (P0 : World → Prop) (ops : Array Oper) (k : Nat) (o : Oper) (S : World → Prop) (a : Act) (K : (World → Prop) → Act → Prop) : Prop :=
  if Region.wanted o (yielded ops a.tmps) = true then
    match k with
    | 0 => ∃ v, (∀ w, P0 w → Flt v w ((execOp a.eval o).run P w)) ∧ K S (a.put o.dst v)
    | 1 => ∃ v, (∀ w, S w → Does P (fun u w' => u = v ∧ S w') ((execOp a.eval o).run P w)) ∧ K S (a.put o.dst v)
    | _ => ∃ (α : Type) (_ : Nonempty α) (f : α → Value) (S' : α → World → Prop), ((∀ x w, S' x w → P0 w) ∧ ∀ w, S w → Does P (fun v w' => ∃ x, v = f x ∧ S' x w') ((execOp a.eval o).run P w)) ∧ ∀ x, K (S' x) (a.put o.dst (f x))
  else K S (a.put o.dst undef)

theorem sStep.mono {k : Nat} {o : Oper} {S : World → Prop} {a : Act} {K K' : (World → Prop) → Act → Prop} (h : ∀ S a, K S a → K' S a) (hs : sStep P P0 ops k o S a K) : sStep P P0 ops k o S a K' := by
  unfold sStep at *
  split
  · rename_i hw
    rw [if_pos hw] at hs
    rcases k with _ | _ | k
    · obtain ⟨v, h1, h2⟩ := hs; exact ⟨v, h1, h _ _ h2⟩
    · obtain ⟨v, h1, h2⟩ := hs; exact ⟨v, h1, h _ _ h2⟩
    · obtain ⟨α, hα, f, S', h1, h2⟩ := hs; exact ⟨α, hα, f, S', h1, fun x => h _ _ (h2 x)⟩
  · rename_i hw
    rw [if_neg hw] at hs
    exact h _ _ hs

/-- The walk in the order of the text. -/
def wpLex (P : Program) (P0 : World → Prop) (ops : Array Oper) (Q : Act → World → Prop) : List Nat → List Oper → (World → Prop) → Act → Prop
  | _, [], S, a => ∀ w, S w → Q a w
  | [], _ :: _, _, _ => False
  | k :: ks, o :: rest, S, a => sStep P P0 ops k o S a (wpLex P P0 ops Q ks rest)

theorem wpLex_nil {Q : Act → World → Prop} {ks : List Nat} {S : World → Prop} {a : Act} (h : ∀ w, S w → Q a w) : wpLex P P0 ops Q ks [] S a := by
  cases ks <;> exact h

theorem wpLex_step {Q : Act → World → Prop} {k : Nat} {ks : List Nat} {o : Oper} {rest : List Oper} {S : World → Prop} {a : Act}
    (h : ∀ K : (World → Prop) → Act → Prop, (∀ S a, wpLex P P0 ops Q ks rest S a → K S a) → sStep P P0 ops k o S a K) : wpLex P P0 ops Q (k :: ks) (o :: rest) S a :=
  h _ (fun _ _ h => h)

/-- An operation with no guard, or whose guard says yes. -/
theorem wpLex_float {Q : Act → World → Prop} {ks : List Nat} {o : Oper} {rest : List Oper} {S : World → Prop} {a : Act} {v : Value} (hg : Region.wanted o (yielded ops a.tmps) = true)
    (h1 : ∀ w, P0 w → Flt v w ((execOp a.eval o).run P w)) (h : wpLex P P0 ops Q ks rest S (a.put o.dst v)) : wpLex P P0 ops Q (0 :: ks) (o :: rest) S a := by
  show sStep P P0 ops 0 o S a _
  unfold sStep
  rw [if_pos hg]
  exact ⟨v, h1, h⟩
theorem wpLex_held {Q : Act → World → Prop} {ks : List Nat} {o : Oper} {rest : List Oper} {S : World → Prop} {a : Act} {v : Value} (hg : Region.wanted o (yielded ops a.tmps) = true)
    (h1 : ∀ w, S w → Does P (fun u w' => u = v ∧ S w') ((execOp a.eval o).run P w)) (h : wpLex P P0 ops Q ks rest S (a.put o.dst v)) : wpLex P P0 ops Q (1 :: ks) (o :: rest) S a := by
  show sStep P P0 ops 1 o S a _
  unfold sStep
  rw [if_pos hg]
  exact ⟨v, h1, h⟩
theorem wpLex_eff {Q : Act → World → Prop} {ks : List Nat} {o : Oper} {rest : List Oper} {S : World → Prop} {a : Act} {α : Type} [hα : Nonempty α] (f : α → Value) (S' : α → World → Prop) (hP : ∀ x w, S' x w → P0 w) (hg : Region.wanted o (yielded ops a.tmps) = true)
    (h1 : ∀ w, S w → Does P (fun v w' => ∃ x, v = f x ∧ S' x w') ((execOp a.eval o).run P w)) (h : ∀ x, wpLex P P0 ops Q ks rest (S' x) (a.put o.dst (f x))) : wpLex P P0 ops Q (2 :: ks) (o :: rest) S a := by
  show sStep P P0 ops 2 o S a _
  unfold sStep
  rw [if_pos hg]
  exact ⟨α, hα, f, S', ⟨hP, h1⟩, h⟩
/-- An operation whose guard says no. -/
theorem wpLex_not {Q : Act → World → Prop} {k : Nat} {ks : List Nat} {o : Oper} {rest : List Oper} {S : World → Prop} {a : Act} (hg : Region.wanted o (yielded ops a.tmps) = false)
    (h : wpLex P P0 ops Q ks rest S (a.put o.dst undef)) : wpLex P P0 ops Q (k :: ks) (o :: rest) S a := by
  show sStep P P0 ops k o S a _
  unfold sStep
  rw [if_neg (by simp [hg])]
  exact h

/-! ### The same, with the guard's words in a form that is quick to decide -/
/-- A slot of a frame that is written out. -/
def slotOf : List Value → Nat → Value
  | [], _ => undef
  | x :: _, 0 => x
  | _ :: l, n + 1 => slotOf l n
theorem slotOf_bool {c : Bool} : ∀ {l : List Value} {n : Nat}, slotOf l n = .bool c → l[n]? = some (.bool c)
  | [], _, h => by cases h
  | x :: _, 0, h => by simpa [slotOf] using h
  | _ :: l, n + 1, h => by simpa using slotOf_bool (l := l) h
theorem wanted_none {o : Oper} {a : Act} (hg : o.guard = none) : Region.wanted o (yielded ops a.tmps) = true := by
  unfold Region.wanted; rw [hg]
theorem wanted_some {o : Oper} {a : Act} {j d : Nat} {b c : Bool} (hg : o.guard = some (j, b)) (hd : (ops[j]?).bind (·.dst) = some d) (hv : slotOf a.tmps.toList d = .bool c) :
    Region.wanted o (yielded ops a.tmps) = (c == b) := by
  have h1 : a.tmps[d]? = some (.bool c) := by rw [← Array.getElem?_toList]; exact slotOf_bool hv
  unfold Region.wanted yielded
  rw [hg]
  dsimp only
  rw [hd]
  simp only [Option.bind_some, h1]
  cases c <;> cases b <;> rfl

/-- The walk behind a name that is not laid open. -/
structure Lex (P : Program) (P0 : World → Prop) (ops : Array Oper) (Q : Act → World → Prop) (ks : List Nat) (l : List Oper) (S : World → Prop) (a : Act) : Prop where
  out : wpLex P P0 ops Q ks l S a

section
variable {Q : Act → World → Prop} {ks : List Nat} {o : Oper} {rest : List Oper} {S : World → Prop} {a : Act} {v : Value}
theorem lexP (hg : o.guard = none) (h1 : ∀ w, P0 w → Flt v w ((execOp a.eval o).run P w)) (h : Lex P P0 ops Q ks rest S (a.put o.dst v)) : Lex P P0 ops Q (0 :: ks) (o :: rest) S a :=
  ⟨wpLex_float (wanted_none hg) h1 h.out⟩
theorem lexF (hg : o.guard = none) (h1 : ∀ w, Flt v w ((execOp a.eval o).run P w)) (h : Lex P P0 ops Q ks rest S (a.put o.dst v)) : Lex P P0 ops Q (0 :: ks) (o :: rest) S a :=
  ⟨wpLex_float (wanted_none hg) (fun w _ => h1 w) h.out⟩
theorem lexH (hg : o.guard = none) (h1 : ∀ w, S w → Does P (fun u w' => u = v ∧ S w') ((execOp a.eval o).run P w)) (h : Lex P P0 ops Q ks rest S (a.put o.dst v)) : Lex P P0 ops Q (1 :: ks) (o :: rest) S a :=
  ⟨wpLex_held (wanted_none hg) h1 h.out⟩
theorem lexE {α : Type} [Nonempty α] (f : α → Value) (S' : α → World → Prop) (hg : o.guard = none) (h1 : ∀ w, S w → Does P (fun v w' => ∃ x, v = f x ∧ S' x w') ((execOp a.eval o).run P w)) (h : ∀ x, Lex P P0 ops Q ks rest (S' x) (a.put o.dst (f x)))  (hP : ∀ x w, S' x w → P0 w := by intros; trivial) : Lex P P0 ops Q (2 :: ks) (o :: rest) S a :=
  ⟨wpLex_eff f S' hP (wanted_none hg) h1 fun v => (h v).out⟩
/-- A store: no value. -/
theorem lexS (S' : World → Prop) (hg : o.guard = none) (h1 : ∀ w, S w → Does P (fun v w' => v = undef ∧ S' w') ((execOp a.eval o).run P w)) (h : Lex P P0 ops Q ks rest S' (a.put o.dst undef))  (hP : ∀ w, S' w → P0 w := by intros; trivial) : Lex P P0 ops Q (2 :: ks) (o :: rest) S a :=
  lexE (α := Unit) (fun _ => undef) (fun _ => S') hg (fun w hw => (h1 w hw).mono fun _ _ ⟨e, hs⟩ => ⟨(), e, hs⟩) (fun _ => h) (fun _ => hP)
theorem lexPg {j d : Nat} {b c : Bool} (hg : o.guard = some (j, b)) (hd : (ops[j]?).bind (·.dst) = some d) (hv : slotOf a.tmps.toList d = .bool c) (hc : (c == b) = true)
    (h1 : ∀ w, P0 w → Flt v w ((execOp a.eval o).run P w)) (h : Lex P P0 ops Q ks rest S (a.put o.dst v)) : Lex P P0 ops Q (0 :: ks) (o :: rest) S a :=
  ⟨wpLex_float ((wanted_some hg hd hv).trans hc) h1 h.out⟩
theorem lexFg {j d : Nat} {b c : Bool} (hg : o.guard = some (j, b)) (hd : (ops[j]?).bind (·.dst) = some d) (hv : slotOf a.tmps.toList d = .bool c) (hc : (c == b) = true)
    (h1 : ∀ w, Flt v w ((execOp a.eval o).run P w)) (h : Lex P P0 ops Q ks rest S (a.put o.dst v)) : Lex P P0 ops Q (0 :: ks) (o :: rest) S a :=
  ⟨wpLex_float ((wanted_some hg hd hv).trans hc) (fun w _ => h1 w) h.out⟩
theorem lexHg {j d : Nat} {b c : Bool} (hg : o.guard = some (j, b)) (hd : (ops[j]?).bind (·.dst) = some d) (hv : slotOf a.tmps.toList d = .bool c) (hc : (c == b) = true)
    (h1 : ∀ w, S w → Does P (fun u w' => u = v ∧ S w') ((execOp a.eval o).run P w)) (h : Lex P P0 ops Q ks rest S (a.put o.dst v)) : Lex P P0 ops Q (1 :: ks) (o :: rest) S a :=
  ⟨wpLex_held ((wanted_some hg hd hv).trans hc) h1 h.out⟩
theorem lexEg {j d : Nat} {b c : Bool} {α : Type} [Nonempty α] (f : α → Value) (S' : α → World → Prop) (hg : o.guard = some (j, b)) (hd : (ops[j]?).bind (·.dst) = some d) (hv : slotOf a.tmps.toList d = .bool c) (hc : (c == b) = true)
    (h1 : ∀ w, S w → Does P (fun v w' => ∃ x, v = f x ∧ S' x w') ((execOp a.eval o).run P w)) (h : ∀ x, Lex P P0 ops Q ks rest (S' x) (a.put o.dst (f x)))  (hP : ∀ x w, S' x w → P0 w := by intros; trivial) : Lex P P0 ops Q (2 :: ks) (o :: rest) S a :=
  ⟨wpLex_eff f S' hP ((wanted_some hg hd hv).trans hc) h1 fun v => (h v).out⟩
/-- Passed over. -/
theorem lexN {k j d : Nat} {b c : Bool} (hg : o.guard = some (j, b)) (hd : (ops[j]?).bind (·.dst) = some d) (hv : slotOf a.tmps.toList d = .bool c) (hc : (c == b) = false)
    (h : Lex P P0 ops Q ks rest S (a.put o.dst undef)) : Lex P P0 ops Q (k :: ks) (o :: rest) S a :=
  ⟨wpLex_not ((wanted_some hg hd hv).trans hc) h.out⟩
/-- Passed over, since what it waits for was passed over. -/
theorem lexN' {k j d : Nat} {b : Bool} (hg : o.guard = some (j, b)) (hd : (ops[j]?).bind (·.dst) = some d) (hv : slotOf a.tmps.toList d = undef)
    (h : Lex P P0 ops Q ks rest S (a.put o.dst undef)) : Lex P P0 ops Q (k :: ks) (o :: rest) S a := by
  refine ⟨wpLex_not ?_ h.out⟩
  have h1 : yielded ops a.tmps j = none := by
    unfold yielded
    rw [hd]
    have h2 : ∀ (l : List Value) (n : Nat), slotOf l n = undef → l[n]? = some undef ∨ l[n]? = none := fun l => by
      induction l with
      | nil => intro n _; exact .inr (by simp)
      | cons x l ih =>
        intro n h
        cases n with
        | zero => exact .inl (by simpa [slotOf] using h)
        | succ n => simpa using ih n h
    simp only [Option.bind_some]
    rcases h2 _ _ hv with h3 | h3
    · rw [← Array.getElem?_toList, h3]; rfl
    · rw [← Array.getElem?_toList, h3]
  unfold Region.wanted
  rw [hg]
  dsimp only
  rw [h1]
  rfl
theorem lexEnd (h : ∀ w, S w → Q a w) : Lex P P0 ops Q ks [] S a := ⟨wpLex_nil h⟩
end

/-! ### Whatever order -/
def sOp (P : Program) (P0 : World → Prop) (ops : Array Oper) (kd : Nat → Nat) (i : Nat) (S : World → Prop) (a : Act) (K : (World → Prop) → Act → Prop) : Prop :=
  match ops[i]? with
  | none => K S a
  | some o => sStep P P0 ops (kd i) o S a K

theorem sOp.mono {kd : Nat → Nat} {i : Nat} {S : World → Prop} {a : Act} {K K' : (World → Prop) → Act → Prop} (h : ∀ S a, K S a → K' S a) (hs : sOp P P0 ops kd i S a K) : sOp P P0 ops kd i S a K' := by
  unfold sOp at *
  split
  · rename_i ho; rw [ho] at hs; exact h _ _ hs
  · rename_i ho; rw [ho] at hs; exact sStep.mono h hs

def wpAnyS (P : Program) (P0 : World → Prop) (md : Region.Mode) (ops : Array Oper) (kd : Nat → Nat) (Q : Act → World → Prop) : Nat → Array Bool → (World → Prop) → Act → Prop
  | 0, listed, S, a => Region.ready md ops listed = [] ∧ ∀ w, S w → Q a w
  | fuel + 1, listed, S, a => (Region.ready md ops listed = [] → ∀ w, S w → Q a w) ∧
    ∀ i ∈ Region.ready md ops listed, sOp P P0 ops kd i S a (wpAnyS P P0 md ops kd Q fuel (listed.setIfInBounds i true))

theorem sStep.wp {k : Nat} {o : Oper} {S : World → Prop} {a : Act} {K : (World → Prop) → Act → Prop} {K' : Act → World → Prop} {Q' : Exit → Act → World → Prop} {w : World} (hSP : ∀ w, S w → P0 w) (hw : S w)
    (h : ∀ S' a' w', (∀ w, S' w → P0 w) → S' w' → K S' a' → K' a' w') (hs : sStep P P0 ops k o S a K) :
    if Region.wanted o (yielded ops a.tmps) = true then o.wp P a w K' Q' ∨ (o.asks P a w ∧ LetsOut Q') else K' (a.put o.dst undef) w := by
  unfold sStep at hs
  split
  · rename_i hg
    rw [if_pos hg] at hs
    refine .inl ?_
    unfold Oper.wp
    split at hs
    · obtain ⟨v, h1, h2⟩ := hs
      exact Does.upon (R := fun u w' => u = v ∧ w' = w) (fun u w' ⟨e1, e2⟩ => by subst e1; subst e2; exact h _ _ _ hSP hw h2) (Flt.does ⟨rfl, rfl⟩ (h1 w (hSP w hw)))
    · obtain ⟨v, h1, h2⟩ := hs
      exact Does.upon (fun u w' ⟨e1, e2⟩ => by subst e1; exact h _ _ _ hSP e2 h2) (h1 w hw)
    · obtain ⟨α, _, f, S', ⟨hP, h1⟩, h2⟩ := hs
      exact Does.upon (fun u w' ⟨x, hx, hu⟩ => by subst hx; exact h _ _ _ (hP x) hu (h2 x)) (h1 w hw)
  · rename_i hg
    rw [if_neg hg] at hs
    exact h _ _ _ hSP hw hs

theorem wpAny_of_S {kd : Nat → Nat} {Q : Act → World → Prop} {Q' : Exit → Act → World → Prop} (hQ : ∀ a w, Q a w → Q' .normal a w) :
    ∀ (fuel : Nat) (listed : Array Bool) (S : World → Prop) (a : Act) (w : World), (∀ w, S w → P0 w) → S w → wpAnyS P P0 md ops kd Q fuel listed S a → wpAny P md ops Q' fuel listed a w
  | 0, _, _, _, _, _, hw, h => ⟨h.1, hQ _ _ (h.2 _ hw)⟩
  | fuel + 1, _, _, _, _, hSP, hw, h => ⟨fun h0 => hQ _ _ (h.1 h0 _ hw), fun i hi => by
      have h1 := h.2 i hi
      unfold sOp at h1
      unfold wpOp
      split
      · rename_i ho; rw [ho] at h1; exact wpAny_of_S hQ fuel _ _ _ _ hSP hw h1
      · rename_i o ho
        rw [ho] at h1
        exact sStep.wp hSP hw (fun S' a' w' hP' hw' hk => wpAny_of_S hQ fuel _ _ _ _ hP' hw' hk) h1⟩

/-! ### Which operation must have come up before another -/
def ancOf (md : Region.Mode) (acc : List (List Nat)) (o : Oper) : List Nat :=
  ((o.after.toList.filter (Region.binds md)).flatMap fun e => e.on :: acc.getD e.on []).eraseDups
def ancAll (md : Region.Mode) : List Oper → List (List Nat) → List (List Nat)
  | [], acc => acc
  | o :: rest, acc => ancAll md rest (acc ++ [ancOf md acc o])

/-- Whatever has come up, all that it waits for has. -/
def Closed (md : Region.Mode) (ops : Array Oper) (listed : Array Bool) : Prop :=
  ∀ j o, ops[j]? = some o → listed.getD j false = true → ∀ e ∈ o.after, Region.binds md e = true → listed.getD e.on false = true

theorem Closed.set {listed : Array Bool} {i : Nat} (h : Closed md ops listed) (hi : i ∈ Region.ready md ops listed) : Closed md ops (listed.setIfInBounds i true) := by
  intro j o ho hj e he hb
  by_cases hij : i = j
  · subst hij
    obtain ⟨_, o', ho', hall⟩ := mem_ready.1 hi
    rw [ho] at ho'
    cases ho'
    exact getD_set_true (hall e he hb)
  · rw [getD_set_ne false hij] at hj
    exact getD_set_true (h j o ho hj e he hb)

theorem ancAll_sound {listed : Array Bool} (hc : Closed md ops listed) : ∀ (l : List Oper) (acc : List (List Nat)), (∀ j, l[j]? = ops[acc.length + j]?) →
    (∀ j o, j < acc.length → ops[j]? = some o → (∀ e ∈ o.after, Region.binds md e = true → listed.getD e.on false = true) → ∀ x ∈ acc.getD j [], listed.getD x false = true) →
    ∀ j o, ops[j]? = some o → j < (ancAll md l acc).length → (∀ e ∈ o.after, Region.binds md e = true → listed.getD e.on false = true) → ∀ x ∈ (ancAll md l acc).getD j [], listed.getD x false = true
  | [], acc, _, hinv => fun j o ho hj hd x hx => hinv j o hj ho hd x hx
  | o :: l, acc, hl, hinv => by
    refine ancAll_sound hc l (acc ++ [ancOf md acc o]) (fun j => ?_) (fun j o' hj ho' hd x hx => ?_)
    · have := hl (j + 1)
      simpa [Nat.add_assoc, Nat.add_comm 1 j] using this
    · simp only [List.length_append, List.length_cons, List.length_nil, Nat.zero_add] at hj
      rcases Nat.lt_or_ge j acc.length with hlt | hge
      · rw [List.getD_eq_getElem?_getD, List.getElem?_append_left hlt, ← List.getD_eq_getElem?_getD] at hx
        exact hinv j o' hlt ho' hd x hx
      · obtain rfl : j = acc.length := by omega
        have h0 : ops[acc.length]? = some o := by simpa using (hl 0).symm
        rw [h0] at ho'
        cases ho'
        rw [List.getD_eq_getElem?_getD, List.getElem?_append_right (Nat.le_refl _)] at hx
        simp only [Nat.sub_self, List.getElem?_cons_zero, Option.getD_some, ancOf, List.mem_eraseDups, List.mem_flatMap, List.mem_filter, List.mem_cons] at hx
        obtain ⟨e, ⟨he, hb⟩, hx⟩ := hx
        have he' : e ∈ o.after := by simpa using he
        have hon := hd e he' hb
        rcases hx with rfl | hx
        · exact hon
        · rcases Nat.lt_or_ge e.on acc.length with hlt | hge'
          · cases ho2 : ops[e.on]? with
            | none =>
              have := hl 0
              exfalso
              have hs : acc.length < ops.size := (Array.getElem?_eq_some_iff.1 h0).1
              have hn := Array.getElem?_eq_none_iff.1 ho2
              omega
            | some o2 => exact hinv e.on o2 hlt ho2 (fun e2 he2 hb2 => hc e.on o2 ho2 hon e2 he2 hb2) x hx
          · rw [List.getD_eq_getElem?_getD, List.getElem?_eq_none (by omega)] at hx
            simp at hx

/-- Do the two kinds mind which of them comes first? -/
def clash : Nat → Nat → Bool
  | 0, _ | _, 0 => false
  | 1, 1 => false
  | _, _ => true

/-- 'j' never may come up as long as 'i' has not. -/
def After (md : Region.Mode) (ops : Array Oper) (i j : Nat) : Prop := ∀ listed, Closed md ops listed → j ∈ Region.ready md ops listed → listed.getD i false = true

/-- The Bool: of two operations that clash the later one waits for the earlier. -/
def stagedB (md : Region.Mode) (ops : Array Oper) (ks : List Nat) : Bool :=
  let an := ancAll md ops.toList []
  (ks.length == ops.size) && (List.range ops.size).all fun j => (List.range j).all fun i => !clash (ks.getD i 0) (ks.getD j 0) || ((an.getD j []).contains i)

theorem length_ancAll : ∀ (l : List Oper) (acc : List (List Nat)), (ancAll md l acc).length = acc.length + l.length
  | [], acc => rfl
  | o :: l, acc => by simp [ancAll, length_ancAll l]; omega

theorem stagedB_spec {ks : List Nat} (h : stagedB md ops ks = true) {i j : Nat} (hij : i < j) (hj : j < ops.size) (hcl : clash (ks.getD i 0) (ks.getD j 0) = true) : After md ops i j := by
  intro listed hc hr
  simp only [stagedB, Bool.and_eq_true, List.all_eq_true, List.mem_range] at h
  have h1 := h.2 j hj i hij
  rw [hcl] at h1
  simp only [Bool.not_true, Bool.false_or, List.contains_iff_mem] at h1
  obtain ⟨_, o, ho, hd⟩ := mem_ready.1 hr
  exact ancAll_sound hc ops.toList [] (fun j => by simp) (fun j o hj => absurd hj (Nat.not_lt_zero _)) j o ho (by rw [length_ancAll]; simpa using hj) hd i h1

/-! ### An operation may be taken first -/
/-- One operation 'oj', apart from 'oi', whose dst already holds u. -/
theorem sStep_put {k : Nat} {oi oj : Oper} {u : Value} {S : World → Prop} {a : Act} {K : (World → Prop) → Act → Prop} (hap : oi.apart ops oj = true) (hsj : ∀ cs b, oj.op ≠ .select cs b)
    (h : sStep P P0 ops k oj S (a.put oi.dst u) K) : sStep P P0 ops k oj S a (fun S' a' => (∃ x, a' = a.put oj.dst x) ∧ (k < 2 → S' = S) ∧ K S' (a'.put oi.dst u)) := by
  obtain ⟨h1, h2, h3⟩ := Oper.apart_spec hap
  unfold sStep at *
  rw [wanted_put oj a oi.dst u h1] at h
  rw [execOp_put oj hsj a oi.dst u h1] at h
  split
  · rename_i hw
    rw [if_pos hw] at h
    rcases k with _ | _ | k
    · obtain ⟨v, hv, hk⟩ := h
      exact ⟨v, hv, ⟨v, rfl⟩, fun _ => rfl, by rw [← Act.put_comm a u v h2]; exact hk⟩
    · obtain ⟨v, hv, hk⟩ := h
      exact ⟨v, hv, ⟨v, rfl⟩, fun _ => rfl, by rw [← Act.put_comm a u v h2]; exact hk⟩
    · obtain ⟨α, hα, f, S', hv, hk⟩ := h
      exact ⟨α, hα, f, S', hv, fun x => ⟨⟨f x, rfl⟩, fun hlt => (by omega), by rw [← Act.put_comm a u (f x) h2]; exact hk x⟩⟩
  · rename_i hw
    rw [if_neg hw] at h
    exact ⟨⟨_, rfl⟩, fun _ => rfl, by rw [← Act.put_comm a u undef h2]; exact h⟩

/-- In state 'a' and class 'S' the operation leaves v, and the class as it is. -/
def Leaves1 (P : Program) (P0 : World → Prop) (ops : Array Oper) (k : Nat) (o : Oper) (S : World → Prop) (v : Value) (a : Act) : Prop :=
  (Region.wanted o (yielded ops a.tmps) = true ∧ ((k = 0 ∧ ∀ w, P0 w → Flt v w ((execOp a.eval o).run P w)) ∨ (k = 1 ∧ ∀ w, S w → Does P (fun u w' => u = v ∧ S w') ((execOp a.eval o).run P w)))) ∨
  (Region.wanted o (yielded ops a.tmps) = false ∧ v = undef)

theorem Leaves1.step {k : Nat} {o : Oper} {S : World → Prop} {v : Value} {a : Act} {K : (World → Prop) → Act → Prop} (h : Leaves1 P P0 ops k o S v a) (hk : K S (a.put o.dst v)) : sStep P P0 ops k o S a K := by
  unfold sStep
  rcases h with ⟨hw, ⟨rfl, h⟩ | ⟨rfl, h⟩⟩ | ⟨hw, rfl⟩
  · rw [if_pos hw]; exact ⟨v, h, hk⟩
  · rw [if_pos hw]; exact ⟨v, h, hk⟩
  · rw [if_neg (by simp [hw])]; exact hk

theorem Leaves1.of_put {k : Nat} {oi oj : Oper} {S : World → Prop} {v x : Value} {a : Act} (hs : ∀ cs b, oi.op ≠ .select cs b) (hap : ∀ d, oj.dst = some d → d ∉ oi.looksAt ops)
    (h : Leaves1 P P0 ops k oi S v a) : Leaves1 P P0 ops k oi S v (a.put oj.dst x) := by
  unfold Leaves1 at *
  rw [wanted_put oi a oj.dst x hap, execOp_put oi hs a oj.dst x hap]
  exact h

theorem Leaves1.any {o : Oper} {S S' : World → Prop} {v : Value} {a : Act} (h : Leaves1 P P0 ops 0 o S v a) : Leaves1 P P0 ops 0 o S' v a := by
  rcases h with ⟨hw, ⟨h0, h⟩ | ⟨h0, h⟩⟩ | h
  · exact .inl ⟨hw, .inl ⟨rfl, h⟩⟩
  · exact absurd h0 (by decide)
  · exact .inr h

/-- What is known of an operation that has not come up, beside 'i'. -/
def Fits (md : Region.Mode) (ops : Array Oper) (kd : Nat → Nat) (i : Nat) (oi : Oper) (listed : Array Bool) : Prop :=
  ∀ j oj, ops[j]? = some oj → j ≠ i → listed.getD j true = false →
    ((∀ e ∈ oj.after, Region.binds md e = true → e.on ≠ i) → oi.apart ops oj = true) ∧ (clash (kd i) (kd j) = true → After md ops i j)

theorem Fits.set {kd : Nat → Nat} {i j : Nat} {oi : Oper} {listed : Array Bool} (h : Fits md ops kd i oi listed) (hj : listed.getD j true = false) : Fits md ops kd i oi (listed.setIfInBounds j true) := fun k ok hk hki hun => by
  refine h k ok hk hki ?_
  by_cases hjk : j = k
  · subst hjk; exact hj
  · rw [getD_set_ne true hjk] at hun; exact hun

theorem ready_unlisted {i : Nat} {listed : Array Bool} (h : i ∈ Region.ready md ops listed) : listed.getD i false = false := by
  have h := (mem_ready.1 h).1
  rcases Nat.lt_or_ge i listed.size with h' | h'
  · simp [h'] at h ⊢; exact h
  · simp [Array.getElem?_eq_none h'] at h

theorem ready_apart {kd : Nat → Nat} {i j : Nat} {oi oj : Oper} {listed : Array Bool} (hf : Fits md ops kd i oi listed) (hr : i ∈ Region.ready md ops listed) (hj : j ∈ Region.ready md ops listed) (ho : ops[j]? = some oj) (hji : j ≠ i) :
    oi.apart ops oj = true := by
  obtain ⟨hjun, oj', hoj, hall⟩ := mem_ready.1 hj
  rw [ho] at hoj; cases hoj
  refine (hf j oj ho hji hjun).1 fun e he hb heq => ?_
  have h1 := hall e he hb
  rw [heq, ready_unlisted hr] at h1
  cases h1

theorem ready_clash {kd : Nat → Nat} {i j : Nat} {oi oj : Oper} {listed : Array Bool} (hc : Closed md ops listed) (hf : Fits md ops kd i oi listed) (hr : i ∈ Region.ready md ops listed) (hj : j ∈ Region.ready md ops listed) (ho : ops[j]? = some oj) (hji : j ≠ i) :
    clash (kd i) (kd j) = false := by
  cases h : clash (kd i) (kd j) with
  | false => rfl
  | true =>
    have h1 := (hf j oj ho hji (mem_ready.1 hj).1).2 h listed hc hj
    rw [ready_unlisted hr] at h1
    cases h1

/-- The first two kinds; and an operation that is passed over. -/
theorem wpAnyS_first {kd : Nat → Nat} {Q : Act → World → Prop} {i : Nat} {oi : Oper} {v : Value} (hi : ops[i]? = some oi) (hsel : ∀ (j : Nat) (o : Oper) cs b, ops[j]? = some o → o.op ≠ .select cs b) :
    ∀ (fuel : Nat) (listed : Array Bool) (S : World → Prop) (a : Act), Closed md ops listed → Fits md ops kd i oi listed →
      i ∈ Region.ready md ops listed → Leaves1 P P0 ops (kd i) oi S v a →
      wpAnyS P P0 md ops kd Q fuel (listed.setIfInBounds i true) S (a.put oi.dst v) → wpAnyS P P0 md ops kd Q (fuel + 1) listed S a := by
  intro fuel
  induction fuel with
  | zero =>
    intro listed S a _ _ hr hy H
    refine ⟨fun h => (by rw [h] at hr; cases hr), fun j hj => ?_⟩
    by_cases hji : j = i
    · subst hji; unfold sOp; rw [hi]; exact hy.step H
    · have := ready_mono hj hji
      rw [H.1] at this
      cases this
  | succ fuel ih =>
    intro listed S a hc hf hr hy H
    refine ⟨fun h => (by rw [h] at hr; cases hr), fun j hj => ?_⟩
    by_cases hji : j = i
    · subst hji; unfold sOp; rw [hi]; exact hy.step H
    · have h1 := H.2 j (ready_mono hj hji)
      obtain ⟨hjun, oj, hoj, _⟩ := mem_ready.1 hj
      have hap := ready_apart hf hr hj hoj hji
      have hcl := ready_clash hc hf hr hj hoj hji
      unfold sOp at h1 ⊢
      rw [hoj] at h1 ⊢
      dsimp only at h1 ⊢
      refine sStep.mono (fun S' a' h3 => ?_) (sStep_put hap (fun cs b => hsel j oj cs b hoj) h1)
      obtain ⟨⟨x, rfl⟩, hS, h4⟩ := h3
      have hl : Leaves1 P P0 ops (kd i) oi S' v (a.put oj.dst x) := by
        have hl0 := hy.of_put (x := x) (fun cs b => hsel i oi cs b hi) (Oper.apart_spec hap).2.2
        by_cases hk0 : kd i = 0
        · rw [hk0] at hl0 ⊢; exact hl0.any
        · have hk : kd j < 2 := by
            rcases Nat.lt_or_ge (kd j) 2 with h | h
            · exact h
            · exfalso
              revert hcl hk0 h
              cases kd i with
              | zero => intro _ h; exact absurd rfl h
              | succ n =>
                cases kd j with
                | zero => intro _ _ h; omega
                | succ m =>
                  cases n <;> cases m <;> simp [clash]
          rw [hS hk]
          exact hl0
      refine ih (listed.setIfInBounds j true) S' _ (hc.set hj) (hf.set hjun) (ready_mono hr (Ne.symm hji)) hl ?_
      rw [Array.setIfInBounds_comm _ _ hji]
      exact h4

/-- The third kind. -/
theorem wpAnyS_first_eff {kd : Nat → Nat} {Q : Act → World → Prop} {i : Nat} {oi : Oper} (hi : ops[i]? = some oi) (hsel : ∀ (j : Nat) (o : Oper) cs b, ops[j]? = some o → o.op ≠ .select cs b) (hk : 2 ≤ kd i) {w0 : World} (hw0 : P0 w0) {α : Type} [hα : Nonempty α] (f : α → Value) :
    ∀ (fuel : Nat) (listed : Array Bool) (S : World → Prop) (a : Act) (S1 : α → World → Prop), Closed md ops listed → Fits md ops kd i oi listed →
      i ∈ Region.ready md ops listed → Region.wanted oi (yielded ops a.tmps) = true → ((∀ x w, S1 x w → P0 w) ∧ ∀ w, S w → Does P (fun v w' => ∃ x, v = f x ∧ S1 x w') ((execOp a.eval oi).run P w)) →
      (∀ x, wpAnyS P P0 md ops kd Q fuel (listed.setIfInBounds i true) (S1 x) (a.put oi.dst (f x))) → wpAnyS P P0 md ops kd Q (fuel + 1) listed S a := by
  have hself : ∀ (S : World → Prop) (a : Act) (S1 : α → World → Prop) (K : (World → Prop) → Act → Prop), Region.wanted oi (yielded ops a.tmps) = true → ((∀ x w, S1 x w → P0 w) ∧ ∀ w, S w → Does P (fun v w' => ∃ x, v = f x ∧ S1 x w') ((execOp a.eval oi).run P w)) → (∀ x, K (S1 x) (a.put oi.dst (f x))) → sStep P P0 ops (kd i) oi S a K := by
    intro S a S1 K hw h h'
    unfold sStep
    rw [if_pos hw]
    obtain ⟨n, hn⟩ : ∃ n, kd i = n + 2 := ⟨kd i - 2, by omega⟩
    rw [hn]
    exact ⟨α, hα, f, S1, h, h'⟩
  intro fuel
  induction fuel with
  | zero =>
    intro listed S a S1 _ _ hr hw hd H
    refine ⟨fun h => (by rw [h] at hr; cases hr), fun j hj => ?_⟩
    by_cases hji : j = i
    · subst hji; unfold sOp; rw [hi]; exact hself _ _ _ _ hw hd H
    · have := ready_mono hj hji
      rw [(H (Classical.choice hα)).1] at this
      cases this
  | succ fuel ih =>
    intro listed S a S1 hc hf hr hw hd H
    refine ⟨fun h => (by rw [h] at hr; cases hr), fun j hj => ?_⟩
    by_cases hji : j = i
    · subst hji; unfold sOp; rw [hi]; exact hself _ _ _ _ hw hd H
    · obtain ⟨hjun, oj, hoj, _⟩ := mem_ready.1 hj
      have hap := ready_apart hf hr hj hoj hji
      have hcl := ready_clash hc hf hr hj hoj hji
      obtain ⟨p1, p2, p3⟩ := Oper.apart_spec hap
      have hkj : kd j = 0 := by
        obtain ⟨n, hn⟩ : ∃ n, kd i = n + 2 := ⟨kd i - 2, by omega⟩
        rw [hn] at hcl
        generalize kd j = m at hcl
        cases m with
        | zero => rfl
        | succ m => cases hcl
      have hj1 : ∀ v, sStep P P0 ops 0 oj (S1 v) (a.put oi.dst (f v)) (wpAnyS P P0 md ops kd Q fuel ((listed.setIfInBounds i true).setIfInBounds j true)) := fun v => by
        have h1 := (H v).2 j (ready_mono hj hji)
        unfold sOp at h1
        rw [hoj, hkj] at h1
        exact h1
      have hd' : ∀ x, (∀ y w, S1 y w → P0 w) ∧ ∀ w, S w → Does P (fun v w' => ∃ y, v = f y ∧ S1 y w') ((execOp (a.put oj.dst x).eval oi).run P w) := fun x => ⟨hd.1, fun w hs => by
        rw [execOp_put oi (fun cs b => hsel i oi cs b hi) a oj.dst x p3]
        exact hd.2 w hs⟩
      have hw' : ∀ x, Region.wanted oi (yielded ops (a.put oj.dst x).tmps) = true := fun x => by
        rw [wanted_put oi a oj.dst x p3]; exact hw
      have fin : ∀ x, (∀ v, wpAnyS P P0 md ops kd Q fuel ((listed.setIfInBounds i true).setIfInBounds j true) (S1 v) ((a.put oi.dst (f v)).put oj.dst x)) → wpAnyS P P0 md ops kd Q (fuel + 1) (listed.setIfInBounds j true) S (a.put oj.dst x) := fun x hx => by
        refine ih (listed.setIfInBounds j true) S _ S1 (hc.set hj) (hf.set hjun) (ready_mono hr (Ne.symm hji)) (hw' x) (hd' x) fun v => ?_
        rw [Array.setIfInBounds_comm _ _ hji, ← Act.put_comm a (f v) x p2]
        exact hx v
      unfold sOp
      rw [hoj, hkj]
      dsimp only
      unfold sStep at hj1 ⊢
      by_cases hwj : Region.wanted oj (yielded ops a.tmps) = true
      · rw [if_pos hwj]
        have hv : ∀ v, ∃ x, (∀ w, P0 w → Flt x w ((execOp a.eval oj).run P w)) ∧ wpAnyS P P0 md ops kd Q fuel ((listed.setIfInBounds i true).setIfInBounds j true) (S1 v) ((a.put oi.dst (f v)).put oj.dst x) := fun v => by
          have h1 := hj1 v
          rw [wanted_put oj a oi.dst (f v) p1, if_pos hwj, execOp_put oj (fun cs b => hsel j oj cs b hoj) a oi.dst (f v) p1] at h1
          exact h1
        obtain ⟨x, hx, _⟩ := hv (Classical.choice hα)
        refine ⟨x, hx, fin x fun v => ?_⟩
        obtain ⟨y, hy, hk'⟩ := hv v
        rw [Flt.uniq (hx w0 hw0) (hy w0 hw0)]
        exact hk'
      · rw [if_neg hwj]
        refine fin undef fun v => ?_
        have h1 := hj1 v
        rw [wanted_put oj a oi.dst (f v) p1, if_neg hwj] at h1
        exact h1

/-! ### The order of the text -/
theorem wpAnyS_lex {Q : Act → World → Prop} {w0 : World} (hw0 : P0 w0) (hs : Region.noSelect ops = true) (ks : List Nat) (hst : stagedB md ops ks = true) : ∀ (l : List Oper) (k : Nat) (listed : Array Bool) (S : World → Prop) (a : Act), (∀ j, l[j]? = ops[k + j]?) →
    (∀ j, j < k → listed.getD j true = true) → Closed md ops listed →
    Region.lexFrom md ops l.length k listed = true → wpLex P P0 ops Q (ks.drop k) l S a → wpAnyS P P0 md ops (fun i => ks.getD i 0) Q l.length listed S a
  | [], k, _, _, _, _, _, _, hB, h => ⟨by simpa [Region.lexFrom] using hB, by cases hk : ks.drop k <;> (rw [hk] at h; exact h)⟩
  | o :: l, k, listed, S, a, hl, hlt, hc, hB, h => by
    have h0 : ops[k]? = some o := by simpa using (hl 0).symm
    have hks : k < ops.size := (Array.getElem?_eq_some_iff.1 h0).1
    simp only [List.length_cons, Region.lexFrom, Bool.and_eq_true] at hB
    obtain ⟨⟨hr, hf⟩, hB'⟩ := hB
    have hlen : ks.length = ops.size := by simp only [stagedB, Bool.and_eq_true, beq_iff_eq] at hst; exact hst.1
    have hdrop : ks.drop k = ks.getD k 0 :: ks.drop (k + 1) := by
      rw [List.drop_eq_getElem_cons (by omega)]
      simp [show k < ks.length from by omega]
    rw [hdrop] at h
    have hr' : k ∈ Region.ready md ops listed := by simpa using hr
    have hfits : Fits md ops (fun i => ks.getD i 0) k o listed := fun j oj hj hne hun => by
      refine ⟨fun hno => Region.free_spec h0 hf j oj hj hne hun hno, fun hcl => ?_⟩
      have hjk : k < j := by
        rcases Nat.lt_or_ge k j with h' | h'
        · exact h'
        · have := hlt j (by omega)
          rw [this] at hun
          cases hun
      exact stagedB_spec hst hjk (Array.getElem?_eq_some_iff.1 hj).1 hcl
    have rest : ∀ (S : World → Prop) (a : Act), wpLex P P0 ops Q (ks.drop (k + 1)) l S a → wpAnyS P P0 md ops (fun i => ks.getD i 0) Q l.length (listed.setIfInBounds k true) S a := fun S a hh => by
      refine wpAnyS_lex hw0 hs ks hst l (k + 1) _ S a (fun j => by have := hl (j + 1); simpa [Nat.add_assoc, Nat.add_comm 1 j] using this) (fun j hj => ?_) (hc.set hr') hB' hh
      by_cases hjk : k = j
      · subst hjk
        have : listed.getD k false = false := ready_unlisted hr'
        rcases Nat.lt_or_ge k listed.size with h' | h'
        · simp [h']
        · simp [Array.getElem?_eq_none (show (listed.setIfInBounds k true).size ≤ k by simpa using h')]
      · rw [getD_set_ne true hjk]
        exact hlt j (by omega)
    have hsel := Region.noSelect_spec hs
    change sStep P P0 ops (ks.getD k 0) o S a (wpLex P P0 ops Q (ks.drop (k + 1)) l) at h
    by_cases hw : Region.wanted o (yielded ops a.tmps) = true
    · unfold sStep at h
      rw [if_pos hw] at h
      split at h
      · rename_i hk
        obtain ⟨v, h1, h2⟩ := h
        exact wpAnyS_first h0 hsel l.length listed S a hc hfits hr' (.inl ⟨hw, .inl ⟨hk, h1⟩⟩) (rest _ _ h2)
      · rename_i hk
        obtain ⟨v, h1, h2⟩ := h
        exact wpAnyS_first h0 hsel l.length listed S a hc hfits hr' (.inl ⟨hw, .inr ⟨hk, h1⟩⟩) (rest _ _ h2)
      · rename_i k' hk0 hk1
        obtain ⟨α, hα, f, S1, h1, h2⟩ := h
        exact wpAnyS_first_eff h0 hsel (by rcases hq : ks.getD k 0 with _ | _ | n <;> first | (exact absurd hq (by simpa using hk0)) | (exact absurd hq (by simpa using hk1)) | omega) hw0 f l.length listed S a S1 hc hfits hr' hw h1 (fun v => rest _ _ (h2 v))
    · unfold sStep at h
      rw [if_neg hw] at h
      exact wpAnyS_first h0 hsel l.length listed S a hc hfits hr' (.inr ⟨by simpa using hw, rfl⟩) (rest _ _ h)

/-- **A REGION THAT DRAWS ITS ORDER, WALKED ONCE.** P0: what holds of every world that the region passes through; a read of what P0 says needs no place in the order. -/
theorem wp_region_stagedP {id : Nat} {Q : Exit → Act → World → Prop} {a : Act} {w : World} {l : List Oper} (P0 S : World → Prop) (ks : List Nat) (hm : P.follows .mixedOrders = true)
    (hB : Region.lexB .any l.toArray = true) (hst : stagedB .any l.toArray ks = true) (hSP : ∀ w, S w → P0 w) (hS : S w.drew) (h : Lex P P0 l.toArray (fun a w => Q .normal a w) ks l S a) :
    (Code.region id l.toArray true).wp P Q a w := by
  simp only [Region.lexB, Bool.and_eq_true] at hB
  refine wp_region_any hm (wpAny_of_S (P0 := P0) (kd := fun i => ks.getD i 0) (Q := fun a w => Q .normal a w) (fun _ _ h => h) _ _ S a _ hSP hS ?_)
  have := wpAnyS_lex (P := P) (Q := fun a w => Q .normal a w) (hSP _ hS) hB.1 ks hst l 0 (Array.replicate l.toArray.size false) S a (by simp) (fun j hj => absurd hj (Nat.not_lt_zero _)) (fun j o hj ht => by
    have hlt : j < l.toArray.size := (Array.getElem?_eq_some_iff.1 hj).1
    simp at hlt
    simp [hlt] at ht) (by simpa using hB.2) (by simpa using h.out)
  simpa using this
theorem wp_region_staged {id : Nat} {Q : Exit → Act → World → Prop} {a : Act} {w : World} {l : List Oper} (S : World → Prop) (ks : List Nat) (hm : P.follows .mixedOrders = true)
    (hB : Region.lexB .any l.toArray = true) (hst : stagedB .any l.toArray ks = true) (hS : S w.drew) (h : Lex P (fun _ => True) l.toArray (fun a w => Q .normal a w) ks l S a) :
    (Code.region id l.toArray true).wp P Q a w := wp_region_stagedP (fun _ => True) S ks hm hB hst (fun _ _ => trivial) hS h

theorem wpList_of_lex {Q' : Exit → Act → World → Prop} : ∀ (ks : List Nat) (l : List Oper) (S : World → Prop) (a : Act) (w : World), (∀ w, S w → P0 w) → S w →
    wpLex P P0 ops (fun a w => Q' .normal a w) ks l S a → wpList P ops Q' l a w
  | [], [], _, _, _, _, hw, h => h _ hw
  | _ :: _, [], _, _, _, _, hw, h => h _ hw
  | [], _ :: _, _, _, _, _, _, h => False.elim h
  | _ :: ks, _ :: rest, _, _, _, hSP, hw, h => sStep.wp hSP hw (fun S' a' w' hP' hw' hk => wpList_of_lex ks rest S' a' w' hP' hw' hk) h
/-- A region that keeps the order of the text, by the same steps. -/
theorem wp_region_text {id : Nat} {Q : Exit → Act → World → Prop} {a : Act} {w : World} {l : List Oper} (S : World → Prop) (ks : List Nat) (hS : S w) (h : Lex P (fun _ => True) l.toArray (fun a w => Q .normal a w) ks l S a) :
    (Code.region id l.toArray false).wp P Q a w :=
  wp_region_lit (wpList_of_lex ks l S a w (fun _ _ => trivial) hS h.out)
end
end Go.Proofs.YtepljhpamconbaaDoor
