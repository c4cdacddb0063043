/- A region that draws its order, walked once in the order of the text, inside a round of a range over a function (or any wide fence). -/
import Derived.Test.YtklkldnpgecajaaStage
import Derived.OrdersIn
import Derived.RangeFuncCalls
namespace Go.Proofs.Ytklkldnpgecajaa
section
variable {P : Program} {P0 : World → Prop} {ops : Array Oper} {md : Region.Mode} {F : Fence} {n : Nat}

/-- What a fence must let by. -/
structure Wide (F : Fence) (n : Nat) (P : Program) : Prop where
  fn : ∀ f, F.fn f
  calls : ∀ f args w R, Calls P f args w R → (F.depth.isSome = true → 1 ≤ n) ∧ CallsIn F (n - 1) P f args w R
theorem wide_wide (n : Nat) (P : Program) : Wide Fence.wide n P := ⟨fun _ => trivial, fun _ _ _ _ h => ⟨fun e => (by cases e), callsIn_wide.2 h⟩⟩
theorem wide_round (n l : Nat) (P : Program) : Wide (Fence.wide.inRound l) n P := ⟨fun _ => trivial, fun _ _ _ _ h => ⟨fun e => (by cases e), (callsIn_wide.2 h).inRound l⟩⟩

theorem Does.uponIn (hF : Wide F n P) {R : Value → World → Prop} {a : Act} {o : Oper} {K : Act → World → Prop} {Q : Exit → Act → World → Prop} (h : ∀ v w, R v w → K (a.put o.dst v) w)
    {r : Result Next} (hd : Does P R r) : o.uponIn F n P a K Q r := by
  cases r with
  | ok x w =>
    cases x with
    | value u => exact h _ _ hd
    | skip => exact h _ _ hd
    | enter f args =>
      obtain ⟨h1, h2⟩ := hF.calls _ _ _ _ hd
      exact ⟨h1, CallsIn.mono h2 fun _ _ ⟨v, he, hr⟩ => by subst he; exact h _ _ hr⟩
    | _ => exact False.elim hd
  | halt x w => exact False.elim hd

theorem sStep.wpIn (hF : Wide F n P) {k : Nat} {o : Oper} (hdef : ∀ c, o.op ≠ .defer c) {S : World → Prop} {a : Act} {K : (World → Prop) → Act → Prop} {K' : Act → World → Prop} {Q' : Exit → Act → World → Prop} {w : World} (hSP : ∀ w, S w → P0 w) (hw : S w)
    (h : ∀ S' a' w', (∀ w, S' w → P0 w) → S' w' → K S' a' → K' a' w') (hs : sStep P P0 ops k o S a K) :
    if Region.wanted o (yielded ops a.tmps) = true then o.wpIn F n P a w K' Q' else (∀ f, o.about P w a.eval = some f → F.fn f) ∧ K' (a.put o.dst undef) w := by
  unfold sStep at hs
  split
  · rename_i hg
    rw [if_pos hg] at hs
    refine ⟨fun f _ => hF.fn f, ?_⟩
    rw [Oper.semAt_eq _ _ _ hdef]
    split at hs
    · obtain ⟨v, h1, h2⟩ := hs
      exact Does.uponIn hF (R := fun u w' => u = v ∧ w' = w) (fun u w' ⟨e1, e2⟩ => by subst e1; subst e2; exact h _ _ _ hSP hw h2) (Flt.does ⟨rfl, rfl⟩ (h1 w (hSP w hw)))
    · obtain ⟨v, h1, h2⟩ := hs
      exact Does.uponIn hF (fun u w' ⟨e1, e2⟩ => by subst e1; exact h _ _ _ hSP e2 h2) (h1 w hw)
    · obtain ⟨α, _, f, S', ⟨hP, h1⟩, h2⟩ := hs
      exact Does.uponIn hF (fun u w' ⟨x, hx, hu⟩ => by subst hx; exact h _ _ _ (hP x) hu (h2 x)) (h1 w hw)
  · rename_i hg
    rw [if_neg hg] at hs
    exact ⟨fun f _ => hF.fn f, h _ _ _ hSP hw hs⟩

theorem wpAnyIn_of_S (hF : Wide F n P) (hdef : ∀ (j : Nat) (o : Oper) c, ops[j]? = some o → o.op ≠ .defer c) {kd : Nat → Nat} {Q : Act → World → Prop} {Q' : Exit → Act → World → Prop} (hQ : ∀ a w, Q a w → Q' .normal a w) :
    ∀ (fuel : Nat) (listed : Array Bool) (S : World → Prop) (a : Act) (w : World), (∀ w, S w → P0 w) → S w → wpAnyS P P0 md ops kd Q fuel listed S a → wpAnyIn F n P md ops Q' fuel listed a w
  | 0, _, _, _, _, _, hw, h => ⟨h.1, hQ _ _ (h.2 _ hw)⟩
  | fuel + 1, _, _, _, _, hSP, hw, h => ⟨fun h0 => hQ _ _ (h.1 h0 _ hw), fun i hi => by
      have h1 := h.2 i hi
      unfold sOp at h1
      unfold wpOpIn
      split
      · rename_i ho; rw [ho] at h1; exact wpAnyIn_of_S hF hdef hQ fuel _ _ _ _ hSP hw h1
      · rename_i o ho
        rw [ho] at h1
        exact sStep.wpIn hF (fun c => hdef i o c ho) hSP hw (fun S' a' w' hP' hw' hk => wpAnyIn_of_S hF hdef hQ fuel _ _ _ _ hP' hw' hk) h1⟩

/-- No operation defers a call. -/
def noDefer (ops : Array Oper) : Bool := ops.all fun o => match o.op with
  | .defer _ => false
  | _ => true
theorem noDefer_spec {ops : Array Oper} (h : noDefer ops = true) : ∀ (j : Nat) (o : Oper) c, ops[j]? = some o → o.op ≠ .defer c := fun j o c ho hc => by
  unfold noDefer at h
  rw [Array.all_eq_true] at h
  obtain ⟨hj, he⟩ := Array.getElem?_eq_some_iff.1 ho
  have := h j hj
  rw [he, hc] at this
  cases this

/-- **A REGION THAT DRAWS ITS ORDER, WALKED ONCE, INSIDE A WIDE FENCE.** -/
theorem wpIn_region_staged {id : Nat} {Q : Exit → Act → World → Prop} {a : Act} {w : World} {l : List Oper} (hF : Wide F n P) (S : World → Prop) (ks : List Nat) (hm : P.follows .mixedOrders = true)
    (hB : Region.lexB .any l.toArray = true) (hst : stagedB .any l.toArray ks = true) (hnd : noDefer l.toArray = true) (hS : S w.drew) (h : Lex P (fun _ => True) l.toArray (fun a w => Q .normal a w) ks l S a) :
    (Code.region id l.toArray true).wpIn F n P Q a w := by
  simp only [Region.lexB, Bool.and_eq_true] at hB
  refine wpIn_region_any hm (wpAnyIn_of_S hF (noDefer_spec hnd) (P0 := fun _ => True) (kd := fun i => ks.getD i 0) (Q := fun a w => Q .normal a w) (fun _ _ h => h) _ _ S a _ (fun _ _ => trivial) hS ?_)
  have := wpAnyS_lex (P := P) (P0 := fun _ => True) (w0 := w) (Q := fun a w => Q .normal a w) trivial hB.1 ks hst l 0 (Array.replicate l.toArray.size false) S a (by simp) (fun j hj => absurd hj (Nat.not_lt_zero _)) (fun j o hj ht => by
    have hlt : j < l.toArray.size := (Array.getElem?_eq_some_iff.1 hj).1
    simp at hlt
    simp [hlt] at ht) (by simpa using hB.2) (by simpa using h.out)
  simpa using this
end
end Go.Proofs.Ytklkldnpgecajaa
