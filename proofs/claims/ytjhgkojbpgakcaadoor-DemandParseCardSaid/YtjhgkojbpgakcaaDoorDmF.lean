/- A range over strings.Lines: the law of the statement, in the logic of facts. -/
import Derived.Test.YtjhgkojbpgakcaaDoorDmE
namespace Go.Proofs.YtjhgkojbpgakcaaDoor
open Go.RowKit Go.Shelf
open Go.Lib (decDigits)
attribute [local go_sem] Oper.semAt_some
theorem SS.midO {V w : World} {A B : List Ft} {r : Nat} {o o' : Obj} (h : SS V (A ++ bx r o :: B) w) (hA : OzA A) (hB : OzA B) : SS V (A ++ bx r o' :: B) (w.putObj r o') :=
  ((h.perm List.perm_middle).putO (hA.app hB)).perm List.perm_middle.symm
section
variable {σ : Type} {V w : World} {b : Nat} {G Gx : σ → List Ft} {Rel Rx : List (List UInt8) → σ → Prop} {txt : List UInt8} {n : Nat}
def LpPost (V : World) (b : Nat) (X : List Ft) (G Gx : σ → List Ft) (Rel Rx : List (List UInt8) → σ → Prop) (xs : List (List UInt8)) (r : List UInt8) : Exit → Act → World → Prop
  | .normal, _, W => ∃ s, Rel xs s ∧ SS V (SB b r :: (G s ++ X)) W
  | .ret, _, W => ∃ s, Rx xs s ∧ SS V (Gx s ++ X) W
  | _, _, _ => False
theorem wp_range_S {p : Tmp} {assign body : Code} {Q : Exit → Act → World → Prop} {a : Act} {g : Operand} {s0 : σ}
    (hg : a.eval g = .func (.func 38) #[] #[.pointer (some ⟨b, 0, none⟩)]) (a₁ : List UInt8 → Act) (hz : ∀ s, OzA (G s)) (hzx : ∀ s, OzA (Gx s)) (hl : txt.length ≤ 100000) (h0 : Rel [] s0) (hK : SS V (SB b txt :: G s0) w)
    (hassign : ∀ (l m : Nat) (x : List UInt8) (W : World), assign.wpIn (Fence.wide.inRound l) m Tryd.prog (Exit.then (fun a' w' => a' = a₁ x ∧ w' = W) (fun _ _ _ => False)) { tmps := ((#[p] : Array Tmp).zip #[.string ⟨x.toArray⟩]).foldl (fun tmps (t, a) => tmps.setIfInBounds t a) a.tmps, defers := [] } W)
    (hbody : ∀ (l m : Nat) (X : List Ft) (pre : List (List UInt8)) (x r : List UInt8) (s : σ) (W : World), OzA X → x.length ≤ txt.length → Rel pre s → SS V (SB b r :: (G s ++ X)) W → body.wpIn (Fence.wide.inRound l) m Tryd.prog (LpPost V b X G Gx Rel Rx (pre ++ [x]) r) (a₁ x) W)
    (hdone : ∀ (D : Nat) (s : σ) (ls : List (List UInt8)) (r : List UInt8) (W : World), LnsB txt ls → Rel ls s → SS V (bx D (.deferred (some [])) :: SB b r :: G s) W → Q .normal { a with defers := { target := .collected D, args := #[] } :: a.defers } W)
    (hstop : ∀ (D : Nat) (s : σ) (pre : List (List UInt8)) (r : List UInt8) (W : World), PreB txt pre r → Rx pre s → SS V (bx D (.deferred (some [])) :: Gx s) W → Q .ret { a with defers := { target := .collected D, args := #[] } :: a.defers } W) :
    (Code.rangeFunc g #[p] assign body).wpIn Fence.wide n Tryd.prog Q a w := by
  refine wpIn_rangeFunc ?_
  intro fn hfn
  obtain ⟨rec, hrec⟩ : ∃ rec : LoopState → Option Code → Loop, rec = fun st pe => { state := st, pending := pe, fn, tmps := a.tmps, params := #[p], assign, body, defers := w.heap.size } := ⟨_, rfl⟩
  have hK2 := (hK.newO (.deferred (some []))).newO (.loop (rec .ready none))
  obtain ⟨W1, hW1⟩ : ∃ W1, (w.alloc (.deferred (some []))).alloc (.loop (rec .ready none)) = W1 := ⟨_, rfl⟩
  rw [World.size_alloc, hW1] at hK2
  obtain ⟨l, hl1⟩ : ∃ l, w.heap.size + 1 = l := ⟨_, rfl⟩
  rw [hl1] at hK2
  have hX : ∀ o o' : Obj, OzA [bx l o, bx w.heap.size o'] := fun _ _ => ⟨rfl, rfl, trivial⟩
  have hlo : ∀ {A : List Ft} {o o' : Obj} {W : World}, SS V (A ++ [bx l o, bx w.heap.size o']) W → W.heap[l]? = some o := fun h => (h.box (List.mem_append_right _ (List.mem_cons_self ..))).2
  have hput : ∀ {A : List Ft} {o o' o2 : Obj} {W : World}, OzA A → SS V (A ++ [bx l o, bx w.heap.size o']) W → SS V (A ++ [bx l o2, bx w.heap.size o']) (W.putObj l o2) := fun hA h => SS.midO h hA ⟨rfl, trivial⟩
  have hdrop : ∀ {A : List Ft} {o o' : Obj} {W : World}, SS V (A ++ [bx l o, bx w.heap.size o']) W → SS V (bx w.heap.size o' :: A) W := fun {A o o' W} h => ((h.perm (List.perm_middle (l₂ := [bx w.heap.size o']))).subl (List.sublist_cons_self ..)).perm (List.perm_append_comm (l₂ := [bx w.heap.size o']))
  have hK3 : SS V ((SB b txt :: G s0) ++ [bx l (.loop (rec .ready none)), bx w.heap.size (.deferred (some []))]) W1 := hK2.perm (List.perm_append_comm (l₁ := [bx l (.loop (rec .ready none)), bx w.heap.size (.deferred (some []))]) (l₂ := SB b txt :: G s0))
  clear hK2 hK
  refine ⟨l, [{ target := .collected w.heap.size, args := #[] }], W1, { target := .fn (.func 38) #[.pointer (some ⟨b, 0, none⟩)], args := #[.func (.yield l) #[] #[]] }, W1, 38, #[.func (.yield l) #[] #[], .pointer (some ⟨b, 0, none⟩)], W1, ?_, ?_, ?_, ?_, fun e => (by cases e), ?_⟩
  · rw [← hW1, hrec, ← hl1]; exact run_enterLoop_outer _ _ _ _ _
  · simp only [resolve, hg]
    simp [go_sem]
  · intro f' _; trivial
  · have eg := enters_of Tryd.func38 (by kernel_rfl) rfl
    simp [invoke, go_sem, eg]
  · refine (lines_in (b := b) (G := fun s => G s ++ [bx l (.loop (rec .ready none)), bx w.heap.size (.deferred (some []))]) (Gx := fun s => Gx s ++ [bx l (.loop (rec .done (some .ret))), bx w.heap.size (.deferred (some []))]) (Rel := Rel) (Rx := Rx) (fun s => (hz s).app (hX _ _)) hl ?_ h0 hK3).mono ?_
    · intro m pre x r s W hx hr hK
      have hK : SS V ((SB b r :: G s) ++ [bx l (.loop (rec .ready none)), bx w.heap.size (.deferred (some []))]) W := hK
      have hlp := hlo hK
      have hy := run_yield (P := Tryd.prog) (args := #[.string ⟨x.toArray⟩]) hlp (by rw [hrec]; rfl)
      rw [hrec] at hy
      dsimp only at hy
      refine ⟨fn, _, assign, body, hy, roundIn_of_wpIn hfn (wpIn_mono (hassign l m x W) ?_)⟩
      rintro e a' W' h
      cases e with
      | normal =>
        obtain ⟨rfl, rfl⟩ := h
        refine ⟨_, run_beginRound hlp (by rw [hrec]), ?_⟩
        have hK4 := hput (o2 := .loop { rec .ready none with state := .busy }) (A := SB b r :: G s) ⟨rfl, hz s⟩ hK
        refine wpIn_mono (hbody l m [bx l (.loop { rec .ready none with state := .busy }), bx w.heap.size (.deferred (some []))] pre x r s _ (hX _ _) hx hr hK4) ?_
        rintro e a3 W3 hp
        cases e with
        | normal =>
          obtain ⟨s', hr', hK5⟩ := hp
          have hK5 : SS V ((SB b r :: G s') ++ [bx l (.loop { rec .ready none with state := .busy }), bx w.heap.size (.deferred (some []))]) W3 := hK5
          refine ⟨_, _, run_endRound none (hlo hK5), .inl ⟨rfl, s', hr', ?_⟩⟩
          have := hput (o2 := .loop (rec .ready none)) (A := SB b r :: G s') ⟨rfl, hz s'⟩ hK5
          rw [hrec] at this ⊢
          exact this
        | ret =>
          obtain ⟨s', hr', hK5⟩ := hp
          refine ⟨_, _, run_endRound (some .ret) (hlo hK5), .inr ⟨rfl, s', hr', ?_⟩⟩
          have := hput (o2 := .loop (rec .done (some .ret))) (hzx s') hK5
          rw [hrec] at this ⊢
          exact this
        | exit id => exact hp.elim
        | goto t => exact hp.elim
        | panic ch => exact hp.elim
        | outgrown => exact hp.elim
      | exit id => exact h.elim
      | goto t => exact h.elim
      | ret => exact h.elim
      | panic ch => exact h.elim
      | outgrown => exact h.elim
    · rintro e W2 ⟨⟨v, rfl⟩, (⟨s, ls, h1, h2, r, hK⟩ | ⟨s, pre, r, h1, h2, hK⟩)⟩
      · have hK : SS V ((SB b r :: G s) ++ [bx l (.loop (rec .ready none)), bx w.heap.size (.deferred (some []))]) W2 := hK
        have he := run_endLoop (P := Tryd.prog) (hlo hK) (by rw [hrec]; simp)
        exact ⟨none, _, by rw [hrec] at he; exact he, hdone _ s ls r _ h1 h2 (hdrop (hput (A := SB b r :: G s) ⟨rfl, hz s⟩ hK))⟩
      · have he := run_endLoop (P := Tryd.prog) (hlo hK) (by rw [hrec]; simp)
        exact ⟨some .ret, _, by rw [hrec] at he; exact he, wpIn_ret (hstop _ s pre r _ h1 h2 (hdrop (hput (hzx s) hK)))⟩
end
end Go.Proofs.YtjhgkojbpgakcaaDoor
