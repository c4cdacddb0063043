/- Facts of a world that own blocks, apart from one another: a change of what one of them owns leaves the others. -/
import Derived.Test.YtmcfomainmppdaaGreatDoorFRowI
import Derived.Test.YtmcfomainmppdaaGreatDoorFRowN
import Derived.Test.YtmcfomainmppdaaGreatDoorFSa
namespace Go.Proofs.YtmcfomainmppdaaGreatDoor
open Go.RowKit
structure Ft where
  own : Nat → Prop
  ln : List Nat
  F : World → Prop
  lt : ∀ {w g}, F w → own g → g < w.heap.size
  bel : ∀ {w w'}, F w → Below w.heap.size w w' → F w'
  spa : ∀ {w R}, F w → ¬ own R → NoHd ln R w → Spares R w F
def Own (l : List Ft) (g : Nat) : Prop := ∃ f ∈ l, f.own g
structure SS (V : World) (l : List Ft) (w : World) : Prop where
  old : Below V.heap.size V w
  has : ∀ f ∈ l, f.F w
  lo : ∀ f ∈ l, ∀ g, f.own g → V.heap.size ≤ g
  ap : l.Pairwise fun f f' => ∀ g, f.own g → ¬ f'.own g
section
variable {V w w' : World} {l l' : List Ft} {f f' : Ft} {R n i : Nat}
theorem SS.get (h : SS V l w) (hm : f ∈ l) : f.F w := h.has f hm
theorem SS.start (V : World) : SS V [] V := ⟨Below.refl _ _, fun _ h => absurd h List.not_mem_nil, fun _ h => absurd h List.not_mem_nil, .nil⟩
theorem SS.step (h : SS V l w) (hb : Below w.heap.size w w') : SS V l w' := ⟨h.old.trans (hb.mono h.old.size), fun f hf => f.bel (h.has f hf) hb, h.lo, h.ap⟩
theorem SS.subl (h : SS V l w) (hs : l'.Sublist l) : SS V l' w := ⟨h.old, fun f hf => h.has f (hs.subset hf), fun f hf => h.lo f (hs.subset hf), h.ap.sublist hs⟩
theorem SS.perm (h : SS V l w) (hp : l.Perm l') : SS V l' w :=
  ⟨h.old, fun f hf => h.has f (hp.mem_iff.2 hf), fun f hf => h.lo f (hp.mem_iff.2 hf), (hp.pairwise_iff fun h g h1 h2 => h g h2 h1).1 h.ap⟩
theorem SS.more (h : SS V l w) (h' : SS w l' w') : SS V (l' ++ l) w' :=
  ⟨h.old.trans (h'.old.mono h.old.size), fun f hf => (List.mem_append.1 hf).elim (h'.has f) fun hf => f.bel (h.has f hf) h'.old, fun f hf g hg => (List.mem_append.1 hf).elim (fun hf => Nat.le_trans h.old.size (h'.lo f hf g hg)) fun hf => h.lo f hf g hg,
    List.pairwise_append.2 ⟨h'.ap, h.ap, fun f hf f' hf' g h1 h2 => absurd (f'.lt (h.has f' hf') h2) (Nat.not_lt.2 (h'.lo f hf g h1))⟩⟩
theorem SS.one (h : SS V l w) (hf : f.F w) (hl : ∀ g, f.own g → V.heap.size ≤ g) (ha : ∀ f' ∈ l, ∀ g, f.own g → ¬ f'.own g) : SS V (f :: l) w :=
  ⟨h.old, fun _f' hf' => (List.mem_cons.1 hf').elim (fun e => e ▸ hf) (h.has _), fun _f' hf' => (List.mem_cons.1 hf').elim (fun e => e ▸ hl) (h.lo _), .cons ha h.ap⟩
theorem SS.fact (h : SS V l w) (f : Ft) (hf : f.F w) (h0 : ∀ g, ¬ f.own g := by exact fun _ h => h) : SS V (f :: l) w := h.one hf (fun g hg => absurd hg (h0 g)) fun _ _ g hg => absurd hg (h0 g)
theorem SS.lt (h : SS V l w) {g : Nat} (hg : Own l g) : g < w.heap.size := by
  obtain ⟨f, hf, hg⟩ := hg
  exact f.lt (h.has f hf) hg
theorem SS.drew (h : SS V l w) : SS V l w.drew := h.step (Below.refl _ _).drew
theorem SS.nil (h : SS V l w) : SS V [] w := h.subl (List.nil_sublist _)
def Qt (b : Option Nat) (w : World) (i : Nat) (l : List Ft) : Prop := ∀ R, b = some R → ∀ j f, j ≠ i → l[j]? = some f → NoHd f.ln R w
def OkA (n : Nat) : List Ft → Prop
  | [] => True
  | f :: l => f.ln.contains n = false ∧ OkA n l
def OkL (n : Nat) : Nat → List Ft → Prop
  | _, [] => True
  | 0, _ :: l => OkA n l
  | i + 1, f :: l => f.ln.contains n = false ∧ OkL n i l
def OzA : List Ft → Prop
  | [] => True
  | f :: l => f.ln = [] ∧ OzA l
def OzL : Nat → List Ft → Prop
  | _, [] => True
  | 0, _ :: l => OzA l
  | i + 1, f :: l => f.ln = [] ∧ OzL i l
theorem OkA.at : ∀ {l : List Ft} {j : Nat} {f : Ft}, OkA n l → l[j]? = some f → f.ln.contains n = false
  | [], _, _, _, h => by simp at h
  | _ :: _, 0, _, hk, h => by simp at h; subst h; exact hk.1
  | _ :: l, j + 1, _, hk, h => OkA.at (l := l) hk.2 (by simpa using h)
theorem OkL.at : ∀ {l : List Ft} {i j : Nat} {f : Ft}, OkL n i l → j ≠ i → l[j]? = some f → f.ln.contains n = false
  | [], _, _, _, _, _, h => by simp at h
  | _ :: _, 0, 0, _, _, hne, _ => absurd rfl hne
  | _ :: _, 0, j + 1, _, hk, _, h => OkA.at hk (by simpa using h)
  | _ :: _, i + 1, 0, _, hk, _, h => by simp at h; subst h; exact hk.1
  | _ :: l, i + 1, j + 1, _, hk, hne, h => OkL.at (l := l) hk.2 (fun e => hne (congrArg (· + 1) e)) (by simpa using h)
theorem OzA.at : ∀ {l : List Ft} {j : Nat} {f : Ft}, OzA l → l[j]? = some f → f.ln = []
  | [], _, _, _, h => by simp at h
  | _ :: _, 0, _, hk, h => by simp at h; subst h; exact hk.1
  | _ :: l, j + 1, _, hk, h => OzA.at (l := l) hk.2 (by simpa using h)
theorem OzL.at : ∀ {l : List Ft} {i j : Nat} {f : Ft}, OzL i l → j ≠ i → l[j]? = some f → f.ln = []
  | [], _, _, _, _, _, h => by simp at h
  | _ :: _, 0, 0, _, _, hne, _ => absurd rfl hne
  | _ :: _, 0, j + 1, _, hk, _, h => OzA.at hk (by simpa using h)
  | _ :: _, i + 1, 0, _, hk, _, h => by simp at h; subst h; exact hk.1
  | _ :: l, i + 1, j + 1, _, hk, hne, h => OzL.at (l := l) hk.2 (fun e => hne (congrArg (· + 1) e)) (by simpa using h)
theorem qtN {b : Option Nat} (hn : ∀ R, b = some R → HdIs R n w) (h : OkL n i l) : Qt b w i l := fun R e _ _ hne hj => (hn R e).no (h.at hne hj)
theorem qtZ {b : Option Nat} (h : OzL i l) : Qt b w i l := fun R _ _ _ hne hj => by rw [h.at hne hj]; exact fun _ _ => rfl
theorem SS.turn {b : Option Nat} (h : SS V l w) (hi : l[i]? = some f) (hg : w.grownBy w' b) (hb : ∀ R, b = some R → f.own R) (hq : Qt b w i l) (hf : f'.F w') (ho : ∀ g, f'.own g → f.own g ∨ w.heap.size ≤ g) : SS V (l.set i f') w' := by
  have hm := List.mem_of_getElem? hi
  have hil := (List.getElem?_eq_some_iff.1 hi).1
  have hall : ∀ j f1, j ≠ i → l[j]? = some f1 → f1.F w' := fun j f1 hne hj => by
    have h1 := h.has f1 (List.mem_of_getElem? hj)
    cases hbb : b with
    | none => exact f1.bel h1 ⟨hg.os, hg.tape, hg.output, hg.size, fun k hk => hg.block k hk (by rw [hbb]; simp)⟩
    | some R =>
      refine f1.spa h1 (fun hR => ?_) (hq R hbb j f1 hne hj) w' hg.size (fun k hk hlt => hg.block k hlt (by rw [hbb]; simpa using hk)) w' (Below.refl _ _)
      have hfR := hb R hbb
      have hjl := (List.getElem?_eq_some_iff.1 hj).1
      have e1 : l[j] = f1 := (List.getElem?_eq_some_iff.1 hj).2
      have e2 : l[i] = f := (List.getElem?_eq_some_iff.1 hi).2
      rcases Nat.lt_or_gt_of_ne hne with hlt | hlt
      · exact List.pairwise_iff_getElem.1 h.ap j i hjl hil hlt R (by rw [e1]; exact hR) (by rw [e2]; exact hfR)
      · exact List.pairwise_iff_getElem.1 h.ap i j hil hjl hlt R (by rw [e2]; exact hfR) (by rw [e1]; exact hR)
  have hcase : ∀ f1 ∈ l.set i f', f1 = f' ∨ ∃ j, j ≠ i ∧ l[j]? = some f1 := fun f1 hf1 => by
    obtain ⟨j, hj⟩ := List.mem_iff_getElem?.1 hf1
    rw [List.getElem?_set] at hj
    by_cases e : i = j
    · rw [if_pos e, if_pos hil] at hj; exact .inl (Option.some.inj hj).symm
    · rw [if_neg e] at hj; exact .inr ⟨j, Ne.symm e, hj⟩
  have hfl : ∀ g, f'.own g → V.heap.size ≤ g := fun g hgo => (ho g hgo).elim (h.lo f hm g) fun h2 => Nat.le_trans h.old.size h2
  refine ⟨h.old.trans ⟨hg.os, hg.tape, hg.output, hg.size, fun k hk => hg.block k (Nat.lt_of_lt_of_le hk h.old.size) fun e => absurd (h.lo f hm k (hb k e.symm)) (Nat.not_le.2 hk)⟩, fun f1 hf1 => ?_, fun f1 hf1 => ?_, ?_⟩
  · rcases hcase f1 hf1 with rfl | ⟨j, hne, hj⟩
    · exact hf
    · exact hall j f1 hne hj
  · rcases hcase f1 hf1 with rfl | ⟨j, hne, hj⟩
    · exact hfl
    · exact h.lo f1 (List.mem_of_getElem? hj)
  · refine List.pairwise_iff_getElem.2 fun j k hj hk hjk g h1 h2 => ?_
    rw [List.length_set] at hj hk
    have key : ∀ m (hm : m < l.length), m ≠ i → f'.own g → l[m].own g → False := fun m hm2 hne h3 h4 => by
      rcases ho g h3 with h5 | h5
      · have e2 : l[i] = f := (List.getElem?_eq_some_iff.1 hi).2
        rcases Nat.lt_or_gt_of_ne hne with hlt | hlt
        · exact List.pairwise_iff_getElem.1 h.ap m i hm2 hil hlt g h4 (by rw [e2]; exact h5)
        · exact List.pairwise_iff_getElem.1 h.ap i m hil hm2 hlt g (by rw [e2]; exact h5) h4
      · exact absurd (l[m].lt (h.has _ (List.getElem_mem hm2)) h4) (Nat.not_lt.2 h5)
    by_cases ej : i = j
    · subst ej
      simp only [List.getElem_set_self] at h1
      rw [List.getElem_set_ne (by omega)] at h2
      exact key k hk (by omega) h1 h2
    · rw [List.getElem_set_ne ej] at h1
      by_cases ek : i = k
      · subst ek
        simp only [List.getElem_set_self] at h2
        exact key j hj (by omega) h2 h1
      · rw [List.getElem_set_ne ek] at h2
        exact List.pairwise_iff_getElem.1 h.ap j k hj hk hjk g h1 h2
end
theorem put_grown {R : Nat} : ∀ (cs : List Value) (o : Nat) (w : World), w.grownBy (putAt R o cs w) (some R)
  | [], _, _ => ⟨rfl, rfl, rfl, Nat.le_refl _, fun _ _ _ => rfl⟩
  | c :: cs, o, w => by
    obtain ⟨h1, h2, h3, h4, h5⟩ := put_grown (R := R) cs (o + 1) (w.setCell ⟨R, o, none⟩ c)
    have hs : (w.setCell ⟨R, o, none⟩ c).heap.size = w.heap.size := by simp [World.setCell]
    exact ⟨h1, h2, h3, by rw [← hs]; exact h4, fun j hj hne => (h5 j (by rw [hs]; exact hj) hne).trans (setCell_far _ fun e => hne (by rw [e]))⟩
def bx (R : Nat) (obj : Obj) : Ft := ⟨fun g => g = R, [], Has 0 R obj, fun h e => e ▸ h.ltS, fun h hb => h.below hb, fun h hn _ => has_spare h fun e => hn e.symm⟩
def rO {α : Type} (K : EK α) [OwnK K] (t : TypeId) (p : Option Addr) (n c : Nat) (xs : List α) : Ft :=
  ⟨fun g => ob p = some g, K.S, fun w => OwV K t 0 w (.slice p n c) xs, fun h e => (h.block e).2, fun h hb => h.below hb, fun h hn hS => h.spare (by rw [ob_eq]; exact hn) (.inr hS)⟩
def cF (p : Prop) : Ft := ⟨fun _ => False, [], fun _ => p, fun _ h => h.elim, fun h _ => h, fun h _ _ _ _ _ _ _ => h⟩
section
variable {α : Type} {K : EK α} {w : World} {t : TypeId} {p : Option Addr} {n c i b : Nat} {xs : List α}
theorem OwV.len (h : OwV K t b w (.slice p n c) xs) : n = xs.length := h.slv.one0
theorem SlV.pt (h : SlV K w (.slice p n c) xs) (hi : i < n) : ∃ g o, p = some ⟨g, o, none⟩ := by
  have hl := h.one0
  obtain ⟨g, o, e, _⟩ := h.ptr (List.getElem?_eq_getElem (show i < xs.length by omega))
  exact ⟨g, o, e⟩
theorem OwV.some_cell {g : Nat} (h : OwV K t b w (.slice (some ⟨g, 0, none⟩) n c) xs) (hi : i < xs.length) {j : Nat} (hj : j < K.sz) : ∃ u, w.cell? ⟨g, i * K.sz + j, none⟩ = some u := by
  obtain ⟨cs, h1, h2⟩ := h.slv.at (List.getElem?_eq_getElem hi)
  have hl := K.len h2
  refine ⟨cs[j]'(by omega), ?_⟩
  have := h1.2 j _ (List.getElem?_eq_getElem (by omega))
  rwa [Nat.zero_add] at this
end
section
variable {α : Type} {K : EK α} [OwnK K] {V w w' : World} {l : List Ft} {t : TypeId} {p : Option Addr} {n c i R b : Nat} {xs : List α} {obj : Obj} {v : Value}
theorem SS.own (h : SS V l w) (hm : rO K t p n c xs ∈ l) : OwV K t 0 w (.slice p n c) xs := h.get hm
theorem SS.box (h : SS V l w) (hm : bx R obj ∈ l) : Has 0 R obj w := h.get hm
theorem SS.slv (h : SS V l w) (hm : rO K t p n c xs ∈ l) : SlV K w (.slice p n c) xs := (h.own hm).slv
theorem SS.len (h : SS V l w) (hm : rO K t p n c xs ∈ l) : n = xs.length := (h.own hm).len
theorem SS.cap (h : SS V l w) (hm : rO K t p n c xs ∈ l) : xs.length ≤ c ∧ c ≤ 9223372036854775807 := (h.own hm).le
theorem SS.pt (h : SS V l w) (hm : rO K t p n c xs ∈ l) (hi : i < n) : ∃ g, p = some ⟨g, 0, none⟩ := by
  have hl := h.len hm
  obtain ⟨r, e, e1, h1 | ⟨g, e2, _⟩⟩ := (h.own hm).sh
  · rw [h1.1] at hl; subst hl; exact absurd hi (Nat.not_lt_zero _)
  · injection e1 with e1
    exact ⟨g, by rw [e1, e2]⟩
theorem SS.repl {f f' : Ft} (h : SS V (f :: l) w) (hf : f'.F w) (ho : ∀ g, f'.own g → f.own g) : SS V (f' :: l) w :=
  (h.subl (List.sublist_cons_self ..)).one hf (fun g hg => h.lo _ (List.mem_cons_self ..) g (ho g hg)) fun f1 h1 g hg => (List.pairwise_cons.1 h.ap).1 f1 h1 g (ho g hg)
theorem SS.cut {m : Nat} (h : SS V (rO K t p n c xs :: l) w) (hm : m ≤ xs.length) : SS V (rO K t p m c (xs.take m) :: l) w := h.repl ((h.own (List.mem_cons_self ..)).take hm) fun _ h => h
end
section
variable {w : World} {g o n c i : Nat} {t : TypeId} {b : Nat}
theorem SlV.cel {α : Type} {K : EK α} {f : α → List Value} (hf : ∀ {w cs x}, K.R w cs x → cs = f x) {xs : List α} {x : α} (h : SlV K w (.slice (some ⟨g, o, none⟩) n c) xs) (hx : xs[i]? = some x) (j : Nat) {u : Value} (hu : (f x)[j]? = some u) : w.cell? ⟨g, o + i * K.sz + j, none⟩ = some u := by
  obtain ⟨cs, h1, h2⟩ := h.at hx
  have h3 := hf h2
  subst h3
  exact h1.2 j u hu
theorem SlV.int {xs : List Int} {x : Int} (h : SlV intK w (.slice (some ⟨g, o, none⟩) n c) xs) (hx : xs[i]? = some x) : w.cell? ⟨g, o + i, none⟩ = some (.int .i64 x) := by
  have h1 := h.cel (f := fun x => [.int .i64 x]) (fun e => e) hx 0 rfl
  rwa [show o + i * intK.sz + 0 = o + i from by show o + i * 1 + 0 = _; omega] at h1
theorem OwV.int {xs : List Int} {x : Int} (h : OwV intK t b w (.slice (some ⟨g, 0, none⟩) n c) xs) (hx : xs[i]? = some x) : w.cell? ⟨g, i, none⟩ = some (.int .i64 x) := by
  have h1 := h.slv.int hx
  rwa [Nat.zero_add] at h1
end
section
variable {P : Program} {V : World} {ops : Array Oper} {Q : Act → World → Prop} {f0 fs fs' : List Ft} {k : Nat} {ks : List Nat} {o : Oper} {rest : List Oper} {a a' : Act} {v : Value}
theorem gdS (hs : f0.Sublist fs) : Gd (SS V f0) ⟨Own fs, SS V fs⟩ := ⟨fun _ _ h hb => SS.step h hb, fun _ h => SS.subl h hs, fun _ h _ hg => SS.lt h hg⟩
structure Sx (P : Program) (V : World) (ops : Array Oper) (Q : Act → World → Prop) (f0 : List Ft) (ks : List Nat) (l : List Oper) (fs : List Ft) (a : Act) : Prop where
  out : f0.Sublist fs → wpX P (SS V f0) V.heap.size ops Q ks l ⟨Own fs, SS V fs⟩ a
theorem wp_region_S {id : Nat} {Q : Exit → Act → World → Prop} {w : World} {l : List Oper} (f0 : List Ft) (ks : List Nat) (hK : SS V fs w) (h : Sx P V l.toArray (fun a w => Q .normal a w) f0 ks l fs a) (hs : f0.Sublist fs) (hm : P.follows .mixedOrders = true := by kernel_rfl)
    (hn : Region.noSelect l.toArray = true := by kernel_rfl) (hlen : (l.length == ks.length) = true := by kernel_rfl) (hst : floatB .any l.toArray ks = true := by kernel_rfl) : (Code.region id l.toArray true).wp P Q a w :=
  wp_region_X (SS V f0) V.heap.size _ ks hm hn hlen hst (fun _ h => h.old.size) (gdS hs) hK.drew (h.out hs)
theorem wp_region_T {id : Nat} {Q : Exit → Act → World → Prop} {w : World} {l : List Oper} (ks : List Nat) (hK : SS V fs w) (h : Sx P V l.toArray (fun a w => Q .normal a w) [] ks l fs a) : (Code.region id l.toArray false).wp P Q a w :=
  wp_region_lit (wpList_of_X (P0 := SS V []) (base := V.heap.size) (fun _ h => h.old.size) ks l _ a w (gdS (List.nil_sublist _)) hK (h.out (List.nil_sublist _)))
theorem sxEnd (h : ∀ w, SS V fs w → Q a w) : Sx P V ops Q f0 ks [] fs a := ⟨fun _ => by cases ks <;> exact h⟩
theorem sxN (hg : Region.wanted o (yielded ops a.tmps) = false) (h : Sx P V ops Q f0 ks rest fs (a.put o.dst undef)) : Sx P V ops Q f0 (k :: ks) (o :: rest) fs a := ⟨fun hs => by
  show nStep _ _ _ _ _ _ _ _ _
  unfold nStep
  rw [if_neg (by simp [hg])]
  exact h.out hs⟩
theorem sx0 (hg : Wants ops o a) (h1 : ∀ w, SS V f0 w → Flt v w ((execOp a.eval o).run P w)) (h : Sx P V ops Q f0 ks rest fs (a.put o.dst v)) : Sx P V ops Q f0 (0 :: ks) (o :: rest) fs a := ⟨fun hs => by
  show nStep _ _ _ _ _ _ _ _ _
  unfold nStep
  rw [if_pos hg]
  exact ⟨v, h1, h.out hs⟩⟩
theorem sx1 (hg : Wants ops o a) (h1 : ∀ w, SS V fs w → Does P (fun u w' => u = v ∧ Below w.heap.size w w') ((execOp a.eval o).run P w)) (h : Sx P V ops Q f0 ks rest fs (a.put o.dst v)) : Sx P V ops Q f0 (1 :: ks) (o :: rest) fs a := ⟨fun hs => by
  show nStep _ _ _ _ _ _ _ _ _
  unfold nStep
  rw [if_pos hg]
  exact ⟨v, h1, h.out hs⟩⟩
theorem sx2 {α : Type} [hα : Nonempty α] {f : α → Value} {l' : α → List Ft} (hg : Wants ops o a) (h1 : ∀ w, SS V fs w → Does P (fun u w' => ∃ x, u = f x ∧ SS w (l' x) w') ((execOp a.eval o).run P w)) (h : ∀ x, Sx P V ops Q f0 ks rest (l' x ++ fs) (a.put o.dst (f x))) : Sx P V ops Q f0 (2 :: ks) (o :: rest) fs a := ⟨fun hs => by
  have hs2 : ∀ x, f0.Sublist (l' x ++ fs) := fun x => hs.trans (List.sublist_append_right _ _)
  show nStep _ _ _ _ _ _ _ _ _
  unfold nStep
  rw [if_pos hg]
  refine ⟨α, hα, f, fun x => ⟨Own (l' x ++ fs), SS V (l' x ++ fs)⟩, fun x => gdS (hs2 x), fun _ x => ⟨fun w hw => SS.subl hw (List.sublist_append_right _ _), fun g ⟨f, hf, hg⟩ => ⟨f, List.mem_append_right _ hf, hg⟩⟩, fun w hw => (h1 w hw).mono fun u w' ⟨x, e, hu⟩ => ⟨x, e, fun _ => hu.old, fun e => absurd e (by decide), fun _ g ⟨f, hf, hg⟩ => ?_, SS.more hw hu⟩, fun x => (h x).out (hs2 x)⟩
  exact (List.mem_append.1 hf).elim (fun hf => .inr (hu.lo f hf g hg)) fun hf => .inl ⟨f, hf, hg⟩⟩
theorem sx3 {f : Nat → Value} (obj : Obj) (hg : Wants ops o a) (h1 : ∀ w, (execOp a.eval o).run P w = .ok (.value (f w.heap.size)) (w.alloc obj)) (h : ∀ R, Sx P V ops Q f0 ks rest (bx R obj :: fs) (a.put o.dst (f R))) : Sx P V ops Q f0 (3 :: ks) (o :: rest) fs a := ⟨fun hs => by
  show nStep _ _ _ _ _ _ _ _ _
  unfold nStep
  rw [if_pos hg]
  have hm := mkV_of h1
  refine ⟨obj, fun w _ => by rw [hm]; exact h1 w, fun R => ?_⟩
  rw [hm]
  have e : Kl.new ⟨Own fs, SS V fs⟩ V.heap.size R obj = ⟨Own (bx R obj :: fs), SS V (bx R obj :: fs)⟩ := by
    refine Kl.eq (fun g => ⟨fun h => h.elim (fun ⟨f, hf, hg⟩ => ⟨f, List.mem_cons_of_mem _ hf, hg⟩) fun h => ⟨_, List.mem_cons_self .., h⟩, fun ⟨f, hf, hg⟩ => ?_⟩) fun w => ⟨fun ⟨h1, h2, h3⟩ => SS.one h1 ⟨Nat.zero_le _, h2.2⟩ (fun g e => e ▸ h2.1) fun f hf g e hg => h3 ⟨f, hf, e ▸ hg⟩, fun h => ⟨h.subl (List.sublist_cons_self ..), ⟨h.lo _ (List.mem_cons_self ..) R rfl, (h.get (List.mem_cons_self ..)).2⟩, fun ⟨f, hf, hg⟩ => (List.pairwise_cons.1 h.ap).1 f hf R rfl hg⟩⟩
    rcases List.mem_cons.1 hf with rfl | hf
    · exact .inr hg
    · exact .inl ⟨f, hf, hg⟩
  rw [e]
  exact (h R).out (hs.cons _)⟩
theorem sx4 {α : Type} [hα : Nonempty α] {f : α → Value} {l' : α → List Ft} (hg : Wants ops o a) (hs2 : ∀ x, f0.Sublist (l' x)) (h1 : ∀ w, SS V fs w → Does P (fun u w' => ∃ x, u = f x ∧ SS V (l' x) w') ((execOp a.eval o).run P w)) (h : ∀ x, Sx P V ops Q f0 ks rest (l' x) (a.put o.dst (f x))) : Sx P V ops Q f0 (4 :: ks) (o :: rest) fs a := ⟨fun hs => by
  show nStep _ _ _ _ _ _ _ _ _
  unfold nStep
  rw [if_pos hg]
  exact ⟨α, hα, f, fun x => ⟨Own (l' x), SS V (l' x)⟩, fun x => gdS (hs2 x), fun e => absurd e (by decide), fun w hw => (h1 w hw).mono fun u w' ⟨x, e, h4⟩ => ⟨x, e, fun e => absurd e (by decide), fun e => absurd e (by decide), fun e => absurd rfl e, h4⟩, fun x => (h x).out (hs2 x)⟩⟩
theorem sx5 {α : Type} [hα : Nonempty α] {f : α → Value} {l' : α → List Ft} (hg : Wants ops o a) (hs2 : ∀ x, f0.Sublist (l' x)) (h1 : ∀ w, SS V fs w → Does P (fun u w' => ∃ x, u = f x ∧ FrN (Own fs) w w' ∧ (∀ g, Own (l' x) g → Own fs g ∨ w.heap.size ≤ g) ∧ SS V (l' x) w') ((execOp a.eval o).run P w)) (h : ∀ x, Sx P V ops Q f0 ks rest (l' x) (a.put o.dst (f x))) : Sx P V ops Q f0 (5 :: ks) (o :: rest) fs a := ⟨fun hs => by
  show nStep _ _ _ _ _ _ _ _ _
  unfold nStep
  rw [if_pos hg]
  exact ⟨α, hα, f, fun x => ⟨Own (l' x), SS V (l' x)⟩, fun x => gdS (hs2 x), fun e => absurd e (by decide), fun w hw => (h1 w hw).mono fun u w' ⟨x, e, h1, h3, h4⟩ => ⟨x, e, fun e => absurd e (by decide), fun _ => h1, fun _ => h3, h4⟩, fun x => (h x).out (hs2 x)⟩⟩
end
end Go.Proofs.YtmcfomainmppdaaGreatDoor
