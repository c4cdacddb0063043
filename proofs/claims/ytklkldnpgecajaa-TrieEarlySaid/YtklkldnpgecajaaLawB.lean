/- The trie's plain law, second part: remove, Get, Lookup. No program in sight. -/
import Derived.Test.YtklkldnpgecajaaLawA
namespace Go.Proofs.Ytklkldnpgecajaa

theorem fix_law {a n : Nat} {v : Int} {h : Bool} {l r : T} {k lo : Nat} (w1 : k ≤ n) (w2 : V a n) (w3 : lo ≤ a) (w4 : a + sz n ≤ lo + sz k) (w5 : l.Wf (n + 1) a) (w6 : r.Wf (n + 1) (a + sz (n + 1))) :
    (T.fix a n v h l r).Wf k lo ∧ ∀ x, x ∈ (T.fix a n v h l r).list ↔ x ∈ (T.node a n v h l r).list := by
  have m0 : l.Wf k lo := (kid_room0 w5).mono w1 w3 w4
  have m1 : r.Wf k lo := (kid_room1 w6).mono w1 w3 w4
  cases h with
  | true => exact ⟨⟨w1, w2, w3, w4, w5, w6, .inl rfl⟩, fun x => Iff.rfl⟩
  | false =>
    cases l with
    | nil => exact ⟨m1, fun x => by simp [T.fix, T.list]⟩
    | node a1 n1 v1 h1 l1 r1 =>
      cases r with
      | nil => exact ⟨m0, fun x => by simp [T.fix, T.list]⟩
      | node a2 n2 v2 h2 l2 r2 => exact ⟨⟨w1, w2, w3, w4, w5, w6, .inr ⟨(fun e => by cases e), (fun e => by cases e)⟩⟩, fun x => Iff.rfl⟩

theorem rem_law (pa pn : Nat) (hv : V pa pn) : ∀ (t : T) (k lo : Nat) (u : Int), t.Wf k lo → t.get pa pn = some u → (t.remove pa pn).Wf k lo ∧ ∀ x, x ∈ (t.remove pa pn).list ↔ x ∈ t.list ∧ ¬ x.is pa pn
  | .nil, _, _, _, _, h => by cases h
  | .node a n v h l r, k, lo, u, ⟨w1, w2, w3, w4, w5, w6, w7⟩, hg => by
    unfold T.remove
    unfold T.get at hg
    by_cases hs : a = pa ∧ n = pn
    · rw [if_pos hs]
      obtain ⟨rfl, rfl⟩ := hs
      obtain ⟨f1, f2⟩ := fix_law (v := 0) (h := false) w1 w2 w3 w4 w5 w6
      refine ⟨f1, fun x => (f2 x).trans ?_⟩
      have n0 : ∀ x ∈ l.list, ¬ x.is a n := fun x hx ⟨_, e⟩ => by have := w5.mem x hx; omega
      have n1 : ∀ x ∈ r.list, ¬ x.is a n := fun x hx ⟨_, e⟩ => by have := w6.mem x hx; omega
      have n2 : x ∈ (if h = true then [(⟨a, n, v⟩ : Rt)] else []) → x.is a n := fun hx => by
        cases h with
        | false => cases hx
        | true => simp at hx; subst hx; exact ⟨rfl, rfl⟩
      simp only [T.list, Bool.false_eq_true, if_false, List.nil_append, List.mem_append]
      constructor
      · rintro (h | h)
        · exact ⟨.inr (.inl h), n0 x h⟩
        · exact ⟨.inr (.inr h), n1 x h⟩
      · rintro ⟨h | h | h, hn⟩
        · exact absurd (n2 h) hn
        · exact .inl h
        · exact .inr h
    · rw [if_neg hs] at hg ⊢
      by_cases hc : cvr a n pa pn = true
      · rw [if_pos hc] at hg
        have hlt := (cvr_lt hc hs).1
        obtain ⟨c1, c2, c3⟩ := (w2.cvr hv).1 hc
        have hn : n < 32 := by have := hv.le; omega
        have hh := sz_half hn
        have b := w2.bit hn c2 c3
        have no : ∀ x, x ∈ (if h = true then [(⟨a, n, v⟩ : Rt)] else []) → ¬ x.is pa pn := fun x hx ⟨e1, e2⟩ => by
          cases h with
          | false => cases hx
          | true => simp at hx; subst hx; exact hs ⟨e1, e2⟩
        by_cases hb : bit pa n = 0
        · rw [if_pos hb] at hg ⊢
          have hx := b.1 hb
          obtain ⟨i1, i2⟩ := rem_law pa pn hv l (n + 1) a u w5 hg
          obtain ⟨f1, f2⟩ := fix_law (v := v) (h := h) w1 w2 w3 w4 i1 w6
          refine ⟨f1, fun x => (f2 x).trans ?_⟩
          have nr := no_right (pn := pn) w6 hx x
          have no := no x
          simp only [T.list, List.mem_append, i2 x]
          constructor
          · rintro (h | ⟨h, hn⟩ | h)
            · exact ⟨.inl h, no h⟩
            · exact ⟨.inr (.inl h), hn⟩
            · exact ⟨.inr (.inr h), nr h⟩
          · rintro ⟨h | h | h, hn⟩
            · exact .inl h
            · exact .inr (.inl ⟨h, hn⟩)
            · exact .inr (.inr h)
        · rw [if_neg hb] at hg ⊢
          have hx : a + sz (n + 1) ≤ pa := by have := mt b.2 hb; omega
          obtain ⟨i1, i2⟩ := rem_law pa pn hv r (n + 1) (a + sz (n + 1)) u w6 hg
          obtain ⟨f1, f2⟩ := fix_law (v := v) (h := h) w1 w2 w3 w4 w5 i1
          refine ⟨f1, fun x => (f2 x).trans ?_⟩
          have nl := no_left (pn := pn) w5 hx x
          have no := no x
          simp only [T.list, List.mem_append, i2 x]
          constructor
          · rintro (h | h | ⟨h, hn⟩)
            · exact ⟨.inl h, no h⟩
            · exact ⟨.inr (.inl h), nl h⟩
            · exact ⟨.inr (.inr h), hn⟩
          · rintro ⟨h | h | h, hn⟩
            · exact .inl h
            · exact .inr (.inl h)
            · exact .inr (.inr ⟨h, hn⟩)
      · rw [if_neg hc] at hg; cases hg

theorem get_law (pa pn : Nat) (hv : V pa pn) : ∀ (t : T) (k lo : Nat) (u : Int), t.Wf k lo → (t.get pa pn = some u ↔ (⟨pa, pn, u⟩ : Rt) ∈ t.list)
  | .nil, _, _, _, _ => by simp [T.get, T.list]
  | .node a n v h l r, k, lo, u, ⟨w1, w2, w3, w4, w5, w6, w7⟩ => by
    unfold T.get
    simp only [T.list, List.mem_append]
    by_cases hs : a = pa ∧ n = pn
    · rw [if_pos hs]
      obtain ⟨rfl, rfl⟩ := hs
      have n0 : (⟨a, n, u⟩ : Rt) ∉ l.list := fun hx => by have := w5.mem _ hx; simp only at this; omega
      have n1 : (⟨a, n, u⟩ : Rt) ∉ r.list := fun hx => by have := w6.mem _ hx; simp only at this; omega
      cases h <;> simp [n0, n1, eq_comm]
    · rw [if_neg hs]
      have no : (⟨pa, pn, u⟩ : Rt) ∉ (if h = true then [(⟨a, n, v⟩ : Rt)] else []) := fun hx => by
        cases h with
        | false => cases hx
        | true => simp at hx; exact hs ⟨hx.1.symm, hx.2.1.symm⟩
      by_cases hc : cvr a n pa pn = true
      · rw [if_pos hc]
        have hlt := (cvr_lt hc hs).1
        obtain ⟨c1, c2, c3⟩ := (w2.cvr hv).1 hc
        have hn : n < 32 := by have := hv.le; omega
        have hh := sz_half hn
        have b := w2.bit hn c2 c3
        by_cases hb : bit pa n = 0
        · rw [if_pos hb, get_law pa pn hv l (n + 1) a u w5]
          have hx := b.1 hb
          have nr : (⟨pa, pn, u⟩ : Rt) ∉ r.list := fun h => no_right (pn := pn) w6 hx _ h ⟨rfl, rfl⟩
          simp [no, nr]
        · rw [if_neg hb, get_law pa pn hv r (n + 1) _ u w6]
          have hx : a + sz (n + 1) ≤ pa := by have := mt b.2 hb; omega
          have nl : (⟨pa, pn, u⟩ : Rt) ∉ l.list := fun h => no_left (pn := pn) w5 hx _ h ⟨rfl, rfl⟩
          simp [no, nl]
      · rw [if_neg hc]
        have hc' : ¬ (n ≤ pn ∧ a ≤ pa ∧ pa < a + sz n) := fun h => hc ((w2.cvr hv).2 h)
        have n0 : (⟨pa, pn, u⟩ : Rt) ∉ l.list := fun hx => by
          have := (kid_room0 w5).mem _ hx; simp only at this; have := sz_pos pn; exact hc' ⟨by omega, by omega, by omega⟩
        have n1 : (⟨pa, pn, u⟩ : Rt) ∉ r.list := fun hx => by
          have := (kid_room1 w6).mem _ hx; simp only at this; have := sz_pos pn; exact hc' ⟨by omega, by omega, by omega⟩
        simp [no, n0, n1]

/-! ### Lookup -/
def bstep (x : Nat) (b : Best) (y : Rt) : Best := if cts y.a y.n x = true ∧ (b.f = false ∨ b.n < y.n) then ⟨y.a, y.n, y.v, true⟩ else b
def bestL (x : Nat) (l : List Rt) (b : Best) : Best := l.foldl (bstep x) b
theorem best_skip {x : Nat} : ∀ {l : List Rt} {b : Best}, (∀ y ∈ l, ¬ cts y.a y.n x = true) → bestL x l b = b
  | [], _, _ => rfl
  | y :: l, b, h => by
    show bestL x l (bstep x b y) = b
    rw [show bstep x b y = b from if_neg fun hc => h y (List.mem_cons_self ..) hc.1]
    exact best_skip fun z hz => h z (List.mem_cons_of_mem _ hz)
theorem best_append {x : Nat} (l r : List Rt) (b : Best) : bestL x (l ++ r) b = bestL x r (bestL x l b) := List.foldl_append ..
theorem not_cts {x : Nat} {t : T} {k lo : Nat} (h : t.Wf k lo) (hx : x < lo ∨ lo + sz k ≤ x) : ∀ y ∈ t.list, ¬ cts y.a y.n x = true := fun y hy hc => by
  have hm := h.mem y hy
  have := (hm.2.1.cts x).1 hc
  omega
theorem look_law (x : Nat) : ∀ (t : T) (k lo : Nat) (b : Best), t.Wf k lo → (b.f = true → b.n < k) → t.look x b = bestL x t.list b
  | .nil, _, _, _, _, _ => rfl
  | .node a n v h l r, k, lo, b, hw, hb => by
    have wself : T.Wf (.node a n v h l r) n a := ⟨Nat.le_refl _, hw.2.1, Nat.le_refl _, Nat.le_refl _, hw.2.2.2.2⟩
    obtain ⟨w1, w2, w3, w4, w5, w6, w7⟩ := hw
    unfold T.look
    by_cases hc : cts a n x = true
    · rw [if_pos hc]
      obtain ⟨c1, c2⟩ := (w2.cts x).1 hc
      have hup : bestL x (if h = true then [(⟨a, n, v⟩ : Rt)] else []) b = upd h a n v b := by
        cases h with
        | false => rfl
        | true =>
          show bstep x b ⟨a, n, v⟩ = _
          unfold bstep
          rw [if_pos]
          · rfl
          · refine ⟨hc, ?_⟩
            cases hf : b.f with
            | false => exact .inl rfl
            | true => have := hb hf; exact .inr (by simp only; omega)
      have hf : (upd h a n v b).f = true → (upd h a n v b).n < n + 1 := by
        unfold upd
        cases h with
        | true => simp
        | false => simp; intro h; have := hb h; omega
      simp only [T.list]
      rw [best_append, best_append, hup]
      by_cases h32 : n = 32
      · rw [if_pos h32]
        have e0 : l = .nil := w5.none (by omega)
        have e1 : r = .nil := w6.none (by omega)
        subst e0 e1
        rfl
      · rw [if_neg h32]
        have hn : n < 32 := by have := w2.le; omega
        have hh := sz_half hn
        have bb := w2.bit hn c1 c2
        by_cases hb0 : bit x n = 0
        · rw [if_pos hb0, look_law x l (n + 1) a _ w5 hf, best_skip (l := r.list) (not_cts w6 (.inl (bb.1 hb0)))]
        · rw [if_neg hb0, look_law x r (n + 1) _ _ w6 hf, best_skip (l := l.list) (not_cts w5 (.inr (by have := mt bb.2 hb0; omega)))]
    · rw [if_neg hc]
      have : ¬ (a ≤ x ∧ x < a + sz n) := fun h => hc ((w2.cts x).2 h)
      exact (best_skip (not_cts wself (by omega))).symm

end Go.Proofs.Ytklkldnpgecajaa
