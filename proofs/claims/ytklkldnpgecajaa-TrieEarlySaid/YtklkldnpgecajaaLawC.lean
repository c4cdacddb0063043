/- The trie's plain law, third part: the sorted table that it shows: put, remove, the number of nodes. No program in sight. -/
import Derived.Test.YtklkldnpgecajaaLawB
namespace Go.Proofs.Ytklkldnpgecajaa

theorem sorted_ext : ∀ {l l' : List Rt}, l.Pairwise Rt.lt → l'.Pairwise Rt.lt → (∀ x, x ∈ l ↔ x ∈ l') → l = l'
  | [], [], _, _, _ => rfl
  | [], y :: _, _, _, h => by have := (h y).2 (List.mem_cons_self ..); cases this
  | x :: _, [], _, _, h => by have := (h x).1 (List.mem_cons_self ..); cases this
  | x :: l, y :: l', h1, h2, h => by
    obtain ⟨a1, a2⟩ := List.pairwise_cons.1 h1
    obtain ⟨b1, b2⟩ := List.pairwise_cons.1 h2
    have e : x = y := by
      rcases List.mem_cons.1 ((h x).1 (List.mem_cons_self ..)) with e | hx
      · exact e
      · rcases List.mem_cons.1 ((h y).2 (List.mem_cons_self ..)) with e | hy
        · exact e.symm
        · have := b1 x hx; have := a1 y hy; unfold Rt.lt at *; omega
    subst e
    have irr : ¬ Rt.lt x x := by unfold Rt.lt; omega
    rw [sorted_ext a2 b2 fun z => ?_]
    constructor
    · intro hz
      rcases List.mem_cons.1 ((h z).1 (List.mem_cons_of_mem _ hz)) with e | hz'
      · subst e; exact absurd (a1 z hz) irr
      · exact hz'
    · intro hz
      rcases List.mem_cons.1 ((h z).2 (List.mem_cons_of_mem _ hz)) with e | hz'
      · subst e; exact absurd (b1 z hz) irr
      · exact hz'

instance (x y : Rt) : Decidable (x.lt y) := by unfold Rt.lt; infer_instance
instance (x : Rt) (a n : Nat) : Decidable (x.is a n) := by unfold Rt.is; infer_instance
/-- Put on a table, as the reference does it. -/
def putL (r : Rt) : Bool → List Rt → List Rt
  | d, [] => if d = true then [] else [r]
  | d, x :: l => if x.is r.a r.n then putL r d l else if d = false ∧ r.lt x then r :: x :: putL r true l else x :: putL r d l
theorem putL_mem (r x : Rt) : ∀ (l : List Rt) (d : Bool), x ∈ putL r d l ↔ (d = false ∧ x = r) ∨ (x ∈ l ∧ ¬ x.is r.a r.n)
  | [], d => by cases d <;> simp [putL]
  | y :: l, d => by
    unfold putL
    by_cases h : y.is r.a r.n
    · rw [if_pos h, putL_mem r x l d]
      constructor
      · rintro (h1 | ⟨h1, h2⟩)
        · exact .inl h1
        · exact .inr ⟨List.mem_cons_of_mem _ h1, h2⟩
      · rintro (h1 | ⟨h1, h2⟩)
        · exact .inl h1
        · rcases List.mem_cons.1 h1 with e | h1
          · subst e; exact absurd h h2
          · exact .inr ⟨h1, h2⟩
    · rw [if_neg h]
      by_cases hd : d = false ∧ r.lt y
      · rw [if_pos hd]
        obtain ⟨rfl, _⟩ := hd
        simp only [List.mem_cons, putL_mem r x l true, true_and, Bool.true_eq_false, false_and, false_or]
        constructor
        · rintro (h1 | h1 | ⟨h1, h2⟩)
          · exact .inl h1
          · subst h1; exact .inr ⟨.inl rfl, h⟩
          · exact .inr ⟨.inr h1, h2⟩
        · rintro (h1 | ⟨h1 | h1, h2⟩)
          · exact .inl h1
          · exact .inr (.inl h1)
          · exact .inr (.inr ⟨h1, h2⟩)
      · rw [if_neg hd]
        simp only [List.mem_cons, putL_mem r x l d]
        constructor
        · rintro (h1 | h1 | ⟨h1, h2⟩)
          · subst h1; exact .inr ⟨.inl rfl, h⟩
          · exact .inl h1
          · exact .inr ⟨.inr h1, h2⟩
        · rintro (h1 | ⟨h1 | h1, h2⟩)
          · exact .inr (.inl h1)
          · exact .inl h1
          · exact .inr (.inr ⟨h1, h2⟩)
theorem putL_sorted (r : Rt) : ∀ (l : List Rt) (d : Bool), l.Pairwise Rt.lt → (putL r d l).Pairwise Rt.lt
  | [], d, _ => by cases d <;> simp [putL]
  | y :: l, d, hs => by
    obtain ⟨a1, a2⟩ := List.pairwise_cons.1 hs
    unfold putL
    by_cases h : y.is r.a r.n
    · rw [if_pos h]; exact putL_sorted r l d a2
    · rw [if_neg h]
      by_cases hd : d = false ∧ r.lt y
      · rw [if_pos hd]
        obtain ⟨rfl, hlt⟩ := hd
        have hall : ∀ z ∈ putL r true l, y.lt z := fun z hz => by
          rcases (putL_mem r z l true).1 hz with ⟨h1, _⟩ | ⟨h1, _⟩
          · cases h1
          · exact a1 z h1
        refine List.pairwise_cons.2 ⟨fun z hz => ?_, List.pairwise_cons.2 ⟨hall, putL_sorted r l true a2⟩⟩
        rcases List.mem_cons.1 hz with e | hz
        · subst e; exact hlt
        · have := hall z hz; unfold Rt.lt at *; omega
      · rw [if_neg hd]
        refine List.pairwise_cons.2 ⟨fun z hz => ?_, putL_sorted r l d a2⟩
        rcases (putL_mem r z l d).1 hz with ⟨h1, h2⟩ | ⟨h1, _⟩
        · subst h2
          have : ¬ z.lt y := fun h => hd ⟨h1, h⟩
          unfold Rt.is at h
          unfold Rt.lt at *
          omega
        · exact a1 z h1
/-- Remove on a table. -/
def delL (pa pn : Nat) (l : List Rt) : List Rt := l.filter fun x => decide (¬ x.is pa pn)
theorem delL_mem {pa pn : Nat} {l : List Rt} {x : Rt} : x ∈ delL pa pn l ↔ x ∈ l ∧ ¬ x.is pa pn := by simp [delL]
theorem delL_sorted {pa pn : Nat} {l : List Rt} (h : l.Pairwise Rt.lt) : (delL pa pn l).Pairwise Rt.lt := h.filter _

/-- A whole trie. -/
def T.Ok (t : T) : Prop := t.Wf 0 0
theorem put_list {t : T} (h : t.Ok) {ra rn : Nat} (rv : Int) (hv : V ra rn) : (t.put ra rn rv).Ok ∧ (t.put ra rn rv).list = putL ⟨ra, rn, rv⟩ false t.list := by
  obtain ⟨i1, _, i3⟩ := put_law ra rn rv hv t 0 0 h V.zero (Nat.zero_le _) (Nat.zero_le _) (by have := hv.top; simpa [sz] using this)
  refine ⟨i1, sorted_ext i1.sorted (putL_sorted _ _ _ h.sorted) fun x => ?_⟩
  rw [i3 x, putL_mem]
  simp
theorem rem_list {t : T} (h : t.Ok) {pa pn : Nat} {u : Int} (hv : V pa pn) (hg : t.get pa pn = some u) : (t.remove pa pn).Ok ∧ (t.remove pa pn).list = delL pa pn t.list := by
  obtain ⟨i1, i2⟩ := rem_law pa pn hv t 0 0 u h hg
  exact ⟨i1, sorted_ext i1.sorted (delL_sorted h.sorted) fun x => by rw [i2 x, delL_mem]⟩

/-! ### How many nodes -/
theorem len_le_of_sub {α : Type} [DecidableEq α] : ∀ {l l' : List α}, l.Nodup → (∀ x ∈ l, x ∈ l') → l.length ≤ l'.length
  | [], _, _, _ => Nat.zero_le _
  | x :: l, l', h, hs => by
    obtain ⟨h1, h2⟩ := List.nodup_cons.1 h
    have hx := hs x (List.mem_cons_self ..)
    have := len_le_of_sub (l := l) (l' := l'.erase x) h2 fun y hy => (List.mem_erase_of_ne (fun e => by subst e; exact h1 hy)).2 (hs y (List.mem_cons_of_mem _ hy))
    rw [List.length_erase_of_mem hx] at this
    have := List.length_pos_of_mem hx
    simp only [List.length_cons]; omega
theorem len_eq {α : Type} [DecidableEq α] {l l' : List α} (h : l.Nodup) (h' : l'.Nodup) (hs : ∀ x, x ∈ l ↔ x ∈ l') : l.length = l'.length :=
  Nat.le_antisymm (len_le_of_sub h fun x hx => (hs x).1 hx) (len_le_of_sub h' fun x hx => (hs x).2 hx)

/-- The longest prefix that covers two others, as the reference finds it. -/
def meetP (b m : Nat) : Nat → Nat → Nat × Nat
  | a, 0 => (a, 0)
  | a, n + 1 => if cvr a ((n + 1 : Nat) : Int) b (m : Int) = true then (a, n + 1) else meetP b m (base n a) n
theorem meet_over {a n b m : Nat} (h : cvr a (n : Int) b (m : Int) = true) : meetP b m a n = (a, n) := by
  cases n with
  | zero => rfl
  | succ n => unfold meetP; rw [if_pos h]
theorem V.parent {a n : Nat} (h : V a (n + 1)) : V (base n a) n := ⟨by have := h.le; omega, Nat.dvd_of_mod_eq_zero (base_mod n a), base_w32 h.w32⟩
theorem meet_halves {p c b m : Nat} (hp : V p c) (hb : V b m) (hcm : c ≤ m) (h1 : p + sz (c + 1) ≤ b) (h2 : b < p + sz c) : ∀ (n a : Nat), V a n → c < n → p ≤ a → a + sz n ≤ p + sz (c + 1) → meetP b m a n = (p, c)
  | 0, _, _, h, _, _ => by omega
  | n + 1, a, hv, hn, ha, hs => by
    have hc32 : c < 32 := by have := hv.le; omega
    have hh := sz_half hc32
    unfold meetP
    rw [if_neg (by rw [hv.cvr hb]; omega)]
    have hpar := hv.parent
    have hbs := (base_iff (x := a) hpar.dvd).1 rfl
    have hpos := sz_pos (n + 1)
    rcases Nat.lt_or_ge c n with h | h
    · have g1 : p ≤ base n a := by
        refine Nat.le_of_not_lt fun hlt => ?_
        have := hp.before hpar (by omega) hlt
        omega
      exact meet_halves hp hb hcm h1 h2 n (base n a) hpar h g1 ((hp.kid0 hc32).fits hpar h (by omega))
    · obtain rfl : c = n := by omega
      have : base c a = p := (base_iff hp.dvd).2 ⟨ha, by omega⟩
      rw [this]
      exact meet_over ((hp.cvr hb).2 ⟨hcm, by omega, h2⟩)

def Rt.key (x : Rt) : Nat × Nat := (x.a, x.n)
def meetR (x y : Rt) : Nat × Nat := meetP y.a y.n x.a x.n
def meets : List Rt → List (Nat × Nat)
  | x :: y :: l => meetR x y :: meets (y :: l)
  | _ => []
theorem meets_append (p : Nat × Nat) : ∀ (l r : List Rt) (hl : l ≠ []) (hr : r ≠ []), p ∈ meets (l ++ r) ↔ p ∈ meets l ∨ p = meetR (l.getLast hl) (r.head hr) ∨ p ∈ meets r
  | [], _, hl, _ => absurd rfl hl
  | [x], y :: r, _, _ => by simp [meets]
  | [x], [], _, hr => absurd rfl hr
  | x :: y :: l, r, hl, hr => by
    have ih := meets_append p (y :: l) r (by simp) hr
    simp only [List.cons_append] at ih ⊢
    simp only [meets, List.mem_cons, ih, List.getLast_cons_cons]
    constructor
    · rintro (h | h | h | h)
      · exact .inl (.inl h)
      · exact .inl (.inr h)
      · exact .inr (.inl h)
      · exact .inr (.inr h)
    · rintro ((h | h) | h | h)
      · exact .inl h
      · exact .inr (.inl h)
      · exact .inr (.inr (.inl h))
      · exact .inr (.inr (.inr h))
def T.pfx : T → List (Nat × Nat)
  | .nil => []
  | .node a n _ _ l r => (a, n) :: (l.pfx ++ r.pfx)
theorem T.pfx_len : ∀ t : T, t.pfx.length = t.count
  | .nil => rfl
  | .node _ _ _ _ l r => by simp [T.pfx, T.count, l.pfx_len, r.pfx_len]; omega
theorem T.Wf.pfx_mem : ∀ {t : T} {k lo : Nat}, t.Wf k lo → ∀ q ∈ t.pfx, k ≤ q.2 ∧ V q.1 q.2 ∧ lo ≤ q.1 ∧ q.1 + sz q.2 ≤ lo + sz k
  | .nil, _, _, _, _, h => by cases h
  | .node a n v h l r, k, lo, ⟨w1, w2, w3, w4, w5, w6, _⟩, q, hq => by
    simp only [T.pfx, List.mem_cons, List.mem_append] at hq
    rcases hq with e | hq | hq
    · subst e; exact ⟨w1, w2, w3, w4⟩
    · have := (kid_room0 w5).pfx_mem q hq; exact ⟨by omega, this.2.1, by omega, by omega⟩
    · have := (kid_room1 w6).pfx_mem q hq; exact ⟨by omega, this.2.1, by omega, by omega⟩
theorem T.Wf.nodup : ∀ {t : T} {k lo : Nat}, t.Wf k lo → t.pfx.Nodup
  | .nil, _, _, _ => List.nodup_nil
  | .node a n v h l r, k, lo, ⟨w1, w2, w3, w4, w5, w6, _⟩ => by
    refine List.nodup_cons.2 ⟨fun hq => ?_, List.nodup_append.2 ⟨w5.nodup, w6.nodup, fun x hx y hy e => ?_⟩⟩
    · rcases List.mem_append.1 hq with hq | hq
      · have := w5.pfx_mem _ hq; omega
      · have := w6.pfx_mem _ hq; omega
    · subst e
      have a1 := w5.pfx_mem _ hx
      have a2 := w6.pfx_mem _ hy
      have := sz_pos x.2
      omega
theorem T.Wf.nonempty : ∀ {t : T} {k lo : Nat}, t.Wf k lo → t ≠ .nil → t.list ≠ []
  | .nil, _, _, _, h => absurd rfl h
  | .node a n v h l r, k, lo, ⟨w1, w2, w3, w4, w5, w6, w7⟩, _ => by
    rcases w7 with rfl | ⟨hl, _⟩
    · simp [T.list]
    · have := w5.nonempty hl
      simp [T.list, this]
theorem nodes_law (q : Nat × Nat) : ∀ {t : T} {k lo : Nat}, t.Wf k lo → (q ∈ t.pfx ↔ (∃ x ∈ t.list, q = x.key) ∨ q ∈ meets t.list)
  | .nil, _, _, _ => by simp [T.pfx, T.list, meets]
  | .node a n v h l r, k, lo, ⟨w1, w2, w3, w4, w5, w6, w7⟩ => by
    have il := nodes_law q w5
    have ir := nodes_law q w6
    -- the meets of the kids' lists
    have hmk : q ∈ meets (l.list ++ r.list) ↔ q ∈ meets l.list ∨ (q = (a, n) ∧ l ≠ .nil ∧ r ≠ .nil) ∨ q ∈ meets r.list := by
      cases hl : l with
      | nil => simp [T.list, meets]
      | node _ _ _ _ _ _ =>
        cases hr : r with
        | nil => simp [T.list, meets]
        | node _ _ _ _ _ _ =>
          rw [← hl, ← hr]
          have el := w5.nonempty (by rw [hl]; exact fun h => by cases h)
          have er := w6.nonempty (by rw [hr]; exact fun h => by cases h)
          have m1 := w5.mem _ (List.getLast_mem el)
          have m2 := w6.mem _ (List.head_mem er)
          have hn32 : n < 32 := by have := m1.2.1.le; omega
          have hh := sz_half hn32
          have hm : meetR (l.list.getLast el) (r.list.head er) = (a, n) := by
            unfold meetR
            have := sz_pos (r.list.head er).n
            exact meet_halves w2 m2.2.1 (by omega) m2.2.2.1 (by omega) _ _ m1.2.1 (by omega) (by omega) (by omega)
          rw [meets_append q _ _ el er, hm]
          simp [hl, hr]
    have hself : T.Wf (.node a n v h l r) n a := ⟨Nat.le_refl _, w2, Nat.le_refl _, Nat.le_refl _, w5, w6, w7⟩
    cases h with
    | false =>
      have h7 : l ≠ .nil ∧ r ≠ .nil := by simpa using w7
      simp only [T.pfx, T.list, Bool.false_eq_true, if_false, List.nil_append, List.mem_cons, List.mem_append, il, ir, hmk]
      constructor
      · rintro (h | (⟨x, h, e⟩ | h) | (⟨x, h, e⟩ | h))
        · exact .inr (.inr (.inl ⟨h, h7⟩))
        · exact .inl ⟨x, .inl h, e⟩
        · exact .inr (.inl h)
        · exact .inl ⟨x, .inr h, e⟩
        · exact .inr (.inr (.inr h))
      · rintro (⟨x, h | h, e⟩ | h | ⟨h, _⟩ | h)
        · exact .inr (.inl (.inl ⟨x, h, e⟩))
        · exact .inr (.inr (.inl ⟨x, h, e⟩))
        · exact .inr (.inl (.inr h))
        · exact .inl h
        · exact .inr (.inr (.inr h))
    | true =>
      have hmo : q ∈ meets ((⟨a, n, v⟩ : Rt) :: (l.list ++ r.list)) → q = (a, n) ∨ q ∈ meets (l.list ++ r.list) := by
        cases hk : l.list ++ r.list with
        | nil => intro h; cases h
        | cons y z =>
          intro h
          simp only [meets, List.mem_cons] at h
          rcases h with h | h
          · refine .inl (h.trans ?_)
            have hy : y ∈ l.list ++ r.list := by rw [hk]; exact List.mem_cons_self ..
            have hm := hself.mem y (by simp only [T.list, if_true, List.cons_append, List.nil_append]; exact List.mem_cons_of_mem _ hy)
            have := sz_pos y.n
            exact meet_over ((w2.cvr hm.2.1).2 ⟨hm.1, hm.2.2.1, by omega⟩)
          · exact .inr h
      have hmo' : q ∈ meets (l.list ++ r.list) → q ∈ meets ((⟨a, n, v⟩ : Rt) :: (l.list ++ r.list)) := by
        cases hk : l.list ++ r.list with
        | nil => intro h; cases h
        | cons y z => intro h; exact List.mem_cons_of_mem _ h
      simp only [T.pfx, T.list, if_true, List.cons_append, List.nil_append, List.mem_cons, List.mem_append, il, ir]
      constructor
      · rintro (h | (⟨x, h, e⟩ | h) | (⟨x, h, e⟩ | h))
        · exact .inl ⟨⟨a, n, v⟩, .inl rfl, h⟩
        · exact .inl ⟨x, .inr (.inl h), e⟩
        · exact .inr (hmo' (hmk.2 (.inl h)))
        · exact .inl ⟨x, .inr (.inr h), e⟩
        · exact .inr (hmo' (hmk.2 (.inr (.inr h))))
      · rintro (⟨x, h | h | h, e⟩ | h)
        · subst h; exact .inl e
        · exact .inr (.inl (.inl ⟨x, h, e⟩))
        · exact .inr (.inr (.inl ⟨x, h, e⟩))
        · rcases hmo h with h | h
          · exact .inl h
          · rcases hmk.1 h with h | ⟨h, _⟩ | h
            · exact .inr (.inl (.inr h))
            · exact .inl h
            · exact .inr (.inr (.inr h))

/-- A trie has at least as many nodes as routes, and fewer than twice as many. -/
theorem size_law : ∀ {t : T} {k lo : Nat}, t.Wf k lo → t.list.length ≤ t.count ∧ (t ≠ .nil → t.count + 1 ≤ 2 * t.list.length)
  | .nil, _, _, _ => ⟨Nat.le_refl _, fun h => absurd rfl h⟩
  | .node a n v h l r, k, lo, ⟨w1, w2, w3, w4, w5, w6, w7⟩ => by
    have il := size_law w5
    have ir := size_law w6
    have el : l = .nil → l.count = 0 := fun e => by subst e; rfl
    have er : r = .nil → r.count = 0 := fun e => by subst e; rfl
    have cl : l.count ≤ 2 * l.list.length := by
      by_cases e : l = .nil
      · rw [el e]; omega
      · have := il.2 e; omega
    have cr : r.count ≤ 2 * r.list.length := by
      by_cases e : r = .nil
      · rw [er e]; omega
      · have := ir.2 e; omega
    cases h with
    | true => simp [T.list, T.count]; omega
    | false =>
      obtain ⟨h1, h2⟩ : l ≠ .nil ∧ r ≠ .nil := by simpa using w7
      have := il.2 h1; have := ir.2 h2
      simp [T.list, T.count]; omega

end Go.Proofs.Ytklkldnpgecajaa
