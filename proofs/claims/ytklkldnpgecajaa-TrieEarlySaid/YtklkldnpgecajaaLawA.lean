/- The trie's plain law, first part: prefixes as intervals; the trie's form; put and remove keep it, and what they do to the list of routes. No program in sight. -/
import Derived.Test.YtklkldnpgecajaaOwn
namespace Go.Proofs.Ytklkldnpgecajaa

def sz (n : Nat) : Nat := 2 ^ (32 - n)
theorem sz_pos (n : Nat) : 0 < sz n := Nat.two_pow_pos _
theorem sz_half {n : Nat} (h : n < 32) : sz n = 2 * sz (n + 1) := by
  unfold sz
  rw [show 32 - n = (32 - (n + 1)) + 1 by omega, Nat.pow_succ]; omega
theorem sz_dvd {n m : Nat} (h : n ≤ m) : sz m ∣ sz n := Nat.pow_dvd_pow 2 (by omega)
theorem sz_le {n m : Nat} (h : n ≤ m) : sz m ≤ sz n := Nat.pow_le_pow_right (by omega) (by omega)
theorem sz_succ (n : Nat) : sz (n + 1) ≤ sz n := sz_le (by omega)
theorem dvd_step {s x y : Nat} (hx : s ∣ x) (hy : s ∣ y) (h : x < y) : x + s ≤ y := by
  obtain ⟨X, rfl⟩ := hx
  obtain ⟨Y, rfl⟩ := hy
  have h1 : X < Y := Nat.lt_of_mul_lt_mul_left h
  have := Nat.mul_le_mul_left s h1
  rw [Nat.mul_succ] at this
  exact this

/-- A valid prefix. -/
structure V (a n : Nat) : Prop where
  le : n ≤ 32
  dvd : sz n ∣ a
  w32 : W32 a
theorem V.vld {a n : Nat} (h : V a n) : vld a (n : Int) = true := vld_iff.2 ⟨by omega, by have := h.le; omega, by rw [Int.toNat_natCast]; exact Nat.mod_eq_zero_of_dvd h.dvd⟩
theorem V.of {a n : Nat} (ha : W32 a) (h : Go.Proofs.Ytklkldnpgecajaa.vld a (n : Int) = true) : V a n := by
  obtain ⟨_, h1, h2⟩ := vld_iff.1 h
  rw [Int.toNat_natCast] at h2
  exact ⟨by omega, Nat.dvd_of_mod_eq_zero h2, ha⟩
theorem V.zero : V 0 0 := ⟨by omega, Nat.dvd_zero _, by unfold W32; omega⟩
theorem V.fits {a n b m : Nat} (ha : V a n) (hb : V b m) (h : n ≤ m) (h2 : b < a + sz n) : b + sz m ≤ a + sz n :=
  dvd_step hb.dvd (Nat.dvd_trans (sz_dvd h) (Nat.dvd_add ha.dvd (Nat.dvd_refl _))) h2
theorem V.before {a n b m : Nat} (ha : V a n) (hb : V b m) (h : n ≤ m) (h2 : b < a) : b + sz m ≤ a :=
  dvd_step hb.dvd (Nat.dvd_trans (sz_dvd h) ha.dvd) h2
theorem V.top {a n : Nat} (h : V a n) : a + sz n ≤ 4294967296 := by
  have := V.fits V.zero h (Nat.zero_le _) (by have := h.w32; unfold W32 at this; simpa [sz] using this)
  simpa [sz] using this
theorem V.kid0 {a n : Nat} (h : V a n) (hn : n < 32) : V a (n + 1) := ⟨hn, Nat.dvd_trans (sz_dvd (by omega)) h.dvd, h.w32⟩
theorem V.kid1 {a n : Nat} (h : V a n) (hn : n < 32) : V (a + sz (n + 1)) (n + 1) :=
  ⟨hn, Nat.dvd_add (h.kid0 hn).dvd (Nat.dvd_refl _), by have := h.top; have := sz_half hn; have := sz_pos (n + 1); unfold W32; omega⟩
theorem base_iff {a n x : Nat} (hd : sz n ∣ a) : base n x = a ↔ a ≤ x ∧ x < a + sz n := by
  have hm := Nat.mod_lt x (sz_pos n)
  unfold base
  change x - x % sz n = a ↔ _
  constructor
  · intro h
    have := Nat.mod_le x (sz n)
    omega
  · intro ⟨h1, h2⟩
    obtain ⟨k, rfl⟩ := hd
    obtain ⟨r, rfl⟩ := Nat.exists_eq_add_of_le h1
    rw [Nat.mul_add_mod, Nat.mod_eq_of_lt (by omega)]
    omega
theorem V.cts {a n : Nat} (h : V a n) (x : Nat) : cts a (n : Int) x = true ↔ a ≤ x ∧ x < a + sz n := by
  unfold Go.Proofs.Ytklkldnpgecajaa.cts
  rw [h.vld, Int.toNat_natCast, Bool.true_and, decide_eq_true_eq, base_iff h.dvd]
theorem V.cvr {a n b m : Nat} (h : V a n) (hb : V b m) : cvr a (n : Int) b (m : Int) = true ↔ n ≤ m ∧ a ≤ b ∧ b < a + sz n := by
  unfold Go.Proofs.Ytklkldnpgecajaa.cvr
  rw [hb.vld, Bool.true_and, Bool.and_eq_true, decide_eq_true_eq, h.cts]
  omega
theorem V.ncvr {a n b m : Nat} (h : V a n) (hb : V b m) : Go.Proofs.Ytklkldnpgecajaa.cvr a (n : Int) b (m : Int) = false ↔ ¬ (n ≤ m ∧ a ≤ b ∧ b < a + sz n) := by
  rw [← h.cvr hb]; simp
theorem V.bit {a n x : Nat} (h : V a n) (hn : n < 32) (h1 : a ≤ x) (h2 : x < a + sz n) : bit x n = 0 ↔ x < a + sz (n + 1) := by
  have hh := sz_half hn
  have hp := sz_pos (n + 1)
  obtain ⟨k, rfl⟩ := h.dvd
  obtain ⟨r, rfl⟩ := Nat.exists_eq_add_of_le h1
  have e : (sz n * k + r) / 2 ^ (31 - n) = 2 * k + r / sz (n + 1) := by
    rw [show 2 ^ (31 - n) = sz (n + 1) by unfold sz; rw [show 32 - (n + 1) = 31 - n by omega], hh, Nat.mul_comm 2, Nat.mul_assoc, Nat.mul_add_div hp]
  unfold Go.Proofs.Ytklkldnpgecajaa.bit
  rw [e]
  by_cases hr : r < sz (n + 1)
  · rw [Nat.div_eq_of_lt hr]; omega
  · have h3 : r / sz (n + 1) = 1 := by
      apply Nat.div_eq_of_lt_le <;> omega
    rw [h3]; omega

/-- The trie's form: the nodes lie in the block of length k from lo on; each node's kids lie in the two halves of its block; a node without a route has two kids. -/
def T.Wf : T → Nat → Nat → Prop
  | .nil, _, _ => True
  | .node a n _ h l r, k, lo => k ≤ n ∧ V a n ∧ lo ≤ a ∧ a + sz n ≤ lo + sz k ∧ l.Wf (n + 1) a ∧ r.Wf (n + 1) (a + sz (n + 1)) ∧ (h = true ∨ (l ≠ .nil ∧ r ≠ .nil))
theorem T.Wf.mono : ∀ {t : T} {k lo k' lo' : Nat}, t.Wf k lo → k' ≤ k → lo' ≤ lo → lo + sz k ≤ lo' + sz k' → t.Wf k' lo'
  | .nil, _, _, _, _, _, _, _, _ => trivial
  | .node .., _, _, _, _, ⟨h1, h2, h3, h4, h5⟩, a, b, c => ⟨by omega, h2, by omega, by omega, h5⟩
theorem T.Wf.none {t : T} {k lo : Nat} (h : t.Wf k lo) (hk : 32 < k) : t = .nil := by
  cases t with
  | nil => rfl
  | node a n v h' l r => have := h.1; have := h.2.1.le; omega
theorem T.Wf.fine : ∀ {t : T} {k lo : Nat}, t.Wf k lo → t.Fine
  | .nil, _, _, _ => trivial
  | .node .., _, _, ⟨_, h2, _, _, h5, h6, _⟩ => ⟨⟨h2.w32, h2.vld⟩, h5.fine, h6.fine⟩
/-- A node's kids lie within its block. -/
theorem kid_room0 {t : T} {a n : Nat} (h : t.Wf (n + 1) a) : t.Wf n a := h.mono (by omega) (Nat.le_refl _) (by have := sz_succ n; omega)
theorem kid_room1 {t : T} {a n : Nat} (h : t.Wf (n + 1) (a + sz (n + 1))) : t.Wf n a := by
  by_cases hn : n < 32
  · have := sz_half hn
    exact h.mono (by omega) (by omega) (by omega)
  · rw [h.none (by omega)]; trivial
theorem T.Wf.mem : ∀ {t : T} {k lo : Nat}, t.Wf k lo → ∀ x ∈ t.list, k ≤ x.n ∧ V x.a x.n ∧ lo ≤ x.a ∧ x.a + sz x.n ≤ lo + sz k
  | .nil, _, _, _, x, hx => by cases hx
  | .node a n v h l r, k, lo, ⟨h1, h2, h3, h4, h5, h6, _⟩, x, hx => by
    simp only [T.list, List.mem_append] at hx
    rcases hx with hx | hx | hx
    · cases h with
      | false => cases hx
      | true => simp at hx; subst hx; exact ⟨h1, h2, h3, h4⟩
    · have := (kid_room0 h5).mem x hx; exact ⟨by omega, this.2.1, by omega, by omega⟩
    · have := (kid_room1 h6).mem x hx; exact ⟨by omega, this.2.1, by omega, by omega⟩

def Rt.lt (x y : Rt) : Prop := x.a < y.a ∨ (x.a = y.a ∧ x.n < y.n)
theorem T.Wf.sorted : ∀ {t : T} {k lo : Nat}, t.Wf k lo → t.list.Pairwise Rt.lt
  | .nil, _, _, _ => List.Pairwise.nil
  | .node a n v h l r, k, lo, ⟨h1, h2, h3, h4, h5, h6, _⟩ => by
    have hkid : (l.list ++ r.list).Pairwise Rt.lt := by
      refine List.pairwise_append.2 ⟨h5.sorted, h6.sorted, fun x hx y hy => ?_⟩
      have a1 := h5.mem x hx
      have a2 := h6.mem y hy
      have := sz_pos x.n
      exact .inl (by omega)
    refine List.pairwise_append.2 ⟨by cases h <;> simp, hkid, fun x hx y hy => ?_⟩
    cases h with
    | false => cases hx
    | true =>
      simp at hx; subst hx
      unfold Rt.lt
      simp only
      rcases List.mem_append.1 hy with hy | hy
      · have a1 := h5.mem y hy; omega
      · have a1 := h6.mem y hy; omega

/-- x is the route of a prefix. -/
def Rt.is (x : Rt) (pa pn : Nat) : Prop := x.a = pa ∧ x.n = pn
theorem no_left {l : T} {a n pa pn : Nat} (h : l.Wf (n + 1) a) (hp : a + sz (n + 1) ≤ pa) : ∀ x ∈ l.list, ¬ x.is pa pn := fun x hx ⟨e, _⟩ => by
  have := h.mem x hx; have := sz_pos x.n; omega
theorem no_right {r : T} {a n pa pn : Nat} (h : r.Wf (n + 1) (a + sz (n + 1))) (hp : pa < a + sz (n + 1)) : ∀ x ∈ r.list, ¬ x.is pa pn := fun x hx ⟨e, _⟩ => by
  have := h.mem x hx; omega

/-- What the list of a trie is after put. -/
def PutOk (t t' : T) (ra rn : Nat) (rv : Int) : Prop := ∀ x, x ∈ t'.list ↔ x = ⟨ra, rn, rv⟩ ∨ (x ∈ t.list ∧ ¬ x.is ra rn)

theorem put_law (ra rn : Nat) (rv : Int) (hv : V ra rn) : ∀ (t : T) (k lo : Nat), t.Wf k lo → V lo k → k ≤ rn → lo ≤ ra → ra + sz rn ≤ lo + sz k → (t.put ra rn rv).Wf k lo ∧ t.put ra rn rv ≠ .nil ∧ PutOk t (t.put ra rn rv) ra rn rv
  | .nil, k, lo, _, _, hk, h1, h2 => ⟨⟨hk, hv, h1, h2, trivial, trivial, .inl rfl⟩, (fun h => by cases h), fun x => by simp [T.put, T.list]⟩
  | .node a n v h l r, k, lo, hw, hlo, hk, h1, h2 => by
    have hw0 := hw
    obtain ⟨w1, w2, w3, w4, w5, w6, w7⟩ := hw
    unfold T.put
    by_cases hs : a = ra ∧ n = rn
    · rw [if_pos hs]
      obtain ⟨rfl, rfl⟩ := hs
      refine ⟨⟨w1, w2, w3, w4, w5, w6, .inl rfl⟩, (fun h => by cases h), fun x => ?_⟩
      simp only [T.list, if_true, List.mem_append, List.mem_cons, List.not_mem_nil, or_false]
      have n0 : ∀ x ∈ l.list, ¬ x.is a n := fun x hx ⟨_, e⟩ => by have := w5.mem x hx; omega
      have n1 : ∀ x ∈ r.list, ¬ x.is a n := fun x hx ⟨_, e⟩ => by have := w6.mem x hx; omega
      have n2 : ∀ x, x ∈ (if h = true then [(⟨a, n, v⟩ : Rt)] else []) → x.is a n := fun x hx => by
        cases h with
        | false => cases hx
        | true => simp at hx; subst hx; exact ⟨rfl, rfl⟩
      constructor
      · rintro (h | h | h)
        · exact .inl h
        · exact .inr ⟨.inr (.inl h), n0 x h⟩
        · exact .inr ⟨.inr (.inr h), n1 x h⟩
      · rintro (h | ⟨h | h | h, hn⟩)
        · exact .inl h
        · exact absurd (n2 x h) hn
        · exact .inr (.inl h)
        · exact .inr (.inr h)
    · rw [if_neg hs]
      by_cases hc : cvr a n ra rn = true
      · rw [if_pos hc]
        have hlt := (cvr_lt hc hs).1
        obtain ⟨c1, c2, c3⟩ := (w2.cvr hv).1 hc
        have hn : n < 32 := by have := hv.le; omega
        have hh := sz_half hn
        have b := w2.bit hn c2 c3
        have hfit := w2.fits hv c1 c3
        by_cases hb : bit ra n = 0
        · rw [if_pos hb]
          have hx := b.1 hb
          obtain ⟨i1, i2, i3⟩ := put_law ra rn rv hv l (n + 1) a w5 (w2.kid0 hn) (by omega) c2 ((w2.kid0 hn).fits hv (by omega) hx)
          refine ⟨⟨w1, w2, w3, w4, i1, w6, w7.imp id fun ⟨_, q⟩ => ⟨i2, q⟩⟩, (fun h => by cases h), fun x => ?_⟩
          have nr := no_right (pn := rn) w6 hx x
          have no : ∀ x, x ∈ (if h = true then [(⟨a, n, v⟩ : Rt)] else []) → ¬ x.is ra rn := fun x hx ⟨e1, e2⟩ => by
            cases h with
            | false => cases hx
            | true => simp at hx; subst hx; exact hs ⟨e1, e2⟩
          have no := no x
          simp only [T.list, List.mem_append, i3 x]
          constructor
          · rintro (h | (h | ⟨h, hn⟩) | h)
            · exact .inr ⟨.inl h, no h⟩
            · exact .inl h
            · exact .inr ⟨.inr (.inl h), hn⟩
            · exact .inr ⟨.inr (.inr h), nr h⟩
          · rintro (h | ⟨h | h | h, hn⟩)
            · exact .inr (.inl (.inl h))
            · exact .inl h
            · exact .inr (.inl (.inr ⟨h, hn⟩))
            · exact .inr (.inr h)
        · rw [if_neg hb]
          have hx : a + sz (n + 1) ≤ ra := by have := mt b.2 hb; omega
          obtain ⟨i1, i2, i3⟩ := put_law ra rn rv hv r (n + 1) (a + sz (n + 1)) w6 (w2.kid1 hn) (by omega) hx (by omega)
          refine ⟨⟨w1, w2, w3, w4, w5, i1, w7.imp id fun ⟨q, _⟩ => ⟨q, i2⟩⟩, (fun h => by cases h), fun x => ?_⟩
          have nl := no_left (pn := rn) w5 hx x
          have no : ∀ x, x ∈ (if h = true then [(⟨a, n, v⟩ : Rt)] else []) → ¬ x.is ra rn := fun x hx ⟨e1, e2⟩ => by
            cases h with
            | false => cases hx
            | true => simp at hx; subst hx; exact hs ⟨e1, e2⟩
          have no := no x
          simp only [T.list, List.mem_append, i3 x]
          constructor
          · rintro (h | h | (h | ⟨h, hn⟩))
            · exact .inr ⟨.inl h, no h⟩
            · exact .inr ⟨.inr (.inl h), nl h⟩
            · exact .inl h
            · exact .inr ⟨.inr (.inr h), hn⟩
          · rintro (h | ⟨h | h | h, hn⟩)
            · exact .inr (.inr (.inl h))
            · exact .inl h
            · exact .inr (.inl h)
            · exact .inr (.inr (.inr ⟨h, hn⟩))
      · rw [if_neg hc]
        have hc' : ¬ (n ≤ rn ∧ a ≤ ra ∧ ra < a + sz n) := fun h => hc ((w2.cvr hv).2 h)
        -- no route of the tree is the new one's
        have hno : ∀ x ∈ (T.node a n v h l r).list, ¬ x.is ra rn := fun x hx ⟨e1, e2⟩ => by
          have := (show T.Wf (.node a n v h l r) n a from ⟨Nat.le_refl _, w2, Nat.le_refl _, Nat.le_refl _, w5, w6, w7⟩).mem x hx
          have := sz_pos x.n
          exact hc' ⟨by omega, by omega, by omega⟩
        have wself : T.Wf (.node a n v h l r) n a := ⟨Nat.le_refl _, w2, Nat.le_refl _, Nat.le_refl _, w5, w6, w7⟩
        by_cases hd : cvr ra rn a n = true
        · rw [if_pos hd]
          have hlt := (cvr_lt hd (fun h => hs ⟨h.1.symm, h.2.symm⟩)).1
          obtain ⟨c1, c2, c3⟩ := (hv.cvr w2).1 hd
          have hn : rn < 32 := by have := w2.le; omega
          have hh := sz_half hn
          have b := hv.bit hn c2 c3
          have hfit := hv.fits w2 c1 c3
          by_cases hb : bit a rn = 0
          · rw [if_pos hb]
            have hx := b.1 hb
            have hf0 := (hv.kid0 hn).fits w2 (by omega) hx
            refine ⟨⟨hk, hv, h1, h2, wself.mono (by omega) c2 hf0, trivial, .inl rfl⟩, (fun h => by cases h), fun x => ?_⟩
            have := hno x
            simp only [T.list, if_true, List.mem_append, List.mem_cons, List.not_mem_nil, or_false] at this ⊢
            constructor
            · rintro (h | h)
              · exact .inl h
              · exact .inr ⟨h, this h⟩
            · rintro (h | ⟨h, _⟩)
              · exact .inl h
              · exact .inr h
          · rw [if_neg hb]
            have hx : ra + sz (rn + 1) ≤ a := by have := mt b.2 hb; omega
            refine ⟨⟨hk, hv, h1, h2, trivial, wself.mono (by omega) hx (by omega), .inl rfl⟩, (fun h => by cases h), fun x => ?_⟩
            have := hno x
            simp only [T.list, if_true, List.mem_append, List.mem_cons, List.not_mem_nil, or_false, false_or] at this ⊢
            constructor
            · rintro (h | h)
              · exact .inl h
              · exact .inr ⟨h, this h⟩
            · rintro (h | ⟨h, _⟩)
              · exact .inl h
              · exact .inr h
        · rw [if_neg hd]
          have hd' : ¬ (rn ≤ n ∧ ra ≤ a ∧ a < ra + sz rn) := fun h => hd ((hv.cvr w2).2 h)
          obtain ⟨c, hc0⟩ : ∃ c, com ra a = c := ⟨_, rfl⟩
          have hne : ra ≠ a := by
            rintro rfl
            have := sz_pos n; have := sz_pos rn
            omega
          have k1 := com_lt hne
          have k2 := com_base hv.w32 w2.w32
          have k3 := com_bit hv.w32 w2.w32 hne
          rw [hc0] at k1 k2 k3 ⊢
          -- the common block
          have hp : V (base c ra) c := ⟨by omega, Nat.dvd_of_mod_eq_zero (base_mod c ra), base_w32 hv.w32⟩
          have p1 := (base_iff (x := ra) hp.dvd).1 rfl
          have p2 := (base_iff (x := a) hp.dvd).1 (by rw [base_mul c a, base_mul c ra, k2])
          generalize base c ra = p at hp p1 p2
          have hcn : c < n := by
            refine Nat.lt_of_not_le fun hle => ?_
            -- both lie in one block of length n
            have e1 := (hp.fits hv)
            have q1 : ra < a + sz n ∧ a ≤ ra ∨ ra < a := by
              rcases Nat.lt_or_ge ra a with h | h
              · exact .inr h
              · refine .inl ⟨?_, h⟩
                have : p < a + sz n := by have := sz_pos n; omega
                have := w2.fits hp hle this
                omega
            have q2 : ¬ ra < a := fun h => by
              have : p < a := by omega
              have := w2.before hp hle this
              omega
            rcases q1 with ⟨q, q'⟩ | q
            · by_cases hnr : n ≤ rn
              · exact hc' ⟨hnr, q', q⟩
              · have : a < ra + sz rn := by
                  refine Nat.lt_of_not_le fun hle2 => ?_
                  have := sz_pos rn; omega
                by_cases hra : ra ≤ a
                · exact hd' ⟨by omega, hra, this⟩
                · have := hv.before w2 (by omega) (by omega : a < ra)
                  omega
            · exact q2 q
          have hcr : c < rn := by
            refine Nat.lt_of_not_le fun hle => ?_
            have q2 : ¬ a < ra := fun h => by
              have : p < ra := by omega
              have := hv.before hp hle this
              omega
            have q3 : a < ra + sz rn := by
              have : p < ra + sz rn := by have := sz_pos rn; omega
              have := hv.fits hp hle this
              omega
            by_cases hnr : rn ≤ n
            · exact hd' ⟨hnr, by omega, q3⟩
            · have : ra < a + sz n := by
                refine Nat.lt_of_not_le fun hle2 => ?_
                have := sz_pos n; omega
              by_cases hra : a ≤ ra
              · exact hc' ⟨by omega, hra, this⟩
              · have := w2.before hv (by omega) (by omega : ra < a)
                omega
          have hh := sz_half k1
          have b0 := hp.bit k1 p1.1 p1.2
          have b1 := hp.bit k1 p2.1 p2.2
          have f0 := hp.fits hv (by omega) p1.2
          have f1 := hp.fits w2 (by omega) p2.2
          have hkc : k ≤ c := by
            refine Nat.le_of_not_lt fun hck => ?_
            -- the block of length k would lie in one half
            have hk32 := hlo.le
            have r1 : lo < p + sz c := by omega
            have g0 : p ≤ lo := by
              refine Nat.le_of_not_lt fun h => ?_
              have := hp.before hlo (by omega) h
              have := sz_pos rn
              omega
            have g1 := hp.fits hlo (by omega) r1
            by_cases hm : lo < p + sz (c + 1)
            · have := (hp.kid0 k1).fits hlo (by omega) hm
              have := sz_pos n; have := sz_pos rn
              have e0 := b0.2 (by omega)
              have e1 := b1.2 (by omega)
              omega
            · have e0 : ¬ bit ra c = 0 := fun h => by have := b0.1 h; omega
              have e1 : ¬ bit a c = 0 := fun h => by have := b1.1 h; omega
              have := bit01 ra c; have := bit01 a c
              omega
          have hin : lo ≤ p ∧ p + sz c ≤ lo + sz k := by
            have g0 : lo ≤ p := by
              refine Nat.le_of_not_lt fun h => ?_
              have := hlo.before hp hkc h
              omega
            refine ⟨g0, hlo.fits hp hkc ?_⟩
            have := sz_pos rn
            omega
          by_cases hb : bit ra c = 0
          · rw [if_pos hb]
            have hx := b0.1 hb
            have hy : p + sz (c + 1) ≤ a := by
              have := mt b1.2 (fun h => k3 (hb.trans h.symm)); omega
            have hf0 := (hp.kid0 k1).fits hv (by omega) hx
            refine ⟨⟨hkc, hp, hin.1, hin.2, ⟨by omega, hv, p1.1, hf0, trivial, trivial, .inl rfl⟩, wself.mono (by omega) hy (by omega), .inr ⟨(fun h => by cases h), (fun h => by cases h)⟩⟩, (fun h => by cases h), fun x => ?_⟩
            have := hno x
            simp only [T.list, if_true, List.mem_append, List.mem_cons, List.not_mem_nil, or_false, false_or, Bool.false_eq_true, if_false] at this ⊢
            constructor
            · rintro (h | h)
              · exact .inl h
              · exact .inr ⟨h, this h⟩
            · rintro (h | ⟨h, _⟩)
              · exact .inl h
              · exact .inr h
          · rw [if_neg hb]
            have hx : p + sz (c + 1) ≤ ra := by have := mt b0.2 hb; omega
            have hb2 : bit a c = 0 := by have := bit01 ra c; have := bit01 a c; omega
            have hy := b1.1 hb2
            have hf1 := (hp.kid0 k1).fits w2 (by omega) hy
            refine ⟨⟨hkc, hp, hin.1, hin.2, wself.mono (by omega) p2.1 hf1, ⟨by omega, hv, hx, by omega, trivial, trivial, .inl rfl⟩, .inr ⟨(fun h => by cases h), (fun h => by cases h)⟩⟩, (fun h => by cases h), fun x => ?_⟩
            have := hno x
            simp only [T.list, if_true, List.mem_append, List.mem_cons, List.not_mem_nil, or_false, false_or, Bool.false_eq_true, if_false] at this ⊢
            constructor
            · rintro (h | h)
              · exact .inr ⟨h, this h⟩
              · exact .inl h
            · rintro (h | ⟨h, _⟩)
              · exact .inr h
              · exact .inl h

end Go.Proofs.Ytklkldnpgecajaa
