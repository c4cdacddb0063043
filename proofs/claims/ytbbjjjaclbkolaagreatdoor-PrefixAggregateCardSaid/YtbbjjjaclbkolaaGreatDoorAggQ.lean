/- Both ways to the least list of prefixes. No program in sight. -/
import Derived.Test.YtbbjjjaclbkolaaGreatDoorAggP
namespace Go.Proofs.YtbbjjjaclbkolaaGreatDoor
def cvp (p q : Pf) : Bool := cvr p.1 p.2 q.1 q.2
theorem cvp_iff {p q : Pf} (hp : OkP p) (hq : OkP q) : cvp p q = true ↔ Hit p q.1 ∧ p.2 ≤ q.2 := cvr_iff hp hq
theorem cvp_in {p q : Pf} (hp : OkP p) (hq : OkP q) (h : cvp p q = true) : p.1 ≤ q.1 ∧ q.1 + siz q.2 ≤ p.1 + siz p.2 := cvr_in hp hq h
def InL (l : List Pf) (x : Nat) : Prop := ∃ p ∈ l, Hit p x
theorem InL.perm {l m : List Pf} (h : l.Perm m) (x : Nat) : InL l x ↔ InL m x := ⟨fun ⟨p, hp, hh⟩ => ⟨p, h.mem_iff.1 hp, hh⟩, fun ⟨p, hp, hh⟩ => ⟨p, h.mem_iff.2 hp, hh⟩⟩
def AllOk (l : List Pf) : Prop := ∀ p ∈ l, OkP p
-- the reference
def anyC (l : List Pf) (p : Pf) : Bool := l.any fun q => cvp q p
def allC (l : List Pf) (p : Pf) : List Pf := l.filter fun q => cvp p q
theorem allC_ok {l : List Pf} {p : Pf} (h : AllOk l) : AllOk (allC l p) := fun q hq => h q (List.mem_filter.1 hq).1
theorem allC_len (l : List Pf) (p : Pf) : (allC l p).length ≤ l.length := List.length_filter_le ..
open Classical in
noncomputable def fulB (S : Nat → Prop) (d a : Nat) : Bool := decide (Full S d a)
open Classical in
theorem fulB_t {S : Nat → Prop} {d a : Nat} : fulB S d a = true ↔ Full S d a := decide_eq_true_iff
open Classical in
theorem fulB_f {S : Nat → Prop} {d a : Nat} : fulB S d a = false ↔ ¬ Full S d a := decide_eq_false_iff_not
section
variable {l : List Pf} {d a : Nat} {n : Int}
theorem agg_full (hl : AllOk l) (hd : d ≤ 32) (hn : n = 32 - (d : Int)) (hp : OkP (a, n)) (h : anyC l (a, n) = true) : Full (InL l) d a := by
  obtain ⟨q, hq, hc⟩ := List.any_eq_true.1 h
  have h1 := cvp_in (hl q hq) hp hc
  have h2 : siz n = 2 ^ d := siz_of hd hn
  intro x h3 h4
  exact ⟨q, hq, by unfold Hit; simp only at h1; omega⟩
theorem agg_mid (hl : AllOk l) (hd : d ≤ 32) (hn : n = 32 - (d : Int)) (hp : OkP (a, n)) (h : anyC l (a, n) = false) (x : Nat) (h1 : a ≤ x) (h2 : x < a + 2 ^ d) : InL l x ↔ InL (allC l (a, n)) x := by
  have h3 : siz n = 2 ^ d := siz_of hd hn
  constructor
  · rintro ⟨q, hq, hh⟩
    rcases meet hp (hl q hq) (x := x) ⟨h1, by simp only; omega⟩ hh with hc | hc
    · exact ⟨q, List.mem_filter.2 ⟨hq, hc⟩, hh⟩
    · have : anyC l (a, n) = true := List.any_eq_true.2 ⟨q, hq, hc⟩
      rw [h] at this; cases this
  · rintro ⟨q, hq, hh⟩
    exact ⟨q, (List.mem_filter.1 hq).1, hh⟩
theorem canL_none {S : Nat → Prop} : ∀ (d a : Nat), (∀ x, a ≤ x → x < a + 2 ^ d → ¬ S x) → canL S d a = [] ∧ ¬ Full S d a := by
  intro d
  induction d with
  | zero =>
    intro a h
    have hf : ¬ Full S 0 a := fun f => h a (Nat.le_refl _) (by simp) (f a (Nat.le_refl _) (by simp))
    exact ⟨canL_zero hf, hf⟩
  | succ d ih =>
    intro a h
    have e := two_halves d
    have i1 := ih a fun x h1 h2 => h x h1 (by omega)
    have i2 := ih (a + 2 ^ d) fun x h1 h2 => h x (by omega) (by omega)
    have hf : ¬ Full S (d + 1) a := fun f => i1.2 f.lo
    exact ⟨by rw [canL_succ hf, i1.1, i2.1]; rfl, hf⟩
theorem agg_none (hl : AllOk l) (hd : d ≤ 32) (hn : n = 32 - (d : Int)) (hp : OkP (a, n)) (h : anyC l (a, n) = false) (h0 : allC l (a, n) = []) : canL (InL l) d a = [] ∧ fulB (InL l) d a = false := by
  have := canL_none (S := InL l) d a fun x h1 h2 hx => by
    obtain ⟨q, hq, _⟩ := (agg_mid hl hd hn hp h x h1 h2).1 hx
    rw [h0] at hq; cases hq
  exact ⟨this.1, fulB_f.2 this.2⟩
theorem agg_pos (hl : AllOk l) (hp : OkP (a, n)) (h : anyC l (a, n) = false) (h0 : allC l (a, n) ≠ []) : n < 32 := by
  refine Int.lt_of_not_ge fun hge => ?_
  obtain ⟨q, m, e⟩ := List.exists_cons_of_ne_nil h0
  obtain ⟨hq, hc⟩ := List.mem_filter.1 (show q ∈ allC l (a, n) from e ▸ List.mem_cons_self ..)
  have h1 := (cvp_iff hp (hl q hq)).1 hc
  have h2 := (hl q hq).hi
  have h3 := hp.hi
  have h4 := hp.lo
  simp only at h1 h3 h4
  have e1 : n = q.2 := by omega
  have e2 : siz n = 1 := by unfold siz; rw [show 32 - n.toNat = 0 by omega]
  have h5 := h1.1
  unfold Hit at h5
  simp only at h5
  have e3 : q = (a, n) := Prod.ext (by simp only; omega) e1.symm
  have : anyC l (a, n) = true := List.any_eq_true.2 ⟨q, hq, by rw [e3, cvp_iff hp hp]; exact ⟨hit_self _, Int.le_refl _⟩⟩
  rw [h] at this; cases this
theorem half_ok (hp : OkP (a, n)) (h : n < 32) (hn : n = 32 - ((d + 1 : Nat) : Int)) : OkP (a, n + 1) ∧ OkP (a + 2 ^ d, n + 1) ∧ n + 1 = 32 - (d : Int) ∧ d ≤ 32 := by
  have h1 := hp.lo
  have h2 := hp.al
  have h3 := hp.1.lt
  simp only at h1 h2 h3
  have hd : d + 1 ≤ 32 := by omega
  have e1 : siz n = 2 ^ (d + 1) := siz_of hd hn
  have e2 : siz (n + 1) = 2 ^ d := siz_of (by omega) (by omega)
  have a1 : a % siz (n + 1) = 0 := siz_mod (by omega) h2
  have a2 : (a + 2 ^ d) % siz (n + 1) = 0 := by rw [e2] at a1 ⊢; rw [Nat.add_mod_right]; exact a1
  have a3 : a + 2 ^ (d + 1) ≤ 2 ^ 32 := by
    rw [e1] at h2
    exact step_mul h2 (Nat.mod_eq_zero_of_dvd (Nat.pow_dvd_pow 2 hd)) h3
  have e3 := two_halves d
  have e4 : 0 < 2 ^ d := Nat.two_pow_pos d
  have e5 : (2 : Nat) ^ 32 = 4294967296 := rfl
  refine ⟨⟨hp.1, vld_iff.2 ⟨by simp only; omega, by simp only; omega, a1⟩⟩, ⟨?_, vld_iff.2 ⟨by simp only; omega, by simp only; omega, a2⟩⟩, by omega, by omega⟩
  show a + 2 ^ d < 4294967296
  omega
theorem half_or (hp : OkP (a, n)) (h : n < 32) (hn : n = 32 - ((d + 1 : Nat) : Int)) : a ||| 2 ^ (31 - n.toNat) = a + 2 ^ d := by
  have h1 := hp.lo
  have h2 := hp.al
  simp only at h1 h2
  have e1 : siz n = 2 ^ (d + 1) := siz_of (by omega) hn
  rw [e1] at h2
  obtain ⟨k, rfl⟩ := Nat.dvd_of_mod_eq_zero h2
  rw [show 31 - n.toNat = d by omega, ← Nat.two_pow_add_eq_or_of_lt (i := d + 1) (Nat.pow_lt_pow_right (by decide) (Nat.lt_succ_self d)) k]
theorem fulB_congr {S T : Nat → Prop} (h : Full S d a ↔ Full T d a) : fulB S d a = fulB T d a := by
  rw [Bool.eq_iff_iff, fulB_t, fulB_t]; exact h
theorem agg_lo (hl : AllOk l) (hd : d + 1 ≤ 32) (hn : n = 32 - ((d + 1 : Nat) : Int)) (hp : OkP (a, n)) (h : anyC l (a, n) = false) : canL (InL (allC l (a, n))) d a = canL (InL l) d a ∧ fulB (InL (allC l (a, n))) d a = fulB (InL l) d a := by
  have e := two_halves d
  have := canL_congr (S := InL (allC l (a, n))) (T := InL l) d a fun x h1 h2 => (agg_mid hl hd hn hp h x h1 (by omega)).symm
  exact ⟨this.1, fulB_congr this.2⟩
theorem agg_hi (hl : AllOk l) (hd : d + 1 ≤ 32) (hn : n = 32 - ((d + 1 : Nat) : Int)) (hp : OkP (a, n)) (h : anyC l (a, n) = false) : canL (InL (allC l (a, n))) d (a + 2 ^ d) = canL (InL l) d (a + 2 ^ d) ∧ fulB (InL (allC l (a, n))) d (a + 2 ^ d) = fulB (InL l) d (a + 2 ^ d) := by
  have e := two_halves d
  have := canL_congr (S := InL (allC l (a, n))) (T := InL l) d (a + 2 ^ d) fun x h1 h2 => (agg_mid hl hd hn hp h x (by omega) (by omega)).symm
  exact ⟨this.1, fulB_congr this.2⟩
theorem agg_both {S : Nat → Prop} (h1 : fulB S d a = true) (h2 : fulB S d (a + 2 ^ d) = true) (hn : n = 32 - ((d + 1 : Nat) : Int)) : canL S (d + 1) a = [(a, n)] ∧ fulB S (d + 1) a = true := by
  have h := (fulB_t.1 h1).join (fulB_t.1 h2)
  exact ⟨by rw [canL_full h, hn], fulB_t.2 h⟩
theorem agg_cat {S : Nat → Prop} (h : fulB S d a = false ∨ fulB S d (a + 2 ^ d) = false) : canL S d a ++ canL S d (a + 2 ^ d) = canL S (d + 1) a ∧ fulB S (d + 1) a = false := by
  have hf : ¬ Full S (d + 1) a := fun f => by
    rcases h with h | h
    · exact fulB_f.1 h f.lo
    · exact fulB_f.1 h f.hi
  exact ⟨(canL_succ hf).symm, fulB_f.2 hf⟩
end
-- the program
def parP (p : Pf) : Pf := (base (p.2.toNat - 1) p.1, p.2 - 1)
instance (p q : Pf) : Decidable (Sib p q) := by unfold Sib; exact inferInstance
def mrg : List Pf → List Pf
  | p :: q :: r => if Sib q p then mrg (parP p :: r) else p :: q :: r
  | l => l
termination_by l => l.length
def mergeS (l : List Pf) : List Pf := (mrg l.reverse).reverse
theorem mergeS_short {l : List Pf} (h : l.length < 2) : mergeS l = l := by
  match l, h with
  | [], _ => simp [mergeS, mrg]
  | [p], _ => simp [mergeS, mrg]
theorem mergeS_hit {l : List Pf} {p q : Pf} (h : Sib q p) : mergeS (l ++ [q, p]) = mergeS (l ++ [parP p]) := by
  unfold mergeS
  rw [List.reverse_append, List.reverse_append, show [q, p].reverse ++ l.reverse = p :: q :: l.reverse from rfl, mrg, if_pos h]; rfl
theorem mergeS_no {l : List Pf} {p q : Pf} (h : ¬ Sib q p) : mergeS (l ++ [q, p]) = l ++ [q, p] := by
  unfold mergeS
  rw [List.reverse_append, show [q, p].reverse ++ l.reverse = p :: q :: l.reverse from rfl, mrg, if_neg h]; simp
theorem par_sib {p q : Pf} (hp : OkP p) (hq : OkP q) (h : Sib q p) : OkP (parP p) ∧ (parP p).1 = q.1 ∧ siz (parP p).2 = siz q.2 + siz p.2 ∧ p.1 = q.1 + siz q.2 := by
  obtain ⟨h1, h2, h3, h4⟩ := h
  have h5 := hp.hi
  have h6 := siz_half h2 hq.hi
  have h7 := siz_pos q.2
  have e : base (p.2.toNat - 1) p.1 = q.1 := by
    have e1 : 2 ^ (32 - (p.2.toNat - 1)) = siz (q.2 - 1) := by unfold siz; congr 1; omega
    exact (base_iff (by rw [e1]; exact h4)).2 ⟨by omega, by rw [e1]; omega⟩
  refine ⟨⟨?_, ?_⟩, e, ?_, h3⟩
  · show W32 (base _ _); rw [e]; exact hq.1
  · refine vld_iff.2 ⟨?_, ?_, ?_⟩
    · show 0 ≤ p.2 - 1; omega
    · show p.2 - 1 ≤ 32; omega
    · show base _ _ % siz (p.2 - 1) = 0
      rw [e, ← h1]; exact h4
  · show siz (p.2 - 1) = _
    rw [← h1, h6]; omega
theorem pair_last {z : List Pf} {p : Pf} : (z ++ [p]).Pairwise (fun p q => p.1 + siz p.2 ≤ q.1) ↔ z.Pairwise (fun p q => p.1 + siz p.2 ≤ q.1) ∧ ∀ q ∈ z, q.1 + siz q.2 ≤ p.1 := by
  rw [List.pairwise_append]
  simp
theorem merge_ok : ∀ (k : Nat) (z : List Pf) (p : Pf), z.length = k → OkP p → Norm z → (∀ q ∈ z, q.1 + siz q.2 ≤ p.1) →
    Norm (mergeS (z ++ [p])) ∧ (∀ x, InL (mergeS (z ++ [p])) x ↔ InL (z ++ [p]) x) ∧ ∃ y t, mergeS (z ++ [p]) = y ++ [t] ∧ t.1 ≤ p.1 ∧ p.1 + siz p.2 ≤ t.1 + siz t.2 ∧ t.2 ≤ p.2 := by
  intro k
  induction k with
  | zero =>
    intro z p hz hp hN hd
    obtain rfl := List.eq_nil_of_length_eq_zero hz
    rw [mergeS_short (by simp)]
    refine ⟨⟨fun q hq => by simp at hq; subst hq; exact hp, by simp, fun q hq r hr => ?_⟩, fun x => Iff.rfl, [], p, rfl, Nat.le_refl _, Nat.le_refl _, Int.le_refl _⟩
    simp at hq hr
    rw [hq, hr]
    rintro ⟨_, _, h3, _⟩
    have := siz_pos p.2
    omega
  | succ k ih =>
    intro z p hz hp hN hd
    obtain ⟨y, q, rfl⟩ : ∃ y q, z = y ++ [q] := ⟨z.dropLast, z.getLast (by intro e; rw [e] at hz; simp at hz), (List.dropLast_concat_getLast _).symm⟩
    have hq : OkP q := hN.ok q (by simp)
    have hy := pair_last.1 hN.dis
    have hNy : Norm y := hN.sub (List.sublist_append_left ..)
    have hle := hd q (by simp)
    rw [List.append_assoc, show [q] ++ [p] = [q, p] from rfl]
    by_cases hs : Sib q p
    · obtain ⟨h1, h2, h3, h4⟩ := par_sib hp hq hs
      rw [mergeS_hit hs]
      obtain ⟨i1, i2, w, t, e, t1, t2, t3⟩ := ih y (parP p) (by simpa using hz) h1 hNy (fun r hr => by rw [h2]; exact hy.2 r hr)
      refine ⟨i1, fun x => ?_, w, t, e, by omega, by omega, ?_⟩
      · rw [i2 x]
        constructor
        · rintro ⟨r, hr, hh⟩
          rcases List.mem_append.1 hr with hr | hr
          · exact ⟨r, by simp [hr], hh⟩
          · simp at hr
            subst hr
            unfold Hit at hh
            by_cases hx : x < p.1
            · exact ⟨q, by simp, by unfold Hit; omega⟩
            · exact ⟨p, by simp, by unfold Hit; omega⟩
        · rintro ⟨r, hr, hh⟩
          rcases List.mem_append.1 hr with hr | hr
          · exact ⟨r, by simp [hr], hh⟩
          · refine ⟨parP p, by simp, ?_⟩
            simp at hr
            unfold Hit at hh ⊢
            rcases hr with rfl | rfl
            · omega
            · omega
      · have : (parP p).2 = p.2 - 1 := rfl
        omega
    · rw [mergeS_no hs]
      have hdis : (y ++ [q, p]).Pairwise (fun p q => p.1 + siz p.2 ≤ q.1) := by
        rw [show y ++ [q, p] = (y ++ [q]) ++ [p] by simp]
        exact pair_last.2 ⟨hN.dis, hd⟩
      have hok : ∀ r ∈ y ++ [q, p], OkP r := fun r hr => by
        simp at hr
        rcases hr with hr | rfl | rfl
        · exact hNy.ok r hr
        · exact hq
        · exact hp
      refine ⟨⟨hok, hdis, fun r hr s hs2 hsib => ?_⟩, fun x => Iff.rfl, y ++ [q], p, by simp, Nat.le_refl _, Nat.le_refl _, Int.le_refl _⟩
      have hr' : r ∈ y ++ [q] ∨ r = p := by simp at hr ⊢; rcases hr with h | h | h <;> simp [h]
      have hs' : s ∈ y ++ [q] ∨ s = p := by simp at hs2 ⊢; rcases hs2 with h | h | h <;> simp [h]
      have hr0 := siz_pos r.2
      have hs0 := siz_pos s.2
      obtain ⟨b1, b2, b3, b4⟩ := id hsib
      rcases hr' with hr' | rfl
      · rcases hs' with hs' | rfl
        · exact hN.nos r hr' s hs' hsib
        · -- r is the last
          rcases List.mem_append.1 hr' with hr2 | hr2
          · have := hy.2 r hr2
            have := siz_pos q.2
            omega
          · simp at hr2
            subst hr2
            exact hs hsib
      · rcases hs' with hs' | rfl
        · have := hd s hs'
          omega
        · omega
def stepS (st : List Pf) (p : Pf) : List Pf := if (match st.getLast? with | some t => cvp t p | none => false) then st else mergeS (st ++ [p])
def progS (l : List Pf) : List Pf := l.foldl stepS []
theorem progS_step {l : List Pf} {k : Nat} {p : Pf} (h : l[k]? = some p) : progS (l.take (k + 1)) = stepS (progS (l.take k)) p := by
  unfold progS
  rw [List.take_add_one, h, List.foldl_append]; rfl
def leP (p q : Pf) : Prop := p.1 < q.1 ∨ (p.1 = q.1 ∧ p.2 ≤ q.2)
structure Inv (st l : List Pf) : Prop where
  nrm : Norm st
  adr : ∀ x, InL st x ↔ InL l x
  top : ∀ q, l.getLast? = some q → ∃ y t, st = y ++ [t] ∧ t.1 ≤ q.1 ∧ q.1 + siz q.2 ≤ t.1 + siz t.2 ∧ t.2 ≤ q.2
theorem inv_step {st l : List Pf} {p : Pf} (h : Inv st l) (hp : OkP p) (hl : AllOk l) (hle : ∀ q ∈ l, leP q p) : Inv (stepS st p) (l ++ [p]) := by
  cases hg : l.getLast? with
  | none =>
    obtain rfl := List.getLast?_eq_none_iff.1 hg
    have hst : st = [] := by
      cases st with
      | nil => rfl
      | cons q st =>
        obtain ⟨r, hr, _⟩ := (h.adr q.1).1 ⟨q, by simp, hit_self q⟩
        cases hr
    subst hst
    have hs : stepS [] p = mergeS ([] ++ [p]) := rfl
    obtain ⟨i1, i2, y, t, e, t1, t2, t3⟩ := merge_ok 0 [] p rfl hp h.nrm (fun q hq => by cases hq)
    rw [hs]
    refine ⟨i1, i2, fun q hq => ?_⟩
    simp at hq
    subst hq
    exact ⟨y, t, e, t1, t2, t3⟩
  | some q =>
    obtain ⟨y, t, rfl, t1, t2, t3⟩ := h.top q hg
    have hq : q ∈ l := List.mem_of_getLast? hg
    have ht : OkP t := h.nrm.ok t (by simp)
    have hqp := hle q hq
    have hy := pair_last.1 h.nrm.dis
    have hs : stepS (y ++ [t]) p = if cvp t p then y ++ [t] else mergeS ((y ++ [t]) ++ [p]) := by
      unfold stepS
      rw [List.getLast?_concat]
    rw [hs]
    by_cases hc : cvp t p = true
    · rw [if_pos hc]
      have hin := cvp_in ht hp hc
      refine ⟨h.nrm, fun x => ?_, fun r hr => ?_⟩
      · rw [h.adr x]
        constructor
        · rintro ⟨r, hr, hh⟩
          exact ⟨r, by simp [hr], hh⟩
        · rintro ⟨r, hr, hh⟩
          rcases List.mem_append.1 hr with hr | hr
          · exact ⟨r, hr, hh⟩
          · simp at hr
            subst hr
            refine (h.adr x).1 ⟨t, by simp, ?_⟩
            unfold Hit at hh ⊢
            omega
      · simp at hr
        subst hr
        exact ⟨y, t, rfl, hin.1, hin.2, ((cvp_iff ht hp).1 hc).2⟩
    · rw [if_neg hc]
      have hend : t.1 + siz t.2 ≤ p.1 := by
        refine Nat.le_of_not_lt fun hlt => ?_
        have hle1 : t.1 ≤ p.1 := by rcases hqp with h | h <;> omega
        have hht : Hit t p.1 := ⟨hle1, hlt⟩
        rcases meet ht hp hht (hit_self p) with h1 | h1
        · exact hc h1
        · have h2 := cvp_in hp ht h1
          have h3 := ((cvp_iff hp ht).1 h1).2
          rcases hqp with h4 | h4
          · omega
          · exact hc ((cvp_iff ht hp).2 ⟨hht, by omega⟩)
      have hall : ∀ r ∈ y ++ [t], r.1 + siz r.2 ≤ p.1 := fun r hr => by
        rcases List.mem_append.1 hr with hr | hr
        · have := hy.2 r hr
          have := siz_pos t.2
          omega
        · simp at hr
          subst hr; exact hend
      obtain ⟨i1, i2, w, u, e, u1, u2, u3⟩ := merge_ok _ (y ++ [t]) p rfl hp h.nrm hall
      refine ⟨i1, fun x => ?_, fun r hr => ?_⟩
      · rw [i2 x]
        have ha := h.adr x
        constructor
        · rintro ⟨r, hr, hh⟩
          rcases List.mem_append.1 hr with hr | hr
          · obtain ⟨s, hs, hh⟩ := ha.1 ⟨r, hr, hh⟩
            exact ⟨s, by simp [hs], hh⟩
          · exact ⟨r, List.mem_append_right _ hr, hh⟩
        · rintro ⟨r, hr, hh⟩
          rcases List.mem_append.1 hr with hr | hr
          · obtain ⟨s, hs, hh⟩ := ha.2 ⟨r, hr, hh⟩
            exact ⟨s, List.mem_append_left _ hs, hh⟩
          · exact ⟨r, List.mem_append_right _ hr, hh⟩
      · simp at hr
        subst hr
        exact ⟨w, u, e, u1, u2, u3⟩
theorem inv_take {l : List Pf} (hl : AllOk l) (hs : l.Pairwise leP) : ∀ k, k ≤ l.length → Inv (progS (l.take k)) (l.take k) := by
  intro k
  induction k with
  | zero => exact fun _ => ⟨⟨fun p hp => (List.not_mem_nil hp).elim, List.Pairwise.nil, fun p hp => (List.not_mem_nil hp).elim⟩, fun x => Iff.rfl, fun q hq => by simp at hq⟩
  | succ k ih =>
    intro hk
    have hx : l[k]? = some l[k] := List.getElem?_eq_getElem (by omega)
    rw [progS_step hx, List.take_add_one, hx]
    refine inv_step (ih (by omega)) (hl _ (List.getElem_mem _)) (fun p hp => hl p (List.mem_of_mem_take hp)) fun q hq => ?_
    obtain ⟨i, hi, rfl⟩ := List.getElem_of_mem hq
    rw [List.length_take] at hi
    rw [List.getElem_take]
    exact List.pairwise_iff_getElem.1 hs i k (by omega) (by omega) (by omega)
theorem end_le {p : Pf} (h : OkP p) : p.1 + siz p.2 ≤ 2 ^ 32 :=
  step_mul h.al (Nat.mod_eq_zero_of_dvd (Nat.pow_dvd_pow 2 (Nat.sub_le _ _))) h.1
theorem Norm.can {st : List Pf} {S : Nat → Prop} (h : Norm st) (hS : ∀ x, S x ↔ InL st x) : st = canL S 32 0 :=
  canon 32 0 st (Nat.le_refl _) (by simp) h (fun p hp => ⟨Nat.zero_le _, by rw [Nat.zero_add]; exact end_le (h.ok p hp)⟩) fun x _ _ => hS x
noncomputable def aggS (l : List Pf) : List Pf := canL (InL l) 32 0
theorem prog_agg {l s : List Pf} (hl : AllOk l) (hp : s.Perm l) (hs : s.Pairwise leP) : progS s = aggS l ∧ Norm (aggS l) ∧ ∀ x, InL (aggS l) x ↔ InL l x := by
  have hok : AllOk s := fun p h => hl p (hp.mem_iff.1 h)
  have hi := inv_take hok hs s.length (Nat.le_refl _)
  rw [List.take_length] at hi
  have hS : ∀ x, InL l x ↔ InL (progS s) x := fun x => ((hi.adr x).trans (InL.perm hp x)).symm
  have e : progS s = aggS l := hi.nrm.can hS
  exact ⟨e, e ▸ hi.nrm, fun x => e ▸ (hS x).symm⟩
theorem Norm.apart {L : List Pf} (h : Norm L) {i k : Nat} {p q : Pf} (hp : L[i]? = some p) (hq : L[k]? = some q) (hik : i ≠ k) : cvp p q = false := by
  rw [Bool.eq_false_iff]
  intro hc
  have op := h.ok p (List.mem_of_getElem? hp)
  have oq := h.ok q (List.mem_of_getElem? hq)
  have h1 := cvp_in op oq hc
  have := siz_pos q.2
  obtain ⟨hi, rfl⟩ := List.getElem?_eq_some_iff.1 hp
  obtain ⟨hk, rfl⟩ := List.getElem?_eq_some_iff.1 hq
  rcases Nat.lt_or_gt_of_ne hik with hlt | hlt
  · have := List.pairwise_iff_getElem.1 h.dis i k hi hk hlt
    omega
  · have := List.pairwise_iff_getElem.1 h.dis k i hk hi hlt
    omega
end Go.Proofs.YtbbjjjaclbkolaaGreatDoor
