/- The least list of prefixes with given addresses. No program in sight. -/
import Derived.Test.YtbbjjjaclbkolaaGreatDoorPA
namespace Go.Proofs.YtbbjjjaclbkolaaGreatDoor
abbrev Pf := Nat × Int
def siz (n : Int) : Nat := 2 ^ (32 - n.toNat)
theorem siz_pos (n : Int) : 0 < siz n := Nat.two_pow_pos _
def OkP (p : Pf) : Prop := W32 p.1 ∧ vld p.1 p.2 = true
def Hit (p : Pf) (x : Nat) : Prop := p.1 ≤ x ∧ x < p.1 + siz p.2
theorem OkP.lo {p : Pf} (h : OkP p) : 0 ≤ p.2 := (vld_iff.1 h.2).1
theorem OkP.hi {p : Pf} (h : OkP p) : p.2 ≤ 32 := (vld_iff.1 h.2).2.1
theorem OkP.al {p : Pf} (h : OkP p) : p.1 % siz p.2 = 0 := (vld_iff.1 h.2).2.2
theorem step_mul {s u v : Nat} (hu : u % s = 0) (hv : v % s = 0) (h : u < v) : u + s ≤ v := by
  obtain ⟨k, rfl⟩ := Nat.dvd_of_mod_eq_zero hu
  obtain ⟨l, rfl⟩ := Nat.dvd_of_mod_eq_zero hv
  have h1 : k < l := Nat.lt_of_mul_lt_mul_left h
  rw [← Nat.mul_succ]
  exact Nat.mul_le_mul_left s h1
theorem siz_dvd {n m : Int} (h : n ≤ m) : siz m ∣ siz n := Nat.pow_dvd_pow 2 (by omega)
theorem siz_mod {n m : Int} (h : n ≤ m) {a : Nat} (ha : a % siz n = 0) : a % siz m = 0 :=
  Nat.mod_eq_zero_of_dvd (Nat.dvd_trans (siz_dvd h) (Nat.dvd_of_mod_eq_zero ha))
theorem siz_half {n : Int} (h : 0 < n) (h2 : n ≤ 32) : siz (n - 1) = 2 * siz n := by
  unfold siz
  rw [show 32 - (n - 1).toNat = (32 - n.toNat) + 1 by omega, Nat.pow_succ, Nat.mul_comm]
theorem base_iff {n x a : Nat} (ha : a % 2 ^ (32 - n) = 0) : base n x = a ↔ a ≤ x ∧ x < a + 2 ^ (32 - n) := by
  unfold base
  have hp : 0 < 2 ^ (32 - n) := Nat.two_pow_pos _
  generalize 2 ^ (32 - n) = s at *
  have h1 := Nat.mod_lt x hp
  have h2 := Nat.mod_le x s
  constructor
  · intro h; omega
  · intro ⟨h3, h4⟩
    have h5 : (x - x % s) % s = 0 := Nat.mod_eq_zero_of_dvd (Nat.dvd_sub_mod x)
    rcases Nat.lt_trichotomy (x - x % s) a with h | h | h
    · have := step_mul h5 ha h; omega
    · exact h
    · have := step_mul ha h5 h; omega
theorem cts_iff {p : Pf} (h : OkP p) (x : Nat) : cts p.1 p.2 x = true ↔ Hit p x := by
  unfold cts Hit siz
  rw [h.2, Bool.true_and, decide_eq_true_eq, base_iff h.al]
theorem cvr_iff {p q : Pf} (hp : OkP p) (hq : OkP q) : cvr p.1 p.2 q.1 q.2 = true ↔ Hit p q.1 ∧ p.2 ≤ q.2 := by
  unfold cvr
  rw [hq.2, Bool.true_and, Bool.and_eq_true, cts_iff hp, decide_eq_true_eq]
theorem hit_self (p : Pf) : Hit p p.1 := ⟨Nat.le_refl _, by have := siz_pos p.2; omega⟩
theorem nest {p q : Pf} (hp : OkP p) (hq : OkP q) (hn : p.2 ≤ q.2) {x : Nat} (h1 : Hit p x) (h2 : Hit q x) : p.1 ≤ q.1 ∧ q.1 + siz q.2 ≤ p.1 + siz p.2 := by
  have a1 := hq.al
  have a2 := siz_mod hn hp.al
  have a3 : (p.1 + siz p.2) % siz q.2 = 0 := by
    rw [Nat.add_mod, a2, Nat.mod_eq_zero_of_dvd (siz_dvd hn)]; simp
  unfold Hit at h1 h2
  refine ⟨Nat.le_of_not_lt fun h => ?_, ?_⟩
  · have := step_mul a1 a2 h; omega
  · exact step_mul a1 a3 (by omega)
theorem cvr_in {p q : Pf} (hp : OkP p) (hq : OkP q) (h : cvr p.1 p.2 q.1 q.2 = true) : p.1 ≤ q.1 ∧ q.1 + siz q.2 ≤ p.1 + siz p.2 := by
  obtain ⟨h1, h2⟩ := (cvr_iff hp hq).1 h
  exact nest hp hq h2 h1 (hit_self q)
theorem meet {p q : Pf} (hp : OkP p) (hq : OkP q) {x : Nat} (h1 : Hit p x) (h2 : Hit q x) : cvr p.1 p.2 q.1 q.2 = true ∨ cvr q.1 q.2 p.1 p.2 = true := by
  rcases Int.le_total p.2 q.2 with h | h
  · have := nest hp hq h h1 h2
    have := siz_pos q.2
    exact .inl ((cvr_iff hp hq).2 ⟨⟨by omega, by omega⟩, h⟩)
  · have := nest hq hp h h2 h1
    have := siz_pos p.2
    exact .inr ((cvr_iff hq hp).2 ⟨⟨by omega, by omega⟩, h⟩)
def Full (S : Nat → Prop) (d a : Nat) : Prop := ∀ x, a ≤ x → x < a + 2 ^ d → S x
open Classical in
noncomputable def canL (S : Nat → Prop) : Nat → Nat → List Pf
  | 0, a => if Full S 0 a then [(a, 32)] else []
  | d + 1, a => if Full S (d + 1) a then [(a, 31 - (d : Int))] else canL S d a ++ canL S d (a + 2 ^ d)
theorem canL_full {S : Nat → Prop} {d a : Nat} (h : Full S d a) : canL S d a = [(a, 32 - (d : Int))] := by
  cases d with
  | zero => exact if_pos h
  | succ d => rw [canL, if_pos h]; congr 2; omega
theorem canL_zero {S : Nat → Prop} {a : Nat} (h : ¬ Full S 0 a) : canL S 0 a = [] := if_neg h
theorem canL_succ {S : Nat → Prop} {d a : Nat} (h : ¬ Full S (d + 1) a) : canL S (d + 1) a = canL S d a ++ canL S d (a + 2 ^ d) := if_neg h
theorem two_halves (d : Nat) : 2 ^ (d + 1) = 2 ^ d + 2 ^ d := by rw [Nat.pow_succ]; omega
theorem Full.lo {S : Nat → Prop} {d a : Nat} (h : Full S (d + 1) a) : Full S d a := fun x h1 h2 => h x h1 (by rw [two_halves]; omega)
theorem Full.hi {S : Nat → Prop} {d a : Nat} (h : Full S (d + 1) a) : Full S d (a + 2 ^ d) := fun x h1 h2 => h x (by omega) (by rw [two_halves]; omega)
theorem Full.join {S : Nat → Prop} {d a : Nat} (h1 : Full S d a) (h2 : Full S d (a + 2 ^ d)) : Full S (d + 1) a := fun x l1 l2 => by
  rw [two_halves] at l2
  by_cases h : x < a + 2 ^ d
  · exact h1 x l1 h
  · exact h2 x (by omega) (by omega)
theorem canL_congr {S T : Nat → Prop} : ∀ (d a : Nat), (∀ x, a ≤ x → x < a + 2 ^ d → (S x ↔ T x)) → canL S d a = canL T d a ∧ (Full S d a ↔ Full T d a) := by
  intro d
  induction d with
  | zero =>
    intro a h
    have hf : Full S 0 a ↔ Full T 0 a := ⟨fun f x h1 h2 => (h x h1 h2).1 (f x h1 h2), fun f x h1 h2 => (h x h1 h2).2 (f x h1 h2)⟩
    refine ⟨?_, hf⟩
    by_cases hs : Full S 0 a
    · rw [canL_full hs, canL_full (hf.1 hs)]
    · rw [canL_zero hs, canL_zero fun t => hs (hf.2 t)]
  | succ d ih =>
    intro a h
    have hf : Full S (d + 1) a ↔ Full T (d + 1) a := ⟨fun f x h1 h2 => (h x h1 h2).1 (f x h1 h2), fun f x h1 h2 => (h x h1 h2).2 (f x h1 h2)⟩
    refine ⟨?_, hf⟩
    rw [two_halves] at h
    by_cases hs : Full S (d + 1) a
    · rw [canL_full hs, canL_full (hf.1 hs)]
    · rw [canL_succ hs, canL_succ fun t => hs (hf.2 t), (ih a fun x h1 h2 => h x h1 (by omega)).1, (ih (a + 2 ^ d) fun x h1 h2 => h x (by omega) (by omega)).1]
def Sib (p q : Pf) : Prop := p.2 = q.2 ∧ 0 < p.2 ∧ q.1 = p.1 + siz p.2 ∧ p.1 % siz (p.2 - 1) = 0
structure Norm (L : List Pf) : Prop where
  ok : ∀ p ∈ L, OkP p
  dis : L.Pairwise fun p q => p.1 + siz p.2 ≤ q.1
  nos : ∀ p ∈ L, ∀ q ∈ L, ¬ Sib p q
theorem Norm.sub {L M : List Pf} (h : Norm L) (hs : M.Sublist L) : Norm M :=
  ⟨fun p hp => h.ok p (hs.subset hp), h.dis.sublist hs, fun p hp q hq => h.nos p (hs.subset hp) q (hs.subset hq)⟩
theorem part_at (m : Nat) : ∀ {L : List Pf}, (L.Pairwise fun p q => p.1 ≤ q.1) → L = L.filter (fun p => decide (p.1 < m)) ++ L.filter (fun p => !decide (p.1 < m))
  | [], _ => rfl
  | p :: L, h => by
    obtain ⟨h1, h2⟩ := List.pairwise_cons.1 h
    by_cases hp : p.1 < m
    · rw [List.filter_cons_of_pos (by simpa using hp), List.filter_cons_of_neg (by simpa using hp), List.cons_append, ← part_at m h2]
    · have e : (p :: L).filter (fun p => decide (p.1 < m)) = [] := List.filter_eq_nil_iff.2 fun q hq => by
        rcases List.mem_cons.1 hq with rfl | hq
        · simpa using hp
        · have := h1 q hq
          simp; omega
      have e2 : (p :: L).filter (fun p => !decide (p.1 < m)) = p :: L := List.filter_eq_self.2 fun q hq => by
        rcases List.mem_cons.1 hq with rfl | hq
        · simpa using hp
        · have := h1 q hq
          simp; omega
      rw [e, e2, List.nil_append]
theorem siz_of {d : Nat} (h : d ≤ 32) {n : Int} (hn : n = 32 - (d : Int)) : siz n = 2 ^ d := by
  subst hn
  unfold siz
  rw [show 32 - (32 - (d : Int)).toNat = d by omega]
theorem dis_ends {L : List Pf} (h : L.Pairwise fun p q => p.1 + siz p.2 ≤ q.1) {p q : Pf} (hp : p ∈ L) (hq : q ∈ L) : p = q ∨ p.1 + siz p.2 ≤ q.1 ∨ q.1 + siz q.2 ≤ p.1 := by
  induction L with
  | nil => cases hp
  | cons x L ih =>
    obtain ⟨h1, h2⟩ := List.pairwise_cons.1 h
    rcases List.mem_cons.1 hp with e1 | hp1
    · rcases List.mem_cons.1 hq with e2 | hq1
      · exact .inl (e1.trans e2.symm)
      · exact .inr (.inl (e1 ▸ h1 q hq1))
    · rcases List.mem_cons.1 hq with e2 | hq1
      · exact .inr (.inr (e2 ▸ h1 p hp1))
      · exact ih h2 hp1 hq1
theorem only_one {L : List Pf} (h : L.Pairwise fun p q => p.1 + siz p.2 ≤ q.1) {p : Pf} (hp : p ∈ L) (hall : ∀ q ∈ L, p.1 ≤ q.1 ∧ q.1 + siz q.2 ≤ p.1 + siz p.2) : L = [p] := by
  have key : ∀ q ∈ L, q = p := fun q hq => by
    have h1 := hall q hq
    have h2 := siz_pos q.2
    rcases dis_ends h hp hq with e | e | e
    · exact e.symm
    · omega
    · omega
  match L, h, hp, key with
  | [q], _, _, key => rw [key q (List.mem_cons_self ..)]
  | q :: r :: M, h, _, key =>
    have e1 := key q (by simp)
    have e2 := key r (by simp)
    subst e1
    have h1 := (List.pairwise_cons.1 h).1 r (by simp)
    rw [e2] at h1
    have := siz_pos q.2
    omega
theorem canon {S : Nat → Prop} : ∀ (d a : Nat) (L : List Pf), d ≤ 32 → a % 2 ^ d = 0 → Norm L → (∀ p ∈ L, a ≤ p.1 ∧ p.1 + siz p.2 ≤ a + 2 ^ d) → (∀ x, a ≤ x → x < a + 2 ^ d → (S x ↔ ∃ p ∈ L, Hit p x)) → L = canL S d a := by
  intro d
  induction d with
  | zero =>
    intro a L _ _ hN hin hS
    cases L with
    | nil =>
      rw [canL_zero]
      intro hf
      obtain ⟨p, hp, _⟩ := (hS a (Nat.le_refl _) (by simp)).1 (hf a (Nat.le_refl _) (by simp))
      cases hp
    | cons p L =>
      have h1 := hin p (List.mem_cons_self ..)
      have h2 := siz_pos p.2
      have ha : p.1 = a := by simp at h1; omega
      have hs : siz p.2 = 1 := by simp at h1; omega
      have hn : p.2 = 32 := by
        have h3 := (hN.ok p (List.mem_cons_self ..)).hi
        have h4 := (hN.ok p (List.mem_cons_self ..)).lo
        have h5 : 32 - p.2.toNat = 0 := Nat.eq_zero_of_not_pos fun h => by
          have : 2 ^ 1 ≤ 2 ^ (32 - p.2.toNat) := Nat.pow_le_pow_right (by decide) h
          unfold siz at hs
          omega
        omega
      have e := only_one hN.dis (List.mem_cons_self ..) fun q hq => by have := hin q hq; simp at this; omega
      rw [e, canL_full]
      · obtain ⟨b, n⟩ := p
        simp at ha hn ⊢
        exact ⟨ha, hn⟩
      · intro x h3 h4
        exact (hS x h3 h4).2 ⟨p, List.mem_cons_self .., by unfold Hit; simp at h4; omega⟩
  | succ d ih =>
    intro a L hd ha hN hin hS
    have e2 := two_halves d
    by_cases hw : ∃ p ∈ L, siz p.2 = 2 ^ (d + 1)
    · obtain ⟨p, hp, hs⟩ := hw
      have h1 := hin p hp
      have hpa : p.1 = a := by omega
      have e := only_one hN.dis hp fun q hq => by have := hin q hq; omega
      have hn : p.2 = 32 - ((d + 1 : Nat) : Int) := by
        have h3 := (hN.ok p hp).hi
        have h4 := (hN.ok p hp).lo
        have h5 : 32 - p.2.toNat = d + 1 := (Nat.pow_right_inj (Nat.lt_succ_self 1)).1 hs
        omega
      rw [e, canL_full]
      · obtain ⟨b, n⟩ := p
        simp only [List.cons.injEq, Prod.mk.injEq, and_true]
        exact ⟨hpa, hn⟩
      · intro x h3 h4
        exact (hS x h3 h4).2 ⟨p, hp, by unfold Hit; omega⟩
    · have hsm : ∀ p ∈ L, (p.1 + siz p.2 ≤ a + 2 ^ d) ∨ a + 2 ^ d ≤ p.1 := fun p hp => by
        have h1 := hin p hp
        have h3 := (hN.ok p hp).hi
        have h4 := (hN.ok p hp).lo
        have h5 : siz p.2 ∣ 2 ^ d := by
          unfold siz
          have hne : 2 ^ (32 - p.2.toNat) ≠ 2 ^ (d + 1) := fun e => hw ⟨p, hp, e⟩
          refine Nat.pow_dvd_pow 2 ?_
          have h6 : 32 - p.2.toNat ≤ d + 1 := by
            refine Nat.le_of_not_lt fun h => ?_
            have : 2 ^ (d + 1) < 2 ^ (32 - p.2.toNat) := Nat.pow_lt_pow_right (by decide) h
            unfold siz at h1
            omega
          have h7 : 32 - p.2.toNat ≠ d + 1 := fun e => hne (by rw [e])
          omega
        have h6 : (a + 2 ^ d) % siz p.2 = 0 := by
          refine Nat.mod_eq_zero_of_dvd (Nat.dvd_add ?_ h5)
          exact Nat.dvd_trans h5 (Nat.dvd_trans (Nat.pow_dvd_pow 2 (Nat.le_succ d)) (Nat.dvd_of_mod_eq_zero ha))
        by_cases hlt : p.1 < a + 2 ^ d
        · exact .inl (step_mul (hN.ok p hp).al h6 hlt)
        · exact .inr (by omega)
      have hord : L.Pairwise fun p q => p.1 ≤ q.1 := hN.dis.imp fun h => by omega
      have hcut := part_at (a + 2 ^ d) hord
      have hda : a % 2 ^ d = 0 := Nat.mod_eq_zero_of_dvd (Nat.dvd_trans (Nat.pow_dvd_pow 2 (Nat.le_succ d)) (Nat.dvd_of_mod_eq_zero ha))
      have hdb : (a + 2 ^ d) % 2 ^ d = 0 := by rw [Nat.add_mod_right]; exact hda
      have i1 := ih a (L.filter (fun p => decide (p.1 < a + 2 ^ d))) (by omega) hda (hN.sub List.filter_sublist) (fun p hp => by
        obtain ⟨hp, h2⟩ := List.mem_filter.1 hp
        have := hin p hp
        have := siz_pos p.2
        have h2 : p.1 < a + 2 ^ d := by simpa using h2
        rcases hsm p hp with h | h <;> omega) (fun x h1 h2 => by
        rw [hS x h1 (by omega)]
        constructor
        · rintro ⟨p, hp, hh⟩
          refine ⟨p, List.mem_filter.2 ⟨hp, ?_⟩, hh⟩
          unfold Hit at hh
          simp; omega
        · rintro ⟨p, hp, hh⟩
          exact ⟨p, (List.mem_filter.1 hp).1, hh⟩)
      have i2 := ih (a + 2 ^ d) (L.filter (fun p => !decide (p.1 < a + 2 ^ d))) (by omega) hdb (hN.sub List.filter_sublist) (fun p hp => by
        obtain ⟨hp, h2⟩ := List.mem_filter.1 hp
        have := hin p hp
        have := siz_pos p.2
        have h2 : ¬ p.1 < a + 2 ^ d := by simpa using h2
        rcases hsm p hp with h | h <;> omega) (fun x h1 h2 => by
        rw [hS x (by omega) (by omega)]
        constructor
        · rintro ⟨p, hp, hh⟩
          refine ⟨p, List.mem_filter.2 ⟨hp, ?_⟩, hh⟩
          unfold Hit at hh
          have := siz_pos p.2
          rcases hsm p hp with h | h
          · omega
          · simp; omega
        · rintro ⟨p, hp, hh⟩
          exact ⟨p, (List.mem_filter.1 hp).1, hh⟩)
      have hnf : ¬ Full S (d + 1) a := fun hf => by
        rw [canL_full hf.lo] at i1
        rw [canL_full hf.hi] at i2
        have m1 : (a, 32 - (d : Int)) ∈ L := (List.mem_filter.1 (i1 ▸ List.mem_singleton.2 rfl)).1
        have m2 : (a + 2 ^ d, 32 - (d : Int)) ∈ L := (List.mem_filter.1 (i2 ▸ List.mem_singleton.2 rfl)).1
        refine hN.nos _ m1 _ m2 ⟨rfl, by simp; omega, ?_, ?_⟩
        · show a + 2 ^ d = a + siz (32 - (d : Int))
          rw [siz_of (by omega) rfl]
        · show a % siz (32 - (d : Int) - 1) = 0
          rw [siz_of hd (by omega)]; exact ha
      rw [canL_succ hnf, ← i1, ← i2]
      exact hcut
end Go.Proofs.YtbbjjjaclbkolaaGreatDoor
