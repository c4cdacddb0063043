/- What the laws of aggregates need. -/
import Derived.Test.YtbbjjjaclbkolaaDoorPfxN
namespace Go.Proofs.YtbbjjjaclbkolaaDoor
open Go.RowKit

/-- An address lies in one of the prefixes. -/
def anyH (l : List Pf) (x : Nat) : Bool := l.any fun p => cts p.1 p.2 x
theorem anyH_step {l : List Pf} {k : Nat} {p : Pf} (x : Nat) (h : l[k]? = some p) : anyH (l.take (k + 1)) x = (anyH (l.take k) x || cts p.1 p.2 x) := by
  unfold anyH
  rw [List.take_add_one, h, List.any_append]
  simp
theorem anyH_t {l : List Pf} {k : Nat} {p : Pf} {x : Nat} (h : l[k]? = some p) (hb : anyH (l.take k) x = true) : anyH (l.take (k + 1)) x = true := by rw [anyH_step x h, hb]; rfl
theorem anyH_f {l : List Pf} {k : Nat} {p : Pf} {x : Nat} {b : Bool} (h : l[k]? = some p) (hb : anyH (l.take k) x = false) (hc : cts p.1 p.2 x = b) : anyH (l.take (k + 1)) x = b := by rw [anyH_step x h, hb, hc]; rfl
theorem anyH_iff {l : List Pf} (hl : AllOk l) (x : Nat) : anyH l x = true ↔ InL l x := by
  unfold anyH InL
  rw [List.any_eq_true]
  exact ⟨fun ⟨p, hp, h⟩ => ⟨p, hp, (cts_iff (hl p hp) x).1 h⟩, fun ⟨p, hp, h⟩ => ⟨p, hp, (cts_iff (hl p hp) x).2 h⟩⟩
theorem agg_facts {xs : List Pf} (h : AllOk xs) : Norm (aggS xs) ∧ ∀ x, InL (aggS xs) x ↔ InL xs x := (prog_agg h (sortP_perm xs) (sortP_ord xs)).2
theorem any_same {xs : List Pf} (h : AllOk xs) (x : Nat) : anyH xs x = anyH (aggS xs) x := by
  obtain ⟨h1, h2⟩ := agg_facts h
  rw [Bool.eq_iff_iff, anyH_iff h, anyH_iff h1.ok, h2]
theorem agE_zero {xs : List Pf} (h : agE xs = 0) : okB xs = true := by
  cases hb : okB xs with
  | true => rfl
  | false => rw [(ag_bad hb).2] at h; cases h
theorem agE_one {xs : List Pf} (h : agE xs ≠ 0) : agE xs = 1 := by
  cases hb : okB xs with
  | true => exact absurd (ag_ok hb).2 h
  | false => exact (ag_bad hb).2
theorem allP {α : Type} {p : α → Bool} {xs ys : List α} (h : xs.Perm ys) : xs.all p = ys.all p := by
  rw [Bool.eq_iff_iff, List.all_eq_true, List.all_eq_true]
  exact ⟨fun f x hx => f x (h.mem_iff.2 hx), fun f x hx => f x (h.mem_iff.1 hx)⟩
theorem agF_perm {xs ys : List Pf} (h : xs.Perm ys) : agF xs = agF ys ∧ agE xs = agE ys := by
  have e : okB xs = okB ys := allP h
  unfold agF agE
  rw [e, show aggS xs = aggS ys from agg_same fun x => InL.perm h x]
  exact ⟨rfl, rfl⟩
theorem okB_of {xs : List Pf} (h : AllOk xs) : okB xs = true := List.all_eq_true.2 fun p hp => (h p hp).2
theorem agF_again {xs : List Pf} (h : AllOk xs) : agF (aggS xs) = aggS xs ∧ agE (aggS xs) = 0 := by
  obtain ⟨h1, _⟩ := agg_facts h
  have q := ag_ok (okB_of h1.ok)
  exact ⟨q.1.trans (agg_again h1), q.2⟩
/-- A list from a place on, and what stood ahead of it. -/
def rotS (xs : List Pf) (k : Nat) : List Pf := xs.drop k ++ xs.take k
theorem rotS_perm (xs : List Pf) (k : Nat) : (rotS xs k).Perm xs := by
  have := List.perm_append_comm (l₁ := xs.drop k) (l₂ := xs.take k)
  rwa [List.take_append_drop] at this
theorem rotS_len (xs : List Pf) (k : Nat) : (rotS xs k).length = xs.length := (rotS_perm xs k).length_eq
theorem rotS_w {xs : List Pf} {k : Nat} (hw : ∀ p ∈ xs, W32 p.1) : ∀ p ∈ rotS xs k, W32 p.1 := fun p hp => hw p ((rotS_perm xs k).mem_iff.1 hp)
theorem agF_w {xs : List Pf} (hw : ∀ p ∈ xs, W32 p.1) : ∀ p ∈ agF xs, W32 p.1 := fun p hp => by
  cases h : okB xs with
  | true => rw [(ag_ok h).1] at hp; exact ((agg_facts (okB_all h hw)).1.ok p hp).1
  | false => rw [(ag_bad h).1] at hp; cases hp
theorem three_ptr {p : Option Addr} {c N : Nat} {xs : List Pf} (h : xs ≠ [] → ∃ g o, p = some ⟨g, o, none⟩ ∧ g < N ∧ xs.length ≤ c ∧ c ≤ 9223372036854775807) :
    (p = none ∧ RowKit.Hid (xs = [])) ∨ (∃ a, p = some a ∧ RowKit.Hid (xs = [])) ∨ ∃ g o, p = some ⟨g, o, none⟩ ∧ RowKit.Hid (xs ≠ []) ∧ xs.length ≤ c ∧ c ≤ 9223372036854775807 := by
  by_cases e : xs = []
  · cases p with
    | none => exact .inl ⟨rfl, hid e⟩
    | some a => exact .inr (.inl ⟨a, rfl, hid e⟩)
  · obtain ⟨g, o, h1, _, h2, h3⟩ := h e
    exact .inr (.inr ⟨g, o, h1, hid e, h2, h3⟩)
theorem SlV.dropIf {α : Type} {K : EK α} {w : World} {g o n c m : Nat} {xs : List α} (h : SlV K w (.slice (some ⟨g, o, none⟩) n c) xs) (hm : m ≤ xs.length) (hc : xs.length ≤ c) : SlV K w (.slice (if c = m then some ⟨g, o, none⟩ else some ⟨g, o + m * K.sz, none⟩) (xs.length - m) (c - m)) (xs.drop m) := by
  by_cases e : c = m
  · rw [if_pos e, List.drop_eq_nil_of_le (by omega), show xs.length - m = 0 by omega]
    exact .nil
  · rw [if_neg e]; exact h.drop hm
end Go.Proofs.YtbbjjjaclbkolaaDoor
