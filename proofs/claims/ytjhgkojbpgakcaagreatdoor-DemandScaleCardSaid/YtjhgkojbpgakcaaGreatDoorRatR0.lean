/- Slices of rational numbers, of the program and of the reference. -/
import Derived.Test.YtjhgkojbpgakcaaGreatDoorSrR
import Derived.Test.YtjhgkojbpgakcaaGreatDoorNrG
import Derived.Test.YtjhgkojbpgakcaaGreatDoorRowG
namespace Go.Proofs.YtjhgkojbpgakcaaGreatDoor
open Go.RowKit
theorem LmQ.zero : LmQ 1 (0 : Rat) := ⟨by show _ < _; decide, by show _ < _; decide⟩
theorem LmQ.one : LmQ 1 (1 : Rat) := ⟨by show _ < _; decide, by show _ < _; decide⟩
theorem LmQ.int {n : Int} (n0 : -9223372036854775808 ≤ n) (n1 : n ≤ 9223372036854775807) : LmQ 2 ((n : Int) : Rat) := by
  rw [← int_of n]
  refine .ofS _ ?_ (Lm.one.up (by decide)) (by decide)
  show _ < _
  have : B32 ^ 2 = 18446744073709551616 := by decide
  omega
theorem LmQ.quo {a b : Nat} {x y : Rat} (hx : LmQ a x) (hy : LmQ b y) : LmQ (a + b) (x / y) := by
  by_cases h : y = 0
  · subst h
    rw [div_zero']
    have hb : 1 ≤ b := by
      rcases Nat.eq_zero_or_pos b with e | e
      · subst e
        have h2 : (0 : Rat).den < B32 ^ 0 := hy.d
        revert h2
        decide
      · exact e
    exact LmQ.zero.up (by omega)
  · exact hx.div hy h
section
variable {V w : World} {l : List (World → Prop)} {g o n c k : Nat} {xs : List Rat} {x : Rat}
end
def sumQ (xs : List Rat) : Rat := xs.foldl (· + ·) 0
theorem sumQ_nil : sumQ [] = 0 := rfl
theorem foldl_add (xs : List Rat) (a : Rat) : xs.foldl (· + ·) a = a + sumQ xs := by
  induction xs generalizing a with
  | nil => rw [List.foldl_nil, sumQ_nil, Rat.add_zero]
  | cons x xs ih =>
    have h1 : sumQ (x :: xs) = (0 + x) + sumQ xs := ih (0 + x)
    rw [List.foldl_cons, ih, h1, Rat.zero_add, Rat.add_assoc]
theorem sumQ_cons (x : Rat) (xs : List Rat) : sumQ (x :: xs) = x + sumQ xs := by rw [sumQ, List.foldl_cons, foldl_add, Rat.zero_add]
theorem sumQ_append (xs ys : List Rat) : sumQ (xs ++ ys) = sumQ xs + sumQ ys := by rw [sumQ, List.foldl_append, foldl_add]; rfl
theorem sumQ_lm {a : Nat} : ∀ (xs : List Rat), (∀ x ∈ xs, LmQ a x) → LmQ (1 + xs.length * (a + 1)) (sumQ xs)
  | [], _ => LmQ.zero.up (by simp)
  | x :: xs, h => by
    rw [sumQ_cons]
    refine ((h x (List.mem_cons_self ..)).add (sumQ_lm xs fun y hy => h y (List.mem_cons_of_mem _ hy))).up ?_
    rw [List.length_cons, Nat.succ_mul]; omega
theorem infoQ : (Tryz.prog.info? 29).map (fun i => (i.zero, i.size, i.bytes)) = some (some (.agg #[.bool false, .slice none 0 0, .slice none 0 0]), 3, 56) := by kernel_rfl
theorem infoR : (Tryz.prog.info? 41).map (fun i => (i.zero, i.size, i.bytes)) = some (some (.agg #[.bool false, .slice none 0 0, .slice none 0 0]), 3, 56) := by kernel_rfl
section
variable {α β : Type}
def pairL (f : α → α → α) : List α → List α
  | a :: b :: l => f a b :: pairL f l
  | [a] => [a]
  | [] => []
theorem pairL_map (f : α → α → α) (g : β → β → β) (h : β → α) (hh : ∀ a b, h (g a b) = f (h a) (h b)) : ∀ l : List β, pairL f (l.map h) = (pairL g l).map h
  | a :: b :: l => by simp only [List.map_cons, pairL, pairL_map f g h hh l, hh]
  | [a] => rfl
  | [] => rfl
theorem pairL_flat : ∀ l : List (List α), (pairL (· ++ ·) l).flatten = l.flatten
  | a :: b :: l => by simp only [pairL, List.flatten_cons, pairL_flat l, List.append_assoc]
  | [a] => rfl
  | [] => rfl
theorem pairL_len (f : α → α → α) : ∀ l : List α, (pairL f l).length = (l.length + 1) / 2
  | a :: b :: l => by simp only [pairL, List.length_cons, pairL_len f l]; omega
  | [a] => by simp [pairL]
  | [] => by simp [pairL]
theorem pairL_at (f : α → α → α) : ∀ (l : List α) (j : Nat) (x y : α), l[2 * j]? = some x → l[2 * j + 1]? = some y → (pairL f l)[j]? = some (f x y)
  | a :: b :: l, j, x, y, hx, hy => by
    cases j with
    | zero => simp at hx hy; subst hx; subst hy; rfl
    | succ j =>
      have e : 2 * (j + 1) = 2 * j + 1 + 1 := by omega
      rw [e] at hx hy
      simp at hx hy
      exact pairL_at f l j x y hx hy
  | [a], j, x, y, hx, hy => by simp at hy
  | [], j, x, y, hx, hy => by simp at hx
theorem pairL_last (f : α → α → α) : ∀ (l : List α) (j : Nat) (x : α), l[2 * j]? = some x → l.length = 2 * j + 1 → (pairL f l)[j]? = some x
  | a :: b :: l, j, x, hx, hl => by
    cases j with
    | zero => simp at hl
    | succ j =>
      have e : 2 * (j + 1) = 2 * j + 1 + 1 := by omega
      rw [e] at hx
      simp at hx hl
      exact pairL_last f l j x hx (by omega)
  | [a], j, x, hx, hl => by
    simp at hl
    obtain rfl : j = 0 := by omega
    simpa [pairL] using hx
  | [], j, x, hx, hl => by simp at hl
structure Half (f : α → α → α) (ys zs : List α) (i : Nat) : Prop where
  len : zs.length = ys.length
  lo : ∀ j, j < i → zs[j]? = (pairL f ys)[j]?
  hi : ∀ j, i ≤ j → zs[j]? = ys[j]?
theorem Half.start (f : α → α → α) (ys : List α) : Half f ys ys 0 := ⟨rfl, fun _ h => absurd h (by omega), fun _ _ => rfl⟩
theorem Half.step {f : α → α → α} {ys zs : List α} {i : Nat} {x y : α} (h : Half f ys zs i) (hx : zs[2 * i]? = some x) (hy : zs[2 * i + 1]? = some y) : Half f ys (zs.set i (f x y)) (i + 1) := by
  rw [h.hi _ (by omega)] at hx hy
  have hl : i < zs.length := by
    have := (List.getElem?_eq_some_iff.1 hy).1
    have := h.len
    omega
  refine ⟨by simp [h.len], fun j hj => ?_, fun j hj => ?_⟩
  · by_cases e : j = i
    · subst e
      rw [pairL_at f ys j x y hx hy, List.getElem?_set_self hl]
    · rw [List.getElem?_set_ne (by omega)]
      exact h.lo j (by omega)
  · rw [List.getElem?_set_ne (by omega)]
    exact h.hi j (by omega)
theorem Half.even {f : α → α → α} {ys zs : List α} {m : Nat} (h : Half f ys zs m) (hm : ys.length = 2 * m) : zs.take m = pairL f ys := by
  refine List.ext_getElem? fun j => ?_
  have hl := pairL_len f ys
  rw [List.getElem?_take]
  split
  · rename_i hj; exact h.lo j hj
  · rw [List.getElem?_eq_none (by omega)]
theorem Half.odd {f : α → α → α} {ys zs : List α} {m : Nat} {x : α} (h : Half f ys zs m) (hm : ys.length = 2 * m + 1) (hx : zs[2 * m]? = some x) : (zs.set m x).take (m + 1) = pairL f ys := by
  refine List.ext_getElem? fun j => ?_
  have hl := pairL_len f ys
  have hzl := h.len
  rw [List.getElem?_take]
  split
  · rename_i hj
    by_cases e : j = m
    · subst e
      rw [List.getElem?_set_self (by omega)]
      rw [h.hi _ (by omega)] at hx
      exact (pairL_last f ys j x hx hm).symm
    · rw [List.getElem?_set_ne (by omega)]
      exact h.lo j (by omega)
  · rw [List.getElem?_eq_none (by omega)]
end
def Seg (xs ys : List Rat) : Prop := ∃ pss : List (List Rat), pss.flatten = xs ∧ ys = pss.map sumQ
theorem Seg.start (xs : List Rat) : Seg xs xs := ⟨xs.map fun x => [x], by
  induction xs with
  | nil => rfl
  | cons x xs ih => rw [List.map_cons, List.flatten_cons, ih]; rfl, by
  rw [List.map_map]
  conv => lhs; rw [← List.map_id xs]
  exact List.map_congr_left fun x _ => by simp [sumQ, Rat.zero_add]⟩
theorem Seg.pair {xs ys : List Rat} (h : Seg xs ys) : Seg xs (pairL (· + ·) ys) := by
  obtain ⟨pss, rfl, rfl⟩ := h
  exact ⟨pairL (· ++ ·) pss, pairL_flat pss, pairL_map _ _ sumQ sumQ_append pss⟩
theorem Seg.lm {a m : Nat} {xs ys : List Rat} (h : Seg xs ys) (hx : ∀ x ∈ xs, LmQ a x) (hm : 1 + xs.length * (a + 1) ≤ m) : ∀ y ∈ ys, LmQ m y := by
  obtain ⟨pss, rfl, rfl⟩ := h
  intro y hy
  obtain ⟨ps, hp, rfl⟩ := List.mem_map.1 hy
  refine (sumQ_lm ps fun x hx' => hx x (List.mem_flatten.2 ⟨ps, hp, hx'⟩)).up ?_
  have h1 : ps.length ≤ pss.flatten.length := (List.sublist_flatten_of_mem hp).length_le
  have := Nat.mul_le_mul_right (a + 1) h1
  omega
theorem Seg.one {xs : List Rat} {y : Rat} (h : Seg xs [y]) : y = sumQ xs := by
  obtain ⟨pss, rfl, e⟩ := h
  match pss, e with
  | [ps], e => simpa using e
theorem Seg.first {xs ys : List Rat} {y : Rat} (h : Seg xs ys) (hl : ys.length ≤ 1) (hy : ys[0]? = some y) : y = sumQ xs := by
  match ys, hl with
  | [], _ => simp at hy
  | [z], _ =>
    simp at hy
    subst hy
    exact h.one
theorem Half.lm {a : Nat} {ys zs : List Rat} {i : Nat} (h : Half (· + ·) ys zs i) (h1 : ∀ y ∈ ys, LmQ a y) {j : Nat} {x : Rat} (hj : i ≤ j) (hx : zs[j]? = some x) : LmQ a x := h1 x (List.mem_of_getElem? ((h.hi j hj).symm.trans hx))
end Go.Proofs.YtjhgkojbpgakcaaGreatDoor
