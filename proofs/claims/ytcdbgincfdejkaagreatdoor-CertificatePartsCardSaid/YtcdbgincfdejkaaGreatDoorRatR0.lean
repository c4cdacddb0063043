/- Slices of rational numbers, of the program and of the reference. -/
import Derived.Test.YtcdbgincfdejkaaGreatDoorRatL0
import Derived.Test.YtcdbgincfdejkaaGreatDoorRowG
namespace Go.Proofs.YtcdbgincfdejkaaGreatDoor
open Go.RowKit
def ekQ (P : World → Value → Rat → Prop) (hb : ∀ {w w' : World} {v x}, P w v x → Below w.heap.size w w' → P w' v x) (h1 : ∀ {w : World} {a b c x}, P w (.agg #[a, b, c]) x → (a = .bool (isN x) ∧ (∃ p n m, b = .slice p n m) ∧ ∃ p n m, c = .slice p n m)) : EK Rat where
  sz := 3
  pos := by decide
  R := fun w cs x => ∃ a b c, cs = [a, b, c] ∧ P w (.agg #[a, b, c]) x
  len := fun ⟨_, _, _, e, _⟩ => by rw [e]; rfl
  one := fun ⟨a, b, c, e, h⟩ u hu => by
    obtain ⟨h2, ⟨_, _, _, h3⟩, _, _, _, h4⟩ := h1 h
    subst e; subst h2; subst h3; subst h4
    simp only [List.mem_cons, List.not_mem_nil, or_false] at hu
    rcases hu with rfl | rfl | rfl <;> rfl
  below := fun ⟨a, b, c, e, h⟩ hb' => ⟨a, b, c, e, hb h hb'⟩
theorem ratV_cells {w : World} {a b c : Value} {x : Rat} (h : RatV w (.agg #[a, b, c]) x) : a = .bool (isN x) ∧ (∃ p n m, b = .slice p n m) ∧ ∃ p n m, c = .slice p n m := by
  obtain ⟨p, l, c', q, m, d, e, _⟩ := h
  injection e with e
  injection e with e
  injection e with e1 e
  injection e with e2 e
  injection e with e3
  exact ⟨e1, ⟨_, _, _, e2⟩, _, _, _, e3⟩
theorem refR_cells {w : World} {a b c : Value} {x : Rat} (h : RefR w (.agg #[a, b, c]) x) : a = .bool (isN x) ∧ (∃ p n m, b = .slice p n m) ∧ ∃ p n m, c = .slice p n m := by
  obtain ⟨nv, dv, e, h1, h2⟩ := h
  injection e with e
  injection e with e
  injection e with e1 e
  injection e with e2 e
  injection e with e3
  subst e2; subst e3
  obtain ⟨p, n, m, e4⟩ := h1.sl
  obtain ⟨q, n', m', e5⟩ := h2.sl
  exact ⟨e1, ⟨p, n, m, e4⟩, q, n', m', e5⟩
def ratK : EK Rat := ekQ RatV RatV.below ratV_cells
def refK : EK Rat := ekQ RefR RefR.below refR_cells
section
variable {V w : World} {l : List (World → Prop)} {g o n c k : Nat} {xs : List Rat} {x : Rat}
theorem KS.atQ (hK : KS V l w) (h : SlV ratK w (.slice (some ⟨g, o, none⟩) n c) xs) (hx : xs[k]? = some x) : ∃ (s : Bool) (y z : Sl), KS V (CelAt g (o + k * 3) [.bool s, .slice y.p y.l y.c, .slice z.p z.l z.c] :: (fun w => RatV w (.agg #[.bool s, .slice y.p y.l y.c, .slice z.p z.l z.c]) x) :: l) w := by
  obtain ⟨cs, h1, a, b, d, rfl, h3⟩ := h.at hx
  obtain ⟨rfl, ⟨p, m, e, rfl⟩, p', m', e', rfl⟩ := ratV_cells h3
  exact ⟨_, ⟨p, m, e⟩, ⟨p', m', e'⟩, (hK.add (F := fun w => RatV w (.agg #[.bool (isN x), .slice p m e, .slice p' m' e']) x) fun w' hb => h3.below hb).add fun w' hb => h1.below hb⟩
theorem KS.atR (hK : KS V l w) (h : SlV refK w (.slice (some ⟨g, o, none⟩) n c) xs) (hx : xs[k]? = some x) : ∃ (s : Bool) (y z : Sl), KS V (CelAt g (o + k * 3) [.bool s, .slice y.p y.l y.c, .slice z.p z.l z.c] :: (fun w => RefR w (.agg #[.bool s, .slice y.p y.l y.c, .slice z.p z.l z.c]) x) :: l) w := by
  obtain ⟨cs, h1, a, b, d, rfl, h3⟩ := h.at hx
  obtain ⟨rfl, ⟨p, m, e, rfl⟩, p', m', e', rfl⟩ := refR_cells h3
  exact ⟨_, ⟨p, m, e⟩, ⟨p', m', e'⟩, (hK.add (F := fun w => RefR w (.agg #[.bool (isN x), .slice p m e, .slice p' m' e']) x) fun w' hb => h3.below hb).add fun w' hb => h1.below hb⟩
theorem ratK_hd {w : World} {cs : List Value} {x : Rat} {u : Value} (h : ratK.R w cs x) (hu : cs[0]? = some u) : rkV u = 2 := by
  obtain ⟨a, b, c, rfl, h⟩ := h
  obtain ⟨rfl, _⟩ := ratV_cells h
  cases hu; rfl
theorem refK_hd {w : World} {cs : List Value} {x : Rat} {u : Value} (h : refK.R w cs x) (hu : cs[0]? = some u) : rkV u = 2 := by
  obtain ⟨a, b, c, rfl, h⟩ := h
  obtain ⟨rfl, _⟩ := refR_cells h
  cases hu; rfl
end
def sumQ (xs : List Rat) : Rat := xs.foldl (· + ·) 0
theorem sumQ_nil : sumQ [] = 0 := rfl
theorem foldl_add (xs : List Rat) (a : Rat) : xs.foldl (· + ·) a = a + sumQ xs := by
  induction xs generalizing a with
  | nil => rw [List.foldl_nil, sumQ_nil, Rat.add_zero]
  | cons x xs ih =>
    have h1 : sumQ (x :: xs) = (0 + x) + sumQ xs := ih (0 + x)
    rw [List.foldl_cons, ih, h1, Rat.zero_add, Rat.add_assoc]
theorem sumQ_cons (x : Rat) (xs : List Rat) : sumQ (x :: xs) = x + sumQ xs := by rw [sumQ, List.foldl_cons, foldl_add, Rat.zero_add]
theorem sumQ_lm {a : Nat} : ∀ (xs : List Rat), (∀ x ∈ xs, LmQ a x) → LmQ (1 + xs.length * (a + 1)) (sumQ xs)
  | [], _ => LmQ.zero.up (by simp)
  | x :: xs, h => by
    rw [sumQ_cons]
    refine ((h x (List.mem_cons_self ..)).add (sumQ_lm xs fun y hy => h y (List.mem_cons_of_mem _ hy))).up ?_
    rw [List.length_cons, Nat.succ_mul]; omega
instance : OwnK ratK := ⟨[0], fun ⟨a, b, c, e, h⟩ hg w1 h2 h3 w2 h4 => ⟨a, b, c, e, rat_spare h hg w1 h2 h3 w2 h4⟩, .inr ⟨2, rfl, ratK_hd⟩⟩
instance : OwnK refK := ⟨[1], fun ⟨a, b, c, e, h⟩ hg w1 h2 h3 w2 h4 => ⟨a, b, c, e, refr_spare h hg w1 h2 h3 w2 h4⟩, .inr ⟨2, rfl, refK_hd⟩⟩
theorem infoQ : (Tryz.prog.info? 55).map (fun i => (i.zero, i.size, i.bytes)) = some (some (.agg #[.bool false, .slice none 0 0, .slice none 0 0]), 3, 56) := by kernel_rfl
theorem infoR : (Tryz.prog.info? 41).map (fun i => (i.zero, i.size, i.bytes)) = some (some (.agg #[.bool false, .slice none 0 0, .slice none 0 0]), 3, 56) := by kernel_rfl
section
variable {α β : Type}
def pairL (f : α → α → α) : List α → List α
  | a :: b :: l => f a b :: pairL f l
  | [a] => [a]
  | [] => []
theorem pairL_at (f : α → α → α) : ∀ (l : List α) (j : Nat) (x y : α), l[2 * j]? = some x → l[2 * j + 1]? = some y → (pairL f l)[j]? = some (f x y)
  | a :: b :: l, j, x, y, hx, hy => by
    cases j with
    | zero => simp at hx hy; subst hx; subst hy; rfl
    | succ j =>
      have e : 2 * (j + 1) = 2 * j + 1 + 1 := by omega
      rw [e] at hx hy
      simp at hx hy
      exact pairL_at f l j x y hx hy
  | [a], j, x, y, hx, hy => by simp at hy
  | [], j, x, y, hx, hy => by simp at hx
structure Half (f : α → α → α) (ys zs : List α) (i : Nat) : Prop where
  len : zs.length = ys.length
  lo : ∀ j, j < i → zs[j]? = (pairL f ys)[j]?
  hi : ∀ j, i ≤ j → zs[j]? = ys[j]?
theorem Half.start (f : α → α → α) (ys : List α) : Half f ys ys 0 := ⟨rfl, fun _ h => absurd h (by omega), fun _ _ => rfl⟩
theorem Half.step {f : α → α → α} {ys zs : List α} {i : Nat} {x y : α} (h : Half f ys zs i) (hx : zs[2 * i]? = some x) (hy : zs[2 * i + 1]? = some y) : Half f ys (zs.set i (f x y)) (i + 1) := by
  rw [h.hi _ (by omega)] at hx hy
  have hl : i < zs.length := by
    have := (List.getElem?_eq_some_iff.1 hy).1
    have := h.len
    omega
  refine ⟨by simp [h.len], fun j hj => ?_, fun j hj => ?_⟩
  · by_cases e : j = i
    · subst e
      rw [pairL_at f ys j x y hx hy, List.getElem?_set_self hl]
    · rw [List.getElem?_set_ne (by omega)]
      exact h.lo j (by omega)
  · rw [List.getElem?_set_ne (by omega)]
    exact h.hi j (by omega)
end
def Seg (xs ys : List Rat) : Prop := ∃ pss : List (List Rat), pss.flatten = xs ∧ ys = pss.map sumQ
theorem Seg.start (xs : List Rat) : Seg xs xs := ⟨xs.map fun x => [x], by
  induction xs with
  | nil => rfl
  | cons x xs ih => rw [List.map_cons, List.flatten_cons, ih]; rfl, by
  rw [List.map_map]
  conv => lhs; rw [← List.map_id xs]
  exact List.map_congr_left fun x _ => by simp [sumQ, Rat.zero_add]⟩
theorem Seg.lm {a m : Nat} {xs ys : List Rat} (h : Seg xs ys) (hx : ∀ x ∈ xs, LmQ a x) (hm : 1 + xs.length * (a + 1) ≤ m) : ∀ y ∈ ys, LmQ m y := by
  obtain ⟨pss, rfl, rfl⟩ := h
  intro y hy
  obtain ⟨ps, hp, rfl⟩ := List.mem_map.1 hy
  refine (sumQ_lm ps fun x hx' => hx x (List.mem_flatten.2 ⟨ps, hp, hx'⟩)).up ?_
  have h1 : ps.length ≤ pss.flatten.length := (List.sublist_flatten_of_mem hp).length_le
  have := Nat.mul_le_mul_right (a + 1) h1
  omega
theorem Seg.one {xs : List Rat} {y : Rat} (h : Seg xs [y]) : y = sumQ xs := by
  obtain ⟨pss, rfl, e⟩ := h
  match pss, e with
  | [ps], e => simpa using e
theorem Seg.first {xs ys : List Rat} {y : Rat} (h : Seg xs ys) (hl : ys.length ≤ 1) (hy : ys[0]? = some y) : y = sumQ xs := by
  match ys, hl with
  | [], _ => simp at hy
  | [z], _ =>
    simp at hy
    subst hy
    exact h.one
theorem Half.lm {a : Nat} {ys zs : List Rat} {i : Nat} (h : Half (· + ·) ys zs i) (h1 : ∀ y ∈ ys, LmQ a y) {j : Nat} {x : Rat} (hj : i ≤ j) (hx : zs[j]? = some x) : LmQ a x := h1 x (List.mem_of_getElem? ((h.hi j hj).symm.trans hx))
end Go.Proofs.YtcdbgincfdejkaaGreatDoor
