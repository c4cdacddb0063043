/- The simplex method: steps, how many are left; how large numbers grow. No program in sight. -/
import Derived.Test.YtcdbgincfdejkaaGreatDoorLpC
namespace Go.Proofs.YtcdbgincfdejkaaGreatDoor
def stepS (s : LSt) : Option LSt :=
  if entN s.g.cs s.T.free s.g.cs.length < 0 then none else
    if (leaN s.T.rows s.T.basic (entN s.g.cs s.T.free s.g.cs.length).toNat s.T.rows.length).1 < 0 then none else
      some (s.next (leaN s.T.rows s.T.basic (entN s.g.cs s.T.free s.g.cs.length).toNat s.T.rows.length).1.toNat (entN s.g.cs s.T.free s.g.cs.length).toNat)
theorem pick_of {s : LSt} (h : s.Ok) {j i : Nat} (hj : entN s.g.cs s.T.free s.g.cs.length = (j : Int)) (hi : (leaN s.T.rows s.T.basic j s.T.rows.length).1 = (i : Int)) : Pick s.T s.g i j := by
  rcases entN_spec s.g.cs s.T.free s.g.cs.length with ⟨h1, _⟩ | ⟨j', h1, h2, h3, h4⟩
  · omega
  rcases leaN_spec s.T.rows s.T.basic j s.T.rows.length with ⟨h5, _⟩ | ⟨i', h5, h6, h7, h8⟩
  · rw [h5] at hi; exact absurd hi (by simp)
  obtain rfl : j = j' := by omega
  obtain rfl : i = i' := by rw [h6] at hi; exact (Int.ofNat.inj hi).symm
  have := h.len
  exact ⟨h5, by omega, h3, fun m hm => h4 m (by omega), h7, h8⟩
theorem stepS_pick {s s' : LSt} (h : s.Ok) (hs : stepS s = some s') : ∃ i j, Pick s.T s.g i j ∧ s' = s.next i j := by
  unfold stepS at hs
  split at hs
  · cases hs
  rename_i h1
  split at hs
  · cases hs
  rename_i h2
  exact ⟨_, _, pick_of h (j := (entN s.g.cs s.T.free s.g.cs.length).toNat) (by omega) (i := (leaN s.T.rows s.T.basic (entN s.g.cs s.T.free s.g.cs.length).toNat s.T.rows.length).1.toNat) (by omega), (Option.some.inj hs).symm⟩
def itS : Nat → LSt → Option LSt
  | 0, s => some s
  | n + 1, s => (stepS s).bind (itS n)
theorem itS_succ (n : Nat) (s : LSt) : itS (n + 1) s = (itS n s).bind stepS := by
  induction n generalizing s with
  | zero => simp [itS]
  | succ n ih =>
    rw [itS]
    cases e : stepS s with
    | none => simp [itS, e]
    | some t => simp only [Option.bind_some, itS, e]; exact ih t
theorem itS_ok {s t : LSt} (h : s.Ok) {n : Nat} (ht : itS n s = some t) : t.Ok := by
  induction n generalizing t with
  | zero => cases ht; exact h
  | succ n ih =>
    rw [itS_succ] at ht
    cases e : itS n s with
    | none => rw [e] at ht; cases ht
    | some u =>
      rw [e] at ht
      obtain ⟨i, j, hp, rfl⟩ := stepS_pick (ih e) ht
      exact (ih e).next hp
theorem ends (s : LSt) (h : s.Ok) : ∃ n, itS n s = none := Classical.byContradiction fun hno => by
  have hs : ∀ n, ∃ t, itS n s = some t := fun n => by
    cases e : itS n s with
    | none => exact absurd ⟨n, e⟩ hno
    | some t => exact ⟨t, rfl⟩
  obtain ⟨f, hf⟩ : ∃ f : Nat → LSt, ∀ n, itS n s = some (f n) := ⟨fun n => (hs n).choose, fun n => (hs n).choose_spec⟩
  have hok : ∀ n, (f n).Ok := fun n => itS_ok h (hf n)
  have hstep : ∀ n, stepS (f n) = some (f (n + 1)) := fun n => by
    have := itS_succ n s
    rw [hf, hf] at this
    exact this.symm
  have hp : ∀ n, ∃ i j, Pick (f n).T (f n).g i j ∧ f (n + 1) = (f n).next i j := fun n => stepS_pick (hok n) (hstep n)
  exact Run.ends (f := f) (i := fun n => (hp n).choose) (j := fun n => (hp n).choose_spec.choose) ⟨hok 0, fun k => (hp k).choose_spec.choose_spec.1, fun k => (hp k).choose_spec.choose_spec.2⟩
def Fra (D : Int) (X : Nat) (e : Rat) : Prop := ∃ M : Int, M.natAbs ≤ X ∧ e * (D : Rat) = (M : Rat)
structure Bd (D : Int) (X : Nat) (x : LRow) : Prop where
  r : Fra D X x.r
  cs : ∀ c ∈ x.cs, Fra D X c
structure Den (D : Int) (X : Nat) : Prop where
  nz : D ≠ 0
  le : D.natAbs ≤ X
theorem Fra.zero (D : Int) (X : Nat) : Fra D X 0 := ⟨0, by simp, by rw [Rat.zero_mul]; rfl⟩
theorem Bd.at {D : Int} {X : Nat} {x : LRow} (h : Bd D X x) (k : Nat) : Fra D X (x.cs.getD k 0) := by
  cases e : x.cs[k]? with
  | none => rw [List.getD, e]; exact Fra.zero D X
  | some c => rw [getD_of e]; exact h.cs c (List.mem_of_getElem? e)
theorem natAbs_mul_le {a b : Int} {X Y : Nat} (h : a.natAbs ≤ X) (h' : b.natAbs ≤ Y) : (a * b).natAbs ≤ X * Y := by rw [Int.natAbs_mul]; exact Nat.mul_le_mul h h'
theorem natAbs_sub_le {a b : Int} {X Y : Nat} (h : a.natAbs ≤ X) (h' : b.natAbs ≤ Y) : (a - b).natAbs ≤ X + Y := by omega
section
variable {D : Int} {X : Nat}
theorem Fra.nz {α : Rat} {M : Int} (hD : Den D X) (hM : α * (D : Rat) = (M : Rat)) (ha : α ≠ 0) : (M : Rat) ≠ 0 ∧ (D : Rat) ≠ 0 := by
  have h1 : (D : Rat) ≠ 0 := fun e => hD.nz (by exact_mod_cast e)
  refine ⟨fun e => ?_, h1⟩
  rw [e] at hM
  exact (Rat.mul_eq_zero.1 hM).elim ha h1
theorem Den.step {α : Rat} {M : Int} (hD : Den D X) (hM : α * (D : Rat) = (M : Rat)) (hX : M.natAbs ≤ X) (ha : α ≠ 0) : Den (D * M) (2 * (X * X)) := by
  obtain ⟨h1, h2⟩ := Fra.nz hD hM ha
  refine ⟨fun e => ?_, by have := natAbs_mul_le hD.le hX; omega⟩
  rcases Int.mul_eq_zero.1 e with e | e
  · exact hD.nz e
  · subst e; exact h1 rfl
theorem Fra.quo {α b : Rat} {M : Int} (hD : Den D X) (hM : α * (D : Rat) = (M : Rat)) (ha : α ≠ 0) (hb : Fra D X b) : Fra (D * M) (2 * (X * X)) (b * (1 / α)) := by
  obtain ⟨N, hN, e⟩ := hb
  obtain ⟨h1, h2⟩ := Fra.nz hD hM ha
  refine ⟨N * D, by have := natAbs_mul_le hN hD.le; omega, ?_⟩
  rw [Rat.intCast_mul, Rat.intCast_mul]
  grind
theorem Fra.one_quo {α : Rat} {M : Int} (hD : Den D X) (hM : α * (D : Rat) = (M : Rat)) (ha : α ≠ 0) : Fra (D * M) (2 * (X * X)) (1 * (1 / α)) := by
  obtain ⟨h1, h2⟩ := Fra.nz hD hM ha
  refine ⟨D * D, by have := natAbs_mul_le hD.le hD.le; omega, ?_⟩
  rw [Rat.intCast_mul, Rat.intCast_mul]
  grind
theorem Fra.sub {α a c b : Rat} {M : Int} (hD : Den D X) (hM : α * (D : Rat) = (M : Rat)) (hX : M.natAbs ≤ X) (ha : α ≠ 0) (h1 : Fra D X a) (h2 : Fra D X c) (h3 : Fra D X b) : Fra (D * M) (2 * (X * X)) (a - c * (b * (1 / α))) := by
  obtain ⟨N1, g1, e1⟩ := h1
  obtain ⟨N2, g2, e2⟩ := h2
  obtain ⟨N3, g3, e3⟩ := h3
  obtain ⟨k1, k2⟩ := Fra.nz hD hM ha
  refine ⟨N1 * M - N2 * N3, by have := natAbs_sub_le (natAbs_mul_le g1 hX) (natAbs_mul_le g2 g3); omega, ?_⟩
  rw [Rat.intCast_mul, Rat.intCast_sub, Rat.intCast_mul, Rat.intCast_mul]
  grind
theorem Fra.sub1 {α c : Rat} {M : Int} (hD : Den D X) (hM : α * (D : Rat) = (M : Rat)) (ha : α ≠ 0) (h2 : Fra D X c) : Fra (D * M) (2 * (X * X)) (0 - c * (1 * (1 / α))) := by
  obtain ⟨N2, g2, e2⟩ := h2
  obtain ⟨k1, k2⟩ := Fra.nz hD hM ha
  refine ⟨-(N2 * D), by have := natAbs_mul_le g2 hD.le; omega, ?_⟩
  rw [Rat.intCast_mul, Rat.intCast_neg, Rat.intCast_mul]
  grind
theorem mem_map_at {cs : List Rat} {s c : Rat} {j : Nat} (h : c ∈ (cs.set j 1).map (· * s)) : c = 1 * s ∨ ∃ b ∈ cs, c = b * s := by
  obtain ⟨b, hb, rfl⟩ := List.mem_map.1 h
  rcases List.mem_or_eq_of_mem_set hb with h | rfl
  · exact .inr ⟨b, h, rfl⟩
  · exact .inl rfl
theorem Bd.scale {x : LRow} {j : Nat} {M : Int} (hD : Den D X) (h : Bd D X x) (ha : x.cs.getD j 0 ≠ 0) (hM : x.cs.getD j 0 * (D : Rat) = (M : Rat)) : Bd (D * M) (2 * (X * X)) (x.scale j) := by
  refine ⟨Fra.quo hD hM ha h.r, fun c hc => ?_⟩
  rcases mem_map_at hc with rfl | ⟨b, hb, rfl⟩
  · exact Fra.one_quo hD hM ha
  · exact Fra.quo hD hM ha (h.cs b hb)
theorem mem_getD_r {cs : List Rat} {c : Rat} (h : c ∈ cs) : ∃ k, k < cs.length ∧ cs.getD k 0 = c := by
  obtain ⟨k, hk⟩ := List.mem_iff_getElem?.1 h
  exact ⟨k, (List.getElem?_eq_some_iff.1 hk).1, getD_of hk⟩
theorem getD_set_r {cs : List Rat} {j k : Nat} {a : Rat} (hk : k < cs.length) : (cs.set j a).getD k 0 = if j = k then a else cs.getD k 0 := by
  rw [List.getD, List.getElem?_set]
  split
  · rename_i h; subst h; rw [if_pos hk]; rfl
  · rfl
theorem Bd.subst {x p : LRow} {j : Nat} {M : Int} (hD : Den D X) (hx : Bd D X x) (hp : Bd D X p) (hl : p.cs.length = x.cs.length) (ha : p.cs.getD j 0 ≠ 0) (hM : p.cs.getD j 0 * (D : Rat) = (M : Rat)) (hX : M.natAbs ≤ X) : Bd (D * M) (2 * (X * X)) (x.subst j (p.scale j)) := by
  refine ⟨Fra.sub hD hM hX ha hx.r (hx.at j) hp.r, fun c hc => ?_⟩
  obtain ⟨k, hk, rfl⟩ := mem_getD_r hc
  rw [LRow.subst_len] at hk
  unfold LRow.subst
  rw [subCs_at _ _ _ _ (by simp [LRow.scale, hl]), getD_set_r hk]
  have hs : (p.scale j).cs.getD k 0 = (if j = k then 1 else p.cs.getD k 0) * (1 / p.cs.getD j 0) := by
    unfold LRow.scale
    simp only [List.getD, List.getElem?_map]
    have hk2 : k < p.cs.length := by omega
    have := getD_set_r (cs := p.cs) (j := j) (a := 1) hk2
    rw [List.getD] at this
    have h3 : ((p.cs.set j 1)[k]?) = some ((p.cs.set j 1)[k]?.getD 0) := by
      rw [List.getElem?_eq_getElem (by simpa using hk2)]; rfl
    rw [h3, Option.map_some, Option.getD_some, this]
    rfl
  rw [hs]
  split
  · exact Fra.sub1 hD hM ha (hx.at j)
  · exact Fra.sub hD hM hX ha (hx.at k) (hx.at j) (hp.at k)
end
structure LObj where
  T : LTab
  os : List LRow
structure LObj.Ok (s : LObj) : Prop where
  ok : s.T.Ok
  len : ∀ g ∈ s.os, g.cs.length = s.T.free.length
structure Alike (s t : LObj) : Prop where
  sat : ∀ v, s.T.Sat v ↔ t.T.Sat v
  n : s.os.length = t.os.length
  val : ∀ (k : Nat) (g g' : LRow) (v : Int → Rat), s.os[k]? = some g → t.os[k]? = some g' → t.T.Sat v → g.ev v s.T.free = g'.ev v t.T.free
  mem : ∀ n, n ∈ s.T.basic ++ s.T.free ↔ n ∈ t.T.basic ++ t.T.free
  nb : s.T.basic.length = t.T.basic.length
  nf : s.T.free.length = t.T.free.length
theorem Alike.refl (s : LObj) : Alike s s := ⟨fun _ => Iff.rfl, rfl, fun k g g' v h1 h2 _ => by rw [h1] at h2; cases h2; rfl, fun _ => Iff.rfl, rfl, rfl⟩
theorem Alike.trans {s t u : LObj} (h : Alike s t) (h' : Alike t u) : Alike s u := by
  refine ⟨fun v => (h.sat v).trans (h'.sat v), h.n.trans h'.n, fun k g g' v h1 h2 hs => ?_, fun n => (h.mem n).trans (h'.mem n), h.nb.trans h'.nb, h.nf.trans h'.nf⟩
  have hk : k < t.os.length := h.n ▸ (List.getElem?_eq_some_iff.1 h1).1
  exact (h.val k g _ v h1 (List.getElem?_eq_getElem hk) ((h'.sat v).2 hs)).trans (h'.val k _ g' v (List.getElem?_eq_getElem hk) h2 hs)
theorem Alike.symm {s t : LObj} (h : Alike s t) : Alike t s :=
  ⟨fun v => (h.sat v).symm, h.n.symm, fun k g g' v h1 h2 hs => (h.val k g' g v h2 h1 ((h.sat v).1 hs)).symm, fun n => (h.mem n).symm, h.nb.symm, h.nf.symm⟩
end Go.Proofs.YtcdbgincfdejkaaGreatDoor
