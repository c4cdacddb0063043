/- Rows: slices whose elements say something (numbers, records, slices again); those that one reads, and those of one's own, which grow and are stored into. -/
import Derived.Maps.AppendAt
import Derived.Test.YtmcfomainmppdaaGreatDoorFTxG
namespace Go.Proofs.YtmcfomainmppdaaGreatDoor
open Go.RowKit
structure EK (α : Type) where
  sz : Nat
  pos : 0 < sz
  R : World → List Value → α → Prop
  len : ∀ {w cs x}, R w cs x → cs.length = sz
  one : ∀ {w cs x}, R w cs x → ∀ u ∈ cs, u.oneCell' = true
  below : ∀ {w w' cs x}, R w cs x → Below w.heap.size w w' → R w' cs x
/-- A kind of elements that one may hold in a row of one's own: what they say outlives a change of a block whose head is of none of the kinds S. -/
class OwnK {α : Type} (K : EK α) where
  S : List Nat
  spare : ∀ {w cs x g}, K.R w cs x → NoHd S g w → Spares g w (fun w => K.R w cs x)
  ni : (∀ (w w' : World) (cs : List Value) (x : α), K.R w cs x → K.R w' cs x) ∨ ∃ n, S.contains n = false ∧ ∀ {w : World} {cs x u}, K.R w cs x → cs[0]? = some u → rkV u = n
abbrev EK.S {α : Type} (K : EK α) [OwnK K] : List Nat := OwnK.S K
abbrev EK.Free {α : Type} (K : EK α) : Prop := ∀ (w w' : World) (cs : List Value) (x : α), K.R w cs x → K.R w' cs x
section
variable {α : Type} {K : EK α} {t : TypeId} {base g : Nat} {w w' : World} {v : Value} {xs ys : List α} {css dss : List (List Value)} {P : Program}
structure Els (K : EK α) (w : World) (css : List (List Value)) (xs : List α) : Prop where
  len : css.length = xs.length
  el : ∀ (k : Nat) cs x, css[k]? = some cs → xs[k]? = some x → K.R w cs x
theorem Els.nil : Els K w [] [] := ⟨rfl, fun k cs x h => by simp at h⟩
theorem Els.below (h : Els K w css xs) (hb : Below w.heap.size w w') : Els K w' css xs := ⟨h.len, fun k cs x h1 h2 => K.below (h.el k cs x h1 h2) hb⟩
theorem Els.mem (h : Els K w css xs) {cs : List Value} (hc : cs ∈ css) : ∃ x ∈ xs, K.R w cs x := by
  obtain ⟨k, hk, rfl⟩ := List.getElem_of_mem hc
  have hk' : k < xs.length := h.len ▸ hk
  exact ⟨xs[k], List.getElem_mem hk', h.el k _ _ (List.getElem?_eq_getElem hk) (List.getElem?_eq_getElem hk')⟩
theorem Els.sizes (h : Els K w css xs) : ∀ cs ∈ css, cs.length = K.sz := fun _ hc => by
  obtain ⟨x, _, hr⟩ := h.mem hc
  exact K.len hr
theorem Els.ones (h : Els K w css xs) : ∀ u ∈ css.flatten, u.oneCell' = true := fun u hu => by
  obtain ⟨cs, hc, hu⟩ := List.mem_flatten.1 hu
  obtain ⟨x, _, hr⟩ := h.mem hc
  exact K.one hr u hu
theorem Els.append (h : Els K w css xs) (h' : Els K w dss ys) : Els K w (css ++ dss) (xs ++ ys) := by
  refine ⟨by rw [List.length_append, List.length_append, h.len, h'.len], fun k cs x h1 h2 => ?_⟩
  have hl := h.len
  by_cases hk : k < css.length
  · rw [List.getElem?_append_left hk] at h1
    rw [List.getElem?_append_left (by omega)] at h2
    exact h.el k cs x h1 h2
  · rw [List.getElem?_append_right (by omega)] at h1
    rw [List.getElem?_append_right (by omega)] at h2
    rw [hl] at h1
    exact h'.el _ cs x h1 h2
theorem Els.one {cs : List Value} {x : α} (h : K.R w cs x) : Els K w [cs] [x] := ⟨rfl, fun k cs' x' h1 h2 => by
  cases k with
  | zero => simp at h1 h2; subst h1; subst h2; exact h
  | succ k => simp at h1⟩
theorem Els.set (h : Els K w css xs) {cs : List Value} {x : α} (hr : K.R w cs x) (k : Nat) : Els K w (css.set k cs) (xs.set k x) := by
  refine ⟨by simp [h.len], fun j cs' x' h1 h2 => ?_⟩
  by_cases e : k = j
  · subst e
    rw [List.getElem?_set_self'] at h1 h2
    cases e1 : css[k]? with
    | none => rw [e1] at h1; cases h1
    | some a =>
      cases e2 : xs[k]? with
      | none => rw [e2] at h2; cases h2
      | some b =>
        rw [e1] at h1
        rw [e2] at h2
        simp at h1 h2
        subst h1; subst h2; exact hr
  · rw [List.getElem?_set_ne e] at h1 h2
    exact h.el j cs' x' h1 h2
theorem Els.take (h : Els K w css xs) (n : Nat) : Els K w (css.take n) (xs.take n) := by
  refine ⟨by rw [List.length_take, List.length_take, h.len], fun k cs x h1 h2 => ?_⟩
  rw [List.getElem?_take] at h1 h2
  split at h1
  · rename_i hk; rw [if_pos hk] at h2; exact h.el k cs x h1 h2
  · cases h1
theorem Els.drop (h : Els K w css xs) (n : Nat) : Els K w (css.drop n) (xs.drop n) := by
  refine ⟨by rw [List.length_drop, List.length_drop, h.len], fun k cs x h1 h2 => ?_⟩
  rw [List.getElem?_drop] at h1 h2
  exact h.el _ cs x h1 h2
theorem Els.free (hK : K.Free) (h : Els K w css xs) : Els K w' css xs := ⟨h.len, fun k cs x h1 h2 => hK _ _ _ _ (h.el k cs x h1 h2)⟩
theorem flat_len {sz : Nat} : ∀ (css : List (List Value)), (∀ cs ∈ css, cs.length = sz) → css.flatten.length = css.length * sz
  | [], _ => by simp
  | c :: css, h => by
    rw [List.flatten_cons, List.length_append, flat_len css (fun x hx => h x (List.mem_cons_of_mem _ hx)), h c (List.mem_cons_self ..), List.length_cons, Nat.succ_mul, Nat.add_comm]
theorem flat_at {sz : Nat} : ∀ (css : List (List Value)), (∀ cs ∈ css, cs.length = sz) → ∀ (k j : Nat) (cs : List Value), css[k]? = some cs → j < sz → css.flatten[k * sz + j]? = cs[j]?
  | [], _, k, j, cs, h, _ => by simp at h
  | c :: css, h, k, j, cs, hk, hj => by
    have hc := h c (List.mem_cons_self ..)
    rw [List.flatten_cons]
    cases k with
    | zero =>
      simp at hk
      subst hk
      rw [Nat.zero_mul, Nat.zero_add, List.getElem?_append_left (by omega)]
    | succ k =>
      rw [List.getElem?_append_right (by rw [Nat.succ_mul]; omega), hc, show (k + 1) * sz + j - sz = k * sz + j by rw [Nat.succ_mul]; omega]
      exact flat_at css (fun x hx => h x (List.mem_cons_of_mem _ hx)) k j cs (by simpa using hk) hj
theorem flat_set {sz : Nat} : ∀ (css : List (List Value)), (∀ cs ∈ css, cs.length = sz) → ∀ (k : Nat) (cs : List Value), cs.length = sz → k < css.length → (css.set k cs).flatten = setL css.flatten (k * sz) cs := by
  have key : ∀ (l m cs : List Value) (o : Nat), o = l.length → ∀ r, cs.length = r.length → setL (l ++ (r ++ m)) o cs = l ++ (cs ++ m) := by
    intro l m cs
    induction cs generalizing l with
    | nil => intro o _ r hr; obtain rfl : r = [] := List.eq_nil_of_length_eq_zero (by simpa using hr.symm); rfl
    | cons c cs ih =>
      intro o ho r hr
      cases r with
      | nil => simp at hr
      | cons a r =>
        subst ho
        unfold setL
        have e : (l ++ (a :: r ++ m)).set l.length c = (l ++ [c]) ++ (r ++ m) := by simp
        rw [e, ih (l ++ [c]) (l.length + 1) (by simp) r (by simpa using hr)]
        simp
  intro css h k cs hcs hk
  have h1 : css = css.take k ++ (css[k] :: css.drop (k + 1)) := by rw [← List.drop_eq_getElem_cons hk, List.take_append_drop]
  have h2 : css.set k cs = css.take k ++ (cs :: css.drop (k + 1)) := List.set_eq_take_append_cons_drop.trans (if_pos hk)
  have h3 : css.flatten = (css.take k).flatten ++ (css[k] ++ (css.drop (k + 1)).flatten) := by
    have := congrArg List.flatten h1
    rw [List.flatten_append, List.flatten_cons] at this
    exact this
  rw [h2, h3, List.flatten_append, List.flatten_cons]
  refine (key _ _ _ _ ?_ _ ?_).symm
  · rw [flat_len (sz := sz) _ (fun x hx => h x (List.mem_of_mem_take hx)), List.length_take, Nat.min_eq_left (by omega)]
  · rw [hcs, h _ (List.getElem_mem hk)]
def SlV (K : EK α) (w : World) (v : Value) (xs : List α) : Prop := ∃ css, Els K w css xs ∧ ((xs = [] ∧ ∃ p c, v = .slice p 0 c) ∨ ∃ g o c, v = .slice (some ⟨g, o, none⟩) xs.length c ∧ g < w.heap.size ∧ xs.length ≤ c ∧ c ≤ 9223372036854775807 ∧ ∀ k cs j u, css[k]? = some cs → cs[j]? = some u → w.cell? ⟨g, o + k * K.sz + j, none⟩ = some u)
theorem SlV.below (h : SlV K w v xs) (hb : Below w.heap.size w w') : SlV K w' v xs := by
  obtain ⟨css, h1, h2⟩ := h
  refine ⟨css, h1.below hb, h2.imp id fun ⟨g, o, c, e, hl, hc1, hc2, ha⟩ => ⟨g, o, c, e, Nat.lt_of_lt_of_le hl hb.size, hc1, hc2, fun k cs j u c1 c2 => (hb.cell (p := ⟨g, _, none⟩) hl).trans (ha k cs j u c1 c2)⟩⟩
theorem SlV.nil {p : Option Addr} {c : Nat} : SlV K w (.slice p 0 c) [] := ⟨[], .nil, .inl ⟨rfl, p, c, rfl⟩⟩
theorem SlV.sh (h : SlV K w v xs) : ∃ p c, v = .slice p xs.length c ∧ (xs ≠ [] → ∃ g o, p = some ⟨g, o, none⟩ ∧ g < w.heap.size ∧ xs.length ≤ c ∧ c ≤ 9223372036854775807) := by
  obtain ⟨css, h1, ⟨rfl, p, c, rfl⟩ | ⟨g, o, c, rfl, hl, hc1, hc2, ha⟩⟩ := h
  · exact ⟨p, c, rfl, fun h => absurd rfl h⟩
  · exact ⟨_, c, rfl, fun _ => ⟨g, o, rfl, hl, hc1, hc2⟩⟩
def CelAt (g o : Nat) (cs : List Value) (w : World) : Prop := g < w.heap.size ∧ ∀ j u, cs[j]? = some u → w.cell? ⟨g, o + j, none⟩ = some u
theorem CelAt.below {g o : Nat} {cs : List Value} (h : CelAt g o cs w) (hb : Below w.heap.size w w') : CelAt g o cs w' := ⟨Nat.lt_of_lt_of_le h.1 hb.size, fun j u hu => (hb.cell (p := ⟨g, _, none⟩) h.1).trans (h.2 j u hu)⟩
theorem CelAt.spare {g o R : Nat} {cs : List Value} (h : CelAt g o cs w) (hne : g ≠ R) : Spares R w (CelAt g o cs) := fun w1 hs hf w2 hb => by
  refine ⟨Nat.lt_of_lt_of_le h.1 (Nat.le_trans hs hb.size), fun j u hu => ?_⟩
  rw [(hb.cell (p := ⟨g, _, none⟩) (Nat.lt_of_lt_of_le h.1 hs)), ← h.2 j u hu]
  exact World.cell?_of_block (hf g hne h.1)
theorem SlV.at {g o n c k : Nat} {x : α} (h : SlV K w (.slice (some ⟨g, o, none⟩) n c) xs) (hx : xs[k]? = some x) : ∃ cs, CelAt g (o + k * K.sz) cs w ∧ K.R w cs x := by
  obtain ⟨css, h1, ⟨rfl, p, c, e⟩ | ⟨g', o', c', e, hl, hc1, hc2, ha⟩⟩ := h
  · simp at hx
  · injection e with e1 e2 e3
    injection e1 with e1
    injection e1 with e1 e4 e5
    subst e1; subst e4
    have hk := (List.getElem?_eq_some_iff.1 hx).1
    have hk' : k < css.length := h1.len ▸ hk
    have hc : css[k]? = some css[k] := List.getElem?_eq_getElem hk'
    exact ⟨css[k], ⟨hl, fun j u hu => ha k _ j u hc hu⟩, h1.el k _ x hc hx⟩
theorem SlV.ptr {p : Option Addr} {n c k : Nat} {x : α} (h : SlV K w (.slice p n c) xs) (hx : xs[k]? = some x) : ∃ g o, p = some ⟨g, o, none⟩ ∧ g < w.heap.size := by
  obtain ⟨css, h1, ⟨rfl, p', c', e⟩ | ⟨g, o, c', e, hl, _⟩⟩ := h
  · simp at hx
  · injection e with e1 e2 e3
    exact ⟨g, o, e1, hl⟩
theorem KS.at {V : World} {l : List (World → Prop)} {g o n c k : Nat} {x : α} (hK : KS V l w) (h : SlV K w (.slice (some ⟨g, o, none⟩) n c) xs) (hx : xs[k]? = some x) : ∃ cs, KS V (CelAt g (o + k * K.sz) cs :: (fun w => K.R w cs x) :: l) w := by
  obtain ⟨cs, h1, h2⟩ := h.at hx
  exact ⟨cs, (hK.add (F := fun w => K.R w cs x) fun w' hb => K.below h2 hb).add fun w' hb => h1.below hb⟩
theorem SlV.one {R c : Nat} {cs : List Value} {x : α} {ty : TypeId} (h : Has base R (.cells cs.toArray ty) w) (hr : K.R w cs x) (hc : 1 ≤ c) (hc2 : c ≤ 9223372036854775807) : SlV K w (.slice (some ⟨R, 0, none⟩) 1 c) [x] := by
  refine ⟨[cs], .one hr, .inr ⟨R, 0, c, rfl, h.ltS, hc, hc2, fun k cs' j u c1 c2 => ?_⟩⟩
  cases k with
  | zero =>
    simp at c1
    subst c1
    rw [show 0 + 0 * K.sz + j = j by omega]
    exact h.at j c2
  | succ k => simp at c1
theorem SlV.take {p : Option Addr} {n c m : Nat} (h : SlV K w (.slice p n c) xs) (hm : m ≤ xs.length) : SlV K w (.slice p m c) (xs.take m) := by
  obtain ⟨css, h1, ⟨rfl, p', c', e⟩ | ⟨g, o, c', e, hl, hc1, hc2, ha⟩⟩ := h
  · obtain rfl : m = 0 := by simpa using hm
    exact .nil
  · injection e with e1 e2 e3
    subst e1; subst e3
    refine ⟨css.take m, h1.take m, .inr ⟨g, o, c, ?_, hl, by rw [List.length_take]; omega, hc2, fun k cs j u c1 c2 => ?_⟩⟩
    · rw [List.length_take, Nat.min_eq_left hm]
    · rw [List.getElem?_take] at c1
      split at c1
      · exact ha k cs j u c1 c2
      · cases c1
theorem SlV.drop {g o n c m : Nat} (h : SlV K w (.slice (some ⟨g, o, none⟩) n c) xs) (hm : m ≤ xs.length) : SlV K w (.slice (some ⟨g, o + m * K.sz, none⟩) (xs.length - m) (c - m)) (xs.drop m) := by
  obtain ⟨css, h1, ⟨rfl, p', c', e⟩ | ⟨g', o', c', e, hl, hc1, hc2, ha⟩⟩ := h
  · refine ⟨[], ?_, .inl ⟨by simp, _, _, by simp; exact ⟨rfl, rfl⟩⟩⟩
    simpa using Els.nil
  · injection e with e1 e2 e3
    injection e1 with e1
    injection e1 with e1 e4 e5
    subst e1; subst e4; subst e3
    refine ⟨css.drop m, h1.drop m, .inr ⟨g, _, _, by rw [List.length_drop], hl, by rw [List.length_drop]; omega, by omega, fun k cs j u c1 c2 => ?_⟩⟩
    rw [List.getElem?_drop] at c1
    have := ha _ cs j u c1 c2
    rw [show o + m * K.sz + k * K.sz + j = o + (m + k) * K.sz + j by rw [Nat.add_mul]; omega]
    exact this
theorem Els.spare [OwnK K] (h : Els K w css xs) (hg : NoHd K.S g w) : Spares g w (fun w => Els K w css xs) := fun w1 hs hf w2 hb => ⟨h.len, fun k cs x h1 h2 => OwnK.spare (h.el k cs x h1 h2) hg w1 hs hf w2 hb⟩
def OwV (K : EK α) (t : TypeId) (base : Nat) (w : World) (v : Value) (xs : List α) : Prop := ∃ css, Els K w css xs ∧ w.ownsRow base t K.sz v xs.length css.flatten
theorem OwV.nil : OwV K t base w (.slice none 0 0) [] := ⟨[], .nil, by simp, .inl ⟨rfl, rfl⟩⟩
theorem OwV.empty {R : Nat} (h : Has base R (.cells #[] t) w) : OwV K t base w (.slice (some ⟨R, 0, none⟩) 0 0) [] := ⟨[], .nil, by simp, .inr ⟨R, 0, #[], rfl, h.1, h.2, by simp, by simp [maxLen], by simp, by simp⟩⟩
theorem OwV.sh (h : OwV K t base w v xs) : ∃ p c, v = .slice p xs.length c ∧ ((xs = [] ∧ p = none ∧ c = 0) ∨ ∃ g, p = some ⟨g, 0, none⟩ ∧ base ≤ g ∧ g < w.heap.size ∧ xs.length ≤ c ∧ c ≤ 9223372036854775807 ∧ ∀ o, w.frozen? ⟨g, o, none⟩ = false) := by
  obtain ⟨css, h1, hl, ⟨rfl, h0⟩ | ⟨g, cap, cur, rfl, hb, hg, hc1, hc2, hs, ht⟩⟩ := h
  · exact ⟨none, 0, by rw [h0], .inl ⟨List.eq_nil_of_length_eq_zero h0, rfl, rfl⟩⟩
  · exact ⟨_, cap, rfl, .inr ⟨g, rfl, hb, (Array.getElem?_eq_some_iff.1 hg).1, hc1, by simpa [maxLen] using hc2, fun o => by simp [World.frozen?, hg]⟩⟩
theorem OwV.below (h : OwV K t base w v xs) (hb : Below w.heap.size w w') : OwV K t base w' v xs := by
  obtain ⟨css, h1, hl, h2⟩ := h
  refine ⟨css, h1.below hb, hl, h2.imp id fun ⟨g, cap, cur, e, h3, hg, h4⟩ => ⟨g, cap, cur, e, h3, ?_, h4⟩⟩
  exact (hb.block g (Array.getElem?_eq_some_iff.1 hg).1).trans hg
theorem OwV.off {g o n c : Nat} {p : Option Addr} (h : OwV K t base w (.slice p n c) xs) (hp : p = some ⟨g, o, none⟩) : o = 0 := by
  subst hp
  obtain ⟨css, h1, hl, ⟨e, h0⟩ | ⟨g, cap, cur, e, _⟩⟩ := h
  · cases e
  · injection e with e1
    injection e1 with e1
    injection e1
theorem OwV.lt (h : OwV K t base w v xs) {g : Nat} (hg : v.ownBlock = some g) : base ≤ g ∧ g < w.heap.size := by
  obtain ⟨css, _, h2⟩ := h
  exact h2.lt g hg
theorem OwV.slv (h : OwV K t base w v xs) : SlV K w v xs := by
  obtain ⟨css, h1, h2⟩ := h
  refine ⟨css, h1, ?_⟩
  rcases h2.2 with ⟨rfl, h0⟩ | ⟨g, cap, cur, rfl, hb, hg, hc1, hc2, hs, ht⟩
  · exact .inl ⟨List.eq_nil_of_length_eq_zero h0, none, 0, rfl⟩
  · refine .inr ⟨g, 0, cap, rfl, (Array.getElem?_eq_some_iff.1 hg).1, hc1, by simpa [maxLen] using hc2, fun k cs j u c1 c2 => ?_⟩
    have hm : cs ∈ css := List.mem_of_getElem? c1
    have hj : j < K.sz := (h1.sizes cs hm) ▸ (List.getElem?_eq_some_iff.1 c2).1
    have h3 := h2.cells (g := g) rfl (k * K.sz + j) u ((flat_at css h1.sizes k j cs c1 hj).trans c2)
    have ha : (⟨g, 0, none⟩ : Addr).add (k * K.sz + j) = ⟨g, k * K.sz + j, none⟩ := by unfold Addr.add; split <;> simp_all
    rw [ha] at h3
    rw [show 0 + k * K.sz + j = k * K.sz + j by omega]
    exact h3
theorem OwV.hdIs (h : OwV K t base w v xs) (hne : xs ≠ []) {g n : Nat} (hg : v.ownBlock = some g) (hK : ∀ {w : World} {cs : List Value} {x : α} {u : Value}, K.R w cs x → cs[0]? = some u → rkV u = n) : HdIs g n w := fun u0 e => by
  obtain ⟨css, h1, h2⟩ := h
  have hlen := h1.len
  have hpos : 0 < xs.length := List.length_pos_iff.2 hne
  have hc : css[0]? = some css[0] := List.getElem?_eq_getElem (by omega)
  have hr := h1.el 0 _ _ hc (List.getElem?_eq_getElem hpos)
  have hz := K.len hr
  have hp := K.pos
  obtain ⟨u, hu⟩ : ∃ u, css[0][0]? = some u := ⟨css[0][0]'(by omega), List.getElem?_eq_getElem (by omega)⟩
  have h3 := h2.cells (g := g) hg (0 * K.sz + 0) u ((flat_at css h1.sizes 0 0 _ hc hp).trans hu)
  rw [show 0 * K.sz + 0 = 0 by omega] at h3
  have ha : (⟨g, 0, none⟩ : Addr).add 0 = ⟨g, 0, none⟩ := by unfold Addr.add; split <;> simp_all
  rw [ha, e] at h3
  rw [Option.some.inj h3]
  exact hK hr hu
theorem OwV.noInt [OwnK K] (h : OwV K t base w v xs) (hne : xs ≠ []) {g : Nat} (hg : v.ownBlock = some g) : K.Free ∨ NoHd K.S g w := by
  rcases OwnK.ni (K := K) with h0 | ⟨n, hS, h0⟩
  · exact .inl h0
  · exact .inr ((h.hdIs hne hg h0).no hS)
theorem OwV.spare [OwnK K] (h : OwV K t base w v xs) (hne : v.ownBlock ≠ some g) (hg : K.Free ∨ NoHd K.S g w) : Spares g w (fun w => OwV K t base w v xs) := fun w1 hs hf w2 hb => by
  obtain ⟨css, h1, hl, h2⟩ := h
  have h1' : Els K w2 css xs := by
    rcases hg with hg | hg
    · exact h1.free hg
    · exact h1.spare hg w1 hs hf w2 hb
  refine ⟨css, h1', hl, h2.imp id fun ⟨k, cap, cur, e, h3, hk, h4⟩ => ⟨k, cap, cur, e, h3, ?_, h4⟩⟩
  have hlt := (Array.getElem?_eq_some_iff.1 hk).1
  rw [hb.block k (Nat.lt_of_lt_of_le hlt hs), hf k (fun e' => hne (by rw [e, e']; rfl)) hlt]
  exact hk
theorem run_app [OwnK K] {i : TypeInfo} {z : Value} {tt uu ty u' : TypeId} (ht : P.underlying tt = some (.slice t)) (hu : P.underlying uu = some (.slice u')) (hi : P.info? t = some i) (hz : i.zero = some z) (hsize : i.size = K.sz) (hzs : z.cells.size = K.sz)
    (hown : OwV K t base w v xs) (hok : ∀ g, v.ownBlock = some g → K.Free ∨ NoHd K.S g w) {p : Option Addr} {m c : Nat} (hx : SlV K w (.slice p m c) ys) (h63 : xs.length + ys.length ≤ maxLen) (hbytes : (xs.length + ys.length) * i.bytes ≤ 140737488355328) (hbase : base ≤ w.heap.size) :
    ∃ v' w', (Builtin.append_ #[tt, uu] ty #[v, .slice p m c]).run P w = .ok v' w' ∧ OwV K t base w' v' (xs ++ ys) ∧ w.grownBy w' v.ownBlock ∧ (v'.ownBlock = v.ownBlock ∨ v'.ownBlock = some w.heap.size) := by
  obtain ⟨css, h1, h2⟩ := hown
  obtain ⟨pv, cv, rfl⟩ : ∃ pv cv, v = .slice pv xs.length cv := by
    rcases h2.2 with ⟨e, h0⟩ | ⟨g, cap, cur, e, _⟩
    · exact ⟨_, _, by rw [e, h0]⟩
    · exact ⟨_, _, e⟩
  have e0 : (Builtin.append_ #[tt, uu] ty #[.slice pv xs.length cv, .slice p m c]).run P w = (Builtin.append_ #[tt, tt] ty #[.slice pv xs.length cv, .slice p m c]).run P w := by
    simp [Builtin.append_, run_underlying ht, run_underlying hu]
  have stay : ∀ w', w.grownBy w' (Value.slice pv xs.length cv).ownBlock → ∀ (dss : List (List Value)) zs, Els K w dss zs → Els K w' dss zs := fun w' hg dss zs hd => by
    cases e : (Value.slice pv xs.length cv).ownBlock with
    | none => exact hd.below ⟨hg.os, hg.tape, hg.output, hg.size, fun k hk => hg.block k hk (by rw [e]; simp)⟩
    | some g =>
      rcases hok g e with hf | hn
      · exact hd.free hf
      · exact hd.spare hn w' hg.size (fun k hk hlt => hg.block k hlt (by rw [e]; simpa using hk)) w' (Below.refl _ _)
  obtain ⟨dss, h3, ⟨rfl, p', c', e⟩ | ⟨g, o, c', e, hl, hc1, hc2, ha⟩⟩ := hx
  · injection e with e1 e2 e3
    subst e2
    rw [e0]
    cases p with
    | none =>
      refine ⟨.slice pv xs.length cv, w, ?_, by rw [List.append_nil]; exact ⟨css, h1, h2⟩, ⟨rfl, rfl, rfl, Nat.le_refl _, fun _ _ _ => rfl⟩, .inl rfl⟩
      have hle : xs.length ≤ cv := by
        rcases h2.2 with ⟨e3, h4⟩ | ⟨g, cap, cur, e3, _, _, h4, _⟩
        · omega
        · injection e3 with _ _ e4; omega
      cases pv <;> simp [Builtin.append_, run_underlying ht, sizeOf, typeInfo, hi, Builtin.lenOf, Builtin.firstCells, hle, loadCells, storeCells]
    | some ad =>
      obtain ⟨v', w', hr, h5, h6, _, h7⟩ := run_append_own_at (P := P) w base tt ty t i z K.sz i.bytes ht hi hz hsize rfl hzs K.pos _ xs.length css.flatten h2 ad 0 c [] (by simp) (by simp) (by simp) (by simpa using h63) (by simpa using hbytes) hbase
      refine ⟨v', w', hr, ?_, h6, h7⟩
      rw [List.append_nil]
      exact ⟨css, stay w' h6 _ _ h1, by simpa using h5⟩
  · injection e with e1 e2 e3
    subst e1; subst e2
    rw [e0]
    have hfl := flat_len dss h3.sizes
    rw [h3.len] at hfl
    obtain ⟨v', w', hr, h5, h6, _, h7⟩ := run_append_own_at (P := P) w base tt ty t i z K.sz i.bytes ht hi hz hsize rfl hzs K.pos _ xs.length css.flatten h2 ⟨g, o, none⟩ ys.length c dss.flatten hfl (fun j u hu => by
      have hjl : j < ys.length * K.sz := hfl ▸ (List.getElem?_eq_some_iff.1 hu).1
      have hp := K.pos
      have hq : j / K.sz < ys.length := Nat.div_lt_of_lt_mul (by rwa [Nat.mul_comm] at hjl)
      have hq' : j / K.sz < dss.length := by rw [h3.len]; exact hq
      have hc : dss[j / K.sz]? = some dss[j / K.sz] := List.getElem?_eq_getElem hq'
      have hm : j % K.sz < K.sz := Nat.mod_lt _ hp
      have hjj : j / K.sz * K.sz + j % K.sz = j := by rw [Nat.mul_comm]; exact Nat.div_add_mod j K.sz
      have h8 := flat_at dss h3.sizes (j / K.sz) (j % K.sz) _ hc hm
      rw [hjj, hu] at h8
      have h9 := ha _ _ _ u hc h8.symm
      have hadd : (⟨g, o, none⟩ : Addr).add j = ⟨g, o + j, none⟩ := by unfold Addr.add; split <;> simp_all
      rw [hadd, ← h9, Nat.add_assoc, hjj]) h3.ones h63 hbytes hbase
    refine ⟨v', w', hr, ⟨css ++ dss, (stay w' h6 _ _ h1).append (stay w' h6 _ _ h3), ?_⟩, h6, h7⟩
    rw [List.flatten_append, List.length_append]
    exact h5
theorem OwV.put [OwnK K] {g c k : Nat} {n : Nat} {cs : List Value} {x : α} (h : OwV K t base w (.slice (some ⟨g, 0, none⟩) n c) xs) (hx : K.R w cs x) (hk : k < xs.length) : ∀ w', Below (putAt g (k * K.sz) cs w).heap.size (putAt g (k * K.sz) cs w) w' → OwV K t base w' (.slice (some ⟨g, 0, none⟩) n c) (xs.set k x) := by
  intro w' hb
  have hok := h.noInt (List.ne_nil_of_length_pos (by omega)) (g := g) rfl
  obtain ⟨css, h1, h2⟩ := h
  have hs := h1.set hx k
  have hs' : Els K w' (css.set k cs) (xs.set k x) := by
    rcases hok with hf | hn
    · exact hs.free hf
    · exact Spares.put (hs.spare hn) (k * K.sz) cs w' hb
  have hkc : k < css.length := by rw [h1.len]; exact hk
  refine ⟨_, hs', ?_⟩
  rcases h2.2 with ⟨e, h0⟩ | ⟨g', cap, cur, e, hb', hg, hc1, hc2, hsz, ht⟩
  · cases e
  · injection e with e1 e2 e3
    injection e1 with e1
    injection e1 with e1 _ _
    subst e1; subst e2; subst e3
    have hg2 : w.heap[g]? = some (.cells cur.toList.toArray t) := by simpa using hg
    have hput := put_at cs (k * K.sz) cur.toList w hg2
    have hcsl : cs.length = K.sz := K.len hx
    have hlen := h1.len
    have hlt : g < (putAt g (k * K.sz) cs w).heap.size := Nat.lt_of_lt_of_le (Array.getElem?_eq_some_iff.1 hg).1 (put_size g cs _ w)
    have hfl := flat_len css h1.sizes
    have key : ∀ (cs : List Value) (l : List Value) (o m : Nat), o + cs.length ≤ m → (setL l o cs).take m = setL (l.take m) o cs ∧ (setL l o cs).length = l.length := by
      intro cs
      induction cs with
      | nil => intro l o m _; exact ⟨rfl, rfl⟩
      | cons c cs ih =>
        intro l o m hm
        simp at hm
        have := ih (l.set o c) (o + 1) m (by omega)
        unfold setL
        rw [this.1, this.2]
        exact ⟨by rw [List.take_set], by simp⟩
    have hkk := key cs cur.toList (k * K.sz) (xs.length * K.sz) (by rw [hcsl, ← Nat.succ_mul]; exact Nat.mul_le_mul_right _ hk)
    refine ⟨?_, .inr ⟨g, c, (setL cur.toList (k * K.sz) cs).toArray, by simp, hb', ?_, by simpa using hc1, hc2, ?_, ?_⟩⟩
    · rw [flat_len (sz := K.sz) _ hs.sizes, hs.len]
    · rw [hb.block g hlt]; exact hput
    · simp [hkk.2, hsz]
    · rw [flat_set css h1.sizes k cs hcsl hkc]
      simp only [List.length_set]
      rw [hkk.1, ht]
theorem OwV.take {p : Option Addr} {n c m : Nat} (h : OwV K t base w (.slice p n c) xs) (hm : m ≤ xs.length) : OwV K t base w (.slice p m c) (xs.take m) := by
  obtain ⟨css, h1, h2⟩ := h
  have hl := h1.len
  have hfl := flat_len css h1.sizes
  have e1 : (css.take m).flatten = css.flatten.take (m * K.sz) := by
    have e2 : css.flatten = (css.take m).flatten ++ (css.drop m).flatten := by rw [← List.flatten_append, List.take_append_drop]
    have e3 : (css.take m).flatten.length = m * K.sz := by
      rw [flat_len (sz := K.sz) _ (fun x hx => h1.sizes x (List.mem_of_mem_take hx)), List.length_take, Nat.min_eq_left (by omega)]
    rw [e2, ← e3, List.take_left]
  refine ⟨css.take m, h1.take m, ?_, ?_⟩
  · rw [flat_len (sz := K.sz) _ (fun x hx => h1.sizes x (List.mem_of_mem_take hx)), List.length_take, List.length_take, hl]
  · have e4 : (xs.take m).length = m := by rw [List.length_take]; omega
    rw [e4, e1]
    rcases h2.2 with ⟨e, h0⟩ | ⟨g, cap, cur, e, hb, hg, hc1, hc2, hs, ht⟩
    · injection e with e5 e6 e7
      subst e5; subst e7
      obtain rfl : m = 0 := by omega
      exact .inl ⟨rfl, rfl⟩
    · injection e with e5 e6 e7
      subst e5; subst e7
      refine .inr ⟨g, c, cur, rfl, hb, hg, by omega, hc2, hs, ?_⟩
      rw [← ht, List.take_take, Nat.min_eq_left (Nat.mul_le_mul_right _ hm)]
theorem OwV.mono {b : Nat} (h : OwV K t base w v xs) (hb : b ≤ base) : OwV K t b w v xs := by
  obtain ⟨css, h1, hl, h2⟩ := h
  exact ⟨css, h1, hl, h2.imp id fun ⟨g, cap, cur, e, h3, h4⟩ => ⟨g, cap, cur, e, Nat.le_trans hb h3, h4⟩⟩
def ob (p : Option Addr) : Option Nat := (Value.slice p 0 0).ownBlock
theorem ob_eq (p : Option Addr) (n c : Nat) : (Value.slice p n c).ownBlock = ob p := by cases p <;> rfl
theorem OwV.block {p : Option Addr} {n c : Nat} (h : OwV K t base w (.slice p n c) xs) {g : Nat} (hg : ob p = some g) : base ≤ g ∧ g < w.heap.size := h.lt ((ob_eq p n c).trans hg)
theorem OwV.hd {g n c m : Nat} (h : OwV K t base w (.slice (some ⟨g, 0, none⟩) n c) xs) (hne : xs ≠ []) (hK : ∀ {w : World} {cs : List Value} {x : α} {u : Value}, K.R w cs x → cs[0]? = some u → rkV u = m) : HdIs g m w := h.hdIs hne rfl hK
theorem OwV.fz {g n c : Nat} (h : OwV K t base w (.slice (some ⟨g, 0, none⟩) n c) xs) : ∀ o, w.frozen? ⟨g, o, none⟩ = false := by
  obtain ⟨css, h1, hl, ⟨e, h0⟩ | ⟨g', cap, cur, e, hb, hg, _⟩⟩ := h
  · cases e
  · injection e with e1
    injection e1 with e1
    injection e1 with e1
    subst e1
    intro o
    simp [World.frozen?, hg]
theorem OwV.le {p : Option Addr} {n c : Nat} (h : OwV K t base w (.slice p n c) xs) : xs.length ≤ c ∧ c ≤ 9223372036854775807 := by
  obtain ⟨css, h1, hl, ⟨e, h0⟩ | ⟨g', cap, cur, e, hb, hg, hc1, hc2, _⟩⟩ := h
  · injection e with e1 e2 e3
    omega
  · injection e with e1 e2 e3
    subst e3
    exact ⟨hc1, by simpa [maxLen] using hc2⟩
def New (V : World) (fs : List (World → Prop)) (R : Nat) : Prop := ∃ w, KS V fs w ∧ R = w.heap.size
theorem New.box {V : World} {fs : List (World → Prop)} {R R' b : Nat} {obj : Obj} (h : New V fs R) (hm : Has b R' obj ∈ fs) : R' < R := by
  obtain ⟨w, hw, rfl⟩ := h
  exact (hw.get hm).ltS
theorem New.row {V : World} {fs : List (World → Prop)} {R n c : Nat} {p : Option Addr} (h : New V fs R) (hm : (fun w => OwV K t base w (.slice p n c) xs) ∈ fs) : ob p ≠ some R := by
  obtain ⟨w, hw, rfl⟩ := h
  exact fun e => Nat.lt_irrefl _ ((hw.get hm).block e).2
end
section
variable {α : Type} {K : EK α} [OwnK K] {t tt uu u' : TypeId} {v : Value} {xs ys : List α} {P : Program} {V w : World} {B : Nat} {ops : Array Oper} {Q : Exit → Act → World → Prop} {Q2 : Act → World → Prop} {ks : List Nat} {o : Oper} {rest : List Oper} {fs f0 : List (World → Prop)} {a : Act} {q p : Option Addr} {n d m c bytes base : Nat} {z : Value}
structure AppOk (K : EK α) [OwnK K] (t : TypeId) (base : Nat) (q : Option Addr) (n d : Nat) (xs : List α) (x : Value) (ys : List α) (w : World) : Prop where
  own : OwV K t base w (.slice q n d) xs
  ok : ∀ g, ob q = some g → K.Free ∨ NoHd K.S g w
  src : SlV K w x ys
theorem app_does {s x : Operand} (ho : o.op = .call { callee := .builtin .append, args := #[s, x], argTypes := #[tt, uu] }) (ht : P.underlying tt = some (.slice t)) (hu : P.underlying uu = some (.slice u')) (hinf : (P.info? t).map (fun i => (i.zero, i.size, i.bytes)) = some (some z, K.sz, bytes)) (hzs : z.cells.size = K.sz)
    (hs : a.eval s = .slice q n d) (hx : a.eval x = .slice p m c) (h63 : xs.length + ys.length ≤ maxLen) (hbytes : (xs.length + ys.length) * bytes ≤ 140737488355328) (hbase : base ≤ w.heap.size) (hA : AppOk K t base q n d xs (.slice p m c) ys w) :
    Does P (fun u w' => OwV K t base w' u (xs ++ ys) ∧ w.grownBy w' (ob q) ∧ (u.ownBlock = ob q ∨ u.ownBlock = some w.heap.size)) ((execOp a.eval o).run P w) := by
  obtain ⟨i0, hi, hz0, hz1, hz2⟩ := info_parts hinf
  subst hz2
  obtain ⟨v', w', hr, h2, h3, h4⟩ := run_app (P := P) (ty := o.type) ht hu hi hz0 hz1 hzs hA.own (fun g hg => hA.ok g ((ob_eq q n d).symm.trans hg)) hA.src h63 hbytes hbase
  rw [ob_eq] at h3 h4
  unfold execOp
  simp only [ho, resolve, invoke, builtin, Sem.run_bind, Sem.run_pure, Result.andThen_ok, List.map_toArray, List.map_cons, List.map_nil, hs, hx, hr]
  exact ⟨h2, h3, h4⟩
end
end Go.Proofs.YtmcfomainmppdaaGreatDoor
