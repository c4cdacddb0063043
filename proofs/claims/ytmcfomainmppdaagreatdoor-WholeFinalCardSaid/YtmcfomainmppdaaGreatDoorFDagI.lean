/- An indexed binary heap: its items by key and number; setting a key, taking the first item. No program in sight. The indexed heap as a queue: setting a key, taking the first item. No program in sight. -/
import Derived.Test.YtmcfomainmppdaaGreatDoorFDagL
namespace Go.Proofs.YtmcfomainmppdaaGreatDoor
def lt2 (K : Nat → Int) (i j : Nat) : Prop := K i < K j ∨ (K i = K j ∧ i < j)
instance (K : Nat → Int) (i j : Nat) : Decidable (lt2 K i j) := by unfold lt2; infer_instance
def atO (o : List Nat) (p : Nat) : Nat := o.getD p 0
def swO (o : List Nat) (p q : Nat) : List Nat := (o.set p (atO o q)).set q (atO o p)
section
variable {K K' : Nat → Int} {i j k : Nat} {o : List Nat} {p q m c : Nat}
theorem lt2.asymm (h : lt2 K i j) : ¬ lt2 K j i := by unfold lt2 at *; omega
theorem nlt2.trans (h : ¬ lt2 K j i) (h' : ¬ lt2 K k j) : ¬ lt2 K k i := by unfold lt2 at *; omega
theorem lt2.congr (hi : K' i = K i) (hj : K' j = K j) : lt2 K' i j ↔ lt2 K i j := by unfold lt2; rw [hi, hj]
theorem swO_len : (swO o p q).length = o.length := by simp [swO]
theorem swO_at (hp : p < o.length) (hq : q < o.length) (x : Nat) : atO (swO o p q) x = if x = q then atO o p else if x = p then atO o q else atO o x := by
  unfold swO
  show ((o.set p (atO o q)).set q (atO o p)).getD x 0 = _
  rw [List.getD, List.getElem?_set]
  by_cases hxq : q = x
  · subst hxq; simp [hq]
  · rw [if_neg hxq, if_neg (fun e => hxq e.symm), List.getElem?_set]
    by_cases hxp : p = x
    · subst hxp; simp [hp]
    · rw [if_neg hxp, if_neg (fun e => hxp e.symm)]; rfl
def HpO (K : Nat → Int) (o : List Nat) (ex : Nat → Prop) : Prop := ∀ c, 0 < c → c < o.length → ¬ ex c → ¬ lt2 K (atO o c) (atO o ((c - 1) / 2))
def Gp (K : Nat → Int) (o : List Nat) (p : Nat) : Prop := 0 < p → ∀ c, 0 < c → c < o.length → (c - 1) / 2 = p → ¬ lt2 K (atO o c) (atO o ((p - 1) / 2))
structure HP (K : Nat → Int) (o : List Nat) (p : Nat) : Prop where
  h : HpO K o fun c => c = p ∨ (c - 1) / 2 = p
  g : Gp K o p
structure HD (K : Nat → Int) (o : List Nat) (p : Nat) : Prop where
  h : HpO K o fun c => (c - 1) / 2 = p
  g : Gp K o p
theorem HP.up (h : HP K o p) (h0 : 0 < p) (hp : p < o.length) (_hb : lt2 K (atO o p) (atO o ((p - 1) / 2))) : HP K (swO o p ((p - 1) / 2)) ((p - 1) / 2) := by
  obtain ⟨r, hr⟩ : ∃ r, (p - 1) / 2 = r := ⟨_, rfl⟩
  rw [hr] at _hb ⊢
  have hrp : r < p := by omega
  have hrl : r < o.length := by omega
  refine ⟨fun c h1 h2 h3 => ?_, fun hr0 c h1 h2 h3 => ?_⟩
  · rw [swO_len] at h2
    have hcr : c ≠ r := fun e => h3 (.inl e)
    have hpr : (c - 1) / 2 ≠ r := fun e => h3 (.inr e)
    have hcp : c ≠ p := fun e => hpr (e ▸ hr)
    rw [swO_at hp hrl, swO_at hp hrl, if_neg hcr, if_neg hcp, if_neg hpr]
    split
    · rename_i e
      have := h.g h0 c h1 h2 e
      rw [hr] at this; exact this
    · rename_i e
      exact h.h c h1 h2 (fun w => w.elim hcp e)
  · rw [swO_len] at h2
    have hcr : c ≠ r := by omega
    have hgr : (r - 1) / 2 ≠ r := by omega
    have hgp : (r - 1) / 2 ≠ p := by omega
    have ho := h.h r hr0 hrl (fun w => w.elim (by omega) (by omega))
    rw [swO_at hp hrl, swO_at hp hrl, if_neg hcr, if_neg hgr, if_neg hgp]
    split
    · exact ho
    · rename_i e
      refine nlt2.trans ho ?_
      have := h.h c h1 h2 (fun w => w.elim e (by omega))
      rw [h3] at this; exact this
theorem HP.stop (h : HP K o p) (hb : p = 0 ∨ ¬ lt2 K (atO o p) (atO o ((p - 1) / 2))) : HD K o p :=
  ⟨fun c h1 h2 h3 => by
    by_cases hcp : c = p
    · subst hcp; exact hb.elim (fun e => absurd e (by omega)) id
    · exact h.h c h1 h2 (fun w => w.elim hcp h3), h.g⟩
theorem HD.stop (h : HD K o p) (hk : ∀ c, 0 < c → c < o.length → (c - 1) / 2 = p → ¬ lt2 K (atO o c) (atO o p)) : HpO K o fun _ => False := fun c h1 h2 _ => by
  by_cases e : (c - 1) / 2 = p
  · rw [e]; exact hk c h1 h2 e
  · exact h.h c h1 h2 e
theorem HD.down (h : HD K o p) (hm0 : 0 < m) (hm : m < o.length) (hmp : (m - 1) / 2 = p) (hb : lt2 K (atO o m) (atO o p)) (hk : ∀ c, 0 < c → c < o.length → (c - 1) / 2 = p → ¬ lt2 K (atO o c) (atO o m)) : HD K (swO o p m) m := by
  have hpm : p < m := by omega
  have hp : p < o.length := by omega
  refine ⟨fun c h1 h2 h3 => ?_, fun _ c h1 h2 h3 => ?_⟩
  · rw [swO_len] at h2
    rw [swO_at hp hm, swO_at hp hm, if_neg h3]
    by_cases hcm : c = m
    · subst hcm
      rw [if_pos rfl, if_pos hmp]; exact hb.asymm
    · rw [if_neg hcm]
      by_cases hcp : c = p
      · subst hcp
        have hpp : (c - 1) / 2 ≠ c := by omega
        rw [if_pos rfl, if_neg hpp]
        exact h.g h1 m hm0 hm hmp
      · rw [if_neg hcp]
        split
        · rename_i e; exact hk c h1 h2 e
        · rename_i e; exact h.h c h1 h2 e
  · rw [swO_len] at h2
    have hcm : c ≠ m := by omega
    have hcp : c ≠ p := by omega
    have hpm' : p ≠ m := by omega
    rw [hmp, swO_at hp hm, swO_at hp hm, if_neg hcm, if_neg hcp, if_neg hpm', if_pos rfl]
    have := h.h c h1 h2 (by omega)
    rw [h3] at this; exact this
theorem HpO.first (h : HpO K o fun _ => False) : ∀ c, c < o.length → ¬ lt2 K (atO o c) (atO o 0) := by
  intro c
  induction c using Nat.strongRecOn with
  | ind c ih =>
    intro hc
    by_cases h0 : c = 0
    · subst h0; unfold lt2; omega
    · exact nlt2.trans (ih ((c - 1) / 2) (by omega) (by omega)) (h c (by omega) hc id)
structure LeI (K : Nat → Int) (o : List Nat) (p k m : Nat) : Prop where
  is : m = p ∨ (0 < m ∧ m < o.length ∧ (m - 1) / 2 = p ∧ lt2 K (atO o m) (atO o p))
  all : ∀ c, 0 < c → c < o.length → (c - 1) / 2 = p → c < k → ¬ lt2 K (atO o c) (atO o m)
theorem LeI.start : LeI K o p (2 * p + 1) p := ⟨.inl rfl, fun c _ _ h3 h4 => by omega⟩
theorem LeI.yes (h : LeI K o p k m) (h1 : 2 * p + 1 ≤ k) (h2 : k ≤ 2 * p + 2) (hk : k < o.length) (hb : lt2 K (atO o k) (atO o m)) : LeI K o p (k + 1) k :=
  ⟨.inr ⟨by omega, hk, by omega, h.is.elim (fun e => e ▸ hb) fun w => by have := w.2.2.2; unfold lt2 at *; omega⟩, fun c c1 c2 c3 c4 => by
    by_cases e : c = k
    · subst e; unfold lt2; omega
    · exact nlt2.trans hb.asymm (h.all c c1 c2 c3 (by omega))⟩
theorem LeI.no (h : LeI K o p k m) (hb : ¬ lt2 K (atO o k) (atO o m)) : LeI K o p (k + 1) m :=
  ⟨h.is, fun c c1 c2 c3 c4 => by
    by_cases e : c = k
    · subst e; exact hb
    · exact h.all c c1 c2 c3 (by omega)⟩
theorem LeI.full (h : LeI K o p k m) (hk : 2 * p + 3 ≤ k ∨ o.length ≤ k) : ∀ c, 0 < c → c < o.length → (c - 1) / 2 = p → ¬ lt2 K (atO o c) (atO o m) := fun c c1 c2 c3 => h.all c c1 c2 c3 (by omega)
end
def atP (l : List Int) (x : Nat) : Int := l.getD x 0
structure PlI (n : Nat) (o : List Nat) (pl : List Int) : Prop where
  len : pl.length = n
  here : ∀ p, p < o.length → atO o p < n ∧ atP pl (atO o p) = (p : Int) + 1
  held : ∀ x, atP pl x ≠ 0 → ∃ p, p < o.length ∧ atO o p = x
def swP (o : List Nat) (pl : List Int) (p q : Nat) : List Int := (pl.set (atO (swO o p q) p) ((p : Int) + 1)).set (atO (swO o p q) q) ((q : Int) + 1)
section
variable {n : Nat} {o : List Nat} {pl : List Int} {p q x y : Nat} {v : Int} {K K' : Nat → Int}
theorem atP_set (hx : x < pl.length) : atP (pl.set x v) y = if x = y then v else atP pl y := by
  unfold atP List.getD
  rw [List.getElem?_set]
  split
  · rename_i h; subst h; simp []
  · rfl
theorem PlI.inj (h : PlI n o pl) (hp : p < o.length) (hq : q < o.length) (e : atO o p = atO o q) : p = q := by
  have h1 := (h.here p hp).2
  have h2 := (h.here q hq).2
  rw [e, h2] at h1; omega
theorem PlI.swap (h : PlI n o pl) (hp : p < o.length) (hq : q < o.length) : PlI n (swO o p q) (swP o pl p q) := by
  have e1 : atO (swO o p q) p = atO o q := by rw [swO_at hp hq]; split
                                              · rename_i e; rw [e]
                                              · rw [if_pos rfl]
  have e2 : atO (swO o p q) q = atO o p := by rw [swO_at hp hq, if_pos rfl]
  have b1 : atO o q < pl.length := by rw [h.len]; exact (h.here q hq).1
  have b2 : atO o p < (pl.set (atO o q) ((p : Int) + 1)).length := by rw [List.length_set, h.len]; exact (h.here p hp).1
  have key : ∀ x, atP (swP o pl p q) x = if atO o p = x then (q : Int) + 1 else if atO o q = x then (p : Int) + 1 else atP pl x := fun x => by
    unfold swP; rw [e1, e2, atP_set b2, atP_set b1]
  refine ⟨by unfold swP; simp [h.len], fun c hc => ?_, fun x hx => ?_⟩
  · rw [swO_len] at hc
    rw [swO_at hp hq, key]
    by_cases hcq : c = q
    · subst hcq; rw [if_pos rfl, if_pos rfl]; exact ⟨(h.here p hp).1, rfl⟩
    · rw [if_neg hcq]
      by_cases hcp : c = p
      · subst hcp
        rw [if_pos rfl]
        refine ⟨(h.here q hq).1, ?_⟩
        split
        · rename_i e; exact absurd (h.inj hp hq e) hcq
        · rw [if_pos rfl]
      · rw [if_neg hcp]
        refine ⟨(h.here c hc).1, ?_⟩
        rw [if_neg (fun e => hcp (h.inj hp hc e).symm), if_neg (fun e => hcq (h.inj hq hc e).symm)]
        exact (h.here c hc).2
  · rw [key] at hx
    rw [swO_len]
    by_cases h1 : atO o p = x
    · exact ⟨q, hq, by rw [e2]; exact h1⟩
    · rw [if_neg h1] at hx
      by_cases h2 : atO o q = x
      · exact ⟨p, hp, by rw [e1]; exact h2⟩
      · rw [if_neg h2] at hx
        obtain ⟨c, hc, e⟩ := h.held x hx
        refine ⟨c, hc, ?_⟩
        rw [swO_at hp hq, if_neg (fun w : c = q => h2 (by rw [← w]; exact e)), if_neg (fun w : c = p => h1 (by rw [← w]; exact e))]; exact e
theorem PlI.held_iff (h : PlI n o pl) : atP pl x ≠ 0 ↔ ∃ p, p < o.length ∧ atO o p = x :=
  ⟨h.held x, fun ⟨p, hp, e⟩ => by rw [← e, (h.here p hp).2]; omega⟩
theorem PlI.same (h : PlI n o pl) (hp : p < o.length) (hq : q < o.length) : (atP (swP o pl p q) x = 0 ↔ atP pl x = 0) := by
  have a1 := h.held_iff (x := x)
  have a2 := (h.swap hp hq).held_iff (x := x)
  rw [swO_len] at a2
  have a3 : (∃ c, c < o.length ∧ atO (swO o p q) c = x) ↔ ∃ c, c < o.length ∧ atO o c = x := by
    constructor
    · rintro ⟨c, hc, e⟩
      rw [swO_at hp hq] at e
      split at e
      · exact ⟨p, hp, e⟩
      · split at e
        · exact ⟨q, hq, e⟩
        · exact ⟨c, hc, e⟩
    · rintro ⟨c, hc, e⟩
      by_cases h1 : c = p
      · exact ⟨q, hq, by rw [swO_at hp hq, if_pos rfl, ← h1]; exact e⟩
      · by_cases h2 : c = q
        · refine ⟨p, hp, ?_⟩
          rw [swO_at hp hq]; split
          · rename_i w; rw [w, ← h2]; exact e
          · rw [if_pos rfl, ← h2]; exact e
        · exact ⟨c, hc, by rw [swO_at hp hq, if_neg h2, if_neg h1]; exact e⟩
  have : atP (swP o pl p q) x ≠ 0 ↔ atP pl x ≠ 0 := a2.trans (a3.trans a1.symm)
  exact ⟨fun w => Decidable.byContradiction fun n => (this.2 n) w, fun w => Decidable.byContradiction fun n => (this.1 n) w⟩
theorem atO_snoc : atO (o ++ [x]) p = if p < o.length then atO o p else if p = o.length then x else 0 := by
  unfold atO List.getD
  rw [List.getElem?_append]
  split
  · rfl
  · split
    · rename_i e; simp [e]
    · rw [List.getElem?_eq_none (by simp; omega)]; rfl
theorem PlI.push (h : PlI n o pl) (hx : x < n) (h0 : atP pl x = 0) : PlI n (o ++ [x]) (pl.set x ((o.length : Int) + 1)) := by
  have hxl : x < pl.length := by rw [h.len]; exact hx
  refine ⟨by simp [h.len], fun c hc => ?_, fun y hy => ?_⟩
  · rw [atO_snoc]
    split
    · rename_i hc
      obtain ⟨h1, h2⟩ := h.here c hc
      refine ⟨h1, ?_⟩
      rw [atP_set hxl, if_neg (fun e => by rw [← e, h0] at h2; omega)]; exact h2
    · rename_i hc'
      have : c = o.length := by simp at hc; omega
      rw [if_pos this, atP_set hxl, if_pos rfl, this]; exact ⟨hx, rfl⟩
  · rw [atP_set hxl] at hy
    split at hy
    · rename_i e; exact ⟨o.length, by simp, by rw [atO_snoc, if_neg (by omega), if_pos rfl]; exact e⟩
    · obtain ⟨c, hc, e⟩ := h.held y hy
      exact ⟨c, by simp; omega, by rw [atO_snoc, if_pos hc]; exact e⟩
theorem HpO.push (h : HpO K o fun _ => False) (hn : ∀ p, p < o.length → K' (atO o p) = K (atO o p)) : HP K' (o ++ [x]) o.length := by
  refine ⟨fun c h1 h2 h3 => ?_, fun _ c h1 h2 h3 => ?_⟩
  · have hc : c < o.length := by
      have : c ≠ o.length := fun e => h3 (.inl e)
      simp at h2; omega
    rw [atO_snoc, atO_snoc, if_pos hc, if_pos (by omega), lt2.congr (hn c hc) (hn _ (by omega))]
    exact h c h1 hc id
  · simp at h2; omega
theorem HpO.key (h : HpO K o fun _ => False) (hp : p < o.length) (hn : ∀ c, c < o.length → c ≠ p → K' (atO o c) = K (atO o c)) : HP K' o p := by
  refine ⟨fun c h1 h2 h3 => ?_, fun h0 c h1 h2 h3 => ?_⟩
  · rw [lt2.congr (hn c h2 (fun e => h3 (.inl e))) (hn _ (by omega) (fun e => h3 (.inr e)))]
    exact h c h1 h2 id
  · rw [lt2.congr (hn c h2 (by omega)) (hn _ (by omega) (by omega))]
    have a1 := h c h1 h2 id
    rw [h3] at a1
    exact nlt2.trans (h p h0 hp id) a1
theorem atO_take {L : Nat} (hp : p < L) : atO (o.take L) p = atO o p := by
  unfold atO List.getD; rw [List.getElem?_take]; rw [if_pos hp]
theorem HpO.cut (h : HpO K o fun _ => False) {L : Nat} (hL : o.length = L + 1) (hp : p < L) (hn : ∀ c, c < L → K' (atO (swO o p L) c) = K (atO (swO o p L) c)) : HP K' ((swO o p L).take L) p := by
  have hl : ((swO o p L).take L).length = L := by rw [List.length_take, swO_len]; omega
  have hat : ∀ c, c < L → atO ((swO o p L).take L) c = atO (swO o p L) c := fun c hc => atO_take hc
  have hpl : p < o.length := by omega
  have hLl : L < o.length := by omega
  have hsw : ∀ c, c < L → c ≠ p → atO (swO o p L) c = atO o c := fun c hc hcp => by rw [swO_at hpl hLl, if_neg (by omega), if_neg hcp]
  refine ⟨fun c h1 h2 h3 => ?_, fun h0 c h1 h2 h3 => ?_⟩
  · rw [hl] at h2
    have a1 : c ≠ p := fun e => h3 (.inl e)
    have a2 : (c - 1) / 2 ≠ p := fun e => h3 (.inr e)
    rw [hat c h2, hat _ (by omega), lt2.congr (hn c h2) (hn _ (by omega)), hsw c h2 a1, hsw _ (by omega) a2]
    exact h c h1 (by omega) id
  · rw [hl] at h2
    rw [hat c h2, hat _ (by omega), lt2.congr (hn c h2) (hn _ (by omega)), hsw c h2 (by omega), hsw _ (by omega) (by omega)]
    have a1 := h c h1 (by omega) id
    rw [h3] at a1
    exact nlt2.trans (h p h0 hpl id) a1
theorem HpO.last (h : HpO K o fun _ => False) {L : Nat} (hL : o.length = L + 1) (hn : ∀ c, c < L → K' (atO o c) = K (atO o c)) : HpO K' (o.take L) fun _ => False := fun c h1 h2 _ => by
  rw [List.length_take] at h2
  rw [atO_take (show c < L by omega), atO_take (show (c - 1) / 2 < L by omega), lt2.congr (hn c (by omega)) (hn _ (by omega))]
  exact h c h1 (by omega) id
theorem PlI.cut (h : PlI n o pl) {L : Nat} (hL : o.length = L + 1) : PlI n (o.take L) (pl.set (atO o L) 0) := by
  have hl : (o.take L).length = L := by rw [List.length_take]; omega
  have hLn := (h.here L (by omega)).1
  have hx : atO o L < pl.length := by rw [h.len]; exact hLn
  refine ⟨by simp [h.len], fun c hc => ?_, fun y hy => ?_⟩
  · rw [hl] at hc
    rw [atO_take hc]
    obtain ⟨h1, h2⟩ := h.here c (by omega)
    refine ⟨h1, ?_⟩
    rw [atP_set hx, if_neg (fun e => by have := h.inj (by omega) (by omega) e; omega)]; exact h2
  · rw [atP_set hx] at hy
    split at hy
    · exact absurd rfl hy
    · rename_i hne
      obtain ⟨c, hc, e⟩ := h.held y hy
      have : c ≠ L := fun w => hne (w ▸ e)
      exact ⟨c, by rw [hl]; omega, by rw [atO_take (by omega)]; exact e⟩
end
end Go.Proofs.YtmcfomainmppdaaGreatDoor
namespace Go.Proofs.YtmcfomainmppdaaGreatDoor
structure HpI (n : Nat) (K pl : List Int) (o : List Nat) : Prop where
  kl : K.length = n
  pi : PlI n o pl
  hp : HpO (atP K) o fun _ => False
structure StlI (n : Nat) (K pl : List Int) (o : List Nat) (pl' : List Int) (o' : List Nat) : Prop where
  pi : PlI n o' pl'
  hp : HpO (atP K) o' fun _ => False
  len : o'.length = o.length
  same : ∀ x, atP pl' x = 0 ↔ atP pl x = 0
def qOf (K pl : List Int) : PQ := fun x => if atP pl x = 0 then none else some (atP K x)
section
variable {n : Nat} {K pl pl' : List Int} {o o' : List Nat} {x p : Nat} {v : Int}
theorem q_none : qOf K pl x = none ↔ atP pl x = 0 := by
  unfold qOf; split
  · rename_i h; simp [h]
  · rename_i h; simp [h]
theorem q_some (h : atP pl x ≠ 0) : qOf K pl x = some (atP K x) := if_neg h
theorem HpI.order_len (h : HpI n K pl o) : o.length ≤ n := by
  have hnd : o.Nodup := by
    refine List.nodup_iff_pairwise_ne.2 (List.pairwise_iff_getElem.2 fun i j hi hj hij e => ?_)
    have := h.pi.inj hi hj (by unfold atO List.getD; rw [List.getElem?_eq_getElem hi, List.getElem?_eq_getElem hj]; exact e)
    omega
  simpa using nd_len hnd (l2 := List.range n) fun x hx => by
    obtain ⟨i, hi, e⟩ := List.mem_iff_getElem.1 hx
    have := (h.pi.here i hi).1
    unfold atO List.getD at this
    rw [List.getElem?_eq_getElem hi] at this
    rw [← e]; exact List.mem_range.2 this
theorem HpI.set_held (h : HpI n K pl o) (hx : x < n) (h0 : atP pl x ≠ 0) : ∃ p, p < o.length ∧ atP pl x = (p : Int) + 1 ∧ atO o p = x ∧ HP (atP (K.set x v)) o p := by
  obtain ⟨p, hp, e⟩ := h.pi.held x h0
  refine ⟨p, hp, by rw [← e]; exact (h.pi.here p hp).2, e, h.hp.key hp fun c hc hcp => ?_⟩
  rw [atP_set (by rw [h.kl]; exact hx), if_neg (fun w => hcp (h.pi.inj hc hp (w.symm.trans e.symm)))]
theorem HpI.set_new (h : HpI n K pl o) (hx : x < n) (h0 : atP pl x = 0) : PlI n (o ++ [x]) (pl.set x ((o.length : Int) + 1)) ∧ HP (atP (K.set x v)) (o ++ [x]) o.length := by
  refine ⟨h.pi.push hx h0, h.hp.push fun p hp => ?_⟩
  rw [atP_set (by rw [h.kl]; exact hx), if_neg (fun w => ?_)]
  have := (h.pi.here p hp).2
  rw [← w, h0] at this; omega
theorem HpI.set_done (h : HpI n K pl o) (hx : x < n) {pm : List Int} {om : List Nat} (hm : ∀ y, atP pm y = 0 ↔ (y ≠ x ∧ atP pl y = 0)) (hs : StlI n (K.set x v) pm om pl' o') : HpI n (K.set x v) pl' o' ∧ qOf (K.set x v) pl' = (qOf K pl).put x v := by
  refine ⟨⟨by simp [h.kl], hs.pi, hs.hp⟩, funext fun y => ?_⟩
  have hxl : x < K.length := by rw [h.kl]; exact hx
  rw [pq_put]
  by_cases e : y = x
  · rw [if_pos e, q_some (fun w => ((hm y).1 ((hs.same y).1 w)).1 e), atP_set hxl, if_pos e.symm]
  · rw [if_neg e]
    by_cases w : atP pl y = 0
    · rw [q_none.2 ((hs.same y).2 ((hm y).2 ⟨e, w⟩)), q_none.2 w]
    · rw [q_some (fun q => w ((hm y).1 ((hs.same y).1 q)).2), q_some w, atP_set hxl, if_neg (fun q => e q.symm)]
theorem HpI.least (h : HpI n K pl o) (h0 : 0 < o.length) : (qOf K pl).Least (atO o 0) (atP K (atO o 0)) := by
  have hh := (h.pi.here 0 h0).2
  refine ⟨q_some (by rw [hh]; omega), fun z u hu => ?_⟩
  by_cases w : atP pl z = 0
  · rw [q_none.2 w] at hu; cases hu
  · rw [q_some w] at hu
    obtain ⟨c, hc, e⟩ := h.pi.held z w
    have := h.hp.first c hc
    cases hu
    rw [e] at this
    unfold lt2 at this; omega
theorem HpI.empty (h : HpI n K pl o) (h0 : o.length = 0) : ∀ x, qOf K pl x = none := fun x => q_none.2 (Decidable.byContradiction fun w => by
  obtain ⟨c, hc, _⟩ := h.pi.held x w
  omega)
theorem HpI.cut (h : HpI n K pl o) {L : Nat} (hL : o.length = L + 1) (hp : p ≤ L) : PlI n ((swO o p L).take L) ((swP o pl p L).set (atO o p) 0) ∧ (∀ y, atP ((swP o pl p L).set (atO o p) 0) y = 0 ↔ (y = atO o p ∨ atP pl y = 0)) ∧ (p < L → HP (atP (K.set (atO o p) 0)) ((swO o p L).take L) p) ∧ (p = L → HpO (atP (K.set (atO o p) 0)) ((swO o p L).take L) fun _ => False) := by
  have hpl : p < o.length := by omega
  have hLl : L < o.length := by omega
  have hsw := h.pi.swap hpl hLl
  have hl : (swO o p L).length = L + 1 := by rw [swO_len]; exact hL
  have hlast : atO (swO o p L) L = atO o p := by rw [swO_at hpl hLl, if_pos rfl]
  have hcut := hsw.cut hl
  rw [hlast] at hcut
  have hxn := (h.pi.here p hpl).1
  have hk : ∀ c, c < L → atP (K.set (atO o p) 0) (atO (swO o p L) c) = atP K (atO (swO o p L) c) := fun c hc => by
    rw [atP_set (by rw [h.kl]; exact hxn), if_neg (fun w => ?_)]
    rw [← hlast] at w
    have := hsw.inj (by omega) (by omega) w
    omega
  refine ⟨hcut, fun y => ?_, fun hpL => h.hp.cut hL hpL hk, fun hpL => ?_⟩
  · rw [atP_set (by rw [hsw.len]; exact hxn)]
    by_cases e : atO o p = y
    · rw [if_pos e]; exact ⟨fun _ => .inl e.symm, fun _ => rfl⟩
    · rw [if_neg e, h.pi.same hpl hLl]
      exact ⟨.inr, fun w => w.elim (fun w => absurd w.symm e) id⟩
  · subst hpL
    have e1 : swO o p p = o := by
      refine List.ext_getElem? fun c => ?_
      unfold swO
      rw [List.getElem?_set, List.length_set]
      by_cases e : p = c
      · subst e
        rw [if_pos rfl, if_pos hpl]
        unfold atO List.getD
        rw [List.getElem?_eq_getElem hpl]; rfl
      · rw [if_neg e, List.getElem?_set, if_neg e]
    rw [e1] at hk ⊢
    exact h.hp.last hL hk
theorem HpI.cut_done (h : HpI n K pl o) {L : Nat} (hL : o.length = L + 1) (hp : p ≤ L) {pm : List Int} (hm : ∀ y, atP pm y = 0 ↔ (y = atO o p ∨ atP pl y = 0)) (hpi : PlI n o' pl') (hhp : HpO (atP (K.set (atO o p) 0)) o' fun _ => False) (hs : ∀ y, atP pl' y = 0 ↔ atP pm y = 0) : HpI n (K.set (atO o p) 0) pl' o' ∧ qOf (K.set (atO o p) 0) pl' = (qOf K pl).del (atO o p) := by
  refine ⟨⟨by simp [h.kl], hpi, hhp⟩, funext fun y => ?_⟩
  have hxl : atO o p < K.length := by rw [h.kl]; exact (h.pi.here p (by omega)).1
  rw [pq_del]
  by_cases e : y = atO o p
  · rw [if_pos e, q_none.2 ((hs y).2 ((hm y).2 (.inl e)))]
  · rw [if_neg e]
    by_cases w : atP pl y = 0
    · rw [q_none.2 ((hs y).2 ((hm y).2 (.inr w))), q_none.2 w]
    · rw [q_some (fun q => ((hm y).1 ((hs y).1 q)).elim e w), q_some w, atP_set hxl, if_neg (fun q => e q.symm)]
theorem HpI.start (n : Nat) : HpI n (List.replicate n 0) (List.replicate n 0) [] := by
  have hz : ∀ x, atP (List.replicate n (0 : Int)) x = 0 := fun x => by
    unfold atP List.getD; rw [List.getElem?_replicate]; split <;> rfl
  exact ⟨by simp, ⟨by simp, fun p hp => absurd hp (by simp), fun x hx => absurd (hz x) hx⟩, fun c _ h2 => absurd h2 (by simp)⟩
end
end Go.Proofs.YtmcfomainmppdaaGreatDoor
