/- A store into a part of an element of a row of one's own. -/
import Derived.Test.YtjhgkojbpgakcaaGreatDoorRowN
namespace Go.Proofs.YtjhgkojbpgakcaaGreatDoor
open Go.RowKit
theorem setL_len : ∀ (cs : List Value) (l : List Value) (o : Nat), (setL l o cs).length = l.length
  | [], _, _ => rfl
  | c :: cs, l, o => by rw [setL, setL_len cs]; simp
theorem setL_get : ∀ (cs : List Value) (l : List Value) (o i : Nat), o + cs.length ≤ l.length → (setL l o cs)[i]? = if o ≤ i ∧ i < o + cs.length then cs[i - o]? else l[i]?
  | [], l, o, i, _ => by rw [setL, if_neg (by simp)]
  | c :: cs, l, o, i, h => by
    rw [List.length_cons] at h
    rw [setL, setL_get cs _ (o + 1) i (by simp; omega), List.length_cons]
    by_cases h1 : o + 1 ≤ i ∧ i < o + 1 + cs.length
    · rw [if_pos h1, if_pos (by omega)]
      obtain ⟨j, rfl⟩ : ∃ j, i = o + 1 + j := ⟨i - (o + 1), by omega⟩
      rw [show o + 1 + j - o = j + 1 by omega, show o + 1 + j - (o + 1) = j by omega, List.getElem?_cons_succ]
    · rw [if_neg h1]
      by_cases h2 : i = o
      · subst h2
        simp [List.getElem?_set_self, show i < l.length by omega]
      · rw [if_neg (by omega), List.getElem?_set_ne (by omega)]
theorem setL_part {l cs ds : List Value} {a o : Nat} (hl : a + cs.length ≤ l.length) (hc : ∀ j u, cs[j]? = some u → l[a + j]? = some u) (ho : o + ds.length ≤ cs.length) : setL l (a + o) ds = setL l a (setL cs o ds) := by
  refine List.ext_getElem? fun i => ?_
  rw [setL_get _ _ _ _ (by omega), setL_get _ _ _ _ (by rw [setL_len]; exact hl), setL_len, setL_get _ _ _ _ ho]
  by_cases h1 : a ≤ i ∧ i < a + cs.length
  · rw [if_pos h1]
    by_cases h2 : a + o ≤ i ∧ i < a + o + ds.length
    · rw [if_pos h2, if_pos (by omega), show i - (a + o) = i - a - o by omega]
    · rw [if_neg h2, if_neg (by omega)]
      have h3 : i - a < cs.length := by omega
      have h4 := hc (i - a) _ (List.getElem?_eq_getElem h3)
      rw [show a + (i - a) = i by omega] at h4
      rw [h4, List.getElem?_eq_getElem h3]
  · rw [if_neg h1, if_neg (by omega)]
theorem OwV.putF {α : Type} {K : EK α} [OwnK K] {f : α → List Value} {t : TypeId} {base g n c k o : Nat} {ds : List Value} {w : World} {xs : List α} {x x' : α} (hR : ∀ w cs x, K.R w cs x ↔ cs = f x) (h : OwV K t base w (.slice (some ⟨g, 0, none⟩) n c) xs) (hx : xs[k]? = some x) (hd : setL (f x) o ds = f x') (ho : o + ds.length ≤ K.sz) :
    ∀ w', Below (putAt g (k * K.sz + o) ds w).heap.size (putAt g (k * K.sz + o) ds w) w' → OwV K t base w' (.slice (some ⟨g, 0, none⟩) n c) (xs.set k x') := by
  intro w' hb
  obtain ⟨hk, rfl⟩ := List.getElem?_eq_some_iff.1 hx
  have hcell := (h.slv.at hx)
  obtain ⟨css, h1, h2⟩ := h
  have hK : K.Free := fun w w' cs x hc => (hR w' cs x).2 ((hR w cs x).1 hc)
  have hr' : K.R w (f x') x' := (hR _ _ _).2 rfl
  have hs := h1.set hr' k
  have hs' : Els K w' (css.set k (f x')) (xs.set k x') := hs.free hK
  have hkc : k < css.length := by rw [h1.len]; exact hk
  have hcs : css[k] = f xs[k] := (hR _ _ _).1 (h1.el k _ _ (List.getElem?_eq_getElem hkc) (List.getElem?_eq_getElem hk))
  have hlf : ∀ y, (f y).length = K.sz := fun y => K.len ((hR w (f y) y).2 rfl)
  refine ⟨_, hs', ?_⟩
  rcases h2.2 with ⟨e, h0⟩ | ⟨g', cap, cur, e, hb', hg, hc1, hc2, hsz, ht⟩
  · cases e
  · injection e with e1 e2 e3
    injection e1 with e1
    injection e1 with e1 _ _
    subst e1; subst e2; subst e3
    have hg2 : w.heap[g]? = some (.cells cur.toList.toArray t) := by simpa using hg
    have hput := put_at ds (k * K.sz + o) cur.toList w hg2
    have hlen := h1.len
    have hlt : g < (putAt g (k * K.sz + o) ds w).heap.size := Nat.lt_of_lt_of_le (Array.getElem?_eq_some_iff.1 hg).1 (put_size g ds _ w)
    have hfl := flat_len css h1.sizes
    have hkk : (k + 1) * K.sz ≤ xs.length * K.sz := Nat.mul_le_mul_right _ hk
    rw [Nat.succ_mul] at hkk
    have hcap : xs.length * K.sz ≤ c * K.sz := Nat.mul_le_mul_right _ hc1
    have hcl : cur.toList.length = c * K.sz := by simpa using hsz
    have hseg : ∀ j u, (f xs[k])[j]? = some u → cur.toList[k * K.sz + j]? = some u := fun j u hu => by
      have hj : j < K.sz := by have := (List.getElem?_eq_some_iff.1 hu).1; rwa [hlf] at this
      have h3 := flat_at css h1.sizes k j _ (List.getElem?_eq_getElem hkc) hj
      rw [hcs, hu, ← ht, List.getElem?_take, if_pos (by omega)] at h3
      exact h3
    have heq := setL_part (l := cur.toList) (a := k * K.sz) (o := o) (ds := ds) (by rw [hlf]; omega) hseg (by rw [hlf]; exact ho)
    rw [hd] at heq
    rw [heq] at hput
    have key : ∀ (cs : List Value) (l : List Value) (o m : Nat), o + cs.length ≤ m → (setL l o cs).take m = setL (l.take m) o cs := by
      intro cs
      induction cs with
      | nil => intro l o m _; rfl
      | cons c cs ih =>
        intro l o m hm
        simp at hm
        unfold setL
        rw [ih (l.set o c) (o + 1) m (by omega), List.take_set]
    refine ⟨?_, .inr ⟨g, c, (setL cur.toList (k * K.sz) (f x')).toArray, by simp, hb', ?_, by simpa using hc1, hc2, ?_, ?_⟩⟩
    · rw [flat_len (sz := K.sz) _ hs.sizes, hs.len]
    · rw [hb.block g hlt]; exact hput
    · simp [setL_len, hsz]
    · rw [flat_set css h1.sizes k (f x') (hlf x') hkc]
      simp only [List.length_set]
      rw [key _ _ _ _ (by rw [hlf]; omega), ht]
end Go.Proofs.YtjhgkojbpgakcaaGreatDoor
