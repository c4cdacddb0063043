/- slices.SortFunc at a row of one's own, under a cmp that is walked with the stricter order of worlds. -/
import Derived.Shelf.SlSortCmp.NoneTotal
import Derived.Test.YtjhgkojbpgakcaaGreatDoorRowN
import Derived.Test.YtjhgkojbpgakcaaGreatDoorQ
namespace Go.Proofs.YtjhgkojbpgakcaaGreatDoor
open Go.RowKit Go.Sort Go.Shelf
def sortS {α : Type} (cf : α → α → Int) (xs : List α) : List α := xs.mergeSort fun x y => !(ltOf cf) y x
theorem sortS_len {α : Type} (cf : α → α → Int) (xs : List α) : (sortS cf xs).length = xs.length := List.length_mergeSort xs
section
variable {α : Type} [Inhabited α] {f : α → List Value} {k : Nat}
theorem flatK_toList (hk : ∀ x, (f x).length = k) (xs : List α) : (flatK f k xs.toArray).toList = (xs.map f).flatten := by
  have hs : ∀ cs ∈ xs.map f, cs.length = k := fun cs hc => by obtain ⟨x, _, rfl⟩ := List.mem_map.1 hc; exact hk x
  have hl := flat_len (xs.map f) hs
  rw [List.length_map] at hl
  refine List.ext_getElem? fun t => ?_
  by_cases ht : t < xs.length * k
  · have hq : t / k < xs.length := Nat.div_lt_of_lt_mul (by rwa [Nat.mul_comm] at ht)
    have kp : 0 < k := by
      rcases Nat.eq_zero_or_pos k with h | h
      · subst h; simp at ht
      · exact h
    have hm : t % k < k := Nat.mod_lt _ kp
    have h1 := flat_at (xs.map f) hs (t / k) (t % k) (f xs[t / k]) (by rw [List.getElem?_map, List.getElem?_eq_getElem hq]; rfl) hm
    rw [show t / k * k + t % k = t by rw [Nat.mul_comm]; exact Nat.div_add_mod t k] at h1
    rw [h1, Array.getElem?_toList]
    have hsz : t < (flatK f k xs.toArray).size := by rw [size_flatK]; simpa using ht
    have h2 := get_flatK f k xs.toArray t (by simpa using ht)
    rw [getElem!_pos _ t hsz] at h2
    have hq' : t / k < xs.toArray.size := by simpa using hq
    rw [Array.getElem?_eq_getElem hsz, h2, getElem!_pos _ (t / k) hq']
    have e : xs.toArray[t / k] = xs[t / k] := rfl
    have h3 : t % k < (f xs[t / k]).length := by rw [hk]; exact hm
    rw [List.getElem?_eq_getElem h3, e, getElem!_pos (f xs[t / k]) (t % k) h3]
  · have a1 : (flatK f k xs.toArray).toList[t]? = none := List.getElem?_eq_none (by rw [Array.length_toList, size_flatK]; simpa using Nat.not_lt.1 ht)
    have a2 : ((xs.map f).flatten)[t]? = none := List.getElem?_eq_none (by rw [hl]; omega)
    rw [a1, a2]
theorem put_take (F cur : Array Value) (h : F.size ≤ cur.size) : (putCells id 0 F cur).size = cur.size ∧ (putCells id 0 F cur).toList.take F.size = F.toList := by
  refine ⟨by simp [putCells], ?_⟩
  refine List.ext_getElem? fun t => ?_
  rw [List.getElem?_take]
  split
  · rename_i ht
    rw [Array.getElem?_toList, Array.getElem?_toList]
    unfold putCells
    rw [Array.getElem?_mapIdx, Array.getElem?_eq_getElem (by omega), Array.getElem?_eq_getElem ht, Option.map_some, if_pos ⟨by omega, by omega⟩]
    simp [getElem!_pos F t ht]
  · rename_i ht
    rw [Array.getElem?_toList, Array.getElem?_eq_none (by omega)]
theorem perm_sorted {lt : α → α → Bool} (hS : SWO lt) {d d' : Array α} (hT : ∀ x ∈ d.toList, ∀ y ∈ d.toList, lt x y = false → lt y x = false → x = y) (hP : PermIn 0 d.size d d') (hSo : SortedIn lt 0 d.size d') : d'.toList = d.toList.mergeSort fun x y => !lt y x := by
  obtain ⟨hsz, _, hperm⟩ := hP
  have e1 : d'.extract 0 d.size = d' := by rw [← hsz]; exact Array.extract_size
  rw [e1, Array.extract_size] at hperm
  refine List.Perm.eq_of_pairwise (le := fun x y => (!lt y x) = true) ?_ ?_ ?_ (hperm.trans (List.mergeSort_perm _ _).symm)
  · intro a b ha hb h1 h2
    simp only [Bool.not_eq_true'] at h1 h2
    exact hT a (hperm.mem_iff.1 ha) b ((List.mergeSort_perm _ _).mem_iff.1 hb) h2 h1
  · rw [List.pairwise_iff_getElem]
    intro i j hi hj hij
    have hi' : i < d'.size := by simpa using hi
    have hj' : j < d'.size := by simpa using hj
    have := hSo i j (Nat.zero_le _) hij (by omega)
    rw [getElem!_pos d' j hj', getElem!_pos d' i hi'] at this
    simpa using this
  · refine List.pairwise_mergeSort ?_ ?_ _
    · intro a b c h1 h2
      simp only [Bool.not_eq_true'] at h1 h2 ⊢
      exact hS.ntrans c b a h2 h1
    · intro a b
      cases h : lt b a with
      | false => simp
      | true => simp [hS.asymmA h]
theorem sort_own_mem {P : Program} {ρ : Ren} (L : SlLaysF0.n6 P ρ) {K : EK α} [OwnK K] (hR : ∀ w cs x, K.R w cs x ↔ cs = f x) (hk : ∀ x, (f x).length = K.sz) (h1 : ∀ x, ∀ v ∈ f x, v.oneCell' = true)
    (aE : ∀ w, (isAgg (ρ.t 24)).run P w = .ok true w) (zE : ∀ w, (Go.sizeOf (ρ.t 24)).run P w = .ok K.sz w) (cf : α → α → Int) (hO : SWO (ltOf cf)) (g : Nat) (cb : Array Value)
    (eg : ∀ args w, (callFunc g args).run P w = .ok (.enter g args) w) {t : TypeId} {base n c : Nat} {p : Option Addr} {xs : List α} {w : World} (hcmp : ∀ x y W, Calls P g (#[.agg (f x).toArray, .agg (f y).toArray] ++ cb) W fun e w' => e = .returned (.int .i64 (cf x y)) ∧ Q.Below W.heap.size W w')
    (h : OwV K t base w (.slice p n c) xs) (hT : ∀ x ∈ xs, ∀ y ∈ xs, (ltOf cf) x y = false → (ltOf cf) y x = false → x = y) (hsz : xs.length < 4611686018427387904) :
    Calls P (ρ.f 6) #[.slice p n c, .func (.func g) #[] cb] w fun e w' => e = .returned (.tuple #[]) ∧ OwV K t base w' (.slice p n c) (sortS cf xs) ∧ w.grownBy w' (ob p) := by
  obtain ⟨p', c', e, hh⟩ := h.sh
  injection e with e1 e2 e3
  subst e1; subst e2; subst e3
  by_cases h0 : xs = []
  · subst h0
    refine (AnyF.slices_SortFunc_none (P := P) (ρ := ρ) { L with } p c (.func (.func g) #[] cb) w).mono ?_
    rintro e w' ⟨rfl, rfl⟩
    exact ⟨rfl, by simpa [sortS] using h, rfl, rfl, rfl, Nat.le_refl _, fun _ _ _ => rfl⟩
  rcases hh with ⟨h00, _⟩ | ⟨b, rfl, hb, hlt, hc1, hc2, hfz⟩
  · exact absurd h00 h0
  have hown := h
  obtain ⟨css, he, hl, h2⟩ := h
  rcases h2 with ⟨e, _⟩ | ⟨b', cap, cur, e, hb', hg, hca, hcb, hcs, htk⟩
  · cases e
  injection e with e1 _ e3
  injection e1 with e1
  injection e1 with e1 _ _
  subst e1; subst e3
  have hcss : css = xs.map f := by
    refine List.ext_getElem? fun k => ?_
    rw [List.getElem?_map]
    by_cases hk' : k < xs.length
    · have hk2 : k < css.length := by rw [he.len]; exact hk'
      have := (hR _ _ _).1 (he.el k _ _ (List.getElem?_eq_getElem hk2) (List.getElem?_eq_getElem hk'))
      rw [List.getElem?_eq_getElem hk2, List.getElem?_eq_getElem hk', this]; rfl
    · rw [List.getElem?_eq_none (by rw [he.len]; omega), List.getElem?_eq_none (by omega)]; rfl
  have hF : ∀ ys : List α, (flatK f K.sz ys.toArray).toList = (ys.map f).flatten := flatK_toList hk
  have hFs : ∀ ys : List α, (flatK f K.sz ys.toArray).size = ys.length * K.sz := fun ys => by rw [size_flatK]; simp
  have hH : HoldsK f K.sz w b 0 xs.toArray := fun j hj => by
    rw [hFs] at hj
    refine ⟨?_, hfz _⟩
    have hj2 : j < (flatK f K.sz xs.toArray).size := by rw [hFs]; exact hj
    have e4 : (flatK f K.sz xs.toArray)[j]? = cur[j]? := by
      rw [← Array.getElem?_toList, hF, ← hcss, ← htk, List.getElem?_take, if_pos hj, Array.getElem?_toList]
    rw [Array.getElem?_eq_getElem hj2] at e4
    unfold World.cell?
    rw [hg]
    simp only [Nat.zero_add]
    rw [getElem!_pos _ j hj2]
    exact e4.symm
  have hsq : xs.toArray.size = xs.length := by simp
  have := AnyQ.slices_SortFunc (P := P) (ρ := ρ) L K.sz aE zE f hk h1 cf hO g cb b 0 c xs.toArray w eg (fun m os dk _ x y => ((hcmp x y _).mono fun e w' ⟨e1, e2⟩ => ⟨e1, e2.grown⟩)) hH hlt (by rw [hsq]; exact hsz)
  refine this.mono ?_
  rintro e w' ⟨rfl, d', m, os, hpm, hso, rfl⟩
  have hd' : d' = (sortS cf xs).toArray := by
    have e := perm_sorted hO (d := xs.toArray) (by simpa using hT) hpm hso
    have e2 : sortS cf xs = d'.toList := e.symm
    rw [e2]
  subst hd'
  clear hpm hso
  have hys : (sortS cf xs).length = xs.length := sortS_len cf xs
  have ecur := put_take (flatK f K.sz (sortS cf xs).toArray) cur (by rw [hFs, hys, hcs]; exact Nat.mul_le_mul_right _ hca)
  have hblk : ∀ j, j < w.heap.size → (sortWorldK f K.sz w b 0 m (sortS cf xs).toArray os).heap[j]? = if b = j then some (.cells (putCells id 0 (flatK f K.sz (sortS cf xs).toArray) cur) t (0, 0)) else w.heap[j]? := fun j hj => by
    unfold sortWorldK
    rw [heap_grow_old _ _ (by rw [size_putRowK]; exact hj)]
    show (w.heap.modify b _)[j]? = _
    rw [Array.getElem?_modify]
    split
    · rename_i e; subst e; rw [hg]; rfl
    · rfl
  have hsize : w.heap.size ≤ (sortWorldK f K.sz w b 0 m (sortS cf xs).toArray os).heap.size := size_sortWorldK_c f K.sz w b 0 m _ os
  refine ⟨rfl, ?_, rfl, rfl, rfl, hsize, fun j hj hne => by rw [hblk j hj, if_neg (fun e => hne (by subst e; rfl))]⟩
  refine ⟨(sortS cf xs).map f, ⟨by simp, fun k cs x h3 h4 => by
    rw [List.getElem?_map, h4] at h3
    simp at h3
    subst h3
    exact (hR _ _ _).2 rfl⟩, ?_, .inr ⟨b, c, putCells id 0 (flatK f K.sz (sortS cf xs).toArray) cur, ?_, hb, by rw [hblk b hlt, if_pos rfl], by rw [hys]; exact hca, hcb, by rw [ecur.1]; exact hcs, ?_⟩⟩
  · rw [flat_len (sz := K.sz) _ (fun cs hc => by obtain ⟨x, _, rfl⟩ := List.mem_map.1 hc; exact hk x), List.length_map]
  · rw [hys]
  · rw [← hFs, ecur.2, hF]
end
end Go.Proofs.YtjhgkojbpgakcaaGreatDoor
