/- slices.SortFunc at a row of numbers of one's own, under a cmp that is walked with the stricter order of worlds. -/
import Derived.Shelf.SlSortCmp.NoneTotal
import Derived.Test.YtokhapaffleffaaDsK1
import Derived.Test.YtokhapaffleffaaQ
namespace Go.Proofs.Ytokhapaffleffaa
open Go.RowKit Go.Sort Go.Shelf
def nmN (N x : Nat) : Nat := if x < N then x else 0
theorem nm_lt {N : Nat} (hN : 0 < N) (x : Nat) : nmN N x < N := by unfold nmN; split <;> omega
theorem nm_id {N x : Nat} (h : x < N) : nmN N x = x := if_pos h
def encN (N x : Nat) : Value := .int .i64 ((nmN N x : Nat) : Int)
theorem put_take1 (cur : Array Value) (enc : Nat → Value) (ys : Array Nat) (h : ys.size ≤ cur.size) : (putCells enc 0 ys cur).size = cur.size ∧ (putCells enc 0 ys cur).toList.take ys.size = ys.toList.map enc := by
  refine ⟨by simp [putCells], ?_⟩
  refine List.ext_getElem? fun t => ?_
  rw [List.getElem?_take]
  split
  · rename_i ht
    rw [Array.getElem?_toList, List.getElem?_map, Array.getElem?_toList]
    unfold putCells
    rw [Array.getElem?_mapIdx, Array.getElem?_eq_getElem (by omega), Array.getElem?_eq_getElem ht, Option.map_some, if_pos ⟨by omega, by omega⟩]
    simp [getElem!_pos ys t ht]
  · rename_i ht
    rw [List.getElem?_eq_none (by simp; omega)]
theorem perm_sorted1 {lt : Nat → Nat → Bool} {d d' : Array Nat} (hP : PermIn 0 d.size d d') (hSo : SortedIn lt 0 d.size d') : d'.toList.Perm d.toList ∧ d'.toList.Pairwise fun x y => lt y x = false := by
  obtain ⟨hsz, _, hperm⟩ := hP
  have e1 : d'.extract 0 d.size = d' := by rw [← hsz]; exact Array.extract_size
  rw [e1, Array.extract_size] at hperm
  refine ⟨hperm, ?_⟩
  rw [List.pairwise_iff_getElem]
  intro i j hi hj hij
  have hi' : i < d'.size := by simpa using hi
  have hj' : j < d'.size := by simpa using hj
  have := hSo i j (Nat.zero_le _) hij (by omega)
  rw [getElem!_pos d' j hj', getElem!_pos d' i hi'] at this
  simpa using this
theorem flat1 {α β : Type} (f : α → β) : ∀ l : List α, (l.map fun x => [f x]).flatten = l.map f
  | [] => rfl
  | a :: l => by rw [List.map_cons, List.flatten_cons, flat1 f l]; rfl
theorem sortI_any {P : Program} {ρ : Ren} (L : SlLaysF.n6 P ρ) (N : Nat) (hN : 0 < N) (cf : Nat → Nat → Int) (hO : SWO (ltOf fun x y => cf (nmN N x) (nmN N y))) (g : Nat) (cb : Array Value) (eg : ∀ args w, (callFunc g args).run P w = .ok (.enter g args) w) {t : TypeId} {n c : Nat} {p : Option Addr} {xs : List Nat} {w : World}
    (hcmp : ∀ x y W, x < N → y < N → w.grownBy W (ob p) → Calls P g (#[.int .i64 (x : Int), .int .i64 (y : Int)] ++ cb) W fun e w' => e = .returned (.int .i64 (cf x y)) ∧ Q.Below W.heap.size W w')
    (h : OwV intK t 0 w (.slice p n c) (natI xs)) (hx : ∀ x ∈ xs, x < N) (hsz : xs.length < 4611686018427387904) :
    Calls P (ρ.f 6) #[.slice p n c, .func (.func g) #[] cb] w fun e w' => ∃ ys : List Nat, e = .returned (.tuple #[]) ∧ ys.Perm xs ∧ (ys.Pairwise fun x y => ltOf (fun x y => cf (nmN N x) (nmN N y)) y x = false) ∧ OwV intK t 0 w' (.slice p n c) (natI ys) ∧ w.grownBy w' (ob p) := by
  obtain ⟨p', c', e, hh⟩ := h.sh
  injection e with e1 e2 e3
  subst e1; subst e2; subst e3
  by_cases h0 : xs = []
  · subst h0
    refine (AnyF.slices_SortFunc_none (P := P) (ρ := ρ) { L with } p c (.func (.func g) #[] cb) w).mono ?_
    rintro e w' ⟨rfl, rfl⟩
    exact ⟨[], rfl, .refl _, .nil, h, rfl, rfl, rfl, Nat.le_refl _, fun _ _ _ => rfl⟩
  rcases hh with ⟨h00, _⟩ | ⟨b, rfl, hb, hlt, hc1, hc2, hfz⟩
  · exact absurd h00 (fun e => h0 (by unfold natI at e; exact List.map_eq_nil_iff.1 e))
  obtain ⟨css, he, hl, h2⟩ := h
  rcases h2 with ⟨e, _⟩ | ⟨b', cap, cur, e, hb', hg, hca, hcb, hcs, htk⟩
  · cases e
  injection e with e1 e2 e3
  injection e1 with e1
  injection e1 with e1 _ _
  subst e1; subst e3
  have hn : (natI xs).length = xs.length := natI_len xs
  have hcss : css = xs.map fun x => [encN N x] := by
    refine List.ext_getElem? fun k => ?_
    rw [List.getElem?_map]
    by_cases hk' : k < xs.length
    · have hk2 : k < css.length := by rw [he.len, hn]; exact hk'
      have hk3 : (natI xs)[k]? = some ((xs[k] : Nat) : Int) := by unfold natI; rw [List.getElem?_map, List.getElem?_eq_getElem hk']; rfl
      have e4 : css[k] = [.int .i64 ((xs[k] : Nat) : Int)] := he.el k _ _ (List.getElem?_eq_getElem hk2) hk3
      rw [List.getElem?_eq_getElem hk2, List.getElem?_eq_getElem hk', e4]
      unfold encN
      rw [Option.map_some, nm_id (hx _ (List.getElem_mem hk'))]
    · rw [List.getElem?_eq_none (by rw [he.len]; omega), List.getElem?_eq_none (by omega)]; rfl
  have hflat : css.flatten = xs.map (encN N) := by
    rw [hcss]; exact flat1 _ xs
  have hsq : xs.toArray.size = xs.length := by simp
  have hsc : xs.length ≤ cur.size := by rw [hcs]; show xs.length ≤ c * 1; rw [Nat.mul_one]; omega
  have hH : Holds (encN N) w b 0 xs.toArray := fun j hj => by
    refine ⟨?_, hfz _⟩
    have hj' : j < xs.length := by simpa using hj
    have e4 : cur[j]? = some (encN N xs[j]) := by
      have q : (cur.toList.take (natI xs).length)[j]? = (xs.map (encN N))[j]? := by
        rw [← hflat, ← htk]; congr 2; show _ = (natI xs).length * 1; rw [Nat.mul_one]
      rw [List.getElem?_take, if_pos (by rw [hn]; exact hj'), List.getElem?_map, List.getElem?_eq_getElem hj', Array.getElem?_toList] at q
      exact q
    unfold World.cell?
    rw [hg]
    simp only [Nat.zero_add]
    rw [e4, getElem!_pos xs.toArray j hj]; rfl
  have hblk : ∀ (m : Nat) (os : Array Obj) (dk : Array Nat) (j : Nat), j < w.heap.size → (sortWorld (encN N) w b 0 m dk os).heap[j]? = if b = j then some (.cells (putCells (encN N) 0 dk cur) t (0, 0)) else w.heap[j]? := fun m os dk j hj => by
    unfold sortWorld
    rw [heap_grow_old _ _ (by rw [size_putRow]; exact hj)]
    show (w.heap.modify b _)[j]? = _
    rw [Array.getElem?_modify]
    split
    · rename_i e; subst e; rw [hg]; rfl
    · rfl
  have hgr : ∀ (m : Nat) (os : Array Obj) (dk : Array Nat), w.grownBy (sortWorld (encN N) w b 0 m dk os) (some b) := fun m os dk => ⟨rfl, rfl, rfl, by unfold sortWorld; rw [size_grow, size_putRow]; exact Nat.le_add_right _ _, fun j hj hne => by rw [hblk m os dk j hj, if_neg (fun e => hne (by subst e; rfl))]⟩
  have e5 : (natI xs).length = xs.toArray.size := by rw [hn, hsq]
  rw [e5]
  refine (Any.slices_SortFunc (P := P) (ρ := ρ) L (encN N) (fun _ => rfl) (fun x y => cf (nmN N x) (nmN N y)) hO g cb b 0 c xs.toArray w eg (fun m os dk _ x y => ((hcmp _ _ _ (nm_lt hN x) (nm_lt hN y) (hgr m os dk)).mono fun e w' ⟨e1, e2⟩ => ⟨e1, e2.grown⟩)) hH hlt (by rw [hsq]; exact hsz)).mono ?_
  rintro e w' ⟨rfl, d', m, os, hpm, hso, rfl⟩
  obtain ⟨k1, k2⟩ := perm_sorted1 hpm hso
  have hds : d'.size = xs.length := by have := k1.length_eq; simpa using this
  refine ⟨d'.toList, rfl, by simpa using k1, k2, ?_, hgr m os d'⟩
  have ecur := put_take1 cur (encN N) d' (by rw [hds]; exact hsc)
  have hmem : ∀ x ∈ d'.toList, x < N := fun x hm => hx x (by have := k1.mem_iff.1 hm; simpa using this)
  have e9 : d'.toList.map (encN N) = (natI d'.toList).map fun z => .int .i64 z := by
    unfold natI
    rw [List.map_map]
    exact List.map_congr_left fun x hm => by unfold encN; rw [nm_id (hmem x hm)]; rfl
  refine ⟨(natI d'.toList).map fun z => [.int .i64 z], ⟨by simp, fun k cs x h3 h4 => by
    rw [List.getElem?_map, h4] at h3
    simp at h3
    exact h3.symm⟩, ?_, .inr ⟨b, c, putCells (encN N) 0 d' cur, ?_, hb, by rw [hblk m os d' b hlt, if_pos rfl], by rw [natI_len]; simp only [Array.length_toList, hds]; omega, hcb, by rw [ecur.1]; exact hcs, ?_⟩⟩
  · rw [flat_len (sz := intK.sz) _ (fun cs hc => by obtain ⟨x, _, rfl⟩ := List.mem_map.1 hc; rfl), List.length_map]
  · rw [natI_len, hsq]; simp [hds]
  · have e8 : ((natI d'.toList).map fun z => [Value.int .i64 z]).flatten = (natI d'.toList).map fun z => .int .i64 z := flat1 _ _
    rw [e8, ← e9, ← ecur.2]
    congr 1
    show (natI d'.toList).length * 1 = _
    rw [natI_len, Nat.mul_one]; simp
end Go.Proofs.Ytokhapaffleffaa
