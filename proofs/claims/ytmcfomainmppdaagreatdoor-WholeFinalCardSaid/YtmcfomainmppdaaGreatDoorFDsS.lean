/- slices.SortFunc at a row of numbers of one's own, under a cmp that is walked with the stricter order of worlds. The order of nodes walked with the stricter order of worlds. The nodes in their order. -/
import Derived.Shelf.SlSortCmp.NoneTotal
import Derived.Test.YtmcfomainmppdaaGreatDoorFDsM
import Derived.Test.YtmcfomainmppdaaGreatDoorFQ
import Derived.Test.YtmcfomainmppdaaGreatDoorFDagL
import Derived.Test.YtmcfomainmppdaaGreatDoorFRowI
import Derived.Test.YtmcfomainmppdaaGreatDoorFRowN
import Derived.Test.YtmcfomainmppdaaGreatDoorFShelfS
namespace Go.Proofs.YtmcfomainmppdaaGreatDoor
open Go.RowKit Go.Sort Go.Shelf
def nmN (N x : Nat) : Nat := if x < N then x else 0
theorem nm_lt {N : Nat} (hN : 0 < N) (x : Nat) : nmN N x < N := by unfold nmN; split <;> omega
theorem nm_id {N x : Nat} (h : x < N) : nmN N x = x := if_pos h
def encN (N x : Nat) : Value := .int .i64 ((nmN N x : Nat) : Int)
theorem put_take1 (cur : Array Value) (enc : Nat → Value) (ys : Array Nat) (h : ys.size ≤ cur.size) : (putCells enc 0 ys cur).size = cur.size ∧ (putCells enc 0 ys cur).toList.take ys.size = ys.toList.map enc := by
  refine ⟨by simp [putCells], ?_⟩
  refine List.ext_getElem? fun t => ?_
  rw [List.getElem?_take]
  split
  · rename_i ht
    rw [Array.getElem?_toList, List.getElem?_map, Array.getElem?_toList]
    unfold putCells
    rw [Array.getElem?_mapIdx, Array.getElem?_eq_getElem (by omega), Array.getElem?_eq_getElem ht, Option.map_some, if_pos ⟨by omega, by omega⟩]
    simp [getElem!_pos ys t ht]
  · rename_i ht
    rw [List.getElem?_eq_none (by simp; omega)]
theorem perm_sorted1 {lt : Nat → Nat → Bool} {d d' : Array Nat} (hP : PermIn 0 d.size d d') (hSo : SortedIn lt 0 d.size d') : d'.toList.Perm d.toList ∧ d'.toList.Pairwise fun x y => lt y x = false := by
  obtain ⟨hsz, _, hperm⟩ := hP
  have e1 : d'.extract 0 d.size = d' := by rw [← hsz]; exact Array.extract_size
  rw [e1, Array.extract_size] at hperm
  refine ⟨hperm, ?_⟩
  rw [List.pairwise_iff_getElem]
  intro i j hi hj hij
  have hi' : i < d'.size := by simpa using hi
  have hj' : j < d'.size := by simpa using hj
  have := hSo i j (Nat.zero_le _) hij (by omega)
  rw [getElem!_pos d' j hj', getElem!_pos d' i hi'] at this
  simpa using this
theorem flat1 {α β : Type} (f : α → β) : ∀ l : List α, (l.map fun x => [f x]).flatten = l.map f
  | [] => rfl
  | a :: l => by rw [List.map_cons, List.flatten_cons, flat1 f l]; rfl
theorem sortI_any {P : Program} {ρ : Ren} (L : SlLaysF.n6 P ρ) (N : Nat) (hN : 0 < N) (cf : Nat → Nat → Int) (hO : SWO (ltOf fun x y => cf (nmN N x) (nmN N y))) (g : Nat) (cb : Array Value) (eg : ∀ args w, (callFunc g args).run P w = .ok (.enter g args) w) {t : TypeId} {n c : Nat} {p : Option Addr} {xs : List Nat} {w : World}
    (hcmp : ∀ x y W, x < N → y < N → w.grownBy W (ob p) → Calls P g (#[.int .i64 (x : Int), .int .i64 (y : Int)] ++ cb) W fun e w' => e = .returned (.int .i64 (cf x y)) ∧ Q.Below W.heap.size W w')
    (h : OwV intK t 0 w (.slice p n c) (natI xs)) (hx : ∀ x ∈ xs, x < N) (hsz : xs.length < 4611686018427387904) :
    Calls P (ρ.f 6) #[.slice p n c, .func (.func g) #[] cb] w fun e w' => ∃ ys : List Nat, e = .returned (.tuple #[]) ∧ ys.Perm xs ∧ (ys.Pairwise fun x y => ltOf (fun x y => cf (nmN N x) (nmN N y)) y x = false) ∧ OwV intK t 0 w' (.slice p n c) (natI ys) ∧ w.grownBy w' (ob p) := by
  obtain ⟨p', c', e, hh⟩ := h.sh
  injection e with e1 e2 e3
  subst e1; subst e2; subst e3
  by_cases h0 : xs = []
  · subst h0
    refine (AnyF.slices_SortFunc_none (P := P) (ρ := ρ) { L with } p c (.func (.func g) #[] cb) w).mono ?_
    rintro e w' ⟨rfl, rfl⟩
    exact ⟨[], rfl, .refl _, .nil, h, rfl, rfl, rfl, Nat.le_refl _, fun _ _ _ => rfl⟩
  rcases hh with ⟨h00, _⟩ | ⟨b, rfl, hb, hlt, hc1, hc2, hfz⟩
  · exact absurd h00 (fun e => h0 (by unfold natI at e; exact List.map_eq_nil_iff.1 e))
  obtain ⟨css, he, hl, h2⟩ := h
  rcases h2 with ⟨e, _⟩ | ⟨b', cap, cur, e, hb', hg, hca, hcb, hcs, htk⟩
  · cases e
  injection e with e1 e2 e3
  injection e1 with e1
  injection e1 with e1 _ _
  subst e1; subst e3
  have hn : (natI xs).length = xs.length := natI_len xs
  have hcss : css = xs.map fun x => [encN N x] := by
    refine List.ext_getElem? fun k => ?_
    rw [List.getElem?_map]
    by_cases hk' : k < xs.length
    · have hk2 : k < css.length := by rw [he.len, hn]; exact hk'
      have hk3 : (natI xs)[k]? = some ((xs[k] : Nat) : Int) := by unfold natI; rw [List.getElem?_map, List.getElem?_eq_getElem hk']; rfl
      have e4 : css[k] = [.int .i64 ((xs[k] : Nat) : Int)] := he.el k _ _ (List.getElem?_eq_getElem hk2) hk3
      rw [List.getElem?_eq_getElem hk2, List.getElem?_eq_getElem hk', e4]
      unfold encN
      rw [Option.map_some, nm_id (hx _ (List.getElem_mem hk'))]
    · rw [List.getElem?_eq_none (by rw [he.len]; omega), List.getElem?_eq_none (by omega)]; rfl
  have hflat : css.flatten = xs.map (encN N) := by
    rw [hcss]; exact flat1 _ xs
  have hsq : xs.toArray.size = xs.length := by simp
  have hsc : xs.length ≤ cur.size := by rw [hcs]; show xs.length ≤ c * 1; rw [Nat.mul_one]; omega
  have hH : Holds (encN N) w b 0 xs.toArray := fun j hj => by
    refine ⟨?_, hfz _⟩
    have hj' : j < xs.length := by simpa using hj
    have e4 : cur[j]? = some (encN N xs[j]) := by
      have q : (cur.toList.take (natI xs).length)[j]? = (xs.map (encN N))[j]? := by
        rw [← hflat, ← htk]; congr 2; show _ = (natI xs).length * 1; rw [Nat.mul_one]
      rw [List.getElem?_take, if_pos (by rw [hn]; exact hj'), List.getElem?_map, List.getElem?_eq_getElem hj', Array.getElem?_toList] at q
      exact q
    unfold World.cell?
    rw [hg]
    simp only [Nat.zero_add]
    rw [e4, getElem!_pos xs.toArray j hj]; rfl
  have hblk : ∀ (m : Nat) (os : Array Obj) (dk : Array Nat) (j : Nat), j < w.heap.size → (sortWorld (encN N) w b 0 m dk os).heap[j]? = if b = j then some (.cells (putCells (encN N) 0 dk cur) t (0, 0)) else w.heap[j]? := fun m os dk j hj => by
    unfold sortWorld
    rw [heap_grow_old _ _ (by rw [size_putRow]; exact hj)]
    show (w.heap.modify b _)[j]? = _
    rw [Array.getElem?_modify]
    split
    · rename_i e; subst e; rw [hg]; rfl
    · rfl
  have hgr : ∀ (m : Nat) (os : Array Obj) (dk : Array Nat), w.grownBy (sortWorld (encN N) w b 0 m dk os) (some b) := fun m os dk => ⟨rfl, rfl, rfl, by unfold sortWorld; rw [size_grow, size_putRow]; exact Nat.le_add_right _ _, fun j hj hne => by rw [hblk m os dk j hj, if_neg (fun e => hne (by subst e; rfl))]⟩
  have e5 : (natI xs).length = xs.toArray.size := by rw [hn, hsq]
  rw [e5]
  refine (Any.slices_SortFunc (P := P) (ρ := ρ) L (encN N) (fun _ => rfl) (fun x y => cf (nmN N x) (nmN N y)) hO g cb b 0 c xs.toArray w eg (fun m os dk _ x y => ((hcmp _ _ _ (nm_lt hN x) (nm_lt hN y) (hgr m os dk)).mono fun e w' ⟨e1, e2⟩ => ⟨e1, e2.grown⟩)) hH hlt (by rw [hsq]; exact hsz)).mono ?_
  rintro e w' ⟨rfl, d', m, os, hpm, hso, rfl⟩
  obtain ⟨k1, k2⟩ := perm_sorted1 hpm hso
  have hds : d'.size = xs.length := by have := k1.length_eq; simpa using this
  refine ⟨d'.toList, rfl, by simpa using k1, k2, ?_, hgr m os d'⟩
  have ecur := put_take1 cur (encN N) d' (by rw [hds]; exact hsc)
  have hmem : ∀ x ∈ d'.toList, x < N := fun x hm => hx x (by have := k1.mem_iff.1 hm; simpa using this)
  have e9 : d'.toList.map (encN N) = (natI d'.toList).map fun z => .int .i64 z := by
    unfold natI
    rw [List.map_map]
    exact List.map_congr_left fun x hm => by unfold encN; rw [nm_id (hmem x hm)]; rfl
  refine ⟨(natI d'.toList).map fun z => [.int .i64 z], ⟨by simp, fun k cs x h3 h4 => by
    rw [List.getElem?_map, h4] at h3
    simp at h3
    exact h3.symm⟩, ?_, .inr ⟨b, c, putCells (encN N) 0 d' cur, ?_, hb, by rw [hblk m os d' b hlt, if_pos rfl], by rw [natI_len]; simp only [Array.length_toList, hds]; omega, hcb, by rw [ecur.1]; exact hcs, ?_⟩⟩
  · rw [flat_len (sz := intK.sz) _ (fun cs hc => by obtain ⟨x, _, rfl⟩ := List.mem_map.1 hc; rfl), List.length_map]
  · rw [natI_len, hsq]; simp [hds]
  · have e8 : ((natI d'.toList).map fun z => [Value.int .i64 z]).flatten = (natI d'.toList).map fun z => .int .i64 z := flat1 _ _
    rw [e8, ← e9, ← ecur.2]
    congr 1
    show (natI d'.toList).length * 1 = _
    rw [natI_len, Nat.mul_one]; simp
end Go.Proofs.YtmcfomainmppdaaGreatDoor
namespace Go.Proofs.YtmcfomainmppdaaGreatDoor.Q
open Go.RowKit
theorem SlV.one0 {α : Type} {K : EK α} {w : World} {p : Option Addr} {n c : Nat} {xs : List α} (h : SlV K w (.slice p n c) xs) : n = xs.length := by
  obtain ⟨css, h1, ⟨rfl, p', c', e⟩ | ⟨g, o, c', e, _⟩⟩ := h
  · injection e with _ e2
  · injection e with _ e2
theorem slv_of {w : World} {v : Value} {xs : List Int} (h : Go.Proofs.YtmcfomainmppdaaGreatDoor.SlV Go.Proofs.YtmcfomainmppdaaGreatDoor.intK w v xs) : SlV intK w v xs := by
  obtain ⟨css, he, h2⟩ := h
  exact ⟨css, ⟨he.len, fun k cs x h1 h2 => he.el k cs x h1 h2⟩, h2⟩
def cmpZ (x y : Int) : Int := if x < y then -1 else if y < x then 1 else 0
def orL : List Int → Int
  | [] => 0
  | x :: l => if x = 0 then orL l else x
theorem orL_hit {xs : List Int} {k : Nat} {x : Int} (hx : xs[k]? = some x) (h : (x != 0) = true) : orL (xs.drop k) = x := by
  obtain ⟨hk, e⟩ := List.getElem?_eq_some_iff.1 hx
  rw [List.drop_eq_getElem_cons hk, e, orL, if_neg (by simpa using h)]
theorem orL_miss {xs : List Int} {k : Nat} {x : Int} (hx : xs[k]? = some x) (h : (x != 0) = false) : orL (xs.drop k) = orL (xs.drop (k + 1)) := by
  obtain ⟨hk, e⟩ := List.getElem?_eq_some_iff.1 hx
  rw [List.drop_eq_getElem_cons hk, e, orL, if_pos (by simpa using h)]
def cfO (D : List Int) (a b : Nat) : Int := orL [cmpZ (atD D b) (atD D a), cmpZ (a : Int) (b : Int)]
theorem cfO_of {D : List Int} {a b : Nat} {x y : Int} (hx : D[a]? = some x) (hy : D[b]? = some y) : cfO D a b = orL [cmpZ y x, cmpZ (a : Int) (b : Int)] := by
  unfold cfO atD List.getD; rw [hx, hy]; rfl
set_option maxRecDepth 100000 in
theorem isNaN_i64  (x : Int) (w : World)   :
    Calls Tryz.prog 169 #[.int .i64 x] w fun e w' => e = .returned (.bool false) ∧ Below w.heap.size w w' := by
  have hK : KS w [] w := (KS.start w)
  refine Calls.hide (fun Q0 hQ0 => ?_)
  go_enter Tryz.func169, Tryz.ntmps169
  go_upto_region 1 with (fail)
  refine wp_region_tx w hK ?_
  clear hK
  iterate 2 (apply txF (wants0 rfl); (· intro w' hK; go_simp; (try go_bits); exact ⟨rfl, rfl⟩); simp only [Act.put, pA, pB, pC])
  apply txF (v := .bool false) (wants0 rfl); (· intro w' hK; go_simp; (try go_bits); exact ⟨congrArg Value.bool (by simp), rfl⟩); simp only [Act.put, pA, pB, pC]
  apply txF (wants0 rfl); (· intro w' hK; go_simp; (try go_bits); exact ⟨rfl, rfl⟩); simp only [Act.put, pA, pB, pC]
  refine txEnd (fun W1 hK => ?_)
  go_wp2
  try go_ret
  show Q0 (.returned (.bool false)) _
  exact (by obtain rfl := hQ0.out; exact ⟨rfl, hK.old⟩)
set_option maxRecDepth 100000 in
theorem compare_i64  (x : Int) (y : Int) (w : World)   :
    Calls Tryz.prog 159 #[.int .i64 x, .int .i64 y] w fun e w' => e = .returned (.int .i64 (cmpZ x y)) ∧ Below w.heap.size w w' := by
  have hK : KS w [] w := (KS.start w)
  refine Calls.hide (fun Q0 hQ0 => ?_)
  go_enter Tryz.func159, Tryz.ntmps159
  go_upto_region 1 with (fail)
  refine wp_region_tx w hK ?_
  clear hK
  apply txF (wants0 rfl); (· intro w' hK; go_simp; (try go_bits); exact ⟨rfl, rfl⟩); simp only [Act.put, pA, pB, pC]
  apply txH (v := .bool false) (wants0 rfl)
  · intro v1 hv1 w' hK; go_simp; (try go_bits); refine (isNaN_i64  x w'  ).mono ?_; rintro e w5 ⟨rfl, hb⟩; obtain rfl := hv1.out; exact ⟨_, rfl, rfl, hb⟩
  simp only [Act.put, pA, pB, pC]
  apply txF (wants0 rfl); (· intro w' hK; go_simp; (try go_bits); exact ⟨rfl, rfl⟩); simp only [Act.put, pA, pB, pC]
  refine txEnd (fun W1 hK => ?_)
  go_upto_region 2 with (fail)
  refine wp_region_tx w hK ?_
  clear hK
  apply txF (wants0 rfl); (· intro w' hK; go_simp; (try go_bits); exact ⟨rfl, rfl⟩); simp only [Act.put, pA, pB, pC]
  apply txH (v := .bool false) (wants0 rfl)
  · intro v1 hv1 w' hK; go_simp; (try go_bits); refine (isNaN_i64  y w'  ).mono ?_; rintro e w5 ⟨rfl, hb⟩; obtain rfl := hv1.out; exact ⟨_, rfl, rfl, hb⟩
  simp only [Act.put, pA, pB, pC]
  apply txF (wants0 rfl); (· intro w' hK; go_simp; (try go_bits); exact ⟨rfl, rfl⟩); simp only [Act.put, pA, pB, pC]
  refine txEnd (fun W2 hK => ?_)
  go_upto_region 9 with (fail)
  refine wp_region_tx w hK ?_
  clear hK
  iterate 2 (apply txF (wants0 rfl); (· intro w' hK; go_simp; (try go_bits); exact ⟨rfl, rfl⟩); simp only [Act.put, pA, pB, pC])
  obtain ⟨b1, hb1⟩ : ∃ b : Bool, RowKit.Hid (decide (x < y) = b) := ⟨_, hid rfl⟩
  apply txB b1 (wants0 rfl); (· intro w' hK; go_simp; (try go_bits); exact ⟨by have q := hb1.out; subst q; first | rfl | simp, rfl⟩); simp only [Act.put, pA, pB, pC]
  refine txEnd (fun W3 hK => ?_)
  cases b1
  · --
   have q_b1 : y ≤ x := Int.not_lt.1 (of_decide_eq_false hb1.out)
   go_upto_region 11 with (fail)
   refine wp_region_tx w hK ?_
   clear hK
   iterate 2 (apply txF (wants0 rfl); (· intro w' hK; go_simp; (try go_bits); exact ⟨rfl, rfl⟩); simp only [Act.put, pA, pB, pC])
   obtain ⟨b2, hb2⟩ : ∃ b : Bool, RowKit.Hid (decide (y < x) = b) := ⟨_, hid rfl⟩
   apply txB b2 (wants0 rfl); (· intro w' hK; go_simp; (try go_bits); exact ⟨by have q := hb2.out; subst q; first | rfl | simp, rfl⟩); simp only [Act.put, pA, pB, pC]
   refine txEnd (fun W4 hK => ?_)
   cases b2
   · --
    have q_b2 : x ≤ y := Int.not_lt.1 (of_decide_eq_false hb2.out)
    go_wp2
    try go_ret
    show Q0 (.returned (.int .i64 0)) _
    exact (by obtain rfl := hQ0.out; exact ⟨(by rw [show cmpZ x y = 0 from (if_neg (by omega)).trans (if_neg (by omega))]), hK.old⟩)
   · --
    have q_b2 : y < x := of_decide_eq_true hb2.out
    go_wp2
    try go_ret
    show Q0 (.returned (.int .i64 1)) _
    exact (by obtain rfl := hQ0.out; exact ⟨(by rw [show cmpZ x y = 1 from (if_neg (by omega)).trans (if_pos q_b2)]), hK.old⟩)
  · --
   have q_b1 : x < y := of_decide_eq_true hb1.out
   go_wp2
   try go_ret
   show Q0 (.returned (.int .i64 (-1))) _
   exact (by obtain rfl := hQ0.out; exact ⟨(by rw [show cmpZ x y = -1 from if_pos q_b1]), hK.old⟩)
set_option maxRecDepth 100000 in
theorem or_any (v0 : Value) (xs : List Int) (w : World) (h0 : SlV intK w v0 xs) (hl : xs.length ≤ 100) :
    Calls Tryz.prog 158 #[v0] w fun e w' => e = .returned (.int .i64 (orL xs)) ∧ Below w.heap.size w w' := by
  have h0_0 := h0; obtain ⟨p_h0, c_h0, rfl, n_h0⟩ := h0.sh
  have hK : KS w [] w := (KS.start w)
  refine Calls.hide (fun Q0 hQ0 => ?_)
  go_enter Tryz.func158, Tryz.ntmps158
  go_wp2_with fail
  go_loopw [8] (fun s8 wl => ∃ (k : Nat), s8 = .int .i64 (k : Int) ∧ (k ≤ xs.length) ∧ RowKit.Hid (orL xs = orL (xs.drop k)) ∧ KS w [] wl) (fun s8 _ => xs.length - (intOf s8).toNat)
  case atStart => exact ⟨0, rfl, (by omega), (hid (by rw [List.drop_zero])), ⟨hK.old, aN⟩⟩
  case round =>
   clear hK
   obtain ⟨k, rfl, hk, ho, hK⟩ := hrel
   generalize wr = W1 at hK ⊢
   go_upto_region 3 with (fail)
   refine wp_region_tx w hK ?_
   clear hK
   obtain ⟨b1, hb1⟩ : ∃ b : Bool, RowKit.Hid (decide (((k : Int)) < ((xs.length : Int))) = b) := ⟨_, hid rfl⟩
   apply txB b1 (wants0 rfl); (· intro w' hK; go_simp; (try go_bits); exact ⟨by have q := hb1.out; subst q; first | rfl | simp, rfl⟩); simp only [Act.put, pA, pB, pC]
   refine txEnd (fun W2 hK => ?_)
   cases b1
   · --
    have q_b1 : ((xs.length : Int)) ≤ ((k : Int)) := Int.not_lt.1 (of_decide_eq_false hb1.out)
    go_wp2
    try go_ret
    show Q0 (.returned (.int .i64 0)) _
    exact (by obtain rfl := hQ0.out; exact ⟨(by rw [ho.out, List.drop_eq_nil_of_le (by omega)]; rfl), hK.old⟩)
   · --
    have q_b1 : ((k : Int)) < ((xs.length : Int)) := of_decide_eq_true hb1.out
    obtain ⟨x4, ex4⟩ : ∃ x, RowKit.Hid (xs[k]? = some x) := ⟨_, hid (List.getElem?_eq_getElem (show k < xs.length from (by omega)))⟩
    have i3 : k < xs.length := by have q : k < xs.length := (by omega); first | exact q | (simp at q; omega) | omega
    obtain ⟨g3, o3, q3, l3⟩ := (h0_0).ptr ex4.out
    subst q3
    replace hK := KS.atI hK (h0_0.below hK.old) ex4.out
    go_upto_region 4 with (fail)
    refine wp_region_tx w hK ?_
    clear hK
    apply txF (wants0 rfl); (· intro w' hK; go_simp; (try go_bits); exact ⟨rfl, rfl⟩); simp only [Act.put, pA, pB, pC]
    apply txF (wants0 rfl); (· intro w' hK; have c_CEL3_0 : w'.cell? ⟨g3, o3 + k, none⟩ = some (.int .i64 x4) := (by have q := (hK.get m0).2 0 _ rfl; simpa using q); go_simp; (try go_bits); exact ⟨rfl, rfl⟩); simp only [Act.put, pA, pB, pC]
    apply txF (wants0 rfl); (· intro w' hK; go_simp; (try go_bits); exact ⟨rfl, rfl⟩); simp only [Act.put, pA, pB, pC]
    refine txEnd (fun W4 hK => ?_)
    go_upto_region 5 with (fail)
    refine wp_region_tx w hK ?_
    clear hK
    iterate 2 (apply txF (wants0 rfl); (· intro w' hK; go_simp; (try go_bits); exact ⟨rfl, rfl⟩); simp only [Act.put, pA, pB, pC])
    obtain ⟨b2, hb2⟩ : ∃ b : Bool, RowKit.Hid ((x4 != 0) = b) := ⟨_, hid rfl⟩
    apply txB b2 (wants0 rfl); (· intro w' hK; go_simp; (try go_bits); exact ⟨by have q := hb2.out; subst q; first | rfl | simp, rfl⟩); simp only [Act.put, pA, pB, pC]
    refine txEnd (fun W5 hK => ?_)
    cases b2
    · --
     (try go_wp2)
     go_roundw
     case rel => exact ⟨k + 1, (by first | rfl | go_num), (by omega), (hid (ho.out.trans (orL_miss ex4.out hb2.out))), ⟨hK.old, aN⟩⟩
     case measure => simp [intOf] <;> omega
    · --
     go_wp2
     try go_ret
     show Q0 (.returned (.int .i64 x4)) _
     exact (by obtain rfl := hQ0.out; exact ⟨(by rw [ho.out, orL_hit ex4.out hb2.out]), hK.old⟩)
set_option maxRecDepth 100000 in
theorem ord_any  (b0 R : Nat) (p : Option Addr) (n c : Nat) (D : List Int) (na nb : Nat) (w : World)  (hB : Has b0 R (.cells #[.slice p n c] 29) w) (hD : SlV intK w (.slice p n c) D) (ha0 : na < D.length) (hb0 : nb < D.length) :
    Calls Tryz.prog 157 #[.int .i64 (na : Int), .int .i64 (nb : Int), .pointer (some ⟨R, 0, none⟩)] w fun e w' => e = .returned (.int .i64 (cfO D na nb)) ∧ Below w.heap.size w w' := by
  have hK : KS w [] w := (KS.start w)
  replace hK := hK.add (F := Has b0 R (.cells #[.slice p n c] 29)) (fun w' hb => hB.below hb)
  have hn1 := hid (show n = D.length from hD.one0); have hn1a := Nat.le_of_eq hn1.out; have hn1b := Nat.le_of_eq hn1.out.symm
  obtain ⟨y, ey⟩ : ∃ x, RowKit.Hid (D[nb]? = some x) := ⟨_, hid (List.getElem?_eq_getElem (show nb < D.length from hb0))⟩
  have i1 : nb < n := by have q : nb < D.length := hb0; first | exact q | (simp at q; omega) | omega
  obtain ⟨g1, o1, q1, l1⟩ := (hD).ptr ey.out
  subst q1
  replace hK := KS.atI hK (hD.below hK.old) ey.out
  obtain ⟨x, ex⟩ : ∃ x, RowKit.Hid (D[na]? = some x) := ⟨_, hid (List.getElem?_eq_getElem (show na < D.length from ha0))⟩
  have i2 : na < n := by have q : na < D.length := ha0; first | exact q | (simp at q; omega) | omega
  replace hK := KS.atI hK (hD.below hK.old) ex.out
  refine Calls.hide (fun Q0 hQ0 => ?_)
  go_enter Tryz.func157, Tryz.ntmps157
  go_upto_region 1 with (fail)
  have z_R : R < w.heap.size := (hK.get m2).ltS
  have v_w := hK.old.size
  have hD_w := hD.below hK.old
  have hKo := hK
  replace hK := hK.re
  have hK0 := hK
  refine wp_region_float0 (w) _ _ [0, 0, 0, 0, 0, 0, 0, 0, 1, 0, 0, 1, 3, 1, 0] (by kernel_rfl) (by kernel_rfl) (by kernel_rfl) (by kernel_rfl) (KS.drew hK0) (KS.drew hK) ?_
  clear hK hK0
  apply lxF0 (wants0 rfl); (· intro w' h0; have k_R := (h0.get m2); have c_R_0 := k_R.at 0 rfl; go_simp; (try go_bits); exact ⟨rfl, rfl⟩); simp only [Act.put, pA, pB, pC]
  iterate 2 (apply lxF0 (wants0 rfl); (· intro w' h0; go_simp; (try go_bits); exact ⟨rfl, rfl⟩); simp only [Act.put, pA, pB, pC])
  apply lxF0 (wants0 rfl); (· intro w' h0; have c_CEL1_0 : w'.cell? ⟨g1, o1 + nb, none⟩ = some (.int .i64 y) := (by have q := (h0.get m1).2 0 _ rfl; simpa using q); go_simp; (try go_bits); exact ⟨rfl, rfl⟩); simp only [Act.put, pA, pB, pC]
  apply lxF0 (wants0 rfl); (· intro w' h0; have k_R := (h0.get m2); have c_R_0 := k_R.at 0 rfl; go_simp; (try go_bits); exact ⟨rfl, rfl⟩); simp only [Act.put, pA, pB, pC]
  iterate 2 (apply lxF0 (wants0 rfl); (· intro w' h0; go_simp; (try go_bits); exact ⟨rfl, rfl⟩); simp only [Act.put, pA, pB, pC])
  apply lxF0 (wants0 rfl); (· intro w' h0; have c_CEL2_0 : w'.cell? ⟨g1, o1 + na, none⟩ = some (.int .i64 x) := (by have q := (h0.get m0).2 0 _ rfl; simpa using q); go_simp; (try go_bits); exact ⟨rfl, rfl⟩); simp only [Act.put, pA, pB, pC]
  obtain ⟨z1, hz1⟩ : ∃ b : Int, RowKit.Hid ((cmpZ y x) = b) := ⟨_, hid rfl⟩
  apply lxH1 (v := .int .i64 z1) (wants0 rfl)
  · intro v1 hv1 w' h0 hK; go_simp; (try go_bits); refine (compare_i64  y x w'  ).mono ?_; rintro e w5 ⟨rfl, hb⟩; obtain rfl := hv1.out; exact ⟨_, rfl, (by rw [hz1.out]), hb⟩
  simp only [Act.put, pA, pB, pC]
  iterate 2 (apply lxF0 (wants0 rfl); (· intro w' h0; go_simp; (try go_bits); exact ⟨rfl, rfl⟩); simp only [Act.put, pA, pB, pC])
  obtain ⟨z2, hz2⟩ : ∃ b : Int, RowKit.Hid ((cmpZ ((na : Int)) ((nb : Int))) = b) := ⟨_, hid rfl⟩
  apply lxH1 (v := .int .i64 z2) (wants0 rfl)
  · intro v1 hv1 w' h0 hK; go_simp; (try go_bits); refine (compare_i64  ((na : Int)) ((nb : Int)) w'  ).mono ?_; rintro e w5 ⟨rfl, hb⟩; obtain rfl := hv1.out; exact ⟨_, rfl, (by rw [hz2.out]), hb⟩
  simp only [Act.put, pA, pB, pC]
  apply lxA0 (.cells #[.int .i64 z1, .int .i64 z2] 3) (wants0 rfl)
  · intro w' h0; go_simp; rfl
  intro R3
  simp only [mkOf, Act.put, pA, pB, pC]
  obtain ⟨z3, hz3⟩ : ∃ b : Int, RowKit.Hid ((orL ([z1, z2])) = b) := ⟨_, hid rfl⟩
  apply lxH1 (v := .int .i64 z3) (wants0 rfl)
  · intro v1 hv1 w' h0 hK; go_simp; (try go_bits); refine (or_any (.slice (some ⟨R3, 0, none⟩) 2 2) ([z1, z2]) w' (SlV.ofBox (K := intK) (f := fun x => [.int .i64 x]) (xs := [z1, z2]) (fun _ _ => rfl) (hK.get m0) (by simp)) (by simp)).mono ?_; rintro e w5 ⟨rfl, hb⟩; obtain rfl := hv1.out; exact ⟨_, rfl, (by rw [hz3.out]), hb⟩
  simp only [Act.put, pA, pB, pC]
  apply lxF0 (wants0 rfl); (· intro w' h0; go_simp; (try go_bits); exact ⟨rfl, rfl⟩); simp only [Act.put, pA, pB, pC]
  refine lxEnd (fun W4 hK => ?_)
  go_wp2
  try go_ret
  show Q0 (.returned (.int .i64 z3)) _
  exact (by obtain rfl := hQ0.out; exact ⟨(by rw [cfO_of ex.out ey.out, hz1.out, hz2.out, hz3.out]), hK.old⟩)
end Go.Proofs.YtmcfomainmppdaaGreatDoor.Q
namespace Go.Proofs.YtmcfomainmppdaaGreatDoor
open Go.RowKit
open Go.Lib (decDigits)
open Go.Sort Go.Shelf in
theorem lt_ord {D : List Int} {x y : Nat} : ltOf (Q.cfO D) x y = true ↔ bfO D x y := by
  unfold ltOf Q.cfO Q.cmpZ Q.orL Q.orL Q.orL bfO
  rw [decide_eq_true_iff]
  (repeat' split) <;> omega
open Go.Sort Go.Shelf in
theorem ord_swo (D : List Int) (N : Nat) : SWO (ltOf fun x y => Q.cfO D (nmN N x) (nmN N y)) := by
  have e : ∀ x y, ltOf (fun x y => Q.cfO D (nmN N x) (nmN N y)) x y = true ↔ bfO D (nmN N x) (nmN N y) := fun x y => lt_ord
  have e0 : ∀ x y, ltOf (fun x y => Q.cfO D (nmN N x) (nmN N y)) x y = false ↔ ¬ bfO D (nmN N x) (nmN N y) := fun x y => by rw [← e, Bool.not_eq_true]
  exact ⟨fun x => (e0 x x).2 (by unfold bfO; omega), fun x y z h1 h2 => (e x z).2 (by have q1 := (e x y).1 h1; have q2 := (e y z).1 h2; unfold bfO at *; omega), fun x y z h1 h2 => (e0 x z).2 (by have q1 := (e0 x y).1 h1; have q2 := (e0 y z).1 h2; unfold bfO at *; omega)⟩
def ndsD (D : List Int) : List Nat := selD (fun n => decide (0 ≤ atD D n)) D.length
theorem mem_nds {D : List Int} {x : Nat} : x ∈ ndsD D ↔ x < D.length ∧ 0 ≤ atD D x := by unfold ndsD selD; rw [List.mem_filter, List.mem_range, decide_eq_true_iff]
noncomputable def ordD (D : List Int) : List Nat := Classical.epsilon (IsOrd D.length D)
open Go.Sort Go.Shelf in
theorem ord_of {D : List Int} {ys : List Nat} (hp : ys.Perm (ndsD D)) (hs : ys.Pairwise fun x y => ltOf (fun x y => Q.cfO D (nmN D.length x) (nmN D.length y)) y x = false) : IsOrd D.length D ys := by
  have hm : ∀ x, x ∈ ys ↔ x < D.length ∧ 0 ≤ atD D x := fun x => hp.mem_iff.trans mem_nds
  have hnd : ys.Nodup := hp.nodup_iff.2 (List.Pairwise.filter _ List.nodup_range)
  refine ⟨?_, hm⟩
  refine (hs.and hnd).imp_of_mem fun {x y} hx hy h => ?_
  have q : ¬ bfO D y x := by
    have h1 := h.1
    rw [Bool.eq_false_iff] at h1
    intro q
    refine h1 ?_
    show ltOf (Q.cfO D) (nmN D.length y) (nmN D.length x) = true
    rw [nm_id ((hm x).1 hx).1, nm_id ((hm y).1 hy).1]; exact lt_ord.2 q
  have hne : x ≠ y := h.2
  unfold bfO at *; omega
theorem ord_eq {D : List Int} {ys : List Nat} (h : IsOrd D.length D ys) : ys = ordD D := h.eq (Classical.epsilon_spec ⟨ys, h⟩)
theorem SS.set0 {V w : World} {f f' : Ft} {l : List Ft} (h : SS V ((f :: l).set 0 f') w) : SS V (f' :: l) w := h
theorem sortO_any (w V : World) {p_D : Option Addr} {n_D c_D : Nat} {D : List Int} (hD : SlV intK V (.slice p_D n_D c_D) D) {R n c : Nat} {p : Option Addr} (l : List Ft) (hK : SS V (rO intK 3 p n c (natI (ndsD D)) :: bx R (.cells #[.slice p_D n_D c_D] 29) :: l) w) (hz : OzA l) (hN : 0 < D.length) (hb : D.length ≤ 100000) :
    Calls Tryz.prog 156 #[.slice p n c, .func (.func 157) #[] #[.pointer (some ⟨R, 0, none⟩)]] w fun e w' => ∃ _ : Unit, e = .returned (.tuple #[]) ∧ SS V (cF (IsOrd D.length D (ordD D)) :: rO intK 3 p n c (natI (ordD D)) :: bx R (.cells #[.slice p_D n_D c_D] 29) :: l) w' := by
  have hxl : (ndsD D).length ≤ D.length := by unfold ndsD selD; exact Nat.le_trans (List.length_filter_le _ _) (by simp)
  have hap := (List.pairwise_cons.1 hK.ap).1 _ (List.mem_cons_self ..)
  refine (sortI_any Tryz.sortI D.length hN (Q.cfO D) (ord_swo D D.length) 157 #[.pointer (some ⟨R, 0, none⟩)] (enters_of Tryz.func157 (by kernel_rfl) rfl) (fun x y W hx hy hg => ?_) (hK.own (List.mem_cons_self ..)) (fun x hx => (mem_nds.1 hx).1) (by omega)).mono ?_
  · have h1 := hK.turn (f' := cF True) (i := 0) rfl hg (fun R e => e) (qtZ ⟨rfl, hz⟩) trivial (fun _ h => h.elim)
    exact Q.ord_any 0 R p_D n_D c_D D x y W (h1.box (List.mem_cons_of_mem _ (List.mem_cons_self ..))) (Q.slv_of (hD.below h1.old)) hx hy
  · rintro e w' ⟨ys, rfl, h1, h2, h3, h4⟩
    have hI := ord_of h1 h2
    obtain rfl := ord_eq hI
    exact ⟨(), rfl, (SS.set0 (hK.turn (f' := rO intK 3 p n c (natI (ordD D))) (i := 0) rfl h4 (fun R e => e) (qtZ ⟨rfl, hz⟩) h3 (fun g h => .inl h))).fact (cF (IsOrd D.length D (ordD D))) hI⟩
set_option maxRecDepth 100000 in
theorem sorted_any (w : World) {p_D : Option Addr} {n_D c_D : Nat} {D : List Int} (hD : SlV intK w (.slice p_D n_D c_D) D) (hD0 : 0 < D.length) (hDl : D.length ≤ 100000) :
    Calls Tryz.prog 140 #[.slice p_D n_D c_D] w fun e w' => ∃ x : Sl, e = .returned (.slice x.p x.l x.c) ∧ SS w [rO intK 3 x.p x.l x.c (natI (ordD D)), cF (IsOrd D.length D (ordD D))] w' := by
  have hK := SS.start w
  have hDn := hD.one0
  refine Calls.hide (fun Q0 hQ0 => ?_)
  go_enter Tryz.func140, Tryz.ntmps140
  go_upto_region 0 with (fail)
  refine wp_region_T [3, 0] hK ?_
  clear hK
  refine eA (.cells #[.slice p_D n_D c_D] 29) (fun R1 => ?_)
  refine e0 ?_
  refine sxEnd (fun W2 hK => ?_)
  go_upto_region 2 with (fail)
  refine wp_region_T [1, 0, 0] hK ?_
  clear hK
  refine eL m0 ?_
  iterate 2 refine e0 ?_
  refine sxEnd (fun W3 hK => ?_)
  replace hK := hK.fact (rO intK 3 none 0 0 (natI (selD (fun n => decide (0 ≤ atD D n)) 0))) OwV.nil (fun _ h => by cases h)
  go_wp2_with fail
  go_loopw [8, 3] (fun s8 s3 wl => ∃ (j : Nat) (p : Option Addr) (n_ : Nat) (c : Nat), s8 = .int .i64 (j : Int) ∧ s3 = .slice p n_ c ∧ (j ≤ n_D) ∧ SS w ([rO intK 3 p n_ c (natI (selD (fun n => decide (0 ≤ atD D n)) j)), bx R1 (.cells #[.slice p_D n_D c_D] 29)]) wl) (fun s8 s3 _ => n_D - (intOf s8).toNat)
  case atStart => exact ⟨0, none, 0, 0, rfl, rfl, (by omega), hK⟩
  case round =>
   clear hK
   obtain ⟨j, p, n_, c, rfl, rfl, hj0, hK⟩ := hrel
   generalize wr = W4 at hK ⊢
   go_upto_region 3 with (fail)
   refine wp_region_T [0] hK ?_
   clear hK
   refine eB (decide (((j : Int)) < ((n_D : Int)))) (fun b1 hb1 => ?_)
   refine sxEnd (fun W5 hK => ?_)
   cases b1
   · --
    have q_b1 : ((n_D : Int)) ≤ ((j : Int)) := Int.not_lt.1 (of_decide_eq_false hb1.out)
    have hjn := hid (show j = D.length by have := hD.one0; omega)
    rw [show natI (selD (fun n => decide (0 ≤ atD D n)) j) = natI (ndsD D) from (by unfold ndsD; rw [hjn.out])] at hK
    go_upto_region 8 with (fail)
    refine wp_region_T [0, 0, 4] hK ?_
    clear hK
    iterate 2 refine e0 ?_
    refine eM (fun w k => sortO_any w _ hD _ (k.up1.up1) trivial hD0 hDl) (fun x6 => ?_)
    refine sxEnd (fun W7 hK => ?_)
    go_wp2
    try go_ret
    show Q0 (.returned (.slice p n_ c)) _
    exact (by obtain rfl := hQ0.out; exact ⟨⟨p, n_, c⟩, rfl, (hK.subl (sK2 (sK2 (sC2 sZ2)))).up1⟩)
   · --
    have q_b1 : ((j : Int)) < ((n_D : Int)) := of_decide_eq_true hb1.out
    have hj : j < n_D := by omega
    have i8 : j < n_D := hj
    obtain ⟨g8, o8, rfl⟩ := hD.pt i8
    have l8 : j < D.length := Nat.lt_of_lt_of_eq i8 (hD.one0)
    obtain ⟨dn, edn⟩ : ∃ x, RowKit.Hid (D[j]? = some x) := ⟨_, hid (List.getElem?_eq_getElem l8)⟩
    go_upto_region 4 with (fail)
    refine wp_region_T [0, 0, 0, 0, 0] hK ?_
    clear hK
    iterate 2 refine e0 ?_
    refine eR0 (fun w k => (hD.below k.old).int edn.out) ?_
    iterate 2 refine e0 ?_
    refine sxEnd (fun W9 hK => ?_)
    go_upto_region 5 with (fail)
    refine wp_region_T [0, 0] hK ?_
    clear hK
    refine e0 ?_
    refine eB (decide (0 ≤ dn)) (fun b2 hb2 => ?_)
    refine sxEnd (fun W10 hK => ?_)
    cases b2
    · --
     have q_b2 : dn < 0 := Int.not_le.1 (of_decide_eq_false hb2.out)
     rw [show natI (selD (fun n => decide (0 ≤ atD D n)) j) = natI (selD (fun n => decide (0 ≤ atD D n)) (j + 1)) from (by rw [sel_no (decide_eq_false (by rw [atD_of edn.out]; omega))])] at hK
     (try go_wp2)
     go_roundw
     case rel => exact ⟨j + 1, p, n_, c, (by first | rfl | go_num), (by first | rfl | go_num), (by omega), hK⟩
     case measure => simp [intOf] <;> omega
    · --
     have q_b2 : 0 ≤ dn := of_decide_eq_true hb2.out
     go_upto_region 6 with (fail)
     refine wp_region_T [0, 0, 3, 5, 0] hK ?_
     clear hK
     iterate 2 refine e0 ?_
     refine eA (.cells #[.int .i64 (j : Int)] 3) (fun R11 => ?_)
     refine eApp 1 intK_free rfl infoZ (fun w k => k.one1 (K := intK) (x := (j : Int)) m0 rfl) (by have := sel_len (fun n => decide (0 ≤ atD D n)) j; rw [natI_len]; simp; omega) (fun x12 => ?_)
     obtain ⟨p12, n12, c12⟩ := x12; dsimp only
     refine e0 ?_
     refine sxEnd (fun W13 hK => ?_)
     rw [show (natI (selD (fun n => decide (0 ≤ atD D n)) j)) ++ [(j : Int)] = natI (selD (fun n => decide (0 ≤ atD D n)) (j + 1)) from (by rw [natI_snoc, sel_yes (decide_eq_true (by rw [atD_of edn.out]; omega))])] at hK
     (try go_wp2)
     go_roundw
     case rel => exact ⟨j + 1, p12, n12, c12, (by first | rfl | go_num), (by first | rfl | go_num), (by omega), (hK.subl (sC2 (List.Sublist.refl _)))⟩
     case measure => simp [intOf] <;> omega
end Go.Proofs.YtmcfomainmppdaaGreatDoor
