/- Merged lists of demands: what both programs compute, and its law. -/
import Derived.Test.YtjhgkojbpgakcaaGreatDoorDemK
import Derived.Test.YtjhgkojbpgakcaaGreatDoorMap3
import Derived.Test.YtjhgkojbpgakcaaGreatDoorSortC
namespace Go.Proofs.YtjhgkojbpgakcaaGreatDoor
open Go.RowKit Go.Sort
def triD (x : Dm) : Tri := (x.s, x.d, x.p)
def keysT (ys : List Dm) : List Tri := ys.map triD
theorem keysT_len (ys : List Dm) : (keysT ys).length = ys.length := List.length_map ..
theorem keysT_add (ys : List Dm) (x : Dm) : keysT ys ++ [(x.s, x.d, x.p)] = keysT (ys ++ [x]) := by unfold keysT; rw [List.map_append]; rfl
def upD (y x : Dm) : Dm := ⟨y.s, y.d, y.a + x.a, y.p⟩
theorem upD_tri (y x : Dm) : triD (upD y x) = triD y := rfl
def addD (ys : List Dm) (x : Dm) : List Dm :=
  if lkB (keysT ys) (triD x) = true then ys.set (lkV (keysT ys) (triD x)) (upD (ys[lkV (keysT ys) (triD x)]?.getD default) x) else ys ++ [x]
theorem keysT_at {ys : List Dm} {x : Dm} (h : lkB (keysT ys) (triD x) = true) : ∃ y, ys[lkV (keysT ys) (triD x)]? = some y ∧ triD y = triD x := by
  have e := lk_t h
  unfold keysT at e ⊢
  rw [List.getElem?_map] at e
  cases hy : ys[lkV (ys.map triD) (triD x)]? with
  | none => rw [hy] at e; cases e
  | some y => rw [hy] at e; exact ⟨y, rfl, Option.some.inj e⟩
theorem keysT_no {ys : List Dm} {x : Dm} (h : lkB (keysT ys) (triD x) = false) : ∀ y ∈ ys, triD y ≠ triD x := fun y hy e =>
  (lk_f h).1 (by rw [← e]; exact List.mem_map_of_mem hy)
theorem addD_t {ys : List Dm} {x y : Dm} {j : Nat} (h : lkB (keysT ys) (triD x) = true) (hj : lkV (keysT ys) (triD x) = j) (hy : ys[j]? = some y) : addD ys x = ys.set j (upD y x) := by
  unfold addD; rw [if_pos h, hj, hy]; rfl
theorem addD_f {ys : List Dm} {x : Dm} (h : lkB (keysT ys) (triD x) = false) : addD ys x = ys ++ [x] := by
  unfold addD; rw [if_neg (by rw [h]; decide)]
def accD (xs : List Dm) : List Dm := xs.foldl addD []
theorem accD_step {xs : List Dm} {k : Nat} {x : Dm} (hx : xs[k]? = some x) : accD (xs.take (k + 1)) = addD (accD (xs.take k)) x := by
  unfold accD; rw [List.take_add_one, hx]; simp
def insD : List Dm → Dm → List Dm
  | [], x => [x]
  | y :: ys, x => if keyD y < keyD x then y :: insD ys x else if keyD y = keyD x then upD y x :: ys else x :: y :: ys
def racD (xs : List Dm) : List Dm := xs.foldl insD []
def amtD (t : Tri) (xs : List Dm) : Int := sumD (fun y => decide (triD y = t)) xs
structure MgD (xs M : List Dm) : Prop where
  mem : ∀ m, m ∈ M ↔ (∃ x ∈ xs, triD x = triD m) ∧ m.a = amtD (triD m) xs
  one : M.Pairwise fun a b => triD a ≠ triD b
theorem MgD.perm {xs M M' : List Dm} (h : MgD xs M) (hp : M.Perm M') : MgD xs M' :=
  ⟨fun m => hp.mem_iff.symm.trans (h.mem m), (hp.pairwise_iff fun h => h.symm).1 h.one⟩
theorem amtD_perm {t : Tri} {xs ys : List Dm} (h : xs.Perm ys) : amtD t xs = amtD t ys := by
  unfold amtD
  induction h with
  | nil => rfl
  | cons x _ ih => rw [sumD, sumD, ih]
  | swap x y l => rw [sumD, sumD, sumD, sumD]; omega
  | trans _ _ ih1 ih2 => exact ih1.trans ih2
theorem MgD.src {xs ys M : List Dm} (h : MgD xs M) (hp : xs.Perm ys) : MgD ys M :=
  ⟨fun m => by rw [h.mem m, amtD_perm hp]; exact and_congr_left' ⟨fun ⟨x, hx, e⟩ => ⟨x, hp.mem_iff.1 hx, e⟩, fun ⟨x, hx, e⟩ => ⟨x, hp.mem_iff.2 hx, e⟩⟩, h.one⟩
theorem MgD.uniq {xs M M' : List Dm} (h : MgD xs M) (h' : MgD xs M') : M.Perm M' := by
  have nd : ∀ {L : List Dm}, (L.Pairwise fun a b => triD a ≠ triD b) → L.Nodup := fun hL => hL.imp fun h e => h (by rw [e])
  exact (List.perm_ext_iff_of_nodup (nd h.one) (nd h'.one)).2 fun m => (h.mem m).trans (h'.mem m).symm
theorem MgD.nil : MgD [] [] := ⟨fun m => by simp, .nil⟩
theorem amtD_app (t : Tri) (xs : List Dm) (x : Dm) : amtD t (xs ++ [x]) = amtD t xs + if triD x = t then x.a else 0 := by
  unfold amtD; rw [sumD_append]; simp [sumD]
theorem amtD_no {t : Tri} : ∀ {xs : List Dm}, (∀ x ∈ xs, triD x ≠ t) → amtD t xs = 0
  | [], _ => rfl
  | x :: xs, h => by
    have h1 := amtD_no (t := t) (xs := xs) fun y hy => h y (List.mem_cons_of_mem _ hy)
    unfold amtD at h1 ⊢
    rw [sumD, h1, if_neg (by simp [h x (List.mem_cons_self ..)])]; rfl
theorem MgD.up {xs A B : List Dm} {x y : Dm} (h : MgD xs (A ++ y :: B)) (e : triD y = triD x) : MgD (xs ++ [x]) (A ++ upD y x :: B) := by
  have ho := h.one
  rw [List.pairwise_append, List.pairwise_cons] at ho
  obtain ⟨hA, ⟨hy, hB⟩, hAB⟩ := ho
  have hyx := (h.mem y).1 (by simp)
  refine ⟨fun m => ?_, ?_⟩
  · rw [amtD_app]
    by_cases hm : triD m = triD x
    · have n1 : m ∉ A := fun hm' => hAB m hm' y (List.mem_cons_self ..) (by rw [hm, e])
      have n2 : m ∉ B := fun hm' => hy m hm' (by rw [hm, e])
      have : m ∈ A ++ upD y x :: B ↔ m = upD y x := by simp [n1, n2]
      rw [this, if_pos hm.symm]
      refine ⟨fun he => ?_, fun ⟨_, ha⟩ => ?_⟩
      · subst he
        refine ⟨⟨x, by simp, by rw [upD_tri, e]⟩, ?_⟩
        show y.a + x.a = _
        rw [upD_tri, ← hyx.2]
      · have : m.a = y.a + x.a := by rw [ha, hyx.2, hm, e]
        unfold triD at hm e
        simp only [Prod.mk.injEq] at hm e
        exact Dm.eq (by show m.s = y.s; omega) (by show m.d = y.d; omega) this (by show m.p = y.p; omega)
    · have n0 : m ≠ upD y x := fun he => hm (by rw [he, upD_tri, e])
      have n3 : m ≠ y := fun he => hm (by rw [he, e])
      have : m ∈ A ++ upD y x :: B ↔ m ∈ A ++ y :: B := by simp [n0, n3]
      rw [this, h.mem m, if_neg (fun q => hm q.symm), Int.add_zero]
      refine and_congr_left' ⟨fun ⟨z, hz, ez⟩ => ⟨z, by simp [hz], ez⟩, fun ⟨z, hz, ez⟩ => ?_⟩
      rcases List.mem_append.1 hz with hz | hz
      · exact ⟨z, hz, ez⟩
      · simp at hz; subst hz; exact absurd ez.symm hm
  · rw [List.pairwise_append, List.pairwise_cons]
    refine ⟨hA, ⟨fun b hb => hy b hb, hB⟩, fun a ha b hb => ?_⟩
    rcases List.mem_cons.1 hb with rfl | hb
    · rw [upD_tri]; exact hAB a ha y (List.mem_cons_self ..)
    · exact hAB a ha b (List.mem_cons_of_mem _ hb)
theorem MgD.new {xs M M' : List Dm} {x : Dm} (h : MgD xs M) (hn : ∀ y ∈ M, triD y ≠ triD x) (hp : (x :: M).Perm M') : MgD (xs ++ [x]) M' := by
  refine MgD.perm ⟨fun m => ?_, ?_⟩ hp
  · have hx : ∀ z ∈ xs, triD z ≠ triD x := fun z hz e => by
      have := (h.mem ⟨z.s, z.d, amtD (triD z) xs, z.p⟩).2 ⟨⟨z, hz, rfl⟩, rfl⟩
      exact hn _ this e
    rw [amtD_app]
    by_cases hm : triD m = triD x
    · have n1 : m ∉ M := fun hm' => hn m hm' hm
      have : m ∈ x :: M ↔ m = x := by simp [n1]
      rw [this, if_pos hm.symm, hm, amtD_no hx, Int.zero_add]
      refine ⟨fun he => by subst he; exact ⟨⟨m, by simp, rfl⟩, rfl⟩, fun ⟨_, ha⟩ => ?_⟩
      unfold triD at hm
      simp only [Prod.mk.injEq] at hm
      exact Dm.eq hm.1 hm.2.1 ha hm.2.2
    · have n0 : m ≠ x := fun he => hm (by rw [he])
      have : m ∈ x :: M ↔ m ∈ M := by simp [n0]
      rw [this, h.mem m, if_neg (fun q => hm q.symm), Int.add_zero]
      refine and_congr_left' ⟨fun ⟨z, hz, ez⟩ => ⟨z, by simp [hz], ez⟩, fun ⟨z, hz, ez⟩ => ?_⟩
      rcases List.mem_append.1 hz with hz | hz
      · exact ⟨z, hz, ez⟩
      · simp at hz; subst hz; exact absurd ez.symm hm
  · exact List.pairwise_cons.2 ⟨fun b hb => (hn b hb).symm, h.one⟩
theorem split_at {ys : List Dm} {j : Nat} {y : Dm} (h : ys[j]? = some y) : ys = ys.take j ++ y :: ys.drop (j + 1) ∧ ∀ z, ys.set j z = ys.take j ++ z :: ys.drop (j + 1) := by
  obtain ⟨hj, rfl⟩ := List.getElem?_eq_some_iff.1 h
  exact ⟨by simp, fun z => List.set_eq_take_append_cons_drop .. |>.trans (if_pos hj)⟩
theorem MgD.add {xs ys : List Dm} {x : Dm} (h : MgD xs ys) : MgD (xs ++ [x]) (addD ys x) := by
  cases hb : lkB (keysT ys) (triD x) with
  | true =>
    obtain ⟨y, hy, e⟩ := keysT_at hb
    obtain ⟨h1, h2⟩ := split_at hy
    rw [addD_t hb rfl hy, h2]
    rw [h1] at h
    exact h.up e
  | false => rw [addD_f hb]; exact h.new (keysT_no hb) (List.perm_append_singleton x ys).symm
theorem foldl_snoc {α β : Type} (f : β → α → β) (P : List α → β → Prop) (hs : ∀ xs b x, P xs b → P (xs ++ [x]) (f b x)) : ∀ (zs xs : List α) (b : β), P xs b → P (xs ++ zs) (zs.foldl f b)
  | [], xs, b, h => by simpa using h
  | z :: zs, xs, b, h => by
    have := foldl_snoc f P hs zs (xs ++ [z]) (f b z) (hs xs b z h)
    simpa using this
theorem accD_mg (xs : List Dm) : MgD xs (accD xs) := foldl_snoc addD MgD (fun _ _ _ h => h.add) xs [] [] .nil
theorem acc_bd {xs ys : List Dm} {k : Nat} (hv : vldD 64 xs = true) (h : MgD (xs.take k) ys) {y : Dm} (hy : y ∈ ys) : 0 ≤ y.a ∧ y.a ≤ 67108864 ∧ KeyOk y := by
  obtain ⟨⟨x, hx, e⟩, ha⟩ := (h.mem y).1 hy
  have hb := sumD_bt (fun z => decide (triD z = triD y)) hv k
  have hk := ((vldD_iff.1 hv).2.2.2 x (List.mem_of_mem_take hx)).key
  unfold amtD at ha
  unfold triD at e
  simp only [Prod.mk.injEq] at e
  refine ⟨by omega, by omega, ?_⟩
  unfold KeyOk at hk ⊢
  omega
theorem addD_len (ys : List Dm) (x : Dm) : (addD ys x).length ≤ ys.length + 1 := by
  unfold addD; split <;> simp
theorem accD_len (xs : List Dm) : (accD xs).length ≤ xs.length :=
  foldl_snoc addD (fun xs ys => ys.length ≤ xs.length) (fun xs ys x h => by have := addD_len ys x; simp; omega) xs [] [] (Nat.le_refl _)
theorem key_tri {x y : Dm} (hx : KeyOk x) (hy : KeyOk y) : keyD x = keyD y ↔ triD x = triD y := by
  constructor
  · intro h
    obtain ⟨h1, h2, h3⟩ := key_same hx hy h
    unfold triD; rw [h1, h2, h3]
  · intro h
    unfold triD at h
    simp only [Prod.mk.injEq] at h
    unfold keyD; omega
def Srt (ys : List Dm) : Prop := ys.Pairwise fun a b => keyD a < keyD b
theorem insD_keys : ∀ {ys : List Dm} {x z : Dm}, z ∈ insD ys x → (keyD z = keyD x ∧ triD z = triD x) ∨ ∃ y ∈ ys, keyD z = keyD y ∧ triD z = triD y
  | [], x, z, h => by simp [insD] at h; subst h; exact .inl ⟨rfl, rfl⟩
  | y :: ys, x, z, h => by
    rw [insD] at h
    split at h
    · rcases List.mem_cons.1 h with rfl | h
      · exact .inr ⟨z, List.mem_cons_self .., rfl, rfl⟩
      · rcases insD_keys h with h | ⟨u, hu, e⟩
        · exact .inl h
        · exact .inr ⟨u, List.mem_cons_of_mem _ hu, e⟩
    · split at h
      · rcases List.mem_cons.1 h with rfl | h
        · exact .inr ⟨y, List.mem_cons_self .., rfl, rfl⟩
        · exact .inr ⟨z, List.mem_cons_of_mem _ h, rfl, rfl⟩
      · rcases List.mem_cons.1 h with rfl | h
        · exact .inl ⟨rfl, rfl⟩
        · exact .inr ⟨z, h, rfl, rfl⟩
theorem insD_srt : ∀ {ys : List Dm} {x : Dm}, Srt ys → Srt (insD ys x)
  | [], x, _ => by simp [insD, Srt]
  | y :: ys, x, h => by
    have h0 := List.pairwise_cons.1 h
    rw [insD]
    split
    · refine List.pairwise_cons.2 ⟨fun b hb => ?_, insD_srt h0.2⟩
      rcases insD_keys hb with ⟨e, _⟩ | ⟨u, hu, e, _⟩
      · omega
      · have := h0.1 u hu; omega
    · split
      · exact List.pairwise_cons.2 ⟨h0.1, h0.2⟩
      · refine List.pairwise_cons.2 ⟨fun b hb => ?_, h⟩
        rcases List.mem_cons.1 hb with rfl | hb
        · omega
        · have := h0.1 b hb; omega
theorem insD_mg : ∀ {ys : List Dm} {x : Dm}, (∀ y ∈ ys, KeyOk y) → KeyOk x → Srt ys → (∃ A y B, ys = A ++ y :: B ∧ triD y = triD x ∧ insD ys x = A ++ upD y x :: B) ∨ (∀ y ∈ ys, triD y ≠ triD x) ∧ (x :: ys).Perm (insD ys x)
  | [], x, _, _, _ => .inr ⟨by simp, by simp [insD]⟩
  | y :: ys, x, hk, hx, h => by
    have h0 := List.pairwise_cons.1 h
    have hy := hk y (List.mem_cons_self ..)
    rw [insD]
    by_cases h1 : keyD y < keyD x
    · rw [if_pos h1]
      have hn : triD y ≠ triD x := fun e => by have := (key_tri hy hx).2 e; omega
      rcases insD_mg (fun z hz => hk z (List.mem_cons_of_mem _ hz)) hx h0.2 with ⟨A, z, B, e1, e2, e3⟩ | ⟨e1, e2⟩
      · exact .inl ⟨y :: A, z, B, by rw [e1]; rfl, e2, by rw [e3]; rfl⟩
      · refine .inr ⟨fun z hz => ?_, (List.Perm.swap y x ys).trans (e2.cons y)⟩
        rcases List.mem_cons.1 hz with rfl | hz
        · exact hn
        · exact e1 z hz
    · rw [if_neg h1]
      by_cases h2 : keyD y = keyD x
      · rw [if_pos h2]
        exact .inl ⟨[], y, ys, rfl, (key_tri hy hx).1 h2, rfl⟩
      · rw [if_neg h2]
        refine .inr ⟨fun z hz e => ?_, List.Perm.refl _⟩
        have h3 := (key_tri (hk z hz) hx).2 e
        rcases List.mem_cons.1 hz with rfl | hz
        · exact h2 h3
        · have := h0.1 z hz; omega
def RacP (xs ys : List Dm) : Prop := (∀ x ∈ xs, KeyOk x) → MgD xs ys ∧ Srt ys ∧ ∀ y ∈ ys, KeyOk y
theorem racP_step (xs ys : List Dm) (x : Dm) (h : RacP xs ys) : RacP (xs ++ [x]) (insD ys x) := fun hk => by
  obtain ⟨h1, h2, h3⟩ := h fun z hz => hk z (List.mem_append_left _ hz)
  have hx := hk x (by simp)
  refine ⟨?_, insD_srt h2, fun z hz => ?_⟩
  · rcases insD_mg h3 hx h2 with ⟨A, y, B, e1, e2, e3⟩ | ⟨e1, e2⟩
    · rw [e3]; subst e1; exact h1.up e2
    · exact h1.new e1 e2
  · have key : ∀ {u v : Dm}, triD u = triD v → KeyOk v → KeyOk u := fun {u v} e hv => by
      unfold triD at e
      simp only [Prod.mk.injEq] at e
      unfold KeyOk at hv ⊢; omega
    rcases insD_keys hz with ⟨_, e⟩ | ⟨u, hu, _, e⟩
    · exact key e hx
    · exact key e (h3 u hu)
theorem racD_mg {xs : List Dm} (hk : ∀ x ∈ xs, KeyOk x) : MgD xs (racD xs) ∧ Srt (racD xs) ∧ ∀ y ∈ racD xs, KeyOk y :=
  foldl_snoc insD RacP racP_step xs [] [] (fun _ => ⟨.nil, .nil, by simp⟩) hk
def cmpZ (x y : Int) : Int := if x < y then -1 else if y < x then 1 else 0
def orL : List Int → Int
  | [] => 0
  | x :: l => if x = 0 then orL l else x
theorem orL_hit {xs : List Int} {k : Nat} {x : Int} (hx : xs[k]? = some x) (h : (x != 0) = true) : orL (xs.drop k) = x := by
  obtain ⟨hk, e⟩ := List.getElem?_eq_some_iff.1 hx
  rw [List.drop_eq_getElem_cons hk, e, orL, if_neg (by simpa using h)]
theorem orL_miss {xs : List Int} {k : Nat} {x : Int} (hx : xs[k]? = some x) (h : (x != 0) = false) : orL (xs.drop k) = orL (xs.drop (k + 1)) := by
  obtain ⟨hk, e⟩ := List.getElem?_eq_some_iff.1 hx
  rw [List.drop_eq_getElem_cons hk, e, orL, if_pos (by simpa using h)]
def cfD (x y : Dm) : Int := orL [cmpZ x.s y.s, cmpZ x.d y.d, cmpZ x.p y.p]
theorem cfD_lt (x y : Dm) : ltOf cfD x y = true ↔ x.s < y.s ∨ (x.s = y.s ∧ (x.d < y.d ∨ (x.d = y.d ∧ x.p < y.p))) := by
  unfold ltOf cfD cmpZ orL orL orL orL
  rw [decide_eq_true_eq]
  (repeat' split) <;> omega
theorem cfD_lf (x y : Dm) : ltOf cfD x y = false ↔ ¬ (x.s < y.s ∨ (x.s = y.s ∧ (x.d < y.d ∨ (x.d = y.d ∧ x.p < y.p)))) := by
  rw [← cfD_lt]; simp
theorem cfD_swo : SWO (ltOf cfD) where
  irrefl p := by rw [cfD_lf]; omega
  trans p q r h1 h2 := by rw [cfD_lt] at *; omega
  ntrans p q r h1 h2 := by rw [cfD_lf] at *; omega
theorem cfD_tri {x y : Dm} (h1 : ltOf cfD x y = false) (h2 : ltOf cfD y x = false) : triD x = triD y := by
  rw [cfD_lf] at h1 h2
  unfold triD
  rw [show x.s = y.s by omega, show x.d = y.d by omega, show x.p = y.p by omega]
theorem tri_one : ∀ {ys : List Dm}, (ys.Pairwise fun a b => triD a ≠ triD b) → ∀ x ∈ ys, ∀ y ∈ ys, triD x = triD y → x = y
  | [], _, x, hx, _, _, _ => by simp at hx
  | z :: ys, h, x, hx, y, hy, e => by
    have h0 := List.pairwise_cons.1 h
    rcases List.mem_cons.1 hx with rfl | hx1 <;> rcases List.mem_cons.1 hy with rfl | hy1
    · rfl
    · exact absurd e (h0.1 y hy1)
    · exact absurd e.symm (h0.1 x hx1)
    · exact tri_one h0.2 x hx1 y hy1 e
def sortD (xs : List Dm) : List Dm := sortS cfD xs
theorem sortD_perm (xs : List Dm) : (sortD xs).Perm xs := List.mergeSort_perm ..
theorem sortD_ord (xs : List Dm) : (sortD xs).Pairwise fun a b => ltOf cfD b a = false := by
  refine (List.pairwise_mergeSort (le := fun x y => !(ltOf cfD) y x) (fun a b c h1 h2 => ?_) (fun a b => ?_) xs).imp fun h => ?_
  · simp only [Bool.not_eq_true', cfD_lf] at *; omega
  · rw [Bool.or_eq_true, Bool.not_eq_true', Bool.not_eq_true', cfD_lf, cfD_lf]; omega
  · simpa using h
theorem sortD_uniq {M L : List Dm} (ho : M.Pairwise fun a b => triD a ≠ triD b) (hp : L.Perm M) (hs : L.Pairwise fun a b => ltOf cfD b a = false) : sortD M = L := by
  refine List.Perm.eq_of_pairwise (le := fun a b => ltOf cfD b a = false) (fun a b ha hb h1 h2 => ?_) (sortD_ord M) hs ((sortD_perm M).trans hp.symm)
  exact tri_one ho a ((sortD_perm M).mem_iff.1 ha) b (hp.mem_iff.1 hb) (cfD_tri h2 h1)
theorem Srt.cf {ys : List Dm} (h : Srt ys) (hk : ∀ y ∈ ys, KeyOk y) : ys.Pairwise fun a b => ltOf cfD b a = false := by
  refine List.Pairwise.imp_of_mem (fun {a b} ha hb hab => ?_) h
  have h1 := hk a ha
  have h2 := hk b hb
  rw [cfD_lf]
  unfold KeyOk at h1 h2
  unfold keyD at hab
  omega
def mgD (xs : List Dm) : List Dm := if vldD 64 xs = true then sortD (accD xs) else []
theorem mgD_t {xs : List Dm} (h : vldD 64 xs = true) : mgD xs = sortD (accD xs) := if_pos h
theorem mgD_f {xs : List Dm} (h : vldD 64 xs = false) : mgD xs = [] := if_neg (by rw [h]; decide)
theorem vldD_keys {xs : List Dm} (h : vldD 64 xs = true) : ∀ x ∈ xs, KeyOk x := fun x hx => ((vldD_iff.1 h).2.2.2 x hx).key
theorem racD_eq {xs : List Dm} (h : vldD 64 xs = true) : racD xs = mgD xs := by
  obtain ⟨h1, h2, h3⟩ := racD_mg (vldD_keys h)
  rw [mgD_t h]
  exact (sortD_uniq (accD_mg xs).one (h1.uniq (accD_mg xs)) (h2.cf h3)).symm
end Go.Proofs.YtjhgkojbpgakcaaGreatDoor
