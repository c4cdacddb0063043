/- Lists of prefixes in order: slices.SortFunc under Compare. -/
import Derived.Test.YtbbjjjaclbkolaaGreatDoorPfxK
import Derived.Test.YtbbjjjaclbkolaaGreatDoorShelfS
namespace Go.Proofs.YtbbjjjaclbkolaaGreatDoor
open Go.RowKit Go.Sort
def cmpP (p q : Pf) : Int := cmpI p.1 p.2 q.1 q.2
theorem cmpP_lt (p q : Pf) : ltOf cmpP p q = true ↔ p.1 < q.1 ∨ (p.1 = q.1 ∧ p.2 < q.2) := by
  unfold ltOf cmpP cmpI
  split
  · rename_i h; simp; omega
  · rename_i h
    split
    · simp; omega
    · simp; omega
theorem cmpP_lf (p q : Pf) : ltOf cmpP p q = false ↔ ¬ (p.1 < q.1 ∨ (p.1 = q.1 ∧ p.2 < q.2)) := by
  rw [← cmpP_lt]; simp
theorem cmpP_swo : SWO (ltOf cmpP) where
  irrefl p := by rw [cmpP_lf]; omega
  trans p q r h1 h2 := by rw [cmpP_lt] at *; omega
  ntrans p q r h1 h2 := by rw [cmpP_lf] at *; omega
theorem cmpP_total (p q : Pf) (h1 : ltOf cmpP p q = false) (h2 : ltOf cmpP q p = false) : p = q := by
  rw [cmpP_lf] at h1 h2
  exact Prod.ext (by omega) (by omega)
instance : Inhabited Pf := ⟨(0, 0)⟩
def sortP (xs : List Pf) : List Pf := sortS cmpP xs
theorem sortP_len (xs : List Pf) : (sortP xs).length = xs.length := sortS_len _ _
theorem sortP_perm (xs : List Pf) : (sortP xs).Perm xs := List.mergeSort_perm ..
theorem sortP_ord (xs : List Pf) : (sortP xs).Pairwise leP := by
  refine (List.pairwise_mergeSort (le := fun x y => !(ltOf cmpP) y x) (fun a b c h1 h2 => ?_) (fun a b => ?_) xs).imp fun h => ?_
  · simp only [Bool.not_eq_true', cmpP_lf] at *; omega
  · rw [Bool.or_eq_true, Bool.not_eq_true', Bool.not_eq_true', cmpP_lf, cmpP_lf]; omega
  · rw [Bool.not_eq_true', cmpP_lf] at h
    unfold leP; omega
theorem sort_pfx {t : TypeId} {base n c : Nat} {p : Option Addr} {xs : List Pf} {w : World} (h : OwV pfxK t base w (.slice p n c) xs) (hsz : xs.length ≤ 1000) :
    Calls Tryz.prog 15 #[.slice p n c, .func (.func 16) #[] #[]] w fun e w' => e = .returned (.tuple #[]) ∧ OwV pfxK t base w' (.slice p n c) (sortP xs) ∧ w.grownBy w' (ob p) :=
  sort_own Tryz.sortPfx (f := pfC) (K := pfxK) (fun _ _ _ => Iff.rfl) (fun _ => rfl) (fun x v hv => by simp [pfC] at hv; rcases hv with rfl | rfl <;> rfl) Tryz.isAgg31 Tryz.sizeOf31 cmpP cmpP_swo cmpP_total 16 #[]
    (enters_of Tryz.func16 (by kernel_rfl) rfl) (fun x y W => Q.compare_any x.1 x.2 y.1 y.2 W) h (by omega)
theorem mrg_len : ∀ (k : Nat) (l : List Pf), l.length ≤ k → (mrg l).length ≤ l.length
  | _, [], _ => by simp [mrg]
  | _, [p], _ => by simp [mrg]
  | 0, p :: q :: r, h => by simp at h
  | k + 1, p :: q :: r, h => by
    rw [mrg]
    split
    · have := mrg_len k (parP p :: r) (by simp at h ⊢; omega)
      simp at this ⊢; omega
    · exact Nat.le_refl _
theorem mergeS_len (l : List Pf) : (mergeS l).length ≤ l.length := by
  unfold mergeS
  rw [List.length_reverse]
  have := mrg_len _ l.reverse (Nat.le_refl _)
  simpa using this
theorem stepS_len (st : List Pf) (p : Pf) : (stepS st p).length ≤ st.length + 1 := by
  have h := mergeS_len (st ++ [p])
  rw [List.length_append, List.length_singleton] at h
  unfold stepS
  split
  · split
    · exact Nat.le_succ _
    · exact h
  · split
    · exact Nat.le_succ _
    · exact h
theorem foldS_len : ∀ (l st : List Pf), (l.foldl stepS st).length ≤ st.length + l.length
  | [], st => by simp
  | p :: l, st => by
    have h1 := stepS_len st p
    have h2 := foldS_len l (stepS st p)
    rw [List.foldl_cons, List.length_cons]; omega
theorem progS_len (l : List Pf) : (progS l).length ≤ l.length := by
  have := foldS_len l []
  simpa [progS] using this
def addP (l : List Pf) (p : Pf) : List Pf := l ++ [p]
theorem addP_len (l : List Pf) (p : Pf) : (addP l p).length = l.length + 1 := by simp [addP]
theorem stepS_skip {st : List Pf} {t p : Pf} (ht : st[st.length - 1]? = some t) (h : cvp t p = true) : stepS st p = st := by
  have e : st.getLast? = some t := by rw [List.getLast?_eq_getElem?]; exact ht
  unfold stepS
  rw [e]
  exact if_pos h
theorem stepS_add {st : List Pf} {t p : Pf} (ht : st[st.length - 1]? = some t) (h : cvp t p = false) : stepS st p = mergeS (addP st p) := by
  have e : st.getLast? = some t := by rw [List.getLast?_eq_getElem?]; exact ht
  unfold stepS
  rw [e]
  exact if_neg (by simp only; rw [h]; decide)
theorem stepS_nil {st : List Pf} (p : Pf) (h : st = []) : stepS st p = mergeS (addP st p) := by subst h; rfl
def okB (xs : List Pf) : Bool := xs.all fun p => vld p.1 p.2
noncomputable def agF (xs : List Pf) : List Pf := if okB xs = true then aggS xs else []
def agE (xs : List Pf) : Int := if okB xs = true then 0 else 1
theorem ag_ok {xs : List Pf} (h : okB xs = true) : agF xs = aggS xs ∧ agE xs = 0 := ⟨if_pos h, if_pos h⟩
theorem ag_bad {xs : List Pf} (h : okB xs = false) : agF xs = [] ∧ agE xs = 1 := ⟨if_neg (by rw [h]; decide), if_neg (by rw [h]; decide)⟩
theorem okB_take {xs : List Pf} {k : Nat} {x : Pf} (h : okB (xs.take k) = true) (hx : xs[k]? = some x) (hv : vld x.1 x.2 = true) : okB (xs.take (k + 1)) = true := by
  unfold okB at *
  rw [List.take_add_one, hx, List.all_append, h]
  simp [hv]
theorem okB_no {xs : List Pf} {k : Nat} {x : Pf} (hx : xs[k]? = some x) (hv : vld x.1 x.2 = false) : okB xs = false := by
  unfold okB
  rw [List.all_eq_false]
  exact ⟨x, List.mem_of_getElem? hx, by simp [hv]⟩
theorem okB_all {xs : List Pf} (h : okB xs = true) (hw : ∀ p ∈ xs, W32 p.1) : AllOk xs := fun p hp => ⟨hw p hp, by simpa using List.all_eq_true.1 h p hp⟩
theorem allok_sort {xs : List Pf} (h : AllOk xs) : AllOk (sortP xs) := fun p hp => h p ((sortP_perm xs).mem_iff.1 hp)
theorem allok_prog {xs : List Pf} {k : Nat} (h : AllOk xs) (hk : k ≤ xs.length) : AllOk (progS ((sortP xs).take k)) :=
  (inv_take (allok_sort h) (sortP_ord xs) k (by rw [sortP_len]; exact hk)).nrm.ok
theorem prog_end {xs : List Pf} (h : AllOk xs) : progS (sortP xs) = aggS xs := (prog_agg h (sortP_perm xs) (sortP_ord xs)).1
theorem aggS_len {xs : List Pf} (h : AllOk xs) : (aggS xs).length ≤ xs.length := by
  rw [← prog_end h, ← sortP_len xs]; exact progS_len _
theorem agF_len {xs : List Pf} (hw : ∀ p ∈ xs, W32 p.1) : (agF xs).length ≤ xs.length := by
  cases h : okB xs with
  | true => rw [(ag_ok h).1]; exact aggS_len (okB_all h hw)
  | false => rw [(ag_bad h).1]; exact Nat.zero_le _
end Go.Proofs.YtbbjjjaclbkolaaGreatDoor
