/- Paths that are walked: their nodes and costs. No program in sight. Segment lists of paths, as the program finds them. No program in sight. -/
import Derived.Test.YtmcfomainmppdaaGreatDoorFWhA
import Derived.Test.YtmcfomainmppdaaGreatDoorFDagL
import Derived.Test.YtmcfomainmppdaaGreatDoorFDsV
namespace Go.Proofs.YtmcfomainmppdaaGreatDoor
def WayD (t : TopD) : Nat → List Nat → Prop
  | _, [] => True
  | n, a :: p => a < arcsD t ∧ tN t a = n ∧ (p ≠ [] → ovD t (hN t a) = false) ∧ WayD t (hN t a) p
section
variable {t : TopD} {down : List Bool} {n i j a : Nat} {p q : List Nat}
def ndW (t : TopD) (n : Nat) (p : List Nat) : Nat → Nat
  | 0 => n
  | i + 1 => hN t (p.getD i 0)
theorem WayD.at (h : WayD t n p) (hi : p[i]? = some a) : a < arcsD t ∧ tN t a = ndW t n p i ∧ (i + 1 < p.length → ovD t (hN t a) = false) := by
  induction p generalizing n i with
  | nil => cases hi
  | cons b p ih =>
    cases i with
    | zero =>
      injection hi with hi; subst hi
      exact ⟨h.1, h.2.1, fun q => h.2.2.1 (fun e => by rw [e] at q; simp at q)⟩
    | succ i =>
      obtain ⟨h1, h2, h3⟩ := ih h.2.2.2 (i := i) (by simpa using hi)
      refine ⟨h1, ?_, fun q => h3 (by simpa using q)⟩
      rw [h2]
      cases i with
      | zero => rfl
      | succ i => simp [ndW]
theorem ndW_succ (hi : p[i]? = some a) : ndW t n p (i + 1) = hN t a := by
  show hN t (p.getD i 0) = _
  rw [List.getD_eq_getElem?_getD, hi]; rfl
theorem WayD.nd_lt (ht : topOk t = true) (hn : n < nN t) (h : WayD t n p) (hi : i ≤ p.length) : ndW t n p i < nN t := by
  cases i with
  | zero => exact hn
  | succ i =>
    have hl : i < p.length := hi
    rw [ndW_succ (List.getElem?_eq_getElem hl)]
    exact (arc_ok ht (h.at (List.getElem?_eq_getElem hl)).1).2.2.2.2.1
def nodW (t : TopD) (n : Nat) (p : List Nat) (m : Nat) : List Nat := (List.range (m + 1)).map (ndW t n p)
def csW (t : TopD) (p : List Nat) (i : Nat) : Int := costD t (p.take i)
def cosW (t : TopD) (p : List Nat) (m : Nat) : List Int := (List.range (m + 1)).map (csW t p)
theorem nodW_len {m : Nat} : (nodW t n p m).length = m + 1 := by simp [nodW]
theorem cosW_len {m : Nat} : (cosW t p m).length = m + 1 := by simp [cosW]
theorem nodW_snoc {m : Nat} (h : p[m]? = some a) : nodW t n p m ++ [hN t a] = nodW t n p (m + 1) := by
  unfold nodW; rw [List.range_succ (n := m + 1), List.map_append, List.map_singleton, ndW_succ h]
theorem csW_succ {m : Nat} (h : p[m]? = some a) : csW t p (m + 1) = csW t p m + (cN t a : Int) := by
  unfold csW costD
  obtain ⟨hm, e⟩ := List.getElem?_eq_some_iff.1 h
  rw [List.take_succ_eq_append_getElem hm, e, List.map_append, List.sum_append]; simp
theorem cosW_snoc {m : Nat} (h : p[m]? = some a) : cosW t p m ++ [csW t p m + (cN t a : Int)] = cosW t p (m + 1) := by
  unfold cosW; rw [List.range_succ (n := m + 1), List.map_append, List.map_singleton, csW_succ h]
theorem nodW_at {m : Nat} (h : i ≤ m) : (nodW t n p m)[i]? = some (ndW t n p i) := by
  unfold nodW; rw [List.getElem?_map, List.getElem?_range (by omega)]; rfl
theorem cosW_at {m : Nat} (h : i ≤ m) : (cosW t p m)[i]? = some (csW t p i) := by
  unfold cosW; rw [List.getElem?_map, List.getElem?_range (by omega)]; rfl
end
end Go.Proofs.YtmcfomainmppdaaGreatDoor
namespace Go.Proofs.YtmcfomainmppdaaGreatDoor
section
variable {t : TopD} {down : List Bool} {n i j a : Nat} {p q : List Nat}
noncomputable def covW (t : TopD) (down : List Bool) (n : Nat) (p : List Nat) (i j : Nat) : Bool :=
  decide (atD (dstD t down (ndW t n p j)) (ndW t n p i) = csW t p j - csW t p i) && unqR t down (ndW t n p i : Int) (ndW t n p j : Int)
noncomputable def lasW (t : TopD) (down : List Bool) (n : Nat) (p : List Nat) (i : Nat) : Nat → Option Nat
  | 0 => none
  | m + 1 => if m + 1 ≤ i then none else if covW t down n p i (m + 1) = true then some (m + 1) else lasW t down n p i m
theorem lasW_le {m : Nat} (h : lasW t down n p i m = some j) : i < j ∧ j ≤ m ∧ covW t down n p i j = true := by
  induction m with
  | zero => cases h
  | succ m ih =>
    unfold lasW at h
    split at h
    · cases h
    · split at h
      · injection h with h; subst h; rename_i h1 h2; exact ⟨by omega, Nat.le_refl _, h2⟩
      · obtain ⟨h1, h2, h3⟩ := ih h; exact ⟨h1, by omega, h3⟩
theorem lasW_no {m : Nat} (h : m ≤ i) : lasW t down n p i m = none := by
  cases m with
  | zero => rfl
  | succ m => unfold lasW; rw [if_pos h]
theorem lasW_yes {m : Nat} (h : i < m) (hc : covW t down n p i m = true) : lasW t down n p i m = some m := by
  cases m with
  | zero => omega
  | succ m => unfold lasW; rw [if_neg (by omega), if_pos hc]
theorem lasW_step {m : Nat} (h : i < m) (hc : covW t down n p i m = false) : lasW t down n p i m = lasW t down n p i (m - 1) := by
  cases m with
  | zero => omega
  | succ m => rw [lasW, if_neg (by omega), hc]; rfl
noncomputable def encF (t : TopD) (down : List Bool) (n : Nat) (p : List Nat) : Nat → Nat → List SegD
  | 0, _ => []
  | f + 1, i => if i < p.length then
      match lasW t down n p i (min p.length (i + nN t - 1)) with
      | some j => ⟨1, (ndW t n p j : Int)⟩ :: encF t down n p f j
      | none => ⟨2, (p.getD i 0 : Int)⟩ :: encF t down n p f (i + 1)
    else []
theorem encF_more (h : p.length - i ≤ j) : ∀ k, j ≤ k → encF t down n p k i = encF t down n p j i := by
  induction j generalizing i with
  | zero =>
    intro k _
    cases k with
    | zero => rfl
    | succ k => unfold encF; rw [if_neg (by omega)]
  | succ j ih =>
    intro k hk
    obtain ⟨k, rfl⟩ : ∃ k', k = k' + 1 := ⟨k - 1, by omega⟩
    unfold encF
    by_cases hi : i < p.length
    · rw [if_pos hi, if_pos hi]
      cases hl : lasW t down n p i (min p.length (i + nN t - 1)) with
      | none => dsimp only; rw [ih (by omega) k (by omega)]
      | some x => dsimp only; have := (lasW_le hl).1; rw [ih (by omega) k (by omega)]
    · rw [if_neg hi, if_neg hi]
noncomputable def encG (t : TopD) (down : List Bool) (n : Nat) (p : List Nat) (i : Nat) : List SegD := encF t down n p (p.length - i) i
theorem encG_end (h : p.length ≤ i) : encG t down n p i = [] := by unfold encG; rw [show p.length - i = 0 by omega]; rfl
theorem encG_seg (hi : i < p.length) (h : lasW t down n p i (min p.length (i + nN t - 1)) = some j) : encG t down n p i = ⟨1, (ndW t n p j : Int)⟩ :: encG t down n p j := by
  have hj := (lasW_le h).1
  unfold encG
  obtain ⟨k, hk⟩ : ∃ k, p.length - i = k + 1 := ⟨p.length - i - 1, by omega⟩
  rw [hk, encF, if_pos hi, h]
  dsimp only
  rw [encF_more (Nat.le_refl _) k (by omega)]
theorem encG_arc (hi : i < p.length) (h : lasW t down n p i (min p.length (i + nN t - 1)) = none) : encG t down n p i = ⟨2, (p.getD i 0 : Int)⟩ :: encG t down n p (i + 1) := by
  unfold encG
  obtain ⟨k, hk⟩ : ∃ k, p.length - i = k + 1 := ⟨p.length - i - 1, by omega⟩
  rw [hk, encF, if_pos hi, h]
  dsimp only
  rw [encF_more (i := i + 1) (j := p.length - (i + 1)) (Nat.le_refl _) k (by omega)]
noncomputable def encL (t : TopD) (down : List Bool) (n : Nat) (p : List Nat) : List SegD := encG t down n p 0
theorem encG_len : (encG t down n p i).length ≤ p.length - i := by
  generalize hk : p.length - i = k
  induction k using Nat.strongRecOn generalizing i with
  | ind k ih =>
    by_cases hi : i < p.length
    · cases hl : lasW t down n p i (min p.length (i + nN t - 1)) with
      | none =>
        rw [encG_arc hi hl, List.length_cons]
        have := ih (p.length - (i + 1)) (by omega) rfl
        omega
      | some j =>
        rw [encG_seg hi hl, List.length_cons]
        obtain ⟨h1, h2, _⟩ := lasW_le hl
        have := ih (p.length - j) (by omega) rfl
        omega
    · rw [encG_end (by omega)]; exact Nat.zero_le _
theorem encL_ne (h : p ≠ []) : encL t down n p ≠ [] := by
  have hp := List.length_pos_iff.2 h
  unfold encL
  cases hl : lasW t down n p 0 (min p.length (0 + nN t - 1)) with
  | none => rw [encG_arc hp hl]; exact List.cons_ne_nil _ _
  | some j => rw [encG_seg hp hl]; exact List.cons_ne_nil _ _
end
end Go.Proofs.YtmcfomainmppdaaGreatDoor
