/- Checks of results of linear programs, as booleans. No program in sight. -/
import Derived.Test.YtcdbgincfdejkaaGreatDoorLpF
namespace Go.Proofs.YtcdbgincfdejkaaGreatDoor
def allN (p : Nat → Bool) : Nat → Bool
  | 0 => true
  | k + 1 => allN p k && p k
theorem allN_iff {p : Nat → Bool} {n : Nat} : allN p n = true ↔ ∀ k, k < n → p k = true := by
  induction n with
  | zero => exact ⟨fun _ k h => absurd h (Nat.not_lt_zero _), fun _ => rfl⟩
  | succ n ih =>
    rw [allN, Bool.and_eq_true, ih]
    exact ⟨fun h k hk => (Nat.lt_or_eq_of_le (Nat.le_of_lt_succ hk)).elim (h.1 k) fun e => e ▸ h.2, fun h => ⟨fun k hk => h k (by omega), h n (by omega)⟩⟩
theorem allN_step {p : Nat → Bool} {k : Nat} (h : allN p k = true) (hk : p k = true) : allN p (k + 1) = true := by rw [allN, h, hk]; rfl
theorem allN_no {p : Nat → Bool} {k n : Nat} (hk : k < n) (h : p k = false) : allN p n = false := by
  cases e : allN p n with
  | false => rfl
  | true => rw [allN_iff.1 e k hk] at h; cases h
theorem allN_end {p : Nat → Bool} {k n : Nat} (h : allN p k = true) (hk : k ≤ n) (hn : n ≤ k) : allN p n = true := by
  obtain rfl := Nat.le_antisymm hk hn
  exact h
def nnP (xs : List Rat) (k : Nat) : Bool := decide (0 ≤ xs.getD k 0)
def nnB (xs : List Rat) : Bool := allN (nnP xs) xs.length
def rowP (P : LPd) (i : Nat) : Bool := decide ((P.A.getD i []).length = P.c.length)
def vldH (P : LPd) : Bool := decide (1 ≤ P.c.length) && decide (P.c.length ≤ 1024) && decide (P.A.length ≤ 1024) && decide (P.b.length = P.A.length)
def vldP (P : LPd) : Bool := vldH P && allN (rowP P) P.A.length
def colQ (P : LPd) (y : List Rat) (k : Nat) : Rat := dotQ y (P.A.map fun a => a.getD k 0)
def feaP (P : LPd) (x : List Rat) (i : Nat) : Bool := decide (dotQ (P.A.getD i []) x ≤ P.b.getD i 0)
def feaB (P : LPd) (x : List Rat) : Bool := decide (x.length = P.c.length) && nnB x && allN (feaP P x) P.A.length
def covP (P : LPd) (y l : List Rat) (k : Nat) : Bool := decide (l.getD k 0 ≤ colQ P y k)
def covB (P : LPd) (y l : List Rat) : Bool := decide (y.length = P.A.length) && nnB y && allN (covP P y l) P.c.length
def falP (P : LPd) (r : List Rat) (i : Nat) : Bool := decide (dotQ (P.A.getD i []) r ≤ 0)
def falB (P : LPd) (r : List Rat) : Bool := allN (falP P r) P.A.length
def zerosQ (n : Nat) : List Rat := List.replicate n 0
structure LpRes where
  k : Int
  x : List Rat
  y : List Rat
  r : List Rat
  z : Rat
def acc1 (P : LPd) (R : LpRes) : Bool := feaB P R.x && covB P R.y P.c && decide (R.r.length = 0) && decide (dotQ P.c R.x = R.z) && decide (dotQ P.b R.y = R.z)
def acc2 (P : LPd) (R : LpRes) : Bool := covB P R.y (zerosQ P.c.length) && decide (R.x.length = 0) && decide (R.r.length = 0) && decide (dotQ P.b R.y < 0) && decide (R.z = 0)
def acc3 (P : LPd) (R : LpRes) : Bool := feaB P R.x && decide (R.y.length = 0) && decide (R.r.length = P.c.length) && nnB R.r && falB P R.r && decide (0 < dotQ P.c R.r) && decide (R.z = 0)
def accB (P : LPd) (R : LpRes) : Bool := vldP P && (if R.k = 1 then acc1 P R else if R.k = 2 then acc2 P R else if R.k = 3 then acc3 P R else false)
def gapE (P : LPd) (x y : List Rat) : Int := if vldP P = false then 1 else if feaB P x = false then 13 else if covB P y P.c = false then 7 else 0
def gapQ (P : LPd) (x y : List Rat) : Rat := if gapE P x y = 0 then dotQ y P.b - dotQ P.c x else 0
def chk1 (P : LPd) (R : LpRes) : Bool := decide (gapE P R.x R.y = 0) && decide (gapQ P R.x R.y = 0) && decide (R.r.length = 0) && decide (dotQ P.c R.x = R.z)
def chk2 (P : LPd) (R : LpRes) : Bool := decide (R.x.length = 0) && decide (R.r.length = 0) && decide (R.z = 0) && (decide (R.y.length = P.A.length) && nnB R.y) && allN (covP P R.y (zerosQ P.c.length)) P.c.length && decide (dotQ R.y P.b < 0)
def chk3 (P : LPd) (R : LpRes) : Bool := decide (R.y.length = 0) && decide (R.z = 0) && (vldP P && feaB P R.x) && (decide (R.r.length = P.c.length) && nnB R.r) && falB P R.r && decide (0 < dotQ P.c R.r)
def chkB (P : LPd) (R : LpRes) : Bool := vldP P && (if R.k = 1 then chk1 P R else if R.k = 2 then chk2 P R else if R.k = 3 then chk3 P R else false)
theorem gap_ok {P : LPd} {x y : List Rat} (hv : vldP P = true) : gapE P x y = 0 ↔ feaB P x = true ∧ covB P y P.c = true := by
  unfold gapE
  rw [hv]
  cases feaB P x <;> cases covB P y P.c <;> simp
theorem chk_acc (P : LPd) (R : LpRes) : chkB P R = accB P R := by
  unfold chkB accB
  cases hv : vldP P with
  | false => rfl
  | true =>
    simp only [Bool.true_and]
    split
    · unfold chk1 acc1
      rw [Bool.eq_iff_iff]
      simp only [Bool.and_eq_true, decide_eq_true_eq]
      rw [gap_ok hv]
      unfold gapQ
      constructor
      · rintro ⟨⟨⟨h1, h2⟩, h3⟩, h4⟩
        rw [if_pos ((gap_ok hv).2 h1), dotQ_comm R.y] at h2
        exact ⟨⟨⟨h1, h3⟩, h4⟩, by grind⟩
      · rintro ⟨⟨⟨h1, h3⟩, h4⟩, h5⟩
        rw [if_pos ((gap_ok hv).2 h1), dotQ_comm R.y]
        exact ⟨⟨⟨h1, by grind⟩, h3⟩, h4⟩
    · split
      · unfold chk2 acc2 covB
        rw [dotQ_comm R.y]
        cases decide (R.x.length = 0) <;> cases decide (R.r.length = 0) <;> cases decide (R.z = 0) <;> simp
      · split
        · unfold chk3 acc3
          rw [hv]
          cases decide (R.y.length = 0) <;> cases decide (R.z = 0) <;> cases feaB P R.x <;> cases decide (R.r.length = P.c.length) <;> cases nnB R.r <;> simp
        · rfl
theorem nn_iff {xs : List Rat} : nnB xs = true ↔ ∀ e ∈ xs, 0 ≤ e := by
  unfold nnB
  rw [allN_iff]
  constructor
  · intro h e he
    obtain ⟨k, hk, rfl⟩ := mem_getD_r he
    exact of_decide_eq_true (h k hk)
  · intro h k hk
    refine decide_eq_true (h _ ?_)
    rw [List.getD, List.getElem?_eq_getElem hk]; exact List.getElem_mem hk
theorem fea_iff {P : LPd} {x : List Rat} : feaB P x = true ↔ x.length = P.c.length ∧ (∀ e ∈ x, 0 ≤ e) ∧ ∀ i, i < P.A.length → dotQ (P.A.getD i []) x ≤ P.b.getD i 0 := by
  unfold feaB
  rw [Bool.and_eq_true, Bool.and_eq_true, decide_eq_true_eq, nn_iff, allN_iff, and_assoc]
  exact and_congr_right fun _ => and_congr_right fun _ => ⟨fun h i hi => of_decide_eq_true (h i hi), fun h i hi => decide_eq_true (h i hi)⟩
theorem cov_iff {P : LPd} {y l : List Rat} : covB P y l = true ↔ y.length = P.A.length ∧ (∀ e ∈ y, 0 ≤ e) ∧ ∀ k, k < P.c.length → l.getD k 0 ≤ dotQ y (P.A.map fun a => a.getD k 0) := by
  unfold covB
  rw [Bool.and_eq_true, Bool.and_eq_true, decide_eq_true_eq, nn_iff, allN_iff, and_assoc]
  exact and_congr_right fun _ => and_congr_right fun _ => ⟨fun h i hi => of_decide_eq_true (h i hi), fun h i hi => decide_eq_true (h i hi)⟩
theorem vld_ok {P : LPd} (h : vldP P = true) : P.Ok := by
  unfold vldP vldH at h
  simp only [Bool.and_eq_true, decide_eq_true_eq] at h
  refine ⟨h.1.2, fun a ha => ?_⟩
  obtain ⟨i, hi⟩ := List.mem_iff_getElem?.1 ha
  have := allN_iff.1 h.2 i (List.getElem?_eq_some_iff.1 hi).1
  unfold rowP at this
  rw [decide_eq_true_eq, List.getD, hi] at this
  exact this
theorem dotQ_addr (y : List Rat) : ∀ (a b : List Rat), a.length = b.length → dotQ y (List.zipWith (· + ·) a b) = dotQ y a + dotQ y b := by
  induction y with
  | nil => intro a b _; simp only [dotQ_nil]; grind
  | cons q y ih =>
    intro a b hab
    cases a with
    | nil => obtain rfl := List.eq_nil_of_length_eq_zero (l := b) (by simpa using hab.symm); simp only [List.zipWith_nil_left, dotQ]; grind
    | cons a as =>
      cases b with
      | nil => simp at hab
      | cons b bs =>
        simp only [List.zipWith_cons_cons, dotQ]
        rw [ih as bs (by simpa using hab)]; grind
theorem dotQ_smul (y : List Rat) (s : Rat) : ∀ (a : List Rat), dotQ y (a.map fun e => s * e) = s * dotQ y a := by
  induction y with
  | nil => intro a; simp only [dotQ_nil]; grind
  | cons q y ih =>
    intro a
    cases a with
    | nil => simp only [List.map_nil, dotQ]; grind
    | cons a as => simp only [List.map_cons, dotQ]; rw [ih as]; grind
theorem dot_swap : ∀ (n : Nat) (A : List (List Rat)) (y x : List Rat), (∀ a ∈ A, a.length = n) → x.length = n → dotQ y (A.map fun a => dotQ a x) = dotQ ((List.range n).map fun k => dotQ y (A.map fun a => a.getD k 0)) x := by
  intro n A
  induction A with
  | nil =>
    intro y x _ hx
    simp only [List.map_nil, dotQ_nil']
    rw [show ((List.range n).map fun _ => (0 : Rat)) = List.replicate n 0 from by simp [List.map_const']]
    rw [dotQ_comm, dotQ_zeros]
  | cons a A ih =>
    intro y x hA hx
    cases y with
    | nil =>
      simp only [dotQ_nil]
      rw [show ((List.range n).map fun _ => (0 : Rat)) = List.replicate n 0 from by simp [List.map_const']]
      rw [dotQ_comm, dotQ_zeros]
    | cons q y =>
      have ha := hA a (List.mem_cons_self ..)
      have ih := ih y x (fun b hb => hA b (List.mem_cons_of_mem _ hb)) hx
      simp only [List.map_cons, dotQ]
      rw [ih]
      have e1 : ((List.range n).map fun k => q * a.getD k 0 + dotQ y (A.map fun a => a.getD k 0)) = List.zipWith (· + ·) (a.map fun e => q * e) ((List.range n).map fun k => dotQ y (A.map fun a => a.getD k 0)) := by
        refine List.ext_getElem? fun k => ?_
        rw [List.getElem?_map, List.getElem?_zipWith]
        by_cases hk : k < n
        · rw [List.getElem?_range hk, List.getElem?_map, List.getElem?_map, List.getElem?_range hk, List.getElem?_eq_getElem (by omega : k < a.length)]
          simp [List.getD, List.getElem?_eq_getElem (by omega : k < a.length)]
        · rw [List.getElem?_eq_none (by simp; omega), List.getElem?_eq_none (by simp; omega)]; rfl
      rw [e1, dotQ_comm (List.zipWith _ _ _) x, dotQ_addr _ _ _ (by simp; omega), dotQ_smul, dotQ_comm x a, dotQ_comm x]
theorem weak {P : LPd} (hP : P.Ok) {x y : List Rat} (hx : feaB P x = true) (hy : covB P y P.c = true) : dotQ P.c x ≤ dotQ P.b y := by
  obtain ⟨h1, h2, h3⟩ := fea_iff.1 hx
  obtain ⟨h4, h5, h6⟩ := cov_iff.1 hy
  have e1 := dot_swap P.c.length P.A y x hP.ha h1
  have e2 : dotQ y (P.A.map fun a => dotQ a x) ≤ dotQ y P.b := dotQ_mono (by simp [hP.hb]) h5 fun k p q hp hq => by
    rw [List.getElem?_map] at hp
    have hk : k < P.A.length := by rw [← hP.hb]; exact (List.getElem?_eq_some_iff.1 hq).1
    have := h3 k hk
    rw [List.getElem?_eq_getElem hk, Option.map_some, Option.some.injEq] at hp
    rw [List.getD, List.getElem?_eq_getElem hk, List.getD, hq, Option.getD_some, Option.getD_some, hp] at this
    exact this
  have e3 : dotQ x P.c ≤ dotQ x ((List.range P.c.length).map fun k => dotQ y (P.A.map fun a => a.getD k 0)) := dotQ_mono (by simp) h2 fun k p q hp hq => by
    have hk := (List.getElem?_eq_some_iff.1 hp).1
    have := h6 k hk
    rw [List.getElem?_map, List.getElem?_range hk, Option.map_some, Option.some.injEq] at hq
    rw [List.getD, hp, Option.getD_some, hq] at this
    exact this
  rw [dotQ_comm P.c, dotQ_comm P.b]
  rw [dotQ_comm _ x] at e1
  grind
end Go.Proofs.YtcdbgincfdejkaaGreatDoor
