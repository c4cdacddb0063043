/- Demands, valid lists, sums. No program in sight. Rows of demands. -/
import Derived.Test.YtjhgkojbpgakcaaGreatDoorRowN
import Derived.Test.YtjhgkojbpgakcaaGreatDoorSortC
import Derived.Test.YtjhgkojbpgakcaaGreatDoorNrG
namespace Go.Proofs.YtjhgkojbpgakcaaGreatDoor
structure Dm where
  s : Int
  d : Int
  a : Int
  p : Int
  deriving DecidableEq
instance : Inhabited Dm := ⟨⟨0, 0, 0, 0⟩⟩
theorem Dm.eq {x y : Dm} (h1 : x.s = y.s) (h2 : x.d = y.d) (h3 : x.a = y.a) (h4 : x.p = y.p) : x = y := by
  cases x; cases y; simp at *; exact ⟨h1, h2, h3, h4⟩
def wthn (n l m : Int) : Bool := decide (l ≤ n) && decide (n ≤ m)
theorem wthn_t {n l m : Int} : wthn n l m = true ↔ l ≤ n ∧ n ≤ m := by simp [wthn]
theorem wthn_f {n l m : Int} : wthn n l m = false ↔ ¬ (l ≤ n ∧ n ≤ m) := by rw [← wthn_t]; simp
def OkD (n : Int) (x : Dm) : Prop := 0 ≤ x.s ∧ x.s < n ∧ 0 ≤ x.d ∧ x.d < n ∧ x.s ≠ x.d ∧ 1 ≤ x.a ∧ x.a ≤ 1048576 ∧ 0 ≤ x.p ∧ x.p ≤ 7
instance (n : Int) (x : Dm) : Decidable (OkD n x) := by unfold OkD; exact inferInstance
def okL (n : Int) (xs : List Dm) : Bool := xs.all fun x => decide (OkD n x)
def vldD (n : Int) (xs : List Dm) : Bool := decide (0 ≤ n ∧ n ≤ 64 ∧ xs.length ≤ 64) && okL n xs
theorem vldD_iff {n : Int} {xs : List Dm} : vldD n xs = true ↔ 0 ≤ n ∧ n ≤ 64 ∧ xs.length ≤ 64 ∧ ∀ x ∈ xs, OkD n x := by
  unfold vldD okL
  rw [Bool.and_eq_true, decide_eq_true_eq, List.all_eq_true]
  simp only [decide_eq_true_eq, and_assoc]
theorem vldD_head {n : Int} {xs : List Dm} (h : ¬ (0 ≤ n ∧ n ≤ 64 ∧ xs.length ≤ 64)) : vldD n xs = false := by
  unfold vldD; rw [decide_eq_false h]; rfl
theorem okL_step {n : Int} {xs : List Dm} {k : Nat} {x : Dm} (h : okL n (xs.take k) = true) (hx : xs[k]? = some x) (hk : OkD n x) : okL n (xs.take (k + 1)) = true := by
  unfold okL at *
  rw [List.take_add_one, hx, List.all_append, h]
  simp [hk]
theorem vldD_no {n : Int} {xs : List Dm} {k : Nat} {x : Dm} (hx : xs[k]? = some x) (hk : ¬ OkD n x) : vldD n xs = false := by
  cases h : vldD n xs with
  | false => rfl
  | true => exact absurd ((vldD_iff.1 h).2.2.2 x (List.mem_of_getElem? hx)) hk
theorem vldD_yes {n : Int} {xs : List Dm} (h : 0 ≤ n ∧ n ≤ 64 ∧ xs.length ≤ 64) (h2 : okL n xs = true) : vldD n xs = true := by
  unfold vldD; rw [decide_eq_true h, h2]; rfl
def sumD (c : Dm → Bool) : List Dm → Int
  | [] => 0
  | x :: xs => (if c x = true then x.a else 0) + sumD c xs
theorem sumD_append (c : Dm → Bool) : ∀ xs ys, sumD c (xs ++ ys) = sumD c xs + sumD c ys
  | [], ys => by simp [sumD]
  | x :: xs, ys => by rw [List.cons_append, sumD, sumD, sumD_append c xs ys]; omega
theorem sumD_step (c : Dm → Bool) {xs : List Dm} {k : Nat} {x : Dm} (hx : xs[k]? = some x) : sumD c (xs.take (k + 1)) = sumD c (xs.take k) + if c x = true then x.a else 0 := by
  rw [List.take_add_one, hx, sumD_append]
  simp [sumD]
theorem sumD_bd (c : Dm → Bool) {n : Int} : ∀ {xs : List Dm}, (∀ x ∈ xs, OkD n x) → 0 ≤ sumD c xs ∧ sumD c xs ≤ 1048576 * xs.length
  | [], _ => by simp [sumD]
  | x :: xs, h => by
    have h1 := sumD_bd c (fun y hy => h y (List.mem_cons_of_mem _ hy))
    have h2 := h x (List.mem_cons_self ..)
    unfold OkD at h2
    rw [sumD, List.length_cons]
    split <;> omega
theorem sumD_bt (c : Dm → Bool) {n : Int} {xs : List Dm} (h : vldD n xs = true) (k : Nat) : 0 ≤ sumD c (xs.take k) ∧ sumD c (xs.take k) ≤ 67108864 := by
  obtain ⟨_, _, h3, h4⟩ := vldD_iff.1 h
  have h5 := sumD_bd c (xs := xs.take k) fun x hx => h4 x (List.mem_of_mem_take hx)
  have h6 := List.length_take_le' k xs
  omega
def totD (c : Dm → Bool) (xs : List Dm) : Int := if vldD 64 xs = true then sumD c xs else 0
theorem totD_t {c : Dm → Bool} {xs : List Dm} (h : vldD 64 xs = true) : totD c xs = sumD c xs := if_pos h
theorem totD_f {c : Dm → Bool} {xs : List Dm} (h : vldD 64 xs = false) : totD c xs = 0 := if_neg (by rw [h]; decide)
def cntA (_ : Dm) : Bool := true
def keyD (x : Dm) : Int := (x.s * 64 + x.d) * 8 + x.p
def KeyOk (x : Dm) : Prop := 0 ≤ x.s ∧ x.s < 64 ∧ 0 ≤ x.d ∧ x.d < 64 ∧ 0 ≤ x.p ∧ x.p ≤ 7
theorem OkD.key {x : Dm} (h : OkD 64 x) : KeyOk x := by unfold OkD at h; unfold KeyOk; omega
theorem key_same {x y : Dm} (hx : KeyOk x) (hy : KeyOk y) (h : keyD x = keyD y) : x.s = y.s ∧ x.d = y.d ∧ x.p = y.p := by unfold KeyOk keyD at *; omega
end Go.Proofs.YtjhgkojbpgakcaaGreatDoor
namespace Go.Proofs.YtjhgkojbpgakcaaGreatDoor
open Go.RowKit
def dmC (x : Dm) : List Value := [.int .i64 x.s, .int .i64 x.d, .int .i64 x.a, .int .i64 x.p]
def demK : EK Dm where
  sz := 4
  pos := by decide
  R := fun _ cs x => cs = dmC x
  len := fun e => by rw [e]; rfl
  one := fun e u hu => by
    subst e
    simp only [dmC, List.mem_cons, List.not_mem_nil, or_false] at hu
    rcases hu with rfl | rfl | rfl | rfl <;> rfl
  below := fun e _ => e
theorem demK_free : demK.Free := fun _ _ _ _ h => h
instance : OwnK demK := ⟨[], fun h _ _ _ _ _ _ => h, .inl demK_free⟩
section
variable {V w : World} {l : List (World → Prop)} {g o n c k : Nat}
theorem KS.atD {xs : List Dm} {x : Dm} (hK : KS V l w) (h : SlV demK w (.slice (some ⟨g, o, none⟩) n c) xs) (hx : xs[k]? = some x) : KS V (CelAt g (o + k * 4) [.int .i64 x.s, .int .i64 x.d, .int .i64 x.a, .int .i64 x.p] :: l) w := by
  obtain ⟨cs, h1, rfl⟩ := h.at hx
  exact hK.add fun w' hb => h1.below hb
end
theorem infoDm : (Tryz.prog.info? 53).map (fun i => (i.zero, i.size, i.bytes)) = some (some (.agg #[.int .i64 0, .int .i64 0, .int .i64 0, .int .i64 0]), demK.sz, 32) := by kernel_rfl
end Go.Proofs.YtjhgkojbpgakcaaGreatDoor
