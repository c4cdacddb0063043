/- Texts cut at a byte; numerals read back. No program in sight. Texts of demands. No program in sight. -/
import Derived.Test.YtjhgkojbpgakcaaGreatDoorMA
import Derived.Lib.SplitLaws
import Derived.Lib.AtoiTie
import Derived.Lib.ItoaLen
import Derived.Test.YtjhgkojbpgakcaaGreatDoorDemK
namespace Go.Proofs.YtjhgkojbpgakcaaGreatDoor
open Go.Lib (decDigits)
def pieces (c : UInt8) (l : List UInt8) : List (List UInt8) := Lib.splitK [c] 0 (Lib.count l [c]) l
theorem dec_len20 {n : Nat} (h : n < 1000000000) : (decDigits n).length ≤ 20 := by
  rw [Lib.decDigits_length]
  exact Lib.nDigits_le20 n (by omega)
end Go.Proofs.YtjhgkojbpgakcaaGreatDoor
namespace Go.Proofs.YtjhgkojbpgakcaaGreatDoor
open Go.RowKit
open Go.Lib (decDigits)
def dmB : List UInt8 := [100, 101, 109, 97, 110, 100]
def fldD (x : Dm) : Nat → Int
  | 0 => x.s
  | 1 => x.d
  | 2 => x.a
  | _ => x.p
def argsD (x : Dm) : Nat → List UInt8
  | 0 => []
  | j + 1 => argsD x j ++ 32 :: decDigits (fldD x j).toNat
def lineD (x : Dm) : List UInt8 := dmB ++ argsD x 4 ++ [10]
def lnsD (l : List Dm) : List UInt8 := (l.map lineD).flatten
def preD (L : List UInt8) (x : Dm) (j : Nat) : List UInt8 := L ++ dmB ++ argsD x j
theorem pre_zero (L : List UInt8) (x : Dm) : L ++ ([100, 101, 109, 97, 110, 100] : List UInt8) = preD L x 0 := by unfold preD argsD dmB; simp
theorem pre_step (L : List UInt8) (x : Dm) (j : Nat) : preD L x j ++ [32] ++ decDigits (fldD x j).toNat = preD L x (j + 1) := by unfold preD; rw [argsD]; simp
theorem lns_app (l : List Dm) (x : Dm) : lnsD (l ++ [x]) = lnsD l ++ lineD x := by unfold lnsD; simp
theorem lns_take {xs : List Dm} {k : Nat} {x : Dm} (hx : xs[k]? = some x) : lnsD (xs.take (k + 1)) = lnsD (xs.take k) ++ lineD x := by
  rw [List.take_add_one, hx]; exact lns_app _ _
theorem pre_end {xs : List Dm} {k j : Nat} {x : Dm} (hx : xs[k]? = some x) (hj : j = 4) : preD (lnsD (xs.take k)) x j ++ [10] = lnsD (xs.take (k + 1)) := by
  rw [lns_take hx, hj]; unfold preD lineD; simp
def textD (xs : List Dm) : List UInt8 := if vldD 64 xs = true then lnsD xs else []
theorem textD_t {xs : List Dm} (h : vldD 64 xs = true) : textD xs = lnsD xs := if_pos h
theorem textD_f {xs : List Dm} (h : vldD 64 xs = false) : textD xs = [] := if_neg (by rw [h]; decide)
theorem fld_len {x : Dm} (h : OkD 64 x) (j : Nat) : (decDigits (fldD x j).toNat).length ≤ 20 := by
  unfold OkD at h
  refine dec_len20 ?_
  unfold fldD
  split <;> omega
theorem args_len {x : Dm} (h : OkD 64 x) : ∀ j, (argsD x j).length ≤ 21 * j
  | 0 => Nat.le_refl _
  | j + 1 => by have h1 := args_len h j; have h2 := fld_len h j; rw [argsD]; simp; omega
theorem line_len {x : Dm} (h : OkD 64 x) : (lineD x).length ≤ 91 := by
  have := args_len h 4
  unfold lineD dmB; simp; omega
theorem lns_len : ∀ {l : List Dm}, (∀ x ∈ l, OkD 64 x) → (lnsD l).length ≤ 91 * l.length
  | [], _ => Nat.le_refl _
  | x :: l, h => by
    have h1 := lns_len (l := l) fun y hy => h y (List.mem_cons_of_mem _ hy)
    have h2 := line_len (h x (List.mem_cons_self ..))
    unfold lnsD at h1 ⊢
    simp only [List.map_cons, List.flatten_cons, List.length_append, List.length_cons]; omega
theorem lns_bd {xs : List Dm} (hv : vldD 64 xs = true) (k : Nat) : (lnsD (xs.take k)).length ≤ 5824 := by
  obtain ⟨_, _, h3, h4⟩ := vldD_iff.1 hv
  have h5 := lns_len (l := xs.take k) fun x hx => h4 x (List.mem_of_mem_take hx)
  have h6 := List.length_take_le' k xs
  omega
theorem pre_len {L : List UInt8} {x : Dm} (h : OkD 64 x) {j : Nat} (hj : j ≤ 4) : (preD L x j).length ≤ L.length + 90 := by
  have := args_len h j
  unfold preD dmB; simp; omega
end Go.Proofs.YtjhgkojbpgakcaaGreatDoor
