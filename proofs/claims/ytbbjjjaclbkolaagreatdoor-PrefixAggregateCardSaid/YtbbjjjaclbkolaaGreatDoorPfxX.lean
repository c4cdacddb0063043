/- What the reference's aggregate needs. -/
import Derived.Test.YtbbjjjaclbkolaaGreatDoorPfxR
namespace Go.Proofs.YtbbjjjaclbkolaaGreatDoor
open Go.RowKit
def wiF (xs : List Pf) (p : Pf) : List Pf := if anyC xs p = true then [] else allC xs p
theorem wiF_t {xs : List Pf} {p : Pf} (h : anyC xs p = true) : wiF xs p = [] := if_pos h
theorem wiF_f {xs : List Pf} {p : Pf} (h : anyC xs p = false) : wiF xs p = allC xs p := if_neg (by rw [h]; decide)
theorem wiF_len (xs : List Pf) (p : Pf) : (wiF xs p).length ≤ xs.length := by
  unfold wiF
  split
  · exact Nat.zero_le _
  · exact allC_len xs p
theorem anyC_hit {xs : List Pf} {p x : Pf} {k : Nat} (hx : xs[k]? = some x) (h : cvr x.1 x.2 p.1 p.2 = true) : anyC xs p = true := List.any_eq_true.2 ⟨x, List.mem_of_getElem? hx, h⟩
theorem anyC_step {xs : List Pf} {p x : Pf} {k : Nat} (h : anyC (xs.take k) p = false) (hx : xs[k]? = some x) (hc : cvr x.1 x.2 p.1 p.2 = false) : anyC (xs.take (k + 1)) p = false := by
  unfold anyC at *
  rw [List.take_add_one, hx, List.any_append, h]
  simpa [cvp] using hc
theorem allC_in {xs ys : List Pf} {p x : Pf} {k : Nat} (h : ys = allC (xs.take k) p) (hx : xs[k]? = some x) (hc : cvr p.1 p.2 x.1 x.2 = true) : addP ys x = allC (xs.take (k + 1)) p := by
  unfold allC addP at *
  rw [List.take_add_one, hx, List.filter_append, ← h]
  simp [cvp, hc]
theorem allC_out {xs ys : List Pf} {p x : Pf} {k : Nat} (h : ys = allC (xs.take k) p) (hx : xs[k]? = some x) (hc : cvr p.1 p.2 x.1 x.2 = false) : ys = allC (xs.take (k + 1)) p := by
  unfold allC at *
  rw [List.take_add_one, hx, List.filter_append, ← h]
  simp [cvp, hc]
theorem canL_len (S : Nat → Prop) : ∀ (d a : Nat), (canL S d a).length ≤ 2 ^ d := by
  intro d
  induction d with
  | zero =>
    intro a
    by_cases h : Full S 0 a
    · rw [canL_full h]; exact Nat.le_refl _
    · rw [canL_zero h]; exact Nat.zero_le _
  | succ d ih =>
    intro a
    by_cases h : Full S (d + 1) a
    · rw [canL_full h]; exact Nat.one_le_two_pow
    · rw [canL_succ h, List.length_append]
      have h1 := ih a
      have h2 := ih (a + 2 ^ d)
      have := two_halves d
      omega
theorem canL_len32 (S : Nat → Prop) {d : Nat} (a : Nat) (h : d ≤ 31) : (canL S d a).length ≤ 2147483648 := Nat.le_trans (canL_len S d a) (Nat.pow_le_pow_right (n := 2) (by decide) h)
noncomputable def catL (S : Nat → Prop) (d a : Nat) : List Pf := canL S d a ++ canL S d (a + 2 ^ d)
theorem split_half (a : Nat) (n : Int) (d : Nat) (w : World) (hp : OkP (a, n)) (h : n < 32) (hn : n = 32 - ((d + 1 : Nat) : Int)) : Calls Tryz.prog 37 #[.agg #[.int .u32 (a : Int), .int .i64 n]] w fun e w' =>
    e = .returned (.tuple #[.agg #[.int .u32 (a : Int), .int .i64 (n + 1)], .agg #[.int .u32 ((a + 2 ^ d : Nat) : Int), .int .i64 (n + 1)], .int .i64 0]) ∧ Below w.heap.size w w' := by
  have q := sl_ok (a := a) (n := n) hp.2 (show (n == 32) = false by simpa using (show ¬ n = 32 by omega))
  have r := rsplit_any a n w hp.1
  rw [q.1, q.2.1, q.2.2.1, q.2.2.2, show a ||| bitP n = a + 2 ^ d from half_or hp h hn] at r
  exact r
end Go.Proofs.YtbbjjjaclbkolaaGreatDoor
