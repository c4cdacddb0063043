/- Plain lemmas on prefixes of addresses of 32 bits: no program in sight. The walks of package prefix's functions mask, Valid, Contains, Covers, Parent. The walks of the reference's functions on prefixes: mask, Valid, Contains, Covers, Parent, Compare. -/
import Derived.Laws.BitsAllLaws
import Derived.Test.YtbbjjjaclbkolaaDoorRows
import Derived.WalkKit
import Derived.WalkSpells
import Derived.Deep.Cut
import Derived.WalkLawsBesides
import Derived.Test.YtbbjjjaclbkolaaDoorMA
namespace Go.Proofs.YtbbjjjaclbkolaaDoor

/-- An address: a number of 32 bits. -/
def W32 (a : Nat) : Prop := a < 4294967296
theorem W32.lt {a : Nat} (h : W32 a) : a < 4294967296 := h
theorem W32.lt' {a : Nat} (h : W32 a) : a < 2 ^ 32 := h

/-- The mask of a length. -/
def mk (n : Nat) : Nat := 4294967296 - 2 ^ (32 - n)
def maskI (n : Int) : Int := IntKind.u64.wrap (4294967295 * 2 ^ (32 - n).toNat) % 4294967296

theorem maskI_nat (n : Nat) (h : n ≤ 32) : maskI n = ((mk n : Nat) : Int) := by
  have H : ∀ m : Fin 33, maskI ((m.val : Nat) : Int) = ((mk m.val : Nat) : Int) := by decide +kernel
  exact H ⟨n, by omega⟩
theorem mk_w32 (n : Nat) : W32 (mk n) := by
  have : 0 < 2 ^ (32 - n) := Nat.two_pow_pos _
  unfold W32 mk; omega
theorem pow_le (n : Nat) : 2 ^ (32 - n) ≤ 4294967296 := by
  have : 2 ^ (32 - n) ≤ 2 ^ 32 := Nat.pow_le_pow_right (by omega) (by omega)
  simpa using this

/-- The first address of the block of a length in which an address lies. -/
def base (n x : Nat) : Nat := x - x % 2 ^ (32 - n)

theorem and_mk (x n : Nat) (hx : W32 x) (h : n ≤ 32) : x &&& mk n = base n x := by
  have e1 : mk n = (2 ^ n - 1) * 2 ^ (32 - n) := by
    have : 2 ^ n * 2 ^ (32 - n) = 4294967296 := by
      rw [← Nat.pow_add, show n + (32 - n) = 32 by omega]
    unfold mk
    rw [Nat.sub_mul, this, Nat.one_mul]
  have e2 : base n x = x / 2 ^ (32 - n) * 2 ^ (32 - n) := by
    unfold base
    have := Nat.div_add_mod x (2 ^ (32 - n))
    rw [Nat.mul_comm] at this
    omega
  rw [e1, e2]
  apply Nat.eq_of_testBit_eq
  intro i
  rw [Nat.testBit_and, ← Nat.shiftLeft_eq, ← Nat.shiftLeft_eq, Nat.testBit_shiftLeft, Nat.testBit_shiftLeft, Nat.testBit_two_pow_sub_one, ← Nat.shiftRight_eq_div_pow, Nat.testBit_shiftRight]
  by_cases hi : 32 - n ≤ i
  · by_cases hj : i < 32
    · have : i - (32 - n) < n := by omega
      simp [hi, this, show 32 - n + (i - (32 - n)) = i by omega]
    · have hb : x.testBit i = false := Nat.testBit_lt_two_pow (Nat.lt_of_lt_of_le hx.lt' (Nat.pow_le_pow_right (by omega) (by omega)))
      simp [hb, show 32 - n + (i - (32 - n)) = i by omega]
  · simp [hi]

theorem andNot_mk (x n : Nat) : x &&& (4294967295 - mk n) = x % 2 ^ (32 - n) := by
  have e : 4294967295 - mk n = 2 ^ (32 - n) - 1 := by
    have := pow_le n
    have : 0 < 2 ^ (32 - n) := Nat.two_pow_pos _
    unfold mk; omega
  rw [e]
  exact Nat.and_two_pow_sub_one_eq_mod x _

/-- A prefix is valid. -/
def vld (a : Nat) (n : Int) : Bool := decide (0 ≤ n) && (decide (n ≤ 32) && decide (a % 2 ^ (32 - n.toNat) = 0))
theorem vld_iff {a : Nat} {n : Int} : vld a n = true ↔ 0 ≤ n ∧ n ≤ 32 ∧ a % 2 ^ (32 - n.toNat) = 0 := by simp [vld]
/-- It contains an address. -/
def cts (a : Nat) (n : Int) (x : Nat) : Bool := vld a n && decide (base n.toNat x = a)
/-- It covers another prefix. -/
def cvr (a : Nat) (n : Int) (b : Nat) (m : Int) : Bool := vld b m && (cts a n b && decide (n ≤ m))

theorem vld_neg {a : Nat} {n : Int} (h : ¬ 0 ≤ n) : vld a n = false := by simp [vld, h]
theorem vld_big {a : Nat} {n : Int} (h : ¬ n ≤ 32) : vld a n = false := by simp [vld, h]
theorem vld_mid {a : Nat} {n : Int} (h0 : 0 ≤ n) (h1 : n ≤ 32) : vld a n = decide (a % 2 ^ (32 - n.toNat) = 0) := by simp [vld, h0, h1]

theorem bits_andNot_mask {a : Nat} {n : Int} (ha : W32 a) (h0 : 0 ≤ n) (h1 : n ≤ 32) : (bits BinOp.andNot IntKind.u32 (a : Int) (maskI n) == 0) = vld a n := by
  obtain ⟨k, rfl⟩ := Int.eq_ofNat_of_zero_le h0
  have hk : k ≤ 32 := by omega
  rw [maskI_nat k hk, u32_andNot_nat _ _ ha.lt (mk_w32 k).lt, andNot_mk, vld_mid h0 h1]
  simp only [Int.toNat_natCast]
  rw [Bool.eq_iff_iff]
  simp only [beq_iff_eq, decide_eq_true_eq]
  omega
theorem bits_and_mask {x : Nat} {n : Int} (hx : W32 x) (h0 : 0 ≤ n) (h1 : n ≤ 32) : bits BinOp.and IntKind.u32 (x : Int) (maskI n) = ((base n.toNat x : Nat) : Int) := by
  obtain ⟨k, rfl⟩ := Int.eq_ofNat_of_zero_le h0
  have hk : k ≤ 32 := by omega
  rw [maskI_nat k hk, u32_and_nat _ _ hx.lt (mk_w32 k).lt, and_mk _ _ hx hk]
  rfl
theorem bits_and_mk {x n : Nat} (hx : W32 x) (h : n ≤ 32) : bits BinOp.and IntKind.u32 (x : Int) ((mk n : Nat) : Int) = ((base n x : Nat) : Int) := by
  rw [u32_and_nat _ _ hx.lt (mk_w32 n).lt, and_mk _ _ hx h]
theorem base_eq_iff {a n : Nat} : base n a = a ↔ a % 2 ^ (32 - n) = 0 := by
  have := Nat.mod_le a (2 ^ (32 - n))
  unfold base; omega
theorem base_w32 {n x : Nat} (h : W32 x) : W32 (base n x) := by
  have := h.lt
  unfold W32 base; omega

theorem bits_and_eq {a : Nat} {n : Int} (ha : W32 a) (h0 : 0 ≤ n) (h1 : n ≤ 32) : (bits BinOp.and IntKind.u32 (a : Int) (maskI n) == (a : Int)) = vld a n := by
  rw [bits_and_mask ha h0 h1, vld_mid h0 h1, Bool.eq_iff_iff]
  simp only [beq_iff_eq, decide_eq_true_eq]
  rw [← base_eq_iff]
  omega

/-- One step of the reference's mask. -/
theorem mk_step (i : Nat) (h : i < 32) : mk i ||| 2 ^ (31 - i) = mk (i + 1) := by
  have H : ∀ m : Fin 32, mk m.val ||| 2 ^ (31 - m.val) = mk (m.val + 1) := by decide +kernel
  exact H ⟨i, h⟩

/-- The order of prefixes. -/
def cmpI (a : Nat) (n : Int) (b : Nat) (m : Int) : Int := if a < b ∨ (a = b ∧ n < m) then -1 else if a = b ∧ n = m then 0 else 1

end Go.Proofs.YtbbjjjaclbkolaaDoor

namespace Go.Proofs.YtbbjjjaclbkolaaDoor
open Go.RowKit

theorem cell_set2 {w : World} {b : Nat} {x0 y0 x y : Value} (h0 : w.cell? ⟨b, 0, none⟩ = some x0) (h1 : w.cell? ⟨b, 1, none⟩ = some y0) :
    ((w.setCell ⟨b, 0, none⟩ x).setCell ⟨b, 1, none⟩ y).cell? ⟨b, 0, none⟩ = some x ∧ ((w.setCell ⟨b, 0, none⟩ x).setCell ⟨b, 1, none⟩ y).cell? ⟨b, 1, none⟩ = some y := by
  have h2 : (w.setCell ⟨b, 0, none⟩ x).cell? ⟨b, 1, none⟩ = some y0 := by
    rw [World.cell?_setCell_other _ _ _ _ (by intro e; have := congrArg Addr.off e; simp at this)]; exact h1
  refine ⟨?_, World.cell?_setCell_same _ _ _ h2⟩
  rw [World.cell?_setCell_other _ _ _ _ (by intro e; have := congrArg Addr.off e; simp at this)]
  exact World.cell?_setCell_same _ _ _ h0

set_option maxHeartbeats 400000 in
theorem mask_any (n : Int) (w : World) (h0 : 0 ≤ n) (h1 : n ≤ 32) :
    Calls Tryd.prog 35 #[.int .i64 n] w fun e w' => e = .returned (.int .u32 (maskI n)) ∧ w = w' := by
  go_enter Tryd.func35, Tryd.ntmps35
  go_wp2
  go_ret
  exact ⟨rfl, rfl⟩

set_option maxHeartbeats 400000 in
theorem valid_any (a : Nat) (n : Int) (w : World) (ha : W32 a) :
    Calls Tryd.prog 13 #[.agg #[.int .u32 (a : Int), .int .i64 n]] w fun e w' => e = .returned (.bool (vld a n)) ∧ Below w.heap.size w w' := by
  have fin : ∀ w2, Below (w.heap.size + 1) (w.alloc (.cells #[.int .u32 (a : Int), .int .i64 n] 24)) w2 → Below w.heap.size w w2 := fun w2 h =>
    ((Below.refl _ w).alloc (Nat.le_refl _) _).trans (h.mono (by omega))
  go_enter Tryd.func13, Tryd.ntmps13
  go_wp2
  refine wp_region_staged (fun w' => Below (w.heap.size + 1) (w.alloc (.cells #[.int .u32 (a : Int), .int .i64 n] 24)) w') [0, 1, 0, 0, 0, 1, 0, 0, 0, 0, 1, 0, 1, 1, 0, 0, 0, 0] (by kernel_rfl) (by kernel_rfl) (by kernel_rfl) (by exact (Below.refl _ _).drew) ?_
  by_cases h0 : 0 ≤ n
  · by_cases h1 : n ≤ 32
    · have e := bits_andNot_mask ha h0 h1
      apply lexF rfl; (· intro _; go_simp; (try go_bits); exact ⟨rfl, rfl⟩); simp only [Act.put, List.setIfInBounds_toArray, List.set_cons_zero, List.set_cons_succ]
      apply lexH rfl; (· intro w' hw'; have hcc := cellsBelow hw'; go_simp; (try go_bits); exact ⟨rfl, hw'⟩); simp only [Act.put, List.setIfInBounds_toArray, List.set_cons_zero, List.set_cons_succ]
      apply lexF rfl; (· intro _; go_simp; (try go_bits); exact ⟨rfl, rfl⟩); simp only [Act.put, List.setIfInBounds_toArray, List.set_cons_zero, List.set_cons_succ]
      apply lexF rfl; (· intro _; go_simp; (try go_bits); exact ⟨rfl, rfl⟩); simp only [Act.put, List.setIfInBounds_toArray, List.set_cons_zero, List.set_cons_succ]
      first | (apply lexN (j := 3) (d := 6) (b := true) rfl rfl rfl rfl; simp only [Act.put, List.setIfInBounds_toArray, List.set_cons_zero, List.set_cons_succ]) | (apply lexN' (j := 3) (d := 6) (b := true) rfl rfl rfl; simp only [Act.put, List.setIfInBounds_toArray, List.set_cons_zero, List.set_cons_succ]) | (apply lexFg (j := 3) (d := 6) (b := true) rfl rfl rfl rfl; (· intro _; go_simp; (try go_bits); exact ⟨rfl, rfl⟩); simp only [Act.put, List.setIfInBounds_toArray, List.set_cons_zero, List.set_cons_succ])
      first | (apply lexN (j := 3) (d := 6) (b := true) rfl rfl rfl rfl; simp only [Act.put, List.setIfInBounds_toArray, List.set_cons_zero, List.set_cons_succ]) | (apply lexN' (j := 3) (d := 6) (b := true) rfl rfl rfl; simp only [Act.put, List.setIfInBounds_toArray, List.set_cons_zero, List.set_cons_succ]) | (apply lexHg (j := 3) (d := 6) (b := true) rfl rfl rfl rfl; (· intro w' hw'; have hcc := cellsBelow hw'; go_simp; (try go_bits); exact ⟨rfl, hw'⟩); simp only [Act.put, List.setIfInBounds_toArray, List.set_cons_zero, List.set_cons_succ])
      first | (apply lexN (j := 3) (d := 6) (b := true) rfl rfl rfl rfl; simp only [Act.put, List.setIfInBounds_toArray, List.set_cons_zero, List.set_cons_succ]) | (apply lexN' (j := 3) (d := 6) (b := true) rfl rfl rfl; simp only [Act.put, List.setIfInBounds_toArray, List.set_cons_zero, List.set_cons_succ]) | (apply lexFg (j := 3) (d := 6) (b := true) rfl rfl rfl rfl; (· intro _; go_simp; (try go_bits); exact ⟨rfl, rfl⟩); simp only [Act.put, List.setIfInBounds_toArray, List.set_cons_zero, List.set_cons_succ])
      apply lexF rfl; (· intro _; go_simp; (try go_bits); exact ⟨rfl, rfl⟩); simp only [Act.put, List.setIfInBounds_toArray, List.set_cons_zero, List.set_cons_succ]
      apply lexF rfl; (· intro _; go_simp; (try go_bits); exact ⟨rfl, rfl⟩); simp only [Act.put, List.setIfInBounds_toArray, List.set_cons_zero, List.set_cons_succ]
      first | (apply lexN (j := 8) (d := 11) (b := true) rfl rfl rfl rfl; simp only [Act.put, List.setIfInBounds_toArray, List.set_cons_zero, List.set_cons_succ]) | (apply lexN' (j := 8) (d := 11) (b := true) rfl rfl rfl; simp only [Act.put, List.setIfInBounds_toArray, List.set_cons_zero, List.set_cons_succ]) | (apply lexFg (j := 8) (d := 11) (b := true) rfl rfl rfl rfl; (· intro _; go_simp; (try go_bits); exact ⟨rfl, rfl⟩); simp only [Act.put, List.setIfInBounds_toArray, List.set_cons_zero, List.set_cons_succ])
      first | (apply lexN (j := 8) (d := 11) (b := true) rfl rfl rfl rfl; simp only [Act.put, List.setIfInBounds_toArray, List.set_cons_zero, List.set_cons_succ]) | (apply lexN' (j := 8) (d := 11) (b := true) rfl rfl rfl; simp only [Act.put, List.setIfInBounds_toArray, List.set_cons_zero, List.set_cons_succ]) | (apply lexHg (j := 8) (d := 11) (b := true) rfl rfl rfl rfl; (· intro w' hw'; have hcc := cellsBelow hw'; go_simp; (try go_bits); exact ⟨rfl, hw'⟩); simp only [Act.put, List.setIfInBounds_toArray, List.set_cons_zero, List.set_cons_succ])
      first | (apply lexN (j := 8) (d := 11) (b := true) rfl rfl rfl rfl; simp only [Act.put, List.setIfInBounds_toArray, List.set_cons_zero, List.set_cons_succ]) | (apply lexN' (j := 8) (d := 11) (b := true) rfl rfl rfl; simp only [Act.put, List.setIfInBounds_toArray, List.set_cons_zero, List.set_cons_succ]) | (apply lexFg (j := 8) (d := 11) (b := true) rfl rfl rfl rfl; (· intro _; go_simp; (try go_bits); exact ⟨rfl, rfl⟩); simp only [Act.put, List.setIfInBounds_toArray, List.set_cons_zero, List.set_cons_succ])
      first | (apply lexN (j := 8) (d := 11) (b := true) rfl rfl rfl rfl; simp only [Act.put, List.setIfInBounds_toArray, List.set_cons_zero, List.set_cons_succ]) | (apply lexN' (j := 8) (d := 11) (b := true) rfl rfl rfl; simp only [Act.put, List.setIfInBounds_toArray, List.set_cons_zero, List.set_cons_succ]) | (apply lexHg (j := 8) (d := 11) (b := true) rfl rfl rfl rfl; (· intro w' hw'; have hcc := cellsBelow hw'; go_simp; (try go_bits); exact ⟨rfl, hw'⟩); simp only [Act.put, List.setIfInBounds_toArray, List.set_cons_zero, List.set_cons_succ])
      apply lexHg (j := 8) (d := 11) (b := true) rfl rfl rfl rfl
      · intro w' hw'; go_simp; (try go_bits); refine (mask_any n _ h0 h1).mono ?_; rintro e w'' ⟨rfl, rfl⟩; exact ⟨_, rfl, rfl, hw'⟩
      simp only [Act.put, List.setIfInBounds_toArray, List.set_cons_zero, List.set_cons_succ]
      first | (apply lexN (j := 8) (d := 11) (b := true) rfl rfl rfl rfl; simp only [Act.put, List.setIfInBounds_toArray, List.set_cons_zero, List.set_cons_succ]) | (apply lexN' (j := 8) (d := 11) (b := true) rfl rfl rfl; simp only [Act.put, List.setIfInBounds_toArray, List.set_cons_zero, List.set_cons_succ]) | (apply lexFg (j := 8) (d := 11) (b := true) rfl rfl rfl rfl; (· intro _; go_simp; (try go_bits); exact ⟨rfl, rfl⟩); simp only [Act.put, List.setIfInBounds_toArray, List.set_cons_zero, List.set_cons_succ])
      first | (apply lexN (j := 8) (d := 11) (b := true) rfl rfl rfl rfl; simp only [Act.put, List.setIfInBounds_toArray, List.set_cons_zero, List.set_cons_succ]) | (apply lexN' (j := 8) (d := 11) (b := true) rfl rfl rfl; simp only [Act.put, List.setIfInBounds_toArray, List.set_cons_zero, List.set_cons_succ]) | (apply lexFg (j := 8) (d := 11) (b := true) rfl rfl rfl rfl; (· intro _; go_simp; (try go_bits); exact ⟨rfl, rfl⟩); simp only [Act.put, List.setIfInBounds_toArray, List.set_cons_zero, List.set_cons_succ])
      apply lexF rfl; (· intro _; go_simp; (try go_bits); exact ⟨rfl, rfl⟩); simp only [Act.put, List.setIfInBounds_toArray, List.set_cons_zero, List.set_cons_succ]
      apply lexF rfl; (· intro _; go_simp; (try go_bits); exact ⟨rfl, rfl⟩); simp only [Act.put, List.setIfInBounds_toArray, List.set_cons_zero, List.set_cons_succ]
      refine lexEnd (fun w2 hw2 => ?_)
      go_wp2
      go_ret
      exact ⟨rfl, fin _ hw2⟩
    · have e := vld_big (a := a) h1
      have h2 : 32 < n := by omega
      apply lexF rfl; (· intro _; go_simp; (try go_bits); exact ⟨rfl, rfl⟩); simp only [Act.put, List.setIfInBounds_toArray, List.set_cons_zero, List.set_cons_succ]
      apply lexH rfl; (· intro w' hw'; have hcc := cellsBelow hw'; go_simp; (try go_bits); exact ⟨rfl, hw'⟩); simp only [Act.put, List.setIfInBounds_toArray, List.set_cons_zero, List.set_cons_succ]
      apply lexF rfl; (· intro _; go_simp; (try go_bits); exact ⟨rfl, rfl⟩); simp only [Act.put, List.setIfInBounds_toArray, List.set_cons_zero, List.set_cons_succ]
      apply lexF rfl; (· intro _; go_simp; (try go_bits); exact ⟨rfl, rfl⟩); simp only [Act.put, List.setIfInBounds_toArray, List.set_cons_zero, List.set_cons_succ]
      first | (apply lexN (j := 3) (d := 6) (b := true) rfl rfl rfl rfl; simp only [Act.put, List.setIfInBounds_toArray, List.set_cons_zero, List.set_cons_succ]) | (apply lexN' (j := 3) (d := 6) (b := true) rfl rfl rfl; simp only [Act.put, List.setIfInBounds_toArray, List.set_cons_zero, List.set_cons_succ]) | (apply lexFg (j := 3) (d := 6) (b := true) rfl rfl rfl rfl; (· intro _; go_simp; (try go_bits); exact ⟨rfl, rfl⟩); simp only [Act.put, List.setIfInBounds_toArray, List.set_cons_zero, List.set_cons_succ])
      first | (apply lexN (j := 3) (d := 6) (b := true) rfl rfl rfl rfl; simp only [Act.put, List.setIfInBounds_toArray, List.set_cons_zero, List.set_cons_succ]) | (apply lexN' (j := 3) (d := 6) (b := true) rfl rfl rfl; simp only [Act.put, List.setIfInBounds_toArray, List.set_cons_zero, List.set_cons_succ]) | (apply lexHg (j := 3) (d := 6) (b := true) rfl rfl rfl rfl; (· intro w' hw'; have hcc := cellsBelow hw'; go_simp; (try go_bits); exact ⟨rfl, hw'⟩); simp only [Act.put, List.setIfInBounds_toArray, List.set_cons_zero, List.set_cons_succ])
      first | (apply lexN (j := 3) (d := 6) (b := true) rfl rfl rfl rfl; simp only [Act.put, List.setIfInBounds_toArray, List.set_cons_zero, List.set_cons_succ]) | (apply lexN' (j := 3) (d := 6) (b := true) rfl rfl rfl; simp only [Act.put, List.setIfInBounds_toArray, List.set_cons_zero, List.set_cons_succ]) | (apply lexFg (j := 3) (d := 6) (b := true) rfl rfl rfl rfl; (· intro _; go_simp; (try go_bits); exact ⟨rfl, rfl⟩); simp only [Act.put, List.setIfInBounds_toArray, List.set_cons_zero, List.set_cons_succ])
      apply lexF rfl; (· intro _; go_simp; (try go_bits); exact ⟨rfl, rfl⟩); simp only [Act.put, List.setIfInBounds_toArray, List.set_cons_zero, List.set_cons_succ]
      apply lexF rfl; (· intro _; go_simp; (try go_bits); exact ⟨rfl, rfl⟩); simp only [Act.put, List.setIfInBounds_toArray, List.set_cons_zero, List.set_cons_succ]
      first | (apply lexN (j := 8) (d := 11) (b := true) rfl rfl rfl rfl; simp only [Act.put, List.setIfInBounds_toArray, List.set_cons_zero, List.set_cons_succ]) | (apply lexN' (j := 8) (d := 11) (b := true) rfl rfl rfl; simp only [Act.put, List.setIfInBounds_toArray, List.set_cons_zero, List.set_cons_succ]) | (apply lexFg (j := 8) (d := 11) (b := true) rfl rfl rfl rfl; (· intro _; go_simp; (try go_bits); exact ⟨rfl, rfl⟩); simp only [Act.put, List.setIfInBounds_toArray, List.set_cons_zero, List.set_cons_succ])
      first | (apply lexN (j := 8) (d := 11) (b := true) rfl rfl rfl rfl; simp only [Act.put, List.setIfInBounds_toArray, List.set_cons_zero, List.set_cons_succ]) | (apply lexN' (j := 8) (d := 11) (b := true) rfl rfl rfl; simp only [Act.put, List.setIfInBounds_toArray, List.set_cons_zero, List.set_cons_succ]) | (apply lexHg (j := 8) (d := 11) (b := true) rfl rfl rfl rfl; (· intro w' hw'; have hcc := cellsBelow hw'; go_simp; (try go_bits); exact ⟨rfl, hw'⟩); simp only [Act.put, List.setIfInBounds_toArray, List.set_cons_zero, List.set_cons_succ])
      first | (apply lexN (j := 8) (d := 11) (b := true) rfl rfl rfl rfl; simp only [Act.put, List.setIfInBounds_toArray, List.set_cons_zero, List.set_cons_succ]) | (apply lexN' (j := 8) (d := 11) (b := true) rfl rfl rfl; simp only [Act.put, List.setIfInBounds_toArray, List.set_cons_zero, List.set_cons_succ]) | (apply lexFg (j := 8) (d := 11) (b := true) rfl rfl rfl rfl; (· intro _; go_simp; (try go_bits); exact ⟨rfl, rfl⟩); simp only [Act.put, List.setIfInBounds_toArray, List.set_cons_zero, List.set_cons_succ])
      first | (apply lexN (j := 8) (d := 11) (b := true) rfl rfl rfl rfl; simp only [Act.put, List.setIfInBounds_toArray, List.set_cons_zero, List.set_cons_succ]) | (apply lexN' (j := 8) (d := 11) (b := true) rfl rfl rfl; simp only [Act.put, List.setIfInBounds_toArray, List.set_cons_zero, List.set_cons_succ]) | (apply lexHg (j := 8) (d := 11) (b := true) rfl rfl rfl rfl; (· intro w' hw'; have hcc := cellsBelow hw'; go_simp; (try go_bits); exact ⟨rfl, hw'⟩); simp only [Act.put, List.setIfInBounds_toArray, List.set_cons_zero, List.set_cons_succ])
      first | (apply lexN (j := 8) (d := 11) (b := true) rfl rfl rfl rfl; simp only [Act.put, List.setIfInBounds_toArray, List.set_cons_zero, List.set_cons_succ]) | (apply lexN' (j := 8) (d := 11) (b := true) rfl rfl rfl; simp only [Act.put, List.setIfInBounds_toArray, List.set_cons_zero, List.set_cons_succ]) | (apply lexHg (j := 8) (d := 11) (b := true) rfl rfl rfl rfl; (· intro w' hw'; have hcc := cellsBelow hw'; go_simp; (try go_bits); exact ⟨rfl, hw'⟩); simp only [Act.put, List.setIfInBounds_toArray, List.set_cons_zero, List.set_cons_succ])
      first | (apply lexN (j := 8) (d := 11) (b := true) rfl rfl rfl rfl; simp only [Act.put, List.setIfInBounds_toArray, List.set_cons_zero, List.set_cons_succ]) | (apply lexN' (j := 8) (d := 11) (b := true) rfl rfl rfl; simp only [Act.put, List.setIfInBounds_toArray, List.set_cons_zero, List.set_cons_succ]) | (apply lexFg (j := 8) (d := 11) (b := true) rfl rfl rfl rfl; (· intro _; go_simp; (try go_bits); exact ⟨rfl, rfl⟩); simp only [Act.put, List.setIfInBounds_toArray, List.set_cons_zero, List.set_cons_succ])
      first | (apply lexN (j := 8) (d := 11) (b := true) rfl rfl rfl rfl; simp only [Act.put, List.setIfInBounds_toArray, List.set_cons_zero, List.set_cons_succ]) | (apply lexN' (j := 8) (d := 11) (b := true) rfl rfl rfl; simp only [Act.put, List.setIfInBounds_toArray, List.set_cons_zero, List.set_cons_succ]) | (apply lexFg (j := 8) (d := 11) (b := true) rfl rfl rfl rfl; (· intro _; go_simp; (try go_bits); exact ⟨rfl, rfl⟩); simp only [Act.put, List.setIfInBounds_toArray, List.set_cons_zero, List.set_cons_succ])
      apply lexF rfl; (· intro _; go_simp; (try go_bits); exact ⟨rfl, rfl⟩); simp only [Act.put, List.setIfInBounds_toArray, List.set_cons_zero, List.set_cons_succ]
      apply lexF rfl; (· intro _; go_simp; (try go_bits); exact ⟨rfl, rfl⟩); simp only [Act.put, List.setIfInBounds_toArray, List.set_cons_zero, List.set_cons_succ]
      refine lexEnd (fun w2 hw2 => ?_)
      go_wp2
      go_ret
      exact ⟨rfl, fin _ hw2⟩
  · have e := vld_neg (a := a) h0
    have h2 : n < 0 := by omega
    apply lexF rfl; (· intro _; go_simp; (try go_bits); exact ⟨rfl, rfl⟩); simp only [Act.put, List.setIfInBounds_toArray, List.set_cons_zero, List.set_cons_succ]
    apply lexH rfl; (· intro w' hw'; have hcc := cellsBelow hw'; go_simp; (try go_bits); exact ⟨rfl, hw'⟩); simp only [Act.put, List.setIfInBounds_toArray, List.set_cons_zero, List.set_cons_succ]
    apply lexF rfl; (· intro _; go_simp; (try go_bits); exact ⟨rfl, rfl⟩); simp only [Act.put, List.setIfInBounds_toArray, List.set_cons_zero, List.set_cons_succ]
    apply lexF rfl; (· intro _; go_simp; (try go_bits); exact ⟨rfl, rfl⟩); simp only [Act.put, List.setIfInBounds_toArray, List.set_cons_zero, List.set_cons_succ]
    first | (apply lexN (j := 3) (d := 6) (b := true) rfl rfl rfl rfl; simp only [Act.put, List.setIfInBounds_toArray, List.set_cons_zero, List.set_cons_succ]) | (apply lexN' (j := 3) (d := 6) (b := true) rfl rfl rfl; simp only [Act.put, List.setIfInBounds_toArray, List.set_cons_zero, List.set_cons_succ]) | (apply lexFg (j := 3) (d := 6) (b := true) rfl rfl rfl rfl; (· intro _; go_simp; (try go_bits); exact ⟨rfl, rfl⟩); simp only [Act.put, List.setIfInBounds_toArray, List.set_cons_zero, List.set_cons_succ])
    first | (apply lexN (j := 3) (d := 6) (b := true) rfl rfl rfl rfl; simp only [Act.put, List.setIfInBounds_toArray, List.set_cons_zero, List.set_cons_succ]) | (apply lexN' (j := 3) (d := 6) (b := true) rfl rfl rfl; simp only [Act.put, List.setIfInBounds_toArray, List.set_cons_zero, List.set_cons_succ]) | (apply lexHg (j := 3) (d := 6) (b := true) rfl rfl rfl rfl; (· intro w' hw'; have hcc := cellsBelow hw'; go_simp; (try go_bits); exact ⟨rfl, hw'⟩); simp only [Act.put, List.setIfInBounds_toArray, List.set_cons_zero, List.set_cons_succ])
    first | (apply lexN (j := 3) (d := 6) (b := true) rfl rfl rfl rfl; simp only [Act.put, List.setIfInBounds_toArray, List.set_cons_zero, List.set_cons_succ]) | (apply lexN' (j := 3) (d := 6) (b := true) rfl rfl rfl; simp only [Act.put, List.setIfInBounds_toArray, List.set_cons_zero, List.set_cons_succ]) | (apply lexFg (j := 3) (d := 6) (b := true) rfl rfl rfl rfl; (· intro _; go_simp; (try go_bits); exact ⟨rfl, rfl⟩); simp only [Act.put, List.setIfInBounds_toArray, List.set_cons_zero, List.set_cons_succ])
    apply lexF rfl; (· intro _; go_simp; (try go_bits); exact ⟨rfl, rfl⟩); simp only [Act.put, List.setIfInBounds_toArray, List.set_cons_zero, List.set_cons_succ]
    apply lexF rfl; (· intro _; go_simp; (try go_bits); exact ⟨rfl, rfl⟩); simp only [Act.put, List.setIfInBounds_toArray, List.set_cons_zero, List.set_cons_succ]
    first | (apply lexN (j := 8) (d := 11) (b := true) rfl rfl rfl rfl; simp only [Act.put, List.setIfInBounds_toArray, List.set_cons_zero, List.set_cons_succ]) | (apply lexN' (j := 8) (d := 11) (b := true) rfl rfl rfl; simp only [Act.put, List.setIfInBounds_toArray, List.set_cons_zero, List.set_cons_succ]) | (apply lexFg (j := 8) (d := 11) (b := true) rfl rfl rfl rfl; (· intro _; go_simp; (try go_bits); exact ⟨rfl, rfl⟩); simp only [Act.put, List.setIfInBounds_toArray, List.set_cons_zero, List.set_cons_succ])
    first | (apply lexN (j := 8) (d := 11) (b := true) rfl rfl rfl rfl; simp only [Act.put, List.setIfInBounds_toArray, List.set_cons_zero, List.set_cons_succ]) | (apply lexN' (j := 8) (d := 11) (b := true) rfl rfl rfl; simp only [Act.put, List.setIfInBounds_toArray, List.set_cons_zero, List.set_cons_succ]) | (apply lexHg (j := 8) (d := 11) (b := true) rfl rfl rfl rfl; (· intro w' hw'; have hcc := cellsBelow hw'; go_simp; (try go_bits); exact ⟨rfl, hw'⟩); simp only [Act.put, List.setIfInBounds_toArray, List.set_cons_zero, List.set_cons_succ])
    first | (apply lexN (j := 8) (d := 11) (b := true) rfl rfl rfl rfl; simp only [Act.put, List.setIfInBounds_toArray, List.set_cons_zero, List.set_cons_succ]) | (apply lexN' (j := 8) (d := 11) (b := true) rfl rfl rfl; simp only [Act.put, List.setIfInBounds_toArray, List.set_cons_zero, List.set_cons_succ]) | (apply lexFg (j := 8) (d := 11) (b := true) rfl rfl rfl rfl; (· intro _; go_simp; (try go_bits); exact ⟨rfl, rfl⟩); simp only [Act.put, List.setIfInBounds_toArray, List.set_cons_zero, List.set_cons_succ])
    first | (apply lexN (j := 8) (d := 11) (b := true) rfl rfl rfl rfl; simp only [Act.put, List.setIfInBounds_toArray, List.set_cons_zero, List.set_cons_succ]) | (apply lexN' (j := 8) (d := 11) (b := true) rfl rfl rfl; simp only [Act.put, List.setIfInBounds_toArray, List.set_cons_zero, List.set_cons_succ]) | (apply lexHg (j := 8) (d := 11) (b := true) rfl rfl rfl rfl; (· intro w' hw'; have hcc := cellsBelow hw'; go_simp; (try go_bits); exact ⟨rfl, hw'⟩); simp only [Act.put, List.setIfInBounds_toArray, List.set_cons_zero, List.set_cons_succ])
    first | (apply lexN (j := 8) (d := 11) (b := true) rfl rfl rfl rfl; simp only [Act.put, List.setIfInBounds_toArray, List.set_cons_zero, List.set_cons_succ]) | (apply lexN' (j := 8) (d := 11) (b := true) rfl rfl rfl; simp only [Act.put, List.setIfInBounds_toArray, List.set_cons_zero, List.set_cons_succ]) | (apply lexHg (j := 8) (d := 11) (b := true) rfl rfl rfl rfl; (· intro w' hw'; have hcc := cellsBelow hw'; go_simp; (try go_bits); exact ⟨rfl, hw'⟩); simp only [Act.put, List.setIfInBounds_toArray, List.set_cons_zero, List.set_cons_succ])
    first | (apply lexN (j := 8) (d := 11) (b := true) rfl rfl rfl rfl; simp only [Act.put, List.setIfInBounds_toArray, List.set_cons_zero, List.set_cons_succ]) | (apply lexN' (j := 8) (d := 11) (b := true) rfl rfl rfl; simp only [Act.put, List.setIfInBounds_toArray, List.set_cons_zero, List.set_cons_succ]) | (apply lexFg (j := 8) (d := 11) (b := true) rfl rfl rfl rfl; (· intro _; go_simp; (try go_bits); exact ⟨rfl, rfl⟩); simp only [Act.put, List.setIfInBounds_toArray, List.set_cons_zero, List.set_cons_succ])
    first | (apply lexN (j := 8) (d := 11) (b := true) rfl rfl rfl rfl; simp only [Act.put, List.setIfInBounds_toArray, List.set_cons_zero, List.set_cons_succ]) | (apply lexN' (j := 8) (d := 11) (b := true) rfl rfl rfl; simp only [Act.put, List.setIfInBounds_toArray, List.set_cons_zero, List.set_cons_succ]) | (apply lexFg (j := 8) (d := 11) (b := true) rfl rfl rfl rfl; (· intro _; go_simp; (try go_bits); exact ⟨rfl, rfl⟩); simp only [Act.put, List.setIfInBounds_toArray, List.set_cons_zero, List.set_cons_succ])
    apply lexF rfl; (· intro _; go_simp; (try go_bits); exact ⟨rfl, rfl⟩); simp only [Act.put, List.setIfInBounds_toArray, List.set_cons_zero, List.set_cons_succ]
    apply lexF rfl; (· intro _; go_simp; (try go_bits); exact ⟨rfl, rfl⟩); simp only [Act.put, List.setIfInBounds_toArray, List.set_cons_zero, List.set_cons_succ]
    refine lexEnd (fun w2 hw2 => ?_)
    go_wp2
    go_ret
    exact ⟨rfl, fin _ hw2⟩

set_option maxHeartbeats 400000 in
theorem contains_any (a : Nat) (n : Int) (x : Nat) (w : World) (ha : W32 a) (hx : W32 x) :
    Calls Tryd.prog 18 #[.agg #[.int .u32 (a : Int), .int .i64 n], .int .u32 (x : Int)] w fun e w' => e = .returned (.bool (cts a n x)) ∧ Below w.heap.size w w' := by
  have fin : ∀ w2, Below (w.heap.size + 1) (w.alloc (.cells #[.int .u32 (a : Int), .int .i64 n] 24)) w2 → Below w.heap.size w w2 := fun w2 h =>
    ((Below.refl _ w).alloc (Nat.le_refl _) _).trans (h.mono (by omega))
  go_enter Tryd.func18, Tryd.ntmps18
  go_wp2
  refine wp_region_staged (fun w' => Below (w.heap.size + 1) (w.alloc (.cells #[.int .u32 (a : Int), .int .i64 n] 24)) w') [1, 1, 0, 0, 0, 1, 1, 0, 0, 1, 0, 0, 0] (by kernel_rfl) (by kernel_rfl) (by kernel_rfl) (by exact (Below.refl _ _).drew) ?_
  cases hv : vld a n
  · have E := hid (show cts a n x = false by simp [cts, hv])
    have HV := hid hv
    clear hv
    apply lexH rfl; (· intro w' hw'; have hcc := cellsBelow hw'; go_simp; (try go_bits); exact ⟨rfl, hw'⟩); simp only [Act.put, List.setIfInBounds_toArray, List.set_cons_zero, List.set_cons_succ]
    apply lexH rfl
    · intro w' hw'; go_simp; (try go_bits); refine (valid_any a n _ ha).mono ?_; rintro e w'' ⟨rfl, hb⟩; exact ⟨_, rfl, congrArg Value.bool HV.out, hw'.trans (hb.mono (by have := hw'.size; simp at this; omega))⟩
    simp only [Act.put, List.setIfInBounds_toArray, List.set_cons_zero, List.set_cons_succ]
    apply lexF rfl; (· intro _; go_simp; (try go_bits); exact ⟨rfl, rfl⟩); simp only [Act.put, List.setIfInBounds_toArray, List.set_cons_zero, List.set_cons_succ]
    first | (apply lexN (j := 2) (d := 7) (b := true) rfl rfl rfl rfl; simp only [Act.put, List.setIfInBounds_toArray, List.set_cons_zero, List.set_cons_succ]) | (apply lexN' (j := 2) (d := 7) (b := true) rfl rfl rfl; simp only [Act.put, List.setIfInBounds_toArray, List.set_cons_zero, List.set_cons_succ]) | (apply lexFg (j := 2) (d := 7) (b := true) rfl rfl rfl rfl; (· intro _; go_simp; (try go_bits); exact ⟨rfl, rfl⟩); simp only [Act.put, List.setIfInBounds_toArray, List.set_cons_zero, List.set_cons_succ])
    first | (apply lexN (j := 2) (d := 7) (b := true) rfl rfl rfl rfl; simp only [Act.put, List.setIfInBounds_toArray, List.set_cons_zero, List.set_cons_succ]) | (apply lexN' (j := 2) (d := 7) (b := true) rfl rfl rfl; simp only [Act.put, List.setIfInBounds_toArray, List.set_cons_zero, List.set_cons_succ]) | (apply lexFg (j := 2) (d := 7) (b := true) rfl rfl rfl rfl; (· intro _; go_simp; (try go_bits); exact ⟨rfl, rfl⟩); simp only [Act.put, List.setIfInBounds_toArray, List.set_cons_zero, List.set_cons_succ])
    first | (apply lexN (j := 2) (d := 7) (b := true) rfl rfl rfl rfl; simp only [Act.put, List.setIfInBounds_toArray, List.set_cons_zero, List.set_cons_succ]) | (apply lexN' (j := 2) (d := 7) (b := true) rfl rfl rfl; simp only [Act.put, List.setIfInBounds_toArray, List.set_cons_zero, List.set_cons_succ]) | (apply lexHg (j := 2) (d := 7) (b := true) rfl rfl rfl rfl; (· intro w' hw'; have hcc := cellsBelow hw'; go_simp; (try go_bits); exact ⟨rfl, hw'⟩); simp only [Act.put, List.setIfInBounds_toArray, List.set_cons_zero, List.set_cons_succ])
    first | (apply lexN (j := 2) (d := 7) (b := true) rfl rfl rfl rfl; simp only [Act.put, List.setIfInBounds_toArray, List.set_cons_zero, List.set_cons_succ]) | (apply lexN' (j := 2) (d := 7) (b := true) rfl rfl rfl; simp only [Act.put, List.setIfInBounds_toArray, List.set_cons_zero, List.set_cons_succ]) | (apply lexHg (j := 2) (d := 7) (b := true) rfl rfl rfl rfl; (· intro w' hw'; have hcc := cellsBelow hw'; go_simp; (try go_bits); exact ⟨rfl, hw'⟩); simp only [Act.put, List.setIfInBounds_toArray, List.set_cons_zero, List.set_cons_succ])
    first | (apply lexN (j := 2) (d := 7) (b := true) rfl rfl rfl rfl; simp only [Act.put, List.setIfInBounds_toArray, List.set_cons_zero, List.set_cons_succ]) | (apply lexN' (j := 2) (d := 7) (b := true) rfl rfl rfl; simp only [Act.put, List.setIfInBounds_toArray, List.set_cons_zero, List.set_cons_succ]) | (apply lexFg (j := 2) (d := 7) (b := true) rfl rfl rfl rfl; (· intro _; go_simp; (try go_bits); exact ⟨rfl, rfl⟩); simp only [Act.put, List.setIfInBounds_toArray, List.set_cons_zero, List.set_cons_succ])
    first | (apply lexN (j := 2) (d := 7) (b := true) rfl rfl rfl rfl; simp only [Act.put, List.setIfInBounds_toArray, List.set_cons_zero, List.set_cons_succ]) | (apply lexN' (j := 2) (d := 7) (b := true) rfl rfl rfl; simp only [Act.put, List.setIfInBounds_toArray, List.set_cons_zero, List.set_cons_succ]) | (apply lexFg (j := 2) (d := 7) (b := true) rfl rfl rfl rfl; (· intro _; go_simp; (try go_bits); exact ⟨rfl, rfl⟩); simp only [Act.put, List.setIfInBounds_toArray, List.set_cons_zero, List.set_cons_succ])
    first | (apply lexN (j := 2) (d := 7) (b := true) rfl rfl rfl rfl; simp only [Act.put, List.setIfInBounds_toArray, List.set_cons_zero, List.set_cons_succ]) | (apply lexN' (j := 2) (d := 7) (b := true) rfl rfl rfl; simp only [Act.put, List.setIfInBounds_toArray, List.set_cons_zero, List.set_cons_succ]) | (apply lexHg (j := 2) (d := 7) (b := true) rfl rfl rfl rfl; (· intro w' hw'; have hcc := cellsBelow hw'; go_simp; (try go_bits); exact ⟨rfl, hw'⟩); simp only [Act.put, List.setIfInBounds_toArray, List.set_cons_zero, List.set_cons_succ])
    first | (apply lexN (j := 2) (d := 7) (b := true) rfl rfl rfl rfl; simp only [Act.put, List.setIfInBounds_toArray, List.set_cons_zero, List.set_cons_succ]) | (apply lexN' (j := 2) (d := 7) (b := true) rfl rfl rfl; simp only [Act.put, List.setIfInBounds_toArray, List.set_cons_zero, List.set_cons_succ]) | (apply lexFg (j := 2) (d := 7) (b := true) rfl rfl rfl rfl; (· intro _; go_simp; (try go_bits); exact ⟨rfl, rfl⟩); simp only [Act.put, List.setIfInBounds_toArray, List.set_cons_zero, List.set_cons_succ])
    apply lexF rfl; (· intro _; go_simp; (try go_bits); exact ⟨rfl, rfl⟩); simp only [Act.put, List.setIfInBounds_toArray, List.set_cons_zero, List.set_cons_succ]
    apply lexF rfl; (· intro _; go_simp; (try go_bits); exact ⟨rfl, rfl⟩); simp only [Act.put, List.setIfInBounds_toArray, List.set_cons_zero, List.set_cons_succ]
    refine lexEnd (fun w2 hw2 => ?_)
    go_wp2
    go_ret
    exact ⟨by rw [E.out]; rfl, fin _ hw2⟩
  · obtain ⟨h0, h1, h2⟩ := vld_iff.1 hv
    have E := hid (show cts a n x = decide (base n.toNat x = a) by simp [cts, hv])
    have HV := hid hv
    have e2 := bits_and_mask hx h0 h1
    clear hv h2
    apply lexH rfl; (· intro w' hw'; have hcc := cellsBelow hw'; go_simp; (try go_bits); exact ⟨rfl, hw'⟩); simp only [Act.put, List.setIfInBounds_toArray, List.set_cons_zero, List.set_cons_succ]
    apply lexH rfl
    · intro w' hw'; go_simp; (try go_bits); refine (valid_any a n _ ha).mono ?_; rintro e w'' ⟨rfl, hb⟩; exact ⟨_, rfl, congrArg Value.bool HV.out, hw'.trans (hb.mono (by have := hw'.size; simp at this; omega))⟩
    simp only [Act.put, List.setIfInBounds_toArray, List.set_cons_zero, List.set_cons_succ]
    apply lexF rfl; (· intro _; go_simp; (try go_bits); exact ⟨rfl, rfl⟩); simp only [Act.put, List.setIfInBounds_toArray, List.set_cons_zero, List.set_cons_succ]
    first | (apply lexN (j := 2) (d := 7) (b := true) rfl rfl rfl rfl; simp only [Act.put, List.setIfInBounds_toArray, List.set_cons_zero, List.set_cons_succ]) | (apply lexN' (j := 2) (d := 7) (b := true) rfl rfl rfl; simp only [Act.put, List.setIfInBounds_toArray, List.set_cons_zero, List.set_cons_succ]) | (apply lexFg (j := 2) (d := 7) (b := true) rfl rfl rfl rfl; (· intro _; go_simp; (try go_bits); exact ⟨rfl, rfl⟩); simp only [Act.put, List.setIfInBounds_toArray, List.set_cons_zero, List.set_cons_succ])
    first | (apply lexN (j := 2) (d := 7) (b := true) rfl rfl rfl rfl; simp only [Act.put, List.setIfInBounds_toArray, List.set_cons_zero, List.set_cons_succ]) | (apply lexN' (j := 2) (d := 7) (b := true) rfl rfl rfl; simp only [Act.put, List.setIfInBounds_toArray, List.set_cons_zero, List.set_cons_succ]) | (apply lexFg (j := 2) (d := 7) (b := true) rfl rfl rfl rfl; (· intro _; go_simp; (try go_bits); exact ⟨rfl, rfl⟩); simp only [Act.put, List.setIfInBounds_toArray, List.set_cons_zero, List.set_cons_succ])
    first | (apply lexN (j := 2) (d := 7) (b := true) rfl rfl rfl rfl; simp only [Act.put, List.setIfInBounds_toArray, List.set_cons_zero, List.set_cons_succ]) | (apply lexN' (j := 2) (d := 7) (b := true) rfl rfl rfl; simp only [Act.put, List.setIfInBounds_toArray, List.set_cons_zero, List.set_cons_succ]) | (apply lexHg (j := 2) (d := 7) (b := true) rfl rfl rfl rfl; (· intro w' hw'; have hcc := cellsBelow hw'; go_simp; (try go_bits); exact ⟨rfl, hw'⟩); simp only [Act.put, List.setIfInBounds_toArray, List.set_cons_zero, List.set_cons_succ])
    apply lexHg (j := 2) (d := 7) (b := true) rfl rfl rfl rfl
    · intro w' hw'; go_simp; (try go_bits); refine (mask_any n _ h0 h1).mono ?_; rintro e w'' ⟨rfl, rfl⟩; exact ⟨_, rfl, rfl, hw'⟩
    simp only [Act.put, List.setIfInBounds_toArray, List.set_cons_zero, List.set_cons_succ]
    first | (apply lexN (j := 2) (d := 7) (b := true) rfl rfl rfl rfl; simp only [Act.put, List.setIfInBounds_toArray, List.set_cons_zero, List.set_cons_succ]) | (apply lexN' (j := 2) (d := 7) (b := true) rfl rfl rfl; simp only [Act.put, List.setIfInBounds_toArray, List.set_cons_zero, List.set_cons_succ]) | (apply lexFg (j := 2) (d := 7) (b := true) rfl rfl rfl rfl; (· intro _; go_simp; (try go_bits); exact ⟨rfl, rfl⟩); simp only [Act.put, List.setIfInBounds_toArray, List.set_cons_zero, List.set_cons_succ])
    first | (apply lexN (j := 2) (d := 7) (b := true) rfl rfl rfl rfl; simp only [Act.put, List.setIfInBounds_toArray, List.set_cons_zero, List.set_cons_succ]) | (apply lexN' (j := 2) (d := 7) (b := true) rfl rfl rfl; simp only [Act.put, List.setIfInBounds_toArray, List.set_cons_zero, List.set_cons_succ]) | (apply lexFg (j := 2) (d := 7) (b := true) rfl rfl rfl rfl; (· intro _; go_simp; (try go_bits); exact ⟨rfl, rfl⟩); simp only [Act.put, List.setIfInBounds_toArray, List.set_cons_zero, List.set_cons_succ])
    first | (apply lexN (j := 2) (d := 7) (b := true) rfl rfl rfl rfl; simp only [Act.put, List.setIfInBounds_toArray, List.set_cons_zero, List.set_cons_succ]) | (apply lexN' (j := 2) (d := 7) (b := true) rfl rfl rfl; simp only [Act.put, List.setIfInBounds_toArray, List.set_cons_zero, List.set_cons_succ]) | (apply lexHg (j := 2) (d := 7) (b := true) rfl rfl rfl rfl; (· intro w' hw'; have hcc := cellsBelow hw'; go_simp; (try go_bits); exact ⟨rfl, hw'⟩); simp only [Act.put, List.setIfInBounds_toArray, List.set_cons_zero, List.set_cons_succ])
    first | (apply lexN (j := 2) (d := 7) (b := true) rfl rfl rfl rfl; simp only [Act.put, List.setIfInBounds_toArray, List.set_cons_zero, List.set_cons_succ]) | (apply lexN' (j := 2) (d := 7) (b := true) rfl rfl rfl; simp only [Act.put, List.setIfInBounds_toArray, List.set_cons_zero, List.set_cons_succ]) | (apply lexFg (j := 2) (d := 7) (b := true) rfl rfl rfl rfl; (· intro _; go_simp; (try go_bits); exact ⟨rfl, rfl⟩); simp only [Act.put, List.setIfInBounds_toArray, List.set_cons_zero, List.set_cons_succ])
    apply lexF rfl; (· intro _; go_simp; (try go_bits); exact ⟨rfl, rfl⟩); simp only [Act.put, List.setIfInBounds_toArray, List.set_cons_zero, List.set_cons_succ]
    apply lexF rfl; (· intro _; go_simp; (try go_bits); exact ⟨rfl, rfl⟩); simp only [Act.put, List.setIfInBounds_toArray, List.set_cons_zero, List.set_cons_succ]
    refine lexEnd (fun w2 hw2 => ?_)
    go_wp2
    go_ret
    exact ⟨by rw [E.out]; exact ret_bool (by rw [Bool.eq_iff_iff]; simp only [beq_iff_eq, decide_eq_true_eq]; omega), fin _ hw2⟩

set_option maxHeartbeats 400000 in
theorem covers_any (a : Nat) (n : Int) (b : Nat) (m : Int) (w : World) (ha : W32 a) (hb : W32 b) :
    Calls Tryd.prog 17 #[.agg #[.int .u32 (a : Int), .int .i64 n], .agg #[.int .u32 (b : Int), .int .i64 m]] w fun e w' => e = .returned (.bool (cvr a n b m)) ∧ Below w.heap.size w w' := by
  have fin : ∀ w2, Below (w.heap.size + 2) ((w.alloc (.cells #[.int .u32 (a : Int), .int .i64 n] 24)).alloc (.cells #[.int .u32 (b : Int), .int .i64 m] 24)) w2 → Below w.heap.size w w2 := fun w2 h =>
    (((Below.refl _ w).alloc (Nat.le_refl _) _).alloc (by simp) _).trans (h.mono (by omega))
  go_enter Tryd.func17, Tryd.ntmps17
  have S0 : ∀ w', Below (w.heap.size + 2) ((w.alloc (.cells #[.int .u32 (a : Int), .int .i64 n] 24)).alloc (.cells #[.int .u32 (b : Int), .int .i64 m] 24)) w' → w.heap.size + 2 ≤ w'.heap.size := fun w' h => by
    have := h.size; simp at this; omega
  go_upto_region 1 with (fail)
  refine wp_region_text (fun w' => Below (w.heap.size + 2) ((w.alloc (.cells #[.int .u32 (a : Int), .int .i64 n] 24)).alloc (.cells #[.int .u32 (b : Int), .int .i64 m] 24)) w') [1, 1, 0, 1, 0, 1, 1, 0, 0, 0, 1, 0, 1, 0, 0, 0] (by exact Below.refl _ _) ?_
  cases hv : vld b m
  · have E := hid (show cvr a n b m = false by simp [cvr, hv])
    have HV := hid hv
    clear hv
    apply lexH rfl; (· intro w' hw'; have hcc := cellsBelow hw'; go_simp; (try go_bits); exact ⟨rfl, hw'⟩); simp only [Act.put, List.setIfInBounds_toArray, List.set_cons_zero, List.set_cons_succ]
    apply lexH rfl
    · intro w' hw'; go_simp; (try go_bits); refine (valid_any b m _ hb).mono ?_; rintro e w'' ⟨rfl, hbb⟩; exact ⟨_, rfl, congrArg Value.bool HV.out, hw'.trans (hbb.mono (S0 _ hw'))⟩
    simp only [Act.put, List.setIfInBounds_toArray, List.set_cons_zero, List.set_cons_succ]
    apply lexF rfl; (· intro _; go_simp; (try go_bits); exact ⟨rfl, rfl⟩); simp only [Act.put, List.setIfInBounds_toArray, List.set_cons_zero, List.set_cons_succ]
    first | (apply lexN (j := 2) (d := 7) (b := true) rfl rfl rfl rfl; simp only [Act.put, List.setIfInBounds_toArray, List.set_cons_zero, List.set_cons_succ]) | (apply lexN' (j := 2) (d := 7) (b := true) rfl rfl rfl; simp only [Act.put, List.setIfInBounds_toArray, List.set_cons_zero, List.set_cons_succ]) | (apply lexHg (j := 2) (d := 7) (b := true) rfl rfl rfl rfl; (· intro w' hw'; have hcc := cellsBelow hw'; go_simp; (try go_bits); exact ⟨rfl, hw'⟩); simp only [Act.put, List.setIfInBounds_toArray, List.set_cons_zero, List.set_cons_succ])
    first | (apply lexN (j := 2) (d := 7) (b := true) rfl rfl rfl rfl; simp only [Act.put, List.setIfInBounds_toArray, List.set_cons_zero, List.set_cons_succ]) | (apply lexN' (j := 2) (d := 7) (b := true) rfl rfl rfl; simp only [Act.put, List.setIfInBounds_toArray, List.set_cons_zero, List.set_cons_succ]) | (apply lexFg (j := 2) (d := 7) (b := true) rfl rfl rfl rfl; (· intro _; go_simp; (try go_bits); exact ⟨rfl, rfl⟩); simp only [Act.put, List.setIfInBounds_toArray, List.set_cons_zero, List.set_cons_succ])
    first | (apply lexN (j := 2) (d := 7) (b := true) rfl rfl rfl rfl; simp only [Act.put, List.setIfInBounds_toArray, List.set_cons_zero, List.set_cons_succ]) | (apply lexN' (j := 2) (d := 7) (b := true) rfl rfl rfl; simp only [Act.put, List.setIfInBounds_toArray, List.set_cons_zero, List.set_cons_succ]) | (apply lexHg (j := 2) (d := 7) (b := true) rfl rfl rfl rfl; (· intro w' hw'; have hcc := cellsBelow hw'; go_simp; (try go_bits); exact ⟨rfl, hw'⟩); simp only [Act.put, List.setIfInBounds_toArray, List.set_cons_zero, List.set_cons_succ])
    first | (apply lexN (j := 2) (d := 7) (b := true) rfl rfl rfl rfl; simp only [Act.put, List.setIfInBounds_toArray, List.set_cons_zero, List.set_cons_succ]) | (apply lexN' (j := 2) (d := 7) (b := true) rfl rfl rfl; simp only [Act.put, List.setIfInBounds_toArray, List.set_cons_zero, List.set_cons_succ]) | (apply lexHg (j := 2) (d := 7) (b := true) rfl rfl rfl rfl; (· intro w' hw'; have hcc := cellsBelow hw'; go_simp; (try go_bits); exact ⟨rfl, hw'⟩); simp only [Act.put, List.setIfInBounds_toArray, List.set_cons_zero, List.set_cons_succ])
    apply lexF rfl; (· intro _; go_simp; (try go_bits); exact ⟨rfl, rfl⟩); simp only [Act.put, List.setIfInBounds_toArray, List.set_cons_zero, List.set_cons_succ]
    apply lexF rfl; (· intro _; go_simp; (try go_bits); exact ⟨rfl, rfl⟩); simp only [Act.put, List.setIfInBounds_toArray, List.set_cons_zero, List.set_cons_succ]
    first | (apply lexN (j := 8) (d := 13) (b := true) rfl rfl rfl rfl; simp only [Act.put, List.setIfInBounds_toArray, List.set_cons_zero, List.set_cons_succ]) | (apply lexN' (j := 8) (d := 13) (b := true) rfl rfl rfl; simp only [Act.put, List.setIfInBounds_toArray, List.set_cons_zero, List.set_cons_succ]) | (apply lexFg (j := 8) (d := 13) (b := true) rfl rfl rfl rfl; (· intro _; go_simp; (try go_bits); exact ⟨rfl, rfl⟩); simp only [Act.put, List.setIfInBounds_toArray, List.set_cons_zero, List.set_cons_succ])
    first | (apply lexN (j := 8) (d := 13) (b := true) rfl rfl rfl rfl; simp only [Act.put, List.setIfInBounds_toArray, List.set_cons_zero, List.set_cons_succ]) | (apply lexN' (j := 8) (d := 13) (b := true) rfl rfl rfl; simp only [Act.put, List.setIfInBounds_toArray, List.set_cons_zero, List.set_cons_succ]) | (apply lexHg (j := 8) (d := 13) (b := true) rfl rfl rfl rfl; (· intro w' hw'; have hcc := cellsBelow hw'; go_simp; (try go_bits); exact ⟨rfl, hw'⟩); simp only [Act.put, List.setIfInBounds_toArray, List.set_cons_zero, List.set_cons_succ])
    first | (apply lexN (j := 8) (d := 13) (b := true) rfl rfl rfl rfl; simp only [Act.put, List.setIfInBounds_toArray, List.set_cons_zero, List.set_cons_succ]) | (apply lexN' (j := 8) (d := 13) (b := true) rfl rfl rfl; simp only [Act.put, List.setIfInBounds_toArray, List.set_cons_zero, List.set_cons_succ]) | (apply lexFg (j := 8) (d := 13) (b := true) rfl rfl rfl rfl; (· intro _; go_simp; (try go_bits); exact ⟨rfl, rfl⟩); simp only [Act.put, List.setIfInBounds_toArray, List.set_cons_zero, List.set_cons_succ])
    first | (apply lexN (j := 8) (d := 13) (b := true) rfl rfl rfl rfl; simp only [Act.put, List.setIfInBounds_toArray, List.set_cons_zero, List.set_cons_succ]) | (apply lexN' (j := 8) (d := 13) (b := true) rfl rfl rfl; simp only [Act.put, List.setIfInBounds_toArray, List.set_cons_zero, List.set_cons_succ]) | (apply lexHg (j := 8) (d := 13) (b := true) rfl rfl rfl rfl; (· intro w' hw'; have hcc := cellsBelow hw'; go_simp; (try go_bits); exact ⟨rfl, hw'⟩); simp only [Act.put, List.setIfInBounds_toArray, List.set_cons_zero, List.set_cons_succ])
    first | (apply lexN (j := 8) (d := 13) (b := true) rfl rfl rfl rfl; simp only [Act.put, List.setIfInBounds_toArray, List.set_cons_zero, List.set_cons_succ]) | (apply lexN' (j := 8) (d := 13) (b := true) rfl rfl rfl; simp only [Act.put, List.setIfInBounds_toArray, List.set_cons_zero, List.set_cons_succ]) | (apply lexFg (j := 8) (d := 13) (b := true) rfl rfl rfl rfl; (· intro _; go_simp; (try go_bits); exact ⟨rfl, rfl⟩); simp only [Act.put, List.setIfInBounds_toArray, List.set_cons_zero, List.set_cons_succ])
    apply lexF rfl; (· intro _; go_simp; (try go_bits); exact ⟨rfl, rfl⟩); simp only [Act.put, List.setIfInBounds_toArray, List.set_cons_zero, List.set_cons_succ]
    apply lexF rfl; (· intro _; go_simp; (try go_bits); exact ⟨rfl, rfl⟩); simp only [Act.put, List.setIfInBounds_toArray, List.set_cons_zero, List.set_cons_succ]
    refine lexEnd (fun w2 hw2 => ?_)
    go_wp2
    go_ret
    exact ⟨by rw [E.out]; rfl, fin _ hw2⟩
  · cases hc : cts a n b
    · have E := hid (show cvr a n b m = false by simp [cvr, hv, hc])
      have HV := hid hv
      have HC := hid hc
      clear hv hc
      apply lexH rfl; (· intro w' hw'; have hcc := cellsBelow hw'; go_simp; (try go_bits); exact ⟨rfl, hw'⟩); simp only [Act.put, List.setIfInBounds_toArray, List.set_cons_zero, List.set_cons_succ]
      apply lexH rfl
      · intro w' hw'; go_simp; (try go_bits); refine (valid_any b m _ hb).mono ?_; rintro e w'' ⟨rfl, hbb⟩; exact ⟨_, rfl, congrArg Value.bool HV.out, hw'.trans (hbb.mono (S0 _ hw'))⟩
      simp only [Act.put, List.setIfInBounds_toArray, List.set_cons_zero, List.set_cons_succ]
      apply lexF rfl; (· intro _; go_simp; (try go_bits); exact ⟨rfl, rfl⟩); simp only [Act.put, List.setIfInBounds_toArray, List.set_cons_zero, List.set_cons_succ]
      first | (apply lexN (j := 2) (d := 7) (b := true) rfl rfl rfl rfl; simp only [Act.put, List.setIfInBounds_toArray, List.set_cons_zero, List.set_cons_succ]) | (apply lexN' (j := 2) (d := 7) (b := true) rfl rfl rfl; simp only [Act.put, List.setIfInBounds_toArray, List.set_cons_zero, List.set_cons_succ]) | (apply lexHg (j := 2) (d := 7) (b := true) rfl rfl rfl rfl; (· intro w' hw'; have hcc := cellsBelow hw'; go_simp; (try go_bits); exact ⟨rfl, hw'⟩); simp only [Act.put, List.setIfInBounds_toArray, List.set_cons_zero, List.set_cons_succ])
      first | (apply lexN (j := 2) (d := 7) (b := true) rfl rfl rfl rfl; simp only [Act.put, List.setIfInBounds_toArray, List.set_cons_zero, List.set_cons_succ]) | (apply lexN' (j := 2) (d := 7) (b := true) rfl rfl rfl; simp only [Act.put, List.setIfInBounds_toArray, List.set_cons_zero, List.set_cons_succ]) | (apply lexFg (j := 2) (d := 7) (b := true) rfl rfl rfl rfl; (· intro _; go_simp; (try go_bits); exact ⟨rfl, rfl⟩); simp only [Act.put, List.setIfInBounds_toArray, List.set_cons_zero, List.set_cons_succ])
      first | (apply lexN (j := 2) (d := 7) (b := true) rfl rfl rfl rfl; simp only [Act.put, List.setIfInBounds_toArray, List.set_cons_zero, List.set_cons_succ]) | (apply lexN' (j := 2) (d := 7) (b := true) rfl rfl rfl; simp only [Act.put, List.setIfInBounds_toArray, List.set_cons_zero, List.set_cons_succ]) | (apply lexHg (j := 2) (d := 7) (b := true) rfl rfl rfl rfl; (· intro w' hw'; have hcc := cellsBelow hw'; go_simp; (try go_bits); exact ⟨rfl, hw'⟩); simp only [Act.put, List.setIfInBounds_toArray, List.set_cons_zero, List.set_cons_succ])
      apply lexHg (j := 2) (d := 7) (b := true) rfl rfl rfl rfl
      · intro w' hw'; go_simp; (try go_bits); refine (contains_any a n b _ ha hb).mono ?_; rintro e w'' ⟨rfl, hbb⟩; exact ⟨_, rfl, congrArg Value.bool HC.out, hw'.trans (hbb.mono (S0 _ hw'))⟩
      simp only [Act.put, List.setIfInBounds_toArray, List.set_cons_zero, List.set_cons_succ]
      apply lexF rfl; (· intro _; go_simp; (try go_bits); exact ⟨rfl, rfl⟩); simp only [Act.put, List.setIfInBounds_toArray, List.set_cons_zero, List.set_cons_succ]
      apply lexF rfl; (· intro _; go_simp; (try go_bits); exact ⟨rfl, rfl⟩); simp only [Act.put, List.setIfInBounds_toArray, List.set_cons_zero, List.set_cons_succ]
      first | (apply lexN (j := 8) (d := 13) (b := true) rfl rfl rfl rfl; simp only [Act.put, List.setIfInBounds_toArray, List.set_cons_zero, List.set_cons_succ]) | (apply lexN' (j := 8) (d := 13) (b := true) rfl rfl rfl; simp only [Act.put, List.setIfInBounds_toArray, List.set_cons_zero, List.set_cons_succ]) | (apply lexFg (j := 8) (d := 13) (b := true) rfl rfl rfl rfl; (· intro _; go_simp; (try go_bits); exact ⟨rfl, rfl⟩); simp only [Act.put, List.setIfInBounds_toArray, List.set_cons_zero, List.set_cons_succ])
      first | (apply lexN (j := 8) (d := 13) (b := true) rfl rfl rfl rfl; simp only [Act.put, List.setIfInBounds_toArray, List.set_cons_zero, List.set_cons_succ]) | (apply lexN' (j := 8) (d := 13) (b := true) rfl rfl rfl; simp only [Act.put, List.setIfInBounds_toArray, List.set_cons_zero, List.set_cons_succ]) | (apply lexHg (j := 8) (d := 13) (b := true) rfl rfl rfl rfl; (· intro w' hw'; have hcc := cellsBelow hw'; go_simp; (try go_bits); exact ⟨rfl, hw'⟩); simp only [Act.put, List.setIfInBounds_toArray, List.set_cons_zero, List.set_cons_succ])
      first | (apply lexN (j := 8) (d := 13) (b := true) rfl rfl rfl rfl; simp only [Act.put, List.setIfInBounds_toArray, List.set_cons_zero, List.set_cons_succ]) | (apply lexN' (j := 8) (d := 13) (b := true) rfl rfl rfl; simp only [Act.put, List.setIfInBounds_toArray, List.set_cons_zero, List.set_cons_succ]) | (apply lexFg (j := 8) (d := 13) (b := true) rfl rfl rfl rfl; (· intro _; go_simp; (try go_bits); exact ⟨rfl, rfl⟩); simp only [Act.put, List.setIfInBounds_toArray, List.set_cons_zero, List.set_cons_succ])
      first | (apply lexN (j := 8) (d := 13) (b := true) rfl rfl rfl rfl; simp only [Act.put, List.setIfInBounds_toArray, List.set_cons_zero, List.set_cons_succ]) | (apply lexN' (j := 8) (d := 13) (b := true) rfl rfl rfl; simp only [Act.put, List.setIfInBounds_toArray, List.set_cons_zero, List.set_cons_succ]) | (apply lexHg (j := 8) (d := 13) (b := true) rfl rfl rfl rfl; (· intro w' hw'; have hcc := cellsBelow hw'; go_simp; (try go_bits); exact ⟨rfl, hw'⟩); simp only [Act.put, List.setIfInBounds_toArray, List.set_cons_zero, List.set_cons_succ])
      first | (apply lexN (j := 8) (d := 13) (b := true) rfl rfl rfl rfl; simp only [Act.put, List.setIfInBounds_toArray, List.set_cons_zero, List.set_cons_succ]) | (apply lexN' (j := 8) (d := 13) (b := true) rfl rfl rfl; simp only [Act.put, List.setIfInBounds_toArray, List.set_cons_zero, List.set_cons_succ]) | (apply lexFg (j := 8) (d := 13) (b := true) rfl rfl rfl rfl; (· intro _; go_simp; (try go_bits); exact ⟨rfl, rfl⟩); simp only [Act.put, List.setIfInBounds_toArray, List.set_cons_zero, List.set_cons_succ])
      apply lexF rfl; (· intro _; go_simp; (try go_bits); exact ⟨rfl, rfl⟩); simp only [Act.put, List.setIfInBounds_toArray, List.set_cons_zero, List.set_cons_succ]
      apply lexF rfl; (· intro _; go_simp; (try go_bits); exact ⟨rfl, rfl⟩); simp only [Act.put, List.setIfInBounds_toArray, List.set_cons_zero, List.set_cons_succ]
      refine lexEnd (fun w2 hw2 => ?_)
      go_wp2
      go_ret
      exact ⟨by rw [E.out]; rfl, fin _ hw2⟩
    · have E := hid (show cvr a n b m = decide (n ≤ m) by simp [cvr, hv, hc])
      have HV := hid hv
      have HC := hid hc
      clear hv hc
      apply lexH rfl; (· intro w' hw'; have hcc := cellsBelow hw'; go_simp; (try go_bits); exact ⟨rfl, hw'⟩); simp only [Act.put, List.setIfInBounds_toArray, List.set_cons_zero, List.set_cons_succ]
      apply lexH rfl
      · intro w' hw'; go_simp; (try go_bits); refine (valid_any b m _ hb).mono ?_; rintro e w'' ⟨rfl, hbb⟩; exact ⟨_, rfl, congrArg Value.bool HV.out, hw'.trans (hbb.mono (S0 _ hw'))⟩
      simp only [Act.put, List.setIfInBounds_toArray, List.set_cons_zero, List.set_cons_succ]
      apply lexF rfl; (· intro _; go_simp; (try go_bits); exact ⟨rfl, rfl⟩); simp only [Act.put, List.setIfInBounds_toArray, List.set_cons_zero, List.set_cons_succ]
      first | (apply lexN (j := 2) (d := 7) (b := true) rfl rfl rfl rfl; simp only [Act.put, List.setIfInBounds_toArray, List.set_cons_zero, List.set_cons_succ]) | (apply lexN' (j := 2) (d := 7) (b := true) rfl rfl rfl; simp only [Act.put, List.setIfInBounds_toArray, List.set_cons_zero, List.set_cons_succ]) | (apply lexHg (j := 2) (d := 7) (b := true) rfl rfl rfl rfl; (· intro w' hw'; have hcc := cellsBelow hw'; go_simp; (try go_bits); exact ⟨rfl, hw'⟩); simp only [Act.put, List.setIfInBounds_toArray, List.set_cons_zero, List.set_cons_succ])
      first | (apply lexN (j := 2) (d := 7) (b := true) rfl rfl rfl rfl; simp only [Act.put, List.setIfInBounds_toArray, List.set_cons_zero, List.set_cons_succ]) | (apply lexN' (j := 2) (d := 7) (b := true) rfl rfl rfl; simp only [Act.put, List.setIfInBounds_toArray, List.set_cons_zero, List.set_cons_succ]) | (apply lexFg (j := 2) (d := 7) (b := true) rfl rfl rfl rfl; (· intro _; go_simp; (try go_bits); exact ⟨rfl, rfl⟩); simp only [Act.put, List.setIfInBounds_toArray, List.set_cons_zero, List.set_cons_succ])
      first | (apply lexN (j := 2) (d := 7) (b := true) rfl rfl rfl rfl; simp only [Act.put, List.setIfInBounds_toArray, List.set_cons_zero, List.set_cons_succ]) | (apply lexN' (j := 2) (d := 7) (b := true) rfl rfl rfl; simp only [Act.put, List.setIfInBounds_toArray, List.set_cons_zero, List.set_cons_succ]) | (apply lexHg (j := 2) (d := 7) (b := true) rfl rfl rfl rfl; (· intro w' hw'; have hcc := cellsBelow hw'; go_simp; (try go_bits); exact ⟨rfl, hw'⟩); simp only [Act.put, List.setIfInBounds_toArray, List.set_cons_zero, List.set_cons_succ])
      apply lexHg (j := 2) (d := 7) (b := true) rfl rfl rfl rfl
      · intro w' hw'; go_simp; (try go_bits); refine (contains_any a n b _ ha hb).mono ?_; rintro e w'' ⟨rfl, hbb⟩; exact ⟨_, rfl, congrArg Value.bool HC.out, hw'.trans (hbb.mono (S0 _ hw'))⟩
      simp only [Act.put, List.setIfInBounds_toArray, List.set_cons_zero, List.set_cons_succ]
      apply lexF rfl; (· intro _; go_simp; (try go_bits); exact ⟨rfl, rfl⟩); simp only [Act.put, List.setIfInBounds_toArray, List.set_cons_zero, List.set_cons_succ]
      apply lexF rfl; (· intro _; go_simp; (try go_bits); exact ⟨rfl, rfl⟩); simp only [Act.put, List.setIfInBounds_toArray, List.set_cons_zero, List.set_cons_succ]
      first | (apply lexN (j := 8) (d := 13) (b := true) rfl rfl rfl rfl; simp only [Act.put, List.setIfInBounds_toArray, List.set_cons_zero, List.set_cons_succ]) | (apply lexN' (j := 8) (d := 13) (b := true) rfl rfl rfl; simp only [Act.put, List.setIfInBounds_toArray, List.set_cons_zero, List.set_cons_succ]) | (apply lexFg (j := 8) (d := 13) (b := true) rfl rfl rfl rfl; (· intro _; go_simp; (try go_bits); exact ⟨rfl, rfl⟩); simp only [Act.put, List.setIfInBounds_toArray, List.set_cons_zero, List.set_cons_succ])
      first | (apply lexN (j := 8) (d := 13) (b := true) rfl rfl rfl rfl; simp only [Act.put, List.setIfInBounds_toArray, List.set_cons_zero, List.set_cons_succ]) | (apply lexN' (j := 8) (d := 13) (b := true) rfl rfl rfl; simp only [Act.put, List.setIfInBounds_toArray, List.set_cons_zero, List.set_cons_succ]) | (apply lexHg (j := 8) (d := 13) (b := true) rfl rfl rfl rfl; (· intro w' hw'; have hcc := cellsBelow hw'; go_simp; (try go_bits); exact ⟨rfl, hw'⟩); simp only [Act.put, List.setIfInBounds_toArray, List.set_cons_zero, List.set_cons_succ])
      first | (apply lexN (j := 8) (d := 13) (b := true) rfl rfl rfl rfl; simp only [Act.put, List.setIfInBounds_toArray, List.set_cons_zero, List.set_cons_succ]) | (apply lexN' (j := 8) (d := 13) (b := true) rfl rfl rfl; simp only [Act.put, List.setIfInBounds_toArray, List.set_cons_zero, List.set_cons_succ]) | (apply lexFg (j := 8) (d := 13) (b := true) rfl rfl rfl rfl; (· intro _; go_simp; (try go_bits); exact ⟨rfl, rfl⟩); simp only [Act.put, List.setIfInBounds_toArray, List.set_cons_zero, List.set_cons_succ])
      first | (apply lexN (j := 8) (d := 13) (b := true) rfl rfl rfl rfl; simp only [Act.put, List.setIfInBounds_toArray, List.set_cons_zero, List.set_cons_succ]) | (apply lexN' (j := 8) (d := 13) (b := true) rfl rfl rfl; simp only [Act.put, List.setIfInBounds_toArray, List.set_cons_zero, List.set_cons_succ]) | (apply lexHg (j := 8) (d := 13) (b := true) rfl rfl rfl rfl; (· intro w' hw'; have hcc := cellsBelow hw'; go_simp; (try go_bits); exact ⟨rfl, hw'⟩); simp only [Act.put, List.setIfInBounds_toArray, List.set_cons_zero, List.set_cons_succ])
      first | (apply lexN (j := 8) (d := 13) (b := true) rfl rfl rfl rfl; simp only [Act.put, List.setIfInBounds_toArray, List.set_cons_zero, List.set_cons_succ]) | (apply lexN' (j := 8) (d := 13) (b := true) rfl rfl rfl; simp only [Act.put, List.setIfInBounds_toArray, List.set_cons_zero, List.set_cons_succ]) | (apply lexFg (j := 8) (d := 13) (b := true) rfl rfl rfl rfl; (· intro _; go_simp; (try go_bits); exact ⟨rfl, rfl⟩); simp only [Act.put, List.setIfInBounds_toArray, List.set_cons_zero, List.set_cons_succ])
      apply lexF rfl; (· intro _; go_simp; (try go_bits); exact ⟨rfl, rfl⟩); simp only [Act.put, List.setIfInBounds_toArray, List.set_cons_zero, List.set_cons_succ]
      apply lexF rfl; (· intro _; go_simp; (try go_bits); exact ⟨rfl, rfl⟩); simp only [Act.put, List.setIfInBounds_toArray, List.set_cons_zero, List.set_cons_succ]
      refine lexEnd (fun w2 hw2 => ?_)
      go_wp2
      go_ret
      exact ⟨by rw [E.out]; rfl, fin _ hw2⟩

set_option maxHeartbeats 400000 in
theorem parent_any (a : Nat) (n : Nat) (w : World) (ha : W32 a) (hv : vld a (n : Int) = true) (hn : 1 ≤ n) :
    Calls Tryd.prog 21 #[.agg #[.int .u32 (a : Int), .int .i64 (n : Int)]] w fun e w' =>
      e = .returned (.tuple #[.agg #[.int .u32 ((base (n - 1) a : Nat) : Int), .int .i64 ((n - 1 : Nat) : Int)], .int .i64 0]) ∧ Below w.heap.size w w' := by
  obtain ⟨h0, h1, _⟩ := vld_iff.1 hv
  have h4 : 0 ≤ (n : Int) - 1 := by omega
  have h3 : (n : Int) - 1 ≤ 32 := by omega
  have e2 := bits_and_mask ha h4 h3
  have e3 : ((n : Int) - 1).toNat = n - 1 := by omega
  rw [e3] at e2
  clear e3
  have HV := hid hv
  clear hv
  have fin : ∀ w2, Below (w.heap.size + 2) ((w.alloc (.cells #[.int .u32 (a : Int), .int .i64 (n : Int)] 24)).alloc (.cells #[.int .u32 0, .int .i64 0] 24)) w2 → Below w.heap.size w w2 := fun w2 h =>
    (((Below.refl _ w).alloc (Nat.le_refl _) _).alloc (by simp) _).trans (h.mono (by omega))
  go_enter Tryd.func21, Tryd.ntmps21
  go_upto_region 1 with (fail)
  have S0 : ∀ w', Below (w.heap.size + 2) ((w.alloc (.cells #[.int .u32 (a : Int), .int .i64 (n : Int)] 24)).alloc (.cells #[.int .u32 0, .int .i64 0] 24)) w' → w.heap.size + 2 ≤ w'.heap.size := fun w' h => by
    have := h.size; simp at this; omega
  refine wp_region_text (fun w' => Below (w.heap.size + 2) ((w.alloc (.cells #[.int .u32 (a : Int), .int .i64 (n : Int)] 24)).alloc (.cells #[.int .u32 0, .int .i64 0] 24)) w') [1, 1, 0] (by exact Below.refl _ _) ?_
  apply lexH rfl; (· intro w' hw'; have hcc := cellsBelow hw'; go_simp; (try go_bits); exact ⟨rfl, hw'⟩); simp only [Act.put, List.setIfInBounds_toArray, List.set_cons_zero, List.set_cons_succ]
  apply lexH rfl
  · intro w' hw'; go_simp; (try go_bits); refine (valid_any a n _ ha).mono ?_; rintro e w'' ⟨rfl, hbb⟩; exact ⟨_, rfl, congrArg Value.bool HV.out, hw'.trans (hbb.mono (S0 _ hw'))⟩
  simp only [Act.put, List.setIfInBounds_toArray, List.set_cons_zero, List.set_cons_succ]
  apply lexF rfl; (· intro _; go_simp; (try go_bits); exact ⟨rfl, rfl⟩); simp only [Act.put, List.setIfInBounds_toArray, List.set_cons_zero, List.set_cons_succ]
  refine lexEnd (fun w2 hw2 => ?_)
  have hcc := cellsBelow hw2
  have hn0 : ((n : Int) == 0) = false := by rw [beq_eq_false_iff_ne]; omega
  go_upto_region 5 with (fail)
  clear hcc
  refine wp_region_staged (fun w' => Below (w.heap.size + 2) ((w.alloc (.cells #[.int .u32 (a : Int), .int .i64 (n : Int)] 24)).alloc (.cells #[.int .u32 0, .int .i64 0] 24)) w') [0, 1, 0, 1, 0, 1, 0, 0, 1, 0, 0, 2, 0] (by kernel_rfl) (by kernel_rfl) (by kernel_rfl) (by exact hw2.drew) ?_
  apply lexF rfl; (· intro _; go_simp; (try go_bits); exact ⟨rfl, rfl⟩); simp only [Act.put, List.setIfInBounds_toArray, List.set_cons_zero, List.set_cons_succ]
  apply lexH rfl; (· intro w' hw'; have hcc := cellsBelow hw'; go_simp; (try go_bits); exact ⟨rfl, hw'⟩); simp only [Act.put, List.setIfInBounds_toArray, List.set_cons_zero, List.set_cons_succ]
  apply lexF rfl; (· intro _; go_simp; (try go_bits); exact ⟨rfl, rfl⟩); simp only [Act.put, List.setIfInBounds_toArray, List.set_cons_zero, List.set_cons_succ]
  apply lexH rfl; (· intro w' hw'; have hcc := cellsBelow hw'; go_simp; (try go_bits); exact ⟨rfl, hw'⟩); simp only [Act.put, List.setIfInBounds_toArray, List.set_cons_zero, List.set_cons_succ]
  apply lexF rfl; (· intro _; go_simp; (try go_bits); exact ⟨rfl, rfl⟩); simp only [Act.put, List.setIfInBounds_toArray, List.set_cons_zero, List.set_cons_succ]
  apply lexH rfl
  · intro w' hw'; go_simp; (try go_bits); refine (mask_any _ _ h4 h3).mono ?_; rintro e w'' ⟨rfl, rfl⟩; exact ⟨_, rfl, rfl, hw'⟩
  simp only [Act.put, List.setIfInBounds_toArray, List.set_cons_zero, List.set_cons_succ]
  apply lexF rfl; (· intro _; go_simp; (try go_bits); exact ⟨rfl, rfl⟩); simp only [Act.put, List.setIfInBounds_toArray, List.set_cons_zero, List.set_cons_succ]
  apply lexF rfl; (· intro _; go_simp; (try go_bits); exact ⟨rfl, rfl⟩); simp only [Act.put, List.setIfInBounds_toArray, List.set_cons_zero, List.set_cons_succ]
  apply lexH rfl; (· intro w' hw'; have hcc := cellsBelow hw'; go_simp; (try go_bits); exact ⟨rfl, hw'⟩); simp only [Act.put, List.setIfInBounds_toArray, List.set_cons_zero, List.set_cons_succ]
  apply lexF rfl; (· intro _; go_simp; (try go_bits); exact ⟨rfl, rfl⟩); simp only [Act.put, List.setIfInBounds_toArray, List.set_cons_zero, List.set_cons_succ]
  apply lexF rfl; (· intro _; go_simp; (try go_bits); exact ⟨rfl, rfl⟩); simp only [Act.put, List.setIfInBounds_toArray, List.set_cons_zero, List.set_cons_succ]
  apply lexS (fun w' => Below w.heap.size w w' ∧ w'.cell? ⟨w.heap.size + 1, 0, none⟩ = some (.int .u32 ((base (n - 1) a : Nat) : Int)) ∧ w'.cell? ⟨w.heap.size + 1, 1, none⟩ = some (.int .i64 ((n : Int) - 1))) rfl
  · intro w' hw'
    have hcc := cellsBelow hw'
    have hff := frozenBelow hw'
    have g0 : w'.cell? ⟨w.heap.size + 1, 0, none⟩ = some (.int .u32 0) := by go_simp
    have g1 : w'.cell? ⟨w.heap.size + 1, 1, none⟩ = some (.int .i64 0) := by go_simp
    go_simp
    have hs := cell_set2 (x := .int .u32 ((base (n - 1) a : Nat) : Int)) (y := .int .i64 ((n : Int) - 1)) g0 g1
    exact ⟨rfl, ((fin _ hw').setCell (p := ⟨w.heap.size + 1, 0, none⟩) (by simp) _).setCell (p := ⟨w.heap.size + 1, 1, none⟩) (by simp) _, hs.1, hs.2⟩
  simp only [Act.put]
  apply lexF rfl; (· intro _; go_simp; (try go_bits); exact ⟨rfl, rfl⟩); simp only [Act.put, List.setIfInBounds_toArray, List.set_cons_zero, List.set_cons_succ]
  refine lexEnd (fun w3 hw3 => ?_)
  obtain ⟨hb3, hc0, hc1⟩ := hw3
  go_wp2
  refine bodyPost_ret (v := .tuple #[.agg #[.int .u32 ((base (n - 1) a : Nat) : Int), .int .i64 ((n - 1 : Nat) : Int)], .int .i64 0]) ?_ rfl ⟨rfl, hb3⟩
  have e5 : ((n - 1 : Nat) : Int) = (n : Int) - 1 := by omega
  rw [e5]
  clear e5
  simp [results, Tryd.results21, go_sem, hc0, hc1]

end Go.Proofs.YtbbjjjaclbkolaaDoor

namespace Go.Proofs.YtbbjjjaclbkolaaDoor
open Go.RowKit

set_option maxHeartbeats 400000 in
theorem rmask_nat (n : Nat) (w : World) (hn : n ≤ 32) :
    Calls Tryd.prog 36 #[.int .i64 (n : Int)] w fun e w' => e = .returned (.int .u32 ((mk n : Nat) : Int)) ∧ w = w' := by
  go_enter Tryd.func36, Tryd.ntmps36
  go_wp2
  go_loop [3, 4] (fun m i => ∃ k : Nat, k ≤ n ∧ i = .int .i64 k ∧ m = .int .u32 ((mk k : Nat) : Int)) (fun _ i => n - (intOf i).toNat)
  case atStart => exact ⟨0, Nat.zero_le _, rfl, rfl⟩
  case round =>
    obtain ⟨k, hk, rfl, rfl⟩ := hrel
    by_cases hlt : k < n
    · have hp : 2 ^ (31 - k) ≤ 2 ^ 31 := Nat.pow_le_pow_right (by omega) (by omega)
      have hstep := hid (show bits BinOp.or IntKind.u32 ((mk k : Nat) : Int) ((2 : Int) ^ (31 - k) % 4294967296) = ((mk (k + 1) : Nat) : Int) by
        have e : ((2 : Int) ^ (31 - k) % 4294967296) = ((2 ^ (31 - k) : Nat) : Int) := by
          obtain ⟨q, hq⟩ : ∃ q : Nat, 2 ^ (31 - k) = q := ⟨_, rfl⟩
          have h2 : ((2 : Int) ^ (31 - k)) = (q : Int) := by rw [← hq]; simp
          rw [hq] at hp ⊢
          rw [h2]
          omega
        rw [e, u32_or_nat _ _ (mk_w32 k).lt (by omega), mk_step k (by omega)])
      clear hp
      go_wp2
      go_round
      case rel => exact ⟨k + 1, by omega, by go_num, by rw [hstep.out]⟩
      case measure => simp [intOf]; omega
    · obtain rfl : k = n := by omega
      go_wp2
      go_ret
      exact ⟨rfl, rfl⟩
theorem rmask_any (n : Int) (w : World) (h0 : 0 ≤ n) (h1 : n ≤ 32) :
    Calls Tryd.prog 36 #[.int .i64 n] w fun e w' => e = .returned (.int .u32 (maskI n)) ∧ w = w' := by
  obtain ⟨k, rfl⟩ := Int.eq_ofNat_of_zero_le h0
  rw [maskI_nat k (by omega)]
  exact rmask_nat k w (by omega)

set_option maxHeartbeats 400000 in
theorem rvalid_any (a : Nat) (n : Int) (w : World) (ha : W32 a) :
    Calls Tryd.prog 14 #[.agg #[.int .u32 (a : Int), .int .i64 n]] w fun e w' => e = .returned (.bool (vld a n)) ∧ Below w.heap.size w w' := by
  have fin : ∀ w2, Below (w.heap.size + 1) (w.alloc (.cells #[.int .u32 (a : Int), .int .i64 n] 24)) w2 → Below w.heap.size w w2 := fun w2 h =>
    ((Below.refl _ w).alloc (Nat.le_refl _) _).trans (h.mono (by omega))
  go_enter Tryd.func14, Tryd.ntmps14
  go_wp2
  refine wp_region_staged (fun w' => Below (w.heap.size + 1) (w.alloc (.cells #[.int .u32 (a : Int), .int .i64 n] 24)) w') [0, 1, 0, 0, 0, 1, 0, 0, 0, 0, 1, 0, 1, 1, 0, 0, 1, 0, 0, 0] (by kernel_rfl) (by kernel_rfl) (by kernel_rfl) (by exact (Below.refl _ _).drew) ?_
  by_cases h0 : 0 ≤ n
  · by_cases h1 : n ≤ 32
    · have e := bits_and_eq ha h0 h1
      apply lexF rfl; (· intro _; go_simp; (try go_bits); exact ⟨rfl, rfl⟩); simp only [Act.put, List.setIfInBounds_toArray, List.set_cons_zero, List.set_cons_succ]
      apply lexH rfl; (· intro w' hw'; have hcc := cellsBelow hw'; go_simp; (try go_bits); exact ⟨rfl, hw'⟩); simp only [Act.put, List.setIfInBounds_toArray, List.set_cons_zero, List.set_cons_succ]
      apply lexF rfl; (· intro _; go_simp; (try go_bits); exact ⟨rfl, rfl⟩); simp only [Act.put, List.setIfInBounds_toArray, List.set_cons_zero, List.set_cons_succ]
      apply lexF rfl; (· intro _; go_simp; (try go_bits); exact ⟨rfl, rfl⟩); simp only [Act.put, List.setIfInBounds_toArray, List.set_cons_zero, List.set_cons_succ]
      first | (apply lexN (j := 3) (d := 6) (b := true) rfl rfl rfl rfl; simp only [Act.put, List.setIfInBounds_toArray, List.set_cons_zero, List.set_cons_succ]) | (apply lexN' (j := 3) (d := 6) (b := true) rfl rfl rfl; simp only [Act.put, List.setIfInBounds_toArray, List.set_cons_zero, List.set_cons_succ]) | (apply lexFg (j := 3) (d := 6) (b := true) rfl rfl rfl rfl; (· intro _; go_simp; (try go_bits); exact ⟨rfl, rfl⟩); simp only [Act.put, List.setIfInBounds_toArray, List.set_cons_zero, List.set_cons_succ])
      first | (apply lexN (j := 3) (d := 6) (b := true) rfl rfl rfl rfl; simp only [Act.put, List.setIfInBounds_toArray, List.set_cons_zero, List.set_cons_succ]) | (apply lexN' (j := 3) (d := 6) (b := true) rfl rfl rfl; simp only [Act.put, List.setIfInBounds_toArray, List.set_cons_zero, List.set_cons_succ]) | (apply lexHg (j := 3) (d := 6) (b := true) rfl rfl rfl rfl; (· intro w' hw'; have hcc := cellsBelow hw'; go_simp; (try go_bits); exact ⟨rfl, hw'⟩); simp only [Act.put, List.setIfInBounds_toArray, List.set_cons_zero, List.set_cons_succ])
      first | (apply lexN (j := 3) (d := 6) (b := true) rfl rfl rfl rfl; simp only [Act.put, List.setIfInBounds_toArray, List.set_cons_zero, List.set_cons_succ]) | (apply lexN' (j := 3) (d := 6) (b := true) rfl rfl rfl; simp only [Act.put, List.setIfInBounds_toArray, List.set_cons_zero, List.set_cons_succ]) | (apply lexFg (j := 3) (d := 6) (b := true) rfl rfl rfl rfl; (· intro _; go_simp; (try go_bits); exact ⟨rfl, rfl⟩); simp only [Act.put, List.setIfInBounds_toArray, List.set_cons_zero, List.set_cons_succ])
      apply lexF rfl; (· intro _; go_simp; (try go_bits); exact ⟨rfl, rfl⟩); simp only [Act.put, List.setIfInBounds_toArray, List.set_cons_zero, List.set_cons_succ]
      apply lexF rfl; (· intro _; go_simp; (try go_bits); exact ⟨rfl, rfl⟩); simp only [Act.put, List.setIfInBounds_toArray, List.set_cons_zero, List.set_cons_succ]
      first | (apply lexN (j := 8) (d := 11) (b := true) rfl rfl rfl rfl; simp only [Act.put, List.setIfInBounds_toArray, List.set_cons_zero, List.set_cons_succ]) | (apply lexN' (j := 8) (d := 11) (b := true) rfl rfl rfl; simp only [Act.put, List.setIfInBounds_toArray, List.set_cons_zero, List.set_cons_succ]) | (apply lexFg (j := 8) (d := 11) (b := true) rfl rfl rfl rfl; (· intro _; go_simp; (try go_bits); exact ⟨rfl, rfl⟩); simp only [Act.put, List.setIfInBounds_toArray, List.set_cons_zero, List.set_cons_succ])
      first | (apply lexN (j := 8) (d := 11) (b := true) rfl rfl rfl rfl; simp only [Act.put, List.setIfInBounds_toArray, List.set_cons_zero, List.set_cons_succ]) | (apply lexN' (j := 8) (d := 11) (b := true) rfl rfl rfl; simp only [Act.put, List.setIfInBounds_toArray, List.set_cons_zero, List.set_cons_succ]) | (apply lexHg (j := 8) (d := 11) (b := true) rfl rfl rfl rfl; (· intro w' hw'; have hcc := cellsBelow hw'; go_simp; (try go_bits); exact ⟨rfl, hw'⟩); simp only [Act.put, List.setIfInBounds_toArray, List.set_cons_zero, List.set_cons_succ])
      first | (apply lexN (j := 8) (d := 11) (b := true) rfl rfl rfl rfl; simp only [Act.put, List.setIfInBounds_toArray, List.set_cons_zero, List.set_cons_succ]) | (apply lexN' (j := 8) (d := 11) (b := true) rfl rfl rfl; simp only [Act.put, List.setIfInBounds_toArray, List.set_cons_zero, List.set_cons_succ]) | (apply lexFg (j := 8) (d := 11) (b := true) rfl rfl rfl rfl; (· intro _; go_simp; (try go_bits); exact ⟨rfl, rfl⟩); simp only [Act.put, List.setIfInBounds_toArray, List.set_cons_zero, List.set_cons_succ])
      first | (apply lexN (j := 8) (d := 11) (b := true) rfl rfl rfl rfl; simp only [Act.put, List.setIfInBounds_toArray, List.set_cons_zero, List.set_cons_succ]) | (apply lexN' (j := 8) (d := 11) (b := true) rfl rfl rfl; simp only [Act.put, List.setIfInBounds_toArray, List.set_cons_zero, List.set_cons_succ]) | (apply lexHg (j := 8) (d := 11) (b := true) rfl rfl rfl rfl; (· intro w' hw'; have hcc := cellsBelow hw'; go_simp; (try go_bits); exact ⟨rfl, hw'⟩); simp only [Act.put, List.setIfInBounds_toArray, List.set_cons_zero, List.set_cons_succ])
      apply lexHg (j := 8) (d := 11) (b := true) rfl rfl rfl rfl
      · intro w' hw'; go_simp; (try go_bits); refine (rmask_any n _ h0 h1).mono ?_; rintro e w'' ⟨rfl, rfl⟩; exact ⟨_, rfl, rfl, hw'⟩
      simp only [Act.put, List.setIfInBounds_toArray, List.set_cons_zero, List.set_cons_succ]
      first | (apply lexN (j := 8) (d := 11) (b := true) rfl rfl rfl rfl; simp only [Act.put, List.setIfInBounds_toArray, List.set_cons_zero, List.set_cons_succ]) | (apply lexN' (j := 8) (d := 11) (b := true) rfl rfl rfl; simp only [Act.put, List.setIfInBounds_toArray, List.set_cons_zero, List.set_cons_succ]) | (apply lexFg (j := 8) (d := 11) (b := true) rfl rfl rfl rfl; (· intro _; go_simp; (try go_bits); exact ⟨rfl, rfl⟩); simp only [Act.put, List.setIfInBounds_toArray, List.set_cons_zero, List.set_cons_succ])
      first | (apply lexN (j := 8) (d := 11) (b := true) rfl rfl rfl rfl; simp only [Act.put, List.setIfInBounds_toArray, List.set_cons_zero, List.set_cons_succ]) | (apply lexN' (j := 8) (d := 11) (b := true) rfl rfl rfl; simp only [Act.put, List.setIfInBounds_toArray, List.set_cons_zero, List.set_cons_succ]) | (apply lexFg (j := 8) (d := 11) (b := true) rfl rfl rfl rfl; (· intro _; go_simp; (try go_bits); exact ⟨rfl, rfl⟩); simp only [Act.put, List.setIfInBounds_toArray, List.set_cons_zero, List.set_cons_succ])
      first | (apply lexN (j := 8) (d := 11) (b := true) rfl rfl rfl rfl; simp only [Act.put, List.setIfInBounds_toArray, List.set_cons_zero, List.set_cons_succ]) | (apply lexN' (j := 8) (d := 11) (b := true) rfl rfl rfl; simp only [Act.put, List.setIfInBounds_toArray, List.set_cons_zero, List.set_cons_succ]) | (apply lexHg (j := 8) (d := 11) (b := true) rfl rfl rfl rfl; (· intro w' hw'; have hcc := cellsBelow hw'; go_simp; (try go_bits); exact ⟨rfl, hw'⟩); simp only [Act.put, List.setIfInBounds_toArray, List.set_cons_zero, List.set_cons_succ])
      first | (apply lexN (j := 8) (d := 11) (b := true) rfl rfl rfl rfl; simp only [Act.put, List.setIfInBounds_toArray, List.set_cons_zero, List.set_cons_succ]) | (apply lexN' (j := 8) (d := 11) (b := true) rfl rfl rfl; simp only [Act.put, List.setIfInBounds_toArray, List.set_cons_zero, List.set_cons_succ]) | (apply lexFg (j := 8) (d := 11) (b := true) rfl rfl rfl rfl; (· intro _; go_simp; (try go_bits); exact ⟨rfl, rfl⟩); simp only [Act.put, List.setIfInBounds_toArray, List.set_cons_zero, List.set_cons_succ])
      apply lexF rfl; (· intro _; go_simp; (try go_bits); exact ⟨rfl, rfl⟩); simp only [Act.put, List.setIfInBounds_toArray, List.set_cons_zero, List.set_cons_succ]
      apply lexF rfl; (· intro _; go_simp; (try go_bits); exact ⟨rfl, rfl⟩); simp only [Act.put, List.setIfInBounds_toArray, List.set_cons_zero, List.set_cons_succ]
      refine lexEnd (fun w2 hw2 => ?_)
      go_wp2
      go_ret
      exact ⟨rfl, fin _ hw2⟩
    · have e := vld_big (a := a) h1
      have h2 : 32 < n := by omega
      apply lexF rfl; (· intro _; go_simp; (try go_bits); exact ⟨rfl, rfl⟩); simp only [Act.put, List.setIfInBounds_toArray, List.set_cons_zero, List.set_cons_succ]
      apply lexH rfl; (· intro w' hw'; have hcc := cellsBelow hw'; go_simp; (try go_bits); exact ⟨rfl, hw'⟩); simp only [Act.put, List.setIfInBounds_toArray, List.set_cons_zero, List.set_cons_succ]
      apply lexF rfl; (· intro _; go_simp; (try go_bits); exact ⟨rfl, rfl⟩); simp only [Act.put, List.setIfInBounds_toArray, List.set_cons_zero, List.set_cons_succ]
      apply lexF rfl; (· intro _; go_simp; (try go_bits); exact ⟨rfl, rfl⟩); simp only [Act.put, List.setIfInBounds_toArray, List.set_cons_zero, List.set_cons_succ]
      first | (apply lexN (j := 3) (d := 6) (b := true) rfl rfl rfl rfl; simp only [Act.put, List.setIfInBounds_toArray, List.set_cons_zero, List.set_cons_succ]) | (apply lexN' (j := 3) (d := 6) (b := true) rfl rfl rfl; simp only [Act.put, List.setIfInBounds_toArray, List.set_cons_zero, List.set_cons_succ]) | (apply lexFg (j := 3) (d := 6) (b := true) rfl rfl rfl rfl; (· intro _; go_simp; (try go_bits); exact ⟨rfl, rfl⟩); simp only [Act.put, List.setIfInBounds_toArray, List.set_cons_zero, List.set_cons_succ])
      first | (apply lexN (j := 3) (d := 6) (b := true) rfl rfl rfl rfl; simp only [Act.put, List.setIfInBounds_toArray, List.set_cons_zero, List.set_cons_succ]) | (apply lexN' (j := 3) (d := 6) (b := true) rfl rfl rfl; simp only [Act.put, List.setIfInBounds_toArray, List.set_cons_zero, List.set_cons_succ]) | (apply lexHg (j := 3) (d := 6) (b := true) rfl rfl rfl rfl; (· intro w' hw'; have hcc := cellsBelow hw'; go_simp; (try go_bits); exact ⟨rfl, hw'⟩); simp only [Act.put, List.setIfInBounds_toArray, List.set_cons_zero, List.set_cons_succ])
      first | (apply lexN (j := 3) (d := 6) (b := true) rfl rfl rfl rfl; simp only [Act.put, List.setIfInBounds_toArray, List.set_cons_zero, List.set_cons_succ]) | (apply lexN' (j := 3) (d := 6) (b := true) rfl rfl rfl; simp only [Act.put, List.setIfInBounds_toArray, List.set_cons_zero, List.set_cons_succ]) | (apply lexFg (j := 3) (d := 6) (b := true) rfl rfl rfl rfl; (· intro _; go_simp; (try go_bits); exact ⟨rfl, rfl⟩); simp only [Act.put, List.setIfInBounds_toArray, List.set_cons_zero, List.set_cons_succ])
      apply lexF rfl; (· intro _; go_simp; (try go_bits); exact ⟨rfl, rfl⟩); simp only [Act.put, List.setIfInBounds_toArray, List.set_cons_zero, List.set_cons_succ]
      apply lexF rfl; (· intro _; go_simp; (try go_bits); exact ⟨rfl, rfl⟩); simp only [Act.put, List.setIfInBounds_toArray, List.set_cons_zero, List.set_cons_succ]
      first | (apply lexN (j := 8) (d := 11) (b := true) rfl rfl rfl rfl; simp only [Act.put, List.setIfInBounds_toArray, List.set_cons_zero, List.set_cons_succ]) | (apply lexN' (j := 8) (d := 11) (b := true) rfl rfl rfl; simp only [Act.put, List.setIfInBounds_toArray, List.set_cons_zero, List.set_cons_succ]) | (apply lexFg (j := 8) (d := 11) (b := true) rfl rfl rfl rfl; (· intro _; go_simp; (try go_bits); exact ⟨rfl, rfl⟩); simp only [Act.put, List.setIfInBounds_toArray, List.set_cons_zero, List.set_cons_succ])
      first | (apply lexN (j := 8) (d := 11) (b := true) rfl rfl rfl rfl; simp only [Act.put, List.setIfInBounds_toArray, List.set_cons_zero, List.set_cons_succ]) | (apply lexN' (j := 8) (d := 11) (b := true) rfl rfl rfl; simp only [Act.put, List.setIfInBounds_toArray, List.set_cons_zero, List.set_cons_succ]) | (apply lexHg (j := 8) (d := 11) (b := true) rfl rfl rfl rfl; (· intro w' hw'; have hcc := cellsBelow hw'; go_simp; (try go_bits); exact ⟨rfl, hw'⟩); simp only [Act.put, List.setIfInBounds_toArray, List.set_cons_zero, List.set_cons_succ])
      first | (apply lexN (j := 8) (d := 11) (b := true) rfl rfl rfl rfl; simp only [Act.put, List.setIfInBounds_toArray, List.set_cons_zero, List.set_cons_succ]) | (apply lexN' (j := 8) (d := 11) (b := true) rfl rfl rfl; simp only [Act.put, List.setIfInBounds_toArray, List.set_cons_zero, List.set_cons_succ]) | (apply lexFg (j := 8) (d := 11) (b := true) rfl rfl rfl rfl; (· intro _; go_simp; (try go_bits); exact ⟨rfl, rfl⟩); simp only [Act.put, List.setIfInBounds_toArray, List.set_cons_zero, List.set_cons_succ])
      first | (apply lexN (j := 8) (d := 11) (b := true) rfl rfl rfl rfl; simp only [Act.put, List.setIfInBounds_toArray, List.set_cons_zero, List.set_cons_succ]) | (apply lexN' (j := 8) (d := 11) (b := true) rfl rfl rfl; simp only [Act.put, List.setIfInBounds_toArray, List.set_cons_zero, List.set_cons_succ]) | (apply lexHg (j := 8) (d := 11) (b := true) rfl rfl rfl rfl; (· intro w' hw'; have hcc := cellsBelow hw'; go_simp; (try go_bits); exact ⟨rfl, hw'⟩); simp only [Act.put, List.setIfInBounds_toArray, List.set_cons_zero, List.set_cons_succ])
      first | (apply lexN (j := 8) (d := 11) (b := true) rfl rfl rfl rfl; simp only [Act.put, List.setIfInBounds_toArray, List.set_cons_zero, List.set_cons_succ]) | (apply lexN' (j := 8) (d := 11) (b := true) rfl rfl rfl; simp only [Act.put, List.setIfInBounds_toArray, List.set_cons_zero, List.set_cons_succ]) | (apply lexHg (j := 8) (d := 11) (b := true) rfl rfl rfl rfl; (· intro w' hw'; have hcc := cellsBelow hw'; go_simp; (try go_bits); exact ⟨rfl, hw'⟩); simp only [Act.put, List.setIfInBounds_toArray, List.set_cons_zero, List.set_cons_succ])
      first | (apply lexN (j := 8) (d := 11) (b := true) rfl rfl rfl rfl; simp only [Act.put, List.setIfInBounds_toArray, List.set_cons_zero, List.set_cons_succ]) | (apply lexN' (j := 8) (d := 11) (b := true) rfl rfl rfl; simp only [Act.put, List.setIfInBounds_toArray, List.set_cons_zero, List.set_cons_succ]) | (apply lexFg (j := 8) (d := 11) (b := true) rfl rfl rfl rfl; (· intro _; go_simp; (try go_bits); exact ⟨rfl, rfl⟩); simp only [Act.put, List.setIfInBounds_toArray, List.set_cons_zero, List.set_cons_succ])
      first | (apply lexN (j := 8) (d := 11) (b := true) rfl rfl rfl rfl; simp only [Act.put, List.setIfInBounds_toArray, List.set_cons_zero, List.set_cons_succ]) | (apply lexN' (j := 8) (d := 11) (b := true) rfl rfl rfl; simp only [Act.put, List.setIfInBounds_toArray, List.set_cons_zero, List.set_cons_succ]) | (apply lexFg (j := 8) (d := 11) (b := true) rfl rfl rfl rfl; (· intro _; go_simp; (try go_bits); exact ⟨rfl, rfl⟩); simp only [Act.put, List.setIfInBounds_toArray, List.set_cons_zero, List.set_cons_succ])
      first | (apply lexN (j := 8) (d := 11) (b := true) rfl rfl rfl rfl; simp only [Act.put, List.setIfInBounds_toArray, List.set_cons_zero, List.set_cons_succ]) | (apply lexN' (j := 8) (d := 11) (b := true) rfl rfl rfl; simp only [Act.put, List.setIfInBounds_toArray, List.set_cons_zero, List.set_cons_succ]) | (apply lexHg (j := 8) (d := 11) (b := true) rfl rfl rfl rfl; (· intro w' hw'; have hcc := cellsBelow hw'; go_simp; (try go_bits); exact ⟨rfl, hw'⟩); simp only [Act.put, List.setIfInBounds_toArray, List.set_cons_zero, List.set_cons_succ])
      first | (apply lexN (j := 8) (d := 11) (b := true) rfl rfl rfl rfl; simp only [Act.put, List.setIfInBounds_toArray, List.set_cons_zero, List.set_cons_succ]) | (apply lexN' (j := 8) (d := 11) (b := true) rfl rfl rfl; simp only [Act.put, List.setIfInBounds_toArray, List.set_cons_zero, List.set_cons_succ]) | (apply lexFg (j := 8) (d := 11) (b := true) rfl rfl rfl rfl; (· intro _; go_simp; (try go_bits); exact ⟨rfl, rfl⟩); simp only [Act.put, List.setIfInBounds_toArray, List.set_cons_zero, List.set_cons_succ])
      apply lexF rfl; (· intro _; go_simp; (try go_bits); exact ⟨rfl, rfl⟩); simp only [Act.put, List.setIfInBounds_toArray, List.set_cons_zero, List.set_cons_succ]
      apply lexF rfl; (· intro _; go_simp; (try go_bits); exact ⟨rfl, rfl⟩); simp only [Act.put, List.setIfInBounds_toArray, List.set_cons_zero, List.set_cons_succ]
      refine lexEnd (fun w2 hw2 => ?_)
      go_wp2
      go_ret
      exact ⟨rfl, fin _ hw2⟩
  · have e := vld_neg (a := a) h0
    have h2 : n < 0 := by omega
    apply lexF rfl; (· intro _; go_simp; (try go_bits); exact ⟨rfl, rfl⟩); simp only [Act.put, List.setIfInBounds_toArray, List.set_cons_zero, List.set_cons_succ]
    apply lexH rfl; (· intro w' hw'; have hcc := cellsBelow hw'; go_simp; (try go_bits); exact ⟨rfl, hw'⟩); simp only [Act.put, List.setIfInBounds_toArray, List.set_cons_zero, List.set_cons_succ]
    apply lexF rfl; (· intro _; go_simp; (try go_bits); exact ⟨rfl, rfl⟩); simp only [Act.put, List.setIfInBounds_toArray, List.set_cons_zero, List.set_cons_succ]
    apply lexF rfl; (· intro _; go_simp; (try go_bits); exact ⟨rfl, rfl⟩); simp only [Act.put, List.setIfInBounds_toArray, List.set_cons_zero, List.set_cons_succ]
    first | (apply lexN (j := 3) (d := 6) (b := true) rfl rfl rfl rfl; simp only [Act.put, List.setIfInBounds_toArray, List.set_cons_zero, List.set_cons_succ]) | (apply lexN' (j := 3) (d := 6) (b := true) rfl rfl rfl; simp only [Act.put, List.setIfInBounds_toArray, List.set_cons_zero, List.set_cons_succ]) | (apply lexFg (j := 3) (d := 6) (b := true) rfl rfl rfl rfl; (· intro _; go_simp; (try go_bits); exact ⟨rfl, rfl⟩); simp only [Act.put, List.setIfInBounds_toArray, List.set_cons_zero, List.set_cons_succ])
    first | (apply lexN (j := 3) (d := 6) (b := true) rfl rfl rfl rfl; simp only [Act.put, List.setIfInBounds_toArray, List.set_cons_zero, List.set_cons_succ]) | (apply lexN' (j := 3) (d := 6) (b := true) rfl rfl rfl; simp only [Act.put, List.setIfInBounds_toArray, List.set_cons_zero, List.set_cons_succ]) | (apply lexHg (j := 3) (d := 6) (b := true) rfl rfl rfl rfl; (· intro w' hw'; have hcc := cellsBelow hw'; go_simp; (try go_bits); exact ⟨rfl, hw'⟩); simp only [Act.put, List.setIfInBounds_toArray, List.set_cons_zero, List.set_cons_succ])
    first | (apply lexN (j := 3) (d := 6) (b := true) rfl rfl rfl rfl; simp only [Act.put, List.setIfInBounds_toArray, List.set_cons_zero, List.set_cons_succ]) | (apply lexN' (j := 3) (d := 6) (b := true) rfl rfl rfl; simp only [Act.put, List.setIfInBounds_toArray, List.set_cons_zero, List.set_cons_succ]) | (apply lexFg (j := 3) (d := 6) (b := true) rfl rfl rfl rfl; (· intro _; go_simp; (try go_bits); exact ⟨rfl, rfl⟩); simp only [Act.put, List.setIfInBounds_toArray, List.set_cons_zero, List.set_cons_succ])
    apply lexF rfl; (· intro _; go_simp; (try go_bits); exact ⟨rfl, rfl⟩); simp only [Act.put, List.setIfInBounds_toArray, List.set_cons_zero, List.set_cons_succ]
    apply lexF rfl; (· intro _; go_simp; (try go_bits); exact ⟨rfl, rfl⟩); simp only [Act.put, List.setIfInBounds_toArray, List.set_cons_zero, List.set_cons_succ]
    first | (apply lexN (j := 8) (d := 11) (b := true) rfl rfl rfl rfl; simp only [Act.put, List.setIfInBounds_toArray, List.set_cons_zero, List.set_cons_succ]) | (apply lexN' (j := 8) (d := 11) (b := true) rfl rfl rfl; simp only [Act.put, List.setIfInBounds_toArray, List.set_cons_zero, List.set_cons_succ]) | (apply lexFg (j := 8) (d := 11) (b := true) rfl rfl rfl rfl; (· intro _; go_simp; (try go_bits); exact ⟨rfl, rfl⟩); simp only [Act.put, List.setIfInBounds_toArray, List.set_cons_zero, List.set_cons_succ])
    first | (apply lexN (j := 8) (d := 11) (b := true) rfl rfl rfl rfl; simp only [Act.put, List.setIfInBounds_toArray, List.set_cons_zero, List.set_cons_succ]) | (apply lexN' (j := 8) (d := 11) (b := true) rfl rfl rfl; simp only [Act.put, List.setIfInBounds_toArray, List.set_cons_zero, List.set_cons_succ]) | (apply lexHg (j := 8) (d := 11) (b := true) rfl rfl rfl rfl; (· intro w' hw'; have hcc := cellsBelow hw'; go_simp; (try go_bits); exact ⟨rfl, hw'⟩); simp only [Act.put, List.setIfInBounds_toArray, List.set_cons_zero, List.set_cons_succ])
    first | (apply lexN (j := 8) (d := 11) (b := true) rfl rfl rfl rfl; simp only [Act.put, List.setIfInBounds_toArray, List.set_cons_zero, List.set_cons_succ]) | (apply lexN' (j := 8) (d := 11) (b := true) rfl rfl rfl; simp only [Act.put, List.setIfInBounds_toArray, List.set_cons_zero, List.set_cons_succ]) | (apply lexFg (j := 8) (d := 11) (b := true) rfl rfl rfl rfl; (· intro _; go_simp; (try go_bits); exact ⟨rfl, rfl⟩); simp only [Act.put, List.setIfInBounds_toArray, List.set_cons_zero, List.set_cons_succ])
    first | (apply lexN (j := 8) (d := 11) (b := true) rfl rfl rfl rfl; simp only [Act.put, List.setIfInBounds_toArray, List.set_cons_zero, List.set_cons_succ]) | (apply lexN' (j := 8) (d := 11) (b := true) rfl rfl rfl; simp only [Act.put, List.setIfInBounds_toArray, List.set_cons_zero, List.set_cons_succ]) | (apply lexHg (j := 8) (d := 11) (b := true) rfl rfl rfl rfl; (· intro w' hw'; have hcc := cellsBelow hw'; go_simp; (try go_bits); exact ⟨rfl, hw'⟩); simp only [Act.put, List.setIfInBounds_toArray, List.set_cons_zero, List.set_cons_succ])
    first | (apply lexN (j := 8) (d := 11) (b := true) rfl rfl rfl rfl; simp only [Act.put, List.setIfInBounds_toArray, List.set_cons_zero, List.set_cons_succ]) | (apply lexN' (j := 8) (d := 11) (b := true) rfl rfl rfl; simp only [Act.put, List.setIfInBounds_toArray, List.set_cons_zero, List.set_cons_succ]) | (apply lexHg (j := 8) (d := 11) (b := true) rfl rfl rfl rfl; (· intro w' hw'; have hcc := cellsBelow hw'; go_simp; (try go_bits); exact ⟨rfl, hw'⟩); simp only [Act.put, List.setIfInBounds_toArray, List.set_cons_zero, List.set_cons_succ])
    first | (apply lexN (j := 8) (d := 11) (b := true) rfl rfl rfl rfl; simp only [Act.put, List.setIfInBounds_toArray, List.set_cons_zero, List.set_cons_succ]) | (apply lexN' (j := 8) (d := 11) (b := true) rfl rfl rfl; simp only [Act.put, List.setIfInBounds_toArray, List.set_cons_zero, List.set_cons_succ]) | (apply lexFg (j := 8) (d := 11) (b := true) rfl rfl rfl rfl; (· intro _; go_simp; (try go_bits); exact ⟨rfl, rfl⟩); simp only [Act.put, List.setIfInBounds_toArray, List.set_cons_zero, List.set_cons_succ])
    first | (apply lexN (j := 8) (d := 11) (b := true) rfl rfl rfl rfl; simp only [Act.put, List.setIfInBounds_toArray, List.set_cons_zero, List.set_cons_succ]) | (apply lexN' (j := 8) (d := 11) (b := true) rfl rfl rfl; simp only [Act.put, List.setIfInBounds_toArray, List.set_cons_zero, List.set_cons_succ]) | (apply lexFg (j := 8) (d := 11) (b := true) rfl rfl rfl rfl; (· intro _; go_simp; (try go_bits); exact ⟨rfl, rfl⟩); simp only [Act.put, List.setIfInBounds_toArray, List.set_cons_zero, List.set_cons_succ])
    first | (apply lexN (j := 8) (d := 11) (b := true) rfl rfl rfl rfl; simp only [Act.put, List.setIfInBounds_toArray, List.set_cons_zero, List.set_cons_succ]) | (apply lexN' (j := 8) (d := 11) (b := true) rfl rfl rfl; simp only [Act.put, List.setIfInBounds_toArray, List.set_cons_zero, List.set_cons_succ]) | (apply lexHg (j := 8) (d := 11) (b := true) rfl rfl rfl rfl; (· intro w' hw'; have hcc := cellsBelow hw'; go_simp; (try go_bits); exact ⟨rfl, hw'⟩); simp only [Act.put, List.setIfInBounds_toArray, List.set_cons_zero, List.set_cons_succ])
    first | (apply lexN (j := 8) (d := 11) (b := true) rfl rfl rfl rfl; simp only [Act.put, List.setIfInBounds_toArray, List.set_cons_zero, List.set_cons_succ]) | (apply lexN' (j := 8) (d := 11) (b := true) rfl rfl rfl; simp only [Act.put, List.setIfInBounds_toArray, List.set_cons_zero, List.set_cons_succ]) | (apply lexFg (j := 8) (d := 11) (b := true) rfl rfl rfl rfl; (· intro _; go_simp; (try go_bits); exact ⟨rfl, rfl⟩); simp only [Act.put, List.setIfInBounds_toArray, List.set_cons_zero, List.set_cons_succ])
    apply lexF rfl; (· intro _; go_simp; (try go_bits); exact ⟨rfl, rfl⟩); simp only [Act.put, List.setIfInBounds_toArray, List.set_cons_zero, List.set_cons_succ]
    apply lexF rfl; (· intro _; go_simp; (try go_bits); exact ⟨rfl, rfl⟩); simp only [Act.put, List.setIfInBounds_toArray, List.set_cons_zero, List.set_cons_succ]
    refine lexEnd (fun w2 hw2 => ?_)
    go_wp2
    go_ret
    exact ⟨rfl, fin _ hw2⟩

set_option maxHeartbeats 400000 in
theorem rcontains_any (a : Nat) (n : Int) (x : Nat) (w : World) (ha : W32 a) (hx : W32 x) :
    Calls Tryd.prog 23 #[.agg #[.int .u32 (a : Int), .int .i64 n], .int .u32 (x : Int)] w fun e w' => e = .returned (.bool (cts a n x)) ∧ Below w.heap.size w w' := by
  have fin : ∀ w2, Below (w.heap.size + 1) (w.alloc (.cells #[.int .u32 (a : Int), .int .i64 n] 24)) w2 → Below w.heap.size w w2 := fun w2 h =>
    ((Below.refl _ w).alloc (Nat.le_refl _) _).trans (h.mono (by omega))
  go_enter Tryd.func23, Tryd.ntmps23
  go_wp2
  refine wp_region_staged (fun w' => Below (w.heap.size + 1) (w.alloc (.cells #[.int .u32 (a : Int), .int .i64 n] 24)) w') [1, 1, 0, 0, 0, 1, 1, 0, 0, 1, 0, 0, 0] (by kernel_rfl) (by kernel_rfl) (by kernel_rfl) (by exact (Below.refl _ _).drew) ?_
  cases hv : vld a n
  · have E := hid (show cts a n x = false by simp [cts, hv])
    have HV := hid hv
    clear hv
    apply lexH rfl; (· intro w' hw'; have hcc := cellsBelow hw'; go_simp; (try go_bits); exact ⟨rfl, hw'⟩); simp only [Act.put, List.setIfInBounds_toArray, List.set_cons_zero, List.set_cons_succ]
    apply lexH rfl
    · intro w' hw'; go_simp; (try go_bits); refine (rvalid_any a n _ ha).mono ?_; rintro e w'' ⟨rfl, hb⟩; exact ⟨_, rfl, congrArg Value.bool HV.out, hw'.trans (hb.mono (by have := hw'.size; simp at this; omega))⟩
    simp only [Act.put, List.setIfInBounds_toArray, List.set_cons_zero, List.set_cons_succ]
    apply lexF rfl; (· intro _; go_simp; (try go_bits); exact ⟨rfl, rfl⟩); simp only [Act.put, List.setIfInBounds_toArray, List.set_cons_zero, List.set_cons_succ]
    first | (apply lexN (j := 2) (d := 7) (b := true) rfl rfl rfl rfl; simp only [Act.put, List.setIfInBounds_toArray, List.set_cons_zero, List.set_cons_succ]) | (apply lexN' (j := 2) (d := 7) (b := true) rfl rfl rfl; simp only [Act.put, List.setIfInBounds_toArray, List.set_cons_zero, List.set_cons_succ]) | (apply lexFg (j := 2) (d := 7) (b := true) rfl rfl rfl rfl; (· intro _; go_simp; (try go_bits); exact ⟨rfl, rfl⟩); simp only [Act.put, List.setIfInBounds_toArray, List.set_cons_zero, List.set_cons_succ])
    first | (apply lexN (j := 2) (d := 7) (b := true) rfl rfl rfl rfl; simp only [Act.put, List.setIfInBounds_toArray, List.set_cons_zero, List.set_cons_succ]) | (apply lexN' (j := 2) (d := 7) (b := true) rfl rfl rfl; simp only [Act.put, List.setIfInBounds_toArray, List.set_cons_zero, List.set_cons_succ]) | (apply lexFg (j := 2) (d := 7) (b := true) rfl rfl rfl rfl; (· intro _; go_simp; (try go_bits); exact ⟨rfl, rfl⟩); simp only [Act.put, List.setIfInBounds_toArray, List.set_cons_zero, List.set_cons_succ])
    first | (apply lexN (j := 2) (d := 7) (b := true) rfl rfl rfl rfl; simp only [Act.put, List.setIfInBounds_toArray, List.set_cons_zero, List.set_cons_succ]) | (apply lexN' (j := 2) (d := 7) (b := true) rfl rfl rfl; simp only [Act.put, List.setIfInBounds_toArray, List.set_cons_zero, List.set_cons_succ]) | (apply lexHg (j := 2) (d := 7) (b := true) rfl rfl rfl rfl; (· intro w' hw'; have hcc := cellsBelow hw'; go_simp; (try go_bits); exact ⟨rfl, hw'⟩); simp only [Act.put, List.setIfInBounds_toArray, List.set_cons_zero, List.set_cons_succ])
    first | (apply lexN (j := 2) (d := 7) (b := true) rfl rfl rfl rfl; simp only [Act.put, List.setIfInBounds_toArray, List.set_cons_zero, List.set_cons_succ]) | (apply lexN' (j := 2) (d := 7) (b := true) rfl rfl rfl; simp only [Act.put, List.setIfInBounds_toArray, List.set_cons_zero, List.set_cons_succ]) | (apply lexHg (j := 2) (d := 7) (b := true) rfl rfl rfl rfl; (· intro w' hw'; have hcc := cellsBelow hw'; go_simp; (try go_bits); exact ⟨rfl, hw'⟩); simp only [Act.put, List.setIfInBounds_toArray, List.set_cons_zero, List.set_cons_succ])
    first | (apply lexN (j := 2) (d := 7) (b := true) rfl rfl rfl rfl; simp only [Act.put, List.setIfInBounds_toArray, List.set_cons_zero, List.set_cons_succ]) | (apply lexN' (j := 2) (d := 7) (b := true) rfl rfl rfl; simp only [Act.put, List.setIfInBounds_toArray, List.set_cons_zero, List.set_cons_succ]) | (apply lexFg (j := 2) (d := 7) (b := true) rfl rfl rfl rfl; (· intro _; go_simp; (try go_bits); exact ⟨rfl, rfl⟩); simp only [Act.put, List.setIfInBounds_toArray, List.set_cons_zero, List.set_cons_succ])
    first | (apply lexN (j := 2) (d := 7) (b := true) rfl rfl rfl rfl; simp only [Act.put, List.setIfInBounds_toArray, List.set_cons_zero, List.set_cons_succ]) | (apply lexN' (j := 2) (d := 7) (b := true) rfl rfl rfl; simp only [Act.put, List.setIfInBounds_toArray, List.set_cons_zero, List.set_cons_succ]) | (apply lexFg (j := 2) (d := 7) (b := true) rfl rfl rfl rfl; (· intro _; go_simp; (try go_bits); exact ⟨rfl, rfl⟩); simp only [Act.put, List.setIfInBounds_toArray, List.set_cons_zero, List.set_cons_succ])
    first | (apply lexN (j := 2) (d := 7) (b := true) rfl rfl rfl rfl; simp only [Act.put, List.setIfInBounds_toArray, List.set_cons_zero, List.set_cons_succ]) | (apply lexN' (j := 2) (d := 7) (b := true) rfl rfl rfl; simp only [Act.put, List.setIfInBounds_toArray, List.set_cons_zero, List.set_cons_succ]) | (apply lexHg (j := 2) (d := 7) (b := true) rfl rfl rfl rfl; (· intro w' hw'; have hcc := cellsBelow hw'; go_simp; (try go_bits); exact ⟨rfl, hw'⟩); simp only [Act.put, List.setIfInBounds_toArray, List.set_cons_zero, List.set_cons_succ])
    first | (apply lexN (j := 2) (d := 7) (b := true) rfl rfl rfl rfl; simp only [Act.put, List.setIfInBounds_toArray, List.set_cons_zero, List.set_cons_succ]) | (apply lexN' (j := 2) (d := 7) (b := true) rfl rfl rfl; simp only [Act.put, List.setIfInBounds_toArray, List.set_cons_zero, List.set_cons_succ]) | (apply lexFg (j := 2) (d := 7) (b := true) rfl rfl rfl rfl; (· intro _; go_simp; (try go_bits); exact ⟨rfl, rfl⟩); simp only [Act.put, List.setIfInBounds_toArray, List.set_cons_zero, List.set_cons_succ])
    apply lexF rfl; (· intro _; go_simp; (try go_bits); exact ⟨rfl, rfl⟩); simp only [Act.put, List.setIfInBounds_toArray, List.set_cons_zero, List.set_cons_succ]
    apply lexF rfl; (· intro _; go_simp; (try go_bits); exact ⟨rfl, rfl⟩); simp only [Act.put, List.setIfInBounds_toArray, List.set_cons_zero, List.set_cons_succ]
    refine lexEnd (fun w2 hw2 => ?_)
    go_wp2
    go_ret
    exact ⟨by rw [E.out]; rfl, fin _ hw2⟩
  · obtain ⟨h0, h1, h2⟩ := vld_iff.1 hv
    have E := hid (show cts a n x = decide (base n.toNat x = a) by simp [cts, hv])
    have HV := hid hv
    have e2 := bits_and_mask hx h0 h1
    clear hv h2
    apply lexH rfl; (· intro w' hw'; have hcc := cellsBelow hw'; go_simp; (try go_bits); exact ⟨rfl, hw'⟩); simp only [Act.put, List.setIfInBounds_toArray, List.set_cons_zero, List.set_cons_succ]
    apply lexH rfl
    · intro w' hw'; go_simp; (try go_bits); refine (rvalid_any a n _ ha).mono ?_; rintro e w'' ⟨rfl, hb⟩; exact ⟨_, rfl, congrArg Value.bool HV.out, hw'.trans (hb.mono (by have := hw'.size; simp at this; omega))⟩
    simp only [Act.put, List.setIfInBounds_toArray, List.set_cons_zero, List.set_cons_succ]
    apply lexF rfl; (· intro _; go_simp; (try go_bits); exact ⟨rfl, rfl⟩); simp only [Act.put, List.setIfInBounds_toArray, List.set_cons_zero, List.set_cons_succ]
    first | (apply lexN (j := 2) (d := 7) (b := true) rfl rfl rfl rfl; simp only [Act.put, List.setIfInBounds_toArray, List.set_cons_zero, List.set_cons_succ]) | (apply lexN' (j := 2) (d := 7) (b := true) rfl rfl rfl; simp only [Act.put, List.setIfInBounds_toArray, List.set_cons_zero, List.set_cons_succ]) | (apply lexFg (j := 2) (d := 7) (b := true) rfl rfl rfl rfl; (· intro _; go_simp; (try go_bits); exact ⟨rfl, rfl⟩); simp only [Act.put, List.setIfInBounds_toArray, List.set_cons_zero, List.set_cons_succ])
    first | (apply lexN (j := 2) (d := 7) (b := true) rfl rfl rfl rfl; simp only [Act.put, List.setIfInBounds_toArray, List.set_cons_zero, List.set_cons_succ]) | (apply lexN' (j := 2) (d := 7) (b := true) rfl rfl rfl; simp only [Act.put, List.setIfInBounds_toArray, List.set_cons_zero, List.set_cons_succ]) | (apply lexFg (j := 2) (d := 7) (b := true) rfl rfl rfl rfl; (· intro _; go_simp; (try go_bits); exact ⟨rfl, rfl⟩); simp only [Act.put, List.setIfInBounds_toArray, List.set_cons_zero, List.set_cons_succ])
    first | (apply lexN (j := 2) (d := 7) (b := true) rfl rfl rfl rfl; simp only [Act.put, List.setIfInBounds_toArray, List.set_cons_zero, List.set_cons_succ]) | (apply lexN' (j := 2) (d := 7) (b := true) rfl rfl rfl; simp only [Act.put, List.setIfInBounds_toArray, List.set_cons_zero, List.set_cons_succ]) | (apply lexHg (j := 2) (d := 7) (b := true) rfl rfl rfl rfl; (· intro w' hw'; have hcc := cellsBelow hw'; go_simp; (try go_bits); exact ⟨rfl, hw'⟩); simp only [Act.put, List.setIfInBounds_toArray, List.set_cons_zero, List.set_cons_succ])
    apply lexHg (j := 2) (d := 7) (b := true) rfl rfl rfl rfl
    · intro w' hw'; go_simp; (try go_bits); refine (rmask_any n _ h0 h1).mono ?_; rintro e w'' ⟨rfl, rfl⟩; exact ⟨_, rfl, rfl, hw'⟩
    simp only [Act.put, List.setIfInBounds_toArray, List.set_cons_zero, List.set_cons_succ]
    first | (apply lexN (j := 2) (d := 7) (b := true) rfl rfl rfl rfl; simp only [Act.put, List.setIfInBounds_toArray, List.set_cons_zero, List.set_cons_succ]) | (apply lexN' (j := 2) (d := 7) (b := true) rfl rfl rfl; simp only [Act.put, List.setIfInBounds_toArray, List.set_cons_zero, List.set_cons_succ]) | (apply lexFg (j := 2) (d := 7) (b := true) rfl rfl rfl rfl; (· intro _; go_simp; (try go_bits); exact ⟨rfl, rfl⟩); simp only [Act.put, List.setIfInBounds_toArray, List.set_cons_zero, List.set_cons_succ])
    first | (apply lexN (j := 2) (d := 7) (b := true) rfl rfl rfl rfl; simp only [Act.put, List.setIfInBounds_toArray, List.set_cons_zero, List.set_cons_succ]) | (apply lexN' (j := 2) (d := 7) (b := true) rfl rfl rfl; simp only [Act.put, List.setIfInBounds_toArray, List.set_cons_zero, List.set_cons_succ]) | (apply lexFg (j := 2) (d := 7) (b := true) rfl rfl rfl rfl; (· intro _; go_simp; (try go_bits); exact ⟨rfl, rfl⟩); simp only [Act.put, List.setIfInBounds_toArray, List.set_cons_zero, List.set_cons_succ])
    first | (apply lexN (j := 2) (d := 7) (b := true) rfl rfl rfl rfl; simp only [Act.put, List.setIfInBounds_toArray, List.set_cons_zero, List.set_cons_succ]) | (apply lexN' (j := 2) (d := 7) (b := true) rfl rfl rfl; simp only [Act.put, List.setIfInBounds_toArray, List.set_cons_zero, List.set_cons_succ]) | (apply lexHg (j := 2) (d := 7) (b := true) rfl rfl rfl rfl; (· intro w' hw'; have hcc := cellsBelow hw'; go_simp; (try go_bits); exact ⟨rfl, hw'⟩); simp only [Act.put, List.setIfInBounds_toArray, List.set_cons_zero, List.set_cons_succ])
    first | (apply lexN (j := 2) (d := 7) (b := true) rfl rfl rfl rfl; simp only [Act.put, List.setIfInBounds_toArray, List.set_cons_zero, List.set_cons_succ]) | (apply lexN' (j := 2) (d := 7) (b := true) rfl rfl rfl; simp only [Act.put, List.setIfInBounds_toArray, List.set_cons_zero, List.set_cons_succ]) | (apply lexFg (j := 2) (d := 7) (b := true) rfl rfl rfl rfl; (· intro _; go_simp; (try go_bits); exact ⟨rfl, rfl⟩); simp only [Act.put, List.setIfInBounds_toArray, List.set_cons_zero, List.set_cons_succ])
    apply lexF rfl; (· intro _; go_simp; (try go_bits); exact ⟨rfl, rfl⟩); simp only [Act.put, List.setIfInBounds_toArray, List.set_cons_zero, List.set_cons_succ]
    apply lexF rfl; (· intro _; go_simp; (try go_bits); exact ⟨rfl, rfl⟩); simp only [Act.put, List.setIfInBounds_toArray, List.set_cons_zero, List.set_cons_succ]
    refine lexEnd (fun w2 hw2 => ?_)
    go_wp2
    go_ret
    exact ⟨by rw [E.out]; exact ret_bool (by rw [Bool.eq_iff_iff]; simp only [beq_iff_eq, decide_eq_true_eq]; omega), fin _ hw2⟩

set_option maxHeartbeats 400000 in
theorem rcovers_any (a : Nat) (n : Int) (b : Nat) (m : Int) (w : World) (ha : W32 a) (hb : W32 b) :
    Calls Tryd.prog 24 #[.agg #[.int .u32 (a : Int), .int .i64 n], .agg #[.int .u32 (b : Int), .int .i64 m]] w fun e w' => e = .returned (.bool (cvr a n b m)) ∧ Below w.heap.size w w' := by
  have fin : ∀ w2, Below (w.heap.size + 2) ((w.alloc (.cells #[.int .u32 (a : Int), .int .i64 n] 24)).alloc (.cells #[.int .u32 (b : Int), .int .i64 m] 24)) w2 → Below w.heap.size w w2 := fun w2 h =>
    (((Below.refl _ w).alloc (Nat.le_refl _) _).alloc (by simp) _).trans (h.mono (by omega))
  have S0 : ∀ w', Below (w.heap.size + 2) ((w.alloc (.cells #[.int .u32 (a : Int), .int .i64 n] 24)).alloc (.cells #[.int .u32 (b : Int), .int .i64 m] 24)) w' → w.heap.size + 2 ≤ w'.heap.size := fun w' h => by
    have := h.size; simp at this; omega
  go_enter Tryd.func24, Tryd.ntmps24
  go_upto_region 1 with (fail)
  refine wp_region_text (fun w' => Below (w.heap.size + 2) ((w.alloc (.cells #[.int .u32 (a : Int), .int .i64 n] 24)).alloc (.cells #[.int .u32 (b : Int), .int .i64 m] 24)) w') [1, 1, 0, 0, 1, 0, 1, 0, 0, 0, 1, 0, 1, 1, 0, 0] (by exact Below.refl _ _) ?_
  cases hv : vld b m
  · have E := hid (show cvr a n b m = false by simp [cvr, hv])
    have HV := hid hv
    clear hv
    apply lexH rfl; (· intro w' hw'; have hcc := cellsBelow hw'; go_simp; (try go_bits); exact ⟨rfl, hw'⟩); simp only [Act.put, List.setIfInBounds_toArray, List.set_cons_zero, List.set_cons_succ]
    apply lexH rfl
    · intro w' hw'; go_simp; (try go_bits); refine (rvalid_any b m _ hb).mono ?_; rintro e w'' ⟨rfl, hbb⟩; exact ⟨_, rfl, congrArg Value.bool HV.out, hw'.trans (hbb.mono (S0 _ hw'))⟩
    simp only [Act.put, List.setIfInBounds_toArray, List.set_cons_zero, List.set_cons_succ]
    apply lexF rfl; (· intro _; go_simp; (try go_bits); exact ⟨rfl, rfl⟩); simp only [Act.put, List.setIfInBounds_toArray, List.set_cons_zero, List.set_cons_succ]
    first | (apply lexN (j := 2) (d := 7) (b := true) rfl rfl rfl rfl; simp only [Act.put, List.setIfInBounds_toArray, List.set_cons_zero, List.set_cons_succ]) | (apply lexN' (j := 2) (d := 7) (b := true) rfl rfl rfl; simp only [Act.put, List.setIfInBounds_toArray, List.set_cons_zero, List.set_cons_succ]) | (apply lexFg (j := 2) (d := 7) (b := true) rfl rfl rfl rfl; (· intro _; go_simp; (try go_bits); exact ⟨rfl, rfl⟩); simp only [Act.put, List.setIfInBounds_toArray, List.set_cons_zero, List.set_cons_succ])
    first | (apply lexN (j := 2) (d := 7) (b := true) rfl rfl rfl rfl; simp only [Act.put, List.setIfInBounds_toArray, List.set_cons_zero, List.set_cons_succ]) | (apply lexN' (j := 2) (d := 7) (b := true) rfl rfl rfl; simp only [Act.put, List.setIfInBounds_toArray, List.set_cons_zero, List.set_cons_succ]) | (apply lexHg (j := 2) (d := 7) (b := true) rfl rfl rfl rfl; (· intro w' hw'; have hcc := cellsBelow hw'; go_simp; (try go_bits); exact ⟨rfl, hw'⟩); simp only [Act.put, List.setIfInBounds_toArray, List.set_cons_zero, List.set_cons_succ])
    first | (apply lexN (j := 2) (d := 7) (b := true) rfl rfl rfl rfl; simp only [Act.put, List.setIfInBounds_toArray, List.set_cons_zero, List.set_cons_succ]) | (apply lexN' (j := 2) (d := 7) (b := true) rfl rfl rfl; simp only [Act.put, List.setIfInBounds_toArray, List.set_cons_zero, List.set_cons_succ]) | (apply lexFg (j := 2) (d := 7) (b := true) rfl rfl rfl rfl; (· intro _; go_simp; (try go_bits); exact ⟨rfl, rfl⟩); simp only [Act.put, List.setIfInBounds_toArray, List.set_cons_zero, List.set_cons_succ])
    first | (apply lexN (j := 2) (d := 7) (b := true) rfl rfl rfl rfl; simp only [Act.put, List.setIfInBounds_toArray, List.set_cons_zero, List.set_cons_succ]) | (apply lexN' (j := 2) (d := 7) (b := true) rfl rfl rfl; simp only [Act.put, List.setIfInBounds_toArray, List.set_cons_zero, List.set_cons_succ]) | (apply lexHg (j := 2) (d := 7) (b := true) rfl rfl rfl rfl; (· intro w' hw'; have hcc := cellsBelow hw'; go_simp; (try go_bits); exact ⟨rfl, hw'⟩); simp only [Act.put, List.setIfInBounds_toArray, List.set_cons_zero, List.set_cons_succ])
    first | (apply lexN (j := 2) (d := 7) (b := true) rfl rfl rfl rfl; simp only [Act.put, List.setIfInBounds_toArray, List.set_cons_zero, List.set_cons_succ]) | (apply lexN' (j := 2) (d := 7) (b := true) rfl rfl rfl; simp only [Act.put, List.setIfInBounds_toArray, List.set_cons_zero, List.set_cons_succ]) | (apply lexFg (j := 2) (d := 7) (b := true) rfl rfl rfl rfl; (· intro _; go_simp; (try go_bits); exact ⟨rfl, rfl⟩); simp only [Act.put, List.setIfInBounds_toArray, List.set_cons_zero, List.set_cons_succ])
    apply lexF rfl; (· intro _; go_simp; (try go_bits); exact ⟨rfl, rfl⟩); simp only [Act.put, List.setIfInBounds_toArray, List.set_cons_zero, List.set_cons_succ]
    apply lexF rfl; (· intro _; go_simp; (try go_bits); exact ⟨rfl, rfl⟩); simp only [Act.put, List.setIfInBounds_toArray, List.set_cons_zero, List.set_cons_succ]
    first | (apply lexN (j := 9) (d := 14) (b := true) rfl rfl rfl rfl; simp only [Act.put, List.setIfInBounds_toArray, List.set_cons_zero, List.set_cons_succ]) | (apply lexN' (j := 9) (d := 14) (b := true) rfl rfl rfl; simp only [Act.put, List.setIfInBounds_toArray, List.set_cons_zero, List.set_cons_succ]) | (apply lexHg (j := 9) (d := 14) (b := true) rfl rfl rfl rfl; (· intro w' hw'; have hcc := cellsBelow hw'; go_simp; (try go_bits); exact ⟨rfl, hw'⟩); simp only [Act.put, List.setIfInBounds_toArray, List.set_cons_zero, List.set_cons_succ])
    first | (apply lexN (j := 9) (d := 14) (b := true) rfl rfl rfl rfl; simp only [Act.put, List.setIfInBounds_toArray, List.set_cons_zero, List.set_cons_succ]) | (apply lexN' (j := 9) (d := 14) (b := true) rfl rfl rfl; simp only [Act.put, List.setIfInBounds_toArray, List.set_cons_zero, List.set_cons_succ]) | (apply lexFg (j := 9) (d := 14) (b := true) rfl rfl rfl rfl; (· intro _; go_simp; (try go_bits); exact ⟨rfl, rfl⟩); simp only [Act.put, List.setIfInBounds_toArray, List.set_cons_zero, List.set_cons_succ])
    first | (apply lexN (j := 9) (d := 14) (b := true) rfl rfl rfl rfl; simp only [Act.put, List.setIfInBounds_toArray, List.set_cons_zero, List.set_cons_succ]) | (apply lexN' (j := 9) (d := 14) (b := true) rfl rfl rfl; simp only [Act.put, List.setIfInBounds_toArray, List.set_cons_zero, List.set_cons_succ]) | (apply lexHg (j := 9) (d := 14) (b := true) rfl rfl rfl rfl; (· intro w' hw'; have hcc := cellsBelow hw'; go_simp; (try go_bits); exact ⟨rfl, hw'⟩); simp only [Act.put, List.setIfInBounds_toArray, List.set_cons_zero, List.set_cons_succ])
    first | (apply lexN (j := 9) (d := 14) (b := true) rfl rfl rfl rfl; simp only [Act.put, List.setIfInBounds_toArray, List.set_cons_zero, List.set_cons_succ]) | (apply lexN' (j := 9) (d := 14) (b := true) rfl rfl rfl; simp only [Act.put, List.setIfInBounds_toArray, List.set_cons_zero, List.set_cons_succ]) | (apply lexHg (j := 9) (d := 14) (b := true) rfl rfl rfl rfl; (· intro w' hw'; have hcc := cellsBelow hw'; go_simp; (try go_bits); exact ⟨rfl, hw'⟩); simp only [Act.put, List.setIfInBounds_toArray, List.set_cons_zero, List.set_cons_succ])
    apply lexF rfl; (· intro _; go_simp; (try go_bits); exact ⟨rfl, rfl⟩); simp only [Act.put, List.setIfInBounds_toArray, List.set_cons_zero, List.set_cons_succ]
    apply lexF rfl; (· intro _; go_simp; (try go_bits); exact ⟨rfl, rfl⟩); simp only [Act.put, List.setIfInBounds_toArray, List.set_cons_zero, List.set_cons_succ]
    refine lexEnd (fun w2 hw2 => ?_)
    go_wp2
    go_ret
    exact ⟨by rw [E.out]; rfl, fin _ hw2⟩
  · by_cases hc : n ≤ m
    · have E := hid (show cvr a n b m = cts a n b by simp [cvr, hv, hc])
      have HV := hid hv
      clear hv
      apply lexH rfl; (· intro w' hw'; have hcc := cellsBelow hw'; go_simp; (try go_bits); exact ⟨rfl, hw'⟩); simp only [Act.put, List.setIfInBounds_toArray, List.set_cons_zero, List.set_cons_succ]
      apply lexH rfl
      · intro w' hw'; go_simp; (try go_bits); refine (rvalid_any b m _ hb).mono ?_; rintro e w'' ⟨rfl, hbb⟩; exact ⟨_, rfl, congrArg Value.bool HV.out, hw'.trans (hbb.mono (S0 _ hw'))⟩
      simp only [Act.put, List.setIfInBounds_toArray, List.set_cons_zero, List.set_cons_succ]
      apply lexF rfl; (· intro _; go_simp; (try go_bits); exact ⟨rfl, rfl⟩); simp only [Act.put, List.setIfInBounds_toArray, List.set_cons_zero, List.set_cons_succ]
      first | (apply lexN (j := 2) (d := 7) (b := true) rfl rfl rfl rfl; simp only [Act.put, List.setIfInBounds_toArray, List.set_cons_zero, List.set_cons_succ]) | (apply lexN' (j := 2) (d := 7) (b := true) rfl rfl rfl; simp only [Act.put, List.setIfInBounds_toArray, List.set_cons_zero, List.set_cons_succ]) | (apply lexFg (j := 2) (d := 7) (b := true) rfl rfl rfl rfl; (· intro _; go_simp; (try go_bits); exact ⟨rfl, rfl⟩); simp only [Act.put, List.setIfInBounds_toArray, List.set_cons_zero, List.set_cons_succ])
      first | (apply lexN (j := 2) (d := 7) (b := true) rfl rfl rfl rfl; simp only [Act.put, List.setIfInBounds_toArray, List.set_cons_zero, List.set_cons_succ]) | (apply lexN' (j := 2) (d := 7) (b := true) rfl rfl rfl; simp only [Act.put, List.setIfInBounds_toArray, List.set_cons_zero, List.set_cons_succ]) | (apply lexHg (j := 2) (d := 7) (b := true) rfl rfl rfl rfl; (· intro w' hw'; have hcc := cellsBelow hw'; go_simp; (try go_bits); exact ⟨rfl, hw'⟩); simp only [Act.put, List.setIfInBounds_toArray, List.set_cons_zero, List.set_cons_succ])
      first | (apply lexN (j := 2) (d := 7) (b := true) rfl rfl rfl rfl; simp only [Act.put, List.setIfInBounds_toArray, List.set_cons_zero, List.set_cons_succ]) | (apply lexN' (j := 2) (d := 7) (b := true) rfl rfl rfl; simp only [Act.put, List.setIfInBounds_toArray, List.set_cons_zero, List.set_cons_succ]) | (apply lexFg (j := 2) (d := 7) (b := true) rfl rfl rfl rfl; (· intro _; go_simp; (try go_bits); exact ⟨rfl, rfl⟩); simp only [Act.put, List.setIfInBounds_toArray, List.set_cons_zero, List.set_cons_succ])
      first | (apply lexN (j := 2) (d := 7) (b := true) rfl rfl rfl rfl; simp only [Act.put, List.setIfInBounds_toArray, List.set_cons_zero, List.set_cons_succ]) | (apply lexN' (j := 2) (d := 7) (b := true) rfl rfl rfl; simp only [Act.put, List.setIfInBounds_toArray, List.set_cons_zero, List.set_cons_succ]) | (apply lexHg (j := 2) (d := 7) (b := true) rfl rfl rfl rfl; (· intro w' hw'; have hcc := cellsBelow hw'; go_simp; (try go_bits); exact ⟨rfl, hw'⟩); simp only [Act.put, List.setIfInBounds_toArray, List.set_cons_zero, List.set_cons_succ])
      first | (apply lexN (j := 2) (d := 7) (b := true) rfl rfl rfl rfl; simp only [Act.put, List.setIfInBounds_toArray, List.set_cons_zero, List.set_cons_succ]) | (apply lexN' (j := 2) (d := 7) (b := true) rfl rfl rfl; simp only [Act.put, List.setIfInBounds_toArray, List.set_cons_zero, List.set_cons_succ]) | (apply lexFg (j := 2) (d := 7) (b := true) rfl rfl rfl rfl; (· intro _; go_simp; (try go_bits); exact ⟨rfl, rfl⟩); simp only [Act.put, List.setIfInBounds_toArray, List.set_cons_zero, List.set_cons_succ])
      apply lexF rfl; (· intro _; go_simp; (try go_bits); exact ⟨rfl, rfl⟩); simp only [Act.put, List.setIfInBounds_toArray, List.set_cons_zero, List.set_cons_succ]
      apply lexF rfl; (· intro _; go_simp; (try go_bits); exact ⟨rfl, rfl⟩); simp only [Act.put, List.setIfInBounds_toArray, List.set_cons_zero, List.set_cons_succ]
      first | (apply lexN (j := 9) (d := 14) (b := true) rfl rfl rfl rfl; simp only [Act.put, List.setIfInBounds_toArray, List.set_cons_zero, List.set_cons_succ]) | (apply lexN' (j := 9) (d := 14) (b := true) rfl rfl rfl; simp only [Act.put, List.setIfInBounds_toArray, List.set_cons_zero, List.set_cons_succ]) | (apply lexHg (j := 9) (d := 14) (b := true) rfl rfl rfl rfl; (· intro w' hw'; have hcc := cellsBelow hw'; go_simp; (try go_bits); exact ⟨rfl, hw'⟩); simp only [Act.put, List.setIfInBounds_toArray, List.set_cons_zero, List.set_cons_succ])
      first | (apply lexN (j := 9) (d := 14) (b := true) rfl rfl rfl rfl; simp only [Act.put, List.setIfInBounds_toArray, List.set_cons_zero, List.set_cons_succ]) | (apply lexN' (j := 9) (d := 14) (b := true) rfl rfl rfl; simp only [Act.put, List.setIfInBounds_toArray, List.set_cons_zero, List.set_cons_succ]) | (apply lexFg (j := 9) (d := 14) (b := true) rfl rfl rfl rfl; (· intro _; go_simp; (try go_bits); exact ⟨rfl, rfl⟩); simp only [Act.put, List.setIfInBounds_toArray, List.set_cons_zero, List.set_cons_succ])
      first | (apply lexN (j := 9) (d := 14) (b := true) rfl rfl rfl rfl; simp only [Act.put, List.setIfInBounds_toArray, List.set_cons_zero, List.set_cons_succ]) | (apply lexN' (j := 9) (d := 14) (b := true) rfl rfl rfl; simp only [Act.put, List.setIfInBounds_toArray, List.set_cons_zero, List.set_cons_succ]) | (apply lexHg (j := 9) (d := 14) (b := true) rfl rfl rfl rfl; (· intro w' hw'; have hcc := cellsBelow hw'; go_simp; (try go_bits); exact ⟨rfl, hw'⟩); simp only [Act.put, List.setIfInBounds_toArray, List.set_cons_zero, List.set_cons_succ])
      apply lexHg (j := 9) (d := 14) (b := true) rfl rfl rfl rfl
      · intro w' hw'; go_simp; (try go_bits); refine (rcontains_any a n b _ ha hb).mono ?_; rintro e w'' ⟨rfl, hbb⟩; exact ⟨_, rfl, rfl, hw'.trans (hbb.mono (S0 _ hw'))⟩
      simp only [Act.put, List.setIfInBounds_toArray, List.set_cons_zero, List.set_cons_succ]
      apply lexF rfl; (· intro _; go_simp; (try go_bits); exact ⟨rfl, rfl⟩); simp only [Act.put, List.setIfInBounds_toArray, List.set_cons_zero, List.set_cons_succ]
      apply lexF rfl; (· intro _; go_simp; (try go_bits); exact ⟨rfl, rfl⟩); simp only [Act.put, List.setIfInBounds_toArray, List.set_cons_zero, List.set_cons_succ]
      refine lexEnd (fun w2 hw2 => ?_)
      go_wp2
      go_ret
      exact ⟨by rw [E.out]; rfl, fin _ hw2⟩
    · have E := hid (show cvr a n b m = false by simp [cvr, hc])
      have HV := hid hv
      have hd : decide (n ≤ m) = false := by simpa using hc
      clear hv
      apply lexH rfl; (· intro w' hw'; have hcc := cellsBelow hw'; go_simp; (try go_bits); exact ⟨rfl, hw'⟩); simp only [Act.put, List.setIfInBounds_toArray, List.set_cons_zero, List.set_cons_succ]
      apply lexH rfl
      · intro w' hw'; go_simp; (try go_bits); refine (rvalid_any b m _ hb).mono ?_; rintro e w'' ⟨rfl, hbb⟩; exact ⟨_, rfl, congrArg Value.bool HV.out, hw'.trans (hbb.mono (S0 _ hw'))⟩
      simp only [Act.put, List.setIfInBounds_toArray, List.set_cons_zero, List.set_cons_succ]
      apply lexF rfl; (· intro _; go_simp; (try go_bits); exact ⟨rfl, rfl⟩); simp only [Act.put, List.setIfInBounds_toArray, List.set_cons_zero, List.set_cons_succ]
      first | (apply lexN (j := 2) (d := 7) (b := true) rfl rfl rfl rfl; simp only [Act.put, List.setIfInBounds_toArray, List.set_cons_zero, List.set_cons_succ]) | (apply lexN' (j := 2) (d := 7) (b := true) rfl rfl rfl; simp only [Act.put, List.setIfInBounds_toArray, List.set_cons_zero, List.set_cons_succ]) | (apply lexFg (j := 2) (d := 7) (b := true) rfl rfl rfl rfl; (· intro _; go_simp; (try go_bits); exact ⟨rfl, rfl⟩); simp only [Act.put, List.setIfInBounds_toArray, List.set_cons_zero, List.set_cons_succ])
      first | (apply lexN (j := 2) (d := 7) (b := true) rfl rfl rfl rfl; simp only [Act.put, List.setIfInBounds_toArray, List.set_cons_zero, List.set_cons_succ]) | (apply lexN' (j := 2) (d := 7) (b := true) rfl rfl rfl; simp only [Act.put, List.setIfInBounds_toArray, List.set_cons_zero, List.set_cons_succ]) | (apply lexHg (j := 2) (d := 7) (b := true) rfl rfl rfl rfl; (· intro w' hw'; have hcc := cellsBelow hw'; go_simp; (try go_bits); exact ⟨rfl, hw'⟩); simp only [Act.put, List.setIfInBounds_toArray, List.set_cons_zero, List.set_cons_succ])
      first | (apply lexN (j := 2) (d := 7) (b := true) rfl rfl rfl rfl; simp only [Act.put, List.setIfInBounds_toArray, List.set_cons_zero, List.set_cons_succ]) | (apply lexN' (j := 2) (d := 7) (b := true) rfl rfl rfl; simp only [Act.put, List.setIfInBounds_toArray, List.set_cons_zero, List.set_cons_succ]) | (apply lexFg (j := 2) (d := 7) (b := true) rfl rfl rfl rfl; (· intro _; go_simp; (try go_bits); exact ⟨rfl, rfl⟩); simp only [Act.put, List.setIfInBounds_toArray, List.set_cons_zero, List.set_cons_succ])
      first | (apply lexN (j := 2) (d := 7) (b := true) rfl rfl rfl rfl; simp only [Act.put, List.setIfInBounds_toArray, List.set_cons_zero, List.set_cons_succ]) | (apply lexN' (j := 2) (d := 7) (b := true) rfl rfl rfl; simp only [Act.put, List.setIfInBounds_toArray, List.set_cons_zero, List.set_cons_succ]) | (apply lexHg (j := 2) (d := 7) (b := true) rfl rfl rfl rfl; (· intro w' hw'; have hcc := cellsBelow hw'; go_simp; (try go_bits); exact ⟨rfl, hw'⟩); simp only [Act.put, List.setIfInBounds_toArray, List.set_cons_zero, List.set_cons_succ])
      first | (apply lexN (j := 2) (d := 7) (b := true) rfl rfl rfl rfl; simp only [Act.put, List.setIfInBounds_toArray, List.set_cons_zero, List.set_cons_succ]) | (apply lexN' (j := 2) (d := 7) (b := true) rfl rfl rfl; simp only [Act.put, List.setIfInBounds_toArray, List.set_cons_zero, List.set_cons_succ]) | (apply lexFg (j := 2) (d := 7) (b := true) rfl rfl rfl rfl; (· intro _; go_simp; (try go_bits); exact ⟨rfl, rfl⟩); simp only [Act.put, List.setIfInBounds_toArray, List.set_cons_zero, List.set_cons_succ])
      apply lexF rfl; (· intro _; go_simp; (try go_bits); exact ⟨rfl, rfl⟩); simp only [Act.put, List.setIfInBounds_toArray, List.set_cons_zero, List.set_cons_succ]
      apply lexF rfl; (· intro _; go_simp; (try go_bits); exact ⟨rfl, rfl⟩); simp only [Act.put, List.setIfInBounds_toArray, List.set_cons_zero, List.set_cons_succ]
      first | (apply lexN (j := 9) (d := 14) (b := true) rfl rfl rfl rfl; simp only [Act.put, List.setIfInBounds_toArray, List.set_cons_zero, List.set_cons_succ]) | (apply lexN' (j := 9) (d := 14) (b := true) rfl rfl rfl; simp only [Act.put, List.setIfInBounds_toArray, List.set_cons_zero, List.set_cons_succ]) | (apply lexHg (j := 9) (d := 14) (b := true) rfl rfl rfl rfl; (· intro w' hw'; have hcc := cellsBelow hw'; go_simp; (try go_bits); exact ⟨rfl, hw'⟩); simp only [Act.put, List.setIfInBounds_toArray, List.set_cons_zero, List.set_cons_succ])
      first | (apply lexN (j := 9) (d := 14) (b := true) rfl rfl rfl rfl; simp only [Act.put, List.setIfInBounds_toArray, List.set_cons_zero, List.set_cons_succ]) | (apply lexN' (j := 9) (d := 14) (b := true) rfl rfl rfl; simp only [Act.put, List.setIfInBounds_toArray, List.set_cons_zero, List.set_cons_succ]) | (apply lexFg (j := 9) (d := 14) (b := true) rfl rfl rfl rfl; (· intro _; go_simp; (try go_bits); exact ⟨rfl, rfl⟩); simp only [Act.put, List.setIfInBounds_toArray, List.set_cons_zero, List.set_cons_succ])
      first | (apply lexN (j := 9) (d := 14) (b := true) rfl rfl rfl rfl; simp only [Act.put, List.setIfInBounds_toArray, List.set_cons_zero, List.set_cons_succ]) | (apply lexN' (j := 9) (d := 14) (b := true) rfl rfl rfl; simp only [Act.put, List.setIfInBounds_toArray, List.set_cons_zero, List.set_cons_succ]) | (apply lexHg (j := 9) (d := 14) (b := true) rfl rfl rfl rfl; (· intro w' hw'; have hcc := cellsBelow hw'; go_simp; (try go_bits); exact ⟨rfl, hw'⟩); simp only [Act.put, List.setIfInBounds_toArray, List.set_cons_zero, List.set_cons_succ])
      first | (apply lexN (j := 9) (d := 14) (b := true) rfl rfl rfl rfl; simp only [Act.put, List.setIfInBounds_toArray, List.set_cons_zero, List.set_cons_succ]) | (apply lexN' (j := 9) (d := 14) (b := true) rfl rfl rfl; simp only [Act.put, List.setIfInBounds_toArray, List.set_cons_zero, List.set_cons_succ]) | (apply lexHg (j := 9) (d := 14) (b := true) rfl rfl rfl rfl; (· intro w' hw'; have hcc := cellsBelow hw'; go_simp; (try go_bits); exact ⟨rfl, hw'⟩); simp only [Act.put, List.setIfInBounds_toArray, List.set_cons_zero, List.set_cons_succ])
      apply lexF rfl; (· intro _; go_simp; (try go_bits); exact ⟨rfl, rfl⟩); simp only [Act.put, List.setIfInBounds_toArray, List.set_cons_zero, List.set_cons_succ]
      apply lexF rfl; (· intro _; go_simp; (try go_bits); exact ⟨rfl, rfl⟩); simp only [Act.put, List.setIfInBounds_toArray, List.set_cons_zero, List.set_cons_succ]
      refine lexEnd (fun w2 hw2 => ?_)
      go_wp2
      go_ret
      exact ⟨by rw [E.out]; rfl, fin _ hw2⟩

set_option maxHeartbeats 400000 in
theorem rparent_any (a : Nat) (n : Nat) (w : World) (ha : W32 a) (hv : vld a (n : Int) = true) (hn : 1 ≤ n) :
    Calls Tryd.prog 22 #[.agg #[.int .u32 (a : Int), .int .i64 (n : Int)]] w fun e w' =>
      e = .returned (.tuple #[.agg #[.int .u32 ((base (n - 1) a : Nat) : Int), .int .i64 ((n - 1 : Nat) : Int)], .int .i64 0]) ∧ Below w.heap.size w w' := by
  obtain ⟨h0, h1, _⟩ := vld_iff.1 hv
  have h4 : 0 ≤ (n : Int) - 1 := by omega
  have h3 : (n : Int) - 1 ≤ 32 := by omega
  have e2 := bits_and_mask ha h4 h3
  have e3 : ((n : Int) - 1).toNat = n - 1 := by omega
  rw [e3] at e2
  clear e3
  have HV := hid hv
  clear hv
  have fin : ∀ w2, Below (w.heap.size + 2) ((w.alloc (.cells #[.int .u32 (a : Int), .int .i64 (n : Int)] 24)).alloc (.cells #[.int .u32 0, .int .i64 0] 24)) w2 → Below w.heap.size w w2 := fun w2 h =>
    (((Below.refl _ w).alloc (Nat.le_refl _) _).alloc (by simp) _).trans (h.mono (by omega))
  go_enter Tryd.func22, Tryd.ntmps22
  go_upto_region 1 with (fail)
  have S0 : ∀ w', Below (w.heap.size + 2) ((w.alloc (.cells #[.int .u32 (a : Int), .int .i64 (n : Int)] 24)).alloc (.cells #[.int .u32 0, .int .i64 0] 24)) w' → w.heap.size + 2 ≤ w'.heap.size := fun w' h => by
    have := h.size; simp at this; omega
  refine wp_region_text (fun w' => Below (w.heap.size + 2) ((w.alloc (.cells #[.int .u32 (a : Int), .int .i64 (n : Int)] 24)).alloc (.cells #[.int .u32 0, .int .i64 0] 24)) w') [1, 1, 0] (by exact Below.refl _ _) ?_
  apply lexH rfl; (· intro w' hw'; have hcc := cellsBelow hw'; go_simp; (try go_bits); exact ⟨rfl, hw'⟩); simp only [Act.put, List.setIfInBounds_toArray, List.set_cons_zero, List.set_cons_succ]
  apply lexH rfl
  · intro w' hw'; go_simp; (try go_bits); refine (rvalid_any a n _ ha).mono ?_; rintro e w'' ⟨rfl, hbb⟩; exact ⟨_, rfl, congrArg Value.bool HV.out, hw'.trans (hbb.mono (S0 _ hw'))⟩
  simp only [Act.put, List.setIfInBounds_toArray, List.set_cons_zero, List.set_cons_succ]
  apply lexF rfl; (· intro _; go_simp; (try go_bits); exact ⟨rfl, rfl⟩); simp only [Act.put, List.setIfInBounds_toArray, List.set_cons_zero, List.set_cons_succ]
  refine lexEnd (fun w2 hw2 => ?_)
  have hcc := cellsBelow hw2
  have hn0 : ((n : Int) == 0) = false := by rw [beq_eq_false_iff_ne]; omega
  go_upto_region 5 with (fail)
  clear hcc
  refine wp_region_staged (fun w' => Below (w.heap.size + 2) ((w.alloc (.cells #[.int .u32 (a : Int), .int .i64 (n : Int)] 24)).alloc (.cells #[.int .u32 0, .int .i64 0] 24)) w') [0, 1, 0, 1, 0, 1, 0, 0, 1, 0, 0, 2, 0] (by kernel_rfl) (by kernel_rfl) (by kernel_rfl) (by exact hw2.drew) ?_
  apply lexF rfl; (· intro _; go_simp; (try go_bits); exact ⟨rfl, rfl⟩); simp only [Act.put, List.setIfInBounds_toArray, List.set_cons_zero, List.set_cons_succ]
  apply lexH rfl; (· intro w' hw'; have hcc := cellsBelow hw'; go_simp; (try go_bits); exact ⟨rfl, hw'⟩); simp only [Act.put, List.setIfInBounds_toArray, List.set_cons_zero, List.set_cons_succ]
  apply lexF rfl; (· intro _; go_simp; (try go_bits); exact ⟨rfl, rfl⟩); simp only [Act.put, List.setIfInBounds_toArray, List.set_cons_zero, List.set_cons_succ]
  apply lexH rfl; (· intro w' hw'; have hcc := cellsBelow hw'; go_simp; (try go_bits); exact ⟨rfl, hw'⟩); simp only [Act.put, List.setIfInBounds_toArray, List.set_cons_zero, List.set_cons_succ]
  apply lexF rfl; (· intro _; go_simp; (try go_bits); exact ⟨rfl, rfl⟩); simp only [Act.put, List.setIfInBounds_toArray, List.set_cons_zero, List.set_cons_succ]
  apply lexH rfl
  · intro w' hw'; go_simp; (try go_bits); refine (rmask_any _ _ h4 h3).mono ?_; rintro e w'' ⟨rfl, rfl⟩; exact ⟨_, rfl, rfl, hw'⟩
  simp only [Act.put, List.setIfInBounds_toArray, List.set_cons_zero, List.set_cons_succ]
  apply lexF rfl; (· intro _; go_simp; (try go_bits); exact ⟨rfl, rfl⟩); simp only [Act.put, List.setIfInBounds_toArray, List.set_cons_zero, List.set_cons_succ]
  apply lexF rfl; (· intro _; go_simp; (try go_bits); exact ⟨rfl, rfl⟩); simp only [Act.put, List.setIfInBounds_toArray, List.set_cons_zero, List.set_cons_succ]
  apply lexH rfl; (· intro w' hw'; have hcc := cellsBelow hw'; go_simp; (try go_bits); exact ⟨rfl, hw'⟩); simp only [Act.put, List.setIfInBounds_toArray, List.set_cons_zero, List.set_cons_succ]
  apply lexF rfl; (· intro _; go_simp; (try go_bits); exact ⟨rfl, rfl⟩); simp only [Act.put, List.setIfInBounds_toArray, List.set_cons_zero, List.set_cons_succ]
  apply lexF rfl; (· intro _; go_simp; (try go_bits); exact ⟨rfl, rfl⟩); simp only [Act.put, List.setIfInBounds_toArray, List.set_cons_zero, List.set_cons_succ]
  apply lexS (fun w' => Below w.heap.size w w' ∧ w'.cell? ⟨w.heap.size + 1, 0, none⟩ = some (.int .u32 ((base (n - 1) a : Nat) : Int)) ∧ w'.cell? ⟨w.heap.size + 1, 1, none⟩ = some (.int .i64 ((n : Int) - 1))) rfl
  · intro w' hw'
    have hcc := cellsBelow hw'
    have hff := frozenBelow hw'
    have g0 : w'.cell? ⟨w.heap.size + 1, 0, none⟩ = some (.int .u32 0) := by go_simp
    have g1 : w'.cell? ⟨w.heap.size + 1, 1, none⟩ = some (.int .i64 0) := by go_simp
    go_simp
    have hs := cell_set2 (x := .int .u32 ((base (n - 1) a : Nat) : Int)) (y := .int .i64 ((n : Int) - 1)) g0 g1
    exact ⟨rfl, ((fin _ hw').setCell (p := ⟨w.heap.size + 1, 0, none⟩) (by simp) _).setCell (p := ⟨w.heap.size + 1, 1, none⟩) (by simp) _, hs.1, hs.2⟩
  simp only [Act.put]
  apply lexF rfl; (· intro _; go_simp; (try go_bits); exact ⟨rfl, rfl⟩); simp only [Act.put, List.setIfInBounds_toArray, List.set_cons_zero, List.set_cons_succ]
  refine lexEnd (fun w3 hw3 => ?_)
  obtain ⟨hb3, hc0, hc1⟩ := hw3
  go_wp2
  refine bodyPost_ret (v := .tuple #[.agg #[.int .u32 ((base (n - 1) a : Nat) : Int), .int .i64 ((n - 1 : Nat) : Int)], .int .i64 0]) ?_ rfl ⟨rfl, hb3⟩
  have e5 : ((n - 1 : Nat) : Int) = (n : Int) - 1 := by omega
  rw [e5]
  clear e5
  simp [results, Tryd.results22, go_sem, hc0, hc1]

set_option maxHeartbeats 400000 in
theorem rcompare_any (a : Nat) (n : Int) (b : Nat) (m : Int) (w : World) :
    Calls Tryd.prog 26 #[.agg #[.int .u32 (a : Int), .int .i64 n], .agg #[.int .u32 (b : Int), .int .i64 m]] w fun e w' => e = .returned (.int .i64 (cmpI a n b m)) ∧ Below w.heap.size w w' := by
  have fin : Below w.heap.size w ((w.alloc (.cells #[.int .u32 (a : Int), .int .i64 n] 24)).alloc (.cells #[.int .u32 (b : Int), .int .i64 m] 24)) :=
    (((Below.refl _ w).alloc (Nat.le_refl _) _).alloc (by simp) _)
  rcases Nat.lt_trichotomy a b with h | h | h
  · have E := hid (show cmpI a n b m = -1 by unfold cmpI; rw [if_pos (by omega)])
    go_enter Tryd.func26, Tryd.ntmps26
    go_wp2
    go_ret
    exact ⟨by rw [E.out]; rfl, fin⟩
  · subst h
    rcases Int.lt_trichotomy n m with h2 | h2 | h2
    · have E := hid (show cmpI a n a m = -1 by unfold cmpI; rw [if_pos (by omega)])
      go_enter Tryd.func26, Tryd.ntmps26
      go_wp2
      go_ret
      exact ⟨by rw [E.out]; rfl, fin⟩
    · subst h2
      have E := hid (show cmpI a n a n = 0 by unfold cmpI; rw [if_neg (by omega), if_pos (by omega)])
      go_enter Tryd.func26, Tryd.ntmps26
      go_wp2
      go_ret
      exact ⟨by rw [E.out]; rfl, fin⟩
    · have E := hid (show cmpI a n a m = 1 by unfold cmpI; rw [if_neg (by omega), if_neg (by omega)])
      have hne : (n == m) = false := by rw [beq_eq_false_iff_ne]; omega
      go_enter Tryd.func26, Tryd.ntmps26
      go_wp2
      go_ret
      exact ⟨by rw [E.out]; rfl, fin⟩
  · have E := hid (show cmpI a n b m = 1 by unfold cmpI; rw [if_neg (by omega), if_neg (by omega)])
    have hne : ((a : Int) == (b : Int)) = false := by rw [beq_eq_false_iff_ne]; omega
    go_enter Tryd.func26, Tryd.ntmps26
    go_wp2
    go_ret
    exact ⟨by rw [E.out]; rfl, fin⟩

end Go.Proofs.YtbbjjjaclbkolaaDoor
