/- The text of a prefix. No program in sight. -/
import Derived.Test.YtbbjjjaclbkolaaGreatDoorSepT
import Derived.Test.YtbbjjjaclbkolaaGreatDoorPA
namespace Go.Proofs.YtbbjjjaclbkolaaGreatDoor
open Go.Lib (decDigits)
def byt (a i : Nat) : Nat := a / 2 ^ (24 - 8 * i) % 256
theorem byt_lt (a i : Nat) : byt a i < 256 := Nat.mod_lt _ (by decide)
def accP (a : Nat) : Nat → List UInt8
  | 0 => []
  | k + 1 => accP a k ++ ((if k = 0 then [] else [46]) ++ decDigits (byt a k))
theorem accP_four (a : Nat) : accP a 4 = decDigits (byt a 0) ++ 46 :: (decDigits (byt a 1) ++ 46 :: (decDigits (byt a 2) ++ 46 :: decDigits (byt a 3))) := by
  simp [accP]
theorem accP_len (a : Nat) : ∀ k, (accP a k).length ≤ 4 * k
  | 0 => Nat.le_refl _
  | k + 1 => by
    have h1 := accP_len a k
    have h2 := dec_len3 (n := byt a k) (Nat.lt_trans (byt_lt a k) (by decide))
    rw [accP]
    split <;> simp <;> omega
def textP (a : Nat) (n : Int) : List UInt8 := if vld a n = true then accP a 4 ++ 47 :: decDigits n.toNat else []
theorem textP_ok {a : Nat} {n : Int} (h : vld a n = true) : textP a n = accP a 4 ++ 47 :: decDigits n.toNat := if_pos h
theorem textP_bad {a : Nat} {n : Int} (h : vld a n = false) : textP a n = [] := if_neg (by rw [h]; decide)
theorem acc_no47 (a : Nat) : ∀ d ∈ accP a 4, d ≠ 47 := fun d hd => by
  have h := fun n => dec_ne_c (c := 47) (by decide) n d
  rw [accP_four] at hd
  simp only [List.mem_append, List.mem_cons] at hd
  rcases hd with hd | rfl | hd | rfl | hd | rfl | hd
  · exact h _ hd
  · decide
  · exact h _ hd
  · decide
  · exact h _ hd
  · decide
  · exact h _ hd
theorem acc_pieces (a : Nat) : pieces 46 (accP a 4) = [decDigits (byt a 0), decDigits (byt a 1), decDigits (byt a 2), decDigits (byt a 3)] := by
  have h := fun n => dec_ne_c (c := 46) (by decide) n
  rw [accP_four, pieces_hit (h _), pieces_hit (h _), pieces_hit (h _), pieces_no (h _)]
theorem len_vld {a : Nat} {n : Int} (h : vld a n = true) : 0 ≤ n ∧ n ≤ 32 := ⟨(vld_iff.1 h).1, (vld_iff.1 h).2.1⟩
theorem text_len (a : Nat) (n : Int) : (textP a n).length ≤ 20 := by
  unfold textP
  split
  · rename_i h
    have h1 := accP_len a 4
    have h2 := dec_len3 (n := n.toNat) (by have := len_vld h; omega)
    simp; omega
  · simp
def preA (a : Nat) : Nat → Nat
  | 0 => 0
  | k + 1 => preA a k * 256 + byt a k
theorem preA_eq {a : Nat} (ha : W32 a) : preA a 4 = a := by
  have h : a < 4294967296 := ha.lt
  simp only [preA, byt]
  have e1 : (2 : Nat) ^ (24 - 8 * 0) = 16777216 := rfl
  have e2 : (2 : Nat) ^ (24 - 8 * 1) = 65536 := rfl
  have e3 : (2 : Nat) ^ (24 - 8 * 2) = 256 := rfl
  have e4 : (2 : Nat) ^ (24 - 8 * 3) = 1 := rfl
  rw [e1, e2, e3, e4]
  omega
def TextOf (s : List UInt8) (a : Nat) (n : Int) : Prop := W32 a ∧ vld a n = true ∧ textP a n = s
theorem TextOf.cut {s : List UInt8} {a : Nat} {n : Int} (h : TextOf s a n) : cutL 47 s = accP a 4 ∧ cutR 47 s = decDigits n.toNat ∧ cutK 47 s = true := by
  obtain ⟨_, h1, rfl⟩ := h
  rw [textP_ok h1]
  exact cut_hit (acc_no47 a)
theorem TextOf.ps {s : List UInt8} {a : Nat} {n : Int} (h : TextOf s a n) : pieces 46 (cutL 47 s) = [decDigits (byt a 0), decDigits (byt a 1), decDigits (byt a 2), decDigits (byt a 3)] := by
  rw [h.cut.1, acc_pieces]
theorem TextOf.len {s : List UInt8} {a : Nat} {n : Int} (h : TextOf s a n) : s.length ≤ 18 := by
  obtain ⟨_, h1, rfl⟩ := h
  have h0 := len_vld h1
  have h2 : (decDigits n.toNat).length ≤ 2 := by
    by_cases h3 : n.toNat < 10
    · rw [dec_small h3]; simp
    · rw [dec_big h3, dec_small (by omega)]; simp
  have h4 : (accP a 4).length ≤ 15 := by
    have h5 := fun i => dec_len3 (n := byt a i) (Nat.lt_trans (byt_lt a i) (by decide))
    have := h5 0; have := h5 1; have := h5 2; have := h5 3
    rw [accP_four]; simp; omega
  rw [textP_ok h1]; simp; omega
theorem TextOf.inj {s : List UInt8} {a b : Nat} {n m : Int} (h : TextOf s a n) (h2 : TextOf s b m) : a = b ∧ n = m := by
  have h3 := h.ps.symm.trans h2.ps
  have h4 := h.cut.2.1.symm.trans h2.cut.2.1
  simp only [List.cons.injEq, and_true] at h3
  obtain ⟨e0, e1, e2, e3⟩ := h3
  have e := dec_inj h4
  have l1 := len_vld h.2.1
  have l2 := len_vld h2.2.1
  refine ⟨?_, by omega⟩
  rw [← preA_eq h.1, ← preA_eq h2.1]
  simp only [preA, dec_inj e0, dec_inj e1, dec_inj e2, dec_inj e3]
open Classical in
noncomputable def prT (s : List UInt8) : Option (Nat × Int) := if h : ∃ p : Nat × Int, TextOf s p.1 p.2 then some h.choose else none
noncomputable def prA (s : List UInt8) : Nat := ((prT s).getD (0, 0)).1
noncomputable def prN (s : List UInt8) : Int := ((prT s).getD (0, 0)).2
noncomputable def prE (s : List UInt8) : Int := if (prT s).isSome then 0 else 3
theorem pr_ok {s : List UInt8} {a : Nat} {n : Int} (h : TextOf s a n) : prA s = a ∧ prN s = n ∧ prE s = 0 := by
  have e : prT s = some (a, n) := by
    have h1 : ∃ p : Nat × Int, TextOf s p.1 p.2 := ⟨(a, n), h⟩
    unfold prT
    rw [dif_pos h1]
    have h2 := h1.choose_spec.inj h
    exact congrArg some (Prod.ext h2.1 h2.2)
  unfold prA prN prE
  rw [e]
  exact ⟨rfl, rfl, rfl⟩
theorem pr_no {s : List UInt8} (h : ∀ a n, ¬ TextOf s a n) : prA s = 0 ∧ prN s = 0 ∧ prE s = 3 := by
  have e : prT s = none := by
    unfold prT
    rw [dif_neg fun ⟨p, hp⟩ => h p.1 p.2 hp]
  unfold prA prN prE
  rw [e]
  exact ⟨rfl, rfl, rfl⟩
def nxtA (acc : Nat) (z : Int) : Nat := acc * 256 % 4294967296 + z.toNat
theorem preA_lt (a : Nat) : ∀ k, preA a k < 256 ^ k
  | 0 => Nat.one_pos
  | k + 1 => by
    have h1 := preA_lt a k
    have h2 := byt_lt a k
    rw [preA, Nat.pow_succ]; omega
theorem nxt_pre {a k : Nat} (hk : k < 4) : nxtA (preA a k) (byt a k : Int) = preA a (k + 1) := by
  have h1 := preA_lt a k
  have h2 : (256 : Nat) ^ k ≤ 256 ^ 3 := Nat.pow_le_pow_right (by decide) (by omega)
  have h3 : (256 : Nat) ^ 3 = 16777216 := rfl
  unfold nxtA
  rw [preA, Nat.mod_eq_of_lt (by omega)]
  rfl
theorem nxt_w32 {acc : Nat} {z : Int} (h0 : 0 ≤ z) (h1 : z ≤ 255) : W32 (nxtA acc z) := by
  have : nxtA acc z < 2 ^ 32 := by unfold nxtA; omega
  exact this
theorem nxt_or {acc : Nat} {z : Int} (h0 : 0 ≤ z) (h1 : z ≤ 255) : acc * 256 % 4294967296 ||| z.toNat = nxtA acc z := by
  have e : acc * 256 % 4294967296 = (acc % 16777216) <<< 8 := by rw [Nat.shiftLeft_eq]; omega
  unfold nxtA
  rw [e, Nat.shiftLeft_add_eq_or_of_lt (by omega)]
end Go.Proofs.YtbbjjjaclbkolaaGreatDoor
