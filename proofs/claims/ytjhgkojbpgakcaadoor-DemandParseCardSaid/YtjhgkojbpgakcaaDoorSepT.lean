/- Texts cut at a byte; numerals read back. No program in sight. -/
import Derived.Test.YtjhgkojbpgakcaaDoorMA
import Derived.Lib.SplitLaws
import Derived.Lib.AtoiTie
import Derived.Lib.ItoaLen
namespace Go.Proofs.YtjhgkojbpgakcaaDoor
open Go.Lib (decDigits)
theorem idx_at (c : UInt8) : ∀ (l m : List UInt8), (∀ d ∈ l, d ≠ c) → Lib.index (l ++ c :: m) [c] = (l.length : Int)
  | [], m, _ => by simp [Lib.index, List.isPrefixOf]
  | d :: l, m, h => by
    have h0 := h d List.mem_cons_self
    have h1 : List.isPrefixOf [c] (d :: (l ++ c :: m)) = false := by
      simp only [List.isPrefixOf, Bool.and_true]
      exact beq_false_of_ne fun e => h0 e.symm
    rw [List.cons_append, Lib.index, h1, idx_at c l m fun e he => h e (List.mem_cons_of_mem _ he)]
    simp only [Bool.false_eq_true, if_false]
    rw [if_neg (by simp)]
    simp
theorem idx_no (c : UInt8) : ∀ (l : List UInt8), (∀ d ∈ l, d ≠ c) → Lib.index l [c] = -1
  | [], _ => by simp [Lib.index]
  | d :: l, h => by
    have h0 := h d List.mem_cons_self
    have h1 : List.isPrefixOf [c] (d :: l) = false := by
      simp only [List.isPrefixOf, Bool.and_true]
      exact beq_false_of_ne fun e => h0 e.symm
    rw [Lib.index, h1, idx_no c l fun e he => h e (List.mem_cons_of_mem _ he)]
    rfl
def cutL (c : UInt8) (l : List UInt8) : List UInt8 := (Lib.cut l [c]).1
def cutR (c : UInt8) (l : List UInt8) : List UInt8 := (Lib.cut l [c]).2.1
def cutK (c : UInt8) (l : List UInt8) : Bool := (Lib.cut l [c]).2.2
theorem cut_hit {c : UInt8} {l m : List UInt8} (h : ∀ d ∈ l, d ≠ c) : cutL c (l ++ c :: m) = l ∧ cutR c (l ++ c :: m) = m ∧ cutK c (l ++ c :: m) = true := by
  unfold cutL cutR cutK Lib.cut
  rw [idx_at c l m h, if_pos (by omega)]
  refine ⟨by simp, by simp, rfl⟩
theorem cutL_len (c : UInt8) (l : List UInt8) : (cutL c l).length ≤ l.length := by
  unfold cutL Lib.cut
  split
  · simp only [List.length_take]; omega
  · exact Nat.le_refl _
theorem cutR_len (c : UInt8) (l : List UInt8) : (cutR c l).length ≤ l.length := by
  unfold cutR Lib.cut
  split
  · simp only [List.length_drop]; omega
  · exact Nat.zero_le _
def pieces (c : UInt8) (l : List UInt8) : List (List UInt8) := Lib.splitK [c] 0 (Lib.count l [c]) l
theorem pieces_no {c : UInt8} {l : List UInt8} (h : ∀ d ∈ l, d ≠ c) : pieces c l = [l] := by
  unfold pieces
  rw [Lib.count_miss (idx_no c l h)]; rfl
theorem pieces_hit {c : UInt8} {l m : List UInt8} (h : ∀ d ∈ l, d ≠ c) : pieces c (l ++ c :: m) = l :: pieces c m := by
  unfold pieces
  have e := idx_at c l m h
  have h2 : (l ++ c :: m).drop (l.length + 1) = m := by
    rw [← List.drop_drop]; simp
  rw [Lib.count_hit (by simp) e]
  simp only [List.length_singleton]
  rw [h2, Nat.add_comm 1, Lib.splitK, e, if_neg (by simp)]
  simp only [Int.toNat_natCast, Nat.add_zero, List.length_singleton]
  rw [h2]; simp
theorem dec_ne_c {c : UInt8} (hc : isDig c = false) (n : Nat) : ∀ d ∈ decDigits n, d ≠ c := fun d hd e => by
  have := dec_digs n d hd
  rw [e, hc] at this; cases this
theorem decFrom_snoc (c : UInt8) {d : Nat} (hd : Lib.digitVal c = some d) : ∀ (l : List UInt8) (a n : Nat), Lib.decFrom a l = some n → Lib.decFrom a (l ++ [c]) = some (n * 10 + d)
  | [], a, n, h => by
    simp only [Lib.decFrom] at h
    cases h
    simp only [List.nil_append, Lib.decFrom, hd]
  | b :: l, a, n, h => by
    rw [List.cons_append]
    unfold Lib.decFrom at h ⊢
    cases hb : Lib.digitVal b with
    | none => rw [hb] at h; cases h
    | some e => rw [hb] at h; exact decFrom_snoc c hd l _ n h
theorem digitVal_chr {d : Nat} (h : d < 10) : Lib.digitVal (chr d) = some d := by
  unfold Lib.digitVal
  rw [chr_nat h, if_pos (by omega)]
  simp
theorem decFrom_dec (n : Nat) : Lib.decFrom 0 (decDigits n) = some n := by
  induction n using Nat.strongRecOn with
  | _ n ih =>
    by_cases h : n < 10
    · rw [dec_small h]
      simp [Lib.decFrom, digitVal_chr h]
    · rw [dec_big h, decFrom_snoc _ (digitVal_chr (Nat.mod_lt _ (by decide))) _ _ _ (ih (n / 10) (by omega))]
      congr 1; omega
theorem dec_len20 {n : Nat} (h : n < 1000000000) : (decDigits n).length ≤ 20 := by
  rw [Lib.decDigits_length]
  exact Lib.nDigits_le20 n (by omega)
end Go.Proofs.YtjhgkojbpgakcaaDoor
