/- How the reference reads a prefix. -/
import Derived.Test.YtbbjjjaclbkolaaDoorPfxE
namespace Go.Proofs.YtbbjjjaclbkolaaDoor
open Go.RowKit
open Go.Lib (decDigits)

theorem i64_and255 (n : Int) : bits .and .i64 n 255 = n % 256 := by
  have h255 : (BitVec.ofInt 64 255).toNat = 2 ^ 8 - 1 := by decide
  have key : (BitVec.ofInt 64 n &&& BitVec.ofInt 64 255).toNat = (n % ((2 ^ 64 : Nat) : Int)).toNat % 2 ^ 8 := by
    rw [BitVec.toNat_and, BitVec.toNat_ofInt, h255, Nat.and_two_pow_sub_one_eq_mod]
  show IntKind.i64.wrap ((BitVec.ofInt 64 n &&& BitVec.ofInt 64 255).toNat : Nat) = n % 256
  rw [key, IntKind.wrap_i64]
  omega
def upd (f : Nat → Int) (j : Nat) (v : Int) (i : Nat) : Int := if i = j then v else f i
/-- A digit more. -/
def dgt (z : Int) (c : UInt8) : Int := wrap64 (wrap64 (z * 10) + ((c.toNat - 48 : Nat) : Int))
/-- A byte read. -/
def stR (p : Nat × (Nat → Int)) (c : UInt8) : Nat × (Nat → Int) := if isDig c = true then (p.1, upd p.2 p.1 (dgt (p.2 p.1) c)) else if p.1 < 4 then (p.1 + 1, p.2) else p
def foldR (l : List UInt8) : Nat × (Nat → Int) := l.foldl stR (0, fun _ => 0)
theorem foldR_step {s : List UInt8} {i : Nat} {c : UInt8} (h : s[i]? = some c) : foldR (s.take (i + 1)) = stR (foldR (s.take i)) c := by
  unfold foldR
  rw [List.take_add_one, h, List.foldl_append]; rfl
theorem dgt_small {z : Nat} {d : Nat} (hz : z < 1000000) (hd : d < 10) : dgt (z : Int) (chr d) = ((z * 10 + d : Nat) : Int) := by
  unfold dgt
  rw [chr_nat hd, show 48 + d - 48 = d by omega]
  unfold wrap64; omega
theorem upd_upd (f : Nat → Int) (k : Nat) (x y : Int) : upd (upd f k x) k y = upd f k y := by
  funext i
  unfold upd
  split <;> rfl
theorem fold_dec (n : Nat) : ∀ (k : Nat) (f : Nat → Int), n < 1000000 → f k = 0 → (decDigits n).foldl stR (k, f) = (k, upd f k n) := by
  induction n using Nat.strongRecOn with
  | _ n ih =>
    intro k f hn hf
    by_cases h : n < 10
    · rw [dec_small h]
      simp only [List.foldl_cons, List.foldl_nil, stR, isDig_chr h, if_true]
      rw [hf, show (0 : Int) = ((0 : Nat) : Int) from rfl, dgt_small (by decide) h]; simp
    · have h1 : n % 10 < 10 := Nat.mod_lt _ (by decide)
      rw [dec_big h, List.foldl_append, ih (n / 10) (by omega) k f (by omega) hf]
      simp only [List.foldl_cons, List.foldl_nil, stR, isDig_chr h1, if_true]
      rw [upd_upd, show upd f k ((n / 10 : Nat) : Int) k = ((n / 10 : Nat) : Int) from if_pos rfl, dgt_small (by omega) h1]
      rw [show n / 10 * 10 + n % 10 = n by omega]
theorem fold_sep {c : UInt8} (hc : isDig c = false) {k : Nat} (hk : k < 4) (f : Nat → Int) : stR (k, f) c = (k + 1, f) := by
  unfold stR
  rw [if_neg (by rw [hc]; decide), if_pos hk]
/-- What the reference has read, if s is a text. -/
def Fin (s : List UInt8) (f : Nat → Int) : Prop := ∀ b m, TextOf s b m → (∀ i, i < 4 → f i = (byt b i : Int)) ∧ f 4 = m
theorem fold_text {s : List UInt8} {b : Nat} {m : Int} (h : TextOf s b m) : Fin s (foldR s).2 := by
  have e : foldR s = (4, upd (upd (upd (upd (upd (fun _ => 0) 0 (byt b 0)) 1 (byt b 1)) 2 (byt b 2)) 3 (byt b 3)) 4 (m.toNat : Nat)) := by
    have l := len_vld h.2.1
    have h1 := fun i => Nat.lt_trans (byt_lt b i) (show 256 < 1000000 by decide)
    rw [← h.2.2, textP_ok h.2.1, accP_four]
    unfold foldR
    simp only [List.foldl_append, List.foldl_cons]
    rw [fold_dec _ _ _ (h1 0), fold_sep (k := 0) (by decide) (by decide), fold_dec _ _ _ (h1 1), fold_sep (k := 0 + 1) (by decide) (by decide), fold_dec _ _ _ (h1 2), fold_sep (k := 0 + 1 + 1) (by decide) (by decide), fold_dec _ _ _ (h1 3), fold_sep (k := 0 + 1 + 1 + 1) (by decide) (by decide), fold_dec _ _ _ (show m.toNat < 1000000 by omega)]
    all_goals rfl
  intro b2 m2 h2
  obtain ⟨rfl, rfl⟩ := h.inj h2
  have l := len_vld h.2.1
  rw [e]
  refine ⟨fun i hi => ?_, ?_⟩
  · match i, hi with
    | 0, _ => rfl
    | 1, _ => rfl
    | 2, _ => rfl
    | 3, _ => rfl
  · show ((m.toNat : Nat) : Int) = m
    omega
theorem fin_of {s : List UInt8} {i k : Nat} {f : Nat → Int} (ho : foldR (s.take i) = (k, f)) (hi : s.length ≤ i ∨ 20 ≤ i) : Fin s f := fun b m h => by
  have hl := h.len
  have e : s.take i = s := List.take_of_length_le (by omega)
  rw [e] at ho
  have := fold_text h
  rw [ho] at this
  exact this b m h
/-- The lowest byte of a number. -/
def lowB (z : Int) : Nat := (z % 256).toNat
theorem lowB_lt (z : Int) : lowB z < 256 := by unfold lowB; omega
theorem lowB_of {z : Int} {n : Nat} (h : z = (n : Int)) (hn : n < 256) : lowB z = n := by unfold lowB; omega
def nxtL (acc : Nat) (z : Int) : Nat := nxtA acc (lowB z : Int)
theorem Pre.next {s : List UInt8} {k acc : Nat} {f : Nat → Int} (h : Pre s k acc) (hf : Fin s f) (hk : k < 4) : Pre s (k + 1) (nxtL acc (f k)) := fun b m ht => by
  unfold nxtL
  rw [lowB_of ((hf b m ht).1 k hk) (byt_lt b k), h b m ht, nxt_pre hk]
theorem nxtL_w32 (acc : Nat) (z : Int) : W32 (nxtL acc z) := nxt_w32 (by omega) (by have := lowB_lt z; omega)
theorem nxtL_or (acc : Nat) (z : Int) : bits BinOp.or IntKind.u32 ((acc * 256 % 4294967296 : Nat) : Int) ((lowB z : Nat) : Int) = ((nxtL acc z : Nat) : Int) := or_acc rfl (by have := lowB_lt z; omega)
theorem yes_text2 {s : List UInt8} {acc : Nat} {z : Int} (hw : W32 acc) (hk : s ≠ []) (h : textP acc z = s) : prA s = acc ∧ prN s = z ∧ prE s = 0 := by
  refine pr_ok ⟨hw, ?_, h⟩
  cases hv : vld acc z with
  | true => rfl
  | false => exact absurd (h.symm.trans (textP_bad hv)) hk
theorem no_text2 {s : List UInt8} {acc : Nat} {f : Nat → Int} (hp : Pre s 4 acc) (hf : Fin s f) (h : s = [] ∨ textP acc (f 4) ≠ s) : prA s = 0 ∧ prN s = 0 ∧ prE s = 3 := pr_no fun b m ht => by
  rcases h with h | h
  · have := ht.cut.2.2
    exact cut_back this h
  · apply h
    rw [hp b m ht, preA_eq ht.1, (hf b m ht).2]
    exact ht.2.2
end Go.Proofs.YtbbjjjaclbkolaaDoor
