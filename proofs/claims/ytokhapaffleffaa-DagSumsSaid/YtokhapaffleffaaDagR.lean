/- Amounts keep small numerators and denominators. Shares: the start, a node, a node that has nothing. -/
import Derived.Test.YtokhapaffleffaaRatA
import Derived.Test.YtokhapaffleffaaDagP
namespace Go.Proofs.Ytokhapaffleffaa
def LimV (P B : Nat) (x : Rat) : Prop := ∃ z : Int, x = (z : Rat) / ((P : Int) : Rat) ∧ z.natAbs ≤ B * P
def LimA (P B : Nat) (f : Nat → Rat) : Prop := 0 < P ∧ ∀ k, LimV P B (f k)
section
variable {P B C L s k : Nat} {f : Nat → Rat} {x v : Rat}
theorem LimV.up (h : LimV P B x) (hc : B ≤ C) : LimV P C x := by
  obtain ⟨z, h1, h2⟩ := h
  exact ⟨z, h1, Nat.le_trans h2 (Nat.mul_le_mul_right _ hc)⟩
theorem LimV.scale (h : LimV P B x) (hP : 0 < P) (hL : 0 < L) : LimV (P * L) B x := by
  obtain ⟨z, h1, h2⟩ := h
  refine ⟨z * (L : Int), ?_, ?_⟩
  · rw [h1, Rat.intCast_mul, Int.natCast_mul, Rat.intCast_mul]
    have e1 : ((P : Int) : Rat) ≠ 0 := by intro q; have := Rat.intCast_inj.1 (q.trans Rat.intCast_zero.symm); omega
    have e2 : ((L : Int) : Rat) ≠ 0 := by intro q; have := Rat.intCast_inj.1 (q.trans Rat.intCast_zero.symm); omega
    grind
  · rw [Int.natAbs_mul, Int.natAbs_natCast, ← Nat.mul_assoc]
    exact Nat.mul_le_mul_right _ h2
theorem LimV.part (h : LimV P B x) (hP : 0 < P) (hL : 0 < L) : LimV (P * L) B (x / ((L : Nat) : Rat)) := by
  obtain ⟨z, h1, h2⟩ := h
  refine ⟨z, ?_, ?_⟩
  · rw [h1, Int.natCast_mul, Rat.intCast_mul]
    have e1 : ((P : Int) : Rat) ≠ 0 := by intro q; have := Rat.intCast_inj.1 (q.trans Rat.intCast_zero.symm); omega
    have e2 : ((L : Int) : Rat) ≠ 0 := by intro q; have := Rat.intCast_inj.1 (q.trans Rat.intCast_zero.symm); omega
    have e3 : ((L : Nat) : Rat) = ((L : Int) : Rat) := rfl
    rw [e3]
    grind
  · exact Nat.le_trans h2 (Nat.mul_le_mul_left _ (Nat.le_mul_of_pos_right _ hL))
theorem LimV.add {y : Rat} (h : LimV P B x) (h' : LimV P C y) : LimV P (B + C) (x + y) := by
  obtain ⟨z, h1, h2⟩ := h
  obtain ⟨z', h3, h4⟩ := h'
  refine ⟨z + z', ?_, ?_⟩
  · rw [h1, h3, Rat.intCast_add, Rat.div_def, Rat.div_def, Rat.div_def, Rat.add_mul]
  · rw [Nat.add_mul]
    have := Int.natAbs_add_le z z'
    omega
theorem LimA.start : LimA 1 1 (fun k => if k = s then 1 else 0) := ⟨by omega, fun k => by
  show LimV 1 1 (if k = s then 1 else 0)
  by_cases h : k = s
  · rw [if_pos h]; exact ⟨1, by grind, by decide⟩
  · rw [if_neg h]; exact ⟨0, by grind, by decide⟩⟩
theorem LimA.scale (h : LimA P B f) (hL : 0 < L) : LimA (P * L) B f := ⟨Nat.mul_pos h.1 hL, fun k => (h.2 k).scale h.1 hL⟩
theorem LimA.add (h : LimA P B f) (hv : LimV P C v) : LimA P (B + C) (fun j => if j = k then f j + v else f j) := ⟨h.1, fun j => by
  show LimV P (B + C) (if j = k then f j + v else f j)
  split
  · exact (h.2 j).add hv
  · exact (h.2 j).up (Nat.le_add_right _ _)⟩
theorem LmQ.int {a : Nat} {z : Int} (h : Lm a z.natAbs) (ha : 1 ≤ a) : LmQ a (z : Rat) := ⟨by rw [Rat.num_intCast]; exact h, by rw [Rat.den_intCast]; exact Lm.up (a := 1) (by unfold Lm; decide) ha⟩
def pw2 (k : Nat) : Nat := 2 ^ k
theorem pw2_mul (a b : Nat) : pw2 a * pw2 b = pw2 (a + b) := (Nat.pow_add ..).symm
theorem pw2_lt {a b : Nat} (h : a < b) : pw2 a < pw2 b := Nat.pow_lt_pow_right (by decide) h
theorem pw2_le {a b : Nat} (h : a ≤ b) : pw2 a ≤ pw2 b := Nat.pow_le_pow_right (by decide) h
theorem pw2_B (k : Nat) : B32 ^ k = pw2 (32 * k) := by unfold pw2; rw [Nat.pow_mul]; rfl
theorem LimV.lm (h : LimV P B x) (hP : 0 < P) (h1 : P ≤ pw2 640) (h2 : B ≤ pw2 640) : LmQ 100 x := by
  obtain ⟨z, rfl, h4⟩ := h
  have e1 : z.natAbs ≤ pw2 1280 := by rw [show 1280 = 640 + 640 from rfl, ← pw2_mul]; exact Nat.le_trans h4 (Nat.mul_le_mul h2 h1)
  have e2 : Lm 41 z.natAbs := Nat.lt_of_le_of_lt e1 (by rw [pw2_B]; exact pw2_lt (by decide))
  have e3 : Lm 21 (P : Int).natAbs := Nat.lt_of_le_of_lt (show (P : Int).natAbs ≤ pw2 640 from h1) (by rw [pw2_B]; exact pw2_lt (by decide))
  exact ((LmQ.int e2 (by decide)).div (LmQ.int e3 (by decide)) (by intro q; have := Rat.intCast_inj.1 (q.trans Rat.intCast_zero.symm); omega)).up (by decide)
theorem pow_nd {j : Nat} (hj : j ≤ 64) : 512 ^ j ≤ pw2 640 ∧ 513 ^ j ≤ pw2 640 := by
  have e1 : 512 ^ j = pw2 (9 * j) := by unfold pw2; rw [Nat.pow_mul]
  have e2 : 1024 ^ j = pw2 (10 * j) := by unfold pw2; rw [Nat.pow_mul]
  exact ⟨by rw [e1]; exact pw2_le (by omega), Nat.le_trans (Nat.pow_le_pow_left (show 513 ≤ 1024 by decide) j) (by rw [e2]; exact pw2_le (by omega))⟩
theorem pow_next {j L k : Nat} (hP : P ≤ 512 ^ j) (hB : B ≤ 513 ^ j) (hL : L ≤ 512) (hk : k ≤ L) : P * L ≤ 512 ^ (j + 1) ∧ B + k * B ≤ 513 ^ (j + 1) := by
  refine ⟨Nat.mul_le_mul hP hL, ?_⟩
  have : B + k * B = B * (k + 1) := by rw [Nat.mul_add, Nat.mul_comm, Nat.mul_one, Nat.add_comm]
  rw [this, Nat.pow_succ]
  exact Nat.mul_le_mul hB (by omega)
end
end Go.Proofs.Ytokhapaffleffaa
namespace Go.Proofs.Ytokhapaffleffaa
def amF (am : List Rat) (j : Int) : Rat := if j < 0 then 0 else am.getD j.toNat 0
theorem amF_nat {am : List Rat} {m : Nat} : amF am (m : Int) = am.getD m 0 := by
  unfold amF
  rw [if_neg (by omega), Int.toNat_natCast]
theorem amF_set {am : List Rat} {m : Nat} {v : Rat} (hm : m < am.length) : (fun j => if j = (m : Int) then v else amF am j) = amF (am.set m v) := by
  funext j
  unfold amF
  by_cases h : j = (m : Int)
  · subst h
    rw [if_pos rfl, if_neg (by omega), Int.toNat_natCast, getD_set hm, if_pos rfl]
  · rw [if_neg h]
    by_cases h0 : j < 0
    · rw [if_pos h0, if_pos h0]
    · rw [if_neg h0, if_neg h0, getD_set hm, if_neg (by omega)]
def am0 (n s : Nat) : List Rat := (List.replicate n 0).set s 1
def sh0 (n : Nat) : List Rat := List.replicate n 0
theorem rep_getD {n x : Nat} : (List.replicate n (0 : Rat)).getD x 0 = 0 := by
  rw [List.getD, List.getElem?_replicate]; split <;> rfl
theorem am0_at {n s x : Nat} (hs : s < n) : (am0 n s).getD x 0 = if x = s then 1 else 0 := by
  unfold am0
  rw [getD_set (by simpa using hs)]
  by_cases h : s = x
  · rw [if_pos h, if_pos h.symm]
  · rw [if_neg h, if_neg (fun e => h e.symm), rep_getD]
theorem amF_start {n s : Nat} (hs : s < n) : (fun j => if j = (s : Int) then (1 : Rat) else (fun _ => (0 : Rat)) j) = amF (am0 n s) := by
  funext j
  unfold amF
  by_cases h : j = (s : Int)
  · subst h
    rw [if_pos rfl, if_neg (by omega), Int.toNat_natCast, am0_at hs, if_pos rfl]
  · rw [if_neg h]
    by_cases h0 : j < 0
    · rw [if_pos h0]
    · rw [if_neg h0, am0_at hs, if_neg (by omega)]
section
variable {t : TopD} {down : List Bool} {l : List Int} {d s m j : Nat} {o : List Nat} {am sh : List Rat}
theorem ShrI.start (hs : s < nN t) : ShrI t down l s d [] (am0 (nN t) s) (sh0 (arcsD t)) := by
  refine ⟨by simp [am0], by simp [sh0], fun a => ?_, fun x hx => ?_, fun x => ?_⟩
  · rw [if_neg (fun w => absurd w.2.1 List.not_mem_nil)]; exact rep_getD
  · rw [am0_at hs, sum_zero (f := fun a => (sh0 (arcsD t)).getD a 0) (fun a _ => rep_getD), Rat.add_zero]
  · rw [am0_at hs]; split <;> decide
theorem mem_takeR {x : Nat} : x ∈ (o.take j).reverse ↔ x ∈ o.take j := List.mem_reverse
theorem shr_next (ht : topOk t = true) (ho : IsOrd (nN t) l o) (h : ShrI t down l s d (o.take j).reverse am sh) (hj : o[j]? = some m) {am' sh' : List Rat} (hp : PshI t (am.getD m 0 / (((nxtD t down l m d).length : Nat) : Rat)) am sh (nxtD t down l m d) am' sh') : ShrI t down l s d (o.take (j + 1)).reverse am' sh' := by
  obtain ⟨hjl, e1⟩ := List.getElem?_eq_some_iff.1 hj
  have e2 : o.drop j = m :: o.drop (j + 1) := by rw [List.drop_eq_getElem_cons hjl, e1]
  have e : o = o.take j ++ m :: o.drop (j + 1) := by rw [← e2, List.take_append_drop]
  have hpw := ho.1
  rw [e] at hpw
  obtain ⟨_, h2, h3⟩ := List.pairwise_append.1 hpw
  rw [List.take_succ_eq_append_getElem hjl, List.reverse_append, e1]
  refine h.step ht (fun w => ?_) (fun a ha w => ?_) hp
  · have := h3 m (mem_takeR.1 w) m (List.mem_cons_self ..)
    unfold bfO at this; omega
  · have hq := ord_tails ht ho e a ha
    have := h3 _ (mem_takeR.1 w) _ (List.mem_cons_of_mem _ hq)
    unfold bfO at this; omega
theorem shr_skip (ht : topOk t = true) (ho : IsOrd (nN t) l o) (h : ShrI t down l s d (o.take j).reverse am sh) (hj : o[j]? = some m) (h0 : (nxtD t down l m d).length = 0 ∨ am.getD m 0 = 0) : ShrI t down l s d (o.take (j + 1)).reverse am sh := by
  obtain ⟨hjl, e1⟩ := List.getElem?_eq_some_iff.1 hj
  have e2 : o.drop j = m :: o.drop (j + 1) := by rw [List.drop_eq_getElem_cons hjl, e1]
  have e : o = o.take j ++ m :: o.drop (j + 1) := by rw [← e2, List.take_append_drop]
  have hpw := ho.1
  rw [e] at hpw
  obtain ⟨_, h2, h3⟩ := List.pairwise_append.1 hpw
  refine shr_next ht ho h hj ⟨rfl, rfl, fun x _ => ?_, fun b => ?_⟩
  · rcases h0 with h0 | h0
    · rw [List.eq_nil_of_length_eq_zero h0]; exact (Rat.add_zero _).symm
    · rw [h0, sum_zero (fun a _ => by rw [Rat.div_def, Rat.zero_mul]; split <;> rfl), Rat.add_zero]
  · rcases h0 with h0 | h0
    · rw [List.eq_nil_of_length_eq_zero h0, if_neg List.not_mem_nil]
    · rw [h0, Rat.div_def, Rat.zero_mul]
      split
      · rename_i hb
        rw [h.hs b, if_neg (fun w => ?_)]
        have ht2 := (mem_nxt.1 hb).2.1
        have := h3 m (by rw [ht2] at w; exact mem_takeR.1 w.2.1) m (List.mem_cons_self ..)
        unfold bfO at this; omega
      · rfl
end
end Go.Proofs.Ytokhapaffleffaa
