/- The reference's numbers: groups of six digits; append of a row of another type; without. The reference: without, carried. The reference: carried, times, Of. The reference: Add, Make. The reference: Make. The reference: Text. -/
import Derived.Laws.AppendOwnNone
import Derived.Laws.IdiomStrings
import Derived.Test.YtokhapaffleffaaMC
namespace Go.Proofs.Ytokhapaffleffaa
open Go.RowKit
section
variable {P : Program}
end
end Go.Proofs.Ytokhapaffleffaa
namespace Go.Proofs.Ytokhapaffleffaa
open Go.RowKit
def B6 : Nat := 1000000
theorem b6 : B6 = 1000000 := rfl
theorem b6_2 : 2 ≤ B6 := by decide
def iCell (x : Nat) : Value := .int .i64 (x : Int)
structure GDig (W : World) (g : Nat) (xs : List Nat) : Prop where
  lt : g < W.heap.size
  at0 : ∀ k (h : k < xs.length), W.cell? ⟨g, k, none⟩ = some (iCell xs[k])
theorem GDig.below {W W' : World} {g : Nat} {xs : List Nat} (h : GDig W g xs) (hb : Below W.heap.size W W') : GDig W' g xs :=
  ⟨Nat.lt_of_lt_of_le h.lt hb.size, fun k hk => (hb.cell (p := ⟨g, k, none⟩) h.lt).trans (h.at0 k hk)⟩
def GV (W : World) (s : Value) (xs : List Nat) : Prop := (xs = [] ∧ ∃ p c, s = .slice p 0 c) ∨ ∃ g c, s = .slice (some ⟨g, 0, none⟩) xs.length c ∧ GDig W g xs ∧ xs.length ≤ c ∧ c ≤ maxLen
theorem GV.below {W W' : World} {s : Value} {xs : List Nat} (h : GV W s xs) (hb : Below W.heap.size W W') : GV W' s xs :=
  h.imp id fun ⟨g, c, e, t, hc⟩ => ⟨g, c, e, t.below hb, hc⟩
theorem GV.slice {W : World} {s : Value} {xs : List Nat} (h : GV W s xs) : ∃ p c, s = .slice p xs.length c ∧ (xs ≠ [] → ∃ g, p = some ⟨g, 0, none⟩ ∧ GDig W g xs ∧ xs.length ≤ c ∧ c ≤ maxLen) := by
  rcases h with ⟨rfl, p, c, rfl⟩ | ⟨g, c, rfl, h1, h2⟩
  · exact ⟨p, c, rfl, fun h => absurd rfl h⟩
  · exact ⟨_, c, rfl, fun _ => ⟨g, rfl, h1, h2⟩⟩
def RowI (W : World) (base : Nat) (v : Value) (xs : List Nat) : Prop := W.ownsRow base 3 1 v xs.length (xs.map iCell)
def RefV (W : World) (v : Value) (n : Nat) : Prop := GV W v (digs B6 n)
theorem RefV.below {W W' : World} {s : Value} {n : Nat} (h : RefV W s n) (hb : Below W.heap.size W W') : RefV W' s n := GV.below h hb
end Go.Proofs.Ytokhapaffleffaa
namespace Go.Proofs.Ytokhapaffleffaa
open Go.RowKit
theorem RowI.nil (W : World) (base : Nat) : RowI W base (.slice none 0 0) [] := ⟨rfl, .inl ⟨rfl, rfl⟩⟩
theorem RowI.below {W W' : World} {base : Nat} {v : Value} {xs : List Nat} (h : RowI W base v xs) (hb : Below W.heap.size W W') : RowI W' base v xs := row_kept_low h hb
theorem RowI.push {W : World} {base n : Nat} {v : Value} {os : List Nat} {x : Nat} (h : W.ownsRow base 3 1 v (n + 1) (os.map iCell ++ [iCell x])) (hn : n = os.length) : RowI W base v (os ++ [x]) := by
  subst hn
  unfold RowI
  rw [List.length_append, List.length_singleton, List.map_append]; exact h
structure CarAt (W0 : World) (xs : List Nat) (v : Value) (i c : Nat) (wr : World) : Prop where
  row : ∃ os, RowI wr W0.heap.size v os ∧ os.length = i ∧ (∀ x ∈ os, x < B6) ∧ val B6 os + B6 ^ i * c = val B6 (xs.take i)
  old : Below W0.heap.size W0 wr
  cb : c ≤ 100000000000000000
  ib : i ≤ xs.length ∨ c * B6 ^ (i - xs.length) ≤ 100000000000000000
  lb : i ≤ xs.length + 3
theorem car_val {xs os : List Nat} {i c x : Nat} (hv : val B6 os + B6 ^ i * c = val B6 (xs.take i)) (ho : os.length = i) (hx : val B6 (xs.take (i + 1)) = val B6 (xs.take i) + B6 ^ i * x) :
    val B6 (os ++ [(c + x) % 1000000]) + B6 ^ (i + 1) * ((c + x) / 1000000) = val B6 (xs.take (i + 1)) := by
  rw [val_snoc, hx, ho, Nat.pow_succ, Nat.mul_assoc]
  generalize B6 ^ i = p at *
  have e2 : p * ((c + x) % 1000000) + p * (B6 * ((c + x) / 1000000)) = p * c + p * x := by
    rw [← Nat.mul_add, b6, Nat.mod_add_div, Nat.mul_add]
  omega
theorem CarAt.step {W0 wr w' : World} {xs os : List Nat} {v v' : Value} {i c x : Nat} (h : CarAt W0 xs v i c wr) (_hr : RowI wr W0.heap.size v os) (ho : os.length = i) (hb : ∀ x ∈ os, x < B6) (hv : val B6 os + B6 ^ i * c = val B6 (xs.take i))
    (hx : val B6 (xs.take (i + 1)) = val B6 (xs.take i) + B6 ^ i * x) (hxb : x ≤ 100000000000000000) (hx0 : xs.length ≤ i → x = 0) (hsh : i ≤ xs.length + 2) (hown : RowI w' W0.heap.size v' (os ++ [(c + x) % 1000000])) (hold : Below W0.heap.size W0 w') :
    CarAt W0 xs v' (i + 1) ((c + x) / 1000000) w' := by
  have hcb := h.cb
  refine ⟨⟨_, hown, by simp [ho], ?_, car_val hv ho hx⟩, hold, by omega, ?_, by omega⟩
  · intro y hy
    rcases List.mem_append.1 hy with h1 | h1
    · exact hb y h1
    · simp only [List.mem_cons, List.not_mem_nil, or_false] at h1; rw [h1, b6]; omega
  · by_cases hi : i < xs.length
    · exact .inl hi
    · refine .inr ?_
      rw [hx0 (by omega), Nat.add_zero]
      rcases h.ib with h1 | h1
      · have : i = xs.length := by omega
        subst this
        rw [show xs.length + 1 - xs.length = 1 by omega, Nat.pow_one, b6]
        omega
      · rw [show i + 1 - xs.length = (i - xs.length) + 1 by omega, Nat.pow_succ, Nat.mul_comm (B6 ^ _), ← Nat.mul_assoc]
        refine Nat.le_trans (Nat.mul_le_mul_right _ ?_) h1
        rw [b6]; omega
end Go.Proofs.Ytokhapaffleffaa
namespace Go.Proofs.Ytokhapaffleffaa
open Go.RowKit
def ArrI (W : World) (D : Nat) (xs : List Nat) : Prop := W.heap[D]? = some (.cells (xs.map iCell).toArray 3 (0, 0))
theorem ArrI.lt {W : World} {D : Nat} {xs : List Nat} (h : ArrI W D xs) : D < W.heap.size := (Array.getElem?_eq_some_iff.1 h).1
theorem ArrI.cell {W : World} {D : Nat} {xs : List Nat} (h : ArrI W D xs) (k : Nat) (hk : k < xs.length) : W.cell? ⟨D, k, none⟩ = some (.int .i64 (xs[k] : Int)) := by
  unfold World.cell?; rw [show W.heap[(⟨D, k, none⟩ : Addr).block]? = _ from h]; simp [hk, iCell]
theorem ArrI.free {W : World} {D : Nat} {xs : List Nat} (h : ArrI W D xs) : ∀ o, W.frozen? ⟨D, o, none⟩ = false := by
  intro o; unfold World.frozen?; rw [show W.heap[(⟨D, o, none⟩ : Addr).block]? = _ from h]; simp
theorem ArrI.below {W W' : World} {D : Nat} {xs : List Nat} (h : ArrI W D xs) (hb : Below W.heap.size W W') : ArrI W' D xs := (hb.block _ h.lt).trans h
theorem ArrI.store {W : World} {D : Nat} {xs : List Nat} (h : ArrI W D xs) (k v : Nat) : ArrI (W.setCell ⟨D, k, none⟩ (.int .i64 (v : Int))) D (xs.set k v) := by
  unfold ArrI
  rw [heap_setCell_at h]
  simp [List.map_set, iCell]
theorem val_set_add {B : Nat} : ∀ (ys : List Nat) (k x : Nat) (h : k < ys.length), val B (ys.set k (ys[k] + x)) = val B ys + B ^ k * x
  | y :: ys, 0, x, _ => by simp only [List.set_cons_zero, val, List.getElem_cons_zero, Nat.pow_zero]; omega
  | y :: ys, k + 1, x, h => by
    simp only [List.set_cons_succ, val, List.getElem_cons_succ, val_set_add ys k x (by simpa using h), Nat.pow_succ]
    rw [Nat.mul_add, Nat.mul_comm (B ^ k) B, Nat.mul_assoc]; omega
structure RAdd (W0 : World) (D L V M : Nat) (xs : List Nat) (k : Nat) (wr : World) : Prop where
  arr : ∃ ys, ArrI wr D ys ∧ ys.length = L ∧ (∀ y ∈ ys, y ≤ M + 1000000 * k) ∧ val B6 ys = V + val B6 (xs.take k)
  old : Below D W0 wr
theorem RAdd.step {W0 wr w' : World} {D L V M : Nat} {xs ys : List Nat} {k x y : Nat} (h : RAdd W0 D L V M xs k wr) (ha : ArrI w' D ys) (hb : Below wr.heap.size wr w') (hyl : ys.length = L) (hym : ∀ y ∈ ys, y ≤ M + 1000000 * k) (hyv : val B6 ys = V + val B6 (xs.take k))
    (hk : k < xs.length) (hL : xs.length ≤ L) (hx : xs[k] = x) (hx1 : x < 1000000) (hy : ys[k]'(by omega) = y) : RAdd W0 D L V M xs (k + 1) (w'.setCell ⟨D, k, none⟩ (.int .i64 ((y + x : Nat) : Int))) := by
  have hD : D ≤ wr.heap.size := by
    obtain ⟨zs, h1, _⟩ := h.arr
    exact Nat.le_of_lt h1.lt
  refine ⟨⟨ys.set k (y + x), ha.store _ _, by simpa using hyl, fun z hz => ?_, ?_⟩, (h.old.trans (hb.mono hD)).setCell (p := ⟨D, k, none⟩) (Nat.le_refl _) _⟩
  · rcases List.mem_or_eq_of_mem_set hz with h1 | h1
    · have := hym z h1; omega
    · have := hym y (hy ▸ List.getElem_mem _); omega
  · rw [← hy, val_set_add ys k x (by omega), hyv, val_take_succ hk, hx]; omega
end Go.Proofs.Ytokhapaffleffaa
namespace Go.Proofs.Ytokhapaffleffaa
open Go.RowKit
def InV (W : World) (s : Value) (ds : List Nat) : Prop := (ds = [] ∧ ∃ p c, s = .slice p 0 c) ∨ ∃ b off c, s = .slice (some ⟨b, off, none⟩) ds.length c ∧ b < W.heap.size ∧ ∀ k (h : k < ds.length), W.cell? ⟨b, off + k, none⟩ = some (.int .u32 (ds[k] : Int))
theorem InV.below {W W' : World} {s : Value} {ds : List Nat} (h : InV W s ds) (hb : Below W.heap.size W W') : InV W' s ds :=
  h.imp id fun ⟨b, o, c, e, h1, h2⟩ => ⟨b, o, c, e, Nat.lt_of_lt_of_le h1 hb.size, fun k hk => (hb.cell (p := ⟨b, o + k, none⟩) h1).trans (h2 k hk)⟩
theorem InV.slice {W : World} {s : Value} {ds : List Nat} (h : InV W s ds) : ∃ p c, s = .slice p ds.length c ∧ (ds ≠ [] → ∃ b off, p = some ⟨b, off, none⟩ ∧ b < W.heap.size ∧ ∀ k (h : k < ds.length), W.cell? ⟨b, off + k, none⟩ = some (.int .u32 (ds[k] : Int))) := by
  rcases h with ⟨rfl, p, c, rfl⟩ | ⟨b, off, c, rfl, h1, h2⟩
  · exact ⟨p, c, rfl, fun h => absurd rfl h⟩
  · exact ⟨_, c, rfl, fun _ => ⟨b, off, rfl, h1, h2⟩⟩
theorem RefV.nil (W : World) (t : TypeId) : RefV (W.alloc (.cells #[] t)) (.slice (some ⟨W.heap.size, 0, none⟩) 0 0) 0 := .inl ⟨digs_zero, _, _, rfl⟩
end Go.Proofs.Ytokhapaffleffaa
namespace Go.Proofs.Ytokhapaffleffaa
open Go.RowKit
open Go.Lib (decDigits)
def decE (n : Nat) : List UInt8 := if n = 0 then [] else decDigits n
theorem decE_step {q : Nat} (h : q ≠ 0) : decE q = decE (q / 10) ++ [chr (q % 10)] := by
  unfold decE
  rw [if_neg h]
  by_cases h1 : q < 10
  · rw [dec_small h1, Nat.div_eq_of_lt h1, if_pos rfl, Nat.mod_eq_of_lt h1]; rfl
  · rw [dec_big h1, if_neg (by omega)]
def Wrote (n q : Nat) (s : ByteArray) : Prop := decE n = decE q ++ s.data.toList
theorem Wrote.size {n q L : Nat} {s : ByteArray} (h : Wrote n q s) (hL : (decE n).length ≤ L) : s.size ≤ L := by
  unfold Wrote at h
  rw [h, List.length_append, str_len] at hL; omega
theorem Wrote.step {n q : Nat} {s : ByteArray} (h : Wrote n q s) (hq : q ≠ 0) : Wrote n (q / 10) (⟨#[chr (q % 10)]⟩ ++ s) := by
  unfold Wrote at h ⊢
  rw [h, decE_step hq, Go.Joins.data_append, List.append_assoc]
end Go.Proofs.Ytokhapaffleffaa
