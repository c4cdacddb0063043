/- The reference: Cmp. The reference: Parse. The reference: Mul. The reference: Sub. The reference: Uint64, Bits. The reference: fits, DivMod, GCD. Limits of numbers, what their texts are, what a box leaves alone. -/
import Derived.Laws.Strings3
import Derived.Test.YtokhapaffleffaaMD
import Derived.Test.YtokhapaffleffaaME
namespace Go.Proofs.Ytokhapaffleffaa
open Go.RowKit
end Go.Proofs.Ytokhapaffleffaa
namespace Go.Proofs.Ytokhapaffleffaa
open Go.RowKit
open Go.Lib (decDigits)
theorem RefV.zero (W : World) : RefV W (.slice none 0 0) 0 := .inl ⟨digs_zero, _, _, rfl⟩
end Go.Proofs.Ytokhapaffleffaa
namespace Go.Proofs.Ytokhapaffleffaa
open Go.RowKit
def cvL (xs ys : List Nat) (L k i : Nat) : List Nat := (List.range L).map fun t => if t < k then cv xs ys t else if t = k then cv (xs.take i) ys k else 0
theorem cvL_set {xs ys : List Nat} {L k i x : Nat} (hx : x = cv (xs.take (i + 1)) ys k) : (cvL xs ys L k i).set k x = cvL xs ys L k (i + 1) := by
  subst hx
  refine List.ext_getElem (by simp [cvL]) fun t h1 h2 => ?_
  rw [List.getElem_set]
  simp only [cvL, List.getElem_map, List.getElem_range]
  split
  · rename_i h; subst h; simp
  · rename_i h
    have : t ≠ k := fun e => h e.symm
    simp [this]
structure MulR (W0 : World) (D : Nat) (xs ys : List Nat) (L k i : Nat) (wr : World) : Prop where
  arr : ArrI wr D (cvL xs ys L k i)
  old : Below D W0 wr
theorem MulR.step {W0 wr w' : World} {D L : Nat} {xs ys : List Nat} {k i x y z : Nat} (h : MulR W0 D xs ys L k i wr) (hb : Below wr.heap.size wr w') (hz : cv (xs.take i) ys k = z) (hi : i < xs.length) (hx : xs[i] = x) (hy : ys.getD (k - i) 0 = y) (hik : i ≤ k) :
    MulR W0 D xs ys L k (i + 1) (w'.setCell ⟨D, k, none⟩ (.int .i64 ((z + x * y : Nat) : Int))) := by
  refine ⟨?_, (h.old.trans (hb.mono (Nat.le_of_lt h.arr.lt))).setCell (p := ⟨D, k, none⟩) (Nat.le_refl _) _⟩
  have := (h.arr.below hb).store k (z + x * y)
  rwa [cvL_set (by rw [cv_take_succ _ _ _ _ hi hik, hz, hx, hy])] at this
end Go.Proofs.Ytokhapaffleffaa
namespace Go.Proofs.Ytokhapaffleffaa
open Go.RowKit
def zCell (z : Int) : Value := .int .i64 z
def RowZ (W : World) (base : Nat) (v : Value) (zs : List Int) : Prop := W.ownsRow base 3 1 v zs.length (zs.map zCell)
theorem RowZ.slice {W : World} {base : Nat} {v : Value} {zs : List Int} (h : RowZ W base v zs) (hn : zs ≠ []) : ∃ g cap, v = .slice (some ⟨g, 0, none⟩) zs.length cap ∧ base ≤ g := by
  have hk : 0 < zs.length := List.length_pos_iff.2 hn
  obtain ⟨g, cap, rfl, hg, _⟩ := row1_cell h (by simp) (k := 0) (by simpa using hk)
  exact ⟨g, cap, rfl, hg⟩
theorem RowZ.at {W : World} {base g cap n : Nat} {zs : List Int} (h : RowZ W base (.slice (some ⟨g, 0, none⟩) n cap) zs) {k : Nat} (hk : k < zs.length) : W.cell? ⟨g, k, none⟩ = some (.int .i64 zs[k]) := by
  obtain ⟨g', cap', e0, _, hc⟩ := row1_cell h (by simp) (k := k) (by simpa using hk)
  injection e0 with e1
  injection e1 with e1
  injection e1 with e1
  subst e1
  rw [hc, List.getElem_map]; rfl
theorem RowZ.lt {W : World} {base g cap n : Nat} {zs : List Int} (h : RowZ W base (.slice (some ⟨g, 0, none⟩) n cap) zs) : g < W.heap.size := (row1_lt h g rfl).2
theorem RowZ.free {W : World} {base g cap n : Nat} {zs : List Int} (h : RowZ W base (.slice (some ⟨g, 0, none⟩) n cap) zs) (hn : n = zs.length) : ∀ o, W.frozen? ⟨g, o, none⟩ = false := by
  subst hn
  exact row1_free h
theorem RowZ.below {W W' : World} {base : Nat} {v : Value} {zs : List Int} (h : RowZ W base v zs) (hb : Below W.heap.size W W') : RowZ W' base v zs := row_kept_low h hb
theorem RowZ.set {W : World} {base g cap n : Nat} {zs : List Int} (h : RowZ W base (.slice (some ⟨g, 0, none⟩) n cap) zs) (hn : n = zs.length) (k : Nat) (hk : k < zs.length) (z : Int) : RowZ (W.setCell ⟨g, k, none⟩ (.int .i64 z)) base (.slice (some ⟨g, 0, none⟩) n cap) (zs.set k z) := by
  subst hn
  have := row1_set h k (zCell z) hk
  unfold RowZ
  rw [List.length_set, List.map_set]
  exact this
end Go.Proofs.Ytokhapaffleffaa
namespace Go.Proofs.Ytokhapaffleffaa
open Go.RowKit
structure HalfAt (W0 : World) (D L : Nat) (xs : List Nat) (k od : Nat) (wr : World) : Prop where
  arr : ∃ ys, ArrI wr D ys ∧ ys.length = L ∧ (∀ y ∈ ys, y < B6) ∧ val B6 (ys.drop k) * 2 + od = val B6 (xs.drop k)
  old : Below D W0 wr
  o1 : od ≤ 1
theorem HalfAt.step {W0 wr : World} {D L : Nat} {xs : List Nat} {j od x : Nat} (h : HalfAt W0 D L xs (j + 1) od wr) (hL : xs.length = L) (hj : j < xs.length) (hx : xs[j] = x) (hx1 : x < 1000000) :
    HalfAt W0 D L xs j ((od * 1000000 + x) % 2) (wr.setCell ⟨D, j, none⟩ (.int .i64 (((od * 1000000 + x) / 2 : Nat) : Int))) := by
  have ho := h.o1
  obtain ⟨⟨ys, h1, h2, h3, h4⟩, h5, _⟩ := h
  refine ⟨⟨ys.set j ((od * 1000000 + x) / 2), h1.store _ _, by simpa using h2, all_set h3 (by rw [b6]; omega), ?_⟩, h5.setCell (p := ⟨D, j, none⟩) (Nat.le_refl _) _, by omega⟩
  rw [val_drop_set (by omega), val_drop hj, hx, ← h4, b6]
  omega
end Go.Proofs.Ytokhapaffleffaa
namespace Go.Proofs.Ytokhapaffleffaa
open Go.RowKit
end Go.Proofs.Ytokhapaffleffaa
namespace Go.Proofs.Ytokhapaffleffaa
open Go.RowKit
open Go.Lib (decDigits)
def Lim (n : Nat) : Prop := n < B32 ^ 200
theorem Lim.dec {n : Nat} (h : Lim n) : (decDigits n).length ≤ 3601 := dec_len (L := 200) h
theorem GV.box {W : World} {v : Value} {xs : List Nat} {R : Nat} {p : Option Addr} {l c : Nat} {t : TypeId} (h : GV W v xs) (hR : W.heap[R]? = some (.cells #[.slice p l c] t)) (u : Value) : GV (W.setCell ⟨R, 0, none⟩ u) v xs := by
  by_cases hn : xs = []
  · subst hn
    obtain ⟨p, c, rfl, _⟩ := h.slice
    exact .inl ⟨rfl, _, _, rfl⟩
  · refine h.imp id fun ⟨g, c, e, t, hc⟩ => ⟨g, c, e, ⟨by simpa [World.setCell] using t.lt, fun k hk => ?_⟩, hc⟩
    have hne : g ≠ R := fun e => by
      subst e
      have := t.at0 0 (List.length_pos_iff.2 hn)
      rw [cell_box1 hR] at this
      cases this
    rw [← t.at0 k hk]
    exact World.cell?_of_block (w := W) (Below.heap_setCell _ _ _ _ hne)
theorem RefV.box {W : World} {v : Value} {n : Nat} {R : Nat} {p : Option Addr} {l c : Nat} {t : TypeId} (h : RefV W v n) (hR : W.heap[R]? = some (.cells #[.slice p l c] t)) (u : Value) : RefV (W.setCell ⟨R, 0, none⟩ u) v n := GV.box h hR u
theorem KS.box {V w : World} {fs : List (World → Prop)} (h : KS V fs w) (obj : Obj) : KS V (Has 0 w.heap.size obj :: fs) (w.alloc obj) :=
  (h.step ((Below.refl _ _).alloc (Nat.le_refl _) obj)).add fun _ hb => Has.below ⟨Nat.zero_le _, heap_new w obj⟩ hb
theorem Has.lt {base R : Nat} {obj : Obj} {w : World} (h : Has base R obj w) : R < w.heap.size := (Array.getElem?_eq_some_iff.1 h.2).1
theorem Has.cell {base R : Nat} {w : World} {c : Value} {t : TypeId} (h : Has base R (.cells #[c] t) w) : w.cell? ⟨R, 0, none⟩ = some c := cell_box1 h.2
theorem Has.free {base R : Nat} {w : World} {c : Value} {t : TypeId} (h : Has base R (.cells #[c] t) w) : ∀ o, w.frozen? ⟨R, o, none⟩ = false := free_box1 h.2
def Lm (k n : Nat) : Prop := n < B32 ^ k
theorem Lm.add {a b n m : Nat} (h1 : Lm a n) (h2 : Lm b m) : Lm (max a b + 1) (n + m) := by
  unfold Lm at *
  have e1 : B32 ^ a ≤ B32 ^ (max a b) := Nat.pow_le_pow_right (by decide) (by omega)
  have e2 : B32 ^ b ≤ B32 ^ (max a b) := Nat.pow_le_pow_right (by decide) (by omega)
  rw [Nat.pow_succ, b32]
  rw [b32] at h1 h2 e1 e2
  omega
theorem Lm.mul {a b n m : Nat} (h1 : Lm a n) (h2 : Lm b m) : Lm (a + b) (n * m) := by
  unfold Lm at *
  rw [Nat.pow_add]
  exact Nat.mul_lt_mul'' h1 h2
theorem Lm.sub {a n m : Nat} (h1 : Lm a n) : Lm a (n - m) := Nat.lt_of_le_of_lt (Nat.sub_le _ _) h1
def bCell (x : Nat) : Value := .int .u8 (x : Int)
def ArrB (W : World) (D : Nat) (xs : List Nat) : Prop := W.heap[D]? = some (.cells (xs.map bCell).toArray 5 (0, 0))
theorem ArrB.lt {W : World} {D : Nat} {xs : List Nat} (h : ArrB W D xs) : D < W.heap.size := (Array.getElem?_eq_some_iff.1 h).1
theorem ArrB.cell {W : World} {D : Nat} {xs : List Nat} (h : ArrB W D xs) (k : Nat) (hk : k < xs.length) : W.cell? ⟨D, k, none⟩ = some (.int .u8 (xs[k] : Int)) := by
  unfold World.cell?; rw [show W.heap[(⟨D, k, none⟩ : Addr).block]? = _ from h]; simp [hk, bCell]
theorem ArrB.free {W : World} {D : Nat} {xs : List Nat} (h : ArrB W D xs) : ∀ o, W.frozen? ⟨D, o, none⟩ = false := by
  intro o; unfold World.frozen?; rw [show W.heap[(⟨D, o, none⟩ : Addr).block]? = _ from h]; simp
theorem ArrB.below {W W' : World} {D : Nat} {xs : List Nat} (h : ArrB W D xs) (hb : Below W.heap.size W W') : ArrB W' D xs := (hb.block _ h.lt).trans h
theorem ArrB.store {W : World} {D : Nat} {xs : List Nat} (h : ArrB W D xs) (k v : Nat) : ArrB (W.setCell ⟨D, k, none⟩ (.int .u8 (v : Int))) D (xs.set k v) := by
  unfold ArrB
  rw [heap_setCell_at h]
  simp [List.map_set, bCell]
def rem0 (n m : Nat) : Nat := if m = 0 then 0 else n % m
def errD (m : Nat) : Int := if m = 0 then 10 else 0
theorem dm_any (v u : Value) (n m : Nat) (w : World) (hv : NatV w v n) (hu : NatV w u m) (hl : (digs B32 n).length ≤ 100000) (hl2 : (digs B32 m).length ≤ 100000) :
    Calls Try.prog 55 #[v, u] w fun e w' => ∃ x y, e = .returned (.tuple #[x, y, .int .i64 (errD m)]) ∧ NatV w' x (n / m) ∧ NatV w' y (rem0 n m) ∧ Below w.heap.size w w' := by
  unfold rem0 errD
  by_cases h : m = 0
  · subst h
    rw [if_pos rfl, if_pos rfl, Nat.div_zero]
    exact (divmod_zero v u n w hv hu).mono fun e w' ⟨h1, h2⟩ => ⟨_, _, h1, NatV.zero _, NatV.zero _, h2⟩
  · rw [if_neg h, if_neg h]
    exact divmod_any v u n m w hv hu h hl hl2
theorem Lim.le {n m : Nat} (h : Lim m) (hle : n ≤ m) : Lim n := Nat.lt_of_le_of_lt hle h
end Go.Proofs.Ytokhapaffleffaa
