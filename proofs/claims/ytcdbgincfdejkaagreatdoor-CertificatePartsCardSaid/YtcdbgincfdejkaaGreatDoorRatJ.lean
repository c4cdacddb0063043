/- Helpers of the laws of rational numbers: awake, of, is, same. -/
import Derived.Test.YtcdbgincfdejkaaGreatDoorRatI
namespace Go.Proofs.YtcdbgincfdejkaaGreatDoor
open Go.RowKit
open Go.Lib (decDigits)
structure NumS where
  neg : Bool
  ds : List Nat
  es : List Nat
def NumV (W : World) (v : Value) (n : NumS) : Prop := ∃ nv dv, v = .agg #[.bool n.neg, nv, dv] ∧ InV W nv n.ds ∧ InV W dv n.es
theorem NumV.below {W W' : World} {v : Value} {n : NumS} (h : NumV W v n) (hb : Below W.heap.size W W') : NumV W' v n := by
  obtain ⟨nv, dv, rfl, h1, h2⟩ := h
  exact ⟨nv, dv, rfl, h1.below hb, h2.below hb⟩
theorem NumV.sl {W : World} {v : Value} {n : NumS} (h : NumV W v n) : ∃ p c q d, v = .agg #[.bool n.neg, .slice p n.ds.length c, .slice q n.es.length d] ∧ InV W (.slice p n.ds.length c) n.ds ∧ InV W (.slice q n.es.length d) n.es := by
  obtain ⟨nv, dv, rfl, h1, h2⟩ := h
  obtain ⟨p, c, rfl, _⟩ := h1.slice
  obtain ⟨q, d, rfl, _⟩ := h2.slice
  exact ⟨p, c, q, d, rfl, h1, h2⟩
structure NumOk (n : NumS) : Prop where
  d : ∀ d ∈ n.ds, d < B32
  e : ∀ d ∈ n.es, d < B32
  l : n.ds.length ≤ 8
  m : n.es.length ≤ 8
def numX (n : NumS) : Rat := ofS n.neg (val B32 n.ds) (one0 (val B32 n.es))
theorem one0_ne (z : Nat) : one0 z ≠ 0 := by unfold one0; split <;> omega
theorem val_lm {ds : List Nat} {k : Nat} (h : ∀ d ∈ ds, d < B32) (hk : ds.length ≤ k) : Lm k (val B32 ds) := Nat.lt_of_lt_of_le (val_lt b32_2 h) (Nat.pow_le_pow_right (by decide) hk)
theorem one0_lm {k z : Nat} (h : Lm k z) (hk : 1 ≤ k) : Lm k (one0 z) := by
  unfold one0
  split
  · exact Lm.one.up hk
  · exact h
theorem NumOk.lm {n : NumS} (h : NumOk n) : LmQ 8 (numX n) := .ofS _ (val_lm h.d h.l) (one0_lm (val_lm h.e h.m) (by decide)) (one0_ne _)
theorem textQ_short {x : Rat} (h : LmQ 50 x) : (decDigits x.num.natAbs).length ≤ 1000 ∧ (decDigits x.den).length ≤ 1000 := ⟨Nat.le_trans (dec_len h.n) (by decide), Nat.le_trans (dec_len h.d) (by decide)⟩
theorem textQ_len {x : Rat} (h : LmQ 50 x) : (textQ x).length ≤ 2002 := by
  have := textQ_short h
  unfold textQ
  split <;> split <;> simp <;> omega
theorem qparse_back (x : Rat) (w : World) (hB : Bas w) (hx : LmQ 50 x) :
    Calls Tryz.prog 75 #[.string ⟨(textQ x).toArray⟩] w fun e w' => ∃ y0, e = .returned (.tuple #[y0, .int .i64 0]) ∧ RatV w' y0 x ∧ Below w.heap.size w w' := by
  have h := parse_text x (textQ_short hx).1 (textQ_short hx).2
  have c := qparse_q (textQ x) w hB (by have := textQ_len hx; omega)
  rwa [h.1, h.2] at c
end Go.Proofs.YtcdbgincfdejkaaGreatDoor
