/- Linear programs in memory: kinds of rows, programs, results. -/
import Derived.Test.YtcdbgincfdejkaaGreatDoorRatR0
import Derived.Test.YtcdbgincfdejkaaGreatDoorRowN
import Derived.Test.YtcdbgincfdejkaaGreatDoorRowOpen
import Derived.Test.YtcdbgincfdejkaaGreatDoorLpG
namespace Go.Proofs.YtcdbgincfdejkaaGreatDoor
open Go.RowKit
instance : HdK ratK := ⟨2, ratK_hd⟩
instance : HdK refK := ⟨2, refK_hd⟩
abbrev rrK : EK (List Rat) := slK ratK
abbrev rfK : EK (List Rat) := slK refK
instance : OwnK (slK ratK) := ⟨[2, 0], fun h hg => slK_spare h hg, .inr ⟨3, rfl, slK_hd⟩⟩
instance : OwnK (slK refK) := ⟨[2, 1], fun h hg => slK_spare h hg, .inr ⟨3, rfl, slK_hd⟩⟩
abbrev rpK (q : Option Addr) : EK (List Rat) := slP refK q
instance {q : Option Addr} : OwnK (slP refK q) := ⟨[2, 1], fun h hg => slP_spare h hg, .inr ⟨3, rfl, slP_hd⟩⟩
theorem infoSQ : (Tryz.prog.info? 46).map (fun i => (i.zero, i.size, i.bytes)) = some (some (.slice none 0 0), 1, 24) := by kernel_rfl
theorem infoSR : (Tryz.prog.info? 33).map (fun i => (i.zero, i.size, i.bytes)) = some (some (.slice none 0 0), 1, 24) := by kernel_rfl
section
variable {w w' : World} {v : Value} {P : LPd} {R : LpRes}
def LpV (w : World) (v : Value) (P : LPd) : Prop := ∃ a b c : Sl, v = .agg #[.slice a.p P.c.length a.c, .slice b.p P.A.length b.c, .slice c.p P.b.length c.c] ∧ SlV ratK w (.slice a.p P.c.length a.c) P.c ∧ SlV rrK w (.slice b.p P.A.length b.c) P.A ∧ SlV ratK w (.slice c.p P.b.length c.c) P.b
theorem LpV.below (h : LpV w v P) (hb : Below w.heap.size w w') : LpV w' v P := by
  obtain ⟨a, b, c, e, h1, h2, h3⟩ := h
  exact ⟨a, b, c, e, h1.below hb, h2.below hb, h3.below hb⟩
theorem LpV.mk {p1 p2 p3 : Option Addr} {n1 n2 n3 c1 c2 c3 : Nat} {x : List Rat} {y : List (List Rat)} {z : List Rat} (h1 : SlV ratK w (.slice p1 n1 c1) x) (h2 : SlV rrK w (.slice p2 n2 c2) y) (h3 : SlV ratK w (.slice p3 n3 c3) z) : LpV w (.agg #[.slice p1 n1 c1, .slice p2 n2 c2, .slice p3 n3 c3]) ⟨x, y, z⟩ := by
  obtain rfl := h1.one0
  obtain rfl := h2.one0
  obtain rfl := h3.one0
  exact ⟨⟨p1, 0, c1⟩, ⟨p2, 0, c2⟩, ⟨p3, 0, c3⟩, rfl, h1, h2, h3⟩
def RpV (w : World) (v : Value) (P : LPd) : Prop := ∃ a b c : Sl, v = .agg #[.slice a.p P.c.length a.c, .slice b.p P.A.length b.c, .slice c.p P.b.length c.c] ∧ SlV refK w (.slice a.p P.c.length a.c) P.c ∧ SlV rfK w (.slice b.p P.A.length b.c) P.A ∧ SlV refK w (.slice c.p P.b.length c.c) P.b
theorem RpV.below (h : RpV w v P) (hb : Below w.heap.size w w') : RpV w' v P := by
  obtain ⟨a, b, c, e, h1, h2, h3⟩ := h
  exact ⟨a, b, c, e, h1.below hb, h2.below hb, h3.below hb⟩
theorem RpV.mk {p1 p2 p3 : Option Addr} {n1 n2 n3 c1 c2 c3 : Nat} {x : List Rat} {y : List (List Rat)} {z : List Rat} (h1 : SlV refK w (.slice p1 n1 c1) x) (h2 : SlV rfK w (.slice p2 n2 c2) y) (h3 : SlV refK w (.slice p3 n3 c3) z) : RpV w (.agg #[.slice p1 n1 c1, .slice p2 n2 c2, .slice p3 n3 c3]) ⟨x, y, z⟩ := by
  obtain rfl := h1.one0
  obtain rfl := h2.one0
  obtain rfl := h3.one0
  exact ⟨⟨p1, 0, c1⟩, ⟨p2, 0, c2⟩, ⟨p3, 0, c3⟩, rfl, h1, h2, h3⟩
def LpO (b0 : Nat) (w : World) (v : Value) (P : LPd) : Prop := ∃ a b c : Sl, v = .agg #[.slice a.p P.c.length a.c, .slice b.p P.A.length b.c, .slice c.p P.b.length c.c] ∧ OwV ratK 55 b0 w (.slice a.p P.c.length a.c) P.c ∧ OwV rrK 46 b0 w (.slice b.p P.A.length b.c) P.A ∧ OwV ratK 55 b0 w (.slice c.p P.b.length c.c) P.b
def RpO (b0 : Nat) (w : World) (v : Value) (P : LPd) : Prop := ∃ a b c : Sl, v = .agg #[.slice a.p P.c.length a.c, .slice b.p P.A.length b.c, .slice c.p P.b.length c.c] ∧ OwV refK 41 b0 w (.slice a.p P.c.length a.c) P.c ∧ OwV rfK 33 b0 w (.slice b.p P.A.length b.c) P.A ∧ OwV refK 41 b0 w (.slice c.p P.b.length c.c) P.b
def LrV (w : World) (v : Value) (R : LpRes) : Prop := ∃ (a b c : Sl) (s : Bool) (d e : Sl), v = .agg #[.int .i64 R.k, .slice a.p R.x.length a.c, .slice b.p R.y.length b.c, .slice c.p R.r.length c.c, .bool s, .slice d.p d.l d.c, .slice e.p e.l e.c] ∧ SlV ratK w (.slice a.p R.x.length a.c) R.x ∧ SlV ratK w (.slice b.p R.y.length b.c) R.y ∧ SlV ratK w (.slice c.p R.r.length c.c) R.r ∧ RatV w (.agg #[.bool s, .slice d.p d.l d.c, .slice e.p e.l e.c]) R.z
theorem LrV.below (h : LrV w v R) (hb : Below w.heap.size w w') : LrV w' v R := by
  obtain ⟨a, b, c, s, d, e, hv, h1, h2, h3, h4⟩ := h
  exact ⟨a, b, c, s, d, e, hv, h1.below hb, h2.below hb, h3.below hb, h4.below hb⟩
theorem LrV.mk {k : Int} {p1 p2 p3 p4 p5 : Option Addr} {n1 n2 n3 n4 n5 c1 c2 c3 c4 c5 : Nat} {s : Bool} {x y r : List Rat} {z : Rat} (h1 : SlV ratK w (.slice p1 n1 c1) x) (h2 : SlV ratK w (.slice p2 n2 c2) y) (h3 : SlV ratK w (.slice p3 n3 c3) r) (h4 : RatV w (.agg #[.bool s, .slice p4 n4 c4, .slice p5 n5 c5]) z) :
    LrV w (.agg #[.int .i64 k, .slice p1 n1 c1, .slice p2 n2 c2, .slice p3 n3 c3, .bool s, .slice p4 n4 c4, .slice p5 n5 c5]) ⟨k, x, y, r, z⟩ := by
  obtain rfl := h1.one0
  obtain rfl := h2.one0
  obtain rfl := h3.one0
  exact ⟨⟨p1, 0, c1⟩, ⟨p2, 0, c2⟩, ⟨p3, 0, c3⟩, s, ⟨p4, n4, c4⟩, ⟨p5, n5, c5⟩, rfl, h1, h2, h3, h4⟩
def RrV (w : World) (v : Value) (R : LpRes) : Prop := ∃ (a b c : Sl) (s : Bool) (d e : Sl), v = .agg #[.int .i64 R.k, .slice a.p R.x.length a.c, .slice b.p R.y.length b.c, .slice c.p R.r.length c.c, .bool s, .slice d.p d.l d.c, .slice e.p e.l e.c] ∧ SlV refK w (.slice a.p R.x.length a.c) R.x ∧ SlV refK w (.slice b.p R.y.length b.c) R.y ∧ SlV refK w (.slice c.p R.r.length c.c) R.r ∧ RefR w (.agg #[.bool s, .slice d.p d.l d.c, .slice e.p e.l e.c]) R.z
theorem RrV.below (h : RrV w v R) (hb : Below w.heap.size w w') : RrV w' v R := by
  obtain ⟨a, b, c, s, d, e, hv, h1, h2, h3, h4⟩ := h
  exact ⟨a, b, c, s, d, e, hv, h1.below hb, h2.below hb, h3.below hb, h4.below hb⟩
theorem RrV.mk {k : Int} {p1 p2 p3 p4 p5 : Option Addr} {n1 n2 n3 n4 n5 c1 c2 c3 c4 c5 : Nat} {s : Bool} {x y r : List Rat} {z : Rat} (h1 : SlV refK w (.slice p1 n1 c1) x) (h2 : SlV refK w (.slice p2 n2 c2) y) (h3 : SlV refK w (.slice p3 n3 c3) r) (h4 : RefR w (.agg #[.bool s, .slice p4 n4 c4, .slice p5 n5 c5]) z) :
    RrV w (.agg #[.int .i64 k, .slice p1 n1 c1, .slice p2 n2 c2, .slice p3 n3 c3, .bool s, .slice p4 n4 c4, .slice p5 n5 c5]) ⟨k, x, y, r, z⟩ := by
  obtain rfl := h1.one0
  obtain rfl := h2.one0
  obtain rfl := h3.one0
  exact ⟨⟨p1, 0, c1⟩, ⟨p2, 0, c2⟩, ⟨p3, 0, c3⟩, s, ⟨p4, n4, c4⟩, ⟨p5, n5, c5⟩, rfl, h1, h2, h3, h4⟩
end
def LmL (k : Nat) (xs : List Rat) : Prop := ∀ x ∈ xs, LmQ k x
structure LmP (k : Nat) (P : LPd) : Prop where
  c : LmL k P.c
  a : ∀ r ∈ P.A, LmL k r
  b : LmL k P.b
  n : P.c.length ≤ 12
  m : P.A.length ≤ 12
theorem LmL.up {k m : Nat} {xs : List Rat} (h : LmL k xs) (hk : k ≤ m) : LmL m xs := fun x hx => (h x hx).up hk
theorem dotQ_lm {k : Nat} : ∀ {xs ys : List Rat}, LmL k xs → LmL k ys → LmQ ((k + k + 1) * xs.length + 1) (dotQ xs ys)
  | [], ys, _, _ => by rw [dotQ_nil]; exact LmQ.zero.up (by omega)
  | x :: xs, [], _, _ => by rw [dotQ_nil']; exact LmQ.zero.up (by omega)
  | x :: xs, y :: ys, h, h' => by
    have i1 := dotQ_lm (xs := xs) (ys := ys) (fun z hz => h z (List.mem_cons_of_mem _ hz)) (fun z hz => h' z (List.mem_cons_of_mem _ hz))
    have i2 := LmQ.mul (h x (List.mem_cons_self ..)) (h' y (List.mem_cons_self ..))
    rw [dotQ]
    exact (LmQ.add i2 i1).up (by rw [List.length_cons, Nat.mul_succ]; omega)
theorem dotQ_take {xs ys : List Rat} {k : Nat} {x y : Rat} (hx : xs[k]? = some x) (hy : ys[k]? = some y) : dotQ (xs.take (k + 1)) (ys.take (k + 1)) = dotQ (xs.take k) (ys.take k) + x * y := by
  have e1 : xs.take (k + 1) = xs.take k ++ [x] := by rw [List.take_add_one, hx]; rfl
  have e2 : ys.take (k + 1) = ys.take k ++ [y] := by rw [List.take_add_one, hy]; rfl
  have h1 := (List.getElem?_eq_some_iff.1 hx).1
  have h2 := (List.getElem?_eq_some_iff.1 hy).1
  rw [e1, e2, dotQ_append _ _ _ _ (by simp; omega)]
  simp only [dotQ]
  grind
end Go.Proofs.YtcdbgincfdejkaaGreatDoor
