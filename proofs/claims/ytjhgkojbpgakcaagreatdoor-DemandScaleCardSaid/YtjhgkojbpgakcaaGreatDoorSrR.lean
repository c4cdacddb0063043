/- Families of rows: a row of slices, with the rows that they are; one of them may be taken out. Maps whose keys are integers, in the separation logic: a map is a block with its entries. Rational numbers in the separation logic. Literal rows; numbers in a row that is read; parts of rows that are read. The reference's numbers in the separation logic; rows of rows that are made. -/
import Derived.Test.YtjhgkojbpgakcaaGreatDoorSc
import Derived.MapKept
import Derived.ChangeMaps5
import Derived.Test.YtjhgkojbpgakcaaGreatDoorNrE
import Derived.Test.YtjhgkojbpgakcaaGreatDoorNrF
import Derived.Test.YtjhgkojbpgakcaaGreatDoorRowN
namespace Go.Proofs.YtjhgkojbpgakcaaGreatDoor
open Go.RowKit
def slcK : EK Sl where
  sz := 1
  pos := by decide
  R := fun _ cs s => cs = [.slice s.p s.l s.c]
  len := fun e => by rw [e]; rfl
  one := fun e u hu => by
    subst e
    simp only [List.mem_cons, List.not_mem_nil, or_false] at hu
    subst hu; rfl
  below := fun e _ => e
theorem slcK_free : slcK.Free := fun _ _ _ _ h => h
instance : OwnK slcK := ⟨[], fun h _ _ _ _ _ _ => h, .inl slcK_free⟩
structure FamO {α : Type} (K : EK α) (tt t : TypeId) (k : Nat) (p : Option Addr) (n c : Nat) (ss : List Sl) (xss : List (List α)) (w : World) : Prop where
  out : OwV slcK tt 0 w (.slice p n c) ss
  len : ss.length = xss.length
  row : ∀ j s xs, j ≠ k → ss[j]? = some s → xss[j]? = some xs → OwV K t 0 w (.slice s.p s.l s.c) xs
  ap : ∀ i j s u g, i ≠ j → i ≠ k → j ≠ k → ss[i]? = some s → ss[j]? = some u → ob s.p = some g → ob u.p ≠ some g
  ao : ∀ j s g, j ≠ k → ss[j]? = some s → ob s.p = some g → ob p ≠ some g
theorem FamO.slv {α : Type} {K : EK α} {w : World} {tt t : TypeId} {k : Nat} {p : Option Addr} {n c i : Nat} {ss : List Sl} {xss : List (List α)} {s : Sl} {xs : List α} (h : FamO K tt t k p n c ss xss w) (hi : i ≠ k) (hs : ss[i]? = some s) (hx : xss[i]? = some xs) : SlV K w (.slice s.p s.l s.c) xs := (h.row i s xs hi hs hx).slv
section
variable {α : Type} {K : EK α} [OwnK K] {V w : World} {l : List Ft} {tt t : TypeId} {k m : Nat} {p : Option Addr} {n c i : Nat} {ss : List Sl} {xss : List (List α)} {s : Sl} {xs : List α}
end
section
variable {w : World} {g n c i b : Nat} {t : TypeId}
end
section
variable {α : Type} {K : EK α} [OwnK K] {P : Program} {V : World} {ops : Array Oper} {Q : Act → World → Prop} {f0 fs fs' : List Ft} {ks : List Nat} {o : Oper} {rest : List Oper} {a a' : Act} {tt t : TypeId} {ss : List Sl} {xss : List (List α)}
end
end Go.Proofs.YtjhgkojbpgakcaaGreatDoor
namespace Go.Proofs.YtjhgkojbpgakcaaGreatDoor
open Go.RowKit Go.ChangeMaps
section
variable {P : Program} {M K E : TypeId} {z : Value} {w : World} {R : Nat} {l : List (Int × Value)}
end
section
variable {P : Program} {V : World} {ops : Array Oper} {Q : Act → World → Prop} {f0 fs fs' : List Ft} {n : Nat} {ks : List Nat} {o : Oper} {rest : List Oper} {a a' : Act} {z v : Value} {R : Nat} {l : List (Int × Value)} {M K E : TypeId} {x y u : Operand} {k : Int}
end
end Go.Proofs.YtjhgkojbpgakcaaGreatDoor
namespace Go.Proofs.YtjhgkojbpgakcaaGreatDoor
open Go.RowKit
theorem ratV_cells' {w : World} {a b d : Value} {x : Rat} (h : RatV w (.agg #[a, b, d]) x) : a = .bool (isN x) ∧ (∃ p n c, b = .slice p n c) ∧ ∃ p n c, d = .slice p n c := by
  obtain ⟨p, l, c, q, m, e, e1, _, _⟩ := h
  injection e1 with e1
  have := congrArg Array.toList e1
  simp at this
  exact ⟨this.1, ⟨p, l, c, this.2.1⟩, q, m, e, this.2.2⟩
def ratK : EK Rat where
  sz := 3
  pos := by decide
  R := fun w cs x => ∃ a b d, cs = [a, b, d] ∧ RatV w (.agg #[a, b, d]) x
  len := fun ⟨_, _, _, e, _⟩ => by rw [e]; rfl
  one := fun ⟨a, b, d, e, h⟩ u hu => by
    obtain ⟨rfl, ⟨_, _, _, rfl⟩, _, _, _, rfl⟩ := ratV_cells' h
    subst e
    simp only [List.mem_cons, List.not_mem_nil, or_false] at hu
    rcases hu with rfl | rfl | rfl <;> rfl
  below := fun ⟨a, b, d, e, h⟩ hb => ⟨a, b, d, e, h.below hb⟩
theorem ratK_hd {w : World} {cs : List Value} {x : Rat} {u : Value} (h : ratK.R w cs x) (hu : cs[0]? = some u) : rkV u = 2 := by
  obtain ⟨a, b, c, rfl, h⟩ := h
  obtain ⟨rfl, _⟩ := ratV_cells' h
  cases hu; rfl
instance : OwnK ratK := ⟨[0], fun ⟨a, b, c, e, h⟩ hg w1 h2 h3 w2 h4 => ⟨a, b, c, e, rat_spare h hg w1 h2 h3 w2 h4⟩, .inr ⟨2, rfl, ratK_hd⟩⟩
section
variable {V w : World} {l : List Ft} {m : List (Int × Value)} {F : Int → Rat} {z v : Value} {x : Rat} {k : Int}
end
section
variable {P : Program} {V : World} {ops : Array Oper} {Q : Act → World → Prop} {f0 fs fs' : List Ft} {ks : List Nat} {o : Oper} {rest : List Oper} {a a' : Act}
theorem eWQ {g n c j : Nat} {t : TypeId} {xs : List Rat} {y : Rat} {v0 v1 v2 : Value} (i : Nat) (hj : j < xs.length) (hv : qF (.agg #[v0, v1, v2]) y ∈ fs) (h : Sx P V ops Q f0 ks rest fs' a') (hi : fs[i]? = some (rO ratK t (some ⟨g, 0, none⟩) n c xs) := by rfl) (hf : fs.set i (rO ratK t (some ⟨g, 0, none⟩) n c (xs.set j y)) = fs' := by (simp only [pB, pC]) <;> exact rfl) (hs : f0.Sublist fs' := by exact List.nil_sublist _) (hq : OkL 2 i fs := by repeat (first | exact trivial | (show OkA _ _; assumption) | refine ⟨rfl, ?_⟩)) (hg : Wants ops o a := by first | exact wants0 rfl | exact wantsg rfl rfl rfl rfl)
    (h1 : ∀ w u0 u1 u2, w.cell? ⟨g, j * 3, none⟩ = some u0 → w.cell? ⟨g, j * 3 + 1, none⟩ = some u1 → w.cell? ⟨g, j * 3 + 2, none⟩ = some u2 → (∀ o, w.frozen? ⟨g, o, none⟩ = false) → Does P (fun u w' => u = undef ∧ w' = putAt g (j * 3) [v0, v1, v2] w) ((execOp a.eval o).run P w) := by intro w' u0 u1 u2 c0 c1 c2 f; go_simp; exact ⟨rfl, rfl⟩) (ha : a.put o.dst undef = a' := by (simp only [mkOf, Act.put, pA, pB, pC, pD, pE]) <;> exact rfl) : Sx P V ops Q f0 (4 :: ks) (o :: rest) fs a :=
  sxS (R := g) (f2 := rO ratK t (some ⟨g, 0, none⟩) n c (xs.set j y)) hi rfl (fun _ h => h) (fun w k => qtN (fun R' e => by injection e with e; subst e; exact OwV.hd k (List.ne_nil_of_length_pos (by omega)) (fun {_ _ _ _} h hu => ratK_hd h hu)) hq) (by rw [hf]; exact hs) hg (fun w hw k => by
    obtain ⟨u0, hu0⟩ := OwV.some_cell k hj (j := 0) (by decide)
    obtain ⟨u1, hu1⟩ := OwV.some_cell k hj (j := 1) (by decide)
    obtain ⟨u2, hu2⟩ := OwV.some_cell k hj (j := 2) (by decide)
    refine (h1 w u0 u1 u2 hu0 hu1 hu2 (OwV.fz k)).mono fun u w' ⟨e1, e2⟩ => ?_
    subst e2
    exact ⟨e1, ⟨_, _, rfl⟩, OwV.put k ⟨_, _, _, rfl, hw.q hv⟩ hj _ (Below.refl _ _)⟩) (by rw [hf, ha]; exact h)
end
end Go.Proofs.YtjhgkojbpgakcaaGreatDoor
namespace Go.Proofs.YtjhgkojbpgakcaaGreatDoor
open Go.RowKit
section
variable {w w' V : World} {l : List Ft}
def C3 (w : World) (g o : Nat) (a b d : Value) : Prop := g < w.heap.size ∧ w.cell? ⟨g, o, none⟩ = some a ∧ w.cell? ⟨g, o + 1, none⟩ = some b ∧ w.cell? ⟨g, o + 2, none⟩ = some d
theorem C3.below {g o : Nat} {a b d : Value} (h : C3 w g o a b d) (hb : Below w.heap.size w w') : C3 w' g o a b d :=
  ⟨Nat.lt_of_lt_of_le h.1 hb.size, (hb.cell (p := ⟨g, _, none⟩) h.1).trans h.2.1, (hb.cell (p := ⟨g, _, none⟩) h.1).trans h.2.2.1, (hb.cell (p := ⟨g, _, none⟩) h.1).trans h.2.2.2⟩
theorem SlV.rat {g o n c i : Nat} {sh : List Rat} {x : Rat} (h : SlV ratK w (.slice (some ⟨g, o, none⟩) n c) sh) (hx : sh[i]? = some x) : ∃ a b d, C3 w g (o + i * 3) a b d ∧ RatV w (.agg #[a, b, d]) x := by
  obtain ⟨cs, h1, a, b, d, rfl, h2⟩ := h.at hx
  exact ⟨a, b, d, ⟨h1.1, h1.2 0 _ rfl, h1.2 1 _ rfl, h1.2 2 _ rfl⟩, h2⟩
section
variable {α : Type} {K : EK α} {xs : List α} {g o n c i m : Nat}
theorem SlV.cap (h : SlV K w (.slice (some ⟨g, o, none⟩) n c) xs) (hi : i < n) : n ≤ c ∧ c ≤ 9223372036854775807 := by
  obtain ⟨css, h1, ⟨rfl, p, c', e⟩ | ⟨g', o', c', e, hl, hc1, hc2, ha⟩⟩ := h
  · injection e with _ e2 _; omega
  · injection e with e1 e2 e3; omega
theorem SlV.part (h : SlV K w (.slice (some ⟨g, o, none⟩) n c) xs) (hn : n ≤ c) (hi : i ≤ m) (hm : m ≤ n) : ∃ q : Option Addr, RowKit.Hid ((if c = i then some (⟨g, o, none⟩ : Addr) else some ⟨g, o + i * K.sz, none⟩) = q) ∧ SlV K w (.slice q (m - i) (c - i)) ((xs.take m).drop i) := by
  have hx := h.one0
  have ht := h.take (m := m) (by omega)
  have hl : (xs.take m).length = m := by rw [List.length_take]; omega
  refine ⟨_, hid rfl, ?_⟩
  by_cases e : c = i
  · rw [if_pos e, List.drop_eq_nil_of_le (by omega), show m - i = 0 by omega]
    exact .nil
  · rw [if_neg e]
    have := ht.drop (m := i) (by omega)
    rw [hl] at this
    exact this
theorem SlV.rest (h : SlV K w (.slice (some ⟨g, o, none⟩) n c) xs) (hn : n ≤ c) (hi : i ≤ n) : ∃ q : Option Addr, RowKit.Hid ((if c = i then some (⟨g, o, none⟩ : Addr) else some ⟨g, o + i * K.sz, none⟩) = q) ∧ SlV K w (.slice q (n - i) (c - i)) (xs.drop i) := by
  have := h.part (i := i) (m := n) hn hi (Nat.le_refl n)
  rwa [List.take_of_length_le (Nat.le_of_eq h.one0.symm)] at this
end
end
end Go.Proofs.YtjhgkojbpgakcaaGreatDoor
namespace Go.Proofs.YtjhgkojbpgakcaaGreatDoor
open Go.RowKit
def refK : EK Rat where
  sz := 3
  pos := by decide
  R := fun w cs x => ∃ a b d, cs = [a, b, d] ∧ RefR w (.agg #[a, b, d]) x
  len := fun ⟨_, _, _, e, _⟩ => by rw [e]; rfl
  one := fun ⟨a, b, d, e, h⟩ u hu => by
    obtain ⟨rfl, ⟨_, _, _, rfl⟩, _, _, _, rfl⟩ := refR_cells h
    subst e
    simp only [List.mem_cons, List.not_mem_nil, or_false] at hu
    rcases hu with rfl | rfl | rfl <;> rfl
  below := fun ⟨a, b, d, e, h⟩ hb => ⟨a, b, d, e, h.below hb⟩
theorem refK_hd {w : World} {cs : List Value} {x : Rat} {u : Value} (h : refK.R w cs x) (hu : cs[0]? = some u) : rkV u = 2 := by
  obtain ⟨a, b, c, rfl, h⟩ := h
  obtain ⟨rfl, _⟩ := refR_cells h
  cases hu; rfl
instance : OwnK refK := ⟨[1], fun ⟨a, b, c, e, h⟩ hg w1 h2 h3 w2 h4 => ⟨a, b, c, e, refr_spare h hg w1 h2 h3 w2 h4⟩, .inr ⟨2, rfl, refK_hd⟩⟩
theorem SlV.ref {w : World} {g o n c i : Nat} {sh : List Rat} {x : Rat} (h : SlV refK w (.slice (some ⟨g, o, none⟩) n c) sh) (hx : sh[i]? = some x) : ∃ a b d, C3 w g (o + i * 3) a b d ∧ RefR w (.agg #[a, b, d]) x := by
  obtain ⟨cs, h1, a, b, d, rfl, h3⟩ := h.at hx
  exact ⟨a, b, d, ⟨h1.1, h1.2 0 _ rfl, h1.2 1 _ rfl, h1.2 2 _ rfl⟩, h3⟩
instance : HdK refK := ⟨2, refK_hd⟩
end Go.Proofs.YtjhgkojbpgakcaaGreatDoor
