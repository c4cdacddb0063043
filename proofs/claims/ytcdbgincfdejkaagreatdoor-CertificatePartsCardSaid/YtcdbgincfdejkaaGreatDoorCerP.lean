/- What the laws of certificates take in: small programs, fractions, guesses; what they make of them. -/
import Derived.Test.YtcdbgincfdejkaaGreatDoorCerD
namespace Go.Proofs.YtcdbgincfdejkaaGreatDoor
open Go.RowKit
theorem spB {b R o : Nat} {cs : List Value} {w : World} (h : b ≤ w.heap.size) : ∀ w', Below (putAt R o cs w).heap.size (putAt R o cs w) w' → b ≤ w'.heap.size := fun _ hb => Nat.le_trans h (Nat.le_trans (put_size R cs o w) hb.size)
def i8K : EK Int where
  sz := 1
  pos := by decide
  R := fun _ cs x => cs = [.int .i8 x]
  len := fun e => by rw [e]; rfl
  one := fun e u hu => by
    subst e
    obtain rfl := List.mem_singleton.1 hu
    rfl
  below := fun e _ => e
structure Frc where
  n : Int
  d : Int
def frC (x : Frc) : List Value := [.int .i8 x.n, .int .i8 x.d]
def frK : EK Frc where
  sz := 2
  pos := by decide
  R := fun _ cs x => cs = frC x
  len := fun e => by rw [e]; rfl
  one := fun {_ _ x} e u hu => by
    subst e
    simp only [frC, List.mem_cons, List.not_mem_nil, or_false] at hu
    rcases hu with rfl | rfl <;> rfl
  below := fun e _ => e
section
variable {V w : World} {l : List (World → Prop)} {g o n c k : Nat}
theorem KS.at8 {xs : List Int} {x : Int} (hK : KS V l w) (h : SlV i8K w (.slice (some ⟨g, o, none⟩) n c) xs) (hx : xs[k]? = some x) : KS V (CelAt g (o + k * 1) [.int .i8 x] :: l) w := by
  obtain ⟨cs, h1, rfl⟩ := h.at hx
  exact hK.add fun w' hb => h1.below hb
theorem KS.atF {xs : List Frc} {x : Frc} (hK : KS V l w) (h : SlV frK w (.slice (some ⟨g, o, none⟩) n c) xs) (hx : xs[k]? = some x) : KS V (CelAt g (o + k * 2) [.int .i8 x.n, .int .i8 x.d] :: l) w := by
  obtain ⟨cs, h1, rfl⟩ := h.at hx
  exact hK.add fun w' hb => h1.below hb
end
def Rng8 (z : Int) : Prop := -128 ≤ z ∧ z ≤ 127
structure Frc.Ok (x : Frc) : Prop where
  n : Rng8 x.n
  d : Rng8 x.d
structure Sm where
  c : List Int
  a : List Int
  b : List Int
structure Sm.Ok (s : Sm) : Prop where
  c : ∀ z ∈ s.c, Rng8 z
  a : ∀ z ∈ s.a, Rng8 z
  b : ∀ z ∈ s.b, Rng8 z
  cl : s.c.length ≤ 9223372036854775807
  al : s.a.length ≤ 9223372036854775807
  bl : s.b.length ≤ 9223372036854775807
def SmV (w : World) (v : Value) (s : Sm) : Prop := ∃ a b c : Sl, v = .agg #[.slice a.p s.c.length a.c, .slice b.p s.a.length b.c, .slice c.p s.b.length c.c] ∧ SlV i8K w (.slice a.p s.c.length a.c) s.c ∧ SlV i8K w (.slice b.p s.a.length b.c) s.a ∧ SlV i8K w (.slice c.p s.b.length c.c) s.b
theorem SmV.below {w w' : World} {v : Value} {s : Sm} (h : SmV w v s) (hb : Below w.heap.size w w') : SmV w' v s := by
  obtain ⟨a, b, c, e, h1, h2, h3⟩ := h
  exact ⟨a, b, c, e, h1.below hb, h2.below hb, h3.below hb⟩
def atI (l : List Int) (i : Nat) : Rat := ((l.getD i 0 : Int) : Rat)
def atL (l : List Int) (f k : Nat) : List Rat := (List.range k).map fun i => atI l (f + i)
theorem atL_len (l : List Int) (f k : Nat) : (atL l f k).length = k := by simp [atL]
theorem atL_snoc (l : List Int) (f k : Nat) : atL l f k ++ [atI l (f + k)] = atL l f (k + 1) := by unfold atL; rw [List.range_succ, List.map_append]; rfl
theorem atI_rng {l : List Int} (h : ∀ z ∈ l, Rng8 z) (i : Nat) : Rng8 (l.getD i 0) := by
  cases e : l[i]? with
  | none => rw [List.getD, e]; exact ⟨by decide, by decide⟩
  | some z => rw [getD_of e]; exact h z (List.mem_of_getElem? e)
theorem lm_i8 {z : Int} (h : Rng8 z) : LmQ 2 ((z : Int) : Rat) := by obtain ⟨h1, h2⟩ := h; exact LmQ.int (by omega) (by omega)
theorem atL_lm {l : List Int} (h : ∀ z ∈ l, Rng8 z) (f k : Nat) : LmL 2 (atL l f k) := fun x hx => by
  obtain ⟨i, _, rfl⟩ := List.mem_map.1 hx
  exact lm_i8 (atI_rng h _)
def ofN (s : Sm) : Nat := if s.c.length = 0 then 1 else min s.c.length 4
def ofM (s : Sm) : Nat := min s.b.length 5
theorem ofN_le (s : Sm) : 1 ≤ ofN s ∧ ofN s ≤ 4 := by unfold ofN; split <;> omega
theorem ofM_le (s : Sm) : ofM s ≤ 5 := by unfold ofM; omega
def rowL (s : Sm) (i : Nat) : List Rat := atL s.a (i * ofN s) (ofN s)
def rowsL (s : Sm) (k : Nat) : List (List Rat) := (List.range k).map fun i => rowL s i
theorem rowsL_len (s : Sm) (k : Nat) : (rowsL s k).length = k := by simp [rowsL]
theorem rowsL_snoc (s : Sm) (k : Nat) : rowsL s k ++ [rowL s k] = rowsL s (k + 1) := by unfold rowsL; rw [List.range_succ, List.map_append]; rfl
def ofSm (s : Sm) : LPd := ⟨atL s.c 0 (ofN s), rowsL s (ofM s), atL s.b 0 (ofM s)⟩
theorem ofSm_n (s : Sm) : (ofSm s).c.length = ofN s := atL_len _ _ _
theorem ofSm_m (s : Sm) : (ofSm s).A.length = ofM s := rowsL_len _ _
theorem ofSm_b (s : Sm) : (ofSm s).b.length = ofM s := atL_len _ _ _
theorem ofSm_ok (s : Sm) : (ofSm s).Ok := ⟨by rw [ofSm_b, ofSm_m], fun a ha => by
  obtain ⟨i, _, rfl⟩ := List.mem_map.1 ha
  rw [ofSm_n]; exact atL_len _ _ _⟩
theorem ofSm_lm {s : Sm} (h : s.Ok) (k : Nat) (hk : 2 ≤ k) : LmP k (ofSm s) := by
  have h1 := ofN_le s
  have h2 := ofM_le s
  refine ⟨(atL_lm h.c _ _).up hk, fun r hr => ?_, (atL_lm h.b _ _).up hk, by rw [ofSm_n]; omega, by rw [ofSm_m]; omega⟩
  obtain ⟨i, _, rfl⟩ := List.mem_map.1 hr
  exact (atL_lm h.a _ _).up hk
def frX (x : Frc) : Rat := ((x.n : Int) : Rat) / (((if x.d = 0 then 1 else x.d) : Int) : Rat)
def frL (l : List Frc) : List Rat := l.map frX
theorem frL_len (l : List Frc) : (frL l).length = l.length := List.length_map ..
theorem frX_lm {x : Frc} (h : x.Ok) : LmQ 4 (frX x) := by
  obtain ⟨⟨h1, h2⟩, h3, h4⟩ := h
  exact LmQ.quo (LmQ.int (by omega) (by omega)) (LmQ.int (by split <;> omega) (by split <;> omega))
theorem frL_lm {l : List Frc} (h : ∀ x ∈ l, x.Ok) : LmL 4 (frL l) := fun x hx => by
  obtain ⟨y, hy, rfl⟩ := List.mem_map.1 hx
  exact frX_lm (h y hy)
def frT (l : List Frc) (k : Nat) : List Rat := frL (l.take k)
theorem frT_len {l : List Frc} {k : Nat} (h : k ≤ l.length) : (frT l k).length = k := by unfold frT; rw [frL_len, List.length_take]; omega
theorem frT_snoc {l : List Frc} {k : Nat} {x : Frc} (h : l[k]? = some x) : frT l k ++ [frX x] = frT l (k + 1) := by
  unfold frT frL; rw [List.take_add_one, h, List.map_append]; rfl
theorem frT_all (l : List Frc) : frT l l.length = frL l := by unfold frT; rw [List.take_length]
def preL (l : List Rat) (k : Nat) : List Rat := l.take k
theorem preL_len {l : List Rat} {k : Nat} (h : k ≤ l.length) : (preL l k).length = k := by unfold preL; rw [List.length_take]; omega
theorem preL_snoc {l : List Rat} {k : Nat} {x : Rat} (h : l[k]? = some x) : preL l k ++ [x] = preL l (k + 1) := by unfold preL; rw [List.take_add_one, h]; rfl
theorem preL_all (l : List Rat) : preL l l.length = l := List.take_length
def preA (l : List (List Rat)) (k : Nat) : List (List Rat) := l.take k
theorem preA_len {l : List (List Rat)} {k : Nat} (h : k ≤ l.length) : (preA l k).length = k := by unfold preA; rw [List.length_take]; omega
theorem preA_snoc {l : List (List Rat)} {k : Nat} {x : List Rat} (h : l[k]? = some x) : preA l k ++ [x] = preA l (k + 1) := by unfold preA; rw [List.take_add_one, h]; rfl
theorem preA_all (l : List (List Rat)) : preA l l.length = l := List.take_length
structure Gs where
  k : Int
  x : List Frc
  y : List Frc
  r : List Frc
  z : Frc
structure Gs.Ok (g : Gs) : Prop where
  k : Rng8 g.k
  x : ∀ e ∈ g.x, e.Ok
  y : ∀ e ∈ g.y, e.Ok
  r : ∀ e ∈ g.r, e.Ok
  z : g.z.Ok
  xl : g.x.length ≤ 9223372036854775807
  yl : g.y.length ≤ 9223372036854775807
  rl : g.r.length ≤ 9223372036854775807
def GsV (w : World) (v : Value) (g : Gs) : Prop := ∃ a b c : Sl, v = .agg #[.int .i8 g.k, .slice a.p g.x.length a.c, .slice b.p g.y.length b.c, .slice c.p g.r.length c.c, .int .i8 g.z.n, .int .i8 g.z.d] ∧ SlV frK w (.slice a.p g.x.length a.c) g.x ∧ SlV frK w (.slice b.p g.y.length b.c) g.y ∧ SlV frK w (.slice c.p g.r.length c.c) g.r
theorem GsV.below {w w' : World} {v : Value} {g : Gs} (h : GsV w v g) (hb : Below w.heap.size w w') : GsV w' v g := by
  obtain ⟨a, b, c, e, h1, h2, h3⟩ := h
  exact ⟨a, b, c, e, h1.below hb, h2.below hb, h3.below hb⟩
section
variable {α : Type} {K : EK α} {w : World} {t : TypeId} {b : Nat} {v : Value} {xs : List α}
theorem OwV.shN (h : OwV K t b w v xs) (hne : xs ≠ []) : ∃ g c, v = .slice (some ⟨g, 0, none⟩) xs.length c ∧ SlV K w (.slice (some ⟨g, 0, none⟩) xs.length c) xs := by
  obtain ⟨p, c, rfl, h1 | ⟨g, rfl, _⟩⟩ := h.sh
  · exact absurd h1.1 hne
  · exact ⟨g, c, rfl, h.slv⟩
end
theorem OwV.apT {α : Type} {K : EK α} {w : World} {t t2 : TypeId} {b b2 n c R : Nat} {p : Option Addr} {xs : List α} {l : Array Value} (h : OwV K t b w (.slice p n c) xs) (h2 : Has b2 R (.cells l t2) w) (ht : t ≠ t2) : ob p ≠ some R := fun e => by
  obtain ⟨css, h1, hl, ⟨e1, h0⟩ | ⟨g, cap, cur, e1, hb, hg, _⟩⟩ := h
  · injection e1 with e1
    subst e1; cases e
  · injection e1 with e1
    subst e1
    have hR : g = R := Option.some.inj e
    subst hR
    rw [h2.2] at hg
    injection hg with hg
    injection hg with _ hg
    exact ht hg.symm
theorem ratK_load {w : World} {g n c : Nat} {xs : List Rat} {x : Rat} (h : SlV ratK w (.slice (some ⟨g, 0, none⟩) n c) xs) (hx : xs[0]? = some x) : ∃ (s : Bool) (y z : Sl), w.cell? ⟨g, 0, none⟩ = some (.bool s) ∧ w.cell? ⟨g, 1, none⟩ = some (.slice y.p y.l y.c) ∧ w.cell? ⟨g, 2, none⟩ = some (.slice z.p z.l z.c) ∧ RatV w (.agg #[.bool s, .slice y.p y.l y.c, .slice z.p z.l z.c]) x := by
  obtain ⟨cs, h1, a, b, d, rfl, h3⟩ := h.at hx
  obtain ⟨rfl, ⟨p, m, e, rfl⟩, p', m', e', rfl⟩ := ratV_cells h3
  exact ⟨_, ⟨p, m, e⟩, ⟨p', m', e'⟩, by simpa using h1.2 0 _ rfl, by simpa [ratK, ekQ] using h1.2 1 _ rfl, by simpa [ratK, ekQ] using h1.2 2 _ rfl, h3⟩
end Go.Proofs.YtcdbgincfdejkaaGreatDoor
