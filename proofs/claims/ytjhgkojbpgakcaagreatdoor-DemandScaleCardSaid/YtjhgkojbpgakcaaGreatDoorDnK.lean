/- Steps of the separation logic that the walks of numbers need: reads of known cells, of numbers out of rows, appends to rows of numbers. -/
import Derived.Test.YtjhgkojbpgakcaaGreatDoorRatR0
import Derived.Test.YtjhgkojbpgakcaaGreatDoorSrR
namespace Go.Proofs.YtjhgkojbpgakcaaGreatDoor
open Go.RowKit
section
variable {P : Program} {V : World} {ops : Array Oper} {Q : Act → World → Prop} {f0 fs fs' : List Ft} {k : Nat} {ks : List Nat} {o : Oper} {rest : List Oper} {a a' : Act} {v : Value}
theorem eRm {F : World → Prop} (hc : ∀ w, SS V fs w → F w) (h1 : ∀ w, F w → Flt v w ((execOp a.eval o).run P w)) (h : Sx P V ops Q f0 ks rest fs a') (hg : Wants ops o a := by first | exact wants0 rfl | exact wantsg rfl rfl rfl rfl) (ha : a.put o.dst v = a' := by (simp only [mkOf, Act.put, pA, pB, pC, pD, pE]) <;> exact rfl) : Sx P V ops Q f0 (1 :: ks) (o :: rest) fs a :=
  sx1 hg (fun w hw => Flt.does ⟨rfl, Below.refl _ _⟩ (h1 w (hc w hw))) (by rw [ha]; exact h)
end
section
variable {P : Program} {V : World} {ops : Array Oper} {Q : Act → World → Prop} {f0 fs fs' : List Ft} {k : Nat} {ks : List Nat} {o : Oper} {rest : List Oper} {a a' : Act} {v : Value}
theorem eRm0 {F : World → Prop} (hc : ∀ w, SS V f0 w → F w) (h1 : ∀ w, F w → Flt v w ((execOp a.eval o).run P w)) (h : Sx P V ops Q f0 ks rest fs a') (hg : Wants ops o a := by first | exact wants0 rfl | exact wantsg rfl rfl rfl rfl) (ha : a.put o.dst v = a' := by (simp only [mkOf, Act.put, pA, pB, pC, pD, pE]) <;> exact rfl) : Sx P V ops Q f0 (0 :: ks) (o :: rest) fs a :=
  sx0 hg (fun w hw => h1 w (hc w hw)) (by rw [ha]; exact h)
end
section
variable {P : Program} {V : World} {ops : Array Oper} {Q : Act → World → Prop} {f0 fs fs' : List Ft} {ks : List Nat} {o : Oper} {rest : List Oper} {a a' : Act} {t : TypeId}
theorem eAppK {α : Type} {K : EK α} [OwnK K] (m0 : Nat) (hd : ∀ {w cs x u}, K.R w cs x → cs[0]? = some u → rkV u = m0) (hno : (OwnK.S (K := K)).contains m0 = false) {q p : Option Addr} {n d m c bytes : Nat} {tt uu u' : TypeId} {xs ys : List α} {z : Value} {s x : Operand} {a2 : Sl → Act} {fs2 : Sl → List Ft} (i : Nat) (he : xs = [] → q = none) (hi : fs[i]? = some (rO K t q n d xs)) (hinf : (P.info? t).map (fun i => (i.zero, i.size, i.bytes)) = some (some z, K.sz, bytes)) (hsrc : ∀ w, SS V fs w → SlV K w (.slice p m c) ys) (h63 : xs.length + ys.length ≤ 1000000000) (h : ∀ y, Sx P V ops Q f0 ks rest (fs2 y) (a2 y)) (hf : ∀ y : Sl, fs.set i (rO K t y.p y.l y.c (xs ++ ys)) = fs2 y := by intro y; (simp only [pB, pC]) <;> exact rfl) (hs : ∀ x, f0.Sublist (fs2 x) := by exact fun _ => List.nil_sublist _) (hq : OkL m0 i fs := by repeat (first | exact trivial | (show OkA _ _; assumption) | refine ⟨rfl, ?_⟩))
    (ho : o.op = .call { callee := .builtin .append, args := #[s, x], argTypes := #[tt, uu] } := by rfl) (ht : P.underlying tt = some (.slice t) := by first | rfl | kernel_rfl) (hu : P.underlying uu = some (.slice u') := by first | rfl | kernel_rfl) (hzs : z.cells.size = K.sz := by rfl) (hbz : bytes ≤ 100000 := by decide) (hes : a.eval s = .slice q n d := by rfl) (hex : a.eval x = .slice p m c := by rfl) (hg : Wants ops o a := by first | exact wants0 rfl | exact wantsg rfl rfl rfl rfl) (ha : ∀ y : Sl, a.put o.dst (.slice y.p y.l y.c) = a2 y := by intro x; (simp only [mkOf, Act.put, pA, pB, pC, pD, pE]) <;> exact rfl) : Sx P V ops Q f0 (5 :: ks) (o :: rest) fs a :=
  sxG (α := Sl) (g := fun y => .slice y.p y.l y.c) (f2 := fun y => rO K t y.p y.l y.c (xs ++ ys)) (b := ob q) hi (fun R h => h) (fun w k => qtN (OwV.hd' k he hd) hq) (fun y => by rw [hf]; exact hs y) hg (fun w hw k => by
    refine (app_doesS (u' := u') ho ht hu hinf hzs hes hex (by simp [maxLen]; omega) (Nat.le_trans (Nat.mul_le_mul h63 hbz) (by decide)) k (fun g hg => .inr ((OwV.hd' k he hd g hg).no hno)) (hsrc w hw)).mono fun u w' ⟨y, e1, e2, e3, e4⟩ => ⟨y, e1, e2, e3, e4⟩) fun y => by rw [hf, ha]; exact h y
end
section
variable {P : Program} {V : World} {ops : Array Oper} {Q : Act → World → Prop} {f0 fs fs' : List Ft} {ks : List Nat} {o : Oper} {rest : List Oper} {a a' : Act} {t : TypeId}
theorem eRq {g n c j : Nat} {xs : List Rat} {q : Rat} {a2 : Duo Sl Sl → Act} (hm : rO ratK t (some ⟨g, 0, none⟩) n c xs ∈ fs) (hx : xs[j]? = some q) (h : ∀ x : Duo Sl Sl, Sx P V ops Q f0 ks rest (qF (.agg #[.bool (isN q), .slice x.a.p x.a.l x.a.c, .slice x.b.p x.b.l x.b.c]) q :: fs) (a2 x)) (hg : Wants ops o a := by first | exact wants0 rfl | exact wantsg rfl rfl rfl rfl)
    (h1 : ∀ w v0 v1 v2, w.cell? ⟨g, j * 3, none⟩ = some v0 → w.cell? ⟨g, j * 3 + 1, none⟩ = some v1 → w.cell? ⟨g, j * 3 + 2, none⟩ = some v2 → Flt (.agg #[v0, v1, v2]) w ((execOp a.eval o).run P w) := by intro w' v0 v1 v2 c0 c1 c2; go_simp; (try go_bits); exact ⟨rfl, rfl⟩) (ha : ∀ x : Duo Sl Sl, a.put o.dst (.agg #[.bool (isN q), .slice x.a.p x.a.l x.a.c, .slice x.b.p x.b.l x.b.c]) = a2 x := by intro x; (simp only [mkOf, Act.put, pA, pB, pC, pD, pE]) <;> exact rfl) : Sx P V ops Q f0 (2 :: ks) (o :: rest) fs a :=
  sx2 (α := Duo Sl Sl) (f := fun x => .agg #[.bool (isN q), .slice x.a.p x.a.l x.a.c, .slice x.b.p x.b.l x.b.c]) (l' := fun x => [qF (.agg #[.bool (isN q), .slice x.a.p x.a.l x.a.c, .slice x.b.p x.b.l x.b.c]) q]) hg (fun w hw => by
    obtain ⟨v0, v1, v2, hc, hr⟩ := (hw.own hm).slv.rat hx
    have hf := h1 w v0 v1 v2 (by have := hc.2.1; rwa [show 0 + j * 3 = j * 3 by omega] at this) (by have := hc.2.2.1; rwa [show 0 + j * 3 = j * 3 by omega] at this) (by have := hc.2.2.2; rwa [show 0 + j * 3 = j * 3 by omega] at this)
    obtain ⟨rfl, ⟨p, l, d, rfl⟩, p', l', d', rfl⟩ := ratV_cells' hr
    exact Flt.does ⟨⟨⟨p, l, d⟩, ⟨p', l', d'⟩⟩, rfl, (SS.start w).fact (qF _ _) hr⟩ hf) fun x => by rw [ha]; exact h x
end
section
variable {P : Program} {V : World} {ops : Array Oper} {Q : Act → World → Prop} {f0 fs fs' : List Ft} {ks : List Nat} {o : Oper} {rest : List Oper} {a a' : Act} {t : TypeId}
theorem eRr {g n c j : Nat} {xs : List Rat} {q : Rat} {a2 : Duo Sl Sl → Act} (hm : rO refK t (some ⟨g, 0, none⟩) n c xs ∈ fs) (hx : xs[j]? = some q) (h : ∀ x : Duo Sl Sl, Sx P V ops Q f0 ks rest (rF (.agg #[.bool (isN q), .slice x.a.p x.a.l x.a.c, .slice x.b.p x.b.l x.b.c]) q :: fs) (a2 x)) (hg : Wants ops o a := by first | exact wants0 rfl | exact wantsg rfl rfl rfl rfl)
    (h1 : ∀ w v0 v1 v2, w.cell? ⟨g, j * 3, none⟩ = some v0 → w.cell? ⟨g, j * 3 + 1, none⟩ = some v1 → w.cell? ⟨g, j * 3 + 2, none⟩ = some v2 → Flt (.agg #[v0, v1, v2]) w ((execOp a.eval o).run P w) := by intro w' v0 v1 v2 c0 c1 c2; go_simp; (try go_bits); exact ⟨rfl, rfl⟩) (ha : ∀ x : Duo Sl Sl, a.put o.dst (.agg #[.bool (isN q), .slice x.a.p x.a.l x.a.c, .slice x.b.p x.b.l x.b.c]) = a2 x := by intro x; (simp only [mkOf, Act.put, pA, pB, pC, pD, pE]) <;> exact rfl) : Sx P V ops Q f0 (2 :: ks) (o :: rest) fs a :=
  sx2 (α := Duo Sl Sl) (f := fun x => .agg #[.bool (isN q), .slice x.a.p x.a.l x.a.c, .slice x.b.p x.b.l x.b.c]) (l' := fun x => [rF (.agg #[.bool (isN q), .slice x.a.p x.a.l x.a.c, .slice x.b.p x.b.l x.b.c]) q]) hg (fun w hw => by
    obtain ⟨v0, v1, v2, hc, hr⟩ := (hw.own hm).slv.ref hx
    have hf := h1 w v0 v1 v2 (by have := hc.2.1; rwa [show 0 + j * 3 = j * 3 by omega] at this) (by have := hc.2.2.1; rwa [show 0 + j * 3 = j * 3 by omega] at this) (by have := hc.2.2.2; rwa [show 0 + j * 3 = j * 3 by omega] at this)
    obtain ⟨rfl, ⟨p, l, d, rfl⟩, p', l', d', rfl⟩ := refR_cells hr
    exact Flt.does ⟨⟨⟨p, l, d⟩, ⟨p', l', d'⟩⟩, rfl, (SS.start w).fact (rF _ _) hr⟩ hf) fun x => by rw [ha]; exact h x
end
section
variable {P : Program} {V : World} {ops : Array Oper} {Q : Act → World → Prop} {f0 fs fs' : List Ft} {ks : List Nat} {o : Oper} {rest : List Oper} {a a' : Act} {t : TypeId}
theorem OwV.has0 {α : Type} {K : EK α} {w : World} {base R : Nat} (h : OwV K t base w (.slice (some ⟨R, 0, none⟩) 0 0) []) : Has base R (.cells #[] t) w := by
  obtain ⟨css, h1, hl, ⟨e, h0⟩ | ⟨g', cap, cur, e, hb, hh, hc1, hc2, hs, ht⟩⟩ := h
  · cases e
  · injection e with e1 e2 e3
    injection e1 with e1
    injection e1 with e1
    subst e1; subst e3
    have hc : cur = #[] := Array.eq_empty_of_size_eq_zero (by rw [hs]; exact Nat.zero_mul _)
    subst hc
    exact ⟨hb, hh⟩
theorem sx0row {α : Type} {K : EK α} [OwnK K] {R : Nat} (h : Sx P V ops Q f0 ks rest (rO K t (some ⟨R, 0, none⟩) 0 0 [] :: fs) a) (hs : f0.Sublist fs) : Sx P V ops Q f0 ks rest (bx R (.cells #[] t) :: fs) a := ⟨fun _ => by
  have e : (⟨Own (bx R (.cells #[] t) :: fs), SS V (bx R (.cells #[] t) :: fs)⟩ : Kl) = ⟨Own (rO K t (some ⟨R, 0, none⟩) 0 0 [] :: fs), SS V (rO K t (some ⟨R, 0, none⟩) 0 0 [] :: fs)⟩ := by
    refine Kl.eq (fun g => ?_) fun w => ⟨fun k => k.repl (OwV.empty (k.box m0)) fun g e => (Option.some.inj e).symm, fun k => k.repl (OwV.has0 (k.own m0)) fun g (e : g = R) => by rw [e]; rfl⟩
    exact ⟨fun ⟨f, hf, hg⟩ => (List.mem_cons.1 hf).elim (fun e => ⟨_, List.mem_cons_self .., by subst e; rw [show g = R from hg]; rfl⟩) fun hf => ⟨f, List.mem_cons_of_mem _ hf, hg⟩, fun ⟨f, hf, hg⟩ => (List.mem_cons.1 hf).elim (fun e => ⟨_, List.mem_cons_self .., by subst e; exact (Option.some.inj hg).symm⟩) fun hf => ⟨f, List.mem_cons_of_mem _ hf, hg⟩⟩
  rw [e]
  exact h.out (hs.cons _)⟩
theorem eA0 {α : Type} {K : EK α} [OwnK K] {a2 : Nat → Act} (h : ∀ R, Sx P V ops Q f0 ks rest (rO K t (some ⟨R, 0, none⟩) 0 0 [] :: fs) (a2 R)) (hs : f0.Sublist fs := by exact List.nil_sublist _) (hg : Wants ops o a := by first | exact wants0 rfl | exact wantsg rfl rfl rfl rfl) (h1 : ∀ w, (execOp a.eval o).run P w = .ok (.value (mkOf o w.heap.size)) (w.alloc (.cells #[] t)) := by intro w'; go_simp; rfl) (ha : ∀ R, a.put o.dst (mkOf o R) = a2 R := by intro R; (simp only [mkOf, Act.put, pA, pB, pC, pD, pE]) <;> exact rfl) : Sx P V ops Q f0 (3 :: ks) (o :: rest) fs a :=
  eA (.cells #[] t) (fun R => sx0row (h R) hs) hg h1 ha
theorem OwV.hd0 {α : Type} {K : EK α} {w : World} {base m n : Nat} {q : Option Addr} (h : OwV K t base w (.slice q n 0) []) : ∀ g, ob q = some g → HdIs g m w := fun g hg => by
  obtain ⟨css, h1, hl, ⟨e, h0⟩ | ⟨g', cap, cur, e, hb, hh, hc1, hc2, hs, ht⟩⟩ := h
  · injection e with e1; rw [e1] at hg; cases hg
  · injection e with e1 e2 e3
    subst e1; subst e3
    obtain rfl : g' = g := Option.some.inj hg
    have hc : cur = #[] := Array.eq_empty_of_size_eq_zero (by rw [hs]; exact Nat.zero_mul _)
    subst hc
    exact hdIs_nil (base := base) ⟨hb, hh⟩
theorem eAppE {α : Type} {K : EK α} [OwnK K] (m0 : Nat) (hno : (OwnK.S (K := K)).contains m0 = false) {q p : Option Addr} {n m c bytes : Nat} {tt uu u' : TypeId} {ys : List α} {z : Value} {s x : Operand} {a2 : Sl → Act} {fs2 : Sl → List Ft} (i : Nat) (hi : fs[i]? = some (rO K t q n 0 [])) (hinf : (P.info? t).map (fun i => (i.zero, i.size, i.bytes)) = some (some z, K.sz, bytes)) (hsrc : ∀ w, SS V fs w → SlV K w (.slice p m c) ys) (h63 : ys.length ≤ 1000000000) (h : ∀ y, Sx P V ops Q f0 ks rest (fs2 y) (a2 y)) (hf : ∀ y : Sl, fs.set i (rO K t y.p y.l y.c ys) = fs2 y := by intro y; (simp only [pB, pC]) <;> exact rfl) (hs : ∀ x, f0.Sublist (fs2 x) := by exact fun _ => List.nil_sublist _) (hq : OkL m0 i fs := by repeat (first | exact trivial | (show OkA _ _; assumption) | refine ⟨rfl, ?_⟩))
    (ho : o.op = .call { callee := .builtin .append, args := #[s, x], argTypes := #[tt, uu] } := by rfl) (ht : P.underlying tt = some (.slice t) := by first | rfl | kernel_rfl) (hu : P.underlying uu = some (.slice u') := by first | rfl | kernel_rfl) (hzs : z.cells.size = K.sz := by rfl) (hbz : bytes ≤ 100000 := by decide) (hes : a.eval s = .slice q n 0 := by rfl) (hex : a.eval x = .slice p m c := by rfl) (hg : Wants ops o a := by first | exact wants0 rfl | exact wantsg rfl rfl rfl rfl) (ha : ∀ y : Sl, a.put o.dst (.slice y.p y.l y.c) = a2 y := by intro x; (simp only [mkOf, Act.put, pA, pB, pC, pD, pE]) <;> exact rfl) : Sx P V ops Q f0 (5 :: ks) (o :: rest) fs a :=
  sxG (α := Sl) (g := fun y => .slice y.p y.l y.c) (f2 := fun y => rO K t y.p y.l y.c ys) (b := ob q) hi (fun R h => h) (fun w k => qtN (OwV.hd0 k) hq) (fun y => by rw [hf]; exact hs y) hg (fun w hw k => by
    refine (app_doesS (u' := u') ho ht hu hinf hzs hes hex (by simp [maxLen]; omega) (Nat.le_trans (Nat.mul_le_mul (show [].length + ys.length ≤ 1000000000 by simpa using h63) hbz) (by decide)) k (fun g hg => .inr ((OwV.hd0 k g hg).no hno)) (hsrc w hw)).mono fun u w' ⟨y, e1, e2, e3, e4⟩ => ⟨y, e1, e2, e3, e4⟩) fun y => by rw [hf, ha]; exact h y
end
def rC (t : TypeId) (g n c : Nat) (xs : List Rat) (j : Nat) (x : Duo Sl Sl) (q : Rat) : Ft :=
  ⟨(rO ratK t (some ⟨g, 0, none⟩) n c xs).own, (rO ratK t (some ⟨g, 0, none⟩) n c xs).ln, fun w => (rO ratK t (some ⟨g, 0, none⟩) n c xs).F w ∧ C3 w g (j * 3) (.bool (isN q)) (.slice x.a.p x.a.l x.a.c) (.slice x.b.p x.b.l x.b.c),
    fun h hg => (rO ratK t (some ⟨g, 0, none⟩) n c xs).lt h.1 hg, fun h hb => ⟨(rO ratK t (some ⟨g, 0, none⟩) n c xs).bel h.1 hb, h.2.below hb⟩, fun {w R} h hn hS w1 h1 h2 w2 h3 => by
      refine ⟨(rO ratK t (some ⟨g, 0, none⟩) n c xs).spa h.1 hn hS w1 h1 h2 w2 h3, ?_⟩
      have hg : w1.heap[g]? = w.heap[g]? := h2 g (fun e => hn (e ▸ rfl)) h.2.1
      have hc : ∀ o, w1.cell? ⟨g, o, none⟩ = w.cell? ⟨g, o, none⟩ := fun o => by unfold World.cell?; rw [hg]
      exact C3.below (w := w1) ⟨Nat.lt_of_lt_of_le h.2.1 h1, (hc _).trans h.2.2.1, (hc _).trans h.2.2.2.1, (hc _).trans h.2.2.2.2⟩ h3⟩
theorem SS.toC {V w : World} {l : List Ft} {t : TypeId} {g n c j : Nat} {xs : List Rat} {q : Rat} (k : SS V (rO ratK t (some ⟨g, 0, none⟩) n c xs :: l) w) (hx : xs[j]? = some q) :
    ∃ x : Duo Sl Sl, SS V (rC t g n c xs j x q :: qF (.agg #[.bool (isN q), .slice x.a.p x.a.l x.a.c, .slice x.b.p x.b.l x.b.c]) q :: l) w := by
  obtain ⟨v0, v1, v2, hc, hr⟩ := (k.own m0).slv.rat hx
  obtain ⟨rfl, ⟨p, a, d, rfl⟩, p', a', d', rfl⟩ := ratV_cells' hr
  rw [Nat.zero_add] at hc
  have k2 := k.fact (qF (.agg #[.bool (isN q), .slice p a d, .slice p' a' d']) q) hr
  have k3 := k2.up1
  refine ⟨⟨⟨p, a, d⟩, ⟨p', a', d'⟩⟩, k3.old, fun f hf => ?_, fun f hf => ?_, ?_⟩
  · rcases List.mem_cons.1 hf with rfl | hf
    · exact ⟨k3.has _ (List.mem_cons_self ..), hc⟩
    · exact k3.has f (List.mem_cons_of_mem _ hf)
  · rcases List.mem_cons.1 hf with rfl | hf
    · exact k3.lo (rO ratK t (some ⟨g, 0, none⟩) n c xs) (List.mem_cons_self ..)
    · exact k3.lo f (List.mem_cons_of_mem _ hf)
  · have h1 := List.pairwise_cons.1 k3.ap
    exact .cons h1.1 h1.2
section
variable {P : Program} {V : World} {ops : Array Oper} {Q : Act → World → Prop} {f0 fs fs' : List Ft} {ks : List Nat} {o : Oper} {rest : List Oper} {a a' : Act}
theorem eWD {g n c j j2 : Nat} {t : TypeId} {xs : List Rat} {x : Duo Sl Sl} {q y : Rat} {v0 v1 v2 : Value} (i : Nat) (hj : j2 < xs.length) (hv : qF (.agg #[v0, v1, v2]) y ∈ fs) (h : Sx P V ops Q f0 ks rest fs' a') (hi : fs[i]? = some (rC t g n c xs j x q) := by rfl) (hf : fs.set i (rO ratK t (some ⟨g, 0, none⟩) n c (xs.set j2 y)) = fs' := by (simp only [pB, pC]) <;> exact rfl) (hs : f0.Sublist fs' := by exact List.nil_sublist _) (hq : OkL 2 i fs := by repeat (first | exact trivial | (show OkA _ _; assumption) | refine ⟨rfl, ?_⟩)) (hg : Wants ops o a := by first | exact wants0 rfl | exact wantsg rfl rfl rfl rfl)
    (h1 : ∀ w u0 u1 u2, w.cell? ⟨g, j2 * 3, none⟩ = some u0 → w.cell? ⟨g, j2 * 3 + 1, none⟩ = some u1 → w.cell? ⟨g, j2 * 3 + 2, none⟩ = some u2 → (∀ o, w.frozen? ⟨g, o, none⟩ = false) → Does P (fun u w' => u = undef ∧ w' = putAt g (j2 * 3) [v0, v1, v2] w) ((execOp a.eval o).run P w) := by intro w' u0 u1 u2 c0 c1 c2 f; go_simp; exact ⟨rfl, rfl⟩) (ha : a.put o.dst undef = a' := by (simp only [mkOf, Act.put, pA, pB, pC, pD, pE]) <;> exact rfl) : Sx P V ops Q f0 (4 :: ks) (o :: rest) fs a :=
  sxS (R := g) (f2 := rO ratK t (some ⟨g, 0, none⟩) n c (xs.set j2 y)) hi rfl (fun _ h => h) (fun w k => qtN (fun R' e => by injection e with e; subst e; exact OwV.hd k.1 (List.ne_nil_of_length_pos (by omega)) (fun {_ _ _ _} h hu => ratK_hd h hu)) hq) (by rw [hf]; exact hs) hg (fun w hw k => by
    obtain ⟨v0', v1', v2', hc, _⟩ := (OwV.slv k.1).rat (List.getElem?_eq_getElem hj)
    rw [Nat.zero_add] at hc
    obtain ⟨_, c0, c1, c2⟩ := hc
    refine (h1 w _ _ _ c0 c1 c2 (OwV.fz k.1)).mono fun u w' ⟨e1, e2⟩ => ?_
    subst e2
    exact ⟨e1, ⟨_, _, rfl⟩, OwV.put k.1 ⟨_, _, _, rfl, hw.q hv⟩ hj _ (Below.refl _ _)⟩) (by rw [hf, ha]; exact h)
end
section
variable {P : Program} {V : World} {ops : Array Oper} {Q : Act → World → Prop} {f0 fs fs' : List Ft} {ks : List Nat} {o : Oper} {rest : List Oper} {a a' : Act} {t : TypeId}
theorem eRqC {g n c j j0 : Nat} {x0 : Duo Sl Sl} {q0 : Rat} {xs : List Rat} {q : Rat} {a2 : Duo Sl Sl → Act} (hm : rC t g n c xs j0 x0 q0 ∈ fs) (hx : xs[j]? = some q) (h : ∀ x : Duo Sl Sl, Sx P V ops Q f0 ks rest (qF (.agg #[.bool (isN q), .slice x.a.p x.a.l x.a.c, .slice x.b.p x.b.l x.b.c]) q :: fs) (a2 x)) (hg : Wants ops o a := by first | exact wants0 rfl | exact wantsg rfl rfl rfl rfl)
    (h1 : ∀ w v0 v1 v2, w.cell? ⟨g, j * 3, none⟩ = some v0 → w.cell? ⟨g, j * 3 + 1, none⟩ = some v1 → w.cell? ⟨g, j * 3 + 2, none⟩ = some v2 → Flt (.agg #[v0, v1, v2]) w ((execOp a.eval o).run P w) := by intro w' v0 v1 v2 c0 c1 c2; go_simp; (try go_bits); exact ⟨rfl, rfl⟩) (ha : ∀ x : Duo Sl Sl, a.put o.dst (.agg #[.bool (isN q), .slice x.a.p x.a.l x.a.c, .slice x.b.p x.b.l x.b.c]) = a2 x := by intro x; (simp only [mkOf, Act.put, pA, pB, pC, pD, pE]) <;> exact rfl) : Sx P V ops Q f0 (2 :: ks) (o :: rest) fs a :=
  sx2 (α := Duo Sl Sl) (f := fun x => .agg #[.bool (isN q), .slice x.a.p x.a.l x.a.c, .slice x.b.p x.b.l x.b.c]) (l' := fun x => [qF (.agg #[.bool (isN q), .slice x.a.p x.a.l x.a.c, .slice x.b.p x.b.l x.b.c]) q]) hg (fun w hw => by
    obtain ⟨v0, v1, v2, hc, hr⟩ := (OwV.slv (hw.get hm).1).rat hx
    have hf := h1 w v0 v1 v2 (by have := hc.2.1; rwa [show 0 + j * 3 = j * 3 by omega] at this) (by have := hc.2.2.1; rwa [show 0 + j * 3 = j * 3 by omega] at this) (by have := hc.2.2.2; rwa [show 0 + j * 3 = j * 3 by omega] at this)
    obtain ⟨rfl, ⟨p, l, d, rfl⟩, p', l', d', rfl⟩ := ratV_cells' hr
    exact Flt.does ⟨⟨⟨p, l, d⟩, ⟨p', l', d'⟩⟩, rfl, (SS.start w).fact (qF _ _) hr⟩ hf) fun x => by rw [ha]; exact h x
end
end Go.Proofs.YtjhgkojbpgakcaaGreatDoor
