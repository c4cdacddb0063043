/- Steps of a walk, shortly told. Families of rows: a row of slices, with the rows that they are; one of them may be taken out. -/
import Derived.Test.YtmcfomainmppdaaGreatDoorFSb
namespace Go.Proofs.YtmcfomainmppdaaGreatDoor
open Go.RowKit
section
variable {P : Program} {V : World} {ops : Array Oper} {Q : Act → World → Prop} {f0 fs fs' : List Ft} {k : Nat} {ks : List Nat} {o : Oper} {rest : List Oper} {a a' : Act} {v v0 : Value} {R : Nat} {cs : Array Value} {t : TypeId} {f : FuncId} {args : Array Value}
theorem e0 (h : Sx P V ops Q f0 ks rest fs a') (hg : Wants ops o a := by first | exact wants0 rfl | exact wantsg rfl rfl rfl rfl) (h1 : ∀ w, SS V f0 w → Flt v w ((execOp a.eval o).run P w) := by intro w' hK; go_simp; (try go_bits); first | exact ⟨rfl, rfl⟩ | (rw [if_pos (by omega)]; exact ⟨rfl, rfl⟩)) (ha : a.put o.dst v = a' := by (simp only [mkOf, Act.put, pA, pB, pC, pD, pE]) <;> exact rfl) : Sx P V ops Q f0 (0 :: ks) (o :: rest) fs a := sx0 hg h1 (by rw [ha]; exact h)
theorem eV (v : Value) (h1 : ∀ w, Flt v w ((execOp a.eval o).run P w)) (h : Sx P V ops Q f0 ks rest fs a') (hg : Wants ops o a := by first | exact wants0 rfl | exact wantsg rfl rfl rfl rfl) (ha : a.put o.dst v = a' := by (simp only [mkOf, Act.put, pA, pB, pC, pD, pE]) <;> exact rfl) : Sx P V ops Q f0 (0 :: ks) (o :: rest) fs a := sx0 hg (fun w _ => h1 w) (by rw [ha]; exact h)
theorem eN {j d : Nat} {p c : Bool} (h : Sx P V ops Q f0 ks rest fs a') (hg : o.guard = some (j, p) := by rfl) (hd : (ops[j]?).bind (·.dst) = some d := by rfl) (hv : slotOf a.tmps.toList d = .bool c := by rfl) (hc : (c == p) = false := by rfl) (ha : a.put o.dst undef = a' := by (simp only [mkOf, Act.put, pA, pB, pC, pD, pE]) <;> exact rfl) : Sx P V ops Q f0 (k :: ks) (o :: rest) fs a := sxN ((wanted_some hg hd hv).trans hc) (by rw [ha]; exact h)
theorem eU {j d : Nat} {p : Bool} (h : Sx P V ops Q f0 ks rest fs a') (hg : o.guard = some (j, p) := by rfl) (hd : (ops[j]?).bind (·.dst) = some d := by rfl) (hv : slotOf a.tmps.toList d = undef := by rfl) (ha : a.put o.dst undef = a' := by (simp only [mkOf, Act.put, pA, pB, pC, pD, pE]) <;> exact rfl) : Sx P V ops Q f0 (k :: ks) (o :: rest) fs a := sxN (wanted_undef hg hd hv) (by rw [ha]; exact h)
theorem eB {a2 : Bool → Act} (e : Bool) (h : ∀ b, RowKit.Hid (e = b) → Sx P V ops Q f0 ks rest fs (a2 b)) (hg : Wants ops o a := by first | exact wants0 rfl | exact wantsg rfl rfl rfl rfl) (h1 : ∀ w, Flt (.bool e) w ((execOp a.eval o).run P w) := by intro w'; go_simp; (try go_bits); exact ⟨by first | rfl | simp, rfl⟩) (ha : ∀ b, a.put o.dst (.bool b) = a2 b := by intro b; (simp only [mkOf, Act.put, pA, pB, pC, pD, pE]) <;> exact rfl) : Sx P V ops Q f0 (0 :: ks) (o :: rest) fs a := sx0 hg (fun w _ => h1 w) (by rw [ha]; exact h e (hid rfl))
theorem eL (hm : bx R (.cells cs t) ∈ fs) (h : Sx P V ops Q f0 ks rest fs a') (hg : Wants ops o a := by first | exact wants0 rfl | exact wantsg rfl rfl rfl rfl) (h1 : ∀ w, Has 0 R (.cells cs t) w → Flt v w ((execOp a.eval o).run P w) := by intro w' k; (first | have ⟨_, _, _⟩ := k.c3 | have ⟨_, _⟩ := k.c2 | have ⟨_, _, _, _⟩ := k.c4 | have ⟨_, _, _, _, _⟩ := k.c5 | have ⟨_, _, _, _, _, _⟩ := k.c6 | have ⟨_, _, _, _, _, _, _⟩ := k.c7 | have ⟨_, _, _, _, _, _, _, _⟩ := k.c8 | have k0 := k.at 0 rfl); go_simp; (try go_bits); exact ⟨rfl, rfl⟩) (ha : a.put o.dst v = a' := by (simp only [mkOf, Act.put, pA, pB, pC, pD, pE]) <;> exact rfl) : Sx P V ops Q f0 (1 :: ks) (o :: rest) fs a :=
  sx1 hg (fun w hw => Flt.does ⟨rfl, Below.refl _ _⟩ (h1 w (hw.get hm))) (by rw [ha]; exact h)
theorem eL0 (hm : bx R (.cells cs t) ∈ f0) (h : Sx P V ops Q f0 ks rest fs a') (hg : Wants ops o a := by first | exact wants0 rfl | exact wantsg rfl rfl rfl rfl) (h1 : ∀ w, Has 0 R (.cells cs t) w → Flt v w ((execOp a.eval o).run P w) := by intro w' k; (first | have ⟨_, _, _⟩ := k.c3 | have ⟨_, _⟩ := k.c2 | have ⟨_, _, _, _⟩ := k.c4 | have ⟨_, _, _, _, _⟩ := k.c5 | have ⟨_, _, _, _, _, _⟩ := k.c6 | have ⟨_, _, _, _, _, _, _⟩ := k.c7 | have ⟨_, _, _, _, _, _, _, _⟩ := k.c8 | have k0 := k.at 0 rfl); go_simp; (try go_bits); exact ⟨rfl, rfl⟩) (ha : a.put o.dst v = a' := by (simp only [mkOf, Act.put, pA, pB, pC, pD, pE]) <;> exact rfl) : Sx P V ops Q f0 (0 :: ks) (o :: rest) fs a :=
  sx0 hg (fun w hw => h1 w (hw.get hm)) (by rw [ha]; exact h)
theorem eR {ad : Addr} {u : Value} (hc : ∀ w, SS V fs w → w.cell? ad = some u) (h : Sx P V ops Q f0 ks rest fs a') (hg : Wants ops o a := by first | exact wants0 rfl | exact wantsg rfl rfl rfl rfl) (h1 : ∀ w, w.cell? ad = some u → Flt v w ((execOp a.eval o).run P w) := by intro w' c; go_simp; (try go_bits); exact ⟨rfl, rfl⟩) (ha : a.put o.dst v = a' := by (simp only [mkOf, Act.put, pA, pB, pC, pD, pE]) <;> exact rfl) : Sx P V ops Q f0 (1 :: ks) (o :: rest) fs a :=
  sx1 hg (fun w hw => Flt.does ⟨rfl, Below.refl _ _⟩ (h1 w (hc w hw))) (by rw [ha]; exact h)
theorem eR0 {ad : Addr} {u : Value} (hc : ∀ w, SS V f0 w → w.cell? ad = some u) (h : Sx P V ops Q f0 ks rest fs a') (hg : Wants ops o a := by first | exact wants0 rfl | exact wantsg rfl rfl rfl rfl) (h1 : ∀ w, w.cell? ad = some u → Flt v w ((execOp a.eval o).run P w) := by intro w' c; go_simp; (try go_bits); exact ⟨rfl, rfl⟩) (ha : a.put o.dst v = a' := by (simp only [mkOf, Act.put, pA, pB, pC, pD, pE]) <;> exact rfl) : Sx P V ops Q f0 (0 :: ks) (o :: rest) fs a :=
  sx0 hg (fun w hw => h1 w (hc w hw)) (by rw [ha]; exact h)
theorem eQ (con : ∀ w, SS V fs w → Calls P f args w (fun e w1 => e = .returned v0 ∧ Below w.heap.size w w1)) (h : Sx P V ops Q f0 ks rest fs a') (hv : v0 = v := by rfl) (ho : ∀ w X, Calls P f args w (fun e w5 => ∃ v, e = .returned v ∧ X v w5) → Does P X ((execOp a.eval o).run P w) := by intro w' X hc; go_simp; (try go_bits); exact hc) (hg : Wants ops o a := by first | exact wants0 rfl | exact wantsg rfl rfl rfl rfl) (ha : a.put o.dst v = a' := by (simp only [mkOf, Act.put, pA, pB, pC, pD, pE]) <;> exact rfl) : Sx P V ops Q f0 (1 :: ks) (o :: rest) fs a :=
  sx1 hg (fun w hw => ho w _ ((con w hw).mono fun e w5 ⟨he, hb⟩ => by subst he; exact ⟨_, rfl, hv, hb⟩)) (by rw [ha]; exact h)
theorem eC {α : Type} [Nonempty α] {g : α → Value} {l' fs2 : α → List Ft} {a2 : α → Act} (con : ∀ w, SS V fs w → Calls P f args w (fun e w1 => ∃ x, e = .returned (g x) ∧ SS w (l' x) w1)) (h : ∀ x, Sx P V ops Q f0 ks rest (fs2 x) (a2 x)) (ho : ∀ w X, Calls P f args w (fun e w5 => ∃ v, e = .returned v ∧ X v w5) → Does P X ((execOp a.eval o).run P w) := by intro w' X hc; go_simp; (try go_bits); exact hc) (hg : Wants ops o a := by first | exact wants0 rfl | exact wantsg rfl rfl rfl rfl) (ha : ∀ x, a.put o.dst (g x) = a2 x := by intro x; (simp only [mkOf, Act.put, pA, pB, pC, pD, pE]) <;> exact rfl) (hf : ∀ x, l' x ++ fs = fs2 x := by intro x; (simp only [pD, pE]) <;> exact rfl) : Sx P V ops Q f0 (2 :: ks) (o :: rest) fs a :=
  sx2 hg (fun w hw => ho w _ ((con w hw).mono fun e w5 ⟨x, he, hb⟩ => by subst he; exact ⟨_, rfl, x, rfl, hb⟩)) (fun x => by rw [ha, hf]; exact h x)
theorem eA {a2 : Nat → Act} (obj : Obj) (h : ∀ R, Sx P V ops Q f0 ks rest (bx R obj :: fs) (a2 R)) (hg : Wants ops o a := by first | exact wants0 rfl | exact wantsg rfl rfl rfl rfl) (h1 : ∀ w, (execOp a.eval o).run P w = .ok (.value (mkOf o w.heap.size)) (w.alloc obj) := by intro w'; go_simp; rfl) (ha : ∀ R, a.put o.dst (mkOf o R) = a2 R := by intro R; (simp only [mkOf, Act.put, pA, pB, pC, pD, pE]) <;> exact rfl) : Sx P V ops Q f0 (3 :: ks) (o :: rest) fs a := sx3 (f := mkOf o) obj hg h1 fun R => by rw [ha]; exact h R
theorem eM {α : Type} [Nonempty α] {g : α → Value} {fs2 : α → List Ft} {a2 : α → Act} (con : ∀ w, SS V fs w → Calls P f args w (fun e w1 => ∃ x, e = .returned (g x) ∧ SS V (fs2 x) w1)) (h : ∀ x, Sx P V ops Q f0 ks rest (fs2 x) (a2 x)) (hs : ∀ x, f0.Sublist (fs2 x) := by exact fun _ => List.nil_sublist _) (ho : ∀ w X, Calls P f args w (fun e w5 => ∃ v, e = .returned v ∧ X v w5) → Does P X ((execOp a.eval o).run P w) := by intro w' X hc; go_simp; (try go_bits); exact hc) (hg : Wants ops o a := by first | exact wants0 rfl | exact wantsg rfl rfl rfl rfl) (ha : ∀ x, a.put o.dst (g x) = a2 x := by intro x; (simp only [mkOf, Act.put, pA, pB, pC, pD, pE]) <;> exact rfl) : Sx P V ops Q f0 (4 :: ks) (o :: rest) fs a :=
  sx4 hg hs (fun w hw => ho w _ ((con w hw).mono fun e w5 ⟨x, he, h3⟩ => by subst he; exact ⟨_, rfl, x, rfl, h3⟩)) (fun x => by rw [ha]; exact h x)
theorem sxS {i R : Nat} {f1 f2 : Ft} (hi : fs[i]? = some f1) (hR : f1.own R) (ho : ∀ g, f2.own g → f1.own g) (hq : ∀ w, f1.F w → Qt (some R) w i fs) (hs : f0.Sublist (fs.set i f2)) (hg : Wants ops o a) (h1 : ∀ w, SS V fs w → f1.F w → Does P (fun u w' => u = undef ∧ (∃ o' cs, w' = putAt R o' cs w) ∧ f2.F w') ((execOp a.eval o).run P w)) (h : Sx P V ops Q f0 ks rest (fs.set i f2) (a.put o.dst undef)) : Sx P V ops Q f0 (4 :: ks) (o :: rest) fs a :=
  sx4 (α := Unit) (f := fun _ => undef) (l' := fun _ => fs.set i f2) hg (fun _ => hs) (fun w hw => (h1 w hw (hw.get (List.mem_of_getElem? hi))).mono fun u w' ⟨e1, ⟨o', cs, e2⟩, e3⟩ => ⟨(), e1, by
    subst e2
    exact hw.turn hi (put_grown ..) (fun R' e => by injection e with e; subst e; exact hR) (hq w (hw.get (List.mem_of_getElem? hi))) e3 fun g hg => .inl (ho g hg)⟩) fun _ => h
theorem eP {c : Value} {l : List Value} (i o' : Nat) (cs : List Value) (h : Sx P V ops Q f0 ks rest fs' a') (hi : fs[i]? = some (bx R (.cells (c :: l).toArray t)) := by rfl) (hf : fs.set i (bx R (.cells (setL (c :: l) o' cs).toArray t)) = fs' := by (simp only [setL, pB, pC]) <;> exact rfl) (hs : f0.Sublist fs' := by exact List.nil_sublist _) (hq : OzL i fs ∨ OkL (rkV c) i fs := by first | (refine .inl ?_; (repeat (first | exact trivial | (show OzA _; assumption) | refine ⟨rfl, ?_⟩)) <;> fail) | (refine .inr ?_; (repeat (first | exact trivial | (show OkA _ _; assumption) | refine ⟨rfl, ?_⟩)) <;> fail)) (hg : Wants ops o a := by first | exact wants0 rfl | exact wantsg rfl rfl rfl rfl)
    (h1 : ∀ w, Has 0 R (.cells (c :: l).toArray t) w → Does P (fun u w' => u = undef ∧ w' = putAt R o' cs w) ((execOp a.eval o).run P w) := by intro w' k; (first | have ⟨_, _, _⟩ := k.c3 | have ⟨_, _⟩ := k.c2 | have ⟨_, _, _, _⟩ := k.c4 | have ⟨_, _, _, _, _⟩ := k.c5 | have ⟨_, _, _, _, _, _⟩ := k.c6 | have ⟨_, _, _, _, _, _, _⟩ := k.c7 | have ⟨_, _, _, _, _, _, _, _⟩ := k.c8 | have k0 := k.at 0 rfl); have f := k.fz; go_simp; exact ⟨rfl, rfl⟩) (ha : a.put o.dst undef = a' := by (simp only [mkOf, Act.put, pA, pB, pC, pD, pE]) <;> exact rfl) : Sx P V ops Q f0 (4 :: ks) (o :: rest) fs a :=
  sxS (f2 := bx R (.cells (setL (c :: l) o' cs).toArray t)) hi rfl (fun _ h => h) (fun w k => hq.elim qtZ fun hk => qtN (fun R' e => by injection e with e; subst e; exact hdIs_of (base := 0) k) hk) (by rw [hf]; exact hs) hg (fun w _ k => (h1 w k).mono fun u w' ⟨e1, e2⟩ => by subst e2; exact ⟨e1, ⟨_, _, rfl⟩, has_put k o' cs (Below.refl _ _)⟩) (by rw [hf, ha]; exact h)
theorem eWI {g n c j : Nat} {xs : List Int} {y : Int} (i : Nat) (hj : j < xs.length) (h : Sx P V ops Q f0 ks rest fs' a') (hi : fs[i]? = some (rO intK t (some ⟨g, 0, none⟩) n c xs) := by rfl) (hf : fs.set i (rO intK t (some ⟨g, 0, none⟩) n c (xs.set j y)) = fs' := by (simp only [pB, pC]) <;> exact rfl) (hs : f0.Sublist fs' := by exact List.nil_sublist _) (hq : OzL i fs ∨ OkL 1 i fs := by first | (refine .inl ?_; (repeat (first | exact trivial | (show OzA _; assumption) | refine ⟨rfl, ?_⟩)) <;> fail) | (refine .inr ?_; (repeat (first | exact trivial | (show OkA _ _; assumption) | refine ⟨rfl, ?_⟩)) <;> fail)) (hg : Wants ops o a := by first | exact wants0 rfl | exact wantsg rfl rfl rfl rfl)
    (h1 : ∀ w u, w.cell? ⟨g, j, none⟩ = some u → (∀ o, w.frozen? ⟨g, o, none⟩ = false) → Does P (fun u w' => u = undef ∧ w' = w.setCell ⟨g, j, none⟩ (.int .i64 y)) ((execOp a.eval o).run P w) := by intro w' u c f; go_simp; exact ⟨rfl, rfl⟩) (ha : a.put o.dst undef = a' := by (simp only [mkOf, Act.put, pA, pB, pC, pD, pE]) <;> exact rfl) : Sx P V ops Q f0 (4 :: ks) (o :: rest) fs a :=
  sxS (R := g) (f2 := rO intK t (some ⟨g, 0, none⟩) n c (xs.set j y)) hi rfl (fun _ h => h) (fun w k => hq.elim qtZ fun hk => qtN (fun R' e => by injection e with e; subst e; exact OwV.hd k (List.ne_nil_of_length_pos (by omega)) (fun {_ _ _ _} h hu => by cases h; cases hu; rfl)) hk) (by rw [hf]; exact hs) hg (fun w _ k => by
    obtain ⟨u, hu⟩ := OwV.some_cell k hj (j := 0) (by decide)
    refine (h1 w u (by have : j * intK.sz + 0 = j := by show j * 1 + 0 = j; omega
                       rwa [this] at hu) (OwV.fz k)).mono fun u w' ⟨e1, e2⟩ => ?_
    have e3 : w' = putAt g (j * intK.sz) [.int .i64 y] w := by rw [show j * intK.sz = j by show j * 1 = j; omega]; exact e2
    subst e3
    exact ⟨e1, ⟨_, _, rfl⟩, OwV.put k rfl hj _ (Below.refl _ _)⟩) (by rw [hf, ha]; exact h)
theorem frN_grown {w w' : World} {b : Option Nat} {l : List Ft} (hg : w.grownBy w' b) (hb : ∀ R, b = some R → Own l R) : FrN (Own l) w w' := fun R hR hn => hg.block R hR fun e => hn (hb R e.symm)
theorem sxG {α : Type} [Nonempty α] {i : Nat} {f1 : Ft} {g : α → Value} {f2 : α → Ft} {b : Option Nat} (hi : fs[i]? = some f1) (hR : ∀ R, b = some R → f1.own R) (hq : ∀ w, f1.F w → Qt b w i fs) (hs : ∀ x, f0.Sublist (fs.set i (f2 x))) (hg : Wants ops o a) (h1 : ∀ w, SS V fs w → f1.F w → Does P (fun u w' => ∃ x, u = g x ∧ w.grownBy w' b ∧ (∀ g, (f2 x).own g → f1.own g ∨ w.heap.size ≤ g) ∧ (f2 x).F w') ((execOp a.eval o).run P w)) (h : ∀ x, Sx P V ops Q f0 ks rest (fs.set i (f2 x)) (a.put o.dst (g x))) : Sx P V ops Q f0 (5 :: ks) (o :: rest) fs a :=
  sx5 (l' := fun x => fs.set i (f2 x)) hg hs (fun w hw => by
    have hm := List.mem_of_getElem? hi
    refine (h1 w hw (hw.get hm)).mono fun u w' ⟨x, e1, e2, e3, e4⟩ => ⟨x, e1, frN_grown e2 fun R e => ⟨f1, hm, hR R e⟩, fun g ⟨f, hf, hg⟩ => ?_, hw.turn hi e2 hR (hq w (hw.get hm)) e4 e3⟩
    rcases List.mem_or_eq_of_mem_set hf with hf | rfl
    · exact .inl ⟨f, hf, hg⟩
    · exact (e3 g hg).imp (fun h => ⟨f1, hm, h⟩) id) h
theorem app_doesS {α : Type} {K : EK α} [OwnK K] {q p : Option Addr} {n d m c bytes : Nat} {tt uu u' : TypeId} {xs ys : List α} {z : Value} {w : World} {s x : Operand} (ho : o.op = .call { callee := .builtin .append, args := #[s, x], argTypes := #[tt, uu] }) (ht : P.underlying tt = some (.slice t)) (hu : P.underlying uu = some (.slice u')) (hinf : (P.info? t).map (fun i => (i.zero, i.size, i.bytes)) = some (some z, K.sz, bytes)) (hzs : z.cells.size = K.sz)
    (hs : a.eval s = .slice q n d) (hx : a.eval x = .slice p m c) (h63 : xs.length + ys.length ≤ maxLen) (hbytes : (xs.length + ys.length) * bytes ≤ 140737488355328) (how : OwV K t 0 w (.slice q n d) xs) (hok : ∀ g, ob q = some g → K.Free ∨ NoHd K.S g w) (hsrc : SlV K w (.slice p m c) ys) :
    Does P (fun u w' => ∃ y : Sl, u = .slice y.p y.l y.c ∧ w.grownBy w' (ob q) ∧ (∀ g, ob y.p = some g → ob q = some g ∨ w.heap.size ≤ g) ∧ OwV K t 0 w' (.slice y.p y.l y.c) (xs ++ ys)) ((execOp a.eval o).run P w) :=
  (app_does ho ht hu hinf hzs hs hx h63 hbytes (Nat.zero_le _) ⟨how, hok, hsrc⟩).mono fun u w' ⟨c1, c2, c3⟩ => by
    obtain ⟨r, e, rfl, _⟩ := c1.sh
    rw [ob_eq] at c3
    exact ⟨⟨r, _, e⟩, rfl, c2, fun g hg => c3.elim (fun h => .inl (h ▸ hg)) fun h => .inr (by rw [h] at hg; injection hg with hg; omega), c1⟩
theorem eApp {α : Type} {K : EK α} [OwnK K] {q p : Option Addr} {n d m c bytes : Nat} {tt uu u' : TypeId} {xs ys : List α} {z : Value} {s x : Operand} {a2 : Sl → Act} {fs2 : Sl → List Ft} (i : Nat) (hK : K.Free) (hi : fs[i]? = some (rO K t q n d xs)) (hinf : (P.info? t).map (fun i => (i.zero, i.size, i.bytes)) = some (some z, K.sz, bytes)) (hsrc : ∀ w, SS V fs w → SlV K w (.slice p m c) ys) (h63 : xs.length + ys.length ≤ 1000000000) (h : ∀ y, Sx P V ops Q f0 ks rest (fs2 y) (a2 y)) (hf : ∀ y : Sl, fs.set i (rO K t y.p y.l y.c (xs ++ ys)) = fs2 y := by intro y; (simp only [pB, pC]) <;> exact rfl) (hs : ∀ x, f0.Sublist (fs2 x) := by exact fun _ => List.nil_sublist _) (hq : OzL i fs := by repeat (first | exact trivial | (show OzA _; assumption) | refine ⟨rfl, ?_⟩))
    (ho : o.op = .call { callee := .builtin .append, args := #[s, x], argTypes := #[tt, uu] } := by rfl) (ht : P.underlying tt = some (.slice t) := by first | rfl | kernel_rfl) (hu : P.underlying uu = some (.slice u') := by first | rfl | kernel_rfl) (hzs : z.cells.size = K.sz := by rfl) (hbz : bytes ≤ 100000 := by decide) (hes : a.eval s = .slice q n d := by rfl) (hex : a.eval x = .slice p m c := by rfl) (hg : Wants ops o a := by first | exact wants0 rfl | exact wantsg rfl rfl rfl rfl) (ha : ∀ y : Sl, a.put o.dst (.slice y.p y.l y.c) = a2 y := by intro x; (simp only [mkOf, Act.put, pA, pB, pC, pD, pE]) <;> exact rfl) : Sx P V ops Q f0 (5 :: ks) (o :: rest) fs a :=
  sxG (α := Sl) (g := fun y => .slice y.p y.l y.c) (f2 := fun y => rO K t y.p y.l y.c (xs ++ ys)) (b := ob q) hi (fun R h => h) (fun w _ => qtZ hq) (fun y => by rw [hf]; exact hs y) hg (fun w hw k => by
    refine (app_doesS (u' := u') ho ht hu hinf hzs hes hex (by simp [maxLen]; omega) (Nat.le_trans (Nat.mul_le_mul h63 hbz) (by decide)) k (fun _ _ => .inl hK) (hsrc w hw)).mono fun u w' ⟨y, e1, e2, e3, e4⟩ => ⟨y, e1, e2, e3, e4⟩) fun y => by rw [hf, ha]; exact h y
theorem SS.one1 {α : Type} {K : EK α} {V w : World} {cs : List Value} {x : α} {ty : TypeId} (h : SS V fs w) (hm : bx R (.cells cs.toArray ty) ∈ fs) (hr : K.R w cs x) : SlV K w (.slice (some ⟨R, 0, none⟩) 1 1) [x] := .one (h.box hm) hr (Nat.le_refl 1) (by decide)
theorem SS.made {α : Type} {K : EK α} [OwnK K] {V w : World} {x : α} {zs : List Value} {R n : Nat} (h : SS V (bx R (.cells (madeCells zs.toArray (n * K.sz)) t) :: fs) w) (hx : ∀ w : World, K.R w zs x) (hn : n ≤ maxLen) : SS V (rO K t (some ⟨R, 0, none⟩) n n (List.replicate n x) :: fs) w := by
  have hb := h.box (List.mem_cons_self ..)
  have hl : zs.length = K.sz := K.len (hx w)
  refine h.repl (f' := rO K t (some ⟨R, 0, none⟩) n n (List.replicate n x)) ⟨List.replicate n zs, ⟨by simp, fun k cs y c1 c2 => ?_⟩, ?_⟩ fun g e => (Option.some.inj e).symm
  · have e1 := (List.mem_replicate.1 (List.mem_of_getElem? c1)).2
    have e2 := (List.mem_replicate.1 (List.mem_of_getElem? c2)).2
    subst e1; subst e2; exact hx w
  · have e : (madeCells zs.toArray (n * K.sz)).toList = (List.replicate n zs).flatten := by rw [← hl]; exact made_flat zs n (by have := K.pos; omega)
    rw [← e, List.length_replicate]
    refine ⟨by rw [Array.length_toList]; exact size_madeCells _ _, .inr ⟨R, n, _, rfl, Nat.zero_le _, hb.2, Nat.le_refl _, hn, size_madeCells _ _, ?_⟩⟩
    rw [List.take_of_length_le (by rw [Array.length_toList]; exact Nat.le_of_eq (size_madeCells _ _))]
theorem eMk {α : Type} {K : EK α} [OwnK K] {x : α} {zs : List Value} {z : Value} {bytes : Nat} {tt : TypeId} {l1 l2 : Operand} {a2 : Nat → Act} {vi : Int} (n : Nat) (_hx : ∀ w : World, K.R w zs x) (hz : z.cells = zs.toArray) (hinf : (P.info? t).map (fun i => (i.zero, i.size, i.bytes)) = some (some z, K.sz, bytes)) (hn : n * K.sz ≤ 16777216) (hb : bytes ≤ 100000) (h : ∀ g, Sx P V ops Q f0 ks rest (bx g (.cells (madeCells zs.toArray (n * K.sz)) t) :: fs) (a2 g)) (ho : o.op = .makeSlice tt l1 l2 := by rfl) (ht : P.underlying tt = some (.slice t) := by first | rfl | kernel_rfl) (he1 : a.eval l1 = .int .i64 vi := by rfl) (he2 : a.eval l2 = .int .i64 vi := by rfl) (hv : vi = (n : Int) := by rfl) (hg : Wants ops o a := by first | exact wants0 rfl | exact wantsg rfl rfl rfl rfl) (ha : ∀ g : Nat, a.put o.dst (.slice (some ⟨g, 0, none⟩) n n) = a2 g := by intro x; (simp only [mkOf, Act.put, pA, pB, pC, pD, pE]) <;> exact rfl) : Sx P V ops Q f0 (3 :: ks) (o :: rest) fs a :=
  sx3 (f := fun g => .slice (some ⟨g, 0, none⟩) n n) (.cells (madeCells zs.toArray (n * K.sz)) t) hg (fun w => by
    have hn1 : n ≤ 16777216 := Nat.le_trans (Nat.le_mul_of_pos_right n K.pos) hn
    obtain ⟨i0, hi, hz0, hz1, hz2⟩ := info_parts hinf
    subst hz2
    have e1 : i0.bytes * n ≤ 100000 * 16777216 := Nat.mul_le_mul hb hn1
    have e2 : ((i0.bytes * n : Nat) : Int) ≤ 281474976710656 := by omega
    rw [Int.natCast_mul] at e2
    have hr := run_make (P := P) w tt t i0 z ht hi hz0 .i64 .i64 n n (by omega) (Int.le_refl _) e2 (by omega)
    rw [hz, hz1] at hr
    unfold execOp
    simp only [ho, Sem.run_bind, Sem.run_pure, he1, he2, hv, hr, Result.andThen_ok, Int.toNat_natCast]) fun g => by rw [ha]; exact h g
theorem eX0 (hc : ∀ w, SS V f0 w → Has 0 R (.cells cs t) w) (h : Sx P V ops Q f0 ks rest fs a') (hg : Wants ops o a := by first | exact wants0 rfl | exact wantsg rfl rfl rfl rfl) (h1 : ∀ w, Has 0 R (.cells cs t) w → Flt v w ((execOp a.eval o).run P w) := by intro w' k; (first | have ⟨_, _, _⟩ := k.c3 | have ⟨_, _⟩ := k.c2 | have ⟨_, _, _, _⟩ := k.c4 | have ⟨_, _, _, _, _⟩ := k.c5 | have ⟨_, _, _, _, _, _⟩ := k.c6 | have ⟨_, _, _, _, _, _, _⟩ := k.c7 | have ⟨_, _, _, _, _, _, _, _⟩ := k.c8 | have k0 := k.at 0 rfl); go_simp; (try go_bits); exact ⟨rfl, rfl⟩) (ha : a.put o.dst v = a' := by (simp only [mkOf, Act.put, pA, pB, pC, pD, pE]) <;> exact rfl) : Sx P V ops Q f0 (0 :: ks) (o :: rest) fs a :=
  sx0 hg (fun w hw => h1 w (hc w hw)) (by rw [ha]; exact h)
end
section
variable {V w : World} {l l' : List Ft} {F a b c d e f g h : Ft}
theorem sK2 (h : l'.Sublist l) : (F :: l').Sublist (F :: l) := h.cons_cons _
theorem sC2 (h : l'.Sublist l) : l'.Sublist (F :: l) := h.cons _
theorem sZ2 : ([] : List Ft).Sublist [] := .slnil
theorem SS.up1 (k : SS V (a :: b :: l) w) : SS V (b :: a :: l) w := k.perm (.swap _ _ _)
theorem up_cons {l l' : List Ft} (h : l.Perm (F :: l')) : (a :: l).Perm (F :: a :: l') := (h.cons a).trans (.swap _ _ _)
theorem SS.up2 (k : SS V (a :: b :: c :: l) w) : SS V (c :: a :: b :: l) w := k.perm (up_cons (up_cons (.refl _)))
theorem SS.up3 (k : SS V (a :: b :: c :: d :: l) w) : SS V (d :: a :: b :: c :: l) w := k.perm (up_cons (up_cons (up_cons (.refl _))))
theorem SS.up4 (k : SS V (a :: b :: c :: d :: e :: l) w) : SS V (e :: a :: b :: c :: d :: l) w := k.perm (up_cons (up_cons (up_cons (up_cons (.refl _)))))
theorem SS.up5 (k : SS V (a :: b :: c :: d :: e :: f :: l) w) : SS V (f :: a :: b :: c :: d :: e :: l) w := k.perm (up_cons (up_cons (up_cons (up_cons (up_cons (.refl _))))))
theorem SS.up6 (k : SS V (a :: b :: c :: d :: e :: f :: g :: l) w) : SS V (g :: a :: b :: c :: d :: e :: f :: l) w := k.perm (up_cons (up_cons (up_cons (up_cons (up_cons (up_cons (.refl _)))))))
theorem SS.up7 (k : SS V (a :: b :: c :: d :: e :: f :: g :: h :: l) w) : SS V (h :: a :: b :: c :: d :: e :: f :: g :: l) w := k.perm (up_cons (up_cons (up_cons (up_cons (up_cons (up_cons (up_cons (.refl _))))))))
theorem slBox1 {α : Type} {K : EK α} {R : Nat} {cs : List Value} {x : α} {ty : TypeId} (h : Has 0 R (.cells cs.toArray ty) w) (hr : K.R w cs x) : SlV K w (.slice (some ⟨R, 0, none⟩) 1 1) [x] := .one h hr (Nat.le_refl 1) (by decide)
end
end Go.Proofs.YtmcfomainmppdaaGreatDoor
namespace Go.Proofs.YtmcfomainmppdaaGreatDoor
open Go.RowKit
def slcK : EK Sl where
  sz := 1
  pos := by decide
  R := fun _ cs s => cs = [.slice s.p s.l s.c]
  len := fun e => by rw [e]; rfl
  one := fun e u hu => by
    subst e
    simp only [List.mem_cons, List.not_mem_nil, or_false] at hu
    subst hu; rfl
  below := fun e _ => e
theorem slcK_free : slcK.Free := fun _ _ _ _ h => h
instance : OwnK slcK := ⟨[], fun h _ _ _ _ _ _ => h, .inl slcK_free⟩
structure FamO {α : Type} (K : EK α) (tt t : TypeId) (k : Nat) (p : Option Addr) (n c : Nat) (ss : List Sl) (xss : List (List α)) (w : World) : Prop where
  out : OwV slcK tt 0 w (.slice p n c) ss
  len : ss.length = xss.length
  row : ∀ j s xs, j ≠ k → ss[j]? = some s → xss[j]? = some xs → OwV K t 0 w (.slice s.p s.l s.c) xs
  ap : ∀ i j s u g, i ≠ j → i ≠ k → j ≠ k → ss[i]? = some s → ss[j]? = some u → ob s.p = some g → ob u.p ≠ some g
  ao : ∀ j s g, j ≠ k → ss[j]? = some s → ob s.p = some g → ob p ≠ some g
theorem FamO.slv {α : Type} {K : EK α} {w : World} {tt t : TypeId} {k : Nat} {p : Option Addr} {n c i : Nat} {ss : List Sl} {xss : List (List α)} {s : Sl} {xs : List α} (h : FamO K tt t k p n c ss xss w) (hi : i ≠ k) (hs : ss[i]? = some s) (hx : xss[i]? = some xs) : SlV K w (.slice s.p s.l s.c) xs := (h.row i s xs hi hs hx).slv
def fX {α : Type} (K : EK α) [OwnK K] (tt t : TypeId) (k : Nat) (p : Option Addr) (n c : Nat) (ss : List Sl) (xss : List (List α)) : Ft :=
  ⟨fun g => ob p = some g ∨ ∃ j s, j ≠ k ∧ ss[j]? = some s ∧ ob s.p = some g, K.S, FamO K tt t k p n c ss xss, fun h e => e.elim (fun e => (h.out.block e).2) fun ⟨j, s, h1, h2, h3⟩ => by
    have hl := (List.getElem?_eq_some_iff.1 h2).1
    exact ((h.row j s _ h1 h2 (List.getElem?_eq_getElem (h.len ▸ hl))).block h3).2,
  fun h hb => ⟨h.out.below hb, h.len, fun j s xs h1 h2 h3 => (h.row j s xs h1 h2 h3).below hb, h.ap, h.ao⟩,
  fun {w R} h hn hS w1 hs hf w2 hb => ⟨h.out.spare (by rw [ob_eq]; exact fun e => hn (.inl e)) (.inl slcK_free) w1 hs hf w2 hb, h.len, fun j s xs h1 h2 h3 => (h.row j s xs h1 h2 h3).spare (by rw [ob_eq]; exact fun e => hn (.inr ⟨j, s, h1, h2, e⟩)) (.inr hS) w1 hs hf w2 hb, h.ap, h.ao⟩⟩
section
variable {α : Type} {K : EK α} [OwnK K] {V w : World} {l : List Ft} {tt t : TypeId} {k m : Nat} {p : Option Addr} {n c i : Nat} {ss : List Sl} {xss : List (List α)} {s : Sl} {xs : List α}
theorem SS.fam (h : SS V l w) (hm : fX K tt t k p n c ss xss ∈ l) : FamO K tt t k p n c ss xss w := h.get hm
theorem SS.lenF (h : SS V l w) (hm : fX K tt t k p n c ss xss ∈ l) : n = ss.length := (h.fam hm).out.len
theorem SS.ptF (h : SS V l w) (hm : fX K tt t k p n c ss xss ∈ l) (hi : i < n) : ∃ g, p = some ⟨g, 0, none⟩ := by
  obtain ⟨g, o, e⟩ := (h.fam hm).out.slv.pt hi
  obtain rfl := (h.fam hm).out.off e
  exact ⟨g, e⟩
theorem SS.famS (h : SS V (rO slcK tt p n c (List.replicate m ⟨none, 0, 0⟩) :: l) w) (t : TypeId) : SS V (fX K tt t (List.replicate m (⟨none, 0, 0⟩ : Sl)).length p n c (List.replicate m ⟨none, 0, 0⟩) (List.replicate m []) :: l) w := by
  rw [List.length_replicate]
  have hn : ∀ j (s : Sl), (List.replicate m (⟨none, 0, 0⟩ : Sl))[j]? = some s → s = ⟨none, 0, 0⟩ := fun j s e => (List.mem_replicate.1 (List.mem_of_getElem? e)).2
  have hown : ∀ g, (fX K tt t m p n c (List.replicate m ⟨none, 0, 0⟩) (List.replicate m [])).own g → ob p = some g := fun g e => e.elim id fun ⟨j, s, _, h2, h3⟩ => by rw [hn j s h2] at h3; cases h3
  refine ⟨h.old, fun f hf => ?_, fun f hf g hg => ?_, ?_⟩
  · rcases List.mem_cons.1 hf with rfl | hf
    · refine ⟨h.get m0, by simp, fun j s xs _ h2 h3 => ?_, fun i j s u g _ _ _ h1 _ e => ?_, fun j s g _ h1 e => ?_⟩
      · rw [hn j s h2, (List.mem_replicate.1 (List.mem_of_getElem? h3)).2]; exact .nil
      · rw [hn i s h1] at e; cases e
      · rw [hn j s h1] at e; cases e
    · exact h.has f (List.mem_cons_of_mem _ hf)
  · rcases List.mem_cons.1 hf with rfl | hf
    · exact h.lo _ (List.mem_cons_self ..) g (hown g hg)
    · exact h.lo f (List.mem_cons_of_mem _ hf) g hg
  · obtain ⟨h1, h2⟩ := List.pairwise_cons.1 h.ap
    exact .cons (fun f hf g hg => h1 f hf g (hown g hg)) h2
theorem SS.famO (h : SS V (fX K tt t m p n c ss xss :: l) w) (hm : ss.length ≤ m) (hs : ss[k]? = some s) (hx : xss[k]? = some xs) : SS V (fX K tt t k p n c ss xss :: rO K t s.p s.l s.c xs :: l) w := by
  have hk : k ≠ m := fun e => by have := (List.getElem?_eq_some_iff.1 hs).1; omega
  have hF := h.fam m0
  have hlt : ∀ j s, ss[j]? = some s → j ≠ m := fun j s e e2 => by have := (List.getElem?_eq_some_iff.1 e).1; omega
  have hown : ∀ g, (fX K tt t k p n c ss xss).own g → (fX K tt t m p n c ss xss).own g := fun g e => e.imp id fun ⟨j, u, _, h2, h3⟩ => ⟨j, u, hlt j u h2, h2, h3⟩
  have hown2 : ∀ g, ob s.p = some g → (fX K tt t m p n c ss xss).own g := fun g e => .inr ⟨k, s, hk, hs, e⟩
  obtain ⟨h1, h2⟩ := List.pairwise_cons.1 h.ap
  refine ⟨h.old, fun f hf => ?_, fun f hf g hg => ?_, .cons (fun f hf g hg => ?_) (.cons (fun f hf g hg => h1 f hf g (hown2 g hg)) h2)⟩
  · rcases List.mem_cons.1 hf with rfl | hf
    · exact ⟨hF.out, hF.len, fun j u xs _ e1 e2 => hF.row j u xs (hlt j u e1) e1 e2, fun i j u v g e _ _ e1 e2 => hF.ap i j u v g e (hlt i u e1) (hlt j v e2) e1 e2, fun j u g _ e1 => hF.ao j u g (hlt j u e1) e1⟩
    · rcases List.mem_cons.1 hf with rfl | hf
      · exact hF.row k s xs hk hs hx
      · exact h.has f (List.mem_cons_of_mem _ hf)
  · rcases List.mem_cons.1 hf with rfl | hf
    · exact h.lo _ (List.mem_cons_self ..) g (hown g hg)
    · rcases List.mem_cons.1 hf with rfl | hf
      · exact h.lo _ (List.mem_cons_self ..) g (hown2 g hg)
      · exact h.lo f (List.mem_cons_of_mem _ hf) g hg
  · rcases List.mem_cons.1 hf with rfl | hf
    · intro hg2
      have hg2 : ob s.p = some g := hg2
      rcases hg with e | ⟨j, u, e1, e2, e3⟩
      · exact hF.ao k s g hk hs hg2 e
      · exact hF.ap k j s u g (Ne.symm e1) hk (hlt j u e2) hs e2 hg2 e3
    · exact h1 f hf g (hown g hg)
theorem SS.famB (h : SS V (fX K tt t k p n c ss xss :: rO K t s.p s.l s.c xs :: l) w) (hs : ss[k]? = some s) : SS V (fX K tt t ss.length p n c ss (xss.set k xs) :: l) w := by
  obtain ⟨h1, h2⟩ := List.pairwise_cons.1 h.ap
  obtain ⟨h3, h4⟩ := List.pairwise_cons.1 h2
  have hF := h.fam m0
  have hr : OwV K t 0 w (.slice s.p s.l s.c) xs := h.get m1
  have ha := fun g (e : (fX K tt t k p n c ss xss).own g) (e2 : ob s.p = some g) => h1 _ (List.mem_cons_self ..) g e e2
  have hown : ∀ g, (fX K tt t ss.length p n c ss (xss.set k xs)).own g → (fX K tt t k p n c ss xss).own g ∨ ob s.p = some g := fun g e => e.elim (fun e => .inl (.inl e)) fun ⟨j, u, _, e2, e3⟩ => by
    by_cases e : j = k
    · subst e
      rw [hs] at e2
      exact .inr (by rw [Option.some.inj e2]; exact e3)
    · exact .inl (.inr ⟨j, u, e, e2, e3⟩)
  refine ⟨h.old, fun f hf => ?_, fun f hf g hg => ?_, .cons (fun f hf g hg => ?_) h4⟩
  · rcases List.mem_cons.1 hf with rfl | hf
    · refine ⟨hF.out, by rw [List.length_set]; exact hF.len, fun j u ys _ e1 e2 => ?_, fun i j u v g e _ _ e1 e2 e3 e4 => ?_, fun j u g _ e1 e2 e3 => ?_⟩
      · by_cases e : j = k
        · subst e
          rw [hs] at e1
          rw [List.getElem?_set_self (by rw [← hF.len]; exact (List.getElem?_eq_some_iff.1 hs).1)] at e2
          rw [← Option.some.inj e1, ← Option.some.inj e2]; exact hr
        · rw [List.getElem?_set_ne (Ne.symm e)] at e2; exact hF.row j u ys e e1 e2
      · by_cases ei : i = k
        · subst ei
          rw [hs] at e1
          rw [← Option.some.inj e1] at e3
          exact ha g (.inr ⟨j, v, Ne.symm e, e2, e4⟩) e3
        · by_cases ej : j = k
          · subst ej
            rw [hs] at e2
            rw [← Option.some.inj e2] at e4
            exact ha g (.inr ⟨i, u, e, e1, e3⟩) e4
          · exact hF.ap i j u v g e ei ej e1 e2 e3 e4
      · by_cases ej : j = k
        · subst ej
          rw [hs] at e1
          rw [← Option.some.inj e1] at e2
          exact ha g (.inl e3) e2
        · exact hF.ao j u g ej e1 e2 e3
    · exact h.has f (List.mem_cons_of_mem _ (List.mem_cons_of_mem _ hf))
  · rcases List.mem_cons.1 hf with rfl | hf
    · exact (hown g hg).elim (h.lo _ (List.mem_cons_self ..) g) (h.lo _ (List.mem_cons_of_mem _ (List.mem_cons_self ..)) g)
    · exact h.lo f (List.mem_cons_of_mem _ (List.mem_cons_of_mem _ hf)) g hg
  · exact (hown g hg).elim (fun e => h1 f (List.mem_cons_of_mem _ hf) g e) (fun e => h3 f hf g e)
end
section
variable {w : World} {g n c i b : Nat} {t : TypeId}
theorem OwV.slc {ss : List Sl} {s : Sl} (h : OwV slcK t b w (.slice (some ⟨g, 0, none⟩) n c) ss) (hx : ss[i]? = some s) : w.cell? ⟨g, i, none⟩ = some (.slice s.p s.l s.c) := by
  have h1 := h.slv.cel (f := fun s : Sl => [.slice s.p s.l s.c]) (fun e => e) hx 0 rfl
  rwa [show 0 + i * slcK.sz + 0 = i from by show 0 + i * 1 + 0 = _; omega] at h1
end
section
variable {α : Type} {K : EK α} [OwnK K] {P : Program} {V : World} {ops : Array Oper} {Q : Act → World → Prop} {f0 fs fs' : List Ft} {ks : List Nat} {o : Oper} {rest : List Oper} {a a' : Act} {tt t : TypeId} {ss : List Sl} {xss : List (List α)}
theorem eWF {g n c j : Nat} {y : Sl} (i : Nat) (hj : j < ss.length) (h : Sx P V ops Q f0 ks rest fs' a') (hi : fs[i]? = some (fX K tt t j (some ⟨g, 0, none⟩) n c ss xss) := by rfl) (h3 : K.S.contains 3 = false := by rfl) (hf : fs.set i (fX K tt t j (some ⟨g, 0, none⟩) n c (ss.set j y) xss) = fs' := by (simp only [pB, pC]) <;> exact rfl) (hs : f0.Sublist fs' := by exact List.nil_sublist _) (hq : OzL i fs ∨ OkL 3 i fs := by first | (refine .inl ?_; (repeat (first | exact trivial | (show OzA _; assumption) | refine ⟨rfl, ?_⟩)) <;> fail) | (refine .inr ?_; (repeat (first | exact trivial | (show OkA _ _; assumption) | refine ⟨rfl, ?_⟩)) <;> fail)) (hg : Wants ops o a := by first | exact wants0 rfl | exact wantsg rfl rfl rfl rfl)
    (h1 : ∀ w u, w.cell? ⟨g, j, none⟩ = some u → (∀ o, w.frozen? ⟨g, o, none⟩ = false) → Does P (fun u w' => u = undef ∧ w' = w.setCell ⟨g, j, none⟩ (.slice y.p y.l y.c)) ((execOp a.eval o).run P w) := by intro w' u c f; go_simp; exact ⟨rfl, rfl⟩) (ha : a.put o.dst undef = a' := by (simp only [mkOf, Act.put, pA, pB, pC, pD, pE]) <;> exact rfl) : Sx P V ops Q f0 (4 :: ks) (o :: rest) fs a := by
  have hset : ∀ k, k ≠ j → (ss.set j y)[k]? = ss[k]? := fun k hk => List.getElem?_set_ne (Ne.symm hk)
  refine sxS (R := g) (f1 := fX K tt t j (some ⟨g, 0, none⟩) n c ss xss) (f2 := fX K tt t j (some ⟨g, 0, none⟩) n c (ss.set j y) xss) hi (.inl rfl) (fun _ h => h.imp id fun ⟨k, s, e1, e2, e3⟩ => ⟨k, s, e1, by rwa [hset k e1] at e2, e3⟩) (fun w k => hq.elim qtZ fun hk => qtN (fun R' e => by injection e with e; subst e; exact OwV.hd k.out (List.ne_nil_of_length_pos (by omega)) (fun {_ _ _ _} h hu => by cases h; cases hu; rfl)) hk) (by rw [hf]; exact hs) hg (fun w _ k => ?_) (by rw [hf, ha]; exact h)
  have k : FamO K tt t j (some ⟨g, 0, none⟩) n c ss xss w := k
  obtain ⟨u, hu⟩ := OwV.some_cell k.out hj (j := 0) (by decide)
  refine (h1 w u (by have : j * slcK.sz + 0 = j := by show j * 1 + 0 = j; omega
                     rwa [this] at hu) (OwV.fz k.out)).mono fun u w' ⟨e1, e2⟩ => ?_
  have e3 : w' = putAt g (j * slcK.sz) [.slice y.p y.l y.c] w := by rw [show j * slcK.sz = j by show j * 1 = j; omega]; exact e2
  subst e3
  have hsp := OwV.put k.out (show slcK.R w [.slice y.p y.l y.c] y from rfl) hj _ (Below.refl _ _)
  have hnoS : K.Free ∨ NoHd K.S g w := .inr ((OwV.hd k.out (List.ne_nil_of_length_pos (by omega)) (m := 3) (fun {_ _ _ _} h hu => by cases h; cases hu; rfl)).no h3)
  exact ⟨e1, ⟨_, _, rfl⟩, hsp, by rw [List.length_set]; exact k.len, fun i s xs e1 e2 e3 => (k.row i s xs e1 (by rwa [hset i e1] at e2) e3).spare (by rw [ob_eq]; exact fun e => k.ao i s g e1 (by rwa [hset i e1] at e2) e rfl) hnoS _ (put_size ..) (fun _ hg _ => put_far hg ..) _ (Below.refl _ _), fun i j s u g e e1 e2 e3 e4 => k.ap i j s u g e e1 e2 (by rwa [hset i e1] at e3) (by rwa [hset j e2] at e4), fun i s g e1 e2 => k.ao i s g e1 (by rwa [hset i e1] at e2)⟩
end
end Go.Proofs.YtmcfomainmppdaaGreatDoor
