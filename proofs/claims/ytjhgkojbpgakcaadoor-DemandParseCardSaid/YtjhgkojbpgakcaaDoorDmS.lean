/- Rows of texts in the logic of facts. -/
import Derived.Test.YtjhgkojbpgakcaaDoorSc
namespace Go.Proofs.YtjhgkojbpgakcaaDoor
open Go.RowKit
section
variable {w : World} {g o n c i : Nat} {t : TypeId} {b : Nat} {xs : List (List UInt8)} {x : List UInt8}
theorem SlV.str (h : SlV strK w (.slice (some ⟨g, o, none⟩) n c) xs) (hx : xs[i]? = some x) : w.cell? ⟨g, o + i, none⟩ = some (.string ⟨x.toArray⟩) := by
  have h1 := h.cel (f := fun x => [.string ⟨x.toArray⟩]) (fun e => e) hx 0 rfl
  rwa [show o + i * strK.sz + 0 = o + i from by show o + i * 1 + 0 = _; omega] at h1
theorem OwV.str (h : OwV strK t b w (.slice (some ⟨g, 0, none⟩) n c) xs) (hx : xs[i]? = some x) : w.cell? ⟨g, i, none⟩ = some (.string ⟨x.toArray⟩) := by
  have h1 := h.slv.str hx
  rwa [Nat.zero_add] at h1
end
section
variable {P : Program} {V : World} {ops : Array Oper} {Q : Act → World → Prop} {f0 fs fs' : List Ft} {ks : List Nat} {o : Oper} {rest : List Oper} {a a' : Act} {t : TypeId} {w : World} {R : Nat}
theorem SS.row1 {α : Type} {K : EK α} [OwnK K] {cs : List Value} {x : α} (h : SS V (bx R (.cells cs.toArray t) :: fs) w) (hx : ∀ w : World, K.R w cs x) : SS V (rO K t (some ⟨R, 0, none⟩) 1 1 [x] :: fs) w := by
  have hb := h.box (List.mem_cons_self ..)
  have hl : cs.length = K.sz := K.len (hx w)
  refine h.repl (f' := rO K t (some ⟨R, 0, none⟩) 1 1 [x]) ⟨[cs], ⟨rfl, fun k c y c1 c2 => ?_⟩, by simp [hl], .inr ⟨R, 1, cs.toArray, rfl, Nat.zero_le _, hb.2, Nat.le_refl _, by decide, by simp [hl], by simp; exact List.take_of_length_le (by omega)⟩⟩ fun g e => (Option.some.inj e).symm
  match k, c1, c2 with
  | 0, c1, c2 => cases c1; cases c2; exact hx w
  | k + 1, c1, _ => cases c1
theorem eWT {g n c j : Nat} {xs : List (List UInt8)} {y : List UInt8} (i : Nat) (hj : j < xs.length) (h : Sx P V ops Q f0 ks rest fs' a') (hi : fs[i]? = some (rO strK t (some ⟨g, 0, none⟩) n c xs) := by rfl) (hf : fs.set i (rO strK t (some ⟨g, 0, none⟩) n c (xs.set j y)) = fs' := by (simp only [pB, pC]) <;> exact rfl) (hs : f0.Sublist fs' := by exact List.nil_sublist _) (hq : OzL i fs := by (repeat (first | exact trivial | (show OzA _; assumption) | refine ⟨rfl, ?_⟩))) (hg : Wants ops o a := by first | exact wants0 rfl | exact wantsg rfl rfl rfl rfl)
    (h1 : ∀ w u, w.cell? ⟨g, j, none⟩ = some u → (∀ o, w.frozen? ⟨g, o, none⟩ = false) → Does P (fun u w' => u = undef ∧ w' = w.setCell ⟨g, j, none⟩ (.string ⟨y.toArray⟩)) ((execOp a.eval o).run P w) := by intro w' u c f; go_simp; exact ⟨rfl, rfl⟩) (ha : a.put o.dst undef = a' := by (simp only [mkOf, Act.put, pA, pB, pC, pD, pE]) <;> exact rfl) : Sx P V ops Q f0 (4 :: ks) (o :: rest) fs a :=
  sxS (R := g) (f2 := rO strK t (some ⟨g, 0, none⟩) n c (xs.set j y)) hi rfl (fun _ h => h) (fun w _ => qtZ hq) (by rw [hf]; exact hs) hg (fun w _ k => by
    obtain ⟨u, hu⟩ := OwV.some_cell k hj (j := 0) (by decide)
    refine (h1 w u (by have : j * strK.sz + 0 = j := by show j * 1 + 0 = j; omega
                       rwa [this] at hu) (OwV.fz k)).mono fun u w' ⟨e1, e2⟩ => ?_
    have e3 : w' = putAt g (j * strK.sz) [.string ⟨y.toArray⟩] w := by rw [show j * strK.sz = j by show j * 1 = j; omega]; exact e2
    subst e3
    exact ⟨e1, ⟨_, _, rfl⟩, OwV.put k rfl hj _ (Below.refl _ _)⟩) (by rw [hf, ha]; exact h)
end
theorem idx_b {s : List UInt8} {i : Nat} {c : UInt8} (h : s[i]? = some c) (hi : i < (⟨s.toArray⟩ : ByteArray).size) : (⟨s.toArray⟩ : ByteArray)[i] = c := by
  obtain ⟨_, rfl⟩ := List.getElem?_eq_some_iff.1 h
  rfl
theorem infoStr : (Tryd.prog.info? 9).map (fun i => (i.zero, i.size, i.bytes)) = some (some (.string ⟨#[]⟩), strK.sz, 16) := by kernel_rfl
end Go.Proofs.YtjhgkojbpgakcaaDoor
