/- Rows of prefixes. -/
import Derived.Test.YtbbjjjaclbkolaaGreatDoorSortC
import Derived.Test.YtbbjjjaclbkolaaGreatDoorPfxQ
import Derived.Test.YtbbjjjaclbkolaaGreatDoorAggQ
import Derived.Test.YtbbjjjaclbkolaaGreatDoorPfxG
namespace Go.Proofs.YtbbjjjaclbkolaaGreatDoor
open Go.RowKit
theorem KS.startR {V w : World} (h : Below V.heap.size V w) : KS V [] w := ⟨h, aN⟩
def pfC (p : Pf) : List Value := [.int .u32 (p.1 : Int), .int .i64 p.2]
def pfxK : EK Pf where
  sz := 2
  pos := by decide
  R := fun _ cs p => cs = pfC p
  len := fun e => by rw [e]; rfl
  one := fun e u hu => by
    subst e
    simp only [pfC, List.mem_cons, List.not_mem_nil, or_false] at hu
    rcases hu with rfl | rfl <;> rfl
  below := fun e _ => e
theorem pfxK_free : pfxK.Free := fun _ _ _ _ h => h
instance : OwnK pfxK := ⟨fun h _ _ _ _ _ _ => h, .inl pfxK_free⟩
section
variable {V w : World} {l : List (World → Prop)} {g o n c k : Nat}
theorem KS.atP {xs : List Pf} {x : Pf} (hK : KS V l w) (h : SlV pfxK w (.slice (some ⟨g, o, none⟩) n c) xs) (hx : xs[k]? = some x) : KS V (CelAt g (o + k * 2) [.int .u32 (x.1 : Int), .int .i64 x.2] :: l) w := by
  obtain ⟨cs, h1, rfl⟩ := h.at hx
  exact hK.add fun w' hb => h1.below hb
end
theorem infoPf : (Tryz.prog.info? 31).map (fun i => (i.zero, i.size, i.bytes)) = some (some (.agg #[.int .u32 0, .int .i64 0]), pfxK.sz, 16) := by kernel_rfl
theorem OkP.w {p : Pf} (h : OkP p) : W32 p.1 := h.1
theorem AllOk.at {l : List Pf} {k : Nat} {p : Pf} (h : AllOk l) (hp : l[k]? = some p) : OkP p := h p (List.mem_of_getElem? hp)
theorem last_two {l : List Pf} {p q : Pf} (hp : l[l.length - 1]? = some p) (hq : l[l.length - 2]? = some q) (hl : 2 ≤ l.length) : l = l.take (l.length - 2) ++ [q, p] := by
  have h1 : l[l.length - 1]? = some p := hp
  obtain ⟨h2, e2⟩ := List.getElem?_eq_some_iff.1 hp
  obtain ⟨h3, e3⟩ := List.getElem?_eq_some_iff.1 hq
  have e4 : l.drop (l.length - 2) = [q, p] := by
    rw [List.drop_eq_getElem_cons h3, e3]
    have e5 : l.length - 2 + 1 = l.length - 1 := by omega
    rw [e5, List.drop_eq_getElem_cons h2, e2, List.drop_eq_nil_of_le (by omega)]
  rw [← e4, List.take_append_drop]
theorem paE_ok {p : Pf} (h : OkP p) : paE p.1 p.2 = if p.2 = 0 then 2 else 0 := if_pos h.2
theorem par_vals {p : Pf} (h : OkP p) (h0 : p.2 ≠ 0) : paA p.1 p.2 = (parP p).1 ∧ paN p.1 p.2 = (parP p).2 := by
  have q := pa_ok h.2 (show (p.2 == 0) = false by simpa using h0)
  exact ⟨q.1, q.2.1⟩
theorem parP_ok {p : Pf} (h : OkP p) (h0 : p.2 ≠ 0) : OkP (parP p) ∧ (parP p).2 < 32 := by
  have h1 := h.lo
  have h2 := h.hi
  have e1 : (parP p).2 = p.2 - 1 := rfl
  refine ⟨⟨base_w32 h.1, vld_iff.2 ⟨by omega, by omega, ?_⟩⟩, by omega⟩
  have e : (parP p).2.toNat = p.2.toNat - 1 := by omega
  rw [e]
  show base (p.2.toNat - 1) p.1 % 2 ^ (32 - (p.2.toNat - 1)) = 0
  unfold base
  exact Nat.mod_eq_zero_of_dvd (Nat.dvd_sub_mod _)
theorem sib_iff {p q : Pf} (hp : OkP p) (hq : OkP q) (h0 : p.2 ≠ 0) : Sib q p ↔ (q.1 = (parP p).1 ∧ q.2 = p.2) ∧ p.1 = (parP p).1 + siz p.2 := by
  have h1 := hp.lo
  have h2 := hp.hi
  constructor
  · intro h
    obtain ⟨_, h4, _, h6⟩ := par_sib hp hq h
    refine ⟨⟨h4.symm, h.1⟩, ?_⟩
    rw [h4, ← h.1]; exact h6
  · rintro ⟨⟨h3, h4⟩, h5⟩
    refine ⟨h4, by omega, by rw [h3, h4]; exact h5, ?_⟩
    have h6 := (parP_ok hp h0).1.al
    rw [h3, h4]
    exact h6
theorem par_split {p : Pf} (hp : OkP p) (h0 : p.2 ≠ 0) : slL (parP p).1 (parP p).2 = (parP p).1 ∧ slM (parP p).1 (parP p).2 = p.2 ∧ slH (parP p).1 (parP p).2 = (parP p).1 + siz p.2 := by
  have h1 := hp.lo
  have h2 := hp.hi
  obtain ⟨h3, h4⟩ := parP_ok hp h0
  have q := sl_ok h3.2 (show ((parP p).2 == 32) = false by simpa using (show ¬ (parP p).2 = 32 by omega))
  have e0 : (parP p).2 = p.2 - 1 := rfl
  refine ⟨q.1, by rw [q.2.1]; omega, ?_⟩
  rw [q.2.2.1]
  obtain ⟨d, hd⟩ : ∃ d : Nat, (parP p).2 = 32 - ((d + 1 : Nat) : Int) := ⟨(31 - (parP p).2).toNat, by omega⟩
  have h5 := half_or (a := (parP p).1) (n := (parP p).2) h3 h4 hd
  unfold bitP
  rw [h5, siz_of (d := d) (by omega) (by omega)]
theorem split_par {p : Pf} (w : World) (hp : OkP p) (h0 : p.2 ≠ 0) : Calls Tryz.prog 10 #[.agg #[.int .u32 (paA p.1 p.2 : Int), .int .i64 (paN p.1 p.2)]] w fun e w' =>
    e = .returned (.tuple #[.agg #[.int .u32 ((parP p).1 : Int), .int .i64 p.2], .agg #[.int .u32 (((parP p).1 + siz p.2 : Nat) : Int), .int .i64 p.2], .int .i64 0]) ∧ Below w.heap.size w w' := by
  have h2 := hp.hi
  obtain ⟨e1, e2⟩ := par_vals hp h0
  obtain ⟨h3, h4⟩ := parP_ok hp h0
  have q := par_split hp h0
  have e0 : (parP p).2 = p.2 - 1 := rfl
  have q4 := sl_ok h3.2 (show ((parP p).2 == 32) = false by simpa using (show ¬ (parP p).2 = 32 by omega))
  rw [e1, e2]
  have r := split_any (parP p).1 (parP p).2 w h3.1
  rw [q.1, q.2.1, q.2.2, q4.2.2.2] at r
  exact r
theorem mergeS_stop {l : List Pf} {p q : Pf} (hp : l[l.length - 1]? = some p) (hq : l[l.length - 2]? = some q) (hl : 2 ≤ l.length) (h : ¬ Sib q p) : mergeS l = l := by
  rw [last_two hp hq hl, mergeS_no h]
theorem mergeS_stop0 {l : List Pf} {p q : Pf} (hp : l[l.length - 1]? = some p) (hq : l[l.length - 2]? = some q) (hl : 2 ≤ l.length) (h : p.2 = 0) : mergeS l = l :=
  mergeS_stop hp hq hl fun ⟨h1, h2, _⟩ => by omega
def popS (l : List Pf) (p : Pf) : List Pf := l.take (l.length - 2) ++ [p]
theorem popS_len {l : List Pf} (p : Pf) (h : 2 ≤ l.length) : (popS l p).length = l.length - 1 := by unfold popS; simp; omega
theorem mergeS_go {l : List Pf} {p q : Pf} (hp : l[l.length - 1]? = some p) (hq : l[l.length - 2]? = some q) (hl : 2 ≤ l.length) (h : Sib q p) : mergeS l = mergeS (popS l (parP p)) := by
  conv => lhs; rw [last_two hp hq hl]
  exact mergeS_hit h
theorem allok_go {l : List Pf} {p q : Pf} (hok : AllOk l) (hp : l[l.length - 1]? = some p) (hq : l[l.length - 2]? = some q) (h : Sib q p) : AllOk (popS l (parP p)) := fun r hr => by
  rcases List.mem_append.1 hr with hr | hr
  · exact hok r (List.mem_of_mem_take hr)
  · rw [List.mem_singleton.1 hr]
    exact (par_sib (hok.at hp) (hok.at hq) h).1
theorem pair_par {p : Pf} (hp : OkP p) (h0 : p.2 ≠ 0) : (paA p.1 p.2, paN p.1 p.2) = parP p := Prod.ext (par_vals hp h0).1 (par_vals hp h0).2
theorem row_post {α : Type} {K : EK α} {t : TypeId} {base n c n0 c0 : Nat} {w0 w' : World} {zs : List α} {p0 r : Option Addr} (h1 : OwV K t base w' (.slice r n c) zs) (h2 : GB w0 p0 w') (h3 : Lies w0 p0 r) :
    OwV K t base w' (.slice r n c) zs ∧ w0.grownBy w' (Value.slice p0 n0 c0).ownBlock ∧ ((Value.slice r n c).ownBlock = (Value.slice p0 n0 c0).ownBlock ∨ ∀ g, (Value.slice r n c).ownBlock = some g → w0.heap.size ≤ g) := by
  rw [ob_eq, ob_eq]
  exact ⟨h1, h2, h3⟩
end Go.Proofs.YtbbjjjaclbkolaaGreatDoor
