/- Rows of rows: elements that are slices, which read as lists; elements read in the midst of a region. -/
import Derived.Test.YtcdbgincfdejkaaGreatDoorRowC
namespace Go.Proofs.YtcdbgincfdejkaaGreatDoor
open Go.RowKit
/-- A kind whose head is of one kind. -/
class HdK {α : Type} (K : EK α) where
  n : Nat
  hd : ∀ {w : World} {cs x u}, K.R w cs x → cs[0]? = some u → rkV u = n
section
variable {α : Type} {K : EK α} {w w' : World}
theorem SlV.one0 {p : Option Addr} {n c : Nat} {xs : List α} (h : SlV K w (.slice p n c) xs) : n = xs.length := by
  obtain ⟨css, h1, ⟨rfl, p', c', e⟩ | ⟨g, o, c', e, _⟩⟩ := h
  · injection e with _ e2
  · injection e with _ e2
def slK (K : EK α) : EK (List α) where
  sz := 1
  pos := by decide
  R := fun w cs xs => ∃ p c, cs = [.slice p xs.length c] ∧ SlV K w (.slice p xs.length c) xs ∧ ∀ g o i, p = some ⟨g, o, i⟩ → o = 0
  len := fun ⟨_, _, e, _⟩ => by rw [e]; rfl
  one := fun ⟨_, _, e, _⟩ u hu => by
    subst e
    obtain rfl := List.mem_singleton.1 hu
    rfl
  below := fun ⟨p, c, e, h, h0⟩ hb => ⟨p, c, e, h.below hb, h0⟩
theorem SlV.spare [OwnK K] [HdK K] {p : Option Addr} {n c R : Nat} {xs : List α} (h : SlV K w (.slice p n c) xs) (h0 : ∀ g o i, p = some ⟨g, o, i⟩ → o = 0) (hg : NoHd (HdK.n K :: K.S) R w) : Spares R w (fun w => SlV K w (.slice p n c) xs) := fun w1 hs hf w2 hb => by
  have hS : NoHd K.S R w := fun v hv => by
    have := hg v hv
    simp only [List.contains_cons, Bool.or_eq_false_iff] at this
    exact this.2
  obtain ⟨css, h1, h2⟩ := h
  refine ⟨css, h1.spare hS w1 hs hf w2 hb, h2.imp id fun ⟨g, o, c', e, hl, hc1, hc2, ha⟩ => ⟨g, o, c', e, Nat.lt_of_lt_of_le hl (Nat.le_trans hs hb.size), hc1, hc2, fun k cs j u c1 c2 => ?_⟩⟩
  injection e with e1 e2 e3
  obtain rfl := h0 g o none e1
  have hne : g ≠ R := fun e => by
    subst e
    have hk : 0 < css.length := Nat.lt_of_le_of_lt (Nat.zero_le _) (List.getElem?_eq_some_iff.1 c1).1
    have hc0 : css[0]? = some css[0] := List.getElem?_eq_getElem hk
    have hr := h1.el 0 _ _ hc0 (List.getElem?_eq_getElem (h1.len ▸ hk))
    have hz := K.len hr
    have hp := K.pos
    have hu : css[0][0]? = some (css[0][0]'(by omega)) := List.getElem?_eq_getElem (by omega)
    have h3 := ha 0 _ 0 _ hc0 hu
    rw [show 0 + 0 * K.sz + 0 = 0 by omega] at h3
    have h4 := hg _ h3
    rw [HdK.hd hr hu] at h4
    simp at h4
  rw [(hb.cell (p := ⟨g, _, none⟩) (Nat.lt_of_lt_of_le hl hs)), ← ha k cs j u c1 c2]
  exact World.cell?_of_block (hf g hne hl)
theorem slK_hd {cs : List Value} {xs : List α} {u : Value} (h : (slK K).R w cs xs) (hu : cs[0]? = some u) : rkV u = 3 := by
  obtain ⟨p, c, rfl, _⟩ := h
  cases hu; rfl
theorem slK_spare [OwnK K] [HdK K] {cs : List Value} {xs : List α} {g : Nat} (h : (slK K).R w cs xs) (hg : NoHd (HdK.n K :: K.S) g w) : Spares g w (fun w => (slK K).R w cs xs) := fun w1 h2 h3 w2 h4 => by
  obtain ⟨p, c, e, h, h0⟩ := h
  exact ⟨p, c, e, h.spare h0 hg w1 h2 h3 w2 h4, h0⟩
theorem OwV.toR {t : TypeId} {b n c : Nat} {p : Option Addr} {xs : List α} (h : OwV K t b w (.slice p n c) xs) : (slK K).R w [.slice p n c] xs := by
  obtain rfl := h.slv.one0
  refine ⟨p, c, rfl, h.slv, fun g o i e => ?_⟩
  subst e
  obtain ⟨css, h1, hl, ⟨e, h0⟩ | ⟨g', cap, cur, e, _⟩⟩ := h
  · cases e
  · injection e with e1
    injection e1 with e1
    injection e1
theorem KS.atL {V : World} {l : List (World → Prop)} {g o n c k : Nat} {xss : List (List α)} {xs : List α} (hK : KS V l w) (h : SlV (slK K) w (.slice (some ⟨g, o, none⟩) n c) xss) (hx : xss[k]? = some xs) :
    ∃ y : Sl, KS V (CelAt g (o + k * 1) [.slice y.p xs.length y.c] :: (fun w => SlV K w (.slice y.p xs.length y.c) xs) :: l) w := by
  obtain ⟨cs, h1, p, d, rfl, h3, h4⟩ := h.at hx
  exact ⟨⟨p, 0, d⟩, (hK.add (F := fun w => SlV K w (.slice p xs.length d) xs) fun w' hb => h3.below hb).add fun w' hb => h1.below hb⟩
theorem GB.to {w0 : World} (h : GB w0 none w) : Below w0.heap.size w0 w := ⟨h.os, h.tape, h.output, h.size, fun k hk => h.block k hk (by rintro ⟨⟩)⟩
theorem Lies.apart {w0 : World} {r q : Option Addr} (h : Lies w0 none r) (hb : ∀ g, ob q = some g → g < w0.heap.size) : ∀ g, ob r = some g → ob q ≠ some g := fun g e e2 => by
  rcases h with h | h
  · rw [h] at e; cases e
  · have := h g e
    have := hb g e2
    omega
theorem apNone {g : Nat} (e : ob none = some g) : False := by cases e
theorem SlV.spareA [OwnK K] {p : Option Addr} {n c R : Nat} {xs : List α} (h : SlV K w (.slice p n c) xs) (hne : ob p ≠ some R) (hg : NoHd K.S R w) : Spares R w (fun w => SlV K w (.slice p n c) xs) := fun w1 hs hf w2 hb => by
  obtain ⟨css, h1, h2⟩ := h
  refine ⟨css, h1.spare hg w1 hs hf w2 hb, h2.imp id fun ⟨g, o, c', e, hl, hc1, hc2, ha⟩ => ⟨g, o, c', e, Nat.lt_of_lt_of_le hl (Nat.le_trans hs hb.size), hc1, hc2, fun k cs j u c1 c2 => ?_⟩⟩
  injection e with e1 e2 e3
  have hn : g ≠ R := fun e => hne (by rw [e1, e]; rfl)
  rw [(hb.cell (p := ⟨g, _, none⟩) (Nat.lt_of_lt_of_le hl hs)), ← ha k cs j u c1 c2]
  exact World.cell?_of_block (hf g hn hl)
theorem SlV.lt {p : Option Addr} {n c : Nat} {xs : List α} (h : SlV K w (.slice p n c) xs) (hne : xs ≠ []) {g : Nat} (hg : ob p = some g) : g < w.heap.size := by
  obtain ⟨css, h1, ⟨rfl, p', c', e⟩ | ⟨g', o, c', e, hl, _⟩⟩ := h
  · exact absurd rfl hne
  · injection e with e1
    subst e1
    have : g' = g := Option.some.inj hg
    exact this ▸ hl
def slP (K : EK α) (q : Option Addr) : EK (List α) where
  sz := 1
  pos := by decide
  R := fun w cs xs => (slK K).R w cs xs ∧ ∀ p n c, cs = [.slice p n c] → xs ≠ [] → ∀ g, ob p = some g → ob q ≠ some g
  len := fun h => (slK K).len h.1
  one := fun h => (slK K).one h.1
  below := fun h hb => ⟨(slK K).below h.1 hb, h.2⟩
theorem slP_hd {q : Option Addr} {cs : List Value} {xs : List α} {u : Value} (h : (slP K q).R w cs xs) (hu : cs[0]? = some u) : rkV u = 3 := slK_hd h.1 hu
theorem slP_spare [OwnK K] [HdK K] {q : Option Addr} {cs : List Value} {xs : List α} {g : Nat} (h : (slP K q).R w cs xs) (hg : NoHd (HdK.n K :: K.S) g w) : Spares g w (fun w => (slP K q).R w cs xs) := fun w1 h2 h3 w2 h4 => ⟨slK_spare h.1 hg w1 h2 h3 w2 h4, h.2⟩
theorem OwV.toP {t : TypeId} {b n c : Nat} {p q : Option Addr} {xs : List α} (h : OwV K t b w (.slice p n c) xs) (hq : ∀ g, ob p = some g → ob q ≠ some g) : (slP K q).R w [.slice p n c] xs :=
  ⟨h.toR, fun p' n' c' e _ => by
    injection e with e
    injection e with e
    subst e; exact hq⟩
theorem OwV.ofP {q : Option Addr} {t : TypeId} {b : Nat} {v : Value} {xs : List (List α)} (h : OwV (slP K q) t b w v xs) : OwV (slK K) t b w v xs := by
  obtain ⟨css, h1, h2⟩ := h
  exact ⟨css, ⟨h1.len, fun k cs x c1 c2 => (h1.el k cs x c1 c2).1⟩, h2⟩
theorem gwX [OwnK K] {t : TypeId} {b n c : Nat} {p q r : Option Addr} {xss : List (List α)} (h : OwV (slP K q) t b w (.slice p n c) xss) (hne : ∀ g, ob q = some g → ob p ≠ some g) (hr : ob r = ob q ∨ ob r = some w.heap.size) (hz : ∀ g, ob q = some g → NoHd K.S g w) :
    Grows (.slice q 0 0) w (fun w => OwV (slP K r) t b w (.slice p n c) xss) := fun w1 hg w2 hb => by
  obtain ⟨css, h1, hl, h2⟩ := h
  have hE : Els (slP K r) w2 css xss := by
    refine ⟨h1.len, fun k cs x c1 c2 => ?_⟩
    obtain ⟨⟨p', c', rfl, hs, h0⟩, ha⟩ := h1.el k cs x c1 c2
    by_cases hx : x = []
    · subst hx
      exact ⟨⟨p', c', rfl, .nil, h0⟩, fun _ _ _ _ h => absurd rfl h⟩
    have ha' := ha p' _ c' rfl hx
    have hs' : SlV K w2 (.slice p' x.length c') x := by
      cases hq : ob q with
      | none => exact hs.below (Below.trans ⟨hg.os, hg.tape, hg.output, hg.size, fun k hk => hg.block k hk (by rw [show (Value.slice q 0 0).ownBlock = ob q from rfl, hq]; simp)⟩ (hb.mono hg.size))
      | some g => exact hs.spareA (fun e => ha' g e hq) (hz g hq) w1 hg.size (fun k hk hlt => hg.block k hlt (by rw [show (Value.slice q 0 0).ownBlock = ob q from rfl, hq]; simpa using hk)) w2 hb
    refine ⟨⟨p', c', rfl, hs', h0⟩, fun p2 n2 c2 e _ g hg2 => ?_⟩
    injection e with e
    injection e with e
    subst e
    rcases hr with hr | hr
    · rw [hr]; exact ha' g hg2
    · rw [hr]
      have := hs.lt hx hg2
      intro e
      injection e with e
      omega
  refine ⟨css, hE, hl, h2.imp id fun ⟨k, cap, cur, e, h3, hk, h4⟩ => ⟨k, cap, cur, e, h3, ?_, h4⟩⟩
  have hlt := (Array.getElem?_eq_some_iff.1 hk).1
  have hob : ob p = some k := by injection e with e; rw [e]; rfl
  rw [hb.block k (Nat.lt_of_lt_of_le hlt hg.size), hg.block k hlt (fun e2 => hne k e2.symm hob)]
  exact hk
theorem made_flat (cs : List Value) (n : Nat) (h : 0 < cs.length) : (madeCells cs.toArray (n * cs.length)).toList = (List.replicate n cs).flatten := by
  refine List.ext_getElem? fun k => ?_
  have hl := flat_len (sz := cs.length) (List.replicate n cs) (fun x hx => by rw [(List.mem_replicate.1 hx).2])
  rw [List.length_replicate] at hl
  by_cases hk : k < n * cs.length
  · have hq : k / cs.length < n := Nat.div_lt_of_lt_mul (by rwa [Nat.mul_comm] at hk)
    have hm := Nat.mod_lt k h
    have h2 := flat_at (sz := cs.length) (List.replicate n cs) (fun x hx => by rw [(List.mem_replicate.1 hx).2]) (k / cs.length) (k % cs.length) cs (by simp [hq]) hm
    rw [Nat.mul_comm, Nat.div_add_mod] at h2
    rw [h2]
    simp [madeCells, hk, hm]
  · rw [List.getElem?_eq_none (by simp [madeCells]; omega), List.getElem?_eq_none (by omega)]
theorem made_own {P : Program} {V : World} {t e : TypeId} {z : Value} {x : α} {bytes : Nat} (n : Nat) {zs : List Value} (hz : z.cells = zs.toArray) (hx : ∀ w : World, K.R w zs x) (ht : P.underlying t = some (.slice e)) (hinf : (P.info? e).map (fun i => (i.zero, i.size, i.bytes)) = some (some z, K.sz, bytes))
    (h1 : n * K.sz ≤ 16777216) (h2 : bytes * n ≤ 281474976710656) (h3 : n ≤ maxLen) (hb : V.heap.size ≤ w.heap.size) :
    ∃ w', (Instr.makeSlice t (.int .i64 (n : Int)) (.int .i64 (n : Int))).run P w = .ok (.slice (some ⟨w.heap.size, 0, none⟩) n n) w' ∧ OwV K e V.heap.size w' (.slice (some ⟨w.heap.size, 0, none⟩) n n) (List.replicate n x) ∧ Below w.heap.size w w' := by
  obtain ⟨i0, hi, hz0, hz1, hz2⟩ := info_parts hinf
  subst hz2
  obtain ⟨w', hr, ho, hg⟩ := run_makeSlice_full (P := P) (w := w) V.heap.size t e i0 z K.sz ht hi hz0 hz1 .i64 .i64 n h1 h2 h3 hb
  have hl : zs.length = K.sz := K.len (hx w)
  refine ⟨w', hr, ⟨List.replicate n zs, ⟨by simp, fun k cs y c1 c2 => ?_⟩, ?_⟩, ⟨hg.os, hg.tape, hg.output, hg.size, fun k hk => hg.block k hk (by rintro ⟨⟩)⟩⟩
  · have e1 := (List.mem_replicate.1 (List.mem_of_getElem? c1)).2
    have e2 := (List.mem_replicate.1 (List.mem_of_getElem? c2)).2
    subst e1; subst e2; exact hx w'
  · rw [hz, ← hl, made_flat zs n (by have := K.pos; omega), hl] at ho
    rw [List.length_replicate]
    exact ho
end
end Go.Proofs.YtcdbgincfdejkaaGreatDoor
