/- Forwarding tables in memory: segments, entries, tables; many facts as one; rows of rows that are made. -/
import Derived.Test.YtmcfomainmppdaaGreatDoorFSd
import Derived.Test.YtmcfomainmppdaaGreatDoorFDsC
namespace Go.Proofs.YtmcfomainmppdaaGreatDoor
open Go.RowKit
def stF (S : List Nat) (fs : List Ft) (hS : ∀ f ∈ fs, ∀ n, f.ln.contains n = true → S.contains n = true) : Ft :=
  ⟨fun g => ∃ f ∈ fs, f.own g, S, fun w => (∀ f ∈ fs, f.F w) ∧ fs.Pairwise fun f f' => ∀ g, f.own g → ¬ f'.own g,
    fun ⟨h, _⟩ ⟨f, hf, hg⟩ => f.lt (h f hf) hg, fun ⟨h, ha⟩ hb => ⟨fun f hf => f.bel (h f hf) hb, ha⟩,
    fun {w R} ⟨h, ha⟩ hn hS' w1 h1 h2 w2 h3 => ⟨fun f hf => f.spa (h f hf) (fun e => hn ⟨f, hf, e⟩) (fun v hv => by
      have := hS' v hv
      cases e : f.ln.contains (rkV v) with
      | false => rfl
      | true => rw [hS f hf _ e] at this; cases this) w1 h1 h2 w2 h3, ha⟩⟩
section
variable {V w : World} {l fs : List Ft} {S : List Nat} {hS : ∀ f ∈ fs, ∀ n, f.ln.contains n = true → S.contains n = true}
theorem SS.star : SS V (stF S fs hS :: l) w ↔ SS V (fs ++ l) w := by
  constructor
  · intro h
    obtain ⟨h1, h2⟩ := List.pairwise_cons.1 h.ap
    obtain ⟨h3, h4⟩ := h.get m0
    refine ⟨h.old, fun f hf => (List.mem_append.1 hf).elim (h3 f) fun hf => h.has f (List.mem_cons_of_mem _ hf), fun f hf g hg => (List.mem_append.1 hf).elim (fun hf => h.lo _ (List.mem_cons_self ..) g ⟨f, hf, hg⟩) fun hf => h.lo f (List.mem_cons_of_mem _ hf) g hg, List.pairwise_append.2 ⟨h4, h2, fun f hf f' hf' g hg => h1 f' hf' g ⟨f, hf, hg⟩⟩⟩
  · intro h
    obtain ⟨h1, h2, h3⟩ := List.pairwise_append.1 h.ap
    refine ⟨h.old, fun f hf => ?_, fun f hf g hg => ?_, .cons (fun f' hf' g ⟨f, hf, hg⟩ => h3 f hf f' hf' g hg) h2⟩
    · rcases List.mem_cons.1 hf with rfl | hf
      · exact ⟨fun f hf => h.has f (List.mem_append_left _ hf), h1⟩
      · exact h.has f (List.mem_append_right _ hf)
    · rcases List.mem_cons.1 hf with rfl | hf
      · obtain ⟨f', hf', hg⟩ := hg
        exact h.lo f' (List.mem_append_left _ hf') g hg
      · exact h.lo f (List.mem_append_right _ hf) g hg
end
section
variable {α : Type} {K : EK α} [OwnK K] {V w : World} {l : List Ft} {tt t : TypeId} {p : Option Addr} {n c : Nat} {ss : List Sl} {xss : List (List α)} {s : Sl} {xs : List α}
def rsL (K : EK α) [OwnK K] (t : TypeId) (ss : List Sl) (xss : List (List α)) : List Ft := List.zipWith (fun s xs => rO K t s.p s.l s.c xs) ss xss
theorem rs_ln : ∀ f ∈ rsL K t ss xss, ∀ n, f.ln.contains n = true → (EK.S K).contains n = true := fun f hf n hn => by
  unfold rsL at hf
  rw [List.mem_iff_getElem?] at hf
  obtain ⟨i, hi⟩ := hf
  rw [List.getElem?_zipWith] at hi
  split at hi
  · cases hi; exact hn
  · cases hi
def rsF (K : EK α) [OwnK K] (t : TypeId) (ss : List Sl) (xss : List (List α)) : Ft := stF (EK.S K) (rsL K t ss xss) rs_ln
theorem SS.rs0 (h : SS V l w) (K : EK α) [OwnK K] (t : TypeId) : SS V (rsF K t [] [] :: l) w := SS.star.2 h
theorem SS.rsN (h : SS V (rO K t s.p s.l s.c xs :: rsF K t ss xss :: l) w) (hl : ss.length = xss.length) : SS V (rsF K t (ss ++ [s]) (xss ++ [xs]) :: l) w := by
  have h2 := SS.star.1 h.up1
  refine SS.star.2 ?_
  have e : rsL K t (ss ++ [s]) (xss ++ [xs]) = rsL K t ss xss ++ [rO K t s.p s.l s.c xs] := by
    unfold rsL
    rw [List.zipWith_append hl]; rfl
  rw [e, List.append_assoc]
  exact h2
end
section
variable {α : Type} {K : EK α} [OwnK K] {V w : World} {l : List Ft} {t : TypeId} {p : Option Addr} {n c : Nat} {ss : List Sl} {xss : List (List α)} {s : Sl} {xs : List α}
def vO (K : EK α) [OwnK K] (p : Option Addr) (n c : Nat) (xs : List α) : Ft :=
  ⟨fun g => ob p = some g, K.S, fun w => (∀ g, ob p = some g → g < w.heap.size) ∧ SlV K w (.slice p n c) xs, fun h e => h.1 _ e, fun h hb => ⟨fun g hg => Nat.lt_of_lt_of_le (h.1 g hg) hb.size, h.2.below hb⟩, fun h hn hS w1 hs hf w2 hb => ⟨fun g hg => Nat.lt_of_lt_of_le (h.1 g hg) (Nat.le_trans hs hb.size), h.2.spareA hn hS w1 hs hf w2 hb⟩⟩
theorem SS.vo (h : SS V (rO K t p n c xs :: l) w) : SS V (vO K p n c xs :: l) w :=
  h.repl ⟨fun g hg => h.lt ⟨_, List.mem_cons_self .., hg⟩, h.slv (List.mem_cons_self ..)⟩ fun _ h => h
theorem SS.vcut {m c' : Nat} (h : SS V (rO K t p n c xs :: l) w) (hs : ∀ w, SlV K w (.slice p n c) xs → SlV K w (.slice p m c') (xs.take m)) : SS V (vO K p m c' (xs.take m) :: l) w :=
  h.repl ⟨fun g hg => h.lt ⟨_, List.mem_cons_self .., hg⟩, hs _ (h.slv (List.mem_cons_self ..))⟩ fun _ h => h
def vsL (K : EK α) [OwnK K] (ss : List Sl) (xss : List (List α)) : List Ft := List.zipWith (fun s xs => vO K s.p s.l s.c xs) ss xss
theorem vs_ln : ∀ f ∈ vsL K ss xss, ∀ n, f.ln.contains n = true → (EK.S K).contains n = true := fun f hf n hn => by
  unfold vsL at hf
  rw [List.mem_iff_getElem?] at hf
  obtain ⟨i, hi⟩ := hf
  rw [List.getElem?_zipWith] at hi
  split at hi
  · cases hi; exact hn
  · cases hi
def vsF (K : EK α) [OwnK K] (ss : List Sl) (xss : List (List α)) : Ft := stF (EK.S K) (vsL K ss xss) vs_ln
theorem SS.vs0 (h : SS V l w) (K : EK α) [OwnK K] : SS V (vsF K [] [] :: l) w := SS.star.2 h
theorem SS.vsN (h : SS V (vO K s.p s.l s.c xs :: vsF K ss xss :: l) w) (hl : ss.length = xss.length) : SS V (vsF K (ss ++ [s]) (xss ++ [xs]) :: l) w := by
  have h2 := SS.star.1 h.up1
  refine SS.star.2 ?_
  have e : vsL K (ss ++ [s]) (xss ++ [xs]) = vsL K ss xss ++ [vO K s.p s.l s.c xs] := by
    unfold vsL
    rw [List.zipWith_append hl]; rfl
  rw [e, List.append_assoc]
  exact h2
theorem vs_of (h : SS V (rsL K t ss xss ++ l) w) : SS V (vsL K ss xss ++ l) w := by
  induction ss generalizing xss l with
  | nil => exact h
  | cons s ss ih =>
    cases xss with
    | nil => exact h
    | cons xs xss =>
      have h1 : SS V (vO K s.p s.l s.c xs :: (rsL K t ss xss ++ l)) w := SS.vo h
      have h2 := ih (l := vO K s.p s.l s.c xs :: l) (h1.perm List.perm_middle.symm)
      exact h2.perm List.perm_middle
theorem SS.vs (h : SS V (rsF K t ss xss :: l) w) : SS V (vsF K ss xss :: l) w := SS.star.2 (vs_of (SS.star.1 h))
end
structure SegD where
  k : Int
  n : Int
def SegD.cs (x : SegD) : List Value := [.int .i64 x.k, .int .i64 x.n]
def segK : EK SegD where
  sz := 2
  pos := by decide
  R := fun _ cs x => cs = x.cs
  len := fun e => by rw [e]; rfl
  one := fun e u hu => by
    subst e
    simp only [SegD.cs, List.mem_cons, List.not_mem_nil, or_false] at hu
    rcases hu with rfl | rfl <;> rfl
  below := fun e _ => e
theorem segK_free : segK.Free := fun _ _ _ _ h => h
instance : OwnK segK := ⟨[], fun h _ _ _ _ _ _ => h, .inl segK_free⟩
structure EntW where
  a : Sl
  r : Bool
  p : Sl
def EntW.cs (x : EntW) : List Value := [.slice x.a.p x.a.l x.a.c, .bool x.r, .slice x.p.p x.p.l x.p.c]
def entK : EK EntW where
  sz := 3
  pos := by decide
  R := fun _ cs x => cs = x.cs
  len := fun e => by rw [e]; rfl
  one := fun e u hu => by
    subst e
    simp only [EntW.cs, List.mem_cons, List.not_mem_nil, or_false] at hu
    rcases hu with rfl | rfl | rfl <;> rfl
  below := fun e _ => e
theorem entK_free : entK.Free := fun _ _ _ _ h => h
instance : OwnK entK := ⟨[], fun h _ _ _ _ _ _ => h, .inl entK_free⟩
structure TabW where
  n : Int
  t : Sl
  d : Sl
def TabW.cs (x : TabW) : List Value := [.int .i64 x.n, .slice x.t.p x.t.l x.t.c, .slice x.d.p x.d.l x.d.c]
def tabK : EK TabW where
  sz := 3
  pos := by decide
  R := fun _ cs x => cs = x.cs
  len := fun e => by rw [e]; rfl
  one := fun e u hu => by
    subst e
    simp only [TabW.cs, List.mem_cons, List.not_mem_nil, or_false] at hu
    rcases hu with rfl | rfl | rfl <;> rfl
  below := fun e _ => e
theorem tabK_free : tabK.Free := fun _ _ _ _ h => h
instance : OwnK tabK := ⟨[], fun h _ _ _ _ _ _ => h, .inl tabK_free⟩
theorem infoSeg : (Tryz.prog.info? 83).map (fun i => (i.zero, i.size, i.bytes)) = some (some (.agg #[.int .i64 0, .int .i64 0]), segK.sz, 16) := by kernel_rfl
theorem infoEnt : (Tryz.prog.info? 66).map (fun i => (i.zero, i.size, i.bytes)) = some (some (.agg #[.slice none 0 0, .bool false, .slice none 0 0]), entK.sz, 56) := by kernel_rfl
theorem infoTab : (Tryz.prog.info? 62).map (fun i => (i.zero, i.size, i.bytes)) = some (some (.agg #[.int .i64 0, .slice none 0 0, .slice none 0 0]), tabK.sz, 56) := by kernel_rfl
section
variable {w w' : World} {g o n c i b : Nat} {t : TypeId}
theorem SlV.seg {xs : List SegD} {x : SegD} (h : SlV segK w (.slice (some ⟨g, o, none⟩) n c) xs) (hx : xs[i]? = some x) (j : Nat) {u : Value} (hu : x.cs[j]? = some u) : w.cell? ⟨g, o + i * 2 + j, none⟩ = some u := h.cel (f := SegD.cs) (fun e => e) hx j hu
theorem SlV.seg0 {xs : List SegD} {x : SegD} (h : SlV segK w (.slice (some ⟨g, o, none⟩) n c) xs) (hx : xs[i]? = some x) {u : Value} (hu : x.cs[0]? = some u) : w.cell? ⟨g, o + i * 2, none⟩ = some u := h.seg hx 0 hu
theorem OwV.seg {xs : List SegD} {x : SegD} (h : OwV segK t b w (.slice (some ⟨g, 0, none⟩) n c) xs) (hx : xs[i]? = some x) (j : Nat) {u : Value} (hu : x.cs[j]? = some u) : w.cell? ⟨g, i * 2 + j, none⟩ = some u := by
  have h1 := h.slv.seg hx j hu; rwa [Nat.zero_add] at h1
theorem OwV.seg0 {xs : List SegD} {x : SegD} (h : OwV segK t b w (.slice (some ⟨g, 0, none⟩) n c) xs) (hx : xs[i]? = some x) {u : Value} (hu : x.cs[0]? = some u) : w.cell? ⟨g, i * 2, none⟩ = some u := h.seg hx 0 hu
theorem SlV.ent {xs : List EntW} {x : EntW} (h : SlV entK w (.slice (some ⟨g, o, none⟩) n c) xs) (hx : xs[i]? = some x) (j : Nat) {u : Value} (hu : x.cs[j]? = some u) : w.cell? ⟨g, o + i * 3 + j, none⟩ = some u := h.cel (f := EntW.cs) (fun e => e) hx j hu
theorem SlV.ent0 {xs : List EntW} {x : EntW} (h : SlV entK w (.slice (some ⟨g, o, none⟩) n c) xs) (hx : xs[i]? = some x) {u : Value} (hu : x.cs[0]? = some u) : w.cell? ⟨g, o + i * 3, none⟩ = some u := h.ent hx 0 hu
theorem OwV.ent {xs : List EntW} {x : EntW} (h : OwV entK t b w (.slice (some ⟨g, 0, none⟩) n c) xs) (hx : xs[i]? = some x) (j : Nat) {u : Value} (hu : x.cs[j]? = some u) : w.cell? ⟨g, i * 3 + j, none⟩ = some u := by
  have h1 := h.slv.ent hx j hu; rwa [Nat.zero_add] at h1
theorem OwV.ent0 {xs : List EntW} {x : EntW} (h : OwV entK t b w (.slice (some ⟨g, 0, none⟩) n c) xs) (hx : xs[i]? = some x) {u : Value} (hu : x.cs[0]? = some u) : w.cell? ⟨g, i * 3, none⟩ = some u := h.ent hx 0 hu
theorem SlV.tab {xs : List TabW} {x : TabW} (h : SlV tabK w (.slice (some ⟨g, o, none⟩) n c) xs) (hx : xs[i]? = some x) (j : Nat) {u : Value} (hu : x.cs[j]? = some u) : w.cell? ⟨g, o + i * 3 + j, none⟩ = some u := h.cel (f := TabW.cs) (fun e => e) hx j hu
theorem OwV.tab {xs : List TabW} {x : TabW} (h : OwV tabK t b w (.slice (some ⟨g, 0, none⟩) n c) xs) (hx : xs[i]? = some x) (j : Nat) {u : Value} (hu : x.cs[j]? = some u) : w.cell? ⟨g, i * 3 + j, none⟩ = some u := by
  have h1 := h.slv.tab hx j hu; rwa [Nat.zero_add] at h1
end
structure EntD where
  a : List Nat
  r : Bool
  p : List SegD
structure TabD where
  n : Nat
  t : List EntD
  d : List Nat
structure TbS where
  t : Sl
  d : Sl
  ws : List EntW
instance : Nonempty TbS := ⟨⟨⟨none, 0, 0⟩, ⟨none, 0, 0⟩, []⟩⟩
def enL (s : Sl) (ws : List EntW) (es : List EntD) : List Ft := [cF (ws.map (·.r) = es.map (·.r)), rO entK 66 s.p s.l s.c ws, vsF intK (ws.map (·.a)) (es.map fun e => natI e.a), rsF segK 83 (ws.map (·.p)) (es.map (·.p))]
theorem enL_ln {s : Sl} {ws : List EntW} {es : List EntD} : ∀ f ∈ enL s ws es, ∀ n, f.ln.contains n = true → ([] : List Nat).contains n = true := fun f hf n hn => by
  simp only [enL, List.mem_cons, List.not_mem_nil, or_false] at hf
  rcases hf with rfl | rfl | rfl | rfl <;> exact hn
def tbL (z : TbS) (T : TabD) : List Ft := enL z.t z.ws T.t ++ [rO intK 3 z.d.p z.d.l z.d.c (natI T.d)]
theorem tbL_ln {z : TbS} {T : TabD} : ∀ f ∈ tbL z T, ∀ n, f.ln.contains n = true → ([] : List Nat).contains n = true := fun f hf n hn => by
  rcases List.mem_append.1 hf with h | h
  · exact enL_ln f h n hn
  · rw [List.mem_singleton.1 h] at hn; exact hn
def tbF (z : TbS) (T : TabD) : Ft := stF [] (tbL z T) tbL_ln
def TbS.v (z : TbS) (T : TabD) : Value := .agg #[.int .i64 (T.n : Int), .slice z.t.p z.t.l z.t.c, .slice z.d.p z.d.l z.d.c]
def tsL (zs : List TbS) (Ts : List TabD) : List Ft := List.zipWith tbF zs Ts
theorem tsL_ln {zs : List TbS} {Ts : List TabD} : ∀ f ∈ tsL zs Ts, ∀ n, f.ln.contains n = true → ([] : List Nat).contains n = true := fun f hf n hn => by
  unfold tsL at hf
  rw [List.mem_iff_getElem?] at hf
  obtain ⟨i, hi⟩ := hf
  rw [List.getElem?_zipWith] at hi
  split at hi
  · cases hi; exact hn
  · cases hi
def tsF (zs : List TbS) (Ts : List TabD) : Ft := stF [] (tsL zs Ts) tsL_ln
section
variable {V w : World} {l : List Ft} {zs : List TbS} {Ts : List TabD} {z : TbS} {T : TabD}
theorem SS.ts0 (h : SS V l w) : SS V (tsF [] [] :: l) w := SS.star.2 h
theorem SS.tsN (h : SS V (tbF z T :: tsF zs Ts :: l) w) (hl : zs.length = Ts.length) : SS V (tsF (zs ++ [z]) (Ts ++ [T]) :: l) w := by
  have h2 := SS.star.1 h.up1
  refine SS.star.2 ?_
  have e : tsL (zs ++ [z]) (Ts ++ [T]) = tsL zs Ts ++ [tbF z T] := by
    unfold tsL
    rw [List.zipWith_append hl]; rfl
  rw [e, List.append_assoc]
  exact h2
end
end Go.Proofs.YtmcfomainmppdaaGreatDoor
