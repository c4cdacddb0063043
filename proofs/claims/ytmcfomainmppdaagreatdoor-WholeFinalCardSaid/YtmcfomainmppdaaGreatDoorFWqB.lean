/- Repairs: what entries and tables are. Stable lists; entries along paths after a failure. -/
import Derived.Test.YtmcfomainmppdaaGreatDoorFWcD
import Derived.Test.YtmcfomainmppdaaGreatDoorFWhF
namespace Go.Proofs.YtmcfomainmppdaaGreatDoor
open Go.RowKit
section
variable {t : TopD} {down : List Bool} {l : List Int} {d x y n a k : Nat} {p : List Nat}
theorem FstP.way (h : FstP t down l d x p y) : WayD t x p ∧ ∀ a ∈ p, upD down a = true := by
  induction p generalizing x with
  | nil => exact ⟨trivial, fun _ h => absurd h List.not_mem_nil⟩
  | cons a p ih =>
    obtain ⟨⟨r, hr⟩, h2⟩ := h
    have ha : a ∈ nxtD t down l x d := by rw [hr]; exact List.mem_cons_self ..
    obtain ⟨h3, h4, h5⟩ := mem_nxt.1 ha
    have ho := on_iff.1 h5
    obtain ⟨i1, i2⟩ := ih h2
    refine ⟨⟨h3, h4, fun hp => ?_, i1⟩, fun b hb => ?_⟩
    · cases p with
      | nil => exact absurd rfl hp
      | cons b q =>
        obtain ⟨⟨r2, hr2⟩, _⟩ := h2
        have hb : b ∈ nxtD t down l (hN t a) d := by rw [hr2]; exact List.mem_cons_self ..
        obtain ⟨_, b2, b3⟩ := mem_nxt.1 hb
        have hne : hN t a ≠ d := fun e => (on_iff.1 b3).2.1 (b2.trans e)
        have ht := ho.2.2.2.1
        unfold trD at ht
        rw [decide_eq_false hne, Bool.false_or] at ht
        cases ho2 : ovD t (hN t a)
        · rfl
        · rw [ho2] at ht; cases ht
    · rcases List.mem_cons.1 hb with rfl | hb
      · exact ho.1
      · exact i2 b hb
theorem isdst_of (w : World) {v_t : Value} (ht : TopV w v_t t) {p_d : Option Addr} {n_d c_d : Nat} (hd : SlV boolK w (.slice p_d n_d c_d) down) (d : Nat) (hl : t.links.length ≤ 100000) (hc : chkD t down [(d : Int)] = 0) : IsDst t down d (dstD t down d) := by
  obtain ⟨e, w', _, ⟨x, _, h⟩, _⟩ := (dist_ok w ht hd d hl hc) []
  exact h.get m1
theorem chkT_or (t : TopD) (down : List Bool) (s d : Nat) : chkT t down s d = 0 ∨ chkT t down s d = 11 := by
  unfold chkT; split
  · exact .inr rfl
  · exact .inl rfl
theorem pthT_no (h : chkT t down x d ≠ 0) : pthT t down x d = [] := if_neg h
theorem fst_short (ht : topOk t = true) (hd : IsDst t down d (dstD t down d)) (h0 : chkT t down x d = 0) (h : FstP t down (dstD t down d) d x p d) : p.length < nN t := by
  refine NxP.short ht hd h.nx ?_
  unfold chkT at h0
  split at h0
  · cases h0
  · omega
def dropA : List SegD → List SegD
  | [] => []
  | s :: l => if s.k = 2 then l else s :: l
noncomputable def lstD (t : TopD) (down : List Bool) (n d : Nat) : List SegD := dropA (encL t [] n (pthT t down n d))
noncomputable def eD (t : TopD) (down : List Bool) (n d : Nat) : EntD := if pthT t down n d = [] then ⟨[], false, []⟩ else if 32 < (lstD t down n d).length then ⟨[], false, []⟩ else ⟨(pthT t down n d).take 1, true, lstD t down n d⟩
theorem eD_no (h : pthT t down n d = []) : eD t down n d = ⟨[], false, []⟩ := if_pos h
theorem eD_many (h : 32 < (lstD t down n d).length) : eD t down n d = ⟨[], false, []⟩ := by
  unfold eD; split
  · rfl
  · rfl
theorem eD_yes (h : pthT t down n d ≠ []) (h2 : ¬ 32 < (lstD t down n d).length) : eD t down n d = ⟨(pthT t down n d).take 1, true, lstD t down n d⟩ := by
  unfold eD; rw [if_neg h, if_neg h2]
theorem drop_arc {xs : List SegD} {x : SegD} (h : xs[0]? = some x) (hk : (x.k == 2) = true) : dropA xs = xs.drop 1 := by
  cases xs with
  | nil => cases h
  | cons y xs => injection h with h; subst h; show (if y.k = 2 then xs else y :: xs) = _; rw [if_pos (by simpa using hk)]; rfl
theorem drop_seg {xs : List SegD} {x : SegD} (h : xs[0]? = some x) (hk : (x.k == 2) = false) : dropA xs = xs := by
  cases xs with
  | nil => cases h
  | cons y xs => injection h with h; subst h; show (if y.k = 2 then xs else y :: xs) = _; rw [if_neg (by simpa using hk)]
noncomputable def asmD (t : TopD) (arc d : Nat) : CmpD := if d ≠ hN t arc ∧ 0 ≤ atD (frmD t (mskD t ⟨2, (hN t arc : Int)⟩) (tN t arc)) d then ⟨2, (hN t arc : Int)⟩ else ⟨1, ((arc / 2 : Nat) : Int)⟩
def orD (a b : List Bool) : List Bool := (List.range a.length).map fun i => a.getD i false || b.getD i false
def fsD (det : List Bool) (A : List Nat) : Option Nat := A.find? fun a => det.getD a false
noncomputable def dn1 (t : TopD) (det : List Bool) (a d : Nat) : List Bool := orD (mskD t (asmD t a d)) det
noncomputable def dn2 (t : TopD) (det : List Bool) (n a d : Nat) : List Bool := if chkT t (dn1 t det a d) n d = 0 then dn1 t det a d else det
noncomputable def entR (t : TopD) (det : List Bool) (n d : Nat) : EntD := match fsD det (nxtR t [] (n : Int) (d : Int)) with
  | none => ⟨nxtR t [] (n : Int) (d : Int), false, []⟩
  | some a => eD t (dn2 t det n a d) n d
def detK (t : TopD) (m : List Bool) (n k : Nat) : List Bool := (List.range (arcsD t)).map fun a => decide (a ∈ (outD t n).take k) && m.getD a false
def detD (t : TopD) (m : List Bool) (n : Nat) : List Bool := detK t m n (outD t n).length
noncomputable def repD (t : TopD) (f : CmpD) (n : Nat) : TabD := ⟨n, (List.range (nN t)).map fun (d : Nat) => entR t (detD t (mskD t f) n) n d, (outD t n).filter fun a => (mskD t f).getD a false⟩
end
section
variable {α : Type} {K : EK α} {w : World} {g o n c m i : Nat} {xs : List α}
theorem SlV.part (h : SlV K w (.slice (some ⟨g, o, none⟩) n c) xs) (hn : n ≤ c) (hi : i ≤ m) (hm : m ≤ n) : ∃ q : Option Addr, RowKit.Hid ((if c = i then some (⟨g, o, none⟩ : Addr) else some ⟨g, o + i * K.sz, none⟩) = q) ∧ SlV K w (.slice q (m - i) (c - i)) ((xs.take m).drop i) := by
  have hx := h.one0
  have ht := h.take (m := m) (by omega)
  have hl : (xs.take m).length = m := by rw [List.length_take]; omega
  refine ⟨_, hid rfl, ?_⟩
  by_cases e : c = i
  · rw [if_pos e, List.drop_eq_nil_of_le (by omega), show m - i = 0 by omega]
    exact .nil
  · rw [if_neg e]
    have := ht.drop (m := i) (by omega)
    rw [hl] at this
    exact this
theorem SlV.rest (h : SlV K w (.slice (some ⟨g, o, none⟩) n c) xs) (hn : n ≤ c) (hi : i ≤ n) : ∃ q : Option Addr, RowKit.Hid ((if c = i then some (⟨g, o, none⟩ : Addr) else some ⟨g, o + i * K.sz, none⟩) = q) ∧ SlV K w (.slice q (n - i) (c - i)) (xs.drop i) := by
  have := h.part (i := i) (m := n) hn hi (Nat.le_refl n)
  rwa [List.take_of_length_le (Nat.le_of_eq h.one0.symm)] at this
end
section
variable {α : Type} {K : EK α} [OwnK K] {V w : World} {l : List Ft} {t : TypeId} {g n c i : Nat} {xs : List α}
theorem SS.vdrop (h : SS V (rO K t (some ⟨g, 0, none⟩) n c xs :: l) w) (hi : i ≤ n) : ∃ q : Option Addr, RowKit.Hid ((if c = i then some (⟨g, 0, none⟩ : Addr) else some ⟨g, 0 + i * K.sz, none⟩) = q) ∧ SS V (vO K q (n - i) (c - i) (xs.drop i) :: l) w := by
  have hc := h.cap (List.mem_cons_self ..)
  have hn := h.len (List.mem_cons_self ..)
  obtain ⟨q, hq, hs⟩ := (h.slv (List.mem_cons_self ..)).rest (i := i) (by omega) hi
  have ho : ∀ g', ob q = some g' → g' = g := fun g' hg => by
    have e := hq.out
    subst e
    split at hg <;> · injection hg with hg; exact hg.symm
  exact ⟨q, hq, h.repl ⟨fun g' hg => by rw [ho g' hg]; exact h.lt ⟨_, List.mem_cons_self .., rfl⟩, hs⟩ fun g' hg => by rw [ho g' hg]; rfl⟩
omit [OwnK K] in
theorem SlV.cut1 {w : World} {o : Nat} (h : SlV K w (.slice (some ⟨g, o, none⟩) n c) xs) (hn : 1 ≤ n) : SlV K w (.slice (some ⟨g, o, none⟩) 1 1) (xs.take 1) := by
  have hx := h.one0
  have h1 := h.take (m := 1) (by omega)
  have hl : (xs.take 1).length = 1 := by rw [List.length_take]; omega
  obtain ⟨css, h2, h3⟩ := h1
  refine ⟨css, h2, ?_⟩
  rcases h3 with ⟨e, _⟩ | ⟨g', o', c', e, h4, h5, h6, h7⟩
  · rw [e] at hl; cases hl
  · injection e with e1 e2 e3
    injection e1 with e1
    injection e1 with e4 e5 e6
    subst e4; subst e5
    exact .inr ⟨g, o, 1, by rw [hl], h4, by rw [hl]; exact Nat.le_refl 1, by decide, h7⟩
end
end Go.Proofs.YtmcfomainmppdaaGreatDoor
namespace Go.Proofs.YtmcfomainmppdaaGreatDoor
open Go.RowKit
open Go.Lib (decDigits)
section
variable {P : Program} {V : World} {ops : Array Oper} {Q : Act → World → Prop} {f0 fs fs' : List Ft} {ks : List Nat} {o : Oper} {rest : List Oper} {a a' : Act} {t : TypeId}
theorem OwV.has0 {α : Type} {K : EK α} {w : World} {base R : Nat} (h : OwV K t base w (.slice (some ⟨R, 0, none⟩) 0 0) []) : Has base R (.cells #[] t) w := by
  obtain ⟨css, h1, hl, ⟨e, h0⟩ | ⟨g', cap, cur, e, hb, hh, hc1, hc2, hs, ht⟩⟩ := h
  · cases e
  · injection e with e1 e2 e3
    injection e1 with e1
    injection e1 with e1
    subst e1; subst e3
    have hc : cur = #[] := Array.eq_empty_of_size_eq_zero (by rw [hs]; exact Nat.zero_mul _)
    subst hc
    exact ⟨hb, hh⟩
theorem sx0row {α : Type} {K : EK α} [OwnK K] {R : Nat} (h : Sx P V ops Q f0 ks rest (rO K t (some ⟨R, 0, none⟩) 0 0 [] :: fs) a) (hs : f0.Sublist fs) : Sx P V ops Q f0 ks rest (bx R (.cells #[] t) :: fs) a := ⟨fun _ => by
  have e : (⟨Own (bx R (.cells #[] t) :: fs), SS V (bx R (.cells #[] t) :: fs)⟩ : Kl) = ⟨Own (rO K t (some ⟨R, 0, none⟩) 0 0 [] :: fs), SS V (rO K t (some ⟨R, 0, none⟩) 0 0 [] :: fs)⟩ := by
    refine Kl.eq (fun g => ?_) fun w => ⟨fun k => k.repl (OwV.empty (k.box m0)) fun g e => (Option.some.inj e).symm, fun k => k.repl (OwV.has0 (k.own m0)) fun g (e : g = R) => by rw [e]; rfl⟩
    exact ⟨fun ⟨f, hf, hg⟩ => (List.mem_cons.1 hf).elim (fun e => ⟨_, List.mem_cons_self .., by subst e; rw [show g = R from hg]; rfl⟩) fun hf => ⟨f, List.mem_cons_of_mem _ hf, hg⟩, fun ⟨f, hf, hg⟩ => (List.mem_cons.1 hf).elim (fun e => ⟨_, List.mem_cons_self .., by subst e; exact (Option.some.inj hg).symm⟩) fun hf => ⟨f, List.mem_cons_of_mem _ hf, hg⟩⟩
  rw [e]
  exact h.out (hs.cons _)⟩
theorem eA0 {α : Type} {K : EK α} [OwnK K] {a2 : Nat → Act} (h : ∀ R, Sx P V ops Q f0 ks rest (rO K t (some ⟨R, 0, none⟩) 0 0 [] :: fs) (a2 R)) (hs : f0.Sublist fs := by exact List.nil_sublist _) (hg : Wants ops o a := by first | exact wants0 rfl | exact wantsg rfl rfl rfl rfl) (h1 : ∀ w, (execOp a.eval o).run P w = .ok (.value (mkOf o w.heap.size)) (w.alloc (.cells #[] t)) := by intro w'; go_simp; rfl) (ha : ∀ R, a.put o.dst (mkOf o R) = a2 R := by intro R; (simp only [mkOf, Act.put, pA, pB, pC, pD, pE]) <;> exact rfl) : Sx P V ops Q f0 (3 :: ks) (o :: rest) fs a :=
  eA (.cells #[] t) (fun R => sx0row (h R) hs) hg h1 ha
theorem OwV.hd0 {α : Type} {K : EK α} {w : World} {base m n : Nat} {q : Option Addr} (h : OwV K t base w (.slice q n 0) []) : ∀ g, ob q = some g → HdIs g m w := fun g hg => by
  obtain ⟨css, h1, hl, ⟨e, h0⟩ | ⟨g', cap, cur, e, hb, hh, hc1, hc2, hs, ht⟩⟩ := h
  · injection e with e1; rw [e1] at hg; cases hg
  · injection e with e1 e2 e3
    subst e1; subst e3
    obtain rfl : g' = g := Option.some.inj hg
    have hc : cur = #[] := Array.eq_empty_of_size_eq_zero (by rw [hs]; exact Nat.zero_mul _)
    subst hc
    exact hdIs_nil (base := base) ⟨hb, hh⟩
theorem eAppE {α : Type} {K : EK α} [OwnK K] (m0 : Nat) (hno : (OwnK.S (K := K)).contains m0 = false) {q p : Option Addr} {n m c bytes : Nat} {tt uu u' : TypeId} {ys : List α} {z : Value} {s x : Operand} {a2 : Sl → Act} {fs2 : Sl → List Ft} (i : Nat) (hi : fs[i]? = some (rO K t q n 0 [])) (hinf : (P.info? t).map (fun i => (i.zero, i.size, i.bytes)) = some (some z, K.sz, bytes)) (hsrc : ∀ w, SS V fs w → SlV K w (.slice p m c) ys) (h63 : ys.length ≤ 1000000000) (h : ∀ y, Sx P V ops Q f0 ks rest (fs2 y) (a2 y)) (hf : ∀ y : Sl, fs.set i (rO K t y.p y.l y.c ys) = fs2 y := by intro y; (simp only [pB, pC]) <;> exact rfl) (hs : ∀ x, f0.Sublist (fs2 x) := by exact fun _ => List.nil_sublist _) (hq : OkL m0 i fs := by repeat (first | exact trivial | (show OkA _ _; assumption) | refine ⟨rfl, ?_⟩))
    (ho : o.op = .call { callee := .builtin .append, args := #[s, x], argTypes := #[tt, uu] } := by rfl) (ht : P.underlying tt = some (.slice t) := by first | rfl | kernel_rfl) (hu : P.underlying uu = some (.slice u') := by first | rfl | kernel_rfl) (hzs : z.cells.size = K.sz := by rfl) (hbz : bytes ≤ 100000 := by decide) (hes : a.eval s = .slice q n 0 := by rfl) (hex : a.eval x = .slice p m c := by rfl) (hg : Wants ops o a := by first | exact wants0 rfl | exact wantsg rfl rfl rfl rfl) (ha : ∀ y : Sl, a.put o.dst (.slice y.p y.l y.c) = a2 y := by intro x; (simp only [mkOf, Act.put, pA, pB, pC, pD, pE]) <;> exact rfl) : Sx P V ops Q f0 (5 :: ks) (o :: rest) fs a :=
  sxG (α := Sl) (g := fun y => .slice y.p y.l y.c) (f2 := fun y => rO K t y.p y.l y.c ys) (b := ob q) hi (fun R h => h) (fun w k => qtN (OwV.hd0 k) hq) (fun y => by rw [hf]; exact hs y) hg (fun w hw k => by
    refine (app_doesS (u' := u') ho ht hu hinf hzs hes hex (by simp [maxLen]; omega) (Nat.le_trans (Nat.mul_le_mul (show [].length + ys.length ≤ 1000000000 by simpa using h63) hbz) (by decide)) k (fun g hg => .inr ((OwV.hd0 k g hg).no hno)) (hsrc w hw)).mono fun u w' ⟨y, e1, e2, e3, e4⟩ => ⟨y, e1, e2, e3, e4⟩) fun y => by rw [hf, ha]; exact h y
end
set_option maxRecDepth 100000 in
set_option maxHeartbeats 400000 in
theorem slist_any (w : World) {t : TopD} {p_t : Option Addr} {n_t c_t : Nat} {q_t : Option Addr} {m_t d_t : Nat} (ht : TopV w (.agg #[.int .i64 t.nodes, .slice p_t n_t c_t, .slice q_t m_t d_t]) t) {p_d : Option Addr} {n_d c_d : Nat} {down : List Bool} (hd : SlV boolK w (.slice p_d n_d c_d) down) {p_P : Option Addr} {n_P c_P : Nat} {P0 : List Int} (hP : SlV intK w (.slice p_P n_P c_P) P0) (n1 : Nat) {p : List Nat} (hP0 : P0 = natI p) (hl : t.links.length ≤ 100000) (ht2 : topOk t = true) (hn1 : n1 < nN t) (hW : WayD t n1 p) (hP1 : p.length ≤ 100000) (hdl : RowKit.Hid (down.length = 0 ∨ down.length = arcsD t)) (hup : ∀ a ∈ p, upD down a = true) :
    Calls Tryz.prog 114 #[.agg #[.int .i64 t.nodes, .slice p_t n_t c_t, .slice q_t m_t d_t], .slice p_d n_d c_d, .slice p_P n_P c_P, .int .i64 (n1 : Int)] w fun e w' => ∃ x : Sl, e = .returned (.tuple #[.slice x.p x.l x.c, .int .i64 0]) ∧ SS w [rO segK 83 x.p x.l x.c (encL t [] n1 p)] w' := by
  have ht_1 := ht.parts.1; have ht_2 := ht.parts.2; have b_t : m_t ≤ 100000 := (by rw [ht_2.one0]; exact hl); have a_t : arcsD t ≤ 200000 := (by unfold arcsD; omega)
  have hK := SS.start w
  obtain rfl := hP0
  have hpl := hid (hP.one0.trans (natI_len p)); have hpl1 := Nat.le_of_eq hpl.out; have hpl2 := Nat.le_of_eq hpl.out.symm; have hnt := hid (topN ht2).1; have hnd : (decide (0 ≤ ((n1 : Nat) : Int)) && decide (((n1 : Nat) : Int) < t.nodes)) = true := (by have q := hnt.out; simp; omega)
  refine Calls.hide (fun Q0 hQ0 => ?_)
  go_enter Tryz.func114, Tryz.ntmps114
  go_upto_region 0 with (fail)
  refine wp_region_T [3, 0, 0] hK ?_
  clear hK
  refine eA (.cells #[.int .i64 t.nodes, .slice p_t n_t c_t, .slice q_t m_t d_t] 25) (fun R1 => ?_)
  iterate 2 refine e0 ?_
  refine sxEnd (fun W2 hK => ?_)
  go_upto_region 1 with (fail)
  refine wp_region_T [1, 0, 0, 0, 1, 0] hK ?_
  clear hK
  refine eL m0 ?_
  iterate 3 refine e0 ?_
  refine eQ (fun w k => scheck_any w (ht.below k.old) (hd.below k.old) (hP.below k.old) n1 rfl hl ht2 hn1 hW hP1 hdl hup) ?_
  refine e0 ?_
  refine sxEnd (fun W3 hK => ?_)
  go_upto_region 2 with (fail)
  refine wp_region_T [0, 0] hK ?_
  clear hK
  iterate 2 refine e0 ?_
  refine sxEnd (fun W4 hK => ?_)
  go_upto_region 4 with (fail)
  refine wp_region_T [1, 0, 0, 2, 0, 0, 0, 0] hK ?_
  clear hK
  refine eL m0 ?_
  iterate 2 refine e0 ?_
  refine eC (fun w k => elist_any w (ht.below k.old) SlV.nil (hP.below k.old) n1 rfl hl ht2 hn1 hW hP1 (hid (.inl rfl)) (fun _ _ => rfl)) (fun x5 => ?_)
  obtain ⟨p6, n6, c6⟩ := x5; dsimp only
  iterate 4 refine e0 ?_
  refine sxEnd (fun W7 hK => ?_)
  replace hK := hK.subl (sK2 (sC2 sZ2))
  go_wp2
  try go_ret
  show Q0 (.returned (.tuple #[.slice p6 n6 c6, .int .i64 0])) _
  exact (by obtain rfl := hQ0.out; exact ⟨⟨p6, n6, c6⟩, rfl, hK⟩)
set_option maxRecDepth 100000 in
theorem sclone_any (w : World) {p_Y : Option Addr} {n_Y c_Y : Nat} {Y : List SegD} (hY : SlV segK w (.slice p_Y n_Y c_Y) Y) (hYl : n_Y ≤ 100000) (hn0 : p_Y = none → n_Y = 0) :
    Calls Tryz.prog 115 #[.slice p_Y n_Y c_Y] w fun e w' => ∃ x : Sl, e = .returned (.slice x.p x.l x.c) ∧ SS w [rO segK 83 x.p x.l x.c Y] w' := by
  have hK := SS.start w
  refine Calls.hide (fun Q0 hQ0 => ?_)
  go_enter Tryz.func115, Tryz.ntmps115
  rcases p_Y with _ | aY
  · --
   go_upto_region 1 with (fail)
   refine wp_region_T [0, 0] hK ?_
   clear hK
   refine e0 ?_
   refine eV (.bool true) (fun w' => by go_simp; (try go_bits); exact ⟨rfl, rfl⟩) ?_
   refine sxEnd (fun W1 hK => ?_)
   obtain rfl : Y = [] := (by have q := hY.one0; have q2 : n_Y = 0 := hn0 rfl; exact List.eq_nil_of_length_eq_zero (by omega))
   replace hK := hK.fact (rO segK 83 none 0 0 ([] : List SegD)) OwV.nil (fun _ h => by cases h)
   go_wp2
   try go_ret
   show Q0 (.returned (.slice none 0 0)) _
   exact (by obtain rfl := hQ0.out; exact ⟨⟨none, 0, 0⟩, rfl, hK⟩)
  · --
   go_upto_region 1 with (fail)
   refine wp_region_T [0, 0] hK ?_
   clear hK
   refine e0 ?_
   refine eV (.bool false) (fun w' => by go_simp; (try go_bits); exact ⟨rfl, rfl⟩) ?_
   refine sxEnd (fun W2 hK => ?_)
   go_upto_region 3 with (fail)
   refine wp_region_T [3, 0, 5, 0] hK ?_
   clear hK
   refine eA0 (K := segK) (t := 83) (fun g3 => ?_)
   refine e0 ?_
   refine eAppE 1 rfl 0 rfl infoSeg (fun w k => hY.below k.old) (by have q := hY.one0; simp; omega) (fun x4 => ?_)
   obtain ⟨p4, n4, c4⟩ := x4; dsimp only
   refine e0 ?_
   refine sxEnd (fun W5 hK => ?_)
   go_wp2
   try go_ret
   show Q0 (.returned (.slice p4 n4 c4)) _
   exact (by obtain rfl := hQ0.out; exact ⟨⟨p4, n4, c4⟩, rfl, hK⟩)
set_option maxRecDepth 100000 in
set_option maxHeartbeats 2000000 in
theorem rentry_any (w : World) {t : TopD} {p_t : Option Addr} {n_t c_t : Nat} {q_t : Option Addr} {m_t d_t : Nat} (ht : TopV w (.agg #[.int .i64 t.nodes, .slice p_t n_t c_t, .slice q_t m_t d_t]) t) {p_d : Option Addr} {n_d c_d : Nat} {down : List Bool} (hd : SlV boolK w (.slice p_d n_d c_d) down) (s1 : Nat) (d1 : Nat) (hl : t.links.length ≤ 100000) (ht2 : topOk t = true) (hdl : RowKit.Hid (down.length = 0 ∨ down.length = arcsD t)) (hs1 : s1 < nN t) (hd1 : d1 < nN t) :
    Calls Tryz.prog 83 #[.agg #[.int .i64 t.nodes, .slice p_t n_t c_t, .slice q_t m_t d_t], .slice p_d n_d c_d, .int .i64 (s1 : Int), .int .i64 (d1 : Int)] w fun e w' => ∃ x : Duo Sl Sl, e = .returned (.tuple #[.agg #[.slice x.a.p x.a.l x.a.c, .bool (eD t down s1 d1).r, .slice x.b.p x.b.l x.b.c], .int .i64 0]) ∧ SS w [vO intK x.a.p x.a.l x.a.c (natI (eD t down s1 d1).a), rO segK 83 x.b.p x.b.l x.b.c (eD t down s1 d1).p] w' := by
  have ht_1 := ht.parts.1; have ht_2 := ht.parts.2; have b_t : m_t ≤ 100000 := (by rw [ht_2.one0]; exact hl); have a_t : arcsD t ≤ 200000 := (by unfold arcsD; omega)
  have hK := SS.start w
  refine Calls.hide (fun Q0 hQ0 => ?_)
  go_enter Tryz.func83, Tryz.ntmps83
  go_upto_region 0 with (fail)
  refine wp_region_T [3, 3, 0] hK ?_
  clear hK
  refine eA (.cells #[.int .i64 t.nodes, .slice p_t n_t c_t, .slice q_t m_t d_t] 25) (fun R1 => ?_)
  refine eA (.cells #[.slice none 0 0, .bool false, .slice none 0 0] 66) (fun R2 => ?_)
  refine e0 ?_
  refine sxEnd (fun W3 hK => ?_)
  go_upto_region 1 with (fail)
  refine wp_region_T [1, 0, 0, 0, 2, 0, 0, 0, 0, 0] hK ?_
  clear hK
  refine eL m1 ?_
  iterate 3 refine e0 ?_
  refine eC (fun w k => ppath_any w (ht.below k.old) (hd.below k.old) s1 d1 hl ht2 hdl hs1 hd1) (fun x4 => ?_)
  obtain ⟨p5, n5, c5⟩ := x4; dsimp only
  iterate 5 refine e0 ?_
  refine sxEnd (fun W6 hK => ?_)
  have hcT := hid (chkT_or t down s1 d1); have hpe := hid (hK.len m0); have hpe2 := hid (hpe.out.trans (natI_len _)); have hpe3 := Nat.le_of_eq hpe2.out; have hpe4 := Nat.le_of_eq hpe2.out.symm
  go_upto_region 2 with (fail)
  refine wp_region_T [0, 0, 0, 0, 0, 0] hK ?_
  clear hK
  refine e0 ?_
  refine eB (((chkT t down s1 d1)) != 0) (fun b1 hb1 => ?_)
  refine e0 ?_
  cases b1
  · --
   iterate 2 refine eN ?_
   refine e0 ?_
   refine sxEnd (fun W7 hK => ?_)
   go_upto_region 4 with (fail)
   refine wp_region_T [0, 0, 0] hK ?_
   clear hK
   iterate 2 refine e0 ?_
   refine eB (((n5 : Int)) == 0) (fun b2 hb2 => ?_)
   refine sxEnd (fun W8 hK => ?_)
   cases b2
   · --
    have hpn : pthT t down s1 d1 ≠ [] := (by intro e; have q := hb2.out; have q2 := hpe2.out; rw [e] at q2; simp at q q2; omega); replace hpn := hid hpn; have hc0 : chkT t down s1 d1 = 0 := hcT.out.elim id (fun h => absurd (pthT_no (by rw [h]; decide)) hpn.out); replace hc0 := hid hc0; have hF := hid (hK.get m1 hc0.out); have hI := hid (isdst_of w ht hd d1 hl (chk_of ht2 hdl.out hd1)); have hWy := hF.out.way; have hW := hWy.1; have hup := hWy.2; have hsh := fst_short ht2 hI.out hc0.out hF.out; have hnm := (topN ht2).2.2.1; clear hWy
    replace hK := hK.subl (sK2 (sC2 (List.Sublist.refl _)))
    go_upto_region 6 with (fail)
    refine wp_region_T [1, 0, 0, 0, 2, 0, 0, 0, 0, 0] hK ?_
    clear hK
    refine eL m2 ?_
    iterate 3 refine e0 ?_
    refine eC (fun w k => slist_any w (ht.below k.old) (hd.below k.old) (k.slv m0) s1 rfl hl ht2 hs1 hW (by omega) hdl hup) (fun x9 => ?_)
    obtain ⟨p10, n10, c10⟩ := x9; dsimp only
    iterate 5 refine e0 ?_
    refine sxEnd (fun W11 hK => ?_)
    have hne := hid (encL_ne (t := t) (down := []) (n := s1) hpn.out); have hsl := hid (hK.len m0); have hsl3 := Nat.le_of_eq hsl.out; have hsl4 := Nat.le_of_eq hsl.out.symm; have hsb : (encL t [] s1 (pthT t down s1 d1)).length ≤ (pthT t down s1 d1).length := encG_len; have hsp := List.length_pos_iff.2 hne.out
    have i12 : 0 < n10 := (by omega)
    obtain ⟨g12, rfl⟩ := hK.pt m0 i12
    have l12 : 0 < (encL t [] s1 (pthT t down s1 d1)).length := Nat.lt_of_lt_of_eq i12 (hK.len m0)
    obtain ⟨x0, ex0⟩ : ∃ z0, RowKit.Hid ((encL t [] s1 (pthT t down s1 d1))[0]? = some z0) := ⟨_, hid (List.getElem?_eq_getElem l12)⟩
    go_upto_region 7 with (fail)
    refine wp_region_T [0, 0, 0, 1, 0] hK ?_
    clear hK
    iterate 3 refine e0 ?_
    refine eR (fun w k => (k.own m0).seg0 ex0.out rfl) ?_
    refine eB (x0.k == 2) (fun b3 hb3 => ?_)
    refine sxEnd (fun W13 hK => ?_)
    cases b3
    · --
     replace hK := hK.vo; have hle : encL t [] s1 (pthT t down s1 d1) = lstD t down s1 d1 := (drop_seg ex0.out hb3.out).symm; rw [hle] at hK hsl3 hsl4; clear hle; have hll := hsl4; have hll2 := hsl3
     go_upto_region 9 with (fail)
     refine wp_region_T [0, 0, 0] hK ?_
     clear hK
     refine e0 ?_
     refine eV (.int .i64 ((n10 : Nat) : Int)) (fun w' => by go_simp; (try go_bits); exact ⟨rfl, rfl⟩) ?_
     refine eB (decide (32 < (((n10 : Nat) : Int)))) (fun b4 hb4 => ?_)
     refine sxEnd (fun W14 hK => ?_)
     cases b4
     · --
      have q_b4 : (((n10 : Nat) : Int)) ≤ 32 := Int.not_lt.1 (of_decide_eq_false hb4.out)
      replace hK := hK.up1
      obtain ⟨gP, rfl⟩ := hK.pt m0 (i := 0) (by omega)
      have hcp := hK.cap m0; have hcq : 1 ≤ c5 := (by have q := hcp.1; rw [natI_len] at q; omega); replace hK := hK.vcut (m := 1) (c' := 1) (fun w h => h.cut1 (by omega)); rw [show (natI (pthT t down s1 d1)).take 1 = natI ((pthT t down s1 d1).take 1) from by unfold natI; rw [List.map_take]] at hK
      go_upto_region 11 with (fail)
      refine wp_region_S _ [0, 0, 0, 2, 0, 4, 0] hK ?_ (sK2 (sK2 (sC2 (List.Sublist.refl _))))
      clear hK
      refine e0 ?_
      refine eV (.slice (some ⟨gP, 0, none⟩) 1 1) (fun w' => by go_simp; (try go_bits); rw [if_pos (by omega)]; exact ⟨rfl, rfl⟩) ?_
      refine e0 ?_
      refine eC (fun w k => sclone_any w (k.get m1).2 (by omega) (fun e => by cases e)) (fun x15 => ?_)
      obtain ⟨p16, n16, c16⟩ := x15; dsimp only
      refine e0 ?_
      refine eP 3 0 [.slice (some ⟨gP, 0, none⟩) 1 1, .bool true, .slice p16 n16 c16] ?_ (hs := (sC2 (sK2 (sK2 (sC2 (List.Sublist.refl _))))))
      refine e0 ?_
      refine sxEnd (fun W17 hK => ?_)
      have hE : eD t down s1 d1 = ⟨(pthT t down s1 d1).take 1, true, lstD t down s1 d1⟩ := eD_yes hpn.out (by have q := of_decide_eq_false hb4.out; omega); have ⟨c90, c91, c92⟩ := (hK.box m3).c3
      replace hK := hK.subl (sK2 (sK2 (sC2 (sC2 (sC2 sZ2)))))
      replace hK := hK.up1
      go_wp2
      exact bodyPost_ret (v := .tuple #[.agg #[.slice (some ⟨gP, 0, none⟩) 1 1, .bool true, .slice p16 n16 c16], .int .i64 0]) (by simp [results, Tryz.results83, go_sem, c90, c91, c92]) rfl (by obtain rfl := hQ0.out; rw [hE]; exact ⟨⟨⟨some ⟨gP, 0, none⟩, 1, 1⟩, ⟨p16, n16, c16⟩⟩, rfl, hK⟩)
     · --
      have q_b4 : 32 < (((n10 : Nat) : Int)) := of_decide_eq_true hb4.out
      go_upto_region 10 with (fail)
      refine wp_region_T [0, 4, 0] hK ?_
      clear hK
      refine e0 ?_
      refine eP 2 0 [.slice none 0 0, .bool false, .slice none 0 0] ?_
      refine e0 ?_
      refine sxEnd (fun W18 hK => ?_)
      have hE : eD t down s1 d1 = ⟨[], false, []⟩ := eD_many (by have q := of_decide_eq_true hb4.out; omega)
      replace hK := hK.fact (rO segK 83 none 0 0 ([] : List SegD)) OwV.nil (fun _ h => by cases h); replace hK := (hK.fact (rO intK 3 none 0 0 (natI [])) OwV.nil (fun _ h => by cases h)).vo
      have ⟨c90, c91, c92⟩ := (hK.box m4).c3
      replace hK := hK.subl (sK2 (sK2 (sC2 (sC2 (sC2 (sC2 sZ2))))))
      go_wp2
      exact bodyPost_ret (v := .tuple #[.agg #[.slice none 0 0, .bool false, .slice none 0 0], .int .i64 0]) (by simp [results, Tryz.results83, go_sem, c90, c91, c92]) rfl (by obtain rfl := hQ0.out; rw [hE]; exact ⟨⟨⟨none, 0, 0⟩, ⟨none, 0, 0⟩⟩, rfl, hK⟩)
    · --
     obtain ⟨q8, hq8, hK⟩ := hK.vdrop (i := 1) (by omega); rw [show (encL t [] s1 (pthT t down s1 d1)).drop 1 = lstD t down s1 d1 from (drop_arc ex0.out hb3.out).symm] at hK
     have hll : (lstD t down s1 d1).length ≤ n10 - 1 := (by rw [show lstD t down s1 d1 = (encL t [] s1 (pthT t down s1 d1)).drop 1 from drop_arc ex0.out hb3.out, List.length_drop]; omega); have hll2 : n10 - 1 ≤ (lstD t down s1 d1).length := (by rw [show lstD t down s1 d1 = (encL t [] s1 (pthT t down s1 d1)).drop 1 from drop_arc ex0.out hb3.out, List.length_drop]; omega)
     go_upto_region 8 with (fail)
     refine wp_region_T [0, 0, 0] hK ?_
     clear hK
     refine e0 ?_
     refine eV (.slice q8 (n10 - 1) (c10 - 1)) (fun w' => by go_simp; (try go_bits); rw [if_pos (show 1 ≤ (n10 : Int) by omega)]; have q := hq8.out; exact ⟨congrArg (fun z => Value.slice z (n10 - 1) (c10 - 1)) q, rfl⟩) ?_
     refine e0 ?_
     refine sxEnd (fun W19 hK => ?_)
     go_upto_region 9 with (fail)
     refine wp_region_T [0, 0, 0] hK ?_
     clear hK
     refine e0 ?_
     refine eV (.int .i64 ((n10 - 1 : Nat) : Int)) (fun w' => by go_simp; (try go_bits); exact ⟨rfl, rfl⟩) ?_
     refine eB (decide (32 < (((n10 - 1 : Nat) : Int)))) (fun b4 hb4 => ?_)
     refine sxEnd (fun W20 hK => ?_)
     cases b4
     · --
      have q_b4 : (((n10 - 1 : Nat) : Int)) ≤ 32 := Int.not_lt.1 (of_decide_eq_false hb4.out)
      replace hK := hK.up1
      obtain ⟨gP, rfl⟩ := hK.pt m0 (i := 0) (by omega)
      have hcp := hK.cap m0; have hcq : 1 ≤ c5 := (by have q := hcp.1; rw [natI_len] at q; omega); replace hK := hK.vcut (m := 1) (c' := 1) (fun w h => h.cut1 (by omega)); rw [show (natI (pthT t down s1 d1)).take 1 = natI ((pthT t down s1 d1).take 1) from by unfold natI; rw [List.map_take]] at hK
      go_upto_region 11 with (fail)
      refine wp_region_S _ [0, 0, 0, 2, 0, 4, 0] hK ?_ (sK2 (sK2 (sC2 (List.Sublist.refl _))))
      clear hK
      refine e0 ?_
      refine eV (.slice (some ⟨gP, 0, none⟩) 1 1) (fun w' => by go_simp; (try go_bits); rw [if_pos (by omega)]; exact ⟨rfl, rfl⟩) ?_
      refine e0 ?_
      refine eC (fun w k => sclone_any w (k.get m1).2 (by omega) (fun e => by rw [e] at hq8; exact absurd hq8.out (by split <;> exact fun e => by cases e))) (fun x21 => ?_)
      obtain ⟨p22, n22, c22⟩ := x21; dsimp only
      refine e0 ?_
      refine eP 3 0 [.slice (some ⟨gP, 0, none⟩) 1 1, .bool true, .slice p22 n22 c22] ?_ (hs := (sC2 (sK2 (sK2 (sC2 (List.Sublist.refl _))))))
      refine e0 ?_
      refine sxEnd (fun W23 hK => ?_)
      have hE : eD t down s1 d1 = ⟨(pthT t down s1 d1).take 1, true, lstD t down s1 d1⟩ := eD_yes hpn.out (by have q := of_decide_eq_false hb4.out; omega); have ⟨c90, c91, c92⟩ := (hK.box m3).c3
      replace hK := hK.subl (sK2 (sK2 (sC2 (sC2 (sC2 sZ2)))))
      replace hK := hK.up1
      go_wp2
      exact bodyPost_ret (v := .tuple #[.agg #[.slice (some ⟨gP, 0, none⟩) 1 1, .bool true, .slice p22 n22 c22], .int .i64 0]) (by simp [results, Tryz.results83, go_sem, c90, c91, c92]) rfl (by obtain rfl := hQ0.out; rw [hE]; exact ⟨⟨⟨some ⟨gP, 0, none⟩, 1, 1⟩, ⟨p22, n22, c22⟩⟩, rfl, hK⟩)
     · --
      have q_b4 : 32 < (((n10 - 1 : Nat) : Int)) := of_decide_eq_true hb4.out
      go_upto_region 10 with (fail)
      refine wp_region_T [0, 4, 0] hK ?_
      clear hK
      refine e0 ?_
      refine eP 2 0 [.slice none 0 0, .bool false, .slice none 0 0] ?_
      refine e0 ?_
      refine sxEnd (fun W24 hK => ?_)
      have hE : eD t down s1 d1 = ⟨[], false, []⟩ := eD_many (by have q := of_decide_eq_true hb4.out; omega)
      replace hK := hK.fact (rO segK 83 none 0 0 ([] : List SegD)) OwV.nil (fun _ h => by cases h); replace hK := (hK.fact (rO intK 3 none 0 0 (natI [])) OwV.nil (fun _ h => by cases h)).vo
      have ⟨c90, c91, c92⟩ := (hK.box m4).c3
      replace hK := hK.subl (sK2 (sK2 (sC2 (sC2 (sC2 (sC2 sZ2))))))
      go_wp2
      exact bodyPost_ret (v := .tuple #[.agg #[.slice none 0 0, .bool false, .slice none 0 0], .int .i64 0]) (by simp [results, Tryz.results83, go_sem, c90, c91, c92]) rfl (by obtain rfl := hQ0.out; rw [hE]; exact ⟨⟨⟨none, 0, 0⟩, ⟨none, 0, 0⟩⟩, rfl, hK⟩)
   · --
    go_upto_region 5 with (fail)
    refine wp_region_T [0, 4, 0] hK ?_
    clear hK
    refine e0 ?_
    refine eP 2 0 [.slice none 0 0, .bool false, .slice none 0 0] ?_
    refine e0 ?_
    refine sxEnd (fun W25 hK => ?_)
    have hE : eD t down s1 d1 = ⟨[], false, []⟩ := eD_no (List.eq_nil_of_length_eq_zero (by have q := hb2.out; simp at q; omega))
    replace hK := hK.fact (rO segK 83 none 0 0 ([] : List SegD)) OwV.nil (fun _ h => by cases h); replace hK := (hK.fact (rO intK 3 none 0 0 (natI [])) OwV.nil (fun _ h => by cases h)).vo
    have ⟨c90, c91, c92⟩ := (hK.box m4).c3
    replace hK := hK.subl (sK2 (sK2 (sC2 (sC2 (sC2 (sC2 sZ2))))))
    go_wp2
    exact bodyPost_ret (v := .tuple #[.agg #[.slice none 0 0, .bool false, .slice none 0 0], .int .i64 0]) (by simp [results, Tryz.results83, go_sem, c90, c91, c92]) rfl (by obtain rfl := hQ0.out; rw [hE]; exact ⟨⟨⟨none, 0, 0⟩, ⟨none, 0, 0⟩⟩, rfl, hK⟩)
  · --
   refine e0 ?_
   refine eB (((chkT t down s1 d1)) != 11) (fun b2 hb2 => ?_)
   refine e0 ?_
   refine sxEnd (fun W26 hK => ?_)
   cases b2
   · --
    go_upto_region 4 with (fail)
    refine wp_region_T [0, 0, 0] hK ?_
    clear hK
    iterate 2 refine e0 ?_
    refine eB (((n5 : Int)) == 0) (fun b3 hb3 => ?_)
    refine sxEnd (fun W27 hK => ?_)
    cases b3
    · --
     have hpn : pthT t down s1 d1 ≠ [] := (by intro e; have q := hb3.out; have q2 := hpe2.out; rw [e] at q2; simp at q q2; omega); replace hpn := hid hpn; have hc0 : chkT t down s1 d1 = 0 := hcT.out.elim id (fun h => absurd (pthT_no (by rw [h]; decide)) hpn.out); replace hc0 := hid hc0; have hF := hid (hK.get m1 hc0.out); have hI := hid (isdst_of w ht hd d1 hl (chk_of ht2 hdl.out hd1)); have hWy := hF.out.way; have hW := hWy.1; have hup := hWy.2; have hsh := fst_short ht2 hI.out hc0.out hF.out; have hnm := (topN ht2).2.2.1; clear hWy
     replace hK := hK.subl (sK2 (sC2 (List.Sublist.refl _)))
     go_upto_region 6 with (fail)
     refine wp_region_T [1, 0, 0, 0, 2, 0, 0, 0, 0, 0] hK ?_
     clear hK
     refine eL m2 ?_
     iterate 3 refine e0 ?_
     refine eC (fun w k => slist_any w (ht.below k.old) (hd.below k.old) (k.slv m0) s1 rfl hl ht2 hs1 hW (by omega) hdl hup) (fun x28 => ?_)
     obtain ⟨p29, n29, c29⟩ := x28; dsimp only
     iterate 5 refine e0 ?_
     refine sxEnd (fun W30 hK => ?_)
     have hne := hid (encL_ne (t := t) (down := []) (n := s1) hpn.out); have hsl := hid (hK.len m0); have hsl3 := Nat.le_of_eq hsl.out; have hsl4 := Nat.le_of_eq hsl.out.symm; have hsb : (encL t [] s1 (pthT t down s1 d1)).length ≤ (pthT t down s1 d1).length := encG_len; have hsp := List.length_pos_iff.2 hne.out
     have i31 : 0 < n29 := (by omega)
     obtain ⟨g31, rfl⟩ := hK.pt m0 i31
     have l31 : 0 < (encL t [] s1 (pthT t down s1 d1)).length := Nat.lt_of_lt_of_eq i31 (hK.len m0)
     obtain ⟨x0, ex0⟩ : ∃ z0, RowKit.Hid ((encL t [] s1 (pthT t down s1 d1))[0]? = some z0) := ⟨_, hid (List.getElem?_eq_getElem l31)⟩
     go_upto_region 7 with (fail)
     refine wp_region_T [0, 0, 0, 1, 0] hK ?_
     clear hK
     iterate 3 refine e0 ?_
     refine eR (fun w k => (k.own m0).seg0 ex0.out rfl) ?_
     refine eB (x0.k == 2) (fun b4 hb4 => ?_)
     refine sxEnd (fun W32 hK => ?_)
     cases b4
     · --
      replace hK := hK.vo; have hle : encL t [] s1 (pthT t down s1 d1) = lstD t down s1 d1 := (drop_seg ex0.out hb4.out).symm; rw [hle] at hK hsl3 hsl4; clear hle; have hll := hsl4; have hll2 := hsl3
      go_upto_region 9 with (fail)
      refine wp_region_T [0, 0, 0] hK ?_
      clear hK
      refine e0 ?_
      refine eV (.int .i64 ((n29 : Nat) : Int)) (fun w' => by go_simp; (try go_bits); exact ⟨rfl, rfl⟩) ?_
      refine eB (decide (32 < (((n29 : Nat) : Int)))) (fun b5 hb5 => ?_)
      refine sxEnd (fun W33 hK => ?_)
      cases b5
      · --
       have q_b5 : (((n29 : Nat) : Int)) ≤ 32 := Int.not_lt.1 (of_decide_eq_false hb5.out)
       replace hK := hK.up1
       obtain ⟨gP, rfl⟩ := hK.pt m0 (i := 0) (by omega)
       have hcp := hK.cap m0; have hcq : 1 ≤ c5 := (by have q := hcp.1; rw [natI_len] at q; omega); replace hK := hK.vcut (m := 1) (c' := 1) (fun w h => h.cut1 (by omega)); rw [show (natI (pthT t down s1 d1)).take 1 = natI ((pthT t down s1 d1).take 1) from by unfold natI; rw [List.map_take]] at hK
       go_upto_region 11 with (fail)
       refine wp_region_S _ [0, 0, 0, 2, 0, 4, 0] hK ?_ (sK2 (sK2 (sC2 (List.Sublist.refl _))))
       clear hK
       refine e0 ?_
       refine eV (.slice (some ⟨gP, 0, none⟩) 1 1) (fun w' => by go_simp; (try go_bits); rw [if_pos (by omega)]; exact ⟨rfl, rfl⟩) ?_
       refine e0 ?_
       refine eC (fun w k => sclone_any w (k.get m1).2 (by omega) (fun e => by cases e)) (fun x34 => ?_)
       obtain ⟨p35, n35, c35⟩ := x34; dsimp only
       refine e0 ?_
       refine eP 3 0 [.slice (some ⟨gP, 0, none⟩) 1 1, .bool true, .slice p35 n35 c35] ?_ (hs := (sC2 (sK2 (sK2 (sC2 (List.Sublist.refl _))))))
       refine e0 ?_
       refine sxEnd (fun W36 hK => ?_)
       have hE : eD t down s1 d1 = ⟨(pthT t down s1 d1).take 1, true, lstD t down s1 d1⟩ := eD_yes hpn.out (by have q := of_decide_eq_false hb5.out; omega); have ⟨c90, c91, c92⟩ := (hK.box m3).c3
       replace hK := hK.subl (sK2 (sK2 (sC2 (sC2 (sC2 sZ2)))))
       replace hK := hK.up1
       go_wp2
       exact bodyPost_ret (v := .tuple #[.agg #[.slice (some ⟨gP, 0, none⟩) 1 1, .bool true, .slice p35 n35 c35], .int .i64 0]) (by simp [results, Tryz.results83, go_sem, c90, c91, c92]) rfl (by obtain rfl := hQ0.out; rw [hE]; exact ⟨⟨⟨some ⟨gP, 0, none⟩, 1, 1⟩, ⟨p35, n35, c35⟩⟩, rfl, hK⟩)
      · --
       have q_b5 : 32 < (((n29 : Nat) : Int)) := of_decide_eq_true hb5.out
       go_upto_region 10 with (fail)
       refine wp_region_T [0, 4, 0] hK ?_
       clear hK
       refine e0 ?_
       refine eP 2 0 [.slice none 0 0, .bool false, .slice none 0 0] ?_
       refine e0 ?_
       refine sxEnd (fun W37 hK => ?_)
       have hE : eD t down s1 d1 = ⟨[], false, []⟩ := eD_many (by have q := of_decide_eq_true hb5.out; omega)
       replace hK := hK.fact (rO segK 83 none 0 0 ([] : List SegD)) OwV.nil (fun _ h => by cases h); replace hK := (hK.fact (rO intK 3 none 0 0 (natI [])) OwV.nil (fun _ h => by cases h)).vo
       have ⟨c90, c91, c92⟩ := (hK.box m4).c3
       replace hK := hK.subl (sK2 (sK2 (sC2 (sC2 (sC2 (sC2 sZ2))))))
       go_wp2
       exact bodyPost_ret (v := .tuple #[.agg #[.slice none 0 0, .bool false, .slice none 0 0], .int .i64 0]) (by simp [results, Tryz.results83, go_sem, c90, c91, c92]) rfl (by obtain rfl := hQ0.out; rw [hE]; exact ⟨⟨⟨none, 0, 0⟩, ⟨none, 0, 0⟩⟩, rfl, hK⟩)
     · --
      obtain ⟨q8, hq8, hK⟩ := hK.vdrop (i := 1) (by omega); rw [show (encL t [] s1 (pthT t down s1 d1)).drop 1 = lstD t down s1 d1 from (drop_arc ex0.out hb4.out).symm] at hK
      have hll : (lstD t down s1 d1).length ≤ n29 - 1 := (by rw [show lstD t down s1 d1 = (encL t [] s1 (pthT t down s1 d1)).drop 1 from drop_arc ex0.out hb4.out, List.length_drop]; omega); have hll2 : n29 - 1 ≤ (lstD t down s1 d1).length := (by rw [show lstD t down s1 d1 = (encL t [] s1 (pthT t down s1 d1)).drop 1 from drop_arc ex0.out hb4.out, List.length_drop]; omega)
      go_upto_region 8 with (fail)
      refine wp_region_T [0, 0, 0] hK ?_
      clear hK
      refine e0 ?_
      refine eV (.slice q8 (n29 - 1) (c29 - 1)) (fun w' => by go_simp; (try go_bits); rw [if_pos (show 1 ≤ (n29 : Int) by omega)]; have q := hq8.out; exact ⟨congrArg (fun z => Value.slice z (n29 - 1) (c29 - 1)) q, rfl⟩) ?_
      refine e0 ?_
      refine sxEnd (fun W38 hK => ?_)
      go_upto_region 9 with (fail)
      refine wp_region_T [0, 0, 0] hK ?_
      clear hK
      refine e0 ?_
      refine eV (.int .i64 ((n29 - 1 : Nat) : Int)) (fun w' => by go_simp; (try go_bits); exact ⟨rfl, rfl⟩) ?_
      refine eB (decide (32 < (((n29 - 1 : Nat) : Int)))) (fun b5 hb5 => ?_)
      refine sxEnd (fun W39 hK => ?_)
      cases b5
      · --
       have q_b5 : (((n29 - 1 : Nat) : Int)) ≤ 32 := Int.not_lt.1 (of_decide_eq_false hb5.out)
       replace hK := hK.up1
       obtain ⟨gP, rfl⟩ := hK.pt m0 (i := 0) (by omega)
       have hcp := hK.cap m0; have hcq : 1 ≤ c5 := (by have q := hcp.1; rw [natI_len] at q; omega); replace hK := hK.vcut (m := 1) (c' := 1) (fun w h => h.cut1 (by omega)); rw [show (natI (pthT t down s1 d1)).take 1 = natI ((pthT t down s1 d1).take 1) from by unfold natI; rw [List.map_take]] at hK
       go_upto_region 11 with (fail)
       refine wp_region_S _ [0, 0, 0, 2, 0, 4, 0] hK ?_ (sK2 (sK2 (sC2 (List.Sublist.refl _))))
       clear hK
       refine e0 ?_
       refine eV (.slice (some ⟨gP, 0, none⟩) 1 1) (fun w' => by go_simp; (try go_bits); rw [if_pos (by omega)]; exact ⟨rfl, rfl⟩) ?_
       refine e0 ?_
       refine eC (fun w k => sclone_any w (k.get m1).2 (by omega) (fun e => by rw [e] at hq8; exact absurd hq8.out (by split <;> exact fun e => by cases e))) (fun x40 => ?_)
       obtain ⟨p41, n41, c41⟩ := x40; dsimp only
       refine e0 ?_
       refine eP 3 0 [.slice (some ⟨gP, 0, none⟩) 1 1, .bool true, .slice p41 n41 c41] ?_ (hs := (sC2 (sK2 (sK2 (sC2 (List.Sublist.refl _))))))
       refine e0 ?_
       refine sxEnd (fun W42 hK => ?_)
       have hE : eD t down s1 d1 = ⟨(pthT t down s1 d1).take 1, true, lstD t down s1 d1⟩ := eD_yes hpn.out (by have q := of_decide_eq_false hb5.out; omega); have ⟨c90, c91, c92⟩ := (hK.box m3).c3
       replace hK := hK.subl (sK2 (sK2 (sC2 (sC2 (sC2 sZ2)))))
       replace hK := hK.up1
       go_wp2
       exact bodyPost_ret (v := .tuple #[.agg #[.slice (some ⟨gP, 0, none⟩) 1 1, .bool true, .slice p41 n41 c41], .int .i64 0]) (by simp [results, Tryz.results83, go_sem, c90, c91, c92]) rfl (by obtain rfl := hQ0.out; rw [hE]; exact ⟨⟨⟨some ⟨gP, 0, none⟩, 1, 1⟩, ⟨p41, n41, c41⟩⟩, rfl, hK⟩)
      · --
       have q_b5 : 32 < (((n29 - 1 : Nat) : Int)) := of_decide_eq_true hb5.out
       go_upto_region 10 with (fail)
       refine wp_region_T [0, 4, 0] hK ?_
       clear hK
       refine e0 ?_
       refine eP 2 0 [.slice none 0 0, .bool false, .slice none 0 0] ?_
       refine e0 ?_
       refine sxEnd (fun W43 hK => ?_)
       have hE : eD t down s1 d1 = ⟨[], false, []⟩ := eD_many (by have q := of_decide_eq_true hb5.out; omega)
       replace hK := hK.fact (rO segK 83 none 0 0 ([] : List SegD)) OwV.nil (fun _ h => by cases h); replace hK := (hK.fact (rO intK 3 none 0 0 (natI [])) OwV.nil (fun _ h => by cases h)).vo
       have ⟨c90, c91, c92⟩ := (hK.box m4).c3
       replace hK := hK.subl (sK2 (sK2 (sC2 (sC2 (sC2 (sC2 sZ2))))))
       go_wp2
       exact bodyPost_ret (v := .tuple #[.agg #[.slice none 0 0, .bool false, .slice none 0 0], .int .i64 0]) (by simp [results, Tryz.results83, go_sem, c90, c91, c92]) rfl (by obtain rfl := hQ0.out; rw [hE]; exact ⟨⟨⟨none, 0, 0⟩, ⟨none, 0, 0⟩⟩, rfl, hK⟩)
    · --
     go_upto_region 5 with (fail)
     refine wp_region_T [0, 4, 0] hK ?_
     clear hK
     refine e0 ?_
     refine eP 2 0 [.slice none 0 0, .bool false, .slice none 0 0] ?_
     refine e0 ?_
     refine sxEnd (fun W44 hK => ?_)
     have hE : eD t down s1 d1 = ⟨[], false, []⟩ := eD_no (List.eq_nil_of_length_eq_zero (by have q := hb3.out; simp at q; omega))
     replace hK := hK.fact (rO segK 83 none 0 0 ([] : List SegD)) OwV.nil (fun _ h => by cases h); replace hK := (hK.fact (rO intK 3 none 0 0 (natI [])) OwV.nil (fun _ h => by cases h)).vo
     have ⟨c90, c91, c92⟩ := (hK.box m4).c3
     replace hK := hK.subl (sK2 (sK2 (sC2 (sC2 (sC2 (sC2 sZ2))))))
     go_wp2
     exact bodyPost_ret (v := .tuple #[.agg #[.slice none 0 0, .bool false, .slice none 0 0], .int .i64 0]) (by simp [results, Tryz.results83, go_sem, c90, c91, c92]) rfl (by obtain rfl := hQ0.out; rw [hE]; exact ⟨⟨⟨none, 0, 0⟩, ⟨none, 0, 0⟩⟩, rfl, hK⟩)
   · --
    exact absurd hcT.out (fun h => by have q1 := hb1.out; have q2 := hb2.out; rcases h with h | h <;> (rw [h] at q1 q2; revert q1 q2; decide))
end Go.Proofs.YtmcfomainmppdaaGreatDoor
