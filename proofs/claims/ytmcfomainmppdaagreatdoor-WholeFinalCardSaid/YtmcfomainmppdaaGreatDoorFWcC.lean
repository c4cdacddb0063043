/- A range over the links of a component, in the logic of facts: what the iterator is, the law of the statement. The iterator over the links of a component. A range over the links of a component: the law of the statement, in the logic of facts. -/
import Derived.RangeFuncNested
import Derived.RangeFuncBound
import Derived.RangeFuncCalls
import Derived.RangeFuncLeaves
import Derived.Shelf.Abstract
import Derived.Shelf.RegionOpen
import Derived.WalkKit
import Derived.OwnWalkIn
import Derived.TacticsInMore
import Derived.LoopNIn
import Derived.LoopIn
import Derived.Sort.CutIn
import Derived.Test.YtmcfomainmppdaaGreatDoorFSm
import Derived.Test.YtmcfomainmppdaaGreatDoorFWhE
namespace Go.Proofs.YtmcfomainmppdaaGreatDoor
open Go.RowKit Go.Shelf
open Go.Lib (decDigits)
attribute [local go_sem] Oper.semAt_some
section
variable {V w : World} {l : List Ft} {r i : Nat} {o o' : Obj}
theorem SS.putO (h : SS V (bx r o :: l) w) (hz : OzA l) : SS V (bx r o' :: l) (w.putObj r o') := by
  have hb := h.box (List.mem_cons_self ..)
  have := h.turn (i := 0) (f' := bx r o') rfl (grownBy_putObj' w r o') (fun R e => by cases e; rfl) (qtZ hz) ⟨Nat.zero_le _, World.putObj_heap_same (Array.getElem?_eq_some_iff.1 hb.2).1⟩ fun g hg => .inl hg
  simpa using this
theorem SS.newO (h : SS V l w) (o : Obj) : SS V (bx w.heap.size o :: l) (w.alloc o) := by
  have h1 := (SS.start w).step ((Below.refl _ w).alloc (Nat.le_refl _) o)
  have h2 : SS w [bx w.heap.size o] (w.alloc o) := h1.one ⟨Nat.zero_le _, World.alloc_heap_new w o⟩ (fun g hg => by rw [show g = w.heap.size from hg]; exact Nat.le_refl _) fun f hf => absurd hf List.not_mem_nil
  exact h.more h2
theorem OzA.app : ∀ {a b : List Ft}, OzA a → OzA b → OzA (a ++ b)
  | [], _, _, h => h
  | _ :: _, _, h1, h2 => ⟨h1.1, OzA.app h1.2 h2⟩
theorem SS.midO {V w : World} {A B : List Ft} {r : Nat} {o o' : Obj} (h : SS V (A ++ bx r o :: B) w) (hA : OzA A) (hB : OzA B) : SS V (A ++ bx r o' :: B) (w.putObj r o') :=
  ((h.perm List.perm_middle).putO (hA.app hB)).perm List.perm_middle.symm
end
structure CmpD where
  k : Int
  n : Int
deriving DecidableEq
def cmpB (t : TopD) (c : CmpD) (i : Nat) : Bool := match t.links[i]? with
  | none => false
  | some x => if c.k = 1 then ((i : Int) == c.n) else if c.k = 2 then (x.a == c.n || x.b == c.n) else (x.grp == c.n)
abbrev KB (R : Nat) (c : CmpD) : Ft := bx R (.cells #[.int .i64 c.k, .int .i64 c.n] 44)
abbrev TPB (R : Nat) (t : TopD) (p : Option Addr) (n c : Nat) (q : Option Addr) (m d : Nat) : Ft := bx R (.cells #[.int .i64 t.nodes, .slice p n c, .slice q m d] 25)
section
variable {σ : Type} {V : World} {Rt Rc : Nat} {G : σ → List Ft} {Rel : Nat → σ → Prop} {t : TopD} {c : CmpD} {p_t : Option Addr} {n_t c_t : Nat} {q_t : Option Addr} {m_t d_t : Nat} {n l : Nat}
def RndI (V : World) (G : σ → List Ft) (Rel : Nat → σ → Prop) (t : TopD) (c : CmpD) (B : List Ft) (l : Nat) : Prop :=
  ∀ (m k : Nat) (s : σ) (W : World), k < t.links.length → cmpB t c k = true → Rel k s → SS V (B ++ G s) W → YieldAt Fence.wide m Tryz.prog l #[.int .i64 (k : Int)] W fun e W' =>
    e = .returned (.bool true) ∧ ∃ s', Rel (k + 1) s' ∧ SS V (B ++ G s') W'
def EndI (V : World) (G : σ → List Ft) (Rel : Nat → σ → Prop) (t : TopD) (B : List Ft) (W' : World) : Prop := ∃ s, Rel t.links.length s ∧ SS V (B ++ G s) W'
end
end Go.Proofs.YtmcfomainmppdaaGreatDoor
namespace Go.Proofs.YtmcfomainmppdaaGreatDoor
open Go.RowKit
open Go.Shelf
open Go.Lib (decDigits)
attribute [local go_sem] Oper.semAt_some
section
variable {t : TopD} {cn : Int} {k : Nat} {x : LnkD}
theorem cmp1 (h : t.links[k]? = some x) : cmpB t ⟨1, cn⟩ k = ((k : Int) == cn) := by unfold cmpB; rw [h]; rfl
theorem cmp2 (h : t.links[k]? = some x) : cmpB t ⟨2, cn⟩ k = (x.a == cn || x.b == cn) := by unfold cmpB; rw [h]; rfl
theorem cmp3 (h : t.links[k]? = some x) : cmpB t ⟨3, cn⟩ k = (x.grp == cn) := by unfold cmpB; rw [h]; rfl
end
set_option maxRecDepth 100000 in
set_option maxHeartbeats 2000000 in
theorem links_in1 {σ : Type} {V : World} {Rt Rc : Nat} {G : σ → List Ft} {Rel : Nat → σ → Prop} {t : TopD} {cn : Int} {p_t : Option Addr} {n_t c_t : Nat} {q_t : Option Addr} {m_t d_t : Nat} {n l : Nat} (hL : SlV lnkK V (.slice q_t m_t d_t) t.links) (hz : ∀ s, OzA (G s)) (hl : t.links.length ≤ 100000)
    (hY : RndI V G Rel t ⟨1, cn⟩ [TPB Rt t p_t n_t c_t q_t m_t d_t, KB Rc ⟨1, cn⟩] l) (hskip : ∀ k s, cmpB t ⟨1, cn⟩ k = false → Rel k s → Rel (k + 1) s) {s0 : σ} {W : World} (h0 : Rel 0 s0) (hK : SS V ([TPB Rt t p_t n_t c_t q_t m_t d_t, KB Rc ⟨1, cn⟩] ++ G s0) W) :
    CallsIn Fence.wide n Tryz.prog 150 #[.func (.yield l) #[] #[], .pointer (some ⟨Rt, 0, none⟩), .pointer (some ⟨Rc, 0, none⟩)] W fun e W' => (∃ v, e = .returned v) ∧ EndI V G Rel t [TPB Rt t p_t n_t c_t q_t m_t d_t, KB Rc ⟨1, cn⟩] W' := by
  refine callsIn_of_wp Tryz.func150 rfl trivial ?_ rfl
  simp only [Tryz.ntmps150, List.size_toArray, List.length_cons, List.length_nil, Nat.reduceAdd, Nat.reduceSub, Array.replicate_succ, Array.replicate_zero, List.push_toArray, List.append_toArray, List.nil_append, List.cons_append]
  have hml := hid hL.one0; have hml1 := Nat.le_of_eq hml.out; have hml2 := Nat.le_of_eq hml.out.symm
  have hK : SS V ((bx Rt (.cells #[.int .i64 t.nodes, .slice p_t n_t c_t, .slice q_t m_t d_t] 25)) :: (bx Rc (.cells #[.int .i64 1, .int .i64 cn] 44)) :: G s0) W := hK
  gi_upto_region 0 with (fail)
  refine wpIn_region_T (wide_wide _ _) [0, 1, 0, 0] hK ?_
  clear hK
  refine e0 ?_
  refine eL m0 ?_
  iterate 2 refine e0 ?_
  refine sxEnd (fun W1 hK => ?_)
  gi_wp2_with (fail)
  gi_loopw [10] (fun s10 wl => ∃ (kx : Nat) (sg : σ), s10 = .int .i64 (kx : Int) ∧ (kx ≤ m_t) ∧ (Rel kx sg) ∧ SS V ((bx Rt (.cells #[.int .i64 t.nodes, .slice p_t n_t c_t, .slice q_t m_t d_t] 25)) :: (bx Rc (.cells #[.int .i64 1, .int .i64 cn] 44)) :: G sg) wl) (fun s10 _ => m_t - (intOf s10).toNat)
  case atStart => exact ⟨0, s0, rfl, (by omega), h0, hK⟩
  case round =>
   clear hK
   obtain ⟨kx, sg, rfl, hk0, hr, hK⟩ := hrel
   generalize wr = W2 at hK ⊢
   gi_upto_region 1 with (fail)
   refine wpIn_region_T (wide_wide _ _) [0] hK ?_
   clear hK
   refine eB (decide (((kx : Int)) < ((m_t : Int)))) (fun b1 hb1 => ?_)
   refine sxEnd (fun W3 hK => ?_)
   cases b1
   · --
    have q_b1 : ((m_t : Int)) ≤ ((kx : Int)) := Int.not_lt.1 (of_decide_eq_false hb1.out)
    have hke : kx = t.links.length := (by omega)
    rw [hke] at hr
    gi_wp2
    go_end0
    exact ⟨⟨_, rfl⟩, sg, hr, hK⟩
   · --
    have q_b1 : ((kx : Int)) < ((m_t : Int)) := of_decide_eq_true hb1.out
    have hzs := hz sg
    have i4 : kx < m_t := (by omega)
    obtain ⟨g4, o4, rfl⟩ := hL.pt i4
    have l4 : kx < t.links.length := Nat.lt_of_lt_of_eq i4 (hL.one0)
    obtain ⟨x, ex⟩ : ∃ z0, RowKit.Hid (t.links[kx]? = some z0) := ⟨_, hid (List.getElem?_eq_getElem l4)⟩
    gi_upto_region 2 with (fail)
    refine wpIn_region_T (wide_wide _ _) [0, 0, 0, 3, 0, 4] hK ?_
    clear hK
    iterate 2 refine e0 ?_
    refine eRm0 (F := fun w => SlV lnkK w (.slice (some ⟨g4, o4, none⟩) m_t d_t) t.links) (fun w k => hL.below k.old) (h1 := by intro w' k; have c0 := (k).lnk0 ex.out rfl; have c1 := (k).lnk ex.out 1 rfl; have c2 := (k).lnk ex.out 2 rfl; have c3 := (k).lnk ex.out 3 rfl; have c4 := (k).lnk ex.out 4 rfl; have c5 := (k).lnk ex.out 5 rfl; have c6 := (k).lnk ex.out 6 rfl; go_simp; (try go_bits); exact ⟨rfl, rfl⟩) ?_
    refine eA (.cells #[.int .i64 0, .int .i64 0, .int .i64 0, .int .i64 0, .int .i64 0, .int .i64 0, .int .i64 0] 59) (fun R5 => ?_)
    refine e0 ?_
    refine eP 0 0 [.int .i64 x.a, .int .i64 x.b, .int .i64 x.c0, .int .i64 x.c1, .int .i64 x.cap, .int .i64 x.dly, .int .i64 x.grp] ?_
    refine sxEnd (fun W6 hK => ?_)
    gi_upto_region 4 with (fail)
    refine wpIn_region_T (wide_wide _ _) [0, 1] hK ?_
    clear hK
    refine e0 ?_
    refine eL m2 ?_
    refine sxEnd (fun W7 hK => ?_)
    gi_upto_region 5 with (fail)
    refine wpIn_region_T (wide_wide _ _) [0, 0] hK ?_
    clear hK
    iterate 2 refine e0 ?_
    refine sxEnd (fun W8 hK => ?_)
    gi_upto_region 6 with (fail)
    refine wpIn_region_T (wide_wide _ _) [0, 0, 1, 0, 0] hK ?_
    clear hK
    iterate 2 refine e0 ?_
    refine eL m2 ?_
    refine eB (((kx : Int)) == cn) (fun b2 hb2 => ?_)
    refine e0 ?_
    refine sxEnd (fun W9 hK => ?_)
    cases b2
    · --
     replace hK := hK.subl (sC2 (List.Sublist.refl _))
     have hcb : cmpB t ⟨1, cn⟩ kx = false := (cmp1 ex.out).trans hb2.out
     gi_upto_region 11 with (fail)
     refine wpIn_region_T (wide_wide _ _) [0, 0, 0, 0, 0, 0, 0] hK ?_
     clear hK
     iterate 2 refine e0 ?_
     iterate 4 refine eN ?_
     refine e0 ?_
     refine sxEnd (fun W10 hK => ?_)
     (try gi_wp2)
     go_roundw
     case rel => exact ⟨kx + 1, sg, (by first | rfl | go_num), (by omega), (hskip _ _ hcb hr), hK⟩
     case measure => simp [intOf] <;> omega
    · --
     replace hK := hK.subl (sC2 (List.Sublist.refl _))
     have hcb : cmpB t ⟨1, cn⟩ kx = true := (cmp1 ex.out).trans hb2.out
     obtain ⟨fn, tmps, assign, body, hy, hR⟩ := hY (n - 1) kx sg W9 (by omega) hcb hr hK
     clear hY
     gi_wp2
     refine ⟨fun e => (by cases e), hR.mono ?_⟩
     clear hR hy
     rintro e W5 ⟨rfl, s', hr', hK⟩
     gi_wp2
     (try gi_wp2)
     go_roundw
     case rel => exact ⟨kx + 1, s', (by first | rfl | go_num), (by omega), hr', hK⟩
     case measure => simp [intOf] <;> omega
set_option maxRecDepth 100000 in
set_option maxHeartbeats 2000000 in
theorem links_in2 {σ : Type} {V : World} {Rt Rc : Nat} {G : σ → List Ft} {Rel : Nat → σ → Prop} {t : TopD} {cn : Int} {p_t : Option Addr} {n_t c_t : Nat} {q_t : Option Addr} {m_t d_t : Nat} {n l : Nat} (hL : SlV lnkK V (.slice q_t m_t d_t) t.links) (hz : ∀ s, OzA (G s)) (hl : t.links.length ≤ 100000)
    (hY : RndI V G Rel t ⟨2, cn⟩ [TPB Rt t p_t n_t c_t q_t m_t d_t, KB Rc ⟨2, cn⟩] l) (hskip : ∀ k s, cmpB t ⟨2, cn⟩ k = false → Rel k s → Rel (k + 1) s) {s0 : σ} {W : World} (h0 : Rel 0 s0) (hK : SS V ([TPB Rt t p_t n_t c_t q_t m_t d_t, KB Rc ⟨2, cn⟩] ++ G s0) W) :
    CallsIn Fence.wide n Tryz.prog 150 #[.func (.yield l) #[] #[], .pointer (some ⟨Rt, 0, none⟩), .pointer (some ⟨Rc, 0, none⟩)] W fun e W' => (∃ v, e = .returned v) ∧ EndI V G Rel t [TPB Rt t p_t n_t c_t q_t m_t d_t, KB Rc ⟨2, cn⟩] W' := by
  refine callsIn_of_wp Tryz.func150 rfl trivial ?_ rfl
  simp only [Tryz.ntmps150, List.size_toArray, List.length_cons, List.length_nil, Nat.reduceAdd, Nat.reduceSub, Array.replicate_succ, Array.replicate_zero, List.push_toArray, List.append_toArray, List.nil_append, List.cons_append]
  have hml := hid hL.one0; have hml1 := Nat.le_of_eq hml.out; have hml2 := Nat.le_of_eq hml.out.symm
  have hK : SS V ((bx Rt (.cells #[.int .i64 t.nodes, .slice p_t n_t c_t, .slice q_t m_t d_t] 25)) :: (bx Rc (.cells #[.int .i64 2, .int .i64 cn] 44)) :: G s0) W := hK
  gi_upto_region 0 with (fail)
  refine wpIn_region_T (wide_wide _ _) [0, 1, 0, 0] hK ?_
  clear hK
  refine e0 ?_
  refine eL m0 ?_
  iterate 2 refine e0 ?_
  refine sxEnd (fun W1 hK => ?_)
  gi_wp2_with (fail)
  gi_loopw [10] (fun s10 wl => ∃ (kx : Nat) (sg : σ), s10 = .int .i64 (kx : Int) ∧ (kx ≤ m_t) ∧ (Rel kx sg) ∧ SS V ((bx Rt (.cells #[.int .i64 t.nodes, .slice p_t n_t c_t, .slice q_t m_t d_t] 25)) :: (bx Rc (.cells #[.int .i64 2, .int .i64 cn] 44)) :: G sg) wl) (fun s10 _ => m_t - (intOf s10).toNat)
  case atStart => exact ⟨0, s0, rfl, (by omega), h0, hK⟩
  case round =>
   clear hK
   obtain ⟨kx, sg, rfl, hk0, hr, hK⟩ := hrel
   generalize wr = W2 at hK ⊢
   gi_upto_region 1 with (fail)
   refine wpIn_region_T (wide_wide _ _) [0] hK ?_
   clear hK
   refine eB (decide (((kx : Int)) < ((m_t : Int)))) (fun b1 hb1 => ?_)
   refine sxEnd (fun W3 hK => ?_)
   cases b1
   · --
    have q_b1 : ((m_t : Int)) ≤ ((kx : Int)) := Int.not_lt.1 (of_decide_eq_false hb1.out)
    have hke : kx = t.links.length := (by omega)
    rw [hke] at hr
    gi_wp2
    go_end0
    exact ⟨⟨_, rfl⟩, sg, hr, hK⟩
   · --
    have q_b1 : ((kx : Int)) < ((m_t : Int)) := of_decide_eq_true hb1.out
    have hzs := hz sg
    have i4 : kx < m_t := (by omega)
    obtain ⟨g4, o4, rfl⟩ := hL.pt i4
    have l4 : kx < t.links.length := Nat.lt_of_lt_of_eq i4 (hL.one0)
    obtain ⟨x, ex⟩ : ∃ z0, RowKit.Hid (t.links[kx]? = some z0) := ⟨_, hid (List.getElem?_eq_getElem l4)⟩
    gi_upto_region 2 with (fail)
    refine wpIn_region_T (wide_wide _ _) [0, 0, 0, 3, 0, 4] hK ?_
    clear hK
    iterate 2 refine e0 ?_
    refine eRm0 (F := fun w => SlV lnkK w (.slice (some ⟨g4, o4, none⟩) m_t d_t) t.links) (fun w k => hL.below k.old) (h1 := by intro w' k; have c0 := (k).lnk0 ex.out rfl; have c1 := (k).lnk ex.out 1 rfl; have c2 := (k).lnk ex.out 2 rfl; have c3 := (k).lnk ex.out 3 rfl; have c4 := (k).lnk ex.out 4 rfl; have c5 := (k).lnk ex.out 5 rfl; have c6 := (k).lnk ex.out 6 rfl; go_simp; (try go_bits); exact ⟨rfl, rfl⟩) ?_
    refine eA (.cells #[.int .i64 0, .int .i64 0, .int .i64 0, .int .i64 0, .int .i64 0, .int .i64 0, .int .i64 0] 59) (fun R5 => ?_)
    refine e0 ?_
    refine eP 0 0 [.int .i64 x.a, .int .i64 x.b, .int .i64 x.c0, .int .i64 x.c1, .int .i64 x.cap, .int .i64 x.dly, .int .i64 x.grp] ?_
    refine sxEnd (fun W6 hK => ?_)
    gi_upto_region 4 with (fail)
    refine wpIn_region_T (wide_wide _ _) [0, 1] hK ?_
    clear hK
    refine e0 ?_
    refine eL m2 ?_
    refine sxEnd (fun W7 hK => ?_)
    gi_upto_region 5 with (fail)
    refine wpIn_region_T (wide_wide _ _) [0, 0] hK ?_
    clear hK
    iterate 2 refine e0 ?_
    refine sxEnd (fun W8 hK => ?_)
    gi_upto_region 7 with (fail)
    refine wpIn_region_T (wide_wide _ _) [0, 0] hK ?_
    clear hK
    iterate 2 refine e0 ?_
    refine sxEnd (fun W9 hK => ?_)
    gi_upto_region 8 with (fail)
    refine wpIn_region_T (wide_wide _ _) [0, 1, 0, 1, 0, 0, 0, 1, 0, 1, 0, 0, 0] hK ?_
    clear hK
    refine e0 ?_
    refine eL m0 ?_
    refine e0 ?_
    refine eL m2 ?_
    refine eB (x.a == cn) (fun b2 hb2 => ?_)
    refine e0 ?_
    cases b2
    · --
     refine e0 ?_
     refine eL m0 ?_
     refine e0 ?_
     refine eL m2 ?_
     refine eB (x.b == cn) (fun b3 hb3 => ?_)
     iterate 2 refine e0 ?_
     refine sxEnd (fun W10 hK => ?_)
     cases b3
     · --
      replace hK := hK.subl (sC2 (List.Sublist.refl _))
      have hcb : cmpB t ⟨2, cn⟩ kx = false := (cmp2 ex.out).trans (by rw [hb2.out, hb3.out]; rfl)
      gi_upto_region 11 with (fail)
      refine wpIn_region_T (wide_wide _ _) [0, 0, 0, 0, 0, 0, 0] hK ?_
      clear hK
      iterate 2 refine e0 ?_
      iterate 4 refine eN ?_
      refine e0 ?_
      refine sxEnd (fun W11 hK => ?_)
      (try gi_wp2)
      go_roundw
      case rel => exact ⟨kx + 1, sg, (by first | rfl | go_num), (by omega), (hskip _ _ hcb hr), hK⟩
      case measure => simp [intOf] <;> omega
     · --
      replace hK := hK.subl (sC2 (List.Sublist.refl _))
      have hcb : cmpB t ⟨2, cn⟩ kx = true := (cmp2 ex.out).trans (by rw [hb2.out, hb3.out]; rfl)
      obtain ⟨fn, tmps, assign, body, hy, hR⟩ := hY (n - 1) kx sg W10 (by omega) hcb hr hK
      clear hY
      gi_wp2
      refine ⟨fun e => (by cases e), hR.mono ?_⟩
      clear hR hy
      rintro e W5 ⟨rfl, s', hr', hK⟩
      gi_wp2
      (try gi_wp2)
      go_roundw
      case rel => exact ⟨kx + 1, s', (by first | rfl | go_num), (by omega), hr', hK⟩
      case measure => simp [intOf] <;> omega
    · --
     iterate 5 refine eN ?_
     iterate 2 refine e0 ?_
     refine sxEnd (fun W12 hK => ?_)
     replace hK := hK.subl (sC2 (List.Sublist.refl _))
     have hcb : cmpB t ⟨2, cn⟩ kx = true := (cmp2 ex.out).trans (by rw [hb2.out]; rfl)
     obtain ⟨fn, tmps, assign, body, hy, hR⟩ := hY (n - 1) kx sg W12 (by omega) hcb hr hK
     clear hY
     gi_wp2
     refine ⟨fun e => (by cases e), hR.mono ?_⟩
     clear hR hy
     rintro e W5 ⟨rfl, s', hr', hK⟩
     gi_wp2
     (try gi_wp2)
     go_roundw
     case rel => exact ⟨kx + 1, s', (by first | rfl | go_num), (by omega), hr', hK⟩
     case measure => simp [intOf] <;> omega
set_option maxRecDepth 100000 in
set_option maxHeartbeats 2000000 in
theorem links_in3 {σ : Type} {V : World} {Rt Rc : Nat} {G : σ → List Ft} {Rel : Nat → σ → Prop} {t : TopD} {cn : Int} {p_t : Option Addr} {n_t c_t : Nat} {q_t : Option Addr} {m_t d_t : Nat} {n l : Nat} (hL : SlV lnkK V (.slice q_t m_t d_t) t.links) (hz : ∀ s, OzA (G s)) (hl : t.links.length ≤ 100000)
    (hY : RndI V G Rel t ⟨3, cn⟩ [TPB Rt t p_t n_t c_t q_t m_t d_t, KB Rc ⟨3, cn⟩] l) (hskip : ∀ k s, cmpB t ⟨3, cn⟩ k = false → Rel k s → Rel (k + 1) s) {s0 : σ} {W : World} (h0 : Rel 0 s0) (hK : SS V ([TPB Rt t p_t n_t c_t q_t m_t d_t, KB Rc ⟨3, cn⟩] ++ G s0) W) :
    CallsIn Fence.wide n Tryz.prog 150 #[.func (.yield l) #[] #[], .pointer (some ⟨Rt, 0, none⟩), .pointer (some ⟨Rc, 0, none⟩)] W fun e W' => (∃ v, e = .returned v) ∧ EndI V G Rel t [TPB Rt t p_t n_t c_t q_t m_t d_t, KB Rc ⟨3, cn⟩] W' := by
  refine callsIn_of_wp Tryz.func150 rfl trivial ?_ rfl
  simp only [Tryz.ntmps150, List.size_toArray, List.length_cons, List.length_nil, Nat.reduceAdd, Nat.reduceSub, Array.replicate_succ, Array.replicate_zero, List.push_toArray, List.append_toArray, List.nil_append, List.cons_append]
  have hml := hid hL.one0; have hml1 := Nat.le_of_eq hml.out; have hml2 := Nat.le_of_eq hml.out.symm
  have hK : SS V ((bx Rt (.cells #[.int .i64 t.nodes, .slice p_t n_t c_t, .slice q_t m_t d_t] 25)) :: (bx Rc (.cells #[.int .i64 3, .int .i64 cn] 44)) :: G s0) W := hK
  gi_upto_region 0 with (fail)
  refine wpIn_region_T (wide_wide _ _) [0, 1, 0, 0] hK ?_
  clear hK
  refine e0 ?_
  refine eL m0 ?_
  iterate 2 refine e0 ?_
  refine sxEnd (fun W1 hK => ?_)
  gi_wp2_with (fail)
  gi_loopw [10] (fun s10 wl => ∃ (kx : Nat) (sg : σ), s10 = .int .i64 (kx : Int) ∧ (kx ≤ m_t) ∧ (Rel kx sg) ∧ SS V ((bx Rt (.cells #[.int .i64 t.nodes, .slice p_t n_t c_t, .slice q_t m_t d_t] 25)) :: (bx Rc (.cells #[.int .i64 3, .int .i64 cn] 44)) :: G sg) wl) (fun s10 _ => m_t - (intOf s10).toNat)
  case atStart => exact ⟨0, s0, rfl, (by omega), h0, hK⟩
  case round =>
   clear hK
   obtain ⟨kx, sg, rfl, hk0, hr, hK⟩ := hrel
   generalize wr = W2 at hK ⊢
   gi_upto_region 1 with (fail)
   refine wpIn_region_T (wide_wide _ _) [0] hK ?_
   clear hK
   refine eB (decide (((kx : Int)) < ((m_t : Int)))) (fun b1 hb1 => ?_)
   refine sxEnd (fun W3 hK => ?_)
   cases b1
   · --
    have q_b1 : ((m_t : Int)) ≤ ((kx : Int)) := Int.not_lt.1 (of_decide_eq_false hb1.out)
    have hke : kx = t.links.length := (by omega)
    rw [hke] at hr
    gi_wp2
    go_end0
    exact ⟨⟨_, rfl⟩, sg, hr, hK⟩
   · --
    have q_b1 : ((kx : Int)) < ((m_t : Int)) := of_decide_eq_true hb1.out
    have hzs := hz sg
    have i4 : kx < m_t := (by omega)
    obtain ⟨g4, o4, rfl⟩ := hL.pt i4
    have l4 : kx < t.links.length := Nat.lt_of_lt_of_eq i4 (hL.one0)
    obtain ⟨x, ex⟩ : ∃ z0, RowKit.Hid (t.links[kx]? = some z0) := ⟨_, hid (List.getElem?_eq_getElem l4)⟩
    gi_upto_region 2 with (fail)
    refine wpIn_region_T (wide_wide _ _) [0, 0, 0, 3, 0, 4] hK ?_
    clear hK
    iterate 2 refine e0 ?_
    refine eRm0 (F := fun w => SlV lnkK w (.slice (some ⟨g4, o4, none⟩) m_t d_t) t.links) (fun w k => hL.below k.old) (h1 := by intro w' k; have c0 := (k).lnk0 ex.out rfl; have c1 := (k).lnk ex.out 1 rfl; have c2 := (k).lnk ex.out 2 rfl; have c3 := (k).lnk ex.out 3 rfl; have c4 := (k).lnk ex.out 4 rfl; have c5 := (k).lnk ex.out 5 rfl; have c6 := (k).lnk ex.out 6 rfl; go_simp; (try go_bits); exact ⟨rfl, rfl⟩) ?_
    refine eA (.cells #[.int .i64 0, .int .i64 0, .int .i64 0, .int .i64 0, .int .i64 0, .int .i64 0, .int .i64 0] 59) (fun R5 => ?_)
    refine e0 ?_
    refine eP 0 0 [.int .i64 x.a, .int .i64 x.b, .int .i64 x.c0, .int .i64 x.c1, .int .i64 x.cap, .int .i64 x.dly, .int .i64 x.grp] ?_
    refine sxEnd (fun W6 hK => ?_)
    gi_upto_region 4 with (fail)
    refine wpIn_region_T (wide_wide _ _) [0, 1] hK ?_
    clear hK
    refine e0 ?_
    refine eL m2 ?_
    refine sxEnd (fun W7 hK => ?_)
    gi_upto_region 5 with (fail)
    refine wpIn_region_T (wide_wide _ _) [0, 0] hK ?_
    clear hK
    iterate 2 refine e0 ?_
    refine sxEnd (fun W8 hK => ?_)
    gi_upto_region 7 with (fail)
    refine wpIn_region_T (wide_wide _ _) [0, 0] hK ?_
    clear hK
    iterate 2 refine e0 ?_
    refine sxEnd (fun W9 hK => ?_)
    gi_upto_region 9 with (fail)
    refine wpIn_region_T (wide_wide _ _) [0, 0] hK ?_
    clear hK
    iterate 2 refine e0 ?_
    refine sxEnd (fun W10 hK => ?_)
    gi_upto_region 10 with (fail)
    refine wpIn_region_T (wide_wide _ _) [0, 1, 0, 1, 0, 0] hK ?_
    clear hK
    refine e0 ?_
    refine eL m0 ?_
    refine e0 ?_
    refine eL m2 ?_
    refine eB (x.grp == cn) (fun b2 hb2 => ?_)
    refine e0 ?_
    refine sxEnd (fun W11 hK => ?_)
    cases b2
    · --
     replace hK := hK.subl (sC2 (List.Sublist.refl _))
     have hcb : cmpB t ⟨3, cn⟩ kx = false := (cmp3 ex.out).trans hb2.out
     gi_upto_region 11 with (fail)
     refine wpIn_region_T (wide_wide _ _) [0, 0, 0, 0, 0, 0, 0] hK ?_
     clear hK
     iterate 2 refine e0 ?_
     iterate 4 refine eN ?_
     refine e0 ?_
     refine sxEnd (fun W12 hK => ?_)
     (try gi_wp2)
     go_roundw
     case rel => exact ⟨kx + 1, sg, (by first | rfl | go_num), (by omega), (hskip _ _ hcb hr), hK⟩
     case measure => simp [intOf] <;> omega
    · --
     replace hK := hK.subl (sC2 (List.Sublist.refl _))
     have hcb : cmpB t ⟨3, cn⟩ kx = true := (cmp3 ex.out).trans hb2.out
     obtain ⟨fn, tmps, assign, body, hy, hR⟩ := hY (n - 1) kx sg W11 (by omega) hcb hr hK
     clear hY
     gi_wp2
     refine ⟨fun e => (by cases e), hR.mono ?_⟩
     clear hR hy
     rintro e W5 ⟨rfl, s', hr', hK⟩
     gi_wp2
     (try gi_wp2)
     go_roundw
     case rel => exact ⟨kx + 1, s', (by first | rfl | go_num), (by omega), hr', hK⟩
     case measure => simp [intOf] <;> omega
end Go.Proofs.YtmcfomainmppdaaGreatDoor
namespace Go.Proofs.YtmcfomainmppdaaGreatDoor
open Go.RowKit Go.Shelf
open Go.Lib (decDigits)
attribute [local go_sem] Oper.semAt_some
section
variable {σ : Type} {V w : World} {Rt Rc : Nat} {G : σ → List Ft} {Rel : Nat → σ → Prop} {t : TopD} {c : CmpD} {p_t : Option Addr} {n_t c_t : Nat} {q_t : Option Addr} {m_t d_t : Nat} {n : Nat}
theorem links_in {l : Nat} (hL : SlV lnkK V (.slice q_t m_t d_t) t.links) (hc : c.k = 1 ∨ c.k = 2 ∨ c.k = 3) (hz : ∀ s, OzA (G s)) (hl : t.links.length ≤ 100000)
    (hY : RndI V G Rel t c [TPB Rt t p_t n_t c_t q_t m_t d_t, KB Rc c] l) (hskip : ∀ k s, cmpB t c k = false → Rel k s → Rel (k + 1) s) {s0 : σ} {W : World} (h0 : Rel 0 s0) (hK : SS V ([TPB Rt t p_t n_t c_t q_t m_t d_t, KB Rc c] ++ G s0) W) :
    CallsIn Fence.wide n Tryz.prog 150 #[.func (.yield l) #[] #[], .pointer (some ⟨Rt, 0, none⟩), .pointer (some ⟨Rc, 0, none⟩)] W fun e W' => (∃ v, e = .returned v) ∧ EndI V G Rel t [TPB Rt t p_t n_t c_t q_t m_t d_t, KB Rc c] W' := by
  obtain ⟨k, cn⟩ := c
  rcases hc with h | h | h
  · obtain rfl : k = 1 := h
    exact links_in1 hL hz hl hY hskip h0 hK
  · obtain rfl : k = 2 := h
    exact links_in2 hL hz hl hY hskip h0 hK
  · obtain rfl : k = 3 := h
    exact links_in3 hL hz hl hY hskip h0 hK
def LpI (V : World) (X : List Ft) (B : List Ft) (G : σ → List Ft) (Rel : Nat → σ → Prop) (k : Nat) : Exit → Act → World → Prop
  | .normal, _, W => ∃ s, Rel k s ∧ SS V (B ++ (G s ++ X)) W
  | _, _, _ => False
theorem LpI.nn {X B : List Ft} {a : Act} {W : World} {k : Nat} (s : σ) (h1 : Rel k s) (h2 : SS V (B ++ (G s ++ X)) W) : LpI V X B G Rel k .normal a W := ⟨s, h1, h2⟩
theorem wp_range_I {p : Tmp} {assign body : Code} {Q : Exit → Act → World → Prop} {a : Act} {g : Operand} {s0 : σ} {B : List Ft} (hB : B = [TPB Rt t p_t n_t c_t q_t m_t d_t, KB Rc c])
    (hg : a.eval g = .func (.func 150) #[] #[.pointer (some ⟨Rt, 0, none⟩), .pointer (some ⟨Rc, 0, none⟩)]) (a₁ : Nat → Act) (hL : SlV lnkK V (.slice q_t m_t d_t) t.links) (hc : c.k = 1 ∨ c.k = 2 ∨ c.k = 3) (hz : ∀ s, OzA (G s)) (hl : t.links.length ≤ 100000) (hskip : ∀ k s, cmpB t c k = false → Rel k s → Rel (k + 1) s) (h0 : Rel 0 s0) (hK : SS V (B ++ G s0) w)
    (hassign : ∀ (l m : Nat) (x : Nat) (W : World), assign.wpIn (Fence.wide.inRound l) m Tryz.prog (Exit.then (fun a' w' => a' = a₁ x ∧ w' = W) (fun _ _ _ => False)) { tmps := ((#[p] : Array Tmp).zip #[.int .i64 (x : Int)]).foldl (fun tmps (t, a) => tmps.setIfInBounds t a) a.tmps, defers := [] } W)
    (hbody : ∀ (l m : Nat) (X : List Ft) (k : Nat) (s : σ) (W : World), OzA X → k < t.links.length → cmpB t c k = true → Rel k s → SS V (B ++ (G s ++ X)) W → body.wpIn (Fence.wide.inRound l) m Tryz.prog (LpI V X B G Rel (k + 1)) (a₁ k) W)
    (hdone : ∀ (D : Nat) (s : σ) (W : World), Rel t.links.length s → SS V (bx D (.deferred (some [])) :: (B ++ G s)) W → Q .normal { a with defers := { target := .collected D, args := #[] } :: a.defers } W) :
    (Code.rangeFunc g #[p] assign body).wpIn Fence.wide n Tryz.prog Q a w := by
  have hzB : OzA B := by subst hB; exact ⟨rfl, rfl, trivial⟩
  refine wpIn_rangeFunc ?_
  intro fn hfn
  obtain ⟨rec, hrec⟩ : ∃ rec : LoopState → Option Code → Loop, rec = fun st pe => { state := st, pending := pe, fn, tmps := a.tmps, params := #[p], assign, body, defers := w.heap.size } := ⟨_, rfl⟩
  have hK2 := (hK.newO (.deferred (some []))).newO (.loop (rec .ready none))
  obtain ⟨W1, hW1⟩ : ∃ W1, (w.alloc (.deferred (some []))).alloc (.loop (rec .ready none)) = W1 := ⟨_, rfl⟩
  rw [World.size_alloc, hW1] at hK2
  obtain ⟨l, hl1⟩ : ∃ l, w.heap.size + 1 = l := ⟨_, rfl⟩
  rw [hl1] at hK2
  have hX : ∀ o o' : Obj, OzA [bx l o, bx w.heap.size o'] := fun _ _ => ⟨rfl, rfl, trivial⟩
  have hlo : ∀ {A : List Ft} {o o' : Obj} {W : World}, SS V (A ++ [bx l o, bx w.heap.size o']) W → W.heap[l]? = some o := fun h => (h.box (List.mem_append_right _ (List.mem_cons_self ..))).2
  have hput : ∀ {A : List Ft} {o o' o2 : Obj} {W : World}, OzA A → SS V (A ++ [bx l o, bx w.heap.size o']) W → SS V (A ++ [bx l o2, bx w.heap.size o']) (W.putObj l o2) := fun hA h => SS.midO h hA ⟨rfl, trivial⟩
  have hdrop : ∀ {A : List Ft} {o o' : Obj} {W : World}, SS V (A ++ [bx l o, bx w.heap.size o']) W → SS V (bx w.heap.size o' :: A) W := fun {A o o' W} h => ((h.perm (List.perm_middle (l₂ := [bx w.heap.size o']))).subl (List.sublist_cons_self ..)).perm (List.perm_append_comm (l₂ := [bx w.heap.size o']))
  have hK3 : SS V ((B ++ G s0) ++ [bx l (.loop (rec .ready none)), bx w.heap.size (.deferred (some []))]) W1 := hK2.perm (List.perm_append_comm (l₁ := [bx l (.loop (rec .ready none)), bx w.heap.size (.deferred (some []))]) (l₂ := B ++ G s0))
  clear hK2 hK
  refine ⟨l, [{ target := .collected w.heap.size, args := #[] }], W1, { target := .fn (.func 150) #[.pointer (some ⟨Rt, 0, none⟩), .pointer (some ⟨Rc, 0, none⟩)], args := #[.func (.yield l) #[] #[]] }, W1, 150, #[.func (.yield l) #[] #[], .pointer (some ⟨Rt, 0, none⟩), .pointer (some ⟨Rc, 0, none⟩)], W1, ?_, ?_, ?_, ?_, fun e => (by cases e), ?_⟩
  · rw [← hW1, hrec, ← hl1]; exact run_enterLoop_outer _ _ _ _ _
  · simp only [resolve, hg]
    simp [go_sem]
  · intro f' _; trivial
  · have eg := enters_of Tryz.func150 (by kernel_rfl) rfl
    simp [invoke, go_sem, eg]
  · rw [List.append_assoc] at hK3
    refine (links_in (Rt := Rt) (Rc := Rc) (p_t := p_t) (n_t := n_t) (c_t := c_t) (c := c) (t := t) (G := fun s => G s ++ [bx l (.loop (rec .ready none)), bx w.heap.size (.deferred (some []))]) (Rel := Rel) hL hc (fun s => (hz s).app (hX _ _)) hl ?_ hskip h0 (by rw [← hB]; exact hK3)).mono ?_
    · intro m k s W hx hcb hr hK
      rw [← hB] at hK
      rw [← List.append_assoc] at hK
      have hlp := hlo hK
      have hy := run_yield (P := Tryz.prog) (args := #[.int .i64 (k : Int)]) hlp (by rw [hrec]; rfl)
      rw [hrec] at hy
      dsimp only at hy
      refine ⟨fn, _, assign, body, hy, roundIn_of_wpIn hfn (wpIn_mono (hassign l m k W) ?_)⟩
      rintro e a' W' h
      cases e with
      | normal =>
        obtain ⟨rfl, rfl⟩ := h
        refine ⟨_, run_beginRound hlp (by rw [hrec]), ?_⟩
        have hK4 := hput (o2 := .loop { rec .ready none with state := .busy }) (A := B ++ G s) (hzB.app (hz s)) hK
        rw [List.append_assoc] at hK4
        refine wpIn_mono (hbody l m [bx l (.loop { rec .ready none with state := .busy }), bx w.heap.size (.deferred (some []))] k s _ (hX _ _) hx hcb hr hK4) ?_
        rintro e a3 W3 hp
        cases e with
        | normal =>
          obtain ⟨s', hr', hK5⟩ := hp
          rw [← List.append_assoc] at hK5
          refine ⟨_, _, run_endRound none (hlo hK5), rfl, s', hr', ?_⟩
          have := hput (o2 := .loop (rec .ready none)) (A := B ++ G s') (hzB.app (hz s')) hK5
          rw [hrec] at this ⊢
          rw [List.append_assoc] at this
          rw [← hB]
          exact this
        | ret => exact hp.elim
        | exit id => exact hp.elim
        | goto t => exact hp.elim
        | panic ch => exact hp.elim
        | outgrown => exact hp.elim
      | exit id => exact h.elim
      | goto t => exact h.elim
      | ret => exact h.elim
      | panic ch => exact h.elim
      | outgrown => exact h.elim
    · rintro e W2 ⟨⟨v, rfl⟩, ⟨s, h1, hK⟩⟩
      rw [← hB, ← List.append_assoc] at hK
      have he := run_endLoop (P := Tryz.prog) (hlo hK) (by rw [hrec]; simp)
      exact ⟨none, _, by rw [hrec] at he; exact he, hdone _ s _ h1 (hdrop (hput (A := B ++ G s) (hzB.app (hz s)) hK))⟩
end
section
variable {t : TopD} {c : CmpD} {k n : Nat}
def mskK (t : TopD) (c : CmpD) (k : Nat) : List Bool := (List.range (arcsD t)).map fun a => decide (a / 2 < k) && cmpB t c (a / 2)
def mskD (t : TopD) (c : CmpD) : List Bool := (List.range (arcsD t)).map fun a => cmpB t c (a / 2)
theorem mskK_len : (mskK t c k).length = arcsD t := by unfold mskK; simp
theorem mskD_len : (mskD t c).length = arcsD t := by unfold mskD; simp
theorem mskK_0 : mskK t c 0 = List.replicate (arcsD t) false := by
  unfold mskK
  apply List.ext_getElem (by simp)
  intro i h1 h2
  simp
theorem mskK_no (h : cmpB t c k = false) : mskK t c (k + 1) = mskK t c k := by
  unfold mskK
  refine List.map_congr_left fun a _ => ?_
  by_cases e : a / 2 = k
  · rw [e, h, Bool.and_false, Bool.and_false]
  · congr 1
    exact decide_eq_decide.2 (by omega)
theorem mskK_yes (h : cmpB t c k = true) : mskK t c (k + 1) = ((mskK t c k).set (2 * k) true).set (2 * k + 1) true := by
  apply List.ext_getElem (by simp [mskK_len])
  intro i h1 h2
  have hi : i < arcsD t := by rw [mskK_len] at h1; exact h1
  have e : ∀ m, (mskK t c m)[i]'(by rw [mskK_len]; exact hi) = (decide (i / 2 < m) && cmpB t c (i / 2)) := fun m => by unfold mskK; simp
  rw [e]
  simp only [List.getElem_set]
  rw [e]
  by_cases e1 : 2 * k + 1 = i
  · rw [if_pos e1, show i / 2 = k by omega, h]; simp
  · rw [if_neg e1]
    by_cases e2 : 2 * k = i
    · rw [if_pos e2, show i / 2 = k by omega, h]; simp
    · rw [if_neg e2]
      congr 1
      exact decide_eq_decide.2 (by omega)
theorem mskK_all : mskK t c t.links.length = mskD t c := by
  unfold mskK mskD
  refine List.map_congr_left fun a ha => ?_
  rw [decide_eq_true (show a / 2 < t.links.length by have := List.mem_range.1 ha; unfold arcsD at this; omega), Bool.true_and]
def winB (t : TopD) (c : CmpD) : Bool := if c.k = 1 then decide (0 ≤ c.n) && decide (c.n < t.links.length) else if c.k = 2 then decide (0 ≤ c.n) && decide (c.n < t.nodes) else if c.k = 3 then decide (1 ≤ c.n) && decide (c.n ≤ 64) else false
theorem winB_k (h : winB t c = true) : c.k = 1 ∨ c.k = 2 ∨ c.k = 3 := by
  unfold winB at h
  by_cases h1 : c.k = 1
  · exact .inl h1
  · by_cases h2 : c.k = 2
    · exact .inr (.inl h2)
    · by_cases h3 : c.k = 3
      · exact .inr (.inr h3)
      · rw [if_neg h1, if_neg h2, if_neg h3] at h; cases h
end
end Go.Proofs.YtmcfomainmppdaaGreatDoor
