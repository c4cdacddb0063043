/- A range over strings.Lines, in the logic of facts: the iterator (which writes a box of its own), the loop's record, the rounds. -/
import Derived.RangeFuncNested
import Derived.RangeFuncBound
import Derived.RangeFuncCalls
import Derived.RangeFuncLeaves
import Derived.Shelf.Abstract
import Derived.Shelf.RegionOpen
import Derived.WalkKit
import Derived.OwnWalkIn
import Derived.TacticsInMore
import Derived.LoopNIn
import Derived.LoopIn
import Derived.Sort.CutIn
import Derived.Test.YtjhgkojbpgakcaaDoorSi
import Derived.Test.YtjhgkojbpgakcaaDoorDmP
namespace Go.Proofs.YtjhgkojbpgakcaaDoor
open Go.RowKit Go.Shelf
open Go.Lib (decDigits)
attribute [local go_sem] Oper.semAt_some
section
variable {V w : World} {l : List Ft} {r i : Nat} {o o' : Obj}
theorem SS.putO (h : SS V (bx r o :: l) w) (hz : OzA l) : SS V (bx r o' :: l) (w.putObj r o') := by
  have hb := h.box (List.mem_cons_self ..)
  have := h.turn (i := 0) (f' := bx r o') rfl (grownBy_putObj' w r o') (fun R e => by cases e; rfl) (qtZ hz) ⟨Nat.zero_le _, World.putObj_heap_same (Array.getElem?_eq_some_iff.1 hb.2).1⟩ fun g hg => .inl hg
  simpa using this
theorem SS.newO (h : SS V l w) (o : Obj) : SS V (bx w.heap.size o :: l) (w.alloc o) := by
  have h1 := (SS.start w).step ((Below.refl _ w).alloc (Nat.le_refl _) o)
  have h2 : SS w [bx w.heap.size o] (w.alloc o) := h1.one ⟨Nat.zero_le _, World.alloc_heap_new w o⟩ (fun g hg => by rw [show g = w.heap.size from hg]; exact Nat.le_refl _) fun f hf => absurd hf List.not_mem_nil
  exact h.more h2
theorem OzA.app : ∀ {a b : List Ft}, OzA a → OzA b → OzA (a ++ b)
  | [], _, _, h => h
  | _ :: _, _, h1, h2 => ⟨h1.1, OzA.app h1.2 h2⟩
end
theorem ix_no {l : List UInt8} (h : ∀ d ∈ l, d ≠ 10) : Lib.indexByte l 10 = -1 := by
  induction l with
  | nil => rfl
  | cons a l ih =>
    unfold Lib.indexByte
    rw [ih fun d hd => h d (List.mem_cons_of_mem _ hd), if_neg (by have := h a (List.mem_cons_self ..); simpa using this)]
    rfl
theorem ix_hit {v : List UInt8} : ∀ {u : List UInt8}, (∀ d ∈ u, d ≠ 10) → Lib.indexByte (u ++ 10 :: v) 10 = (u.length : Int)
  | [], _ => by
    show Lib.indexByte (10 :: v) 10 = 0
    unfold Lib.indexByte
    rw [if_pos (by rfl)]
  | a :: u, h => by
    show Lib.indexByte (a :: (u ++ 10 :: v)) 10 = _
    unfold Lib.indexByte
    rw [ix_hit fun d hd => h d (List.mem_cons_of_mem _ hd), if_neg (by have := h a (List.mem_cons_self ..); simpa using this)]
    simp
theorem index_q (l : List UInt8) (w : World) {i : Int} (h : Lib.indexByte l 10 = i) : Calls Tryd.prog 39 #[.string ⟨l.toArray⟩, .int .u8 10] w fun e w' => e = .returned (.int .i64 i) ∧ Below w.heap.size w w' := by
  refine (Tryd.strings_IndexByte ⟨l.toArray⟩ 10 w).mono ?_
  rintro e w' ⟨rfl, rfl⟩
  exact ⟨by rw [← h]; rfl, Below.refl _ _⟩
theorem trim_q (x : List UInt8) (w : World) (h : x.length ≤ 100000) : Calls Tryd.prog 21 #[.string ⟨x.toArray⟩, .string ⟨#[10]⟩] w fun e w' => e = .returned (.string ⟨(trimN x).toArray⟩) ∧ Below w.heap.size w w' := by
  refine (Tryd.strings_TrimSuffix ⟨x.toArray⟩ ⟨#[10]⟩ w (by simp [ByteArray.size]; omega)).mono ?_
  rintro e w' ⟨rfl, rfl⟩
  exact ⟨rfl, Below.refl _ _⟩
theorem ext_all {l : List UInt8} {k : Nat} (h : k ≤ l.length) : ((⟨l.toArray⟩ : ByteArray).extract 0 k) = ⟨(l.take k).toArray⟩ := by
  apply ByteArray.ext
  simp [ByteArray.extract, ByteArray.copySlice]
theorem ext_end {l : List UInt8} {k : Nat} : ((⟨l.toArray⟩ : ByteArray).extract k l.length) = ⟨(l.drop k).toArray⟩ := by
  apply ByteArray.ext
  simp [ByteArray.extract, ByteArray.copySlice]
  exact List.take_of_length_le (by simp)
theorem ext_u (u v : List UInt8) : ((⟨(u ++ 10 :: v).toArray⟩ : ByteArray).extract 0 (u.length + 1)) = ⟨(u ++ [10]).toArray⟩ := by
  rw [ext_all (by simp), show u ++ 10 :: v = (u ++ [10]) ++ v by simp, List.take_left' (by simp)]
theorem ext_v (u v : List UInt8) : ((⟨(u ++ 10 :: v).toArray⟩ : ByteArray).extract (u.length + 1) (u.length + (v.length + 1))) = ⟨v.toArray⟩ := by
  rw [show u.length + (v.length + 1) = (u ++ 10 :: v).length by simp, ext_end, show u ++ 10 :: v = (u ++ [10]) ++ v by simp, List.drop_left' (by simp)]
def boxLen (b : Nat) (w : World) : Nat := match w.cell? ⟨b, 0, none⟩ with
  | some (.string s) => s.size
  | _ => 0
theorem boxLen_of {b : Nat} {w : World} {s : List UInt8} {T : TypeId} (h : Has 0 b (.cells #[.string ⟨s.toArray⟩] T) w) : boxLen b w = s.length := by
  unfold boxLen
  rw [h.at 0 rfl]
  rfl
section
variable {σ : Type} {V : World} {b : Nat} {G Gx : σ → List Ft} {Rel Rx : List (List UInt8) → σ → Prop} {txt : List UInt8} {n l : Nat}
abbrev SB (b : Nat) (r : List UInt8) : Ft := bx b (.cells #[.string ⟨r.toArray⟩] 9)
def RndS (V : World) (b : Nat) (G Gx : σ → List Ft) (Rel Rx : List (List UInt8) → σ → Prop) (txt : List UInt8) (n l : Nat) : Prop :=
  ∀ (m : Nat) (pre : List (List UInt8)) (x r : List UInt8) (s : σ) (W : World), x.length ≤ txt.length → Rel pre s → SS V (SB b r :: G s) W → YieldAt Fence.wide m Tryd.prog l #[.string ⟨x.toArray⟩] W fun e W' =>
    (e = .returned (.bool true) ∧ ∃ s', Rel (pre ++ [x]) s' ∧ SS V (SB b r :: G s') W') ∨ (e = .returned (.bool false) ∧ ∃ s', Rx (pre ++ [x]) s' ∧ SS V (Gx s') W')
def EndS (V : World) (b : Nat) (G Gx : σ → List Ft) (Rel Rx : List (List UInt8) → σ → Prop) (txt : List UInt8) (W' : World) : Prop :=
  (∃ s ls, LnsB txt ls ∧ Rel ls s ∧ ∃ r, SS V (SB b r :: G s) W') ∨ (∃ s pre r, PreB txt pre r ∧ Rx pre s ∧ SS V (Gx s) W')
set_option maxRecDepth 100000 in
set_option maxHeartbeats 2000000 in
theorem lines_in (hz : ∀ s, OzA (G s)) (hl : txt.length ≤ 100000) (hY : RndS V b G Gx Rel Rx txt n l) {s0 : σ} {W : World} (h0 : Rel [] s0) (hK : SS V (SB b txt :: G s0) W) :
    CallsIn Fence.wide n Tryd.prog 38 #[.func (.yield l) #[] #[], .pointer (some ⟨b, 0, none⟩)] W fun e W' => (∃ v, e = .returned v) ∧ EndS V b G Gx Rel Rx txt W' := by
  refine callsIn_of_wp Tryd.func38 rfl trivial ?_ rfl
  simp only [Tryd.ntmps38, List.size_toArray, List.length_cons, List.length_nil, Nat.reduceAdd, Nat.reduceSub, Array.replicate_succ, Array.replicate_zero, List.push_toArray, List.append_toArray, List.nil_append, List.cons_append]
  gi_wp2
  gi_loopw [] (fun wl => ∃ (pre : List (List UInt8)) (r : List UInt8) (s : σ), PreB txt pre r ∧ Rel pre s ∧ r.length ≤ txt.length ∧ SS V (SB b r :: G s) wl) (fun wl => boxLen b wl)
  case atStart => exact ⟨[], txt, s0, PreB.start txt, h0, Nat.le_refl _, hK⟩
  case round =>
    clear hK h0
    obtain ⟨pre, r, s, hp, hr, hrl, hK⟩ := hrel
    have hm0 := hid (boxLen_of (hK.box m0))
    generalize wr = W1 at hK hm0 ⊢
    gi_upto_region 0 with (fail)
    refine wpIn_region_T (wide_wide _ _) [1, 0, 0] hK ?_
    clear hK
    refine eL m0 ?_
    refine e0 ?_
    refine eB (decide ((0 : Int) < (r.length : Int))) (fun b1 hb1 => ?_)
    refine sxEnd (fun W2 hK => ?_)
    cases b1
    · have q1 : (r.length : Int) ≤ 0 := Int.not_lt.1 (of_decide_eq_false hb1.out)
      obtain rfl : r = [] := List.eq_nil_of_length_eq_zero (by omega)
      gi_wp2
      go_end0
      exact ⟨⟨_, rfl⟩, .inl ⟨s, pre, hp.all, hr, [], hK⟩⟩
    · have q1 : (0 : Int) < (r.length : Int) := of_decide_eq_true hb1.out
      have hne : r ≠ [] := fun e => by rw [e] at q1; exact absurd q1 (by decide)
      replace hne := hid hne
      rcases first_c 10 r with hno | ⟨u, v, rfl, hno⟩
      · have hix := hid (ix_no hno)
        have hp2 := hid (hp.rest hne.out hno)
        gi_upto_region 2 with (fail)
        refine wpIn_region_T (wide_wide _ _) [1, 1, 0] hK ?_
        clear hK
        refine eL m0 ?_
        refine eQ (fun w k => index_q r w hix.out) ?_
        refine e0 ?_
        refine sxEnd (fun W3 hK => ?_)
        gi_upto_region 5 with (fail)
        refine wpIn_region_T (wide_wide _ _) [1, 0, 4] hK ?_
        clear hK
        refine eL m0 ?_
        refine e0 ?_
        refine eP 0 0 [.string ⟨([] : List UInt8).toArray⟩] ?_ (hq := .inl (hz s))
        refine sxEnd (fun W4 hK => ?_)
        obtain ⟨fn, tmps, assign, body, hy, hR⟩ := hY (n - 1) pre r [] s W4 hrl hr hK
        clear hY
        gi_wp2
        refine ⟨fun e => (by cases e), hR.mono ?_⟩
        clear hR hy
        rintro e W5 (⟨rfl, s', hr', hK⟩ | ⟨rfl, s', hr', hK⟩)
        · gi_wp2
          go_roundw
          case rel => exact ⟨_, _, s', hp2.out, hr', (by first | omega | (simp; omega) | simp), hK⟩
          case measure => rw [boxLen_of (hK.box m0), hm0.out]; first | omega | (simp; omega) | simp
        · gi_wp2
          exact bodyPost_ret (v := .tuple #[]) (results_none (by simp [Tryd.results38]) _ _ _) rfl ⟨⟨_, rfl⟩, .inr ⟨s', _, _, hp2.out, hr', hK⟩⟩
      · have hix := hid (ix_hit (v := v) hno)
        have hp2 := hid (hp.line hno)
        have hul : u.length + 1 + v.length ≤ txt.length := by simp at hrl; omega
        have hle : (u ++ 10 :: v).length = u.length + 1 + v.length := by simp; omega
        have hl1 := Nat.le_of_eq hle
        have hl2 := Nat.le_of_eq hle.symm
        clear hle
        gi_upto_region 2 with (fail)
        refine wpIn_region_T (wide_wide _ _) [1, 1, 0] hK ?_
        clear hK
        refine eL m0 ?_
        refine eQ (fun w k => index_q (u ++ 10 :: v) w hix.out) ?_
        refine e0 ?_
        refine sxEnd (fun W3 hK => ?_)
        gi_upto_region 4 with (fail)
        refine wpIn_region_S (wide_wide _ _) _ [1, 0, 0, 0, 1, 0, 0, 0, 0, 4] hK ?_ (sC2 (List.Sublist.refl _))
        clear hK
        refine eL m0 ?_
        iterate 2 refine e0 ?_
        refine eV (.string ⟨(u ++ [10]).toArray⟩) (fun w' => by go_simp; (try go_bits); rw [if_pos (by omega)]; exact ⟨congrArg Value.string (ext_u u v), rfl⟩) ?_
        refine eL m0 ?_
        iterate 2 refine e0 ?_
        refine eV (.string ⟨v.toArray⟩) (fun w' => by go_simp; (try go_bits); first | exact ⟨congrArg Value.string (ext_v u v), rfl⟩ | (rw [if_pos (by omega)]; exact ⟨congrArg Value.string (ext_v u v), rfl⟩)) ?_
        refine e0 ?_
        refine eP 0 0 [.string ⟨v.toArray⟩] ?_ (hs := sC2 (List.Sublist.refl _)) (hq := .inl (hz s))
        refine sxEnd (fun W4 hK => ?_)
        obtain ⟨fn, tmps, assign, body, hy, hR⟩ := hY (n - 1) pre (u ++ [10]) v s W4 (by simp; omega) hr hK
        clear hY
        gi_wp2
        refine ⟨fun e => (by cases e), hR.mono ?_⟩
        clear hR hy
        rintro e W5 (⟨rfl, s', hr', hK⟩ | ⟨rfl, s', hr', hK⟩)
        · gi_wp2
          go_roundw
          case rel => exact ⟨_, _, s', hp2.out, hr', (by first | omega | (simp; omega) | simp), hK⟩
          case measure => rw [boxLen_of (hK.box m0), hm0.out]; first | omega | (simp; omega) | simp
        · gi_wp2
          exact bodyPost_ret (v := .tuple #[]) (results_none (by simp [Tryd.results38]) _ _ _) rfl ⟨⟨_, rfl⟩, .inr ⟨s', _, _, hp2.out, hr', hK⟩⟩
end
end Go.Proofs.YtjhgkojbpgakcaaDoor
