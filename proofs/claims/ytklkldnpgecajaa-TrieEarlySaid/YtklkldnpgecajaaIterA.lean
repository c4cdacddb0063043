/- The trie's iterator: visit, All: what a loop over the routes does. -/
import Derived.RangeFuncNested
import Derived.RangeFuncBound
import Derived.RangeFuncCalls
import Derived.RangeFuncLeaves
import Derived.Shelf.Abstract
import Derived.Shelf.RegionOpen
import Derived.WalkKit
import Derived.OwnWalkIn
import Derived.TacticsInMore
import Derived.Test.YtklkldnpgecajaaTreeF
namespace Go.Proofs.Ytklkldnpgecajaa
open Go.RowKit Go.Shelf
attribute [local go_sem] Oper.semAt_some

/-- A route. -/
structure Rt where
  a : Nat
  n : Nat
  v : Int
def Rt.enc (x : Rt) : Value := .agg #[.int .u32 (x.a : Int), .int .i64 (x.n : Int), .int .i64 x.v]
def T.list : T → List Rt
  | .nil => []
  | .node a n v h l r => (if h = true then [⟨a, n, v⟩] else []) ++ (l.list ++ r.list)

theorem room_of_none {F : Fence} (hd : F.depth = none) (k : Nat) : F.room k := fun d h => by rw [hd] at h; cases h
theorem RoundIn.anyDepth {F : Fence} (hd : F.depth = none) {m m' : Nat} {P : Program} {l : Nat} {f : FuncId} {tmps : Array Value} {assign body : Code} {w : World} {R : Ending → World → Prop}
    (h : RoundIn F m P l f tmps assign body w R) : RoundIn F m' P l f tmps assign body w R := ⟨h.1, fun c cs _ => h.2 c cs (room_of_none hd _)⟩
theorem YieldAt.anyDepth {F : Fence} (hd : F.depth = none) {m : Nat} (m' : Nat) {P : Program} {l : Nat} {args : Array Value} {W : World} {R : Ending → World → Prop} (h : YieldAt F m P l args W R) : YieldAt F m' P l args W R := by
  obtain ⟨fn, tmps, assign, body, hy, hR⟩ := h
  exact ⟨fn, tmps, assign, body, hy, RoundIn.anyDepth hd hR⟩

/-- The nodes lie in the world, below a bound. -/
structure XT.Lies (n₀ : Nat) (W : World) (X : XT) : Prop where
  nodes : X.In W
  low : ∀ b ∈ X.blocks, b < n₀
theorem XT.Lies.below {n₀ : Nat} {W W' : World} {X : XT} (h : X.Lies n₀ W) (hb : Below n₀ W W') : X.Lies n₀ W' := ⟨h.nodes.same fun b hm => hb.block b (h.low b hm), h.low⟩
theorem XT.Lies.kids {n₀ : Nat} {W : World} {b a n : Nat} {v : Int} {h : Bool} {l r : XT} (hl : (XT.node b a n v h l r).Lies n₀ W) : b < n₀ ∧ W.heap[b]? = some (nodeObj a n v h l.ptr r.ptr) ∧ l.Lies n₀ W ∧ r.Lies n₀ W :=
  ⟨hl.low b (List.mem_cons_self ..), hl.nodes.1, ⟨hl.nodes.2.1, fun c hc => hl.low c (List.mem_cons_of_mem _ (List.mem_append_left _ hc))⟩, ⟨hl.nodes.2.2, fun c hc => hl.low c (List.mem_cons_of_mem _ (List.mem_append_right _ hc))⟩⟩

set_option maxRecDepth 100000 in
set_option maxHeartbeats 2000000 in
theorem visit_in (F : Fence) (hd : F.depth = none) (h6 : F.fn 42) (hro : F.round = none) (l₀ n₀ N : Nat) (P : Rt → Prop) (J Jx : List Rt → World → Prop)
    (hY : ∀ m pre x W, P x → J pre W → pre.length < N → YieldAt F m Try.prog l₀ #[Rt.enc x] W fun e W' =>
      (e = .returned (.bool true) ∧ J (pre ++ [x]) W' ∧ Below n₀ W W') ∨ (e = .returned (.bool false) ∧ Jx (pre ++ [x]) W')) (X : XT) :
    ∀ (n : Nat) (pre : List Rt) (W : World), (∀ x ∈ X.t.list, P x) → X.Lies n₀ W → J pre W → pre.length + X.t.list.length ≤ N →
      CallsIn F n Try.prog 42 #[.pointer X.ptr, .func (.yield l₀) #[] #[]] W fun e W' =>
        (e = .returned (.bool true) ∧ J (pre ++ X.t.list) W' ∧ Below n₀ W W') ∨ (e = .returned (.bool false) ∧ ∃ q, q <+: X.t.list ∧ Jx (pre ++ q) W') := by
  induction X with
  | nil =>
    intro n pre W _ _ hJ _
    refine callsIn_of_wp Try.func42 rfl h6 ?_ hro
    simp only [Try.ntmps42, List.size_toArray, List.length_cons, List.length_nil, Nat.reduceAdd, Nat.reduceSub, Array.replicate_succ, Array.replicate_zero, List.push_toArray, List.append_toArray, List.nil_append, List.cons_append]
    gi_wp2
    go_ret
    exact .inl ⟨rfl, by simpa [XT.t, T.list] using hJ, Below.refl _ _⟩
  | node b a n' v h l r ihl ihr =>
    intro n pre W hP ht hJ hN
    rw [show (XT.node b a n' v h l r).ptr = some ⟨b, 0, none⟩ from rfl]
    obtain ⟨hb, h0, hl, hr⟩ := ht.kids
    have hdd : ∀ k : Nat, (F.depth.isSome = true → 1 ≤ k) := fun k h => by rw [hd] at h; cases h
    cases h with
    | true =>
      simp only [XT.t, T.list, if_true, List.length_append, List.length_cons, List.length_nil] at hN
      have hP0 : P ⟨a, n', v⟩ := hP _ (by simp [XT.t, T.list])
      have hPl : ∀ x ∈ l.t.list, P x := fun x hx => hP x (by simp [XT.t, T.list, hx])
      have hPr : ∀ x ∈ r.t.list, P x := fun x hx => hP x (by simp [XT.t, T.list, hx])
      clear hP
      have hy1 : YieldAt F (n - 1) Try.prog l₀ #[Rt.enc ⟨a, n', v⟩] W fun e W1 =>
          (e = .returned (.bool true) ∧ J (pre ++ [⟨a, n', v⟩]) W1 ∧ Below n₀ W W1 ∧ W1.heap[b]? = some (nodeObj a n' v true l.ptr r.ptr) ∧ l.Lies n₀ W1 ∧ r.Lies n₀ W1 ∧ W1.cell? ⟨b, 4, none⟩ = some (.pointer l.ptr)) ∨ (e = .returned (.bool false) ∧ Jx (pre ++ [⟨a, n', v⟩]) W1) :=
        YieldAt.mono (hY (n - 1) _ _ W hP0 hJ (by omega)) fun e W1 h => h.elim (fun ⟨he, hj, hb1⟩ => .inl ⟨he, hj, hb1, (hb1.block b hb).trans h0, hl.below hb1, hr.below hb1, (node_cells ((hb1.block b hb).trans h0)).2.2.2.2.1⟩) .inr
      have IL := fun (W1 : World) (hj : J (pre ++ [⟨a, n', v⟩]) W1) (k0 : W1.heap[b]? = some (nodeObj a n' v true l.ptr r.ptr)) (hl1 : l.Lies n₀ W1) (hr1 : r.Lies n₀ W1) => (ihl (n - 1) (pre ++ [⟨a, n', v⟩]) W1 hPl hl1 hj (by simp; omega)).mono (R' := fun e W2 =>
          (e = .returned (.bool true) ∧ J (pre ++ [⟨a, n', v⟩] ++ l.t.list) W2 ∧ Below n₀ W1 W2 ∧ W2.cell? ⟨b, 5, none⟩ = some (.pointer r.ptr) ∧ r.Lies n₀ W2) ∨ (e = .returned (.bool false) ∧ ∃ q, q <+: l.t.list ∧ Jx (pre ++ [⟨a, n', v⟩] ++ q) W2))
        (fun e W2 h => h.elim (fun ⟨he, hj, hb1⟩ => .inl ⟨he, hj, hb1, (node_cells ((hb1.block b hb).trans k0)).2.2.2.2.2, hr1.below hb1⟩) .inr)
      obtain ⟨fn, tmps, assign, body, hy, hR⟩ := hy1
      simp only [Rt.enc] at hy
      obtain ⟨c0, c1, c2, c3, c4, c5⟩ := node_cells h0
      have IL' := hid IL
      have IR' := hid (fun n pre W => ihr n pre W hPr)
      clear ihl hl hr ht h0 hJ IL ihr hY
      refine callsIn_of_wp Try.func42 rfl h6 ?_ hro
      simp only [Try.ntmps42, List.size_toArray, List.length_cons, List.length_nil, Nat.reduceAdd, Nat.reduceSub, Array.replicate_succ, Array.replicate_zero, List.push_toArray, List.append_toArray, List.nil_append, List.cons_append]
      gi_wp2_with (first
        | ((try refine ⟨hdd _, ?_⟩); refine hR.mono ?_; clear hR; rintro e W1 (⟨rfl, hJ1, hb1, k1, hl1, hr1, c4'⟩ | ⟨rfl, hx1⟩))
        | ((try refine ⟨hdd _, ?_⟩); gi_at_call 42; refine (IL'.out W1 hJ1 k1 hl1 hr1).mono ?_; clear IL'; rintro e W2 (⟨rfl, hJ2, hb2, c5', hr2⟩ | ⟨rfl, q, hq, hx2⟩))
        | ((try refine ⟨hdd _, ?_⟩); gi_at_call 42; refine (IR'.out (n - 1) _ W2 hr2 hJ2 (by simp; omega)).mono ?_; clear IR'; rintro e W3 (⟨rfl, hJ3, hb3⟩ | ⟨rfl, q, hq, hx3⟩)))
      · go_ret
        exact .inl ⟨rfl, by simpa [XT.t, T.list, List.append_assoc] using hJ3, (hb1.trans hb2).trans hb3⟩
      · go_ret
        obtain ⟨s, hs⟩ := hq
        exact .inr ⟨rfl, ⟨a, n', v⟩ :: (l.t.list ++ q), ⟨s, by simp [XT.t, T.list, ← hs]⟩, by simpa [List.append_assoc] using hx3⟩
      · go_ret
        obtain ⟨s, hs⟩ := hq
        exact .inr ⟨rfl, ⟨a, n', v⟩ :: q, ⟨s ++ r.t.list, by simp [XT.t, T.list, ← hs]⟩, by simpa [List.append_assoc] using hx2⟩
      · go_ret
        exact .inr ⟨rfl, [⟨a, n', v⟩], ⟨l.t.list ++ r.t.list, by simp [XT.t, T.list]⟩, hx1⟩
    | false =>
      simp only [XT.t, T.list, Bool.false_eq_true, if_false, List.nil_append, List.length_append] at hN
      have hPl : ∀ x ∈ l.t.list, P x := fun x hx => hP x (by simp [XT.t, T.list, hx])
      have hPr : ∀ x ∈ r.t.list, P x := fun x hx => hP x (by simp [XT.t, T.list, hx])
      clear hP
      have IL := (ihl (n - 1) pre W hPl hl hJ (by omega)).mono (R' := fun e W2 =>
          (e = .returned (.bool true) ∧ J (pre ++ l.t.list) W2 ∧ Below n₀ W W2 ∧ W2.cell? ⟨b, 5, none⟩ = some (.pointer r.ptr) ∧ r.Lies n₀ W2) ∨ (e = .returned (.bool false) ∧ ∃ q, q <+: l.t.list ∧ Jx (pre ++ q) W2))
        (fun e W2 h => h.elim (fun ⟨he, hj, hb1⟩ => .inl ⟨he, hj, hb1, (node_cells ((hb1.block b hb).trans h0)).2.2.2.2.2, hr.below hb1⟩) .inr)
      obtain ⟨c0, c1, c2, c3, c4, c5⟩ := node_cells h0
      have IL' := hid IL
      have IR' := hid (fun n pre W => ihr n pre W hPr)
      clear ihl hl hr ht h0 hJ IL ihr hY
      refine callsIn_of_wp Try.func42 rfl h6 ?_ hro
      simp only [Try.ntmps42, List.size_toArray, List.length_cons, List.length_nil, Nat.reduceAdd, Nat.reduceSub, Array.replicate_succ, Array.replicate_zero, List.push_toArray, List.append_toArray, List.nil_append, List.cons_append]
      gi_wp2_with (fail)
      refine ⟨fun _ h => (by cases h), ?_⟩
      gi_wp2_with (first
        | ((try refine ⟨hdd _, ?_⟩); gi_at_call 42; refine (IL'.out).mono ?_; clear IL'; rintro e W2 (⟨rfl, hJ2, hb2, c5', hr2⟩ | ⟨rfl, q, hq, hx2⟩))
        | ((try refine ⟨hdd _, ?_⟩); gi_at_call 42; refine (IR'.out (n - 1) _ W2 hr2 hJ2 (by simp; omega)).mono ?_; clear IR'; rintro e W3 (⟨rfl, hJ3, hb3⟩ | ⟨rfl, q, hq, hx3⟩)))
      · go_ret
        exact .inl ⟨rfl, by simpa [XT.t, T.list, List.append_assoc] using hJ3, hb2.trans hb3⟩
      · go_ret
        obtain ⟨s, hs⟩ := hq
        exact .inr ⟨rfl, l.t.list ++ q, ⟨s, by simp [XT.t, T.list, ← hs]⟩, by simpa [List.append_assoc] using hx3⟩
      · go_ret
        obtain ⟨s, hs⟩ := hq
        exact .inr ⟨rfl, q, ⟨s ++ r.t.list, by simp [XT.t, T.list, ← hs]⟩, by simpa [List.append_assoc] using hx2⟩

/-- **'func(yield) { if t != nil { t.root.visit(yield) } }'.** The box Bt holds the trie's address. -/
theorem all1_in (F : Fence) (hd : F.depth = none) (n : Nat) (h5 : F.fn 41) (h6 : F.fn 42) (hro : F.round = none) (l₀ Bt tb n₀ : Nat) (X : XT) (P : Rt → Prop) (hP : ∀ x ∈ X.t.list, P x) (J Jx : List Rt → World → Prop)
    (hY : ∀ pre x W, P x → J pre W → pre.length < X.t.list.length → YieldAt F (n - 1) Try.prog l₀ #[Rt.enc x] W fun e W' =>
      (e = .returned (.bool true) ∧ J (pre ++ [x]) W' ∧ Below n₀ W W') ∨ (e = .returned (.bool false) ∧ Jx (pre ++ [x]) W'))
    (W : World) (hBt : W.cell? ⟨Bt, 0, none⟩ = some (.pointer (some ⟨tb, 0, none⟩))) (hr : W.cell? ⟨tb, 0, none⟩ = some (.pointer X.ptr)) (hT : X.Lies n₀ W) (h0 : J [] W) :
    CallsIn F n Try.prog 41 #[.func (.yield l₀) #[] #[], .pointer (some ⟨Bt, 0, none⟩)] W fun e W' => (∃ v, e = .returned v) ∧
      ((∃ ys, ys = X.t.list ∧ J ys W') ∨ (∃ pre, pre <+: X.t.list ∧ Jx pre W')) := by
  have hdd : ∀ k : Nat, (F.depth.isSome = true → 1 ≤ k) := fun k h => by rw [hd] at h; cases h
  have hp := hid (visit_in F hd h6 hro l₀ n₀ X.t.list.length P J Jx (fun m pre x W hp hj hl => YieldAt.anyDepth hd m (hY pre x W hp hj hl)) X (n - 1) [] W hP hT h0 (by simp))
  clear hY hT h0 hP
  refine callsIn_of_wp Try.func41 rfl h5 ?_ hro
  simp only [Try.ntmps41, List.size_toArray, List.length_cons, List.length_nil, Nat.reduceAdd, Nat.reduceSub, Array.replicate_succ, Array.replicate_zero, List.push_toArray, List.append_toArray, List.nil_append, List.cons_append]
  gi_wp2_with ((try refine ⟨hdd _, ?_⟩); gi_at_call 42; refine hp.out.mono ?_; clear hp; rintro e W1 (⟨rfl, hJ1, _⟩ | ⟨rfl, q, hq, hx⟩))
  · go_end0
    exact ⟨⟨_, rfl⟩, .inl ⟨_, rfl, by simpa using hJ1⟩⟩
  · go_end0
    exact ⟨⟨_, rfl⟩, .inr ⟨q, hq, by simpa using hx⟩⟩

/-- **t.All()**: the receiver is boxed; the function value captures the box. -/
theorem all_in (F : Fence) (n : Nat) (h4 : F.fn 23) (hro : F.round = none) (p0 : Option Addr) (w : World) :
    CallsIn F n Try.prog 23 #[.pointer p0] w fun e w' => e = .returned (.func (.func 41) #[] #[.pointer (some ⟨w.heap.size, 0, none⟩)]) ∧ w' = w.alloc (.cells #[.pointer p0] 24) := by
  refine callsIn_of_wp Try.func23 rfl h4 ?_ hro
  simp only [Try.ntmps23, List.size_toArray, List.length_cons, List.length_nil, Nat.reduceAdd, Nat.reduceSub, Array.replicate_succ, Array.replicate_zero, List.push_toArray, List.append_toArray, List.nil_append, List.cons_append]
  gi_wp2
  go_ret
  exact ⟨rfl, rfl⟩

/-- **t.All() HANDS BACK A VALUE THAT 'SeqStopsK', AT 'Kp := Below n₀'.** -/
theorem all_stops (F : Fence) (hd : F.depth = none) (n : Nat) (h5 : F.fn 41) (h6 : F.fn 42) (hro : F.round = none) (Bt tb n₀ : Nat) (X : XT) (w : World) (hBt : Bt < w.heap.size) (hn₀ : n₀ ≤ w.heap.size) (htb : tb < w.heap.size)
    (hc : w.cell? ⟨Bt, 0, none⟩ = some (.pointer (some ⟨tb, 0, none⟩))) (hr : w.cell? ⟨tb, 0, none⟩ = some (.pointer X.ptr)) (hT : X.Lies n₀ w) :
    SeqStopsK F n Try.prog 41 #[.pointer (some ⟨Bt, 0, none⟩)] (fun x : Rt => #[Rt.enc x]) (Below n₀) (fun ys => ys = X.t.list) (fun pre => pre <+: X.t.list) X.t.list.length w := fun l J Jx W hW _ _ hY h0 =>
  all1_in F hd n h5 h6 hro l Bt tb n₀ X (fun _ => True) (fun _ _ => trivial) J Jx (fun pre x W _ => hY pre x W) W ((hW.cell (p := ⟨Bt, 0, none⟩) hBt).trans hc) ((hW.cell (p := ⟨tb, 0, none⟩) htb).trans hr) (hT.below (hW.mono hn₀)) h0

/-- **THE SAME, WHERE WHATEVER COMES IS KNOWN TO HAVE A PROPERTY.** -/
theorem all_stopsP (F : Fence) (hd : F.depth = none) (n : Nat) (h5 : F.fn 41) (h6 : F.fn 42) (hro : F.round = none) (Bt tb n₀ : Nat) (X : XT) (P : Rt → Prop) (hP : ∀ x ∈ X.t.list, P x) (w : World) (hBt : Bt < w.heap.size) (hn₀ : n₀ ≤ w.heap.size) (htb : tb < w.heap.size)
    (hc : w.cell? ⟨Bt, 0, none⟩ = some (.pointer (some ⟨tb, 0, none⟩))) (hr : w.cell? ⟨tb, 0, none⟩ = some (.pointer X.ptr)) (hT : X.Lies n₀ w) :
    SeqStopsK F n Try.prog 41 #[.pointer (some ⟨Bt, 0, none⟩)] (fun x : { x : Rt // P x } => #[Rt.enc x.1]) (Below n₀) (fun ys => ys.map (·.1) = X.t.list) (fun pre => pre.map (·.1) <+: X.t.list) X.t.list.length w := fun l J Jx W hW _ _ hY h0 =>
  (all1_in F hd n h5 h6 hro l Bt tb n₀ X P hP (fun pre W => ∃ p : List { x : Rt // P x }, p.map (·.1) = pre ∧ J p W) (fun pre W => ∃ p : List { x : Rt // P x }, p.map (·.1) = pre ∧ Jx p W)
    (fun pre x W hp hj hl => by
      obtain ⟨p, rfl, hj⟩ := hj
      refine YieldAt.mono (hY p ⟨x, hp⟩ W hj (by simpa using hl)) fun e W' h => ?_
      exact h.elim (fun ⟨he, hj', hb⟩ => .inl ⟨he, ⟨_, by simp, hj'⟩, hb⟩) (fun ⟨he, hj'⟩ => .inr ⟨he, _, by simp, hj'⟩))
    W ((hW.cell (p := ⟨Bt, 0, none⟩) hBt).trans hc) ((hW.cell (p := ⟨tb, 0, none⟩) htb).trans hr) (hT.below (hW.mono hn₀)) ⟨[], rfl, h0⟩).mono
  fun _ _ ⟨he, h⟩ => ⟨he, h.elim (fun ⟨_, hys, p, hp, hj⟩ => .inl ⟨p, hp.trans hys, hj⟩) (fun ⟨_, hpre, p, hp, hj⟩ => .inr ⟨p, (show p.map (·.1) <+: X.t.list by rw [hp]; exact hpre), hj⟩)⟩

/-- **THE SAME OF A NIL TRIE: nothing comes.** -/
theorem all1_nil (F : Fence) (hd : F.depth = none) (n : Nat) (h5 : F.fn 41) (hro : F.round = none) (l₀ Bt : Nat) (W : World) (hBt : W.cell? ⟨Bt, 0, none⟩ = some (.pointer none)) :
    CallsIn F n Try.prog 41 #[.func (.yield l₀) #[] #[], .pointer (some ⟨Bt, 0, none⟩)] W fun e W' => (∃ v, e = .returned v) ∧ W' = W := by
  have hdd : ∀ k : Nat, (F.depth.isSome = true → 1 ≤ k) := fun k h => by rw [hd] at h; cases h
  refine callsIn_of_wp Try.func41 rfl h5 ?_ hro
  simp only [Try.ntmps41, List.size_toArray, List.length_cons, List.length_nil, Nat.reduceAdd, Nat.reduceSub, Array.replicate_succ, Array.replicate_zero, List.push_toArray, List.append_toArray, List.nil_append, List.cons_append]
  gi_wp2
  go_end0
  exact ⟨⟨_, rfl⟩, rfl⟩

/-- A trie, or nil: and what All yields. -/
def AllAt (n₀ : Nat) (W : World) (p0 : Option Addr) (L : List Rt) : Prop :=
  (p0 = none ∧ L = []) ∨ ∃ (tb : Nat) (X : XT), p0 = some ⟨tb, 0, none⟩ ∧ tb < n₀ ∧ W.cell? ⟨tb, 0, none⟩ = some (.pointer X.ptr) ∧ X.Lies n₀ W ∧ L = X.t.list
theorem AllAt.below {n₀ : Nat} {W W' : World} {p0 : Option Addr} {L : List Rt} (h : AllAt n₀ W p0 L) (hb : Below n₀ W W') : AllAt n₀ W' p0 L :=
  h.elim .inl fun ⟨tb, X, e, ht, hc, hl, hL⟩ => .inr ⟨tb, X, e, ht, (hb.cell (p := ⟨tb, 0, none⟩) ht).trans hc, hl.below hb, hL⟩
theorem TrieAt.all {w : World} {tb : Nat} {X : XT} (h : TrieAt w tb X) : AllAt w.heap.size w (some ⟨tb, 0, none⟩) X.t.list :=
  .inr ⟨tb, X, rfl, h.lt, by simp [World.cell?, h.root], ⟨h.nodes, fun b hb => h.nodes.lt b hb⟩, rfl⟩

/-- **t.All() HANDS BACK A VALUE THAT 'SeqStopsK', AT 'Kp := Below n₀', WHERE WHATEVER COMES IS KNOWN TO HAVE A PROPERTY.** -/
theorem all_stopsQ (F : Fence) (hd : F.depth = none) (n : Nat) (h5 : F.fn 41) (h6 : F.fn 42) (hro : F.round = none) (Bt n₀ : Nat) (p0 : Option Addr) (L : List Rt) (P : Rt → Prop) (hP : ∀ x ∈ L, P x) (w : World) (hBt : Bt < w.heap.size) (hn₀ : n₀ ≤ w.heap.size)
    (hc : w.cell? ⟨Bt, 0, none⟩ = some (.pointer p0)) (hA : AllAt n₀ w p0 L) :
    SeqStopsK F n Try.prog 41 #[.pointer (some ⟨Bt, 0, none⟩)] (fun x : { x : Rt // P x } => #[Rt.enc x.1]) (Below n₀) (fun ys => ys.map (·.1) = L) (fun pre => pre.map (·.1) <+: L) L.length w := by
  rcases hA with ⟨rfl, rfl⟩ | ⟨tb, X, rfl, ht, hr, hT, rfl⟩
  · intro l J Jx W hW _ _ _ h0
    exact (all1_nil F hd n h5 hro l Bt W ((hW.cell (p := ⟨Bt, 0, none⟩) hBt).trans hc)).mono fun _ _ ⟨he, hw⟩ => ⟨he, .inl ⟨[], rfl, hw ▸ h0⟩⟩
  · exact all_stopsP F hd n h5 h6 hro Bt tb n₀ X P hP w hBt hn₀ (by omega) hc hr hT

/-- The same, where nothing is known. -/
theorem all_stopsL (F : Fence) (hd : F.depth = none) (n : Nat) (h5 : F.fn 41) (h6 : F.fn 42) (hro : F.round = none) (Bt n₀ : Nat) (p0 : Option Addr) (L : List Rt) (w : World) (hBt : Bt < w.heap.size) (hn₀ : n₀ ≤ w.heap.size)
    (hc : w.cell? ⟨Bt, 0, none⟩ = some (.pointer p0)) (hA : AllAt n₀ w p0 L) :
    SeqStopsK F n Try.prog 41 #[.pointer (some ⟨Bt, 0, none⟩)] (fun x : Rt => #[Rt.enc x]) (Below n₀) (fun ys => ys = L) (fun pre => pre <+: L) L.length w := by
  rcases hA with ⟨rfl, rfl⟩ | ⟨tb, X, rfl, ht, hr, hT, rfl⟩
  · intro l J Jx W hW _ _ _ h0
    exact (all1_nil F hd n h5 hro l Bt W ((hW.cell (p := ⟨Bt, 0, none⟩) hBt).trans hc)).mono fun _ _ ⟨he, hw⟩ => ⟨he, .inl ⟨[], rfl, hw ▸ h0⟩⟩
  · exact all_stops F hd n h5 h6 hro Bt tb n₀ X w hBt hn₀ (by omega) hc hr hT

end Go.Proofs.Ytklkldnpgecajaa
