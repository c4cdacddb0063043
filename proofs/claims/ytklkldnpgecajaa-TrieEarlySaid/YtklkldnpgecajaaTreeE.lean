/- The walk of remove. -/
import Derived.Test.YtklkldnpgecajaaTreeB
import Derived.Test.YtklkldnpgecajaaRemPlain
namespace Go.Proofs.Ytklkldnpgecajaa
open Go.RowKit

theorem rem_head {w : World} {b a n : Nat} {v : Int} {h : Bool} {p q : Option Addr} (pa pn : Nat) (h0 : w.heap[b]? = some (nodeObj a n v h p q)) :
    ∃ W1, W1 = w.alloc (.cells #[.int .u32 (pa : Int), .int .i64 (pn : Int)] 35) ∧ W1.heap[b]? = some (nodeObj a n v h p q) ∧ b < w.heap.size ∧ W1.heap.size = w.heap.size + 1 ∧
      W1.heap[w.heap.size]? = some (.cells #[.int .u32 (pa : Int), .int .i64 (pn : Int)] 35) ∧ Below w.heap.size w W1 := by
  have hb : b < w.heap.size := (Array.getElem?_eq_some_iff.1 h0).1
  exact ⟨_, rfl, (Below.heap_alloc _ _ _ hb).trans h0, hb, World.size_alloc _ _, heap_alloc_at _ _, (Below.refl _ _).alloc (Nat.le_refl _) _⟩
/-- What is asked of the kid on the way down. -/
def RemDown (X : XT) (pa pn : Nat) : Prop :=
  ∀ w, X.In w → X.blocks.Nodup → Calls Try.prog 44 #[.pointer X.ptr, .agg #[.int .u32 (pa : Int), .int .i64 (pn : Int)]] w (Left X (X.t.remove pa pn) w)
theorem RemDown.at {X : XT} {pa pn : Nat} (h : RemDown X pa pn) {W1 w' : World} (hX : X.In W1) (hn : X.blocks.Nodup) (hw : Below W1.heap.size W1 w') :
    Calls Try.prog 44 #[.pointer X.ptr, .agg #[.int .u32 (pa : Int), .int .i64 (pn : Int)]] w' fun e w2 =>
      ∃ L : XT, e = .returned (.pointer L.ptr) ∧ L.t = X.t.remove pa pn ∧ L.In w2 ∧ L.blocks.Nodup ∧ (∀ c ∈ L.blocks, c ∈ X.blocks ∨ W1.heap.size ≤ c) ∧ Chg X.blocks W1 w2 := by
  refine (h w' (hX.same fun c hc => hw.block c (hX.lt c hc)) hn).mono ?_
  rintro e w2 ⟨L, he, ht, hL, hLn, hLb, hc⟩
  exact ⟨L, he, ht, hL, hLn, fun c hc' => (hLb c hc').imp id fun h => Nat.le_trans hw.size h, (Chg.of_below hw).then ⟨hc.os, hc.tape, hc.output, hc.size⟩ fun i hi hn => hc.block i (Nat.lt_of_lt_of_le hi hw.size) hn⟩

set_option maxHeartbeats 2000000 in
theorem rem_same (b a n : Nat) (v : Int) (h : Bool) (l r : XT) (w : World) (hin : (XT.node b a n v h l r).In w) (hnd : (XT.node b a n v h l r).blocks.Nodup) :
    Calls Try.prog 44 #[.pointer (some ⟨b, 0, none⟩), .agg #[.int .u32 (a : Int), .int .i64 (n : Int)]] w (Left (.node b a n v h l r) ((T.node a n v h l.t r.t).remove a n) w) := by
  obtain ⟨h0, hl, hr⟩ := hin
  obtain ⟨W1, hW1, k0, hb, hsz, kB, hWb⟩ := rem_head a n h0
  obtain ⟨c0, c1, c2, c3, c4, c5⟩ := node_cells k0
  have hf := node_free k0
  have HS := hid (show T.fix a n 0 false l.t r.t = (T.node a n v h l.t r.t).remove a n by simp [T.remove])
  have HX := hid (And.intro hl (And.intro hr hnd))
  clear hl hr hnd
  go_enter Try.func44, Try.ntmps44
  go_upto_region 1 with (fail)
  rw [← hW1]
  have hb1 : b < W1.heap.size := by omega
  have hB1 : w.heap.size < W1.heap.size := by omega
  clear hsz hW1
  have d0 := cell_of_pfx kB
  refine wp_region_staged (fun w' => Below W1.heap.size W1 w') [0, 0, 0, 0, 1, 1, 0] (by kernel_rfl) (by kernel_rfl) (by kernel_rfl) (by exact (Below.refl _ _).drew) ?_
  apply lexF rfl; (· intro _; go_simp; (try go_bits); exact ⟨rfl, rfl⟩); simp only [Act.put, List.setIfInBounds_toArray, List.set_cons_zero, List.set_cons_succ]
  apply lexF rfl; (· intro _; go_simp; (try go_bits); exact ⟨rfl, rfl⟩); simp only [Act.put, List.setIfInBounds_toArray, List.set_cons_zero, List.set_cons_succ]
  apply lexF rfl; (· intro _; go_simp; (try go_bits); exact ⟨rfl, rfl⟩); simp only [Act.put, List.setIfInBounds_toArray, List.set_cons_zero, List.set_cons_succ]
  apply lexF rfl; (· intro _; go_simp; (try go_bits); exact ⟨rfl, rfl⟩); simp only [Act.put, List.setIfInBounds_toArray, List.set_cons_zero, List.set_cons_succ]
  apply lexH rfl; (· intro w' hw'; have hcc := cellsBelow hw'; go_simp; (try go_bits); exact ⟨rfl, hw'⟩); simp only [Act.put, List.setIfInBounds_toArray, List.set_cons_zero, List.set_cons_succ]
  apply lexH rfl; (· intro w' hw'; have hcc := cellsBelow hw'; go_simp; (try go_bits); exact ⟨rfl, hw'⟩); simp only [Act.put, List.setIfInBounds_toArray, List.set_cons_zero, List.set_cons_succ]
  apply lexF rfl; (· intro _; go_simp; (try go_bits); exact ⟨rfl, rfl⟩); simp only [Act.put, List.setIfInBounds_toArray, List.set_cons_zero, List.set_cons_succ]
  refine lexEnd (fun w2 hw2 => ?_)
  have hcc := cellsBelow hw2
  have hff := frozenBelow hw2
  go_upto_region 5 with (fail)
  have k2 : w2.heap[b]? = some (nodeObj a n v h l.ptr r.ptr) := (hw2.block b hb1).trans k0
  have keep : ∀ c, c < w.heap.size → c ≠ b → ((((w2.setCell ⟨b, 0, none⟩ (.int .u32 (a : Int))).setCell ⟨b, 1, none⟩ (.int .i64 (n : Int))).setCell ⟨b, 2, none⟩ (.int .i64 0)).setCell ⟨b, 3, none⟩ (.bool false)).heap[c]? = w.heap[c]? := fun c hc hne => by
    rw [setCell_far _ hne, setCell_far _ hne, setCell_far _ hne, setCell_far _ hne, hw2.block c (by omega), hWb.block c hc]
  obtain ⟨W5, hW5⟩ : ∃ W5, W5 = (((w2.setCell ⟨b, 0, none⟩ (.int .u32 (a : Int))).setCell ⟨b, 1, none⟩ (.int .i64 (n : Int))).setCell ⟨b, 2, none⟩ (.int .i64 0)).setCell ⟨b, 3, none⟩ (.bool false) := ⟨_, rfl⟩
  have k5 : W5.heap[b]? = some (nodeObj a n 0 false l.ptr r.ptr) := by rw [hW5]; exact heap_setCell_at (heap_setCell_at (heap_setCell_at (heap_setCell_at k2 _) _) _) _
  have hm : b ∈ (XT.node b a n v h l r).blocks := List.mem_cons_self ..
  have hch : Chg (XT.node b a n v h l r).blocks w W5 := by
    rw [hW5]
    exact ((((Chg.of_below (hWb.trans (hw2.mono (by omega)))).setCell (p := ⟨b, 0, none⟩) (.inl hm) _).setCell (p := ⟨b, 1, none⟩) (.inl hm) _).setCell (p := ⟨b, 2, none⟩) (.inl hm) _).setCell (p := ⟨b, 3, none⟩) (.inl hm) _
  rw [← hW5] at keep
  rw [← hW5]
  have FX := hid (left_fix (X := .node b a n v h l r) (w := w) (w' := W5) (b := b) (a := a) (n := n) (v := 0) (h := false) (l := l) (r := r)
    ⟨k5, HX.out.1.same fun c hc => keep c (HX.out.1.lt c hc) (ne_of_in hc (fun hb => (List.nodup_cons.1 HX.out.2.2).1 (List.mem_append_left _ hb))),
      HX.out.2.1.same fun c hc => keep c (HX.out.2.1.lt c hc) (ne_of_in hc (fun hb => (List.nodup_cons.1 HX.out.2.2).1 (List.mem_append_right _ hb)))⟩ HX.out.2.2 (fun c hc => .inl hc) hch HS.out)
  clear HS HX hch hm keep hW5 k2 hcc hff hw2 d0 c0 c1 c2 c3 c4 c5 hf k0 kB hWb
  obtain ⟨x0, x1, x2, x3, x4, x5⟩ := node_cells k5
  clear k5
  cases l with
  | nil =>
    cases r with
    | nil =>
      go_wp2
      go_ret
      exact FX.out
    | node b2 a2 n2 v2 h2 l2 r2 =>
      go_wp2
      go_ret
      exact FX.out
  | node b1 a1 n1 v1 h1 l1 r1 =>
    cases r with
    | nil =>
      go_wp2
      go_ret
      exact FX.out
    | node b2 a2 n2 v2 h2 l2 r2 =>
      go_wp2
      go_ret
      exact FX.out

set_option maxHeartbeats 2000000 in
theorem rem_down0 (b a n : Nat) (v : Int) (h : Bool) (l r : XT) (pa pn : Nat) (w : World) (hin : (XT.node b a n v h l r).In w) (hnd : (XT.node b a n v h l r).blocks.Nodup) (hpa : W32 pa)
    (hne : ¬ (a = pa ∧ n = pn)) (hn : n < 32) (hbit : bit pa n = 0) (IH : RemDown l pa pn) :
    Calls Try.prog 44 #[.pointer (some ⟨b, 0, none⟩), .agg #[.int .u32 (pa : Int), .int .i64 (pn : Int)]] w (Left (.node b a n v h l r) ((T.node a n v h l.t r.t).remove pa pn) w) := by
  have STEP := hid (fun (L : XT) (w2 : World) => kid_step0 (w2 := w2) (L := L) hin hnd)
  obtain ⟨h0, hl, hr⟩ := hin
  obtain ⟨W1, hW1, k0, hb, hsz, kB, hWb⟩ := rem_head pa pn h0
  obtain ⟨c0, c1, c2, c3, c4, c5⟩ := node_cells k0
  have hf := node_free k0
  have HS := hid (fun (t1 : T) (e : t1 = l.t.remove pa pn) => (show T.fix a n v h t1 r.t = (T.node a n v h l.t r.t).remove pa pn by subst e; simp [T.remove, hne, hbit]))
  have HB := hid hbit
  have HNE := hid (show ¬ ((a : Int) = (pa : Int) ∧ (n : Int) = (pn : Int)) by omega)
  have hkn : l.In W1 := hl.same fun c hc' => hWb.block c (hl.lt c hc')
  obtain ⟨n1, n2⟩ := List.nodup_cons.1 hnd
  have hnk : l.blocks.Nodup := (List.nodup_append.1 n2).1
  have hbk : b ∉ l.blocks := fun hb => n1 (List.mem_append_left _ hb)
  have HK := hid (And.intro hkn (And.intro hnk hbk))
  clear hne hbit hnd hl hr n1 n2 hkn hnk hbk
  go_enter Try.func44, Try.ntmps44
  go_upto_region 1 with (fail)
  rw [← hW1]
  have hb1 : b < W1.heap.size := by omega
  have hB1 : w.heap.size < W1.heap.size := by omega
  clear hsz hW1
  have d0 := cell_of_pfx kB
  refine wp_region_staged (fun w' => Below W1.heap.size W1 w') [0, 0, 0, 0, 1, 1, 0] (by kernel_rfl) (by kernel_rfl) (by kernel_rfl) (by exact (Below.refl _ _).drew) ?_
  apply lexF rfl; (· intro _; go_simp; (try go_bits); exact ⟨rfl, rfl⟩); simp only [Act.put, List.setIfInBounds_toArray, List.set_cons_zero, List.set_cons_succ]
  apply lexF rfl; (· intro _; go_simp; (try go_bits); exact ⟨rfl, rfl⟩); simp only [Act.put, List.setIfInBounds_toArray, List.set_cons_zero, List.set_cons_succ]
  apply lexF rfl; (· intro _; go_simp; (try go_bits); exact ⟨rfl, rfl⟩); simp only [Act.put, List.setIfInBounds_toArray, List.set_cons_zero, List.set_cons_succ]
  apply lexF rfl; (· intro _; go_simp; (try go_bits); exact ⟨rfl, rfl⟩); simp only [Act.put, List.setIfInBounds_toArray, List.set_cons_zero, List.set_cons_succ]
  apply lexH rfl; (· intro w' hw'; have hcc := cellsBelow hw'; go_simp; (try go_bits); exact ⟨rfl, hw'⟩); simp only [Act.put, List.setIfInBounds_toArray, List.set_cons_zero, List.set_cons_succ]
  apply lexH rfl; (· intro w' hw'; have hcc := cellsBelow hw'; go_simp; (try go_bits); exact ⟨rfl, hw'⟩); simp only [Act.put, List.setIfInBounds_toArray, List.set_cons_zero, List.set_cons_succ]
  apply lexF rfl
  · intro w'; go_simp; (try go_bits); exact flt_if2 HNE.out
  simp only [Act.put, List.setIfInBounds_toArray, List.set_cons_zero, List.set_cons_succ]
  refine lexEnd (fun w2 hw2 => ?_)
  go_upto_region 3 with (fail)
  refine wp_region_staged (fun w' => Below W1.heap.size W1 w') [0, 1, 0, 0, 0, 0, 0, 1, 1, 0] (by kernel_rfl) (by kernel_rfl) (by kernel_rfl) (by exact hw2.drew) ?_
  apply lexF rfl; (· intro _; go_simp; (try go_bits); exact ⟨rfl, rfl⟩); simp only [Act.put, List.setIfInBounds_toArray, List.set_cons_zero, List.set_cons_succ]
  apply lexH rfl; (· intro w' hw'; have hcc := cellsBelow hw'; go_simp; (try go_bits); exact ⟨rfl, hw'⟩); simp only [Act.put, List.setIfInBounds_toArray, List.set_cons_zero, List.set_cons_succ]
  apply lexF rfl; (· intro _; go_simp; (try go_bits); exact ⟨rfl, rfl⟩); simp only [Act.put, List.setIfInBounds_toArray, List.set_cons_zero, List.set_cons_succ]
  apply lexF rfl; (· intro _; go_simp; (try go_bits); exact ⟨rfl, rfl⟩); simp only [Act.put, List.setIfInBounds_toArray, List.set_cons_zero, List.set_cons_succ]
  apply lexF rfl; (· intro _; go_simp; (try go_bits); exact ⟨rfl, rfl⟩); simp only [Act.put, List.setIfInBounds_toArray, List.set_cons_zero, List.set_cons_succ]
  apply lexF rfl; (· intro _; go_simp; (try go_bits); exact ⟨rfl, rfl⟩); simp only [Act.put, List.setIfInBounds_toArray, List.set_cons_zero, List.set_cons_succ]
  apply lexF rfl; (· intro _; go_simp; (try go_bits); exact ⟨rfl, rfl⟩); simp only [Act.put, List.setIfInBounds_toArray, List.set_cons_zero, List.set_cons_succ]
  apply lexH rfl; (· intro w' hw'; have hcc := cellsBelow hw'; go_simp; (try go_bits); exact ⟨rfl, hw'⟩); simp only [Act.put, List.setIfInBounds_toArray, List.set_cons_zero, List.set_cons_succ]
  apply lexH rfl
  · intro w' hw'; go_simp; (try go_bits); refine (branch_any pa n _ hpa hn).mono ?_; rintro e w'' ⟨rfl, rfl⟩; exact ⟨_, rfl, val_bit HB, hw'⟩
  simp only [Act.put, List.setIfInBounds_toArray, List.set_cons_zero, List.set_cons_succ]
  apply lexF rfl; (· intro _; go_simp; (try go_bits); exact ⟨rfl, rfl⟩); simp only [Act.put, List.setIfInBounds_toArray, List.set_cons_zero, List.set_cons_succ]
  refine lexEnd (fun w4 hw4 => ?_)
  go_upto_region 4 with (fail)
  clear hw2
  refine wp_region_staged (fun w' => Below W1.heap.size W1 w') [0, 0, 0, 0, 0, 0, 0, 1, 1, 2, 0, 0, 0, 2] (by kernel_rfl) (by kernel_rfl) (by kernel_rfl) (by exact hw4.drew) ?_
  apply lexF rfl; (· intro _; go_simp; (try go_bits); exact ⟨rfl, rfl⟩); simp only [Act.put, List.setIfInBounds_toArray, List.set_cons_zero, List.set_cons_succ]
  apply lexF rfl; (· intro _; go_simp; (try go_bits); exact ⟨rfl, rfl⟩); simp only [Act.put, List.setIfInBounds_toArray, List.set_cons_zero, List.set_cons_succ]
  apply lexF rfl; (· intro _; go_simp; (try go_bits); exact ⟨rfl, rfl⟩); simp only [Act.put, List.setIfInBounds_toArray, List.set_cons_zero, List.set_cons_succ]
  apply lexF rfl; (· intro _; go_simp; (try go_bits); exact ⟨rfl, rfl⟩); simp only [Act.put, List.setIfInBounds_toArray, List.set_cons_zero, List.set_cons_succ]
  apply lexF rfl; (· intro _; go_simp; (try go_bits); exact ⟨rfl, rfl⟩); simp only [Act.put, List.setIfInBounds_toArray, List.set_cons_zero, List.set_cons_succ]
  apply lexF rfl; (· intro _; go_simp; (try go_bits); exact ⟨rfl, rfl⟩); simp only [Act.put, List.setIfInBounds_toArray, List.set_cons_zero, List.set_cons_succ]
  apply lexF rfl; (· intro _; go_simp; (try go_bits); exact ⟨rfl, rfl⟩); simp only [Act.put, List.setIfInBounds_toArray, List.set_cons_zero, List.set_cons_succ]
  apply lexH rfl; (· intro w' hw'; have hcc := cellsBelow hw'; go_simp; (try go_bits); exact ⟨rfl, hw'⟩); simp only [Act.put, List.setIfInBounds_toArray, List.set_cons_zero, List.set_cons_succ]
  apply lexH rfl; (· intro w' hw'; have hcc := cellsBelow hw'; go_simp; (try go_bits); exact ⟨rfl, hw'⟩); simp only [Act.put, List.setIfInBounds_toArray, List.set_cons_zero, List.set_cons_succ]
  apply lexE (α := XT) (fun L => .pointer L.ptr) (fun L w' => L.t = l.t.remove pa pn ∧ L.In w' ∧ L.blocks.Nodup ∧ (∀ c ∈ L.blocks, c ∈ l.blocks ∨ W1.heap.size ≤ c) ∧ Chg l.blocks W1 w') rfl
  · intro w' hw'
    go_simp
    refine (IH.at HK.out.1 HK.out.2.1 hw').mono ?_
    rintro e w'' ⟨L, rfl, hL⟩
    exact ⟨_, rfl, L, rfl, hL⟩
  intro L
  simp only [Act.put, List.setIfInBounds_toArray, List.set_cons_zero, List.set_cons_succ]
  apply lexF rfl; (· intro _; go_simp; (try go_bits); exact ⟨rfl, rfl⟩); simp only [Act.put, List.setIfInBounds_toArray, List.set_cons_zero, List.set_cons_succ]
  apply lexF rfl; (· intro _; go_simp; (try go_bits); exact ⟨rfl, rfl⟩); simp only [Act.put, List.setIfInBounds_toArray, List.set_cons_zero, List.set_cons_succ]
  apply lexF rfl; (· intro _; go_simp; (try go_bits); exact ⟨rfl, rfl⟩); simp only [Act.put, List.setIfInBounds_toArray, List.set_cons_zero, List.set_cons_succ]
  apply lexS (fun w' => (XT.node b a n v h L r).In w' ∧ (XT.node b a n v h L r).blocks.Nodup ∧ (∀ c ∈ (XT.node b a n v h L r).blocks, c ∈ (XT.node b a n v h l r).blocks ∨ w.heap.size ≤ c) ∧ Chg (XT.node b a n v h l r).blocks w w' ∧ L.t = l.t.remove pa pn) rfl
  · rintro w' ⟨q1, q2, q3, q4, q5⟩
    have k5 := (q5.block b hb1 HK.out.2.2).trans k0
    obtain ⟨e0, e1, e2, e3, e4, e5⟩ := node_cells k5
    have hff := node_free k5
    have Q1 := hid q1
    clear q1
    go_simp
    obtain ⟨y1, y2, y3, y4⟩ := STEP.out L w' q2 q3 (fun c hc => (q4 c hc).imp id fun h => Nat.le_trans hWb.size h) (q5.back hWb)
    exact ⟨rfl, y1, y2, y3, y4, Q1.out⟩
  simp only [Act.put]
  refine lexEnd (fun w5 hw5 => ?_)
  obtain ⟨y1, y2, y3, y4, y5⟩ := hw5
  have FX := hid (left_fix y1 y2 y3 y4 (HS.out _ y5))
  clear HS y2 y3 y4 y5 STEP IH HK hw4 c0 c1 c2 c3 c4 c5 hf k0 kB d0 hWb
  obtain ⟨x0, x1, x2, x3, x4, x5⟩ := node_cells y1.1
  clear y1
  cases h with
  | true =>
    go_wp2
    go_ret
    exact FX.out
  | false =>
    cases L with
    | nil =>
      cases r with
      | nil =>
        go_wp2
        go_ret
        exact FX.out
      | node b2 a2 n2 v2 h2 l2 r2 =>
        go_wp2
        go_ret
        exact FX.out
    | node b1 a1 n1 v1 h1 l1 r1 =>
      cases r with
      | nil =>
        go_wp2
        go_ret
        exact FX.out
      | node b2 a2 n2 v2 h2 l2 r2 =>
        go_wp2
        go_ret
        exact FX.out

set_option maxHeartbeats 2000000 in
theorem rem_down1 (b a n : Nat) (v : Int) (h : Bool) (l r : XT) (pa pn : Nat) (w : World) (hin : (XT.node b a n v h l r).In w) (hnd : (XT.node b a n v h l r).blocks.Nodup) (hpa : W32 pa)
    (hne : ¬ (a = pa ∧ n = pn)) (hn : n < 32) (hbit : bit pa n = 1) (IH : RemDown r pa pn) :
    Calls Try.prog 44 #[.pointer (some ⟨b, 0, none⟩), .agg #[.int .u32 (pa : Int), .int .i64 (pn : Int)]] w (Left (.node b a n v h l r) ((T.node a n v h l.t r.t).remove pa pn) w) := by
  have STEP := hid (fun (L : XT) (w2 : World) => kid_step1 (w2 := w2) (R := L) hin hnd)
  obtain ⟨h0, hl, hr⟩ := hin
  obtain ⟨W1, hW1, k0, hb, hsz, kB, hWb⟩ := rem_head pa pn h0
  obtain ⟨c0, c1, c2, c3, c4, c5⟩ := node_cells k0
  have hf := node_free k0
  have HS := hid (fun (t1 : T) (e : t1 = r.t.remove pa pn) => (show T.fix a n v h l.t t1 = (T.node a n v h l.t r.t).remove pa pn by subst e; simp [T.remove, hne, hbit]))
  have HB := hid hbit
  have HNE := hid (show ¬ ((a : Int) = (pa : Int) ∧ (n : Int) = (pn : Int)) by omega)
  have hkn : r.In W1 := hr.same fun c hc' => hWb.block c (hr.lt c hc')
  obtain ⟨n1, n2⟩ := List.nodup_cons.1 hnd
  have hnk : r.blocks.Nodup := (List.nodup_append.1 n2).2.1
  have hbk : b ∉ r.blocks := fun hb => n1 (List.mem_append_right _ hb)
  have HK := hid (And.intro hkn (And.intro hnk hbk))
  clear hne hbit hnd hl hr n1 n2 hkn hnk hbk
  go_enter Try.func44, Try.ntmps44
  go_upto_region 1 with (fail)
  rw [← hW1]
  have hb1 : b < W1.heap.size := by omega
  have hB1 : w.heap.size < W1.heap.size := by omega
  clear hsz hW1
  have d0 := cell_of_pfx kB
  refine wp_region_staged (fun w' => Below W1.heap.size W1 w') [0, 0, 0, 0, 1, 1, 0] (by kernel_rfl) (by kernel_rfl) (by kernel_rfl) (by exact (Below.refl _ _).drew) ?_
  apply lexF rfl; (· intro _; go_simp; (try go_bits); exact ⟨rfl, rfl⟩); simp only [Act.put, List.setIfInBounds_toArray, List.set_cons_zero, List.set_cons_succ]
  apply lexF rfl; (· intro _; go_simp; (try go_bits); exact ⟨rfl, rfl⟩); simp only [Act.put, List.setIfInBounds_toArray, List.set_cons_zero, List.set_cons_succ]
  apply lexF rfl; (· intro _; go_simp; (try go_bits); exact ⟨rfl, rfl⟩); simp only [Act.put, List.setIfInBounds_toArray, List.set_cons_zero, List.set_cons_succ]
  apply lexF rfl; (· intro _; go_simp; (try go_bits); exact ⟨rfl, rfl⟩); simp only [Act.put, List.setIfInBounds_toArray, List.set_cons_zero, List.set_cons_succ]
  apply lexH rfl; (· intro w' hw'; have hcc := cellsBelow hw'; go_simp; (try go_bits); exact ⟨rfl, hw'⟩); simp only [Act.put, List.setIfInBounds_toArray, List.set_cons_zero, List.set_cons_succ]
  apply lexH rfl; (· intro w' hw'; have hcc := cellsBelow hw'; go_simp; (try go_bits); exact ⟨rfl, hw'⟩); simp only [Act.put, List.setIfInBounds_toArray, List.set_cons_zero, List.set_cons_succ]
  apply lexF rfl
  · intro w'; go_simp; (try go_bits); exact flt_if2 HNE.out
  simp only [Act.put, List.setIfInBounds_toArray, List.set_cons_zero, List.set_cons_succ]
  refine lexEnd (fun w2 hw2 => ?_)
  go_upto_region 3 with (fail)
  refine wp_region_staged (fun w' => Below W1.heap.size W1 w') [0, 1, 0, 0, 0, 0, 0, 1, 1, 0] (by kernel_rfl) (by kernel_rfl) (by kernel_rfl) (by exact hw2.drew) ?_
  apply lexF rfl; (· intro _; go_simp; (try go_bits); exact ⟨rfl, rfl⟩); simp only [Act.put, List.setIfInBounds_toArray, List.set_cons_zero, List.set_cons_succ]
  apply lexH rfl; (· intro w' hw'; have hcc := cellsBelow hw'; go_simp; (try go_bits); exact ⟨rfl, hw'⟩); simp only [Act.put, List.setIfInBounds_toArray, List.set_cons_zero, List.set_cons_succ]
  apply lexF rfl; (· intro _; go_simp; (try go_bits); exact ⟨rfl, rfl⟩); simp only [Act.put, List.setIfInBounds_toArray, List.set_cons_zero, List.set_cons_succ]
  apply lexF rfl; (· intro _; go_simp; (try go_bits); exact ⟨rfl, rfl⟩); simp only [Act.put, List.setIfInBounds_toArray, List.set_cons_zero, List.set_cons_succ]
  apply lexF rfl; (· intro _; go_simp; (try go_bits); exact ⟨rfl, rfl⟩); simp only [Act.put, List.setIfInBounds_toArray, List.set_cons_zero, List.set_cons_succ]
  apply lexF rfl; (· intro _; go_simp; (try go_bits); exact ⟨rfl, rfl⟩); simp only [Act.put, List.setIfInBounds_toArray, List.set_cons_zero, List.set_cons_succ]
  apply lexF rfl; (· intro _; go_simp; (try go_bits); exact ⟨rfl, rfl⟩); simp only [Act.put, List.setIfInBounds_toArray, List.set_cons_zero, List.set_cons_succ]
  apply lexH rfl; (· intro w' hw'; have hcc := cellsBelow hw'; go_simp; (try go_bits); exact ⟨rfl, hw'⟩); simp only [Act.put, List.setIfInBounds_toArray, List.set_cons_zero, List.set_cons_succ]
  apply lexH rfl
  · intro w' hw'; go_simp; (try go_bits); refine (branch_any pa n _ hpa hn).mono ?_; rintro e w'' ⟨rfl, rfl⟩; exact ⟨_, rfl, val_bit HB, hw'⟩
  simp only [Act.put, List.setIfInBounds_toArray, List.set_cons_zero, List.set_cons_succ]
  apply lexF rfl; (· intro _; go_simp; (try go_bits); exact ⟨rfl, rfl⟩); simp only [Act.put, List.setIfInBounds_toArray, List.set_cons_zero, List.set_cons_succ]
  refine lexEnd (fun w4 hw4 => ?_)
  go_upto_region 4 with (fail)
  clear hw2
  refine wp_region_staged (fun w' => Below W1.heap.size W1 w') [0, 0, 0, 0, 0, 0, 0, 1, 1, 2, 0, 0, 0, 2] (by kernel_rfl) (by kernel_rfl) (by kernel_rfl) (by exact hw4.drew) ?_
  apply lexF rfl; (· intro _; go_simp; (try go_bits); exact ⟨rfl, rfl⟩); simp only [Act.put, List.setIfInBounds_toArray, List.set_cons_zero, List.set_cons_succ]
  apply lexF rfl; (· intro _; go_simp; (try go_bits); exact ⟨rfl, rfl⟩); simp only [Act.put, List.setIfInBounds_toArray, List.set_cons_zero, List.set_cons_succ]
  apply lexF rfl; (· intro _; go_simp; (try go_bits); exact ⟨rfl, rfl⟩); simp only [Act.put, List.setIfInBounds_toArray, List.set_cons_zero, List.set_cons_succ]
  apply lexF rfl; (· intro _; go_simp; (try go_bits); exact ⟨rfl, rfl⟩); simp only [Act.put, List.setIfInBounds_toArray, List.set_cons_zero, List.set_cons_succ]
  apply lexF rfl; (· intro _; go_simp; (try go_bits); exact ⟨rfl, rfl⟩); simp only [Act.put, List.setIfInBounds_toArray, List.set_cons_zero, List.set_cons_succ]
  apply lexF rfl; (· intro _; go_simp; (try go_bits); exact ⟨rfl, rfl⟩); simp only [Act.put, List.setIfInBounds_toArray, List.set_cons_zero, List.set_cons_succ]
  apply lexF rfl; (· intro _; go_simp; (try go_bits); exact ⟨rfl, rfl⟩); simp only [Act.put, List.setIfInBounds_toArray, List.set_cons_zero, List.set_cons_succ]
  apply lexH rfl; (· intro w' hw'; have hcc := cellsBelow hw'; go_simp; (try go_bits); exact ⟨rfl, hw'⟩); simp only [Act.put, List.setIfInBounds_toArray, List.set_cons_zero, List.set_cons_succ]
  apply lexH rfl; (· intro w' hw'; have hcc := cellsBelow hw'; go_simp; (try go_bits); exact ⟨rfl, hw'⟩); simp only [Act.put, List.setIfInBounds_toArray, List.set_cons_zero, List.set_cons_succ]
  apply lexE (α := XT) (fun L => .pointer L.ptr) (fun L w' => L.t = r.t.remove pa pn ∧ L.In w' ∧ L.blocks.Nodup ∧ (∀ c ∈ L.blocks, c ∈ r.blocks ∨ W1.heap.size ≤ c) ∧ Chg r.blocks W1 w') rfl
  · intro w' hw'
    go_simp
    refine (IH.at HK.out.1 HK.out.2.1 hw').mono ?_
    rintro e w'' ⟨L, rfl, hL⟩
    exact ⟨_, rfl, L, rfl, hL⟩
  intro L
  simp only [Act.put, List.setIfInBounds_toArray, List.set_cons_zero, List.set_cons_succ]
  apply lexF rfl; (· intro _; go_simp; (try go_bits); exact ⟨rfl, rfl⟩); simp only [Act.put, List.setIfInBounds_toArray, List.set_cons_zero, List.set_cons_succ]
  apply lexF rfl; (· intro _; go_simp; (try go_bits); exact ⟨rfl, rfl⟩); simp only [Act.put, List.setIfInBounds_toArray, List.set_cons_zero, List.set_cons_succ]
  apply lexF rfl; (· intro _; go_simp; (try go_bits); exact ⟨rfl, rfl⟩); simp only [Act.put, List.setIfInBounds_toArray, List.set_cons_zero, List.set_cons_succ]
  apply lexS (fun w' => (XT.node b a n v h l L).In w' ∧ (XT.node b a n v h l L).blocks.Nodup ∧ (∀ c ∈ (XT.node b a n v h l L).blocks, c ∈ (XT.node b a n v h l r).blocks ∨ w.heap.size ≤ c) ∧ Chg (XT.node b a n v h l r).blocks w w' ∧ L.t = r.t.remove pa pn) rfl
  · rintro w' ⟨q1, q2, q3, q4, q5⟩
    have k5 := (q5.block b hb1 HK.out.2.2).trans k0
    obtain ⟨e0, e1, e2, e3, e4, e5⟩ := node_cells k5
    have hff := node_free k5
    have Q1 := hid q1
    clear q1
    go_simp
    obtain ⟨y1, y2, y3, y4⟩ := STEP.out L w' q2 q3 (fun c hc => (q4 c hc).imp id fun h => Nat.le_trans hWb.size h) (q5.back hWb)
    exact ⟨rfl, y1, y2, y3, y4, Q1.out⟩
  simp only [Act.put]
  refine lexEnd (fun w5 hw5 => ?_)
  obtain ⟨y1, y2, y3, y4, y5⟩ := hw5
  have FX := hid (left_fix y1 y2 y3 y4 (HS.out _ y5))
  clear HS y2 y3 y4 y5 STEP IH HK hw4 c0 c1 c2 c3 c4 c5 hf k0 kB d0 hWb
  obtain ⟨x0, x1, x2, x3, x4, x5⟩ := node_cells y1.1
  clear y1
  cases h with
  | true =>
    go_wp2
    go_ret
    exact FX.out
  | false =>
    cases l with
    | nil =>
      cases L with
      | nil =>
        go_wp2
        go_ret
        exact FX.out
      | node b2 a2 n2 v2 h2 l2 r2 =>
        go_wp2
        go_ret
        exact FX.out
    | node b1 a1 n1 v1 h1 l1 r1 =>
      cases L with
      | nil =>
        go_wp2
        go_ret
        exact FX.out
      | node b2 a2 n2 v2 h2 l2 r2 =>
        go_wp2
        go_ret
        exact FX.out

theorem rem_calls : ∀ (X : XT) (pa pn : Nat), W32 pa → X.t.On pa pn → RemDown X pa pn
  | .nil, _, _, _, h => h.elim
  | .node b a n v h l r, pa, pn, hpa, ho => fun w hin hnd => by
    rcases ho with ⟨rfl, rfl⟩ | ⟨hne, hn, _, ⟨hb, hl⟩ | ⟨hb, hr⟩⟩
    · exact rem_same b a n v h l r w hin hnd
    · exact rem_down0 b a n v h l r pa pn w hin hnd hpa hne hn hb (rem_calls l pa pn hpa hl)
    · exact rem_down1 b a n v h l r pa pn w hin hnd hpa hne hn hb (rem_calls r pa pn hpa hr)

end Go.Proofs.Ytklkldnpgecajaa
