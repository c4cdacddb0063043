/- The walk of Lookup. -/
import Derived.Test.YtklkldnpgecajaaTreeF
namespace Go.Proofs.Ytklkldnpgecajaa
open Go.RowKit

/-- The best route so far: its cells, and whether there is one. -/
structure Best where
  a : Nat
  n : Nat
  v : Int
  f : Bool
def upd (h : Bool) (a n : Nat) (v : Int) (bst : Best) : Best := if h = true then ⟨a, n, v, true⟩ else bst
def T.look (x : Nat) : T → Best → Best
  | .nil, bst => bst
  | .node a n v h l r, bst =>
    if cts a n x = true then (if n = 32 then upd h a n v bst else if bit x n = 0 then l.look x (upd h a n v bst) else r.look x (upd h a n v bst)) else bst
def lookV (b : Best) : Value := .tuple #[.agg #[.int .u32 (b.a : Int), .int .i64 (b.n : Int), .int .i64 b.v], .bool b.f]
def zeroRoute : Obj := .cells #[.int .u32 0, .int .i64 0, .int .i64 0] 37
def bestObj (b : Best) : Obj := .cells #[.int .u32 (b.a : Int), .int .i64 (b.n : Int), .int .i64 b.v] 37
theorem best_cells {W : World} {B : Nat} {b : Best} (h : W.heap[B]? = some (bestObj b)) :
    W.cell? ⟨B, 0, none⟩ = some (.int .u32 (b.a : Int)) ∧ W.cell? ⟨B, 1, none⟩ = some (.int .i64 (b.n : Int)) ∧ W.cell? ⟨B, 2, none⟩ = some (.int .i64 b.v) := cell_of_box3 h
theorem best_free {W : World} {B : Nat} {b : Best} (h : W.heap[B]? = some (bestObj b)) : ∀ o, W.frozen? ⟨B, o, none⟩ = false := by
  intro o; simp [World.frozen?, h, bestObj]
theorem zero_cells {W : World} {B : Nat} (h : W.heap[B]? = some zeroRoute) :
    W.cell? ⟨B, 0, none⟩ = some (.int .u32 0) ∧ W.cell? ⟨B, 1, none⟩ = some (.int .i64 0) ∧ W.cell? ⟨B, 2, none⟩ = some (.int .i64 0) := cell_of_box3 h
theorem zero_free {W : World} {B : Nat} (h : W.heap[B]? = some zeroRoute) : ∀ o, W.frozen? ⟨B, o, none⟩ = false := by
  intro o; simp [World.frozen?, h, zeroRoute]

/-- What holds of the world at the loop's head: the result's cells, the best route's, the trie's nodes. -/
structure LookAt (w : World) (wr : World) (Y : XT) (b : Best) : Prop where
  res : wr.heap[w.heap.size]? = some zeroRoute
  bst : wr.heap[w.heap.size + 1]? = some (bestObj b)
  nodes : Y.In w
  old : Below w.heap.size w wr
  size : w.heap.size + 2 ≤ wr.heap.size
theorem LookAt.below {w wr w2 : World} {Y : XT} {b : Best} (h : LookAt w wr Y b) (hb : Below wr.heap.size wr w2) : LookAt w w2 Y b :=
  ⟨(hb.block _ (by have := h.size; omega)).trans h.res, (hb.block _ (by have := h.size; omega)).trans h.bst, h.nodes, h.old.trans (hb.mono h.old.size), Nat.le_trans h.size hb.size⟩
theorem LookAt.kid {w wr : World} {Y Z : XT} {b : Best} (h : LookAt w wr Y b) (hZ : Z.In w) : LookAt w wr Z b := ⟨h.res, h.bst, hZ, h.old, h.size⟩
theorem LookAt.set {w wr : World} {Y : XT} {b : Best} (h : LookAt w wr Y b) (a n : Nat) (v : Int) :
    LookAt w (((wr.setCell ⟨w.heap.size + 1, 0, none⟩ (.int .u32 (a : Int))).setCell ⟨w.heap.size + 1, 1, none⟩ (.int .i64 (n : Int))).setCell ⟨w.heap.size + 1, 2, none⟩ (.int .i64 v)) Y ⟨a, n, v, true⟩ := by
  refine ⟨?_, heap_setCell_at (heap_setCell_at (heap_setCell_at h.bst _) _) _, h.nodes, ((h.old.setCell (p := ⟨w.heap.size + 1, 0, none⟩) (by simp) _).setCell (p := ⟨w.heap.size + 1, 1, none⟩) (by simp) _).setCell (p := ⟨w.heap.size + 1, 2, none⟩) (by simp) _, by simpa [World.setCell] using h.size⟩
  rw [setCell_far _ (by omega), setCell_far _ (by omega), setCell_far _ (by omega)]
  exact h.res

theorem look_fin {w wr : World} {Y : XT} {b : Best} (h : LookAt w wr Y b) :
    ∃ W, W = ((wr.setCell ⟨w.heap.size, 0, none⟩ (.int .u32 (b.a : Int))).setCell ⟨w.heap.size, 1, none⟩ (.int .i64 (b.n : Int))).setCell ⟨w.heap.size, 2, none⟩ (.int .i64 b.v) ∧
      W.cell? ⟨w.heap.size, 0, none⟩ = some (.int .u32 (b.a : Int)) ∧ W.cell? ⟨w.heap.size, 1, none⟩ = some (.int .i64 (b.n : Int)) ∧ W.cell? ⟨w.heap.size, 2, none⟩ = some (.int .i64 b.v) ∧ Below w.heap.size w W := by
  have h0 := cell_of_box3 (heap_setCell_at (o := 2) (heap_setCell_at (o := 1) (heap_setCell_at (o := 0) h.res (.int .u32 (b.a : Int))) (.int .i64 (b.n : Int))) (.int .i64 b.v))
  exact ⟨_, rfl, h0.1, h0.2.1, h0.2.2, ((h.old.setCell (p := ⟨w.heap.size, 0, none⟩) (Nat.le_refl _) _).setCell (p := ⟨w.heap.size, 1, none⟩) (Nat.le_refl _) _).setCell (p := ⟨w.heap.size, 2, none⟩) (Nat.le_refl _) _⟩

set_option maxRecDepth 100000 in
set_option maxHeartbeats 2000000 in
theorem lookup_any (tb : Nat) (X : XT) (x : Nat) (w : World) (h : TrieAt w tb X) (hf : X.t.Fine) (hx : W32 x) :
    Calls Try.prog 17 #[.pointer (some ⟨tb, 0, none⟩), .int .u32 (x : Int)] w fun e w' => e = .returned (lookV (X.t.look x ⟨0, 0, 0, false⟩)) ∧ Below w.heap.size w w' := by
  have htb := h.lt
  obtain ⟨r0, r1⟩ := root_cell h.root
  go_enter Try.func17, Try.ntmps17
  go_wp2_with fail
  have HW := hid (show ∃ W1, W1 = (w.alloc (.cells #[.int .u32 0, .int .i64 0, .int .i64 0] 37)).alloc (.cells #[.int .u32 0, .int .i64 0, .int .i64 0] 37) ∧ LookAt w W1 X ⟨0, 0, 0, false⟩ by
    refine ⟨_, rfl, (Below.heap_alloc _ _ _ (by simp)).trans (heap_alloc_at w _), ?_, h.nodes, ((Below.refl _ w).alloc (Nat.le_refl _) _).alloc (by simp) _, by simp⟩
    have := heap_alloc_at (w.alloc (.cells #[.int .u32 0, .int .i64 0, .int .i64 0] 37)) (.cells #[.int .u32 0, .int .i64 0, .int .i64 0] 37)
    rw [World.size_alloc] at this
    exact this)
  obtain ⟨W1, hW1, hlk⟩ := HW.out
  rw [← hW1]
  clear hW1 HW
  go_loopg [7, 8] (X.t.count) (fun k f p wr => ∃ (Y : XT) (b : Best), k = Y.t.count ∧ p = .pointer Y.ptr ∧ f = .bool b.f ∧ Y.t.Fine ∧ X.t.look x ⟨0, 0, 0, false⟩ = Y.t.look x b ∧ LookAt w wr Y b)
  case atStart => exact ⟨X, ⟨0, 0, 0, false⟩, rfl, rfl, rfl, hf, rfl, hlk⟩
  case round =>
    obtain ⟨Y, bst, rfl, rfl, rfl, hYf, hg, hat⟩ := hrel
    have HG := hid hg
    clear hg
    cases Y with
    | nil =>
      obtain ⟨g0, g1, g2⟩ := best_cells hat.bst
      obtain ⟨z0, z1, z2⟩ := zero_cells hat.res
      have hzf := zero_free hat.res
      go_wp2
      obtain ⟨WF, hWF, f0, f1, f2, f3⟩ := look_fin hat
      rw [← hWF]
      clear hWF
      refine bodyPost_ret (v := lookV bst) (by simp [results, Try.results17, go_sem, f0, f1, f2, lookV]) rfl ⟨by rw [HG.out]; simp [XT.t, T.look], f3⟩
    | node b a n v hh l r =>
      rw [show (XT.node b a n v hh l r).ptr = some ⟨b, 0, none⟩ from rfl]
      have Hk := hid hat.nodes.2
      have HF := hid hYf.2
      have ha := hYf.1.1
      have HN0 := hid (show n ≤ 32 by have := vld_iff.1 hYf.1.2; omega)
      have hbl : b < w.heap.size := (Array.getElem?_eq_some_iff.1 hat.nodes.1).1
      have hin := hat.nodes.below hat.old
      obtain ⟨c0, c1, c2, c3, c4, c5⟩ := node_cells hin.1
      have hbl2 : b < wr.heap.size := by have := hat.size; omega
      clear hYf hin
      go_upto_region 6 with (fail)
      refine wp_region_text (fun w' => Below wr.heap.size wr w') [0, 0, 0, 0, 0, 0, 0, 1, 0, 1, 0] (by exact Below.refl _ _) ?_
      cases hc : cts a n x with
      | false =>
        have HC := hid hc
        clear hc
        apply lexF rfl; (· intro _; go_simp; (try go_bits); exact ⟨rfl, rfl⟩); simp only [Act.put, List.setIfInBounds_toArray, List.set_cons_zero, List.set_cons_succ]
        apply lexF rfl; (· intro _; go_simp; (try go_bits); exact ⟨rfl, rfl⟩); simp only [Act.put, List.setIfInBounds_toArray, List.set_cons_zero, List.set_cons_succ]
        apply lexF rfl; (· intro _; go_simp; (try go_bits); exact ⟨rfl, rfl⟩); simp only [Act.put, List.setIfInBounds_toArray, List.set_cons_zero, List.set_cons_succ]
        first | (apply lexN (j := 2) (d := 19) (b := true) rfl rfl rfl rfl; simp only [Act.put, List.setIfInBounds_toArray, List.set_cons_zero, List.set_cons_succ]) | (apply lexN' (j := 2) (d := 19) (b := true) rfl rfl rfl; simp only [Act.put, List.setIfInBounds_toArray, List.set_cons_zero, List.set_cons_succ]) | (apply lexFg (j := 2) (d := 19) (b := true) rfl rfl rfl rfl; (· intro _; go_simp; (try go_bits); exact ⟨rfl, rfl⟩); simp only [Act.put, List.setIfInBounds_toArray, List.set_cons_zero, List.set_cons_succ])
        first | (apply lexN (j := 2) (d := 19) (b := true) rfl rfl rfl rfl; simp only [Act.put, List.setIfInBounds_toArray, List.set_cons_zero, List.set_cons_succ]) | (apply lexN' (j := 2) (d := 19) (b := true) rfl rfl rfl; simp only [Act.put, List.setIfInBounds_toArray, List.set_cons_zero, List.set_cons_succ]) | (apply lexFg (j := 2) (d := 19) (b := true) rfl rfl rfl rfl; (· intro _; go_simp; (try go_bits); exact ⟨rfl, rfl⟩); simp only [Act.put, List.setIfInBounds_toArray, List.set_cons_zero, List.set_cons_succ])
        first | (apply lexN (j := 2) (d := 19) (b := true) rfl rfl rfl rfl; simp only [Act.put, List.setIfInBounds_toArray, List.set_cons_zero, List.set_cons_succ]) | (apply lexN' (j := 2) (d := 19) (b := true) rfl rfl rfl; simp only [Act.put, List.setIfInBounds_toArray, List.set_cons_zero, List.set_cons_succ]) | (apply lexFg (j := 2) (d := 19) (b := true) rfl rfl rfl rfl; (· intro _; go_simp; (try go_bits); exact ⟨rfl, rfl⟩); simp only [Act.put, List.setIfInBounds_toArray, List.set_cons_zero, List.set_cons_succ])
        first | (apply lexN (j := 2) (d := 19) (b := true) rfl rfl rfl rfl; simp only [Act.put, List.setIfInBounds_toArray, List.set_cons_zero, List.set_cons_succ]) | (apply lexN' (j := 2) (d := 19) (b := true) rfl rfl rfl; simp only [Act.put, List.setIfInBounds_toArray, List.set_cons_zero, List.set_cons_succ]) | (apply lexFg (j := 2) (d := 19) (b := true) rfl rfl rfl rfl; (· intro _; go_simp; (try go_bits); exact ⟨rfl, rfl⟩); simp only [Act.put, List.setIfInBounds_toArray, List.set_cons_zero, List.set_cons_succ])
        first | (apply lexN (j := 2) (d := 19) (b := true) rfl rfl rfl rfl; simp only [Act.put, List.setIfInBounds_toArray, List.set_cons_zero, List.set_cons_succ]) | (apply lexN' (j := 2) (d := 19) (b := true) rfl rfl rfl; simp only [Act.put, List.setIfInBounds_toArray, List.set_cons_zero, List.set_cons_succ]) | (apply lexHg (j := 2) (d := 19) (b := true) rfl rfl rfl rfl; (· intro w' hw'; have hcc := cellsBelow hw'; go_simp; (try go_bits); exact ⟨rfl, hw'⟩); simp only [Act.put, List.setIfInBounds_toArray, List.set_cons_zero, List.set_cons_succ])
        first | (apply lexN (j := 2) (d := 19) (b := true) rfl rfl rfl rfl; simp only [Act.put, List.setIfInBounds_toArray, List.set_cons_zero, List.set_cons_succ]) | (apply lexN' (j := 2) (d := 19) (b := true) rfl rfl rfl; simp only [Act.put, List.setIfInBounds_toArray, List.set_cons_zero, List.set_cons_succ]) | (apply lexFg (j := 2) (d := 19) (b := true) rfl rfl rfl rfl; (· intro _; go_simp; (try go_bits); exact ⟨rfl, rfl⟩); simp only [Act.put, List.setIfInBounds_toArray, List.set_cons_zero, List.set_cons_succ])
        apply lexHg (j := 2) (d := 19) (b := true) rfl rfl rfl rfl
        · intro w' hw'; go_simp; (try go_bits); refine (contains_any a n x _ ha hx).mono ?_; rintro e w'' ⟨rfl, hbb⟩; exact ⟨_, rfl, congrArg Value.bool HC.out, hw'.trans (hbb.mono hw'.size)⟩
        simp only [Act.put, List.setIfInBounds_toArray, List.set_cons_zero, List.set_cons_succ]
        apply lexF rfl; (· intro _; go_simp; (try go_bits); exact ⟨rfl, rfl⟩); simp only [Act.put, List.setIfInBounds_toArray, List.set_cons_zero, List.set_cons_succ]
        refine lexEnd (fun w2 hw2 => ?_)
        have hat2 := hat.below hw2
        obtain ⟨g0, g1, g2⟩ := best_cells hat2.bst
        obtain ⟨z0, z1, z2⟩ := zero_cells hat2.res
        have hzf := zero_free hat2.res
        clear c0 c1 c2 c3 c4 c5
        go_wp2
        obtain ⟨WF, hWF, f0, f1, f2, f3⟩ := look_fin hat2
        rw [← hWF]
        clear hWF
        refine bodyPost_ret (v := lookV bst) (by simp [results, Try.results17, go_sem, f0, f1, f2, lookV]) rfl ⟨by rw [HG.out]; simp [XT.t, T.look, HC.out], f3⟩
      | true =>
        have HC := hid hc
        clear hc
        apply lexF rfl; (· intro _; go_simp; (try go_bits); exact ⟨rfl, rfl⟩); simp only [Act.put, List.setIfInBounds_toArray, List.set_cons_zero, List.set_cons_succ]
        apply lexF rfl; (· intro _; go_simp; (try go_bits); exact ⟨rfl, rfl⟩); simp only [Act.put, List.setIfInBounds_toArray, List.set_cons_zero, List.set_cons_succ]
        apply lexF rfl; (· intro _; go_simp; (try go_bits); exact ⟨rfl, rfl⟩); simp only [Act.put, List.setIfInBounds_toArray, List.set_cons_zero, List.set_cons_succ]
        first | (apply lexN (j := 2) (d := 19) (b := true) rfl rfl rfl rfl; simp only [Act.put, List.setIfInBounds_toArray, List.set_cons_zero, List.set_cons_succ]) | (apply lexN' (j := 2) (d := 19) (b := true) rfl rfl rfl; simp only [Act.put, List.setIfInBounds_toArray, List.set_cons_zero, List.set_cons_succ]) | (apply lexFg (j := 2) (d := 19) (b := true) rfl rfl rfl rfl; (· intro _; go_simp; (try go_bits); exact ⟨rfl, rfl⟩); simp only [Act.put, List.setIfInBounds_toArray, List.set_cons_zero, List.set_cons_succ])
        first | (apply lexN (j := 2) (d := 19) (b := true) rfl rfl rfl rfl; simp only [Act.put, List.setIfInBounds_toArray, List.set_cons_zero, List.set_cons_succ]) | (apply lexN' (j := 2) (d := 19) (b := true) rfl rfl rfl; simp only [Act.put, List.setIfInBounds_toArray, List.set_cons_zero, List.set_cons_succ]) | (apply lexFg (j := 2) (d := 19) (b := true) rfl rfl rfl rfl; (· intro _; go_simp; (try go_bits); exact ⟨rfl, rfl⟩); simp only [Act.put, List.setIfInBounds_toArray, List.set_cons_zero, List.set_cons_succ])
        first | (apply lexN (j := 2) (d := 19) (b := true) rfl rfl rfl rfl; simp only [Act.put, List.setIfInBounds_toArray, List.set_cons_zero, List.set_cons_succ]) | (apply lexN' (j := 2) (d := 19) (b := true) rfl rfl rfl; simp only [Act.put, List.setIfInBounds_toArray, List.set_cons_zero, List.set_cons_succ]) | (apply lexFg (j := 2) (d := 19) (b := true) rfl rfl rfl rfl; (· intro _; go_simp; (try go_bits); exact ⟨rfl, rfl⟩); simp only [Act.put, List.setIfInBounds_toArray, List.set_cons_zero, List.set_cons_succ])
        first | (apply lexN (j := 2) (d := 19) (b := true) rfl rfl rfl rfl; simp only [Act.put, List.setIfInBounds_toArray, List.set_cons_zero, List.set_cons_succ]) | (apply lexN' (j := 2) (d := 19) (b := true) rfl rfl rfl; simp only [Act.put, List.setIfInBounds_toArray, List.set_cons_zero, List.set_cons_succ]) | (apply lexFg (j := 2) (d := 19) (b := true) rfl rfl rfl rfl; (· intro _; go_simp; (try go_bits); exact ⟨rfl, rfl⟩); simp only [Act.put, List.setIfInBounds_toArray, List.set_cons_zero, List.set_cons_succ])
        first | (apply lexN (j := 2) (d := 19) (b := true) rfl rfl rfl rfl; simp only [Act.put, List.setIfInBounds_toArray, List.set_cons_zero, List.set_cons_succ]) | (apply lexN' (j := 2) (d := 19) (b := true) rfl rfl rfl; simp only [Act.put, List.setIfInBounds_toArray, List.set_cons_zero, List.set_cons_succ]) | (apply lexHg (j := 2) (d := 19) (b := true) rfl rfl rfl rfl; (· intro w' hw'; have hcc := cellsBelow hw'; go_simp; (try go_bits); exact ⟨rfl, hw'⟩); simp only [Act.put, List.setIfInBounds_toArray, List.set_cons_zero, List.set_cons_succ])
        first | (apply lexN (j := 2) (d := 19) (b := true) rfl rfl rfl rfl; simp only [Act.put, List.setIfInBounds_toArray, List.set_cons_zero, List.set_cons_succ]) | (apply lexN' (j := 2) (d := 19) (b := true) rfl rfl rfl; simp only [Act.put, List.setIfInBounds_toArray, List.set_cons_zero, List.set_cons_succ]) | (apply lexFg (j := 2) (d := 19) (b := true) rfl rfl rfl rfl; (· intro _; go_simp; (try go_bits); exact ⟨rfl, rfl⟩); simp only [Act.put, List.setIfInBounds_toArray, List.set_cons_zero, List.set_cons_succ])
        apply lexHg (j := 2) (d := 19) (b := true) rfl rfl rfl rfl
        · intro w' hw'; go_simp; (try go_bits); refine (contains_any a n x _ ha hx).mono ?_; rintro e w'' ⟨rfl, hbb⟩; exact ⟨_, rfl, congrArg Value.bool HC.out, hw'.trans (hbb.mono hw'.size)⟩
        simp only [Act.put, List.setIfInBounds_toArray, List.set_cons_zero, List.set_cons_succ]
        apply lexF rfl; (· intro _; go_simp; (try go_bits); exact ⟨rfl, rfl⟩); simp only [Act.put, List.setIfInBounds_toArray, List.set_cons_zero, List.set_cons_succ]
        refine lexEnd (fun w2 hw2 => ?_)
        have hat2 := hat.below hw2
        have hin2 := hat2.nodes.below hat2.old
        clear c0 c1 c2 c3 c4 c5
        obtain ⟨c0, c1, c2, c3, c4, c5⟩ := node_cells hin2.1
        obtain ⟨g0, g1, g2⟩ := best_cells hat2.bst
        obtain ⟨z0, z1, z2⟩ := zero_cells hat2.res
        have hzf := zero_free hat2.res
        have hbf := best_free hat2.bst
        have hn32' : n ≤ 32 := HN0.out
        clear hin2
        cases hh with
        | true =>
          go_upto_region 9 with (fail)
          obtain ⟨W3, hW3, hat3⟩ : ∃ W3, W3 = ((w2.setCell ⟨w.heap.size + 1, 0, none⟩ (.int .u32 (a : Int))).setCell ⟨w.heap.size + 1, 1, none⟩ (.int .i64 (n : Int))).setCell ⟨w.heap.size + 1, 2, none⟩ (.int .i64 v) ∧ LookAt w W3 (.node b a n v true l r) ⟨a, n, v, true⟩ := ⟨_, rfl, hat2.set a n v⟩
          rw [← hW3]
          clear hW3
          clear c0 c1 c2 c3 c4 c5 g0 g1 g2 z0 z1 z2 hzf hbf
          have hin3 := hat3.nodes.below hat3.old
          obtain ⟨c0, c1, c2, c3, c4, c5⟩ := node_cells hin3.1
          have hbl3 : b < W3.heap.size := by have := hat3.size; omega
          clear hin3
          by_cases hn : n = 32
          · have heq : ((n : Int) == 32) = true := by rw [beq_iff_eq]; omega
            have HN := hid hn
            clear hn
            obtain ⟨g0, g1, g2⟩ := best_cells hat3.bst
            obtain ⟨z0, z1, z2⟩ := zero_cells hat3.res
            have hzf := zero_free hat3.res
            go_wp2
            obtain ⟨WF, hWF, f0, f1, f2, f3⟩ := look_fin hat3
            try dsimp only at hWF f0 f1 f2
            rw [← hWF]
            clear hWF
            refine bodyPost_ret (v := lookV ⟨a, n, v, true⟩) (by simp [results, Try.results17, go_sem, f0, f1, f2, lookV]) rfl ⟨by rw [HG.out]; simp only [XT.t, T.look]; rw [if_pos HC.out, if_pos HN.out]; rfl, f3⟩
          · have hne : ((n : Int) == 32) = false := by rw [beq_eq_false_iff_ne]; omega
            have hn32 : n < 32 := by omega
            have HN := hid hn
            clear hn
            go_upto_region 10 with (fail)
            rcases bit01 x n with hb | hb
            · have HB := hid hb
              refine wp_region_staged (fun w' => Below W3.heap.size W3 w') [0, 0, 0, 0, 0, 0, 0, 1, 1, 0, 0, 0, 1, 0] (by kernel_rfl) (by kernel_rfl) (by kernel_rfl) (by exact (Below.refl _ _).drew) ?_
              apply lexF rfl; (· intro _; go_simp; (try go_bits); exact ⟨rfl, rfl⟩); simp only [Act.put, List.setIfInBounds_toArray, List.set_cons_zero, List.set_cons_succ]
              apply lexF rfl; (· intro _; go_simp; (try go_bits); exact ⟨rfl, rfl⟩); simp only [Act.put, List.setIfInBounds_toArray, List.set_cons_zero, List.set_cons_succ]
              apply lexF rfl; (· intro _; go_simp; (try go_bits); exact ⟨rfl, rfl⟩); simp only [Act.put, List.setIfInBounds_toArray, List.set_cons_zero, List.set_cons_succ]
              apply lexF rfl; (· intro _; go_simp; (try go_bits); exact ⟨rfl, rfl⟩); simp only [Act.put, List.setIfInBounds_toArray, List.set_cons_zero, List.set_cons_succ]
              apply lexF rfl; (· intro _; go_simp; (try go_bits); exact ⟨rfl, rfl⟩); simp only [Act.put, List.setIfInBounds_toArray, List.set_cons_zero, List.set_cons_succ]
              apply lexF rfl; (· intro _; go_simp; (try go_bits); exact ⟨rfl, rfl⟩); simp only [Act.put, List.setIfInBounds_toArray, List.set_cons_zero, List.set_cons_succ]
              apply lexF rfl; (· intro _; go_simp; (try go_bits); exact ⟨rfl, rfl⟩); simp only [Act.put, List.setIfInBounds_toArray, List.set_cons_zero, List.set_cons_succ]
              apply lexH rfl; (· intro w' hw'; have hcc := cellsBelow hw'; go_simp; (try go_bits); exact ⟨rfl, hw'⟩); simp only [Act.put, List.setIfInBounds_toArray, List.set_cons_zero, List.set_cons_succ]
              apply lexH rfl
              · intro w' hw'; go_simp; (try go_bits); refine (branch_any x n _ hx hn32).mono ?_; rintro e w'' ⟨rfl, rfl⟩; exact ⟨_, rfl, val_bit HB, hw'⟩
              simp only [Act.put, List.setIfInBounds_toArray, List.set_cons_zero, List.set_cons_succ]
              apply lexF rfl; (· intro _; go_simp; (try go_bits); exact ⟨rfl, rfl⟩); simp only [Act.put, List.setIfInBounds_toArray, List.set_cons_zero, List.set_cons_succ]
              apply lexF rfl; (· intro _; go_simp; (try go_bits); exact ⟨rfl, rfl⟩); simp only [Act.put, List.setIfInBounds_toArray, List.set_cons_zero, List.set_cons_succ]
              apply lexF rfl; (· intro _; go_simp; (try go_bits); exact ⟨rfl, rfl⟩); simp only [Act.put, List.setIfInBounds_toArray, List.set_cons_zero, List.set_cons_succ]
              apply lexH rfl; (· intro w' hw'; have hcc := cellsBelow hw'; go_simp; (try go_bits); exact ⟨rfl, hw'⟩); simp only [Act.put, List.setIfInBounds_toArray, List.set_cons_zero, List.set_cons_succ]
              apply lexF rfl; (· intro _; go_simp; (try go_bits); exact ⟨rfl, rfl⟩); simp only [Act.put, List.setIfInBounds_toArray, List.set_cons_zero, List.set_cons_succ]
              refine lexEnd (fun w4 hw4 => ?_)
              go_wp2
              go_roundg (l.t.count)
              case measure => simp [XT.t, T.count]; omega
              case rel => exact ⟨l, ⟨a, n, v, true⟩, rfl, rfl, rfl, HF.out.1, by rw [HG.out]; simp [XT.t, T.look, HC.out, HB.out, HN.out, upd], (hat3.below hw4).kid Hk.out.1⟩
            · have HB := hid hb
              refine wp_region_staged (fun w' => Below W3.heap.size W3 w') [0, 0, 0, 0, 0, 0, 0, 1, 1, 0, 0, 0, 1, 0] (by kernel_rfl) (by kernel_rfl) (by kernel_rfl) (by exact (Below.refl _ _).drew) ?_
              apply lexF rfl; (· intro _; go_simp; (try go_bits); exact ⟨rfl, rfl⟩); simp only [Act.put, List.setIfInBounds_toArray, List.set_cons_zero, List.set_cons_succ]
              apply lexF rfl; (· intro _; go_simp; (try go_bits); exact ⟨rfl, rfl⟩); simp only [Act.put, List.setIfInBounds_toArray, List.set_cons_zero, List.set_cons_succ]
              apply lexF rfl; (· intro _; go_simp; (try go_bits); exact ⟨rfl, rfl⟩); simp only [Act.put, List.setIfInBounds_toArray, List.set_cons_zero, List.set_cons_succ]
              apply lexF rfl; (· intro _; go_simp; (try go_bits); exact ⟨rfl, rfl⟩); simp only [Act.put, List.setIfInBounds_toArray, List.set_cons_zero, List.set_cons_succ]
              apply lexF rfl; (· intro _; go_simp; (try go_bits); exact ⟨rfl, rfl⟩); simp only [Act.put, List.setIfInBounds_toArray, List.set_cons_zero, List.set_cons_succ]
              apply lexF rfl; (· intro _; go_simp; (try go_bits); exact ⟨rfl, rfl⟩); simp only [Act.put, List.setIfInBounds_toArray, List.set_cons_zero, List.set_cons_succ]
              apply lexF rfl; (· intro _; go_simp; (try go_bits); exact ⟨rfl, rfl⟩); simp only [Act.put, List.setIfInBounds_toArray, List.set_cons_zero, List.set_cons_succ]
              apply lexH rfl; (· intro w' hw'; have hcc := cellsBelow hw'; go_simp; (try go_bits); exact ⟨rfl, hw'⟩); simp only [Act.put, List.setIfInBounds_toArray, List.set_cons_zero, List.set_cons_succ]
              apply lexH rfl
              · intro w' hw'; go_simp; (try go_bits); refine (branch_any x n _ hx hn32).mono ?_; rintro e w'' ⟨rfl, rfl⟩; exact ⟨_, rfl, val_bit HB, hw'⟩
              simp only [Act.put, List.setIfInBounds_toArray, List.set_cons_zero, List.set_cons_succ]
              apply lexF rfl; (· intro _; go_simp; (try go_bits); exact ⟨rfl, rfl⟩); simp only [Act.put, List.setIfInBounds_toArray, List.set_cons_zero, List.set_cons_succ]
              apply lexF rfl; (· intro _; go_simp; (try go_bits); exact ⟨rfl, rfl⟩); simp only [Act.put, List.setIfInBounds_toArray, List.set_cons_zero, List.set_cons_succ]
              apply lexF rfl; (· intro _; go_simp; (try go_bits); exact ⟨rfl, rfl⟩); simp only [Act.put, List.setIfInBounds_toArray, List.set_cons_zero, List.set_cons_succ]
              apply lexH rfl; (· intro w' hw'; have hcc := cellsBelow hw'; go_simp; (try go_bits); exact ⟨rfl, hw'⟩); simp only [Act.put, List.setIfInBounds_toArray, List.set_cons_zero, List.set_cons_succ]
              apply lexF rfl; (· intro _; go_simp; (try go_bits); exact ⟨rfl, rfl⟩); simp only [Act.put, List.setIfInBounds_toArray, List.set_cons_zero, List.set_cons_succ]
              refine lexEnd (fun w4 hw4 => ?_)
              go_wp2
              go_roundg (r.t.count)
              case measure => simp [XT.t, T.count]; omega
              case rel => exact ⟨r, ⟨a, n, v, true⟩, rfl, rfl, rfl, HF.out.2, by rw [HG.out]; simp [XT.t, T.look, HC.out, HB.out, HN.out, upd], (hat3.below hw4).kid Hk.out.2⟩
        | false =>
          go_upto_region 9 with (fail)
          obtain ⟨W3, hW3, hat3⟩ : ∃ W3, W3 = w2 ∧ LookAt w W3 (.node b a n v false l r) bst := ⟨_, rfl, hat2⟩
          rw [← hW3]
          clear hW3
          clear c0 c1 c2 c3 c4 c5 g0 g1 g2 z0 z1 z2 hzf hbf
          have hin3 := hat3.nodes.below hat3.old
          obtain ⟨c0, c1, c2, c3, c4, c5⟩ := node_cells hin3.1
          have hbl3 : b < W3.heap.size := by have := hat3.size; omega
          clear hin3
          by_cases hn : n = 32
          · have heq : ((n : Int) == 32) = true := by rw [beq_iff_eq]; omega
            have HN := hid hn
            clear hn
            obtain ⟨g0, g1, g2⟩ := best_cells hat3.bst
            obtain ⟨z0, z1, z2⟩ := zero_cells hat3.res
            have hzf := zero_free hat3.res
            go_wp2
            obtain ⟨WF, hWF, f0, f1, f2, f3⟩ := look_fin hat3
            try dsimp only at hWF f0 f1 f2
            rw [← hWF]
            clear hWF
            refine bodyPost_ret (v := lookV bst) (by simp [results, Try.results17, go_sem, f0, f1, f2, lookV]) rfl ⟨by rw [HG.out]; simp only [XT.t, T.look]; rw [if_pos HC.out, if_pos HN.out]; rfl, f3⟩
          · have hne : ((n : Int) == 32) = false := by rw [beq_eq_false_iff_ne]; omega
            have hn32 : n < 32 := by omega
            have HN := hid hn
            clear hn
            go_upto_region 10 with (fail)
            rcases bit01 x n with hb | hb
            · have HB := hid hb
              refine wp_region_staged (fun w' => Below W3.heap.size W3 w') [0, 0, 0, 0, 0, 0, 0, 1, 1, 0, 0, 0, 1, 0] (by kernel_rfl) (by kernel_rfl) (by kernel_rfl) (by exact (Below.refl _ _).drew) ?_
              apply lexF rfl; (· intro _; go_simp; (try go_bits); exact ⟨rfl, rfl⟩); simp only [Act.put, List.setIfInBounds_toArray, List.set_cons_zero, List.set_cons_succ]
              apply lexF rfl; (· intro _; go_simp; (try go_bits); exact ⟨rfl, rfl⟩); simp only [Act.put, List.setIfInBounds_toArray, List.set_cons_zero, List.set_cons_succ]
              apply lexF rfl; (· intro _; go_simp; (try go_bits); exact ⟨rfl, rfl⟩); simp only [Act.put, List.setIfInBounds_toArray, List.set_cons_zero, List.set_cons_succ]
              apply lexF rfl; (· intro _; go_simp; (try go_bits); exact ⟨rfl, rfl⟩); simp only [Act.put, List.setIfInBounds_toArray, List.set_cons_zero, List.set_cons_succ]
              apply lexF rfl; (· intro _; go_simp; (try go_bits); exact ⟨rfl, rfl⟩); simp only [Act.put, List.setIfInBounds_toArray, List.set_cons_zero, List.set_cons_succ]
              apply lexF rfl; (· intro _; go_simp; (try go_bits); exact ⟨rfl, rfl⟩); simp only [Act.put, List.setIfInBounds_toArray, List.set_cons_zero, List.set_cons_succ]
              apply lexF rfl; (· intro _; go_simp; (try go_bits); exact ⟨rfl, rfl⟩); simp only [Act.put, List.setIfInBounds_toArray, List.set_cons_zero, List.set_cons_succ]
              apply lexH rfl; (· intro w' hw'; have hcc := cellsBelow hw'; go_simp; (try go_bits); exact ⟨rfl, hw'⟩); simp only [Act.put, List.setIfInBounds_toArray, List.set_cons_zero, List.set_cons_succ]
              apply lexH rfl
              · intro w' hw'; go_simp; (try go_bits); refine (branch_any x n _ hx hn32).mono ?_; rintro e w'' ⟨rfl, rfl⟩; exact ⟨_, rfl, val_bit HB, hw'⟩
              simp only [Act.put, List.setIfInBounds_toArray, List.set_cons_zero, List.set_cons_succ]
              apply lexF rfl; (· intro _; go_simp; (try go_bits); exact ⟨rfl, rfl⟩); simp only [Act.put, List.setIfInBounds_toArray, List.set_cons_zero, List.set_cons_succ]
              apply lexF rfl; (· intro _; go_simp; (try go_bits); exact ⟨rfl, rfl⟩); simp only [Act.put, List.setIfInBounds_toArray, List.set_cons_zero, List.set_cons_succ]
              apply lexF rfl; (· intro _; go_simp; (try go_bits); exact ⟨rfl, rfl⟩); simp only [Act.put, List.setIfInBounds_toArray, List.set_cons_zero, List.set_cons_succ]
              apply lexH rfl; (· intro w' hw'; have hcc := cellsBelow hw'; go_simp; (try go_bits); exact ⟨rfl, hw'⟩); simp only [Act.put, List.setIfInBounds_toArray, List.set_cons_zero, List.set_cons_succ]
              apply lexF rfl; (· intro _; go_simp; (try go_bits); exact ⟨rfl, rfl⟩); simp only [Act.put, List.setIfInBounds_toArray, List.set_cons_zero, List.set_cons_succ]
              refine lexEnd (fun w4 hw4 => ?_)
              go_wp2
              go_roundg (l.t.count)
              case measure => simp [XT.t, T.count]; omega
              case rel => exact ⟨l, bst, rfl, rfl, rfl, HF.out.1, by rw [HG.out]; simp [XT.t, T.look, HC.out, HB.out, HN.out, upd], (hat3.below hw4).kid Hk.out.1⟩
            · have HB := hid hb
              refine wp_region_staged (fun w' => Below W3.heap.size W3 w') [0, 0, 0, 0, 0, 0, 0, 1, 1, 0, 0, 0, 1, 0] (by kernel_rfl) (by kernel_rfl) (by kernel_rfl) (by exact (Below.refl _ _).drew) ?_
              apply lexF rfl; (· intro _; go_simp; (try go_bits); exact ⟨rfl, rfl⟩); simp only [Act.put, List.setIfInBounds_toArray, List.set_cons_zero, List.set_cons_succ]
              apply lexF rfl; (· intro _; go_simp; (try go_bits); exact ⟨rfl, rfl⟩); simp only [Act.put, List.setIfInBounds_toArray, List.set_cons_zero, List.set_cons_succ]
              apply lexF rfl; (· intro _; go_simp; (try go_bits); exact ⟨rfl, rfl⟩); simp only [Act.put, List.setIfInBounds_toArray, List.set_cons_zero, List.set_cons_succ]
              apply lexF rfl; (· intro _; go_simp; (try go_bits); exact ⟨rfl, rfl⟩); simp only [Act.put, List.setIfInBounds_toArray, List.set_cons_zero, List.set_cons_succ]
              apply lexF rfl; (· intro _; go_simp; (try go_bits); exact ⟨rfl, rfl⟩); simp only [Act.put, List.setIfInBounds_toArray, List.set_cons_zero, List.set_cons_succ]
              apply lexF rfl; (· intro _; go_simp; (try go_bits); exact ⟨rfl, rfl⟩); simp only [Act.put, List.setIfInBounds_toArray, List.set_cons_zero, List.set_cons_succ]
              apply lexF rfl; (· intro _; go_simp; (try go_bits); exact ⟨rfl, rfl⟩); simp only [Act.put, List.setIfInBounds_toArray, List.set_cons_zero, List.set_cons_succ]
              apply lexH rfl; (· intro w' hw'; have hcc := cellsBelow hw'; go_simp; (try go_bits); exact ⟨rfl, hw'⟩); simp only [Act.put, List.setIfInBounds_toArray, List.set_cons_zero, List.set_cons_succ]
              apply lexH rfl
              · intro w' hw'; go_simp; (try go_bits); refine (branch_any x n _ hx hn32).mono ?_; rintro e w'' ⟨rfl, rfl⟩; exact ⟨_, rfl, val_bit HB, hw'⟩
              simp only [Act.put, List.setIfInBounds_toArray, List.set_cons_zero, List.set_cons_succ]
              apply lexF rfl; (· intro _; go_simp; (try go_bits); exact ⟨rfl, rfl⟩); simp only [Act.put, List.setIfInBounds_toArray, List.set_cons_zero, List.set_cons_succ]
              apply lexF rfl; (· intro _; go_simp; (try go_bits); exact ⟨rfl, rfl⟩); simp only [Act.put, List.setIfInBounds_toArray, List.set_cons_zero, List.set_cons_succ]
              apply lexF rfl; (· intro _; go_simp; (try go_bits); exact ⟨rfl, rfl⟩); simp only [Act.put, List.setIfInBounds_toArray, List.set_cons_zero, List.set_cons_succ]
              apply lexH rfl; (· intro w' hw'; have hcc := cellsBelow hw'; go_simp; (try go_bits); exact ⟨rfl, hw'⟩); simp only [Act.put, List.setIfInBounds_toArray, List.set_cons_zero, List.set_cons_succ]
              apply lexF rfl; (· intro _; go_simp; (try go_bits); exact ⟨rfl, rfl⟩); simp only [Act.put, List.setIfInBounds_toArray, List.set_cons_zero, List.set_cons_succ]
              refine lexEnd (fun w4 hw4 => ?_)
              go_wp2
              go_roundg (r.t.count)
              case measure => simp [XT.t, T.count]; omega
              case rel => exact ⟨r, bst, rfl, rfl, rfl, HF.out.2, by rw [HG.out]; simp [XT.t, T.look, HC.out, HB.out, HN.out, upd], (hat3.below hw4).kid Hk.out.2⟩

end Go.Proofs.Ytklkldnpgecajaa
