/- The walks of the trie's small functions; of put, by the form of the tree. -/
import Derived.Test.YtklkldnpgecajaaPfxA
import Derived.Test.YtklkldnpgecajaaTreePlain
import Derived.Test.YtklkldnpgecajaaShelf
namespace Go.Proofs.Ytklkldnpgecajaa
open Go.RowKit

theorem bit_bits {a n : Nat} (ha : W32 a) : bits BinOp.and IntKind.u32 ((a : Int) / 2 ^ (31 - n)) 1 = ((bit a n : Nat) : Int) := by
  have e : ((a : Int) / 2 ^ (31 - n)) = ((a / 2 ^ (31 - n) : Nat) : Int) := by simp
  have h1 : a / 2 ^ (31 - n) ≤ a := Nat.div_le_self _ _
  have := ha.lt
  rw [e, show (1 : Int) = ((1 : Nat) : Int) from rfl, u32_and_nat _ _ (by omega) (by omega), nat_mask1]
  rfl
theorem bit_le (a n : Nat) : bit a n ≤ 1 := by unfold bit; omega

set_option maxHeartbeats 400000 in
theorem branch_any (a n : Nat) (w : World) (ha : W32 a) (hn : n < 32) :
    Calls Try.prog 35 #[.int .u32 (a : Int), .int .i64 (n : Int)] w fun e w' => e = .returned (.int .i64 ((bit a n : Nat) : Int)) ∧ w = w' := by
  have e := bit_bits (n := n) ha
  have hb := bit_le a n
  go_enter Try.func35, Try.ntmps35
  go_wp2
  go_ret
  exact ⟨rfl, rfl⟩

set_option maxHeartbeats 400000 in
theorem put_nil (ra rn : Nat) (rv : Int) (w : World) :
    Calls Try.prog 40 #[.pointer none, .agg #[.int .u32 (ra : Int), .int .i64 (rn : Int), .int .i64 rv]] w (PutPost .nil ra rn rv w) := by
  go_enter Try.func40, Try.ntmps40
  go_wp2
  go_ret
  refine ⟨.node (w.heap.size + 1) ra rn rv true .nil .nil, rfl, rfl, ⟨?_, trivial, trivial⟩, by simp [XT.blocks], fun b hb => .inr ?_, ?_⟩
  · have := heap_alloc_at (w.alloc (.cells #[.int .u32 (ra : Int), .int .i64 (rn : Int), .int .i64 rv] 37)) (nodeObj ra rn rv true none none)
    rw [World.size_alloc] at this
    exact this
  · simp [XT.blocks] at hb; omega
  · exact Chg.of_below (((Below.refl _ _).alloc (Nat.le_refl _) _).alloc (by simp) _)

/-- The route's box and the node, in the world behind the box. -/
theorem put_head {w : World} {b a n : Nat} {v : Int} {h : Bool} {p q : Option Addr} (ra rn : Nat) (rv : Int) (h0 : w.heap[b]? = some (nodeObj a n v h p q)) :
    ∃ W1, W1 = w.alloc (.cells #[.int .u32 (ra : Int), .int .i64 (rn : Int), .int .i64 rv] 37) ∧ W1.heap[b]? = some (nodeObj a n v h p q) ∧ b < w.heap.size ∧ W1.heap.size = w.heap.size + 1 ∧
      W1.heap[w.heap.size]? = some (.cells #[.int .u32 (ra : Int), .int .i64 (rn : Int), .int .i64 rv] 37) ∧ Below w.heap.size w W1 := by
  have hb : b < w.heap.size := (Array.getElem?_eq_some_iff.1 h0).1
  exact ⟨_, rfl, (Below.heap_alloc _ _ _ hb).trans h0, hb, World.size_alloc _ _, heap_alloc_at _ _, (Below.refl _ _).alloc (Nat.le_refl _) _⟩

theorem cell_of_box3 {W : World} {B : Nat} {x y z : Value} {t : TypeId} (h : W.heap[B]? = some (.cells #[x, y, z] t)) :
    W.cell? ⟨B, 0, none⟩ = some x ∧ W.cell? ⟨B, 1, none⟩ = some y ∧ W.cell? ⟨B, 2, none⟩ = some z := by
  refine ⟨?_, ?_, ?_⟩ <;> simp [World.cell?, h]

set_option maxHeartbeats 1000000 in
theorem put_same (b a n : Nat) (v : Int) (h : Bool) (l r : XT) (rv : Int) (w : World) (hin : (XT.node b a n v h l r).In w) (hnd : (XT.node b a n v h l r).blocks.Nodup) :
    Calls Try.prog 40 #[.pointer (some ⟨b, 0, none⟩), .agg #[.int .u32 (a : Int), .int .i64 (n : Int), .int .i64 rv]] w (PutPost (.node b a n v h l r) a n rv w) := by
  obtain ⟨h0, hl, hr⟩ := hin
  obtain ⟨W1, hW1, k0, hb, hsz, kB, hWb⟩ := put_head a n rv h0
  obtain ⟨c0, c1, c2, c3, c4, c5⟩ := node_cells k0
  have hf := node_free k0
  go_enter Try.func40, Try.ntmps40
  go_upto_region 3 with (fail)
  rw [← hW1]
  have hb1 : b < W1.heap.size := by omega
  have hB1 : w.heap.size < W1.heap.size := by omega
  have HSZ := hid hsz
  clear hsz hW1
  refine wp_region_staged (fun w' => Below W1.heap.size W1 w') [0, 0, 0, 0, 1, 0, 1, 0, 0] (by kernel_rfl) (by kernel_rfl) (by kernel_rfl) (by exact (Below.refl _ _).drew) ?_
  apply lexF rfl; (· intro _; go_simp; (try go_bits); exact ⟨rfl, rfl⟩); simp only [Act.put, List.setIfInBounds_toArray, List.set_cons_zero, List.set_cons_succ]
  apply lexF rfl; (· intro _; go_simp; (try go_bits); exact ⟨rfl, rfl⟩); simp only [Act.put, List.setIfInBounds_toArray, List.set_cons_zero, List.set_cons_succ]
  apply lexF rfl; (· intro _; go_simp; (try go_bits); exact ⟨rfl, rfl⟩); simp only [Act.put, List.setIfInBounds_toArray, List.set_cons_zero, List.set_cons_succ]
  apply lexF rfl; (· intro _; go_simp; (try go_bits); exact ⟨rfl, rfl⟩); simp only [Act.put, List.setIfInBounds_toArray, List.set_cons_zero, List.set_cons_succ]
  apply lexH rfl; (· intro w' hw'; have hcc := cellsBelow hw'; have d0 := cell_of_box3 kB; go_simp; (try go_bits); exact ⟨rfl, hw'⟩); simp only [Act.put, List.setIfInBounds_toArray, List.set_cons_zero, List.set_cons_succ]
  apply lexF rfl; (· intro _; go_simp; (try go_bits); exact ⟨rfl, rfl⟩); simp only [Act.put, List.setIfInBounds_toArray, List.set_cons_zero, List.set_cons_succ]
  apply lexH rfl; (· intro w' hw'; have hcc := cellsBelow hw'; have d0 := cell_of_box3 kB; go_simp; (try go_bits); exact ⟨rfl, hw'⟩); simp only [Act.put, List.setIfInBounds_toArray, List.set_cons_zero, List.set_cons_succ]
  apply lexF rfl; (· intro _; go_simp; (try go_bits); exact ⟨rfl, rfl⟩); simp only [Act.put, List.setIfInBounds_toArray, List.set_cons_zero, List.set_cons_succ]
  apply lexF rfl; (· intro _; go_simp; (try go_bits); exact ⟨rfl, rfl⟩); simp only [Act.put, List.setIfInBounds_toArray, List.set_cons_zero, List.set_cons_succ]
  refine lexEnd (fun w2 hw2 => ?_)
  have hcc := cellsBelow hw2
  have hff := frozenBelow hw2
  have d0 := cell_of_box3 kB
  go_wp2
  go_ret
  have k2 : w2.heap[b]? = some (nodeObj a n v h l.ptr r.ptr) := (hw2.block b hb1).trans k0
  have keep : ∀ c, c < w.heap.size → c ≠ b → ((((w2.setCell ⟨b, 0, none⟩ (.int .u32 (a : Int))).setCell ⟨b, 1, none⟩ (.int .i64 (n : Int))).setCell ⟨b, 2, none⟩ (.int .i64 rv)).setCell ⟨b, 3, none⟩ (.bool true)).heap[c]? = w.heap[c]? := fun c hc hne => by
    rw [setCell_far _ hne, setCell_far _ hne, setCell_far _ hne, setCell_far _ hne, hw2.block c (by omega), hWb.block c hc]
  refine ⟨.node b a n rv true l r, rfl, by simp [XT.t, T.put], ⟨heap_setCell_at (heap_setCell_at (heap_setCell_at (heap_setCell_at k2 _) _) _) _, ?_, ?_⟩, hnd, fun c hc => .inl hc, ?_⟩
  · exact hl.same fun c hc => keep c (hl.lt c hc) (ne_of_in hc (fun hb => (List.nodup_cons.1 hnd).1 (List.mem_append_left _ hb)))
  · exact hr.same fun c hc => keep c (hr.lt c hc) (ne_of_in hc (fun hb => (List.nodup_cons.1 hnd).1 (List.mem_append_right _ hb)))
  · have hm : b ∈ (XT.node b a n v h l r).blocks := List.mem_cons_self ..
    exact ((((Chg.of_below (hWb.trans (hw2.mono (by omega)))).setCell (p := ⟨b, 0, none⟩) (.inl hm) _).setCell (p := ⟨b, 1, none⟩) (.inl hm) _).setCell (p := ⟨b, 2, none⟩) (.inl hm) _).setCell (p := ⟨b, 3, none⟩) (.inl hm) _

/-- What is asked of the kid on the way down. -/
def PutDown (X : XT) (ra rn : Nat) (rv : Int) : Prop :=
  ∀ w, X.In w → X.blocks.Nodup → Calls Try.prog 40 #[.pointer X.ptr, .agg #[.int .u32 (ra : Int), .int .i64 (rn : Int), .int .i64 rv]] w (PutPost X ra rn rv w)

theorem PutDown.at {X : XT} {ra rn : Nat} {rv : Int} (h : PutDown X ra rn rv) {W1 w' : World} (hX : X.In W1) (hn : X.blocks.Nodup) (hw : Below W1.heap.size W1 w') :
    Calls Try.prog 40 #[.pointer X.ptr, .agg #[.int .u32 (ra : Int), .int .i64 (rn : Int), .int .i64 rv]] w' fun e w2 =>
      ∃ L : XT, e = .returned (.pointer L.ptr) ∧ L.t = X.t.put ra rn rv ∧ L.In w2 ∧ L.blocks.Nodup ∧ (∀ c ∈ L.blocks, c ∈ X.blocks ∨ W1.heap.size ≤ c) ∧ Chg X.blocks W1 w2 := by
  refine (h w' (hX.same fun c hc => hw.block c (hX.lt c hc)) hn).mono ?_
  rintro e w2 ⟨L, he, ht, hL, hLn, hLb, hc⟩
  exact ⟨L, he, ht, hL, hLn, fun c hc' => (hLb c hc').imp id fun h => Nat.le_trans hw.size h, (Chg.of_below hw).then ⟨hc.os, hc.tape, hc.output, hc.size⟩ fun i hi hn => hc.block i (Nat.lt_of_lt_of_le hi hw.size) hn⟩

theorem Chg.back {L : List Nat} {w W1 w2 : World} (h : Chg L W1 w2) (hb : Below w.heap.size w W1) : Chg L w w2 :=
  (Chg.of_below hb).then ⟨h.os, h.tape, h.output, h.size⟩ fun i hi hn => h.block i (Nat.lt_of_lt_of_le hi hb.size) hn

theorem flt_if2 {A B : Prop} [Decidable A] [Decidable B] {w : World} (h : ¬ (A ∧ B)) :
    Flt (.bool false) w (if A then (if B then Result.ok (Next.value (.bool true)) w else Result.ok (Next.value (.bool false)) w) else Result.ok (Next.value (.bool false)) w) := by
  by_cases hA : A
  · rw [if_pos hA, if_neg (fun hB => h ⟨hA, hB⟩)]; exact ⟨rfl, rfl⟩
  · rw [if_neg hA]; exact ⟨rfl, rfl⟩
theorem val_bit {a n k : Nat} (h : RowKit.Hid (bit a n = k)) : Value.int .i64 ((bit a n : Nat) : Int) = .int .i64 (k : Int) := by rw [h.out]

set_option maxHeartbeats 1000000 in
theorem put_down0 (b a n : Nat) (v : Int) (h : Bool) (l r : XT) (ra rn : Nat) (rv : Int) (w : World) (hin : (XT.node b a n v h l r).In w) (hnd : (XT.node b a n v h l r).blocks.Nodup) (ha : W32 a) (hra : W32 ra)
    (hne : ¬ (a = ra ∧ n = rn)) (hc : cvr a n ra rn = true) (hn : n < 32) (hbit : bit ra n = 0) (IH : PutDown l ra rn rv) :
    Calls Try.prog 40 #[.pointer (some ⟨b, 0, none⟩), .agg #[.int .u32 (ra : Int), .int .i64 (rn : Int), .int .i64 rv]] w (PutPost (.node b a n v h l r) ra rn rv w) := by
  have FIN := hid (fun (L : XT) (w2 : World) => put_step0 (w2 := w2) (L := L) (ra := ra) (rn := rn) (rv := rv) hin hnd)

  obtain ⟨h0, hl, hr⟩ := hin
  obtain ⟨W1, hW1, k0, hb, hsz, kB, hWb⟩ := put_head ra rn rv h0
  obtain ⟨c0, c1, c2, c3, c4, c5⟩ := node_cells k0
  have hf := node_free k0
  have HS := hid (show (T.node a n v h l.t r.t).put ra rn rv = .node a n v h (l.t.put ra rn rv) r.t by simp [T.put, hne, hc, hbit])
  have HC := hid hc
  have HB := hid hbit
  have HNE := hid (show ¬ ((a : Int) = (ra : Int) ∧ (n : Int) = (rn : Int)) by omega)
  have hkn : l.In W1 := hl.same fun c hc' => hWb.block c (hl.lt c hc')
  obtain ⟨n1, n2⟩ := List.nodup_cons.1 hnd
  have hnk : l.blocks.Nodup := (List.nodup_append.1 n2).1
  have hbk : b ∉ l.blocks := fun hb => n1 (List.mem_append_left _ hb)
  have HK := hid (And.intro hkn (And.intro hnk hbk))
  clear hne hc hbit hnd hl hr n1 n2 hkn hnk hbk
  go_enter Try.func40, Try.ntmps40
  go_upto_region 3 with (fail)
  rw [← hW1]
  have hb1 : b < W1.heap.size := by omega
  have hB1 : w.heap.size < W1.heap.size := by omega
  clear hsz hW1
  have d0 := cell_of_box3 kB
  refine wp_region_staged (fun w' => Below W1.heap.size W1 w') [0, 0, 0, 0, 1, 0, 1, 0, 0] (by kernel_rfl) (by kernel_rfl) (by kernel_rfl) (by exact (Below.refl _ _).drew) ?_
  apply lexF rfl; (· intro _; go_simp; (try go_bits); exact ⟨rfl, rfl⟩); simp only [Act.put, List.setIfInBounds_toArray, List.set_cons_zero, List.set_cons_succ]
  apply lexF rfl; (· intro _; go_simp; (try go_bits); exact ⟨rfl, rfl⟩); simp only [Act.put, List.setIfInBounds_toArray, List.set_cons_zero, List.set_cons_succ]
  apply lexF rfl; (· intro _; go_simp; (try go_bits); exact ⟨rfl, rfl⟩); simp only [Act.put, List.setIfInBounds_toArray, List.set_cons_zero, List.set_cons_succ]
  apply lexF rfl; (· intro _; go_simp; (try go_bits); exact ⟨rfl, rfl⟩); simp only [Act.put, List.setIfInBounds_toArray, List.set_cons_zero, List.set_cons_succ]
  apply lexH rfl; (· intro w' hw'; have hcc := cellsBelow hw'; go_simp; (try go_bits); exact ⟨rfl, hw'⟩); simp only [Act.put, List.setIfInBounds_toArray, List.set_cons_zero, List.set_cons_succ]
  apply lexF rfl; (· intro _; go_simp; (try go_bits); exact ⟨rfl, rfl⟩); simp only [Act.put, List.setIfInBounds_toArray, List.set_cons_zero, List.set_cons_succ]
  apply lexH rfl; (· intro w' hw'; have hcc := cellsBelow hw'; go_simp; (try go_bits); exact ⟨rfl, hw'⟩); simp only [Act.put, List.setIfInBounds_toArray, List.set_cons_zero, List.set_cons_succ]
  apply lexF rfl
  · intro w'; go_simp; (try go_bits); exact flt_if2 HNE.out
  simp only [Act.put, List.setIfInBounds_toArray, List.set_cons_zero, List.set_cons_succ]
  apply lexF rfl; (· intro _; go_simp; (try go_bits); exact ⟨rfl, rfl⟩); simp only [Act.put, List.setIfInBounds_toArray, List.set_cons_zero, List.set_cons_succ]
  refine lexEnd (fun w2 hw2 => ?_)
  go_upto_region 6 with (fail)
  refine wp_region_staged (fun w' => Below W1.heap.size W1 w') [0, 0, 0, 0, 1, 0, 1, 1, 0] (by kernel_rfl) (by kernel_rfl) (by kernel_rfl) (by exact hw2.drew) ?_
  apply lexF rfl; (· intro _; go_simp; (try go_bits); exact ⟨rfl, rfl⟩); simp only [Act.put, List.setIfInBounds_toArray, List.set_cons_zero, List.set_cons_succ]
  apply lexF rfl; (· intro _; go_simp; (try go_bits); exact ⟨rfl, rfl⟩); simp only [Act.put, List.setIfInBounds_toArray, List.set_cons_zero, List.set_cons_succ]
  apply lexF rfl; (· intro _; go_simp; (try go_bits); exact ⟨rfl, rfl⟩); simp only [Act.put, List.setIfInBounds_toArray, List.set_cons_zero, List.set_cons_succ]
  apply lexF rfl; (· intro _; go_simp; (try go_bits); exact ⟨rfl, rfl⟩); simp only [Act.put, List.setIfInBounds_toArray, List.set_cons_zero, List.set_cons_succ]
  apply lexH rfl; (· intro w' hw'; have hcc := cellsBelow hw'; go_simp; (try go_bits); exact ⟨rfl, hw'⟩); simp only [Act.put, List.setIfInBounds_toArray, List.set_cons_zero, List.set_cons_succ]
  apply lexF rfl; (· intro _; go_simp; (try go_bits); exact ⟨rfl, rfl⟩); simp only [Act.put, List.setIfInBounds_toArray, List.set_cons_zero, List.set_cons_succ]
  apply lexH rfl; (· intro w' hw'; have hcc := cellsBelow hw'; go_simp; (try go_bits); exact ⟨rfl, hw'⟩); simp only [Act.put, List.setIfInBounds_toArray, List.set_cons_zero, List.set_cons_succ]
  apply lexH rfl
  · intro w' hw'; go_simp; (try go_bits); refine (covers_any a n ra rn _ ha hra).mono ?_; rintro e w'' ⟨rfl, hbb⟩; exact ⟨_, rfl, congrArg Value.bool HC.out, hw'.trans (hbb.mono hw'.size)⟩
  simp only [Act.put, List.setIfInBounds_toArray, List.set_cons_zero, List.set_cons_succ]
  apply lexF rfl; (· intro _; go_simp; (try go_bits); exact ⟨rfl, rfl⟩); simp only [Act.put, List.setIfInBounds_toArray, List.set_cons_zero, List.set_cons_succ]
  refine lexEnd (fun w3 hw3 => ?_)
  go_upto_region 7 with (fail)
  clear hw2
  refine wp_region_staged (fun w' => Below W1.heap.size W1 w') [0, 0, 1, 0, 0, 0, 0, 0, 1, 1, 0] (by kernel_rfl) (by kernel_rfl) (by kernel_rfl) (by exact hw3.drew) ?_
  apply lexF rfl; (· intro _; go_simp; (try go_bits); exact ⟨rfl, rfl⟩); simp only [Act.put, List.setIfInBounds_toArray, List.set_cons_zero, List.set_cons_succ]
  apply lexF rfl; (· intro _; go_simp; (try go_bits); exact ⟨rfl, rfl⟩); simp only [Act.put, List.setIfInBounds_toArray, List.set_cons_zero, List.set_cons_succ]
  apply lexH rfl; (· intro w' hw'; have hcc := cellsBelow hw'; go_simp; (try go_bits); exact ⟨rfl, hw'⟩); simp only [Act.put, List.setIfInBounds_toArray, List.set_cons_zero, List.set_cons_succ]
  apply lexF rfl; (· intro _; go_simp; (try go_bits); exact ⟨rfl, rfl⟩); simp only [Act.put, List.setIfInBounds_toArray, List.set_cons_zero, List.set_cons_succ]
  apply lexF rfl; (· intro _; go_simp; (try go_bits); exact ⟨rfl, rfl⟩); simp only [Act.put, List.setIfInBounds_toArray, List.set_cons_zero, List.set_cons_succ]
  apply lexF rfl; (· intro _; go_simp; (try go_bits); exact ⟨rfl, rfl⟩); simp only [Act.put, List.setIfInBounds_toArray, List.set_cons_zero, List.set_cons_succ]
  apply lexF rfl; (· intro _; go_simp; (try go_bits); exact ⟨rfl, rfl⟩); simp only [Act.put, List.setIfInBounds_toArray, List.set_cons_zero, List.set_cons_succ]
  apply lexF rfl; (· intro _; go_simp; (try go_bits); exact ⟨rfl, rfl⟩); simp only [Act.put, List.setIfInBounds_toArray, List.set_cons_zero, List.set_cons_succ]
  apply lexH rfl; (· intro w' hw'; have hcc := cellsBelow hw'; go_simp; (try go_bits); exact ⟨rfl, hw'⟩); simp only [Act.put, List.setIfInBounds_toArray, List.set_cons_zero, List.set_cons_succ]
  apply lexH rfl
  · intro w' hw'; go_simp; (try go_bits); refine (branch_any ra n _ hra hn).mono ?_; rintro e w'' ⟨rfl, rfl⟩; exact ⟨_, rfl, val_bit HB, hw'⟩
  simp only [Act.put, List.setIfInBounds_toArray, List.set_cons_zero, List.set_cons_succ]
  apply lexF rfl; (· intro _; go_simp; (try go_bits); exact ⟨rfl, rfl⟩); simp only [Act.put, List.setIfInBounds_toArray, List.set_cons_zero, List.set_cons_succ]
  refine lexEnd (fun w4 hw4 => ?_)
  go_upto_region 8 with (fail)
  clear hw3
  refine wp_region_staged (fun w' => Below W1.heap.size W1 w') [0, 0, 0, 0, 0, 0, 0, 1, 1, 2, 0, 0, 0, 2] (by kernel_rfl) (by kernel_rfl) (by kernel_rfl) (by exact hw4.drew) ?_
  apply lexF rfl; (· intro _; go_simp; (try go_bits); exact ⟨rfl, rfl⟩); simp only [Act.put, List.setIfInBounds_toArray, List.set_cons_zero, List.set_cons_succ]
  apply lexF rfl; (· intro _; go_simp; (try go_bits); exact ⟨rfl, rfl⟩); simp only [Act.put, List.setIfInBounds_toArray, List.set_cons_zero, List.set_cons_succ]
  apply lexF rfl; (· intro _; go_simp; (try go_bits); exact ⟨rfl, rfl⟩); simp only [Act.put, List.setIfInBounds_toArray, List.set_cons_zero, List.set_cons_succ]
  apply lexF rfl; (· intro _; go_simp; (try go_bits); exact ⟨rfl, rfl⟩); simp only [Act.put, List.setIfInBounds_toArray, List.set_cons_zero, List.set_cons_succ]
  apply lexF rfl; (· intro _; go_simp; (try go_bits); exact ⟨rfl, rfl⟩); simp only [Act.put, List.setIfInBounds_toArray, List.set_cons_zero, List.set_cons_succ]
  apply lexF rfl; (· intro _; go_simp; (try go_bits); exact ⟨rfl, rfl⟩); simp only [Act.put, List.setIfInBounds_toArray, List.set_cons_zero, List.set_cons_succ]
  apply lexF rfl; (· intro _; go_simp; (try go_bits); exact ⟨rfl, rfl⟩); simp only [Act.put, List.setIfInBounds_toArray, List.set_cons_zero, List.set_cons_succ]
  apply lexH rfl; (· intro w' hw'; have hcc := cellsBelow hw'; go_simp; (try go_bits); exact ⟨rfl, hw'⟩); simp only [Act.put, List.setIfInBounds_toArray, List.set_cons_zero, List.set_cons_succ]
  apply lexH rfl; (· intro w' hw'; have hcc := cellsBelow hw'; go_simp; (try go_bits); exact ⟨rfl, hw'⟩); simp only [Act.put, List.setIfInBounds_toArray, List.set_cons_zero, List.set_cons_succ]
  apply lexE (α := XT) (fun L => .pointer L.ptr) (fun L w' => L.t = l.t.put ra rn rv ∧ L.In w' ∧ L.blocks.Nodup ∧ (∀ c ∈ L.blocks, c ∈ l.blocks ∨ W1.heap.size ≤ c) ∧ Chg l.blocks W1 w') rfl
  · intro w' hw'
    go_simp
    refine (IH.at HK.out.1 HK.out.2.1 hw').mono ?_
    rintro e w'' ⟨L, rfl, hL⟩
    exact ⟨_, rfl, L, rfl, hL⟩
  intro L
  simp only [Act.put, List.setIfInBounds_toArray, List.set_cons_zero, List.set_cons_succ]
  apply lexF rfl; (· intro _; go_simp; (try go_bits); exact ⟨rfl, rfl⟩); simp only [Act.put, List.setIfInBounds_toArray, List.set_cons_zero, List.set_cons_succ]
  apply lexF rfl; (· intro _; go_simp; (try go_bits); exact ⟨rfl, rfl⟩); simp only [Act.put, List.setIfInBounds_toArray, List.set_cons_zero, List.set_cons_succ]
  apply lexF rfl; (· intro _; go_simp; (try go_bits); exact ⟨rfl, rfl⟩); simp only [Act.put, List.setIfInBounds_toArray, List.set_cons_zero, List.set_cons_succ]
  apply lexS (fun w' => PutPost (.node b a n v h l r) ra rn rv w (.returned (.pointer (some ⟨b, 0, none⟩))) w') rfl
  · rintro w' ⟨q1, q2, q3, q4, q5⟩
    have k5 := (q5.block b hb1 HK.out.2.2).trans k0
    obtain ⟨e0, e1, e2, e3, e4, e5⟩ := node_cells k5
    have hff := node_free k5
    have Q1 := hid q1
    clear q1
    go_simp
    exact ⟨rfl, FIN.out L w' Q1.out q2 q3 (fun c hc => (q4 c hc).imp id fun h => Nat.le_trans hWb.size h) (q5.back hWb) HS.out⟩
  simp only [Act.put]
  refine lexEnd (fun w5 hw5 => ?_)
  go_wp2
  go_ret
  exact hw5

end Go.Proofs.Ytklkldnpgecajaa
