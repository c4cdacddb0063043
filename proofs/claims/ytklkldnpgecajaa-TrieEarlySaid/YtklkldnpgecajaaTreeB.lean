/- The walk of put, the ways that make a node. -/
import Derived.Test.YtklkldnpgecajaaTreeA
namespace Go.Proofs.Ytklkldnpgecajaa
open Go.RowKit

set_option maxHeartbeats 1000000 in
theorem put_down1 (b a n : Nat) (v : Int) (h : Bool) (l r : XT) (ra rn : Nat) (rv : Int) (w : World) (hin : (XT.node b a n v h l r).In w) (hnd : (XT.node b a n v h l r).blocks.Nodup) (ha : W32 a) (hra : W32 ra)
    (hne : ¬ (a = ra ∧ n = rn)) (hc : cvr a n ra rn = true) (hn : n < 32) (hbit : bit ra n = 1) (IH : PutDown r ra rn rv) :
    Calls Try.prog 40 #[.pointer (some ⟨b, 0, none⟩), .agg #[.int .u32 (ra : Int), .int .i64 (rn : Int), .int .i64 rv]] w (PutPost (.node b a n v h l r) ra rn rv w) := by
  have FIN := hid (fun (L : XT) (w2 : World) => put_step1 (w2 := w2) (R := L) (ra := ra) (rn := rn) (rv := rv) hin hnd)

  obtain ⟨h0, hl, hr⟩ := hin
  obtain ⟨W1, hW1, k0, hb, hsz, kB, hWb⟩ := put_head ra rn rv h0
  obtain ⟨c0, c1, c2, c3, c4, c5⟩ := node_cells k0
  have hf := node_free k0
  have HS := hid (show (T.node a n v h l.t r.t).put ra rn rv = .node a n v h l.t (r.t.put ra rn rv) by simp [T.put, hne, hc, hbit])
  have HC := hid hc
  have HB := hid hbit
  have HNE := hid (show ¬ ((a : Int) = (ra : Int) ∧ (n : Int) = (rn : Int)) by omega)
  have hkn : r.In W1 := hr.same fun c hc' => hWb.block c (hr.lt c hc')
  obtain ⟨n1, n2⟩ := List.nodup_cons.1 hnd
  have hnk : r.blocks.Nodup := (List.nodup_append.1 n2).2.1
  have hbk : b ∉ r.blocks := fun hb => n1 (List.mem_append_right _ hb)
  have HK := hid (And.intro hkn (And.intro hnk hbk))
  clear hne hc hbit hnd hl hr n1 n2 hkn hnk hbk
  go_enter Try.func40, Try.ntmps40
  go_upto_region 3 with (fail)
  rw [← hW1]
  have hb1 : b < W1.heap.size := by omega
  have hB1 : w.heap.size < W1.heap.size := by omega
  clear hsz hW1
  have d0 := cell_of_box3 kB
  refine wp_region_staged (fun w' => Below W1.heap.size W1 w') [0, 0, 0, 0, 1, 0, 1, 0, 0] (by kernel_rfl) (by kernel_rfl) (by kernel_rfl) (by exact (Below.refl _ _).drew) ?_
  apply lexF rfl; (· intro _; go_simp; (try go_bits); exact ⟨rfl, rfl⟩); simp only [Act.put, List.setIfInBounds_toArray, List.set_cons_zero, List.set_cons_succ]
  apply lexF rfl; (· intro _; go_simp; (try go_bits); exact ⟨rfl, rfl⟩); simp only [Act.put, List.setIfInBounds_toArray, List.set_cons_zero, List.set_cons_succ]
  apply lexF rfl; (· intro _; go_simp; (try go_bits); exact ⟨rfl, rfl⟩); simp only [Act.put, List.setIfInBounds_toArray, List.set_cons_zero, List.set_cons_succ]
  apply lexF rfl; (· intro _; go_simp; (try go_bits); exact ⟨rfl, rfl⟩); simp only [Act.put, List.setIfInBounds_toArray, List.set_cons_zero, List.set_cons_succ]
  apply lexH rfl; (· intro w' hw'; have hcc := cellsBelow hw'; go_simp; (try go_bits); exact ⟨rfl, hw'⟩); simp only [Act.put, List.setIfInBounds_toArray, List.set_cons_zero, List.set_cons_succ]
  apply lexF rfl; (· intro _; go_simp; (try go_bits); exact ⟨rfl, rfl⟩); simp only [Act.put, List.setIfInBounds_toArray, List.set_cons_zero, List.set_cons_succ]
  apply lexH rfl; (· intro w' hw'; have hcc := cellsBelow hw'; go_simp; (try go_bits); exact ⟨rfl, hw'⟩); simp only [Act.put, List.setIfInBounds_toArray, List.set_cons_zero, List.set_cons_succ]
  apply lexF rfl
  · intro w'; go_simp; (try go_bits); exact flt_if2 HNE.out
  simp only [Act.put, List.setIfInBounds_toArray, List.set_cons_zero, List.set_cons_succ]
  apply lexF rfl; (· intro _; go_simp; (try go_bits); exact ⟨rfl, rfl⟩); simp only [Act.put, List.setIfInBounds_toArray, List.set_cons_zero, List.set_cons_succ]
  refine lexEnd (fun w2 hw2 => ?_)
  go_upto_region 6 with (fail)
  refine wp_region_staged (fun w' => Below W1.heap.size W1 w') [0, 0, 0, 0, 1, 0, 1, 1, 0] (by kernel_rfl) (by kernel_rfl) (by kernel_rfl) (by exact hw2.drew) ?_
  apply lexF rfl; (· intro _; go_simp; (try go_bits); exact ⟨rfl, rfl⟩); simp only [Act.put, List.setIfInBounds_toArray, List.set_cons_zero, List.set_cons_succ]
  apply lexF rfl; (· intro _; go_simp; (try go_bits); exact ⟨rfl, rfl⟩); simp only [Act.put, List.setIfInBounds_toArray, List.set_cons_zero, List.set_cons_succ]
  apply lexF rfl; (· intro _; go_simp; (try go_bits); exact ⟨rfl, rfl⟩); simp only [Act.put, List.setIfInBounds_toArray, List.set_cons_zero, List.set_cons_succ]
  apply lexF rfl; (· intro _; go_simp; (try go_bits); exact ⟨rfl, rfl⟩); simp only [Act.put, List.setIfInBounds_toArray, List.set_cons_zero, List.set_cons_succ]
  apply lexH rfl; (· intro w' hw'; have hcc := cellsBelow hw'; go_simp; (try go_bits); exact ⟨rfl, hw'⟩); simp only [Act.put, List.setIfInBounds_toArray, List.set_cons_zero, List.set_cons_succ]
  apply lexF rfl; (· intro _; go_simp; (try go_bits); exact ⟨rfl, rfl⟩); simp only [Act.put, List.setIfInBounds_toArray, List.set_cons_zero, List.set_cons_succ]
  apply lexH rfl; (· intro w' hw'; have hcc := cellsBelow hw'; go_simp; (try go_bits); exact ⟨rfl, hw'⟩); simp only [Act.put, List.setIfInBounds_toArray, List.set_cons_zero, List.set_cons_succ]
  apply lexH rfl
  · intro w' hw'; go_simp; (try go_bits); refine (covers_any a n ra rn _ ha hra).mono ?_; rintro e w'' ⟨rfl, hbb⟩; exact ⟨_, rfl, congrArg Value.bool HC.out, hw'.trans (hbb.mono hw'.size)⟩
  simp only [Act.put, List.setIfInBounds_toArray, List.set_cons_zero, List.set_cons_succ]
  apply lexF rfl; (· intro _; go_simp; (try go_bits); exact ⟨rfl, rfl⟩); simp only [Act.put, List.setIfInBounds_toArray, List.set_cons_zero, List.set_cons_succ]
  refine lexEnd (fun w3 hw3 => ?_)
  go_upto_region 7 with (fail)
  clear hw2
  refine wp_region_staged (fun w' => Below W1.heap.size W1 w') [0, 0, 1, 0, 0, 0, 0, 0, 1, 1, 0] (by kernel_rfl) (by kernel_rfl) (by kernel_rfl) (by exact hw3.drew) ?_
  apply lexF rfl; (· intro _; go_simp; (try go_bits); exact ⟨rfl, rfl⟩); simp only [Act.put, List.setIfInBounds_toArray, List.set_cons_zero, List.set_cons_succ]
  apply lexF rfl; (· intro _; go_simp; (try go_bits); exact ⟨rfl, rfl⟩); simp only [Act.put, List.setIfInBounds_toArray, List.set_cons_zero, List.set_cons_succ]
  apply lexH rfl; (· intro w' hw'; have hcc := cellsBelow hw'; go_simp; (try go_bits); exact ⟨rfl, hw'⟩); simp only [Act.put, List.setIfInBounds_toArray, List.set_cons_zero, List.set_cons_succ]
  apply lexF rfl; (· intro _; go_simp; (try go_bits); exact ⟨rfl, rfl⟩); simp only [Act.put, List.setIfInBounds_toArray, List.set_cons_zero, List.set_cons_succ]
  apply lexF rfl; (· intro _; go_simp; (try go_bits); exact ⟨rfl, rfl⟩); simp only [Act.put, List.setIfInBounds_toArray, List.set_cons_zero, List.set_cons_succ]
  apply lexF rfl; (· intro _; go_simp; (try go_bits); exact ⟨rfl, rfl⟩); simp only [Act.put, List.setIfInBounds_toArray, List.set_cons_zero, List.set_cons_succ]
  apply lexF rfl; (· intro _; go_simp; (try go_bits); exact ⟨rfl, rfl⟩); simp only [Act.put, List.setIfInBounds_toArray, List.set_cons_zero, List.set_cons_succ]
  apply lexF rfl; (· intro _; go_simp; (try go_bits); exact ⟨rfl, rfl⟩); simp only [Act.put, List.setIfInBounds_toArray, List.set_cons_zero, List.set_cons_succ]
  apply lexH rfl; (· intro w' hw'; have hcc := cellsBelow hw'; go_simp; (try go_bits); exact ⟨rfl, hw'⟩); simp only [Act.put, List.setIfInBounds_toArray, List.set_cons_zero, List.set_cons_succ]
  apply lexH rfl
  · intro w' hw'; go_simp; (try go_bits); refine (branch_any ra n _ hra hn).mono ?_; rintro e w'' ⟨rfl, rfl⟩; exact ⟨_, rfl, val_bit HB, hw'⟩
  simp only [Act.put, List.setIfInBounds_toArray, List.set_cons_zero, List.set_cons_succ]
  apply lexF rfl; (· intro _; go_simp; (try go_bits); exact ⟨rfl, rfl⟩); simp only [Act.put, List.setIfInBounds_toArray, List.set_cons_zero, List.set_cons_succ]
  refine lexEnd (fun w4 hw4 => ?_)
  go_upto_region 8 with (fail)
  clear hw3
  refine wp_region_staged (fun w' => Below W1.heap.size W1 w') [0, 0, 0, 0, 0, 0, 0, 1, 1, 2, 0, 0, 0, 2] (by kernel_rfl) (by kernel_rfl) (by kernel_rfl) (by exact hw4.drew) ?_
  apply lexF rfl; (· intro _; go_simp; (try go_bits); exact ⟨rfl, rfl⟩); simp only [Act.put, List.setIfInBounds_toArray, List.set_cons_zero, List.set_cons_succ]
  apply lexF rfl; (· intro _; go_simp; (try go_bits); exact ⟨rfl, rfl⟩); simp only [Act.put, List.setIfInBounds_toArray, List.set_cons_zero, List.set_cons_succ]
  apply lexF rfl; (· intro _; go_simp; (try go_bits); exact ⟨rfl, rfl⟩); simp only [Act.put, List.setIfInBounds_toArray, List.set_cons_zero, List.set_cons_succ]
  apply lexF rfl; (· intro _; go_simp; (try go_bits); exact ⟨rfl, rfl⟩); simp only [Act.put, List.setIfInBounds_toArray, List.set_cons_zero, List.set_cons_succ]
  apply lexF rfl; (· intro _; go_simp; (try go_bits); exact ⟨rfl, rfl⟩); simp only [Act.put, List.setIfInBounds_toArray, List.set_cons_zero, List.set_cons_succ]
  apply lexF rfl; (· intro _; go_simp; (try go_bits); exact ⟨rfl, rfl⟩); simp only [Act.put, List.setIfInBounds_toArray, List.set_cons_zero, List.set_cons_succ]
  apply lexF rfl; (· intro _; go_simp; (try go_bits); exact ⟨rfl, rfl⟩); simp only [Act.put, List.setIfInBounds_toArray, List.set_cons_zero, List.set_cons_succ]
  apply lexH rfl; (· intro w' hw'; have hcc := cellsBelow hw'; go_simp; (try go_bits); exact ⟨rfl, hw'⟩); simp only [Act.put, List.setIfInBounds_toArray, List.set_cons_zero, List.set_cons_succ]
  apply lexH rfl; (· intro w' hw'; have hcc := cellsBelow hw'; go_simp; (try go_bits); exact ⟨rfl, hw'⟩); simp only [Act.put, List.setIfInBounds_toArray, List.set_cons_zero, List.set_cons_succ]
  apply lexE (α := XT) (fun L => .pointer L.ptr) (fun L w' => L.t = r.t.put ra rn rv ∧ L.In w' ∧ L.blocks.Nodup ∧ (∀ c ∈ L.blocks, c ∈ r.blocks ∨ W1.heap.size ≤ c) ∧ Chg r.blocks W1 w') rfl
  · intro w' hw'
    go_simp
    refine (IH.at HK.out.1 HK.out.2.1 hw').mono ?_
    rintro e w'' ⟨L, rfl, hL⟩
    exact ⟨_, rfl, L, rfl, hL⟩
  intro L
  simp only [Act.put, List.setIfInBounds_toArray, List.set_cons_zero, List.set_cons_succ]
  apply lexF rfl; (· intro _; go_simp; (try go_bits); exact ⟨rfl, rfl⟩); simp only [Act.put, List.setIfInBounds_toArray, List.set_cons_zero, List.set_cons_succ]
  apply lexF rfl; (· intro _; go_simp; (try go_bits); exact ⟨rfl, rfl⟩); simp only [Act.put, List.setIfInBounds_toArray, List.set_cons_zero, List.set_cons_succ]
  apply lexF rfl; (· intro _; go_simp; (try go_bits); exact ⟨rfl, rfl⟩); simp only [Act.put, List.setIfInBounds_toArray, List.set_cons_zero, List.set_cons_succ]
  apply lexS (fun w' => PutPost (.node b a n v h l r) ra rn rv w (.returned (.pointer (some ⟨b, 0, none⟩))) w') rfl
  · rintro w' ⟨q1, q2, q3, q4, q5⟩
    have k5 := (q5.block b hb1 HK.out.2.2).trans k0
    obtain ⟨e0, e1, e2, e3, e4, e5⟩ := node_cells k5
    have hff := node_free k5
    have Q1 := hid q1
    clear q1
    go_simp
    exact ⟨rfl, FIN.out L w' Q1.out q2 q3 (fun c hc => (q4 c hc).imp id fun h => Nat.le_trans hWb.size h) (q5.back hWb) HS.out⟩
  simp only [Act.put]
  refine lexEnd (fun w5 hw5 => ?_)
  go_wp2
  go_ret
  exact hw5

/-- Behind the making of the leaf. -/
theorem put_mid {w W1 w3 : World} {b a n ra rn : Nat} {v rv : Int} {h : Bool} {p q : Option Addr} (hWb : Below w.heap.size w W1) (hw3 : Below W1.heap.size W1 w3) (k0 : W1.heap[b]? = some (nodeObj a n v h p q))
    (kB : W1.heap[w.heap.size]? = some (.cells #[.int .u32 (ra : Int), .int .i64 (rn : Int), .int .i64 rv] 37)) :
    ∃ W4, W4 = w3.alloc (.cells #[.int .u32 (ra : Int), .int .i64 (rn : Int), .int .i64 rv, .bool true, .pointer none, .pointer none] 71) ∧ W4.heap[b]? = some (nodeObj a n v h p q) ∧
      W4.heap[w.heap.size]? = some (.cells #[.int .u32 (ra : Int), .int .i64 (rn : Int), .int .i64 rv] 37) ∧ W4.heap[w3.heap.size]? = some (nodeObj ra rn rv true none none) ∧ b ≠ w3.heap.size ∧ w.heap.size ≤ w3.heap.size ∧
      Below w.heap.size w W4 ∧ w3.heap.size < W4.heap.size ∧ b < W4.heap.size ∧ w.heap.size < W4.heap.size := by
  have hb : b < W1.heap.size := (Array.getElem?_eq_some_iff.1 k0).1
  have hB : w.heap.size < W1.heap.size := (Array.getElem?_eq_some_iff.1 kB).1
  have h3 := hw3.size
  have hs : (w3.alloc (.cells #[.int .u32 (ra : Int), .int .i64 (rn : Int), .int .i64 rv, .bool true, .pointer none, .pointer none] 71)).heap.size = w3.heap.size + 1 := World.size_alloc _ _
  refine ⟨_, rfl, (Below.heap_alloc _ _ _ (by omega)).trans ((hw3.block b hb).trans k0), (Below.heap_alloc _ _ _ (by omega)).trans ((hw3.block _ hB).trans kB), heap_alloc_at _ _, by omega, by omega,
    (hWb.trans (hw3.mono (by omega))).alloc (by omega) _, by omega, by omega, by omega⟩

theorem over_fin0 {w w2 : World} {b a n : Nat} {v : Int} {h : Bool} {l r : XT} {ra rn B : Nat} {rv : Int} (hin : (XT.node b a n v h l r).In w) (hnd : (XT.node b a n v h l r).blocks.Nodup)
    (hs : (T.node a n v h l.t r.t).put ra rn rv = .node ra rn rv true (.node a n v h l.t r.t) .nil) (hbL : b ≠ B) (hlo : w.heap.size ≤ B)
    (hL : w2.heap[B]? = some (nodeObj ra rn rv true none none)) (hw : Below w.heap.size w w2) :
    PutPost (.node b a n v h l r) ra rn rv w (.returned (.pointer (some ⟨B, 0, none⟩))) (w2.setCell ⟨B, 4, none⟩ (.pointer (some ⟨b, 0, none⟩))) := by
  have hX : (XT.node b a n v h l r).In (w2.setCell ⟨B, 4, none⟩ (.pointer (some ⟨b, 0, none⟩))) := hin.same fun c hc => by
    have := hin.lt c hc
    rw [setCell_far _ (by omega), hw.block c this]
  have hB : B ∉ (XT.node b a n v h l r).blocks := fun hb => by have := hin.lt B hb; omega
  refine ⟨.node B ra rn rv true (.node b a n v h l r) .nil, rfl, by simp only [XT.t, hs], ⟨node_set0 hL _, hX, trivial⟩, ?_, fun c hc => ?_, (Chg.of_below hw).setCell (p := ⟨B, 4, none⟩) (.inr hlo) _⟩
  · simp only [XT.blocks, List.append_nil] at hnd hB ⊢
    exact List.nodup_cons.2 ⟨hB, hnd⟩
  · rw [XT.blocks] at hc
    rcases List.mem_cons.1 hc with rfl | hc
    · exact .inr hlo
    · exact .inl (by simpa [XT.blocks] using hc)
theorem over_fin1 {w w2 : World} {b a n : Nat} {v : Int} {h : Bool} {l r : XT} {ra rn B : Nat} {rv : Int} (hin : (XT.node b a n v h l r).In w) (hnd : (XT.node b a n v h l r).blocks.Nodup)
    (hs : (T.node a n v h l.t r.t).put ra rn rv = .node ra rn rv true .nil (.node a n v h l.t r.t)) (hbL : b ≠ B) (hlo : w.heap.size ≤ B)
    (hL : w2.heap[B]? = some (nodeObj ra rn rv true none none)) (hw : Below w.heap.size w w2) :
    PutPost (.node b a n v h l r) ra rn rv w (.returned (.pointer (some ⟨B, 0, none⟩))) (w2.setCell ⟨B, 5, none⟩ (.pointer (some ⟨b, 0, none⟩))) := by
  have hX : (XT.node b a n v h l r).In (w2.setCell ⟨B, 5, none⟩ (.pointer (some ⟨b, 0, none⟩))) := hin.same fun c hc => by
    have := hin.lt c hc
    rw [setCell_far _ (by omega), hw.block c this]
  have hB : B ∉ (XT.node b a n v h l r).blocks := fun hb => by have := hin.lt B hb; omega
  refine ⟨.node B ra rn rv true .nil (.node b a n v h l r), rfl, by simp only [XT.t, hs], ⟨node_set1 hL _, trivial, hX⟩, ?_, fun c hc => ?_, (Chg.of_below hw).setCell (p := ⟨B, 5, none⟩) (.inr hlo) _⟩
  · simp only [XT.blocks, List.nil_append] at hnd hB ⊢
    exact List.nodup_cons.2 ⟨hB, hnd⟩
  · rw [XT.blocks] at hc
    rcases List.mem_cons.1 hc with rfl | hc
    · exact .inr hlo
    · exact .inl (by simpa [XT.blocks] using hc)
set_option maxHeartbeats 1000000 in
theorem put_over0 (b a n : Nat) (v : Int) (h : Bool) (l r : XT) (ra rn : Nat) (rv : Int) (w : World) (hin : (XT.node b a n v h l r).In w) (hnd : (XT.node b a n v h l r).blocks.Nodup) (ha : W32 a) (hra : W32 ra)
    (hne : ¬ (a = ra ∧ n = rn)) (hc : cvr a n ra rn = false) (hc2 : cvr ra rn a n = true) (hn : rn < 32) (hbit : bit a rn = 0) :
    Calls Try.prog 40 #[.pointer (some ⟨b, 0, none⟩), .agg #[.int .u32 (ra : Int), .int .i64 (rn : Int), .int .i64 rv]] w (PutPost (.node b a n v h l r) ra rn rv w) := by
  have FIN := hid (fun (B : Nat) (w2 : World) => over_fin0 (B := B) (w2 := w2) (ra := ra) (rn := rn) (rv := rv) hin hnd (by simp [T.put, hne, hc, hc2, hbit]))
  have HC2 := hid hc2
  have HB := hid hbit
  clear hc2 hbit
  obtain ⟨h0, hl, hr⟩ := hin
  obtain ⟨W1, hW1, k0, hb, hsz, kB, hWb⟩ := put_head ra rn rv h0
  obtain ⟨c0, c1, c2, c3, c4, c5⟩ := node_cells k0
  have hf := node_free k0
  have HC := hid hc
  have HNE := hid (show ¬ ((a : Int) = (ra : Int) ∧ (n : Int) = (rn : Int)) by omega)
  clear hne hc hnd hl hr
  go_enter Try.func40, Try.ntmps40
  go_upto_region 3 with (fail)
  rw [← hW1]
  have hb1 : b < W1.heap.size := by omega
  have hB1 : w.heap.size < W1.heap.size := by omega
  clear hsz hW1
  have d0 := cell_of_box3 kB
  refine wp_region_staged (fun w' => Below W1.heap.size W1 w') [0, 0, 0, 0, 1, 0, 1, 0, 0] (by kernel_rfl) (by kernel_rfl) (by kernel_rfl) (by exact (Below.refl _ _).drew) ?_
  apply lexF rfl; (· intro _; go_simp; (try go_bits); exact ⟨rfl, rfl⟩); simp only [Act.put, List.setIfInBounds_toArray, List.set_cons_zero, List.set_cons_succ]
  apply lexF rfl; (· intro _; go_simp; (try go_bits); exact ⟨rfl, rfl⟩); simp only [Act.put, List.setIfInBounds_toArray, List.set_cons_zero, List.set_cons_succ]
  apply lexF rfl; (· intro _; go_simp; (try go_bits); exact ⟨rfl, rfl⟩); simp only [Act.put, List.setIfInBounds_toArray, List.set_cons_zero, List.set_cons_succ]
  apply lexF rfl; (· intro _; go_simp; (try go_bits); exact ⟨rfl, rfl⟩); simp only [Act.put, List.setIfInBounds_toArray, List.set_cons_zero, List.set_cons_succ]
  apply lexH rfl; (· intro w' hw'; have hcc := cellsBelow hw'; go_simp; (try go_bits); exact ⟨rfl, hw'⟩); simp only [Act.put, List.setIfInBounds_toArray, List.set_cons_zero, List.set_cons_succ]
  apply lexF rfl; (· intro _; go_simp; (try go_bits); exact ⟨rfl, rfl⟩); simp only [Act.put, List.setIfInBounds_toArray, List.set_cons_zero, List.set_cons_succ]
  apply lexH rfl; (· intro w' hw'; have hcc := cellsBelow hw'; go_simp; (try go_bits); exact ⟨rfl, hw'⟩); simp only [Act.put, List.setIfInBounds_toArray, List.set_cons_zero, List.set_cons_succ]
  apply lexF rfl
  · intro w'; go_simp; (try go_bits); exact flt_if2 HNE.out
  simp only [Act.put, List.setIfInBounds_toArray, List.set_cons_zero, List.set_cons_succ]
  apply lexF rfl; (· intro _; go_simp; (try go_bits); exact ⟨rfl, rfl⟩); simp only [Act.put, List.setIfInBounds_toArray, List.set_cons_zero, List.set_cons_succ]
  refine lexEnd (fun w2 hw2 => ?_)
  go_upto_region 6 with (fail)
  refine wp_region_staged (fun w' => Below W1.heap.size W1 w') [0, 0, 0, 0, 1, 0, 1, 1, 0] (by kernel_rfl) (by kernel_rfl) (by kernel_rfl) (by exact hw2.drew) ?_
  apply lexF rfl; (· intro _; go_simp; (try go_bits); exact ⟨rfl, rfl⟩); simp only [Act.put, List.setIfInBounds_toArray, List.set_cons_zero, List.set_cons_succ]
  apply lexF rfl; (· intro _; go_simp; (try go_bits); exact ⟨rfl, rfl⟩); simp only [Act.put, List.setIfInBounds_toArray, List.set_cons_zero, List.set_cons_succ]
  apply lexF rfl; (· intro _; go_simp; (try go_bits); exact ⟨rfl, rfl⟩); simp only [Act.put, List.setIfInBounds_toArray, List.set_cons_zero, List.set_cons_succ]
  apply lexF rfl; (· intro _; go_simp; (try go_bits); exact ⟨rfl, rfl⟩); simp only [Act.put, List.setIfInBounds_toArray, List.set_cons_zero, List.set_cons_succ]
  apply lexH rfl; (· intro w' hw'; have hcc := cellsBelow hw'; go_simp; (try go_bits); exact ⟨rfl, hw'⟩); simp only [Act.put, List.setIfInBounds_toArray, List.set_cons_zero, List.set_cons_succ]
  apply lexF rfl; (· intro _; go_simp; (try go_bits); exact ⟨rfl, rfl⟩); simp only [Act.put, List.setIfInBounds_toArray, List.set_cons_zero, List.set_cons_succ]
  apply lexH rfl; (· intro w' hw'; have hcc := cellsBelow hw'; go_simp; (try go_bits); exact ⟨rfl, hw'⟩); simp only [Act.put, List.setIfInBounds_toArray, List.set_cons_zero, List.set_cons_succ]
  apply lexH rfl
  · intro w' hw'; go_simp; (try go_bits); refine (covers_any a n ra rn _ ha hra).mono ?_; rintro e w'' ⟨rfl, hbb⟩; exact ⟨_, rfl, congrArg Value.bool HC.out, hw'.trans (hbb.mono hw'.size)⟩
  simp only [Act.put, List.setIfInBounds_toArray, List.set_cons_zero, List.set_cons_succ]
  apply lexF rfl; (· intro _; go_simp; (try go_bits); exact ⟨rfl, rfl⟩); simp only [Act.put, List.setIfInBounds_toArray, List.set_cons_zero, List.set_cons_succ]
  refine lexEnd (fun w3 hw3 => ?_)
  have hcc := cellsBelow hw3
  go_upto_region 11 with (fail)
  obtain ⟨W4, hW4, k4, kB4, kL, hbL, hlo, hWb4, hL4, hb4, hB4⟩ := put_mid (rn := rn) (ra := ra) (rv := rv) hWb hw3 k0 kB
  rw [← hW4]
  clear hcc hw2 hw3 c0 c1 c2 c3 c4 c5 hf d0 hW4 hb1 hB1 k0 kB hWb h0
  obtain ⟨c0, c1, c2, c3, c4, c5⟩ := node_cells k4
  obtain ⟨l0, l1, l2, l3, l4, l5⟩ := node_cells kL
  have hf := node_free k4
  have hfl := node_free kL
  have d0 := cell_of_box3 kB4
  refine wp_region_staged (fun w' => Below W4.heap.size W4 w') [0, 1, 0, 0, 0, 0, 1, 1] (by kernel_rfl) (by kernel_rfl) (by kernel_rfl) (by exact (Below.refl _ _).drew) ?_
  apply lexF rfl; (· intro _; go_simp; (try go_bits); exact ⟨rfl, rfl⟩); simp only [Act.put, List.setIfInBounds_toArray, List.set_cons_zero, List.set_cons_succ]
  apply lexH rfl; (· intro w' hw'; have hcc := cellsBelow hw'; go_simp; (try go_bits); exact ⟨rfl, hw'⟩); simp only [Act.put, List.setIfInBounds_toArray, List.set_cons_zero, List.set_cons_succ]
  apply lexF rfl; (· intro _; go_simp; (try go_bits); exact ⟨rfl, rfl⟩); simp only [Act.put, List.setIfInBounds_toArray, List.set_cons_zero, List.set_cons_succ]
  apply lexF rfl; (· intro _; go_simp; (try go_bits); exact ⟨rfl, rfl⟩); simp only [Act.put, List.setIfInBounds_toArray, List.set_cons_zero, List.set_cons_succ]
  apply lexF rfl; (· intro _; go_simp; (try go_bits); exact ⟨rfl, rfl⟩); simp only [Act.put, List.setIfInBounds_toArray, List.set_cons_zero, List.set_cons_succ]
  apply lexF rfl; (· intro _; go_simp; (try go_bits); exact ⟨rfl, rfl⟩); simp only [Act.put, List.setIfInBounds_toArray, List.set_cons_zero, List.set_cons_succ]
  apply lexH rfl; (· intro w' hw'; have hcc := cellsBelow hw'; go_simp; (try go_bits); exact ⟨rfl, hw'⟩); simp only [Act.put, List.setIfInBounds_toArray, List.set_cons_zero, List.set_cons_succ]
  apply lexH rfl
  · intro w' hw'; go_simp; (try go_bits); refine (covers_any ra rn a n _ hra ha).mono ?_; rintro e w'' ⟨rfl, hbb⟩; exact ⟨_, rfl, congrArg Value.bool HC2.out, hw'.trans (hbb.mono hw'.size)⟩
  simp only [Act.put, List.setIfInBounds_toArray, List.set_cons_zero, List.set_cons_succ]
  refine lexEnd (fun w5 hw5 => ?_)
  go_upto_region 12 with (fail)
  refine wp_region_staged (fun w' => Below W4.heap.size W4 w') [0, 0, 0, 0, 0, 0, 1, 0, 0, 1, 1, 0, 0, 0, 0, 2] (by kernel_rfl) (by kernel_rfl) (by kernel_rfl) (by exact hw5.drew) ?_
  apply lexF rfl; (· intro _; go_simp; (try go_bits); exact ⟨rfl, rfl⟩); simp only [Act.put, List.setIfInBounds_toArray, List.set_cons_zero, List.set_cons_succ]
  apply lexF rfl; (· intro _; go_simp; (try go_bits); exact ⟨rfl, rfl⟩); simp only [Act.put, List.setIfInBounds_toArray, List.set_cons_zero, List.set_cons_succ]
  apply lexF rfl; (· intro _; go_simp; (try go_bits); exact ⟨rfl, rfl⟩); simp only [Act.put, List.setIfInBounds_toArray, List.set_cons_zero, List.set_cons_succ]
  apply lexF rfl; (· intro _; go_simp; (try go_bits); exact ⟨rfl, rfl⟩); simp only [Act.put, List.setIfInBounds_toArray, List.set_cons_zero, List.set_cons_succ]
  apply lexF rfl; (· intro _; go_simp; (try go_bits); exact ⟨rfl, rfl⟩); simp only [Act.put, List.setIfInBounds_toArray, List.set_cons_zero, List.set_cons_succ]
  apply lexF rfl; (· intro _; go_simp; (try go_bits); exact ⟨rfl, rfl⟩); simp only [Act.put, List.setIfInBounds_toArray, List.set_cons_zero, List.set_cons_succ]
  apply lexH rfl; (· intro w' hw'; have hcc := cellsBelow hw'; go_simp; (try go_bits); exact ⟨rfl, hw'⟩); simp only [Act.put, List.setIfInBounds_toArray, List.set_cons_zero, List.set_cons_succ]
  apply lexF rfl; (· intro _; go_simp; (try go_bits); exact ⟨rfl, rfl⟩); simp only [Act.put, List.setIfInBounds_toArray, List.set_cons_zero, List.set_cons_succ]
  apply lexF rfl; (· intro _; go_simp; (try go_bits); exact ⟨rfl, rfl⟩); simp only [Act.put, List.setIfInBounds_toArray, List.set_cons_zero, List.set_cons_succ]
  apply lexH rfl; (· intro w' hw'; have hcc := cellsBelow hw'; go_simp; (try go_bits); exact ⟨rfl, hw'⟩); simp only [Act.put, List.setIfInBounds_toArray, List.set_cons_zero, List.set_cons_succ]
  apply lexH rfl
  · intro w' hw'; go_simp; (try go_bits); refine (branch_any a rn _ ha hn).mono ?_; rintro e w'' ⟨rfl, rfl⟩; exact ⟨_, rfl, val_bit HB, hw'⟩
  simp only [Act.put, List.setIfInBounds_toArray, List.set_cons_zero, List.set_cons_succ]
  apply lexF rfl; (· intro _; go_simp; (try go_bits); exact ⟨rfl, rfl⟩); simp only [Act.put, List.setIfInBounds_toArray, List.set_cons_zero, List.set_cons_succ]
  apply lexF rfl; (· intro _; go_simp; (try go_bits); exact ⟨rfl, rfl⟩); simp only [Act.put, List.setIfInBounds_toArray, List.set_cons_zero, List.set_cons_succ]
  apply lexF rfl; (· intro _; go_simp; (try go_bits); exact ⟨rfl, rfl⟩); simp only [Act.put, List.setIfInBounds_toArray, List.set_cons_zero, List.set_cons_succ]
  apply lexF rfl; (· intro _; go_simp; (try go_bits); exact ⟨rfl, rfl⟩); simp only [Act.put, List.setIfInBounds_toArray, List.set_cons_zero, List.set_cons_succ]
  apply lexS (fun w' => PutPost (.node b a n v h l r) ra rn rv w (.returned (.pointer (some ⟨w3.heap.size, 0, none⟩))) w') rfl
  · intro w' hw'
    have hcc := cellsBelow hw'
    have hff := frozenBelow hw'
    go_simp
    exact ⟨rfl, FIN.out w3.heap.size w' hbL hlo ((hw'.block _ hL4).trans kL) (hWb4.trans (hw'.mono (Nat.le_trans hWb4.size (Nat.le_refl _))))⟩
  simp only [Act.put]
  refine lexEnd (fun w6 hw6 => ?_)
  go_wp2
  go_ret
  exact hw6

set_option maxHeartbeats 1000000 in
theorem put_over1 (b a n : Nat) (v : Int) (h : Bool) (l r : XT) (ra rn : Nat) (rv : Int) (w : World) (hin : (XT.node b a n v h l r).In w) (hnd : (XT.node b a n v h l r).blocks.Nodup) (ha : W32 a) (hra : W32 ra)
    (hne : ¬ (a = ra ∧ n = rn)) (hc : cvr a n ra rn = false) (hc2 : cvr ra rn a n = true) (hn : rn < 32) (hbit : bit a rn = 1) :
    Calls Try.prog 40 #[.pointer (some ⟨b, 0, none⟩), .agg #[.int .u32 (ra : Int), .int .i64 (rn : Int), .int .i64 rv]] w (PutPost (.node b a n v h l r) ra rn rv w) := by
  have FIN := hid (fun (B : Nat) (w2 : World) => over_fin1 (B := B) (w2 := w2) (ra := ra) (rn := rn) (rv := rv) hin hnd (by simp [T.put, hne, hc, hc2, hbit]))
  have HC2 := hid hc2
  have HB := hid hbit
  clear hc2 hbit
  obtain ⟨h0, hl, hr⟩ := hin
  obtain ⟨W1, hW1, k0, hb, hsz, kB, hWb⟩ := put_head ra rn rv h0
  obtain ⟨c0, c1, c2, c3, c4, c5⟩ := node_cells k0
  have hf := node_free k0
  have HC := hid hc
  have HNE := hid (show ¬ ((a : Int) = (ra : Int) ∧ (n : Int) = (rn : Int)) by omega)
  clear hne hc hnd hl hr
  go_enter Try.func40, Try.ntmps40
  go_upto_region 3 with (fail)
  rw [← hW1]
  have hb1 : b < W1.heap.size := by omega
  have hB1 : w.heap.size < W1.heap.size := by omega
  clear hsz hW1
  have d0 := cell_of_box3 kB
  refine wp_region_staged (fun w' => Below W1.heap.size W1 w') [0, 0, 0, 0, 1, 0, 1, 0, 0] (by kernel_rfl) (by kernel_rfl) (by kernel_rfl) (by exact (Below.refl _ _).drew) ?_
  apply lexF rfl; (· intro _; go_simp; (try go_bits); exact ⟨rfl, rfl⟩); simp only [Act.put, List.setIfInBounds_toArray, List.set_cons_zero, List.set_cons_succ]
  apply lexF rfl; (· intro _; go_simp; (try go_bits); exact ⟨rfl, rfl⟩); simp only [Act.put, List.setIfInBounds_toArray, List.set_cons_zero, List.set_cons_succ]
  apply lexF rfl; (· intro _; go_simp; (try go_bits); exact ⟨rfl, rfl⟩); simp only [Act.put, List.setIfInBounds_toArray, List.set_cons_zero, List.set_cons_succ]
  apply lexF rfl; (· intro _; go_simp; (try go_bits); exact ⟨rfl, rfl⟩); simp only [Act.put, List.setIfInBounds_toArray, List.set_cons_zero, List.set_cons_succ]
  apply lexH rfl; (· intro w' hw'; have hcc := cellsBelow hw'; go_simp; (try go_bits); exact ⟨rfl, hw'⟩); simp only [Act.put, List.setIfInBounds_toArray, List.set_cons_zero, List.set_cons_succ]
  apply lexF rfl; (· intro _; go_simp; (try go_bits); exact ⟨rfl, rfl⟩); simp only [Act.put, List.setIfInBounds_toArray, List.set_cons_zero, List.set_cons_succ]
  apply lexH rfl; (· intro w' hw'; have hcc := cellsBelow hw'; go_simp; (try go_bits); exact ⟨rfl, hw'⟩); simp only [Act.put, List.setIfInBounds_toArray, List.set_cons_zero, List.set_cons_succ]
  apply lexF rfl
  · intro w'; go_simp; (try go_bits); exact flt_if2 HNE.out
  simp only [Act.put, List.setIfInBounds_toArray, List.set_cons_zero, List.set_cons_succ]
  apply lexF rfl; (· intro _; go_simp; (try go_bits); exact ⟨rfl, rfl⟩); simp only [Act.put, List.setIfInBounds_toArray, List.set_cons_zero, List.set_cons_succ]
  refine lexEnd (fun w2 hw2 => ?_)
  go_upto_region 6 with (fail)
  refine wp_region_staged (fun w' => Below W1.heap.size W1 w') [0, 0, 0, 0, 1, 0, 1, 1, 0] (by kernel_rfl) (by kernel_rfl) (by kernel_rfl) (by exact hw2.drew) ?_
  apply lexF rfl; (· intro _; go_simp; (try go_bits); exact ⟨rfl, rfl⟩); simp only [Act.put, List.setIfInBounds_toArray, List.set_cons_zero, List.set_cons_succ]
  apply lexF rfl; (· intro _; go_simp; (try go_bits); exact ⟨rfl, rfl⟩); simp only [Act.put, List.setIfInBounds_toArray, List.set_cons_zero, List.set_cons_succ]
  apply lexF rfl; (· intro _; go_simp; (try go_bits); exact ⟨rfl, rfl⟩); simp only [Act.put, List.setIfInBounds_toArray, List.set_cons_zero, List.set_cons_succ]
  apply lexF rfl; (· intro _; go_simp; (try go_bits); exact ⟨rfl, rfl⟩); simp only [Act.put, List.setIfInBounds_toArray, List.set_cons_zero, List.set_cons_succ]
  apply lexH rfl; (· intro w' hw'; have hcc := cellsBelow hw'; go_simp; (try go_bits); exact ⟨rfl, hw'⟩); simp only [Act.put, List.setIfInBounds_toArray, List.set_cons_zero, List.set_cons_succ]
  apply lexF rfl; (· intro _; go_simp; (try go_bits); exact ⟨rfl, rfl⟩); simp only [Act.put, List.setIfInBounds_toArray, List.set_cons_zero, List.set_cons_succ]
  apply lexH rfl; (· intro w' hw'; have hcc := cellsBelow hw'; go_simp; (try go_bits); exact ⟨rfl, hw'⟩); simp only [Act.put, List.setIfInBounds_toArray, List.set_cons_zero, List.set_cons_succ]
  apply lexH rfl
  · intro w' hw'; go_simp; (try go_bits); refine (covers_any a n ra rn _ ha hra).mono ?_; rintro e w'' ⟨rfl, hbb⟩; exact ⟨_, rfl, congrArg Value.bool HC.out, hw'.trans (hbb.mono hw'.size)⟩
  simp only [Act.put, List.setIfInBounds_toArray, List.set_cons_zero, List.set_cons_succ]
  apply lexF rfl; (· intro _; go_simp; (try go_bits); exact ⟨rfl, rfl⟩); simp only [Act.put, List.setIfInBounds_toArray, List.set_cons_zero, List.set_cons_succ]
  refine lexEnd (fun w3 hw3 => ?_)
  have hcc := cellsBelow hw3
  go_upto_region 11 with (fail)
  obtain ⟨W4, hW4, k4, kB4, kL, hbL, hlo, hWb4, hL4, hb4, hB4⟩ := put_mid (rn := rn) (ra := ra) (rv := rv) hWb hw3 k0 kB
  rw [← hW4]
  clear hcc hw2 hw3 c0 c1 c2 c3 c4 c5 hf d0 hW4 hb1 hB1 k0 kB hWb h0
  obtain ⟨c0, c1, c2, c3, c4, c5⟩ := node_cells k4
  obtain ⟨l0, l1, l2, l3, l4, l5⟩ := node_cells kL
  have hf := node_free k4
  have hfl := node_free kL
  have d0 := cell_of_box3 kB4
  refine wp_region_staged (fun w' => Below W4.heap.size W4 w') [0, 1, 0, 0, 0, 0, 1, 1] (by kernel_rfl) (by kernel_rfl) (by kernel_rfl) (by exact (Below.refl _ _).drew) ?_
  apply lexF rfl; (· intro _; go_simp; (try go_bits); exact ⟨rfl, rfl⟩); simp only [Act.put, List.setIfInBounds_toArray, List.set_cons_zero, List.set_cons_succ]
  apply lexH rfl; (· intro w' hw'; have hcc := cellsBelow hw'; go_simp; (try go_bits); exact ⟨rfl, hw'⟩); simp only [Act.put, List.setIfInBounds_toArray, List.set_cons_zero, List.set_cons_succ]
  apply lexF rfl; (· intro _; go_simp; (try go_bits); exact ⟨rfl, rfl⟩); simp only [Act.put, List.setIfInBounds_toArray, List.set_cons_zero, List.set_cons_succ]
  apply lexF rfl; (· intro _; go_simp; (try go_bits); exact ⟨rfl, rfl⟩); simp only [Act.put, List.setIfInBounds_toArray, List.set_cons_zero, List.set_cons_succ]
  apply lexF rfl; (· intro _; go_simp; (try go_bits); exact ⟨rfl, rfl⟩); simp only [Act.put, List.setIfInBounds_toArray, List.set_cons_zero, List.set_cons_succ]
  apply lexF rfl; (· intro _; go_simp; (try go_bits); exact ⟨rfl, rfl⟩); simp only [Act.put, List.setIfInBounds_toArray, List.set_cons_zero, List.set_cons_succ]
  apply lexH rfl; (· intro w' hw'; have hcc := cellsBelow hw'; go_simp; (try go_bits); exact ⟨rfl, hw'⟩); simp only [Act.put, List.setIfInBounds_toArray, List.set_cons_zero, List.set_cons_succ]
  apply lexH rfl
  · intro w' hw'; go_simp; (try go_bits); refine (covers_any ra rn a n _ hra ha).mono ?_; rintro e w'' ⟨rfl, hbb⟩; exact ⟨_, rfl, congrArg Value.bool HC2.out, hw'.trans (hbb.mono hw'.size)⟩
  simp only [Act.put, List.setIfInBounds_toArray, List.set_cons_zero, List.set_cons_succ]
  refine lexEnd (fun w5 hw5 => ?_)
  go_upto_region 12 with (fail)
  refine wp_region_staged (fun w' => Below W4.heap.size W4 w') [0, 0, 0, 0, 0, 0, 1, 0, 0, 1, 1, 0, 0, 0, 0, 2] (by kernel_rfl) (by kernel_rfl) (by kernel_rfl) (by exact hw5.drew) ?_
  apply lexF rfl; (· intro _; go_simp; (try go_bits); exact ⟨rfl, rfl⟩); simp only [Act.put, List.setIfInBounds_toArray, List.set_cons_zero, List.set_cons_succ]
  apply lexF rfl; (· intro _; go_simp; (try go_bits); exact ⟨rfl, rfl⟩); simp only [Act.put, List.setIfInBounds_toArray, List.set_cons_zero, List.set_cons_succ]
  apply lexF rfl; (· intro _; go_simp; (try go_bits); exact ⟨rfl, rfl⟩); simp only [Act.put, List.setIfInBounds_toArray, List.set_cons_zero, List.set_cons_succ]
  apply lexF rfl; (· intro _; go_simp; (try go_bits); exact ⟨rfl, rfl⟩); simp only [Act.put, List.setIfInBounds_toArray, List.set_cons_zero, List.set_cons_succ]
  apply lexF rfl; (· intro _; go_simp; (try go_bits); exact ⟨rfl, rfl⟩); simp only [Act.put, List.setIfInBounds_toArray, List.set_cons_zero, List.set_cons_succ]
  apply lexF rfl; (· intro _; go_simp; (try go_bits); exact ⟨rfl, rfl⟩); simp only [Act.put, List.setIfInBounds_toArray, List.set_cons_zero, List.set_cons_succ]
  apply lexH rfl; (· intro w' hw'; have hcc := cellsBelow hw'; go_simp; (try go_bits); exact ⟨rfl, hw'⟩); simp only [Act.put, List.setIfInBounds_toArray, List.set_cons_zero, List.set_cons_succ]
  apply lexF rfl; (· intro _; go_simp; (try go_bits); exact ⟨rfl, rfl⟩); simp only [Act.put, List.setIfInBounds_toArray, List.set_cons_zero, List.set_cons_succ]
  apply lexF rfl; (· intro _; go_simp; (try go_bits); exact ⟨rfl, rfl⟩); simp only [Act.put, List.setIfInBounds_toArray, List.set_cons_zero, List.set_cons_succ]
  apply lexH rfl; (· intro w' hw'; have hcc := cellsBelow hw'; go_simp; (try go_bits); exact ⟨rfl, hw'⟩); simp only [Act.put, List.setIfInBounds_toArray, List.set_cons_zero, List.set_cons_succ]
  apply lexH rfl
  · intro w' hw'; go_simp; (try go_bits); refine (branch_any a rn _ ha hn).mono ?_; rintro e w'' ⟨rfl, rfl⟩; exact ⟨_, rfl, val_bit HB, hw'⟩
  simp only [Act.put, List.setIfInBounds_toArray, List.set_cons_zero, List.set_cons_succ]
  apply lexF rfl; (· intro _; go_simp; (try go_bits); exact ⟨rfl, rfl⟩); simp only [Act.put, List.setIfInBounds_toArray, List.set_cons_zero, List.set_cons_succ]
  apply lexF rfl; (· intro _; go_simp; (try go_bits); exact ⟨rfl, rfl⟩); simp only [Act.put, List.setIfInBounds_toArray, List.set_cons_zero, List.set_cons_succ]
  apply lexF rfl; (· intro _; go_simp; (try go_bits); exact ⟨rfl, rfl⟩); simp only [Act.put, List.setIfInBounds_toArray, List.set_cons_zero, List.set_cons_succ]
  apply lexF rfl; (· intro _; go_simp; (try go_bits); exact ⟨rfl, rfl⟩); simp only [Act.put, List.setIfInBounds_toArray, List.set_cons_zero, List.set_cons_succ]
  apply lexS (fun w' => PutPost (.node b a n v h l r) ra rn rv w (.returned (.pointer (some ⟨w3.heap.size, 0, none⟩))) w') rfl
  · intro w' hw'
    have hcc := cellsBelow hw'
    have hff := frozenBelow hw'
    go_simp
    exact ⟨rfl, FIN.out w3.heap.size w' hbL hlo ((hw'.block _ hL4).trans kL) (hWb4.trans (hw'.mono (Nat.le_trans hWb4.size (Nat.le_refl _))))⟩
  simp only [Act.put]
  refine lexEnd (fun w6 hw6 => ?_)
  go_wp2
  go_ret
  exact hw6

end Go.Proofs.Ytklkldnpgecajaa
