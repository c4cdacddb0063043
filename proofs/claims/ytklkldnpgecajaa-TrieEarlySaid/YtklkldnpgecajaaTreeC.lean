/- The walk of put, the way that makes a fork. -/
import Derived.Test.YtklkldnpgecajaaTreeB
import Derived.Test.YtklkldnpgecajaaComPlain
namespace Go.Proofs.Ytklkldnpgecajaa
open Go.RowKit

theorem fork_fin0 {w w2 : World} {b a n : Nat} {v : Int} {h : Bool} {l r : XT} {ra rn B F : Nat} {rv : Int} (hin : (XT.node b a n v h l r).In w) (hnd : (XT.node b a n v h l r).blocks.Nodup)
    (hs : (T.node a n v h l.t r.t).put ra rn rv = .node (base (com ra a) ra) (com ra a) 0 false (.node ra rn rv true .nil .nil) (.node a n v h l.t r.t)) (hB : w.heap.size ≤ B) (hF : w.heap.size ≤ F) (hBF : B ≠ F)
    (hL : w2.heap[B]? = some (nodeObj ra rn rv true none none)) (hK : w2.heap[F]? = some (nodeObj (base (com ra a) ra) (com ra a) 0 false (some ⟨B, 0, none⟩) (some ⟨b, 0, none⟩))) (hw : Below w.heap.size w w2) :
    PutPost (.node b a n v h l r) ra rn rv w (.returned (.pointer (some ⟨F, 0, none⟩))) w2 := by
  have hX : (XT.node b a n v h l r).In w2 := hin.same fun c hc => hw.block c (hin.lt c hc)
  have hB1 : B ∉ (XT.node b a n v h l r).blocks := fun hb => by have := hin.lt B hb; omega
  have hF1 : F ∉ (XT.node b a n v h l r).blocks := fun hb => by have := hin.lt F hb; omega
  refine ⟨.node F (base (com ra a) ra) (com ra a) 0 false (.node B ra rn rv true .nil .nil) (.node b a n v h l r), rfl, by simp only [XT.t, hs], ⟨hK, ⟨hL, trivial, trivial⟩, hX⟩, ?_, fun c hc => ?_, Chg.of_below hw⟩
  · simp only [XT.blocks, List.append_nil, List.nodup_cons, List.mem_cons, List.mem_append, not_or] at hnd hB1 hF1 ⊢
    have := List.nodup_append.1 hnd.2
    simp only [List.nodup_append, List.nodup_cons, List.mem_cons, List.mem_append, List.cons_append, List.nil_append, not_or, List.not_mem_nil, not_false_eq_true] at *
    grind
  · simp only [XT.blocks, List.append_nil, List.mem_cons, List.mem_append, List.not_mem_nil, or_false] at hc ⊢
    grind
theorem fork_fin1 {w w2 : World} {b a n : Nat} {v : Int} {h : Bool} {l r : XT} {ra rn B F : Nat} {rv : Int} (hin : (XT.node b a n v h l r).In w) (hnd : (XT.node b a n v h l r).blocks.Nodup)
    (hs : (T.node a n v h l.t r.t).put ra rn rv = .node (base (com ra a) ra) (com ra a) 0 false (.node a n v h l.t r.t) (.node ra rn rv true .nil .nil)) (hB : w.heap.size ≤ B) (hF : w.heap.size ≤ F) (hBF : B ≠ F)
    (hL : w2.heap[B]? = some (nodeObj ra rn rv true none none)) (hK : w2.heap[F]? = some (nodeObj (base (com ra a) ra) (com ra a) 0 false (some ⟨b, 0, none⟩) (some ⟨B, 0, none⟩))) (hw : Below w.heap.size w w2) :
    PutPost (.node b a n v h l r) ra rn rv w (.returned (.pointer (some ⟨F, 0, none⟩))) w2 := by
  have hX : (XT.node b a n v h l r).In w2 := hin.same fun c hc => hw.block c (hin.lt c hc)
  have hB1 : B ∉ (XT.node b a n v h l r).blocks := fun hb => by have := hin.lt B hb; omega
  have hF1 : F ∉ (XT.node b a n v h l r).blocks := fun hb => by have := hin.lt F hb; omega
  refine ⟨.node F (base (com ra a) ra) (com ra a) 0 false (.node b a n v h l r) (.node B ra rn rv true .nil .nil), rfl, by simp only [XT.t, hs], ⟨hK, hX, ⟨hL, trivial, trivial⟩⟩, ?_, fun c hc => ?_, Chg.of_below hw⟩
  · simp only [XT.blocks, List.append_nil, List.nodup_cons, List.mem_cons, List.mem_append, not_or] at hnd hB1 hF1 ⊢
    have := List.nodup_append.1 hnd.2
    simp only [List.nodup_append, List.nodup_cons, List.mem_cons, List.mem_append, List.cons_append, not_or, List.not_mem_nil, not_false_eq_true, List.nodup_nil] at *
    grind
  · simp only [XT.blocks, List.append_nil, List.mem_cons, List.mem_append, List.not_mem_nil, or_false] at hc ⊢
    grind
/-- Behind the making of the fork. -/
theorem fork_mid {w w3 W4 w6 wr : World} {b a n ra rn : Nat} {v rv : Int} {h : Bool} {p q : Option Addr} (k4 : W4.heap[b]? = some (nodeObj a n v h p q))
    (kB : W4.heap[w.heap.size]? = some (.cells #[.int .u32 (ra : Int), .int .i64 (rn : Int), .int .i64 rv] 37)) (kL : W4.heap[w3.heap.size]? = some (nodeObj ra rn rv true none none)) (hWb : Below w.heap.size w W4)
    (hw6 : Below W4.heap.size W4 w6) (hbw : Below w6.heap.size w6 wr) (x c : Nat) :
    ∃ W9, W9 = wr.alloc (.cells #[.int .u32 (x : Int), .int .i64 (c : Int), .int .i64 0, .bool false, .pointer none, .pointer none] 71) ∧ W9.heap[b]? = some (nodeObj a n v h p q) ∧
      W9.heap[w.heap.size]? = some (.cells #[.int .u32 (ra : Int), .int .i64 (rn : Int), .int .i64 rv] 37) ∧ W9.heap[w3.heap.size]? = some (nodeObj ra rn rv true none none) ∧
      W9.heap[wr.heap.size]? = some (nodeObj x c 0 false none none) ∧ Below w.heap.size w W9 ∧ (b < wr.heap.size ∧ w.heap.size < wr.heap.size) ∧ w3.heap.size < wr.heap.size ∧ W9.heap.size = wr.heap.size + 1 ∧ w.heap.size ≤ wr.heap.size := by
  have hb : b < W4.heap.size := (Array.getElem?_eq_some_iff.1 k4).1
  have hB : w.heap.size < W4.heap.size := (Array.getElem?_eq_some_iff.1 kB).1
  have hL : w3.heap.size < W4.heap.size := (Array.getElem?_eq_some_iff.1 kL).1
  have h6 := hw6.size
  have hr := hbw.size
  have kk : ∀ i, i < W4.heap.size → (wr.alloc (.cells #[.int .u32 (x : Int), .int .i64 (c : Int), .int .i64 0, .bool false, .pointer none, .pointer none] 71)).heap[i]? = W4.heap[i]? := fun i hi =>
    (Below.heap_alloc _ _ _ (by omega)).trans ((hbw.block i (by omega)).trans (hw6.block i hi))
  exact ⟨_, rfl, (kk b hb).trans k4, (kk _ hB).trans kB, (kk _ hL).trans kL, heap_alloc_at _ _, ((hWb.trans (hw6.mono (by omega))).trans (hbw.mono (by omega))).alloc (by omega) _, ⟨by omega, by omega⟩, by omega, World.size_alloc _ _, by omega⟩

/-- The length that a prefix's block holds. -/
def lenAt (w : World) (P : Nat) : Nat := match w.cell? ⟨P, 1, none⟩ with
  | some (.int _ n) => n.toNat
  | _ => 0
theorem lenAt_of {w : World} {P : Nat} {x : Value} {k : Nat} {q : IntKind} {t : TypeId} (h : w.heap[P]? = some (.cells #[x, .int q (k : Int)] t)) : lenAt w P = k := by
  simp [lenAt, World.cell?, h]
theorem box2_free {W : World} {B : Nat} {x y : Value} {t : TypeId} (h : W.heap[B]? = some (.cells #[x, y] t)) : ∀ o, W.frozen? ⟨B, o, none⟩ = false := by
  intro o; simp [World.frozen?, h]

set_option maxRecDepth 100000 in
set_option maxHeartbeats 2000000 in
theorem put_fork0 (b a n : Nat) (v : Int) (h : Bool) (l r : XT) (ra rn : Nat) (rv : Int) (w : World) (hin : (XT.node b a n v h l r).In w) (hnd : (XT.node b a n v h l r).blocks.Nodup) (ha : W32 a) (hra : W32 ra)
    (hne : ¬ (a = ra ∧ n = rn)) (hc : cvr a n ra rn = false) (hc2 : cvr ra rn a n = false) (hcom : com ra a < 32) (hbit : bit ra (com ra a) = 0) (hbit2 : bit a (com ra a) = 1) :
    Calls Try.prog 40 #[.pointer (some ⟨b, 0, none⟩), .agg #[.int .u32 (ra : Int), .int .i64 (rn : Int), .int .i64 rv]] w (PutPost (.node b a n v h l r) ra rn rv w) := by
  have FIN := hid (fun (B F : Nat) (w2 : World) => fork_fin0 (B := B) (F := F) (w2 := w2) (ra := ra) (rn := rn) (rv := rv) hin hnd (by simp [T.put, hne, hc, hc2, hbit]))
  have HC2 := hid hc2
  have HB := hid hbit
  have HB2 := hid hbit2
  have hx := xor_bits hra ha
  have hxl := xor_w32 hra ha
  have hcx := com_int hxl
  clear hc2 hbit hbit2
  obtain ⟨h0, hl, hr⟩ := hin
  obtain ⟨W1, hW1, k0, hb, hsz, kB, hWb⟩ := put_head ra rn rv h0
  obtain ⟨c0, c1, c2, c3, c4, c5⟩ := node_cells k0
  have hf := node_free k0
  have HC := hid hc
  have HNE := hid (show ¬ ((a : Int) = (ra : Int) ∧ (n : Int) = (rn : Int)) by omega)
  clear hne hc hnd hl hr
  go_enter Try.func40, Try.ntmps40
  go_upto_region 3 with (fail)
  rw [← hW1]
  have hb1 : b < W1.heap.size := by omega
  have hB1 : w.heap.size < W1.heap.size := by omega
  clear hsz hW1
  have d0 := cell_of_box3 kB
  refine wp_region_staged (fun w' => Below W1.heap.size W1 w') [0, 0, 0, 0, 1, 0, 1, 0, 0] (by kernel_rfl) (by kernel_rfl) (by kernel_rfl) (by exact (Below.refl _ _).drew) ?_
  apply lexF rfl; (· intro _; go_simp; (try go_bits); exact ⟨rfl, rfl⟩); simp only [Act.put, List.setIfInBounds_toArray, List.set_cons_zero, List.set_cons_succ]
  apply lexF rfl; (· intro _; go_simp; (try go_bits); exact ⟨rfl, rfl⟩); simp only [Act.put, List.setIfInBounds_toArray, List.set_cons_zero, List.set_cons_succ]
  apply lexF rfl; (· intro _; go_simp; (try go_bits); exact ⟨rfl, rfl⟩); simp only [Act.put, List.setIfInBounds_toArray, List.set_cons_zero, List.set_cons_succ]
  apply lexF rfl; (· intro _; go_simp; (try go_bits); exact ⟨rfl, rfl⟩); simp only [Act.put, List.setIfInBounds_toArray, List.set_cons_zero, List.set_cons_succ]
  apply lexH rfl; (· intro w' hw'; have hcc := cellsBelow hw'; go_simp; (try go_bits); exact ⟨rfl, hw'⟩); simp only [Act.put, List.setIfInBounds_toArray, List.set_cons_zero, List.set_cons_succ]
  apply lexF rfl; (· intro _; go_simp; (try go_bits); exact ⟨rfl, rfl⟩); simp only [Act.put, List.setIfInBounds_toArray, List.set_cons_zero, List.set_cons_succ]
  apply lexH rfl; (· intro w' hw'; have hcc := cellsBelow hw'; go_simp; (try go_bits); exact ⟨rfl, hw'⟩); simp only [Act.put, List.setIfInBounds_toArray, List.set_cons_zero, List.set_cons_succ]
  apply lexF rfl
  · intro w'; go_simp; (try go_bits); exact flt_if2 HNE.out
  simp only [Act.put, List.setIfInBounds_toArray, List.set_cons_zero, List.set_cons_succ]
  apply lexF rfl; (· intro _; go_simp; (try go_bits); exact ⟨rfl, rfl⟩); simp only [Act.put, List.setIfInBounds_toArray, List.set_cons_zero, List.set_cons_succ]
  refine lexEnd (fun w2 hw2 => ?_)
  go_upto_region 6 with (fail)
  refine wp_region_staged (fun w' => Below W1.heap.size W1 w') [0, 0, 0, 0, 1, 0, 1, 1, 0] (by kernel_rfl) (by kernel_rfl) (by kernel_rfl) (by exact hw2.drew) ?_
  apply lexF rfl; (· intro _; go_simp; (try go_bits); exact ⟨rfl, rfl⟩); simp only [Act.put, List.setIfInBounds_toArray, List.set_cons_zero, List.set_cons_succ]
  apply lexF rfl; (· intro _; go_simp; (try go_bits); exact ⟨rfl, rfl⟩); simp only [Act.put, List.setIfInBounds_toArray, List.set_cons_zero, List.set_cons_succ]
  apply lexF rfl; (· intro _; go_simp; (try go_bits); exact ⟨rfl, rfl⟩); simp only [Act.put, List.setIfInBounds_toArray, List.set_cons_zero, List.set_cons_succ]
  apply lexF rfl; (· intro _; go_simp; (try go_bits); exact ⟨rfl, rfl⟩); simp only [Act.put, List.setIfInBounds_toArray, List.set_cons_zero, List.set_cons_succ]
  apply lexH rfl; (· intro w' hw'; have hcc := cellsBelow hw'; go_simp; (try go_bits); exact ⟨rfl, hw'⟩); simp only [Act.put, List.setIfInBounds_toArray, List.set_cons_zero, List.set_cons_succ]
  apply lexF rfl; (· intro _; go_simp; (try go_bits); exact ⟨rfl, rfl⟩); simp only [Act.put, List.setIfInBounds_toArray, List.set_cons_zero, List.set_cons_succ]
  apply lexH rfl; (· intro w' hw'; have hcc := cellsBelow hw'; go_simp; (try go_bits); exact ⟨rfl, hw'⟩); simp only [Act.put, List.setIfInBounds_toArray, List.set_cons_zero, List.set_cons_succ]
  apply lexH rfl
  · intro w' hw'; go_simp; (try go_bits); refine (covers_any a n ra rn _ ha hra).mono ?_; rintro e w'' ⟨rfl, hbb⟩; exact ⟨_, rfl, congrArg Value.bool HC.out, hw'.trans (hbb.mono hw'.size)⟩
  simp only [Act.put, List.setIfInBounds_toArray, List.set_cons_zero, List.set_cons_succ]
  apply lexF rfl; (· intro _; go_simp; (try go_bits); exact ⟨rfl, rfl⟩); simp only [Act.put, List.setIfInBounds_toArray, List.set_cons_zero, List.set_cons_succ]
  refine lexEnd (fun w3 hw3 => ?_)
  have hcc := cellsBelow hw3
  go_upto_region 11 with (fail)
  obtain ⟨W4, hW4, k4, kB4, kL, hbL, hlo, hWb4, hL4, hb4, hB4⟩ := put_mid (rn := rn) (ra := ra) (rv := rv) hWb hw3 k0 kB
  rw [← hW4]
  clear hcc hw2 hw3 c0 c1 c2 c3 c4 c5 hf d0 hW4 hb1 hB1 k0 kB hWb h0
  obtain ⟨c0, c1, c2, c3, c4, c5⟩ := node_cells k4
  obtain ⟨l0, l1, l2, l3, l4, l5⟩ := node_cells kL
  have hf := node_free k4
  have hfl := node_free kL
  have d0 := cell_of_box3 kB4
  refine wp_region_staged (fun w' => Below W4.heap.size W4 w') [0, 1, 0, 0, 0, 0, 1, 1] (by kernel_rfl) (by kernel_rfl) (by kernel_rfl) (by exact (Below.refl _ _).drew) ?_
  apply lexF rfl; (· intro _; go_simp; (try go_bits); exact ⟨rfl, rfl⟩); simp only [Act.put, List.setIfInBounds_toArray, List.set_cons_zero, List.set_cons_succ]
  apply lexH rfl; (· intro w' hw'; have hcc := cellsBelow hw'; go_simp; (try go_bits); exact ⟨rfl, hw'⟩); simp only [Act.put, List.setIfInBounds_toArray, List.set_cons_zero, List.set_cons_succ]
  apply lexF rfl; (· intro _; go_simp; (try go_bits); exact ⟨rfl, rfl⟩); simp only [Act.put, List.setIfInBounds_toArray, List.set_cons_zero, List.set_cons_succ]
  apply lexF rfl; (· intro _; go_simp; (try go_bits); exact ⟨rfl, rfl⟩); simp only [Act.put, List.setIfInBounds_toArray, List.set_cons_zero, List.set_cons_succ]
  apply lexF rfl; (· intro _; go_simp; (try go_bits); exact ⟨rfl, rfl⟩); simp only [Act.put, List.setIfInBounds_toArray, List.set_cons_zero, List.set_cons_succ]
  apply lexF rfl; (· intro _; go_simp; (try go_bits); exact ⟨rfl, rfl⟩); simp only [Act.put, List.setIfInBounds_toArray, List.set_cons_zero, List.set_cons_succ]
  apply lexH rfl; (· intro w' hw'; have hcc := cellsBelow hw'; go_simp; (try go_bits); exact ⟨rfl, hw'⟩); simp only [Act.put, List.setIfInBounds_toArray, List.set_cons_zero, List.set_cons_succ]
  apply lexH rfl
  · intro w' hw'; go_simp; (try go_bits); refine (covers_any ra rn a n _ hra ha).mono ?_; rintro e w'' ⟨rfl, hbb⟩; exact ⟨_, rfl, congrArg Value.bool HC2.out, hw'.trans (hbb.mono hw'.size)⟩
  simp only [Act.put, List.setIfInBounds_toArray, List.set_cons_zero, List.set_cons_succ]
  refine lexEnd (fun w5 hw5 => ?_)
  go_upto_region 14 with (fail)
  refine wp_region_staged (fun w' => Below W4.heap.size W4 w') [0, 0, 1, 0, 0, 0, 0, 0, 1, 0, 1, 0] (by kernel_rfl) (by kernel_rfl) (by kernel_rfl) (by exact hw5.drew) ?_
  apply lexF rfl; (· intro _; go_simp; (try go_bits); exact ⟨rfl, rfl⟩); simp only [Act.put, List.setIfInBounds_toArray, List.set_cons_zero, List.set_cons_succ]
  apply lexF rfl; (· intro _; go_simp; (try go_bits); exact ⟨rfl, rfl⟩); simp only [Act.put, List.setIfInBounds_toArray, List.set_cons_zero, List.set_cons_succ]
  apply lexH rfl; (· intro w' hw'; have hcc := cellsBelow hw'; go_simp; (try go_bits); exact ⟨rfl, hw'⟩); simp only [Act.put, List.setIfInBounds_toArray, List.set_cons_zero, List.set_cons_succ]
  apply lexF rfl; (· intro _; go_simp; (try go_bits); exact ⟨rfl, rfl⟩); simp only [Act.put, List.setIfInBounds_toArray, List.set_cons_zero, List.set_cons_succ]
  apply lexF rfl; (· intro _; go_simp; (try go_bits); exact ⟨rfl, rfl⟩); simp only [Act.put, List.setIfInBounds_toArray, List.set_cons_zero, List.set_cons_succ]
  apply lexF rfl; (· intro _; go_simp; (try go_bits); exact ⟨rfl, rfl⟩); simp only [Act.put, List.setIfInBounds_toArray, List.set_cons_zero, List.set_cons_succ]
  apply lexF rfl; (· intro _; go_simp; (try go_bits); exact ⟨rfl, rfl⟩); simp only [Act.put, List.setIfInBounds_toArray, List.set_cons_zero, List.set_cons_succ]
  apply lexF rfl; (· intro _; go_simp; (try go_bits); exact ⟨rfl, rfl⟩); simp only [Act.put, List.setIfInBounds_toArray, List.set_cons_zero, List.set_cons_succ]
  apply lexH rfl; (· intro w' hw'; have hcc := cellsBelow hw'; go_simp; (try go_bits); exact ⟨rfl, hw'⟩); simp only [Act.put, List.setIfInBounds_toArray, List.set_cons_zero, List.set_cons_succ]
  apply lexF rfl; (· intro _; go_simp; (try go_bits); exact ⟨rfl, rfl⟩); simp only [Act.put, List.setIfInBounds_toArray, List.set_cons_zero, List.set_cons_succ]
  apply lexH rfl
  · intro w' hw'; go_simp; (try go_bits); refine (Try.bits_LeadingZeros32 _ _ (by omega) (by omega)).mono ?_; rintro e w'' ⟨rfl, rfl⟩; exact ⟨_, rfl, congrArg (Value.int .i64) hcx, hw'⟩
  simp only [Act.put, List.setIfInBounds_toArray, List.set_cons_zero, List.set_cons_succ]
  apply lexF rfl; (· intro _; go_simp; (try go_bits); exact ⟨rfl, rfl⟩); simp only [Act.put, List.setIfInBounds_toArray, List.set_cons_zero, List.set_cons_succ]
  refine lexEnd (fun w6 hw6 => ?_)
  have hcc := cellsBelow hw6
  go_wp2_with fail
  clear hcc
  have HB6 := hid (show ∃ W7, W7 = w6.alloc (.cells #[.int .u32 (ra : Int), .int .i64 32] 35) ∧ W7.heap[w6.heap.size]? = some (.cells #[.int .u32 ((base 32 ra : Nat) : Int), .int .i64 ((32 : Nat) : Int)] 35) ∧ Below w6.heap.size w6 W7 by
    refine ⟨_, rfl, ?_, (Below.refl _ _).alloc (Nat.le_refl _) _⟩
    rw [base_32]
    exact heap_alloc_at _ _)
  obtain ⟨W7, hW7, kP, hB7⟩ := HB6.out
  rw [← hW7]
  clear hW7 HB6
  have H67 := hw6.size
  go_loopw [109] (fun _ wr => ∃ k : Nat, com ra a ≤ k ∧ k ≤ 32 ∧ wr.heap[w6.heap.size]? = some (.cells #[.int .u32 ((base k ra : Nat) : Int), .int .i64 (k : Int)] 35) ∧ Below w6.heap.size w6 wr) (fun _ wr => lenAt wr w6.heap.size)
  case atStart => exact ⟨32, by omega, Nat.le_refl _, kP, hB7⟩
  case round =>
    obtain ⟨k, hk1, hk2, kp, hbw⟩ := hrel
    have q := cell_of_pfx kp
    have hmu := hid (lenAt_of kp)
    by_cases hlt : com ra a < k
    · have HV := hid (vld_base hk2 ra)
      have HW := hid (base_w32 (n := k) hra)
      have HP := hid kp
      have hPl : w6.heap.size < wr.heap.size := (Array.getElem?_eq_some_iff.1 kp).1
      have HE := hid (base_base (m := k - 1) (n := k) (by omega) hk2 ra)
      have h1k : 1 ≤ k := by omega
      clear kp
      go_upto_region 17 with (fail)
      refine wp_region_text (fun w' => Below wr.heap.size wr w') [1, 1, 0, 0, 0, 2] (by exact Below.refl _ _) ?_
      apply lexH rfl; (· intro w' hw'; have hcc := cellsBelow hw'; go_simp; (try go_bits); exact ⟨rfl, hw'⟩); simp only [Act.put, List.setIfInBounds_toArray, List.set_cons_zero, List.set_cons_succ]
      apply lexH rfl
      · intro w' hw'; go_simp; (try go_bits); refine (parent_any _ k _ HW.out HV.out h1k).mono ?_; rintro e w'' ⟨rfl, hbb⟩; exact ⟨_, rfl, rfl, hw'.trans (hbb.mono hw'.size)⟩
      simp only [Act.put, List.setIfInBounds_toArray, List.set_cons_zero, List.set_cons_succ]
      apply lexF rfl; (· intro _; go_simp; (try go_bits); exact ⟨rfl, rfl⟩); simp only [Act.put, List.setIfInBounds_toArray, List.set_cons_zero, List.set_cons_succ]
      apply lexF rfl; (· intro _; go_simp; (try go_bits); exact ⟨rfl, rfl⟩); simp only [Act.put, List.setIfInBounds_toArray, List.set_cons_zero, List.set_cons_succ]
      apply lexF rfl; (· intro _; go_simp; (try go_bits); exact ⟨rfl, rfl⟩); simp only [Act.put, List.setIfInBounds_toArray, List.set_cons_zero, List.set_cons_succ]
      apply lexS (fun w' => w'.heap[w6.heap.size]? = some (.cells #[.int .u32 ((base (k - 1) ra : Nat) : Int), .int .i64 ((k - 1 : Nat) : Int)] 35) ∧ Below w6.heap.size w6 w') rfl
      · intro w' hw'
        have hcc := cellsBelow hw'
        have hff := frozenBelow hw'
        have hfp := box2_free HP.out
        go_simp
        rw [HE.out]
        exact ⟨rfl, heap_setCell_at (heap_setCell_at ((hw'.block _ hPl).trans HP.out) _) _, (((hbw.trans (hw'.mono (by omega))).setCell (p := ⟨w6.heap.size, 0, none⟩) (Nat.le_refl _) _).setCell (p := ⟨w6.heap.size, 1, none⟩) (Nat.le_refl _) _)⟩
      simp only [Act.put]
      refine lexEnd (fun w8 hw8 => ?_)
      obtain ⟨hp8, hb8⟩ := hw8
      have HM := hid (lenAt_of hp8)
      have HP8 := hid hp8
      clear hp8
      go_wp2
      go_roundw
      case rel => exact ⟨k - 1, by omega, by omega, HP8.out, hb8⟩
      case measure => rw [hmu.out, HM.out]; omega
    · obtain rfl : k = com ra a := by omega
      go_upto_region 19 with (fail)
      obtain ⟨W9, hW9, k9, kB9, kL9, kF9, hWb9, s1, s2, s3, s4⟩ := fork_mid k4 kB4 kL hWb4 hw6 hbw (base (com ra a) ra) (com ra a)
      rw [← hW9]
      clear hW9 kp q hmu hlt hbw hk2 hk1 kP hB7 H67 hw6 hw5 c0 c1 c2 c3 c4 c5 l0 l1 l2 l3 l4 l5 hf hfl d0 k4 kB4 kL hL4 hb4 hB4
      obtain ⟨c0, c1, c2, c3, c4, c5⟩ := node_cells k9
      have d0 := cell_of_box3 kB9
      have hf9 := node_free kF9
      have t1 : b < W9.heap.size := by omega
      have t2 : w.heap.size < W9.heap.size := by omega
      have t3 : wr.heap.size < W9.heap.size := by omega
      clear s3
      refine wp_region_staged (fun w' => Below W9.heap.size W9 w') [0, 0, 0, 1, 0, 1, 0, 0, 0, 0, 2] (by kernel_rfl) (by kernel_rfl) (by kernel_rfl) (by exact (Below.refl _ _).drew) ?_
      apply lexF rfl; (· intro _; go_simp; (try go_bits); exact ⟨rfl, rfl⟩); simp only [Act.put, List.setIfInBounds_toArray, List.set_cons_zero, List.set_cons_succ]
      apply lexF rfl; (· intro _; go_simp; (try go_bits); exact ⟨rfl, rfl⟩); simp only [Act.put, List.setIfInBounds_toArray, List.set_cons_zero, List.set_cons_succ]
      apply lexF rfl; (· intro _; go_simp; (try go_bits); exact ⟨rfl, rfl⟩); simp only [Act.put, List.setIfInBounds_toArray, List.set_cons_zero, List.set_cons_succ]
      apply lexH rfl; (· intro w' hw'; have hcc := cellsBelow hw'; go_simp; (try go_bits); exact ⟨rfl, hw'⟩); simp only [Act.put, List.setIfInBounds_toArray, List.set_cons_zero, List.set_cons_succ]
      apply lexF rfl; (· intro _; go_simp; (try go_bits); exact ⟨rfl, rfl⟩); simp only [Act.put, List.setIfInBounds_toArray, List.set_cons_zero, List.set_cons_succ]
      apply lexH rfl
      · intro w' hw'; go_simp; (try go_bits); refine (branch_any ra _ _ hra hcom).mono ?_; rintro e w'' ⟨rfl, rfl⟩; exact ⟨_, rfl, val_bit HB, hw'⟩
      simp only [Act.put, List.setIfInBounds_toArray, List.set_cons_zero, List.set_cons_succ]
      apply lexF rfl; (· intro _; go_simp; (try go_bits); exact ⟨rfl, rfl⟩); simp only [Act.put, List.setIfInBounds_toArray, List.set_cons_zero, List.set_cons_succ]
      apply lexF rfl; (· intro _; go_simp; (try go_bits); exact ⟨rfl, rfl⟩); simp only [Act.put, List.setIfInBounds_toArray, List.set_cons_zero, List.set_cons_succ]
      apply lexF rfl; (· intro _; go_simp; (try go_bits); exact ⟨rfl, rfl⟩); simp only [Act.put, List.setIfInBounds_toArray, List.set_cons_zero, List.set_cons_succ]
      apply lexF rfl; (· intro _; go_simp; (try go_bits); exact ⟨rfl, rfl⟩); simp only [Act.put, List.setIfInBounds_toArray, List.set_cons_zero, List.set_cons_succ]
      apply lexS (fun w' => w'.heap[wr.heap.size]? = some (nodeObj (base (com ra a) ra) (com ra a) 0 false (some ⟨w3.heap.size, 0, none⟩) none) ∧ Below wr.heap.size W9 w') rfl
      · intro w' hw'
        have hcc := cellsBelow hw'
        have hff := frozenBelow hw'
        obtain ⟨f0, f1, f2, f3, f4, f5⟩ := node_cells kF9
        go_simp
        exact ⟨rfl, node_set0 ((hw'.block _ t3).trans kF9) _, (hw'.mono (show wr.heap.size ≤ W9.heap.size by omega)).setCell (p := ⟨wr.heap.size, 4, none⟩) (Nat.le_refl _) _⟩
      simp only [Act.put]
      refine lexEnd (fun wa hwa => ?_)
      obtain ⟨ka, hba⟩ := hwa
      have hba2 := cellsBelow hba
      go_upto_region 20 with (fail)
      clear hba2
      refine wp_region_staged (fun w' => w'.heap[wr.heap.size]? = some (nodeObj (base (com ra a) ra) (com ra a) 0 false (some ⟨w3.heap.size, 0, none⟩) none) ∧ Below wr.heap.size W9 w') [0, 0, 0, 0, 0, 0, 1, 0, 1, 0, 0, 0, 0, 2] (by kernel_rfl) (by kernel_rfl) (by kernel_rfl) (by exact ⟨ka, hba.drew⟩) ?_
      apply lexF rfl; (· intro _; go_simp; (try go_bits); exact ⟨rfl, rfl⟩); simp only [Act.put, List.setIfInBounds_toArray, List.set_cons_zero, List.set_cons_succ]
      apply lexF rfl; (· intro _; go_simp; (try go_bits); exact ⟨rfl, rfl⟩); simp only [Act.put, List.setIfInBounds_toArray, List.set_cons_zero, List.set_cons_succ]
      apply lexF rfl; (· intro _; go_simp; (try go_bits); exact ⟨rfl, rfl⟩); simp only [Act.put, List.setIfInBounds_toArray, List.set_cons_zero, List.set_cons_succ]
      apply lexF rfl; (· intro _; go_simp; (try go_bits); exact ⟨rfl, rfl⟩); simp only [Act.put, List.setIfInBounds_toArray, List.set_cons_zero, List.set_cons_succ]
      apply lexF rfl; (· intro _; go_simp; (try go_bits); exact ⟨rfl, rfl⟩); simp only [Act.put, List.setIfInBounds_toArray, List.set_cons_zero, List.set_cons_succ]
      apply lexF rfl; (· intro _; go_simp; (try go_bits); exact ⟨rfl, rfl⟩); simp only [Act.put, List.setIfInBounds_toArray, List.set_cons_zero, List.set_cons_succ]
      apply lexH rfl; (· intro w' hw'; have hcc := cellsBelow hw'.2; go_simp; (try go_bits); exact ⟨rfl, hw'⟩); simp only [Act.put, List.setIfInBounds_toArray, List.set_cons_zero, List.set_cons_succ]
      apply lexF rfl; (· intro _; go_simp; (try go_bits); exact ⟨rfl, rfl⟩); simp only [Act.put, List.setIfInBounds_toArray, List.set_cons_zero, List.set_cons_succ]
      apply lexH rfl
      · intro w' hw'; go_simp; (try go_bits); refine (branch_any a _ _ ha hcom).mono ?_; rintro e w'' ⟨rfl, rfl⟩; exact ⟨_, rfl, val_bit HB2, hw'⟩
      simp only [Act.put, List.setIfInBounds_toArray, List.set_cons_zero, List.set_cons_succ]
      apply lexF rfl; (· intro _; go_simp; (try go_bits); exact ⟨rfl, rfl⟩); simp only [Act.put, List.setIfInBounds_toArray, List.set_cons_zero, List.set_cons_succ]
      apply lexF rfl; (· intro _; go_simp; (try go_bits); exact ⟨rfl, rfl⟩); simp only [Act.put, List.setIfInBounds_toArray, List.set_cons_zero, List.set_cons_succ]
      apply lexF rfl; (· intro _; go_simp; (try go_bits); exact ⟨rfl, rfl⟩); simp only [Act.put, List.setIfInBounds_toArray, List.set_cons_zero, List.set_cons_succ]
      apply lexF rfl; (· intro _; go_simp; (try go_bits); exact ⟨rfl, rfl⟩); simp only [Act.put, List.setIfInBounds_toArray, List.set_cons_zero, List.set_cons_succ]
      apply lexS (fun w' => PutPost (.node b a n v h l r) ra rn rv w (.returned (.pointer (some ⟨wr.heap.size, 0, none⟩))) w') rfl
      · intro w' hw'
        have HK := hid hw'.1
        obtain ⟨f0, f1, f2, f3, f4, f5⟩ := node_cells hw'.1
        have hff := node_free hw'.1
        have HBB := hid hw'.2
        clear hw'
        go_simp
        exact ⟨rfl, FIN.out w3.heap.size wr.heap.size _ hlo s4 (by omega) ((setCell_far _ (by omega)).trans ((HBB.out.block _ s2).trans kL9)) (node_set1 HK.out _)
          ((hWb9.trans (HBB.out.mono s4)).setCell (p := ⟨wr.heap.size, 5, none⟩) s4 _)⟩
      simp only [Act.put]
      refine lexEnd (fun wz hwz => ?_)
      go_wp2
      go_ret
      exact hwz

end Go.Proofs.Ytklkldnpgecajaa
