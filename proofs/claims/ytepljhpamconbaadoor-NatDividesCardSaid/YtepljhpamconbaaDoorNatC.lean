/- Cmp. -/
import Derived.Test.YtepljhpamconbaaDoorNatB
namespace Go.Proofs.YtepljhpamconbaaDoor
open Go.RowKit

/-- How two numbers compare. -/
def cmpN (n m : Nat) : Int := if n < m then -1 else if m < n then 1 else 0
theorem cmpN_lt {n m : Nat} (h : n < m) : cmpN n m = -1 := if_pos h
theorem cmpN_gt {n m : Nat} (h : m < n) : cmpN n m = 1 := by unfold cmpN; rw [if_neg (by omega), if_pos h]
theorem cmpN_eq (n : Nat) : cmpN n n = 0 := by unfold cmpN; rw [if_neg (by omega), if_neg (by omega)]

/-- The highest digits that differ decide. -/
theorem val_lt_at {B : Nat} (hB : 2 ≤ B) {ds es : List Nat} (hd : ∀ d ∈ ds, d < B) {k : Nat} (h1 : k < ds.length) (h2 : k < es.length) (hl : ds.length = es.length) (ht : ds.drop (k + 1) = es.drop (k + 1)) (h : ds[k] < es[k]) : val B ds < val B es := by
  have e1 := val_take_drop (B := B) ds k (by omega)
  have e2 := val_take_drop (B := B) es k (by omega)
  rw [List.drop_eq_getElem_cons h1] at e1
  rw [List.drop_eq_getElem_cons h2, ← ht] at e2
  simp only [val] at e1 e2
  have h3 : val B (ds.take k) < B ^ k := by
    have := val_lt hB (l := ds.take k) (fun d hd' => hd d (List.mem_of_mem_take hd'))
    rwa [List.length_take, Nat.min_eq_left (by omega)] at this
  generalize val B (ds.drop (k + 1)) = X at e1 e2
  have h4 : B ^ k * (ds[k] + B * X + 1) ≤ B ^ k * (es[k] + B * X) := Nat.mul_le_mul_left _ (by omega)
  rw [Nat.mul_add (B ^ k) (ds[k] + B * X) 1] at h4
  omega
theorem drop_same {ds es : List Nat} {k : Nat} (h1 : k < ds.length) (h2 : k < es.length) (ht : ds.drop (k + 1) = es.drop (k + 1)) (h : ds[k] = es[k]) : ds.drop k = es.drop k := by
  rw [List.drop_eq_getElem_cons h1, List.drop_eq_getElem_cons h2, ht, h]

set_option maxHeartbeats 1000000 in
theorem cmp_len (p q : Option Addr) (l m c d : Nat) (w : World) (h : l ≠ m) (hl : l ≤ 1000000) (hm : m ≤ 1000000) :
    Calls Tryd.prog 17 #[.agg #[.slice p l c], .agg #[.slice q m d]] w fun e w' => e = .returned (.int .i64 (if l < m then -1 else 1)) ∧ Below w.heap.size w w' := by
  have hne : ((l : Int) == (m : Int)) = false := by rw [beq_eq_false_iff_ne]; omega
  have hne2 : ((l : Int) != (m : Int)) = true := by rw [bne_iff_ne]; omega
  by_cases hlt : l < m
  · skip
    go_enter Tryd.func17, Tryd.ntmps17
    go_upto_region 1 with (fail)
    obtain ⟨W1, hW1, hsz, kA, kB, hWb⟩ := box2_head (.slice p l c) (.slice q m d) 26 26 w
    rw [← hW1]
    have hb1 : w.heap.size < W1.heap.size := by omega
    have hb2 : w.heap.size + 1 < W1.heap.size := by omega
    have d0 := cell_box1 kA
    have d1 := cell_box1 kB
    clear hW1 hsz h
    refine wp_region_staged (fun w' => Below W1.heap.size W1 w') [0, 1, 0, 1, 0, 0] (by kernel_rfl) (by kernel_rfl) (by kernel_rfl) (by exact (Below.refl _ _).drew) ?_
    apply lexF rfl; (· intro _; go_simp; (try go_bits); exact ⟨rfl, rfl⟩); simp only [Act.put, List.setIfInBounds_toArray, List.set_cons_zero, List.set_cons_succ]
    apply lexH rfl; (· intro w' hw'; have hcc := cellsBelow hw'; go_simp; (try go_bits); exact ⟨rfl, hw'⟩); simp only [Act.put, List.setIfInBounds_toArray, List.set_cons_zero, List.set_cons_succ]
    apply lexF rfl; (· intro _; go_simp; (try go_bits); exact ⟨rfl, rfl⟩); simp only [Act.put, List.setIfInBounds_toArray, List.set_cons_zero, List.set_cons_succ]
    apply lexH rfl; (· intro w' hw'; have hcc := cellsBelow hw'; go_simp; (try go_bits); exact ⟨rfl, hw'⟩); simp only [Act.put, List.setIfInBounds_toArray, List.set_cons_zero, List.set_cons_succ]
    apply lexF rfl; (· intro _; go_simp; (try go_bits); exact ⟨rfl, rfl⟩); simp only [Act.put, List.setIfInBounds_toArray, List.set_cons_zero, List.set_cons_succ]
    apply lexF rfl; (· intro _; go_simp; (try go_bits); exact ⟨rfl, rfl⟩); simp only [Act.put, List.setIfInBounds_toArray, List.set_cons_zero, List.set_cons_succ]
    refine lexEnd (fun w2 hw2 => ?_)
    go_wp2
    go_ret
    exact ⟨rfl, hWb.trans (hw2.mono (by omega))⟩
  · skip
    have hge : ¬ (l : Int) < (m : Int) := by omega
    go_enter Tryd.func17, Tryd.ntmps17
    go_upto_region 1 with (fail)
    obtain ⟨W1, hW1, hsz, kA, kB, hWb⟩ := box2_head (.slice p l c) (.slice q m d) 26 26 w
    rw [← hW1]
    have hb1 : w.heap.size < W1.heap.size := by omega
    have hb2 : w.heap.size + 1 < W1.heap.size := by omega
    have d0 := cell_box1 kA
    have d1 := cell_box1 kB
    clear hW1 hsz h
    refine wp_region_staged (fun w' => Below W1.heap.size W1 w') [0, 1, 0, 1, 0, 0] (by kernel_rfl) (by kernel_rfl) (by kernel_rfl) (by exact (Below.refl _ _).drew) ?_
    apply lexF rfl; (· intro _; go_simp; (try go_bits); exact ⟨rfl, rfl⟩); simp only [Act.put, List.setIfInBounds_toArray, List.set_cons_zero, List.set_cons_succ]
    apply lexH rfl; (· intro w' hw'; have hcc := cellsBelow hw'; go_simp; (try go_bits); exact ⟨rfl, hw'⟩); simp only [Act.put, List.setIfInBounds_toArray, List.set_cons_zero, List.set_cons_succ]
    apply lexF rfl; (· intro _; go_simp; (try go_bits); exact ⟨rfl, rfl⟩); simp only [Act.put, List.setIfInBounds_toArray, List.set_cons_zero, List.set_cons_succ]
    apply lexH rfl; (· intro w' hw'; have hcc := cellsBelow hw'; go_simp; (try go_bits); exact ⟨rfl, hw'⟩); simp only [Act.put, List.setIfInBounds_toArray, List.set_cons_zero, List.set_cons_succ]
    apply lexF rfl; (· intro _; go_simp; (try go_bits); exact ⟨rfl, rfl⟩); simp only [Act.put, List.setIfInBounds_toArray, List.set_cons_zero, List.set_cons_succ]
    apply lexF rfl; (· intro _; go_simp; (try go_bits); exact ⟨rfl, rfl⟩); simp only [Act.put, List.setIfInBounds_toArray, List.set_cons_zero, List.set_cons_succ]
    refine lexEnd (fun w2 hw2 => ?_)
    go_wp2
    go_ret
    exact ⟨rfl, hWb.trans (hw2.mono (by omega))⟩

set_option maxHeartbeats 1000000 in
theorem cmp_zero (w : World) :
    Calls Tryd.prog 17 #[.agg #[.slice none 0 0], .agg #[.slice none 0 0]] w fun e w' => e = .returned (.int .i64 0) ∧ Below w.heap.size w w' := by
  go_enter Tryd.func17, Tryd.ntmps17
  go_upto_region 1 with (fail)
  obtain ⟨W1, hW1, hsz, kA, kB, hWb⟩ := box2_head (.slice none 0 0) (.slice none 0 0) 26 26 w
  rw [← hW1]
  have hb1 : w.heap.size < W1.heap.size := by omega
  have hb2 : w.heap.size + 1 < W1.heap.size := by omega
  have d0 := cell_box1 kA
  have d1 := cell_box1 kB
  clear hW1 hsz
  refine wp_region_staged (fun w' => Below W1.heap.size W1 w') [0, 1, 0, 1, 0, 0] (by kernel_rfl) (by kernel_rfl) (by kernel_rfl) (by exact (Below.refl _ _).drew) ?_
  apply lexF rfl; (· intro _; go_simp; (try go_bits); exact ⟨rfl, rfl⟩); simp only [Act.put, List.setIfInBounds_toArray, List.set_cons_zero, List.set_cons_succ]
  apply lexH rfl; (· intro w' hw'; have hcc := cellsBelow hw'; go_simp; (try go_bits); exact ⟨rfl, hw'⟩); simp only [Act.put, List.setIfInBounds_toArray, List.set_cons_zero, List.set_cons_succ]
  apply lexF rfl; (· intro _; go_simp; (try go_bits); exact ⟨rfl, rfl⟩); simp only [Act.put, List.setIfInBounds_toArray, List.set_cons_zero, List.set_cons_succ]
  apply lexH rfl; (· intro w' hw'; have hcc := cellsBelow hw'; go_simp; (try go_bits); exact ⟨rfl, hw'⟩); simp only [Act.put, List.setIfInBounds_toArray, List.set_cons_zero, List.set_cons_succ]
  apply lexF rfl; (· intro _; go_simp; (try go_bits); exact ⟨rfl, rfl⟩); simp only [Act.put, List.setIfInBounds_toArray, List.set_cons_zero, List.set_cons_succ]
  apply lexF rfl; (· intro _; go_simp; (try go_bits); exact ⟨rfl, rfl⟩); simp only [Act.put, List.setIfInBounds_toArray, List.set_cons_zero, List.set_cons_succ]
  refine lexEnd (fun w2 hw2 => ?_)
  go_wp2
  go_loop [7] (fun i => i = .int .i64 (-1)) (fun _ => 0)
  case atStart => rfl
  case round =>
    obtain rfl := hrel
    go_wp2
    go_ret
    exact ⟨rfl, hWb.trans (hw2.mono (by omega))⟩

set_option maxRecDepth 100000 in
set_option maxHeartbeats 1000000 in
theorem cmp_same (g g' c c' : Nat) (ds es : List Nat) (w : World) (hd : DigIn w g ds) (he : DigIn w g' es) (hl : ds.length = es.length) (h1 : ∀ d ∈ ds, d < B32) (h2 : ∀ d ∈ es, d < B32) (hlen : ds.length ≤ 1000000) :
    Calls Tryd.prog 17 #[.agg #[.slice (some ⟨g, 0, none⟩) ds.length c], .agg #[.slice (some ⟨g', 0, none⟩) ds.length c']] w fun e w' => e = .returned (.int .i64 (cmpN (val B32 ds) (val B32 es))) ∧ Below w.heap.size w w' := by
  have H1 := hid h1
  have H2 := hid h2
  have HL := hid hl
  have hgl := hd.lt
  have hgl' := he.lt
  clear h1 h2 hl
  go_enter Tryd.func17, Tryd.ntmps17
  go_upto_region 1 with (fail)
  obtain ⟨W1, hW1, hsz, kA, kB, hWb⟩ := box2_head (.slice (some ⟨g, 0, none⟩) ds.length c) (.slice (some ⟨g', 0, none⟩) ds.length c') 26 26 w
  have hd1 := hd.below hWb
  have he1 := he.below hWb
  rw [← hW1]
  have hb1 : w.heap.size < W1.heap.size := by omega
  have hb2 : w.heap.size + 1 < W1.heap.size := by omega
  have hb3 : g < W1.heap.size := by omega
  have hb4 : g' < W1.heap.size := by omega
  have d0 := cell_box1 kA
  have d1 := cell_box1 kB
  clear hW1 hsz
  refine wp_region_staged (fun w' => Below W1.heap.size W1 w') [0, 1, 0, 1, 0, 0] (by kernel_rfl) (by kernel_rfl) (by kernel_rfl) (by exact (Below.refl _ _).drew) ?_
  apply lexF rfl; (· intro _; go_simp; (try go_bits); exact ⟨rfl, rfl⟩); simp only [Act.put, List.setIfInBounds_toArray, List.set_cons_zero, List.set_cons_succ]
  apply lexH rfl; (· intro w' hw'; have hcc := cellsBelow hw'; go_simp; (try go_bits); exact ⟨rfl, hw'⟩); simp only [Act.put, List.setIfInBounds_toArray, List.set_cons_zero, List.set_cons_succ]
  apply lexF rfl; (· intro _; go_simp; (try go_bits); exact ⟨rfl, rfl⟩); simp only [Act.put, List.setIfInBounds_toArray, List.set_cons_zero, List.set_cons_succ]
  apply lexH rfl; (· intro w' hw'; have hcc := cellsBelow hw'; go_simp; (try go_bits); exact ⟨rfl, hw'⟩); simp only [Act.put, List.setIfInBounds_toArray, List.set_cons_zero, List.set_cons_succ]
  apply lexF rfl; (· intro _; go_simp; (try go_bits); exact ⟨rfl, rfl⟩); simp only [Act.put, List.setIfInBounds_toArray, List.set_cons_zero, List.set_cons_succ]
  apply lexF rfl; (· intro _; go_simp; (try go_bits); exact ⟨rfl, rfl⟩); simp only [Act.put, List.setIfInBounds_toArray, List.set_cons_zero, List.set_cons_succ]
  refine lexEnd (fun w2 hw2 => ?_)
  clear d0 d1
  go_wp2_with fail
  go_loopw [7] (fun i wr => ∃ k : Nat, k ≤ ds.length ∧ i = .int .i64 ((k : Int) - 1) ∧ RowKit.Hid (ds.drop k = es.drop k) ∧ Below W1.heap.size W1 wr) (fun i _ => (intOf i + 1).toNat)
  case atStart => exact ⟨ds.length, Nat.le_refl _, rfl, hid (by have := HL.out; rw [List.drop_length, this, List.drop_length]), hw2⟩
  case round =>
    clear hw2
    obtain ⟨k, hk, rfl, HD, hbw⟩ := hrel
    by_cases hk0 : k = 0
    · subst hk0
      have HE := hid (show cmpN (val B32 ds) (val B32 es) = 0 by have := HD.out; simp only [List.drop_zero] at this; rw [this]; exact cmpN_eq _)
      go_wp2
      go_ret
      exact ⟨by rw [HE.out]; rfl, hWb.trans (hbw.mono (by omega))⟩
    · obtain ⟨j, rfl⟩ : ∃ j, k = j + 1 := ⟨k - 1, by omega⟩
      have hj : j < ds.length := by omega
      have hj' : j < es.length := by have := HL.out; omega
      have ei : (((j + 1 : Nat) : Int) - 1) = (j : Int) := by omega
      rw [ei]
      clear ei
      have g0 := hd1.at0 j hj
      have g1 := he1.at0 j hj'
      have q0 : 0 ≤ (j : Int) := by omega
      go_upto_region 9 with (fail)
      refine wp_region_staged (fun w' => Below W1.heap.size W1 w') [0, 0, 0, 1, 0, 0, 0, 1, 0] (by kernel_rfl) (by kernel_rfl) (by kernel_rfl) (by exact hbw.drew) ?_
      rcases Nat.lt_trichotomy ds[j] es[j] with hc | hc | hc
      · have HE := hid (cmpN_lt (val_lt_at b32_2 H1.out hj hj' HL.out HD.out hc))
        have hlt : ((ds[j] : Nat) : Int) < ((es[j] : Nat) : Int) := by omega
        clear hc
        apply lexF rfl; (· intro _; go_simp; (try go_bits); exact ⟨rfl, rfl⟩); simp only [Act.put, List.setIfInBounds_toArray, List.set_cons_zero, List.set_cons_succ]
        apply lexF rfl; (· intro _; go_simp; (try go_bits); exact ⟨rfl, rfl⟩); simp only [Act.put, List.setIfInBounds_toArray, List.set_cons_zero, List.set_cons_succ]
        apply lexF rfl; (· intro _; go_simp; (try go_bits); exact ⟨rfl, rfl⟩); simp only [Act.put, List.setIfInBounds_toArray, List.set_cons_zero, List.set_cons_succ]
        apply lexH rfl; (· intro w' hw'; have hcc := cellsBelow hw'; go_simp; (try go_bits); exact ⟨rfl, hw'⟩); simp only [Act.put, List.setIfInBounds_toArray, List.set_cons_zero, List.set_cons_succ]
        apply lexF rfl; (· intro _; go_simp; (try go_bits); exact ⟨rfl, rfl⟩); simp only [Act.put, List.setIfInBounds_toArray, List.set_cons_zero, List.set_cons_succ]
        apply lexF rfl; (· intro _; go_simp; (try go_bits); exact ⟨rfl, rfl⟩); simp only [Act.put, List.setIfInBounds_toArray, List.set_cons_zero, List.set_cons_succ]
        apply lexF rfl; (· intro _; go_simp; (try go_bits); exact ⟨rfl, rfl⟩); simp only [Act.put, List.setIfInBounds_toArray, List.set_cons_zero, List.set_cons_succ]
        apply lexH rfl; (· intro w' hw'; have hcc := cellsBelow hw'; go_simp; (try go_bits); exact ⟨rfl, hw'⟩); simp only [Act.put, List.setIfInBounds_toArray, List.set_cons_zero, List.set_cons_succ]
        apply lexF rfl; (· intro _; go_simp; (try go_bits); exact ⟨rfl, rfl⟩); simp only [Act.put, List.setIfInBounds_toArray, List.set_cons_zero, List.set_cons_succ]
        refine lexEnd (fun w3 hw3 => ?_)
        go_wp2
        go_ret
        exact ⟨by rw [HE.out]; rfl, hWb.trans (hw3.mono (by omega))⟩
      · have HE := hid (drop_same hj hj' HD.out hc)
        rw [← hc] at g1
        clear hc
        apply lexF rfl; (· intro _; go_simp; (try go_bits); exact ⟨rfl, rfl⟩); simp only [Act.put, List.setIfInBounds_toArray, List.set_cons_zero, List.set_cons_succ]
        apply lexF rfl; (· intro _; go_simp; (try go_bits); exact ⟨rfl, rfl⟩); simp only [Act.put, List.setIfInBounds_toArray, List.set_cons_zero, List.set_cons_succ]
        apply lexF rfl; (· intro _; go_simp; (try go_bits); exact ⟨rfl, rfl⟩); simp only [Act.put, List.setIfInBounds_toArray, List.set_cons_zero, List.set_cons_succ]
        apply lexH rfl; (· intro w' hw'; have hcc := cellsBelow hw'; go_simp; (try go_bits); exact ⟨rfl, hw'⟩); simp only [Act.put, List.setIfInBounds_toArray, List.set_cons_zero, List.set_cons_succ]
        apply lexF rfl; (· intro _; go_simp; (try go_bits); exact ⟨rfl, rfl⟩); simp only [Act.put, List.setIfInBounds_toArray, List.set_cons_zero, List.set_cons_succ]
        apply lexF rfl; (· intro _; go_simp; (try go_bits); exact ⟨rfl, rfl⟩); simp only [Act.put, List.setIfInBounds_toArray, List.set_cons_zero, List.set_cons_succ]
        apply lexF rfl; (· intro _; go_simp; (try go_bits); exact ⟨rfl, rfl⟩); simp only [Act.put, List.setIfInBounds_toArray, List.set_cons_zero, List.set_cons_succ]
        apply lexH rfl; (· intro w' hw'; have hcc := cellsBelow hw'; go_simp; (try go_bits); exact ⟨rfl, hw'⟩); simp only [Act.put, List.setIfInBounds_toArray, List.set_cons_zero, List.set_cons_succ]
        apply lexF rfl; (· intro _; go_simp; (try go_bits); exact ⟨rfl, rfl⟩); simp only [Act.put, List.setIfInBounds_toArray, List.set_cons_zero, List.set_cons_succ]
        refine lexEnd (fun w3 hw3 => ?_)
        go_upto_region 11 with (fail)
        refine wp_region_staged (fun w' => Below W1.heap.size W1 w') [0, 0, 0, 1, 0, 0, 0, 1, 0] (by kernel_rfl) (by kernel_rfl) (by kernel_rfl) (by exact hw3.drew) ?_
        apply lexF rfl; (· intro _; go_simp; (try go_bits); exact ⟨rfl, rfl⟩); simp only [Act.put, List.setIfInBounds_toArray, List.set_cons_zero, List.set_cons_succ]
        apply lexF rfl; (· intro _; go_simp; (try go_bits); exact ⟨rfl, rfl⟩); simp only [Act.put, List.setIfInBounds_toArray, List.set_cons_zero, List.set_cons_succ]
        apply lexF rfl; (· intro _; go_simp; (try go_bits); exact ⟨rfl, rfl⟩); simp only [Act.put, List.setIfInBounds_toArray, List.set_cons_zero, List.set_cons_succ]
        apply lexH rfl; (· intro w' hw'; have hcc := cellsBelow hw'; go_simp; (try go_bits); exact ⟨rfl, hw'⟩); simp only [Act.put, List.setIfInBounds_toArray, List.set_cons_zero, List.set_cons_succ]
        apply lexF rfl; (· intro _; go_simp; (try go_bits); exact ⟨rfl, rfl⟩); simp only [Act.put, List.setIfInBounds_toArray, List.set_cons_zero, List.set_cons_succ]
        apply lexF rfl; (· intro _; go_simp; (try go_bits); exact ⟨rfl, rfl⟩); simp only [Act.put, List.setIfInBounds_toArray, List.set_cons_zero, List.set_cons_succ]
        apply lexF rfl; (· intro _; go_simp; (try go_bits); exact ⟨rfl, rfl⟩); simp only [Act.put, List.setIfInBounds_toArray, List.set_cons_zero, List.set_cons_succ]
        apply lexH rfl; (· intro w' hw'; have hcc := cellsBelow hw'; go_simp; (try go_bits); exact ⟨rfl, hw'⟩); simp only [Act.put, List.setIfInBounds_toArray, List.set_cons_zero, List.set_cons_succ]
        apply lexF rfl; (· intro _; go_simp; (try go_bits); exact ⟨rfl, rfl⟩); simp only [Act.put, List.setIfInBounds_toArray, List.set_cons_zero, List.set_cons_succ]
        refine lexEnd (fun w4 hw4 => ?_)
        go_wp2
        go_roundw
        case rel => exact ⟨j, by omega, rfl, HE, hw4⟩
        case measure => simp [intOf]
      · have HE := hid (cmpN_gt (val_lt_at b32_2 H2.out hj' hj HL.out.symm HD.out.symm hc))
        have hlt : ((es[j] : Nat) : Int) < ((ds[j] : Nat) : Int) := by omega
        have hge : ¬ ((ds[j] : Nat) : Int) < ((es[j] : Nat) : Int) := by omega
        clear hc
        apply lexF rfl; (· intro _; go_simp; (try go_bits); exact ⟨rfl, rfl⟩); simp only [Act.put, List.setIfInBounds_toArray, List.set_cons_zero, List.set_cons_succ]
        apply lexF rfl; (· intro _; go_simp; (try go_bits); exact ⟨rfl, rfl⟩); simp only [Act.put, List.setIfInBounds_toArray, List.set_cons_zero, List.set_cons_succ]
        apply lexF rfl; (· intro _; go_simp; (try go_bits); exact ⟨rfl, rfl⟩); simp only [Act.put, List.setIfInBounds_toArray, List.set_cons_zero, List.set_cons_succ]
        apply lexH rfl; (· intro w' hw'; have hcc := cellsBelow hw'; go_simp; (try go_bits); exact ⟨rfl, hw'⟩); simp only [Act.put, List.setIfInBounds_toArray, List.set_cons_zero, List.set_cons_succ]
        apply lexF rfl; (· intro _; go_simp; (try go_bits); exact ⟨rfl, rfl⟩); simp only [Act.put, List.setIfInBounds_toArray, List.set_cons_zero, List.set_cons_succ]
        apply lexF rfl; (· intro _; go_simp; (try go_bits); exact ⟨rfl, rfl⟩); simp only [Act.put, List.setIfInBounds_toArray, List.set_cons_zero, List.set_cons_succ]
        apply lexF rfl; (· intro _; go_simp; (try go_bits); exact ⟨rfl, rfl⟩); simp only [Act.put, List.setIfInBounds_toArray, List.set_cons_zero, List.set_cons_succ]
        apply lexH rfl; (· intro w' hw'; have hcc := cellsBelow hw'; go_simp; (try go_bits); exact ⟨rfl, hw'⟩); simp only [Act.put, List.setIfInBounds_toArray, List.set_cons_zero, List.set_cons_succ]
        apply lexF rfl; (· intro _; go_simp; (try go_bits); exact ⟨rfl, rfl⟩); simp only [Act.put, List.setIfInBounds_toArray, List.set_cons_zero, List.set_cons_succ]
        refine lexEnd (fun w3 hw3 => ?_)
        go_upto_region 11 with (fail)
        refine wp_region_staged (fun w' => Below W1.heap.size W1 w') [0, 0, 0, 1, 0, 0, 0, 1, 0] (by kernel_rfl) (by kernel_rfl) (by kernel_rfl) (by exact hw3.drew) ?_
        apply lexF rfl; (· intro _; go_simp; (try go_bits); exact ⟨rfl, rfl⟩); simp only [Act.put, List.setIfInBounds_toArray, List.set_cons_zero, List.set_cons_succ]
        apply lexF rfl; (· intro _; go_simp; (try go_bits); exact ⟨rfl, rfl⟩); simp only [Act.put, List.setIfInBounds_toArray, List.set_cons_zero, List.set_cons_succ]
        apply lexF rfl; (· intro _; go_simp; (try go_bits); exact ⟨rfl, rfl⟩); simp only [Act.put, List.setIfInBounds_toArray, List.set_cons_zero, List.set_cons_succ]
        apply lexH rfl; (· intro w' hw'; have hcc := cellsBelow hw'; go_simp; (try go_bits); exact ⟨rfl, hw'⟩); simp only [Act.put, List.setIfInBounds_toArray, List.set_cons_zero, List.set_cons_succ]
        apply lexF rfl; (· intro _; go_simp; (try go_bits); exact ⟨rfl, rfl⟩); simp only [Act.put, List.setIfInBounds_toArray, List.set_cons_zero, List.set_cons_succ]
        apply lexF rfl; (· intro _; go_simp; (try go_bits); exact ⟨rfl, rfl⟩); simp only [Act.put, List.setIfInBounds_toArray, List.set_cons_zero, List.set_cons_succ]
        apply lexF rfl; (· intro _; go_simp; (try go_bits); exact ⟨rfl, rfl⟩); simp only [Act.put, List.setIfInBounds_toArray, List.set_cons_zero, List.set_cons_succ]
        apply lexH rfl; (· intro w' hw'; have hcc := cellsBelow hw'; go_simp; (try go_bits); exact ⟨rfl, hw'⟩); simp only [Act.put, List.setIfInBounds_toArray, List.set_cons_zero, List.set_cons_succ]
        apply lexF rfl; (· intro _; go_simp; (try go_bits); exact ⟨rfl, rfl⟩); simp only [Act.put, List.setIfInBounds_toArray, List.set_cons_zero, List.set_cons_succ]
        refine lexEnd (fun w4 hw4 => ?_)
        go_wp2
        go_ret
        exact ⟨by rw [HE.out]; rfl, hWb.trans (hw4.mono (by omega))⟩

theorem cmp_any (v u : Value) (n m : Nat) (w : World) (hv : NatV w v n) (hu : NatV w u m) (h1 : (digs B32 n).length ≤ 1000000) (h2 : (digs B32 m).length ≤ 1000000) :
    Calls Tryd.prog 17 #[v, u] w fun e w' => e = .returned (.int .i64 (cmpN n m)) ∧ Below w.heap.size w w' := by
  by_cases hl : (digs B32 n).length = (digs B32 m).length
  · rcases hv with ⟨rfl, rfl⟩ | ⟨h0, g, c, rfl, hd, _⟩
    · have hm : m = 0 := by
        rw [digs_zero] at hl
        exact (digs_eq_nil b32_2).1 (List.eq_nil_of_length_eq_zero hl.symm)
      subst hm
      rcases hu with ⟨_, rfl⟩ | ⟨h0, _⟩
      · exact cmp_zero w
      · exact absurd rfl h0
    · rcases hu with ⟨rfl, rfl⟩ | ⟨h0', g', c', rfl, hd', _⟩
      · rw [digs_zero] at hl
        exact absurd (List.eq_nil_of_length_eq_zero hl) (digs_last_ne h0)
      · have := cmp_same g g' c c' _ _ w hd hd' hl (digs_lt b32_2 n) (digs_lt b32_2 m) h1
        rw [val_digs b32_2, val_digs b32_2, hl] at this
        rw [hl]
        exact this
  · obtain ⟨p, c, rfl, _⟩ := hv.dig
    obtain ⟨q, d, rfl, _⟩ := hu.dig
    refine (cmp_len p q _ _ c d w hl h1 h2).mono fun e w' ⟨he, hb⟩ => ⟨?_, hb⟩
    rw [he]
    by_cases hlt : (digs B32 n).length < (digs B32 m).length
    · rw [if_pos hlt, cmpN_lt (digs_len_mono b32_2 hlt)]
    · rw [if_neg hlt, cmpN_gt (digs_len_mono b32_2 (by omega))]

end Go.Proofs.YtepljhpamconbaaDoor
