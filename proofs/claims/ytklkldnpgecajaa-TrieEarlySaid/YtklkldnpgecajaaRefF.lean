/- The reference's table of routes: Remove, Lookup, Under. -/
import Derived.Test.YtklkldnpgecajaaRefE
namespace Go.Proofs.Ytklkldnpgecajaa
open Go.RowKit Go.Shelf

theorem delL_none {a n : Nat} {l : List Rt} (i : Nat) (h : fndI a (n : Int) i l = -1) : ∀ x ∈ l, ¬ x.is a n := by
  induction l generalizing i with
  | nil => intro x hx; cases hx
  | cons y l ih =>
    unfold fndI at h
    by_cases hy : y.a = a ∧ (y.n : Int) = (n : Int)
    · rw [if_pos hy] at h; omega
    · rw [if_neg hy] at h
      intro x hx e
      rcases List.mem_cons.1 hx with e' | hx
      · subst e'; exact hy ⟨e.1, by have := e.2; omega⟩
      · exact ih _ h x hx e

theorem rrem_some (v : Value) (L : List Rt) (a n : Nat) (u : Int) (w : World) (hT : TabV w v L) (hc : L.length ≤ 1000000) (hs : L.Pairwise Rt.lt) (ha : W32 a) (hv : vld a (n : Int) = true) (hg : getL a (n : Int) L = some u) :
    Calls Try.prog 46 #[v, .agg #[.int .u32 (a : Int), .int .i64 (n : Int)]] w fun e w' =>
      ∃ v', e = .returned (.tuple #[v', .int .i64 0]) ∧ RowL w' w.heap.size v' (delL a n L) ∧ Below w.heap.size w w' := by
  rcases fnd_get a (n : Int) L 0 with ⟨_, h2⟩ | ⟨k, hk, h1, _⟩
  · rw [h2] at hg; cases hg
  · have hL : L ≠ [] := fun e => by subst e; cases hk
    obtain ⟨g, c, rfl, h, hc1, hc2⟩ := tab_some hT hL
    rw [← del_at 0 k hs h1 hk]
    exact rrem_good g c L a n k w h hc hc1 hc2 ha hv (by rw [h1]; omega) hk
theorem rrem_miss (v : Value) (L : List Rt) (a n : Nat) (w : World) (hT : TabV w v L) (hc : L.length ≤ 1000000) (ha : W32 a) (hv : vld a (n : Int) = true) (hg : getL a (n : Int) L = none) :
    Calls Try.prog 46 #[v, .agg #[.int .u32 (a : Int), .int .i64 (n : Int)]] w fun e w' => e = .returned (.tuple #[v, .int .i64 8]) ∧ Below w.heap.size w w' := by
  rcases fnd_get a (n : Int) L 0 with ⟨h1, _⟩ | ⟨k, hk, h1, h2⟩
  · exact rrem_none v L a n w hT hc ha hv h1
  · rw [h2] at hg; cases hg

/-! ### Lookup -/
theorem best_hit {x : Nat} {L : List Rt} {k : Nat} {b : Best} (h : k < L.length) (hc : cts L[k].a L[k].n x = true) (hb : b.f = false ∨ b.n < L[k].n) : bestL x (L.drop k) b = bestL x (L.drop (k + 1)) ⟨L[k].a, L[k].n, L[k].v, true⟩ := by
  rw [List.drop_eq_getElem_cons h]
  show bestL x _ (bstep x b L[k]) = _
  unfold bstep
  rw [if_pos ⟨hc, hb⟩]
theorem best_miss {x : Nat} {L : List Rt} {k : Nat} {b : Best} (h : k < L.length) (hc : ¬ (cts L[k].a L[k].n x = true ∧ (b.f = false ∨ b.n < L[k].n))) : bestL x (L.drop k) b = bestL x (L.drop (k + 1)) b := by
  rw [List.drop_eq_getElem_cons h]
  show bestL x _ (bstep x b L[k]) = _
  unfold bstep
  rw [if_neg hc]

set_option maxRecDepth 100000 in
set_option maxHeartbeats 2000000 in
theorem rlook_some (g c : Nat) (L : List Rt) (x : Nat) (w : World) (hT : TabIn w g L) (hc : L.length ≤ 1000000) (hx : W32 x) (hL : ∀ y ∈ L, W32 y.a) :
    Calls Try.prog 18 #[.slice (some ⟨g, 0, none⟩) L.length c, .int .u32 (x : Int)] w fun e w' => e = .returned (lookV (bestL x L ⟨0, 0, 0, false⟩)) ∧ Below w.heap.size w w' := by
  have HL := hid hL
  clear hL
  go_enter Try.func18, Try.ntmps18
  go_wp2_with fail
  have HW := hid (show ∃ W1, W1 = (w.alloc (.cells #[.int .u32 0, .int .i64 0, .int .i64 0] 37)).alloc (.cells #[.int .u32 0, .int .i64 0, .int .i64 0] 37) ∧ LookAt w W1 .nil ⟨0, 0, 0, false⟩ by
    refine ⟨_, rfl, (Below.heap_alloc _ _ _ (by simp)).trans (heap_alloc_at w _), ?_, trivial, ((Below.refl _ w).alloc (Nat.le_refl _) _).alloc (by simp) _, by simp⟩
    have := heap_alloc_at (w.alloc (.cells #[.int .u32 0, .int .i64 0, .int .i64 0] 37)) (.cells #[.int .u32 0, .int .i64 0, .int .i64 0] 37)
    rw [World.size_alloc] at this
    exact this)
  obtain ⟨W1, hW1, hlk⟩ := HW.out
  rw [← hW1]
  clear hW1 HW
  have hgl := hT.lt
  go_loopw [7, 8] (fun f i wr => ∃ (k : Nat) (b : Best), k ≤ L.length ∧ i = .int .i64 k ∧ f = .bool b.f ∧ RowKit.Hid (bestL x L ⟨0, 0, 0, false⟩ = bestL x (L.drop k) b) ∧ LookAt w wr .nil b) (fun _ i _ => L.length - (intOf i).toNat)
  case atStart => exact ⟨0, ⟨0, 0, 0, false⟩, Nat.zero_le _, rfl, rfl, rfl, hlk⟩
  case round =>
    clear hlk
    obtain ⟨k, bst, hk, rfl, rfl, HF, hat⟩ := hrel
    by_cases hlt : k < L.length
    · have hgw : g < wr.heap.size := by have := hat.size; omega
      have hTr : TabIn wr g L := ⟨hgw, fun k hk => (hat.old.cell (p := ⟨g, k * 3, none⟩) hgl).trans (hT.at0 k hk), fun k hk => (hat.old.cell (p := ⟨g, k * 3 + 1, none⟩) hgl).trans (hT.at1 k hk), fun k hk => (hat.old.cell (p := ⟨g, k * 3 + 2, none⟩) hgl).trans (hT.at2 k hk)⟩
      have hya := HL.out L[k] (List.getElem_mem hlt)
      go_upto_region 6 with (fail)
      refine wp_region_staged (fun w' => Below wr.heap.size wr w') [0, 0, 0, 0, 1, 0, 1, 0, 0, 0, 0, 0, 0, 0, 0, 0, 1, 0, 0, 1, 0, 0, 0] (by kernel_rfl) (by kernel_rfl) (by kernel_rfl) (by exact (Below.refl _ _).drew) ?_
      have g0 := hTr.at0 k hlt
      have g1 := hTr.at1 k hlt
      have s1 : w.heap.size + 1 < wr.heap.size := by have := hat.size; omega
      obtain ⟨b0, b1, b2⟩ := best_cells hat.bst
      cases hcx : cts L[k].a L[k].n x with
      | false =>
        have HC := hid hcx
        have HE := hid (best_miss (b := bst) hlt (by rw [hcx]; simp))
        clear hcx
        apply lexF rfl; (· intro _; go_simp; (try go_bits); exact ⟨rfl, rfl⟩); simp only [Act.put, List.setIfInBounds_toArray, List.set_cons_zero, List.set_cons_succ]
        apply lexF rfl; (· intro _; go_simp; (try go_bits); exact ⟨rfl, rfl⟩); simp only [Act.put, List.setIfInBounds_toArray, List.set_cons_zero, List.set_cons_succ]
        apply lexF rfl; (· intro _; go_simp; (try go_bits); exact ⟨rfl, rfl⟩); simp only [Act.put, List.setIfInBounds_toArray, List.set_cons_zero, List.set_cons_succ]
        apply lexF rfl; (· intro _; go_simp; (try go_bits); exact ⟨rfl, rfl⟩); simp only [Act.put, List.setIfInBounds_toArray, List.set_cons_zero, List.set_cons_succ]
        apply lexH rfl; (· intro w' hw'; have hcc := cellsBelow hw'; go_simp; (try go_bits); exact ⟨rfl, hw'⟩); simp only [Act.put, List.setIfInBounds_toArray, List.set_cons_zero, List.set_cons_succ]
        apply lexF rfl; (· intro _; go_simp; (try go_bits); exact ⟨rfl, rfl⟩); simp only [Act.put, List.setIfInBounds_toArray, List.set_cons_zero, List.set_cons_succ]
        apply lexH rfl
        · intro w' hw'; go_simp; (try go_bits); refine (rcontains_any L[k].a L[k].n x _ hya hx).mono ?_; rintro e w'' ⟨rfl, hbb⟩; exact ⟨_, rfl, congrArg Value.bool HC.out, hw'.trans (hbb.mono hw'.size)⟩
        simp only [Act.put, List.setIfInBounds_toArray, List.set_cons_zero, List.set_cons_succ]
        apply lexF rfl; (· intro _; go_simp; (try go_bits); exact ⟨rfl, rfl⟩); simp only [Act.put, List.setIfInBounds_toArray, List.set_cons_zero, List.set_cons_succ]
        first | (apply lexN (j := 7) (d := 22) (b := true) rfl rfl rfl rfl; simp only [Act.put, List.setIfInBounds_toArray, List.set_cons_zero, List.set_cons_succ]) | (apply lexN' (j := 7) (d := 22) (b := true) rfl rfl rfl; simp only [Act.put, List.setIfInBounds_toArray, List.set_cons_zero, List.set_cons_succ]) | (apply lexFg (j := 7) (d := 22) (b := true) rfl rfl rfl rfl; (· intro _; go_simp; (try go_bits); exact ⟨rfl, rfl⟩); simp only [Act.put, List.setIfInBounds_toArray, List.set_cons_zero, List.set_cons_succ])
        first | (apply lexN (j := 7) (d := 22) (b := true) rfl rfl rfl rfl; simp only [Act.put, List.setIfInBounds_toArray, List.set_cons_zero, List.set_cons_succ]) | (apply lexN' (j := 7) (d := 22) (b := true) rfl rfl rfl; simp only [Act.put, List.setIfInBounds_toArray, List.set_cons_zero, List.set_cons_succ]) | (apply lexFg (j := 7) (d := 22) (b := true) rfl rfl rfl rfl; (· intro _; go_simp; (try go_bits); exact ⟨rfl, rfl⟩); simp only [Act.put, List.setIfInBounds_toArray, List.set_cons_zero, List.set_cons_succ])
        first | (apply lexN (j := 7) (d := 22) (b := true) rfl rfl rfl rfl; simp only [Act.put, List.setIfInBounds_toArray, List.set_cons_zero, List.set_cons_succ]) | (apply lexN' (j := 7) (d := 22) (b := true) rfl rfl rfl; simp only [Act.put, List.setIfInBounds_toArray, List.set_cons_zero, List.set_cons_succ]) | (apply lexFg (j := 7) (d := 22) (b := true) rfl rfl rfl rfl; (· intro _; go_simp; (try go_bits); exact ⟨rfl, rfl⟩); simp only [Act.put, List.setIfInBounds_toArray, List.set_cons_zero, List.set_cons_succ])
        first | (apply lexN (j := 10) (d := 25) (b := false) rfl rfl rfl rfl; simp only [Act.put, List.setIfInBounds_toArray, List.set_cons_zero, List.set_cons_succ]) | (apply lexN' (j := 10) (d := 25) (b := false) rfl rfl rfl; simp only [Act.put, List.setIfInBounds_toArray, List.set_cons_zero, List.set_cons_succ]) | (apply lexFg (j := 10) (d := 25) (b := false) rfl rfl rfl rfl; (· intro _; go_simp; (try go_bits); exact ⟨rfl, rfl⟩); simp only [Act.put, List.setIfInBounds_toArray, List.set_cons_zero, List.set_cons_succ])
        first | (apply lexN (j := 10) (d := 25) (b := false) rfl rfl rfl rfl; simp only [Act.put, List.setIfInBounds_toArray, List.set_cons_zero, List.set_cons_succ]) | (apply lexN' (j := 10) (d := 25) (b := false) rfl rfl rfl; simp only [Act.put, List.setIfInBounds_toArray, List.set_cons_zero, List.set_cons_succ]) | (apply lexFg (j := 10) (d := 25) (b := false) rfl rfl rfl rfl; (· intro _; go_simp; (try go_bits); exact ⟨rfl, rfl⟩); simp only [Act.put, List.setIfInBounds_toArray, List.set_cons_zero, List.set_cons_succ])
        first | (apply lexN (j := 10) (d := 25) (b := false) rfl rfl rfl rfl; simp only [Act.put, List.setIfInBounds_toArray, List.set_cons_zero, List.set_cons_succ]) | (apply lexN' (j := 10) (d := 25) (b := false) rfl rfl rfl; simp only [Act.put, List.setIfInBounds_toArray, List.set_cons_zero, List.set_cons_succ]) | (apply lexFg (j := 10) (d := 25) (b := false) rfl rfl rfl rfl; (· intro _; go_simp; (try go_bits); exact ⟨rfl, rfl⟩); simp only [Act.put, List.setIfInBounds_toArray, List.set_cons_zero, List.set_cons_succ])
        first | (apply lexN (j := 10) (d := 25) (b := false) rfl rfl rfl rfl; simp only [Act.put, List.setIfInBounds_toArray, List.set_cons_zero, List.set_cons_succ]) | (apply lexN' (j := 10) (d := 25) (b := false) rfl rfl rfl; simp only [Act.put, List.setIfInBounds_toArray, List.set_cons_zero, List.set_cons_succ]) | (apply lexFg (j := 10) (d := 25) (b := false) rfl rfl rfl rfl; (· intro _; go_simp; (try go_bits); exact ⟨rfl, rfl⟩); simp only [Act.put, List.setIfInBounds_toArray, List.set_cons_zero, List.set_cons_succ])
        first | (apply lexN (j := 10) (d := 25) (b := false) rfl rfl rfl rfl; simp only [Act.put, List.setIfInBounds_toArray, List.set_cons_zero, List.set_cons_succ]) | (apply lexN' (j := 10) (d := 25) (b := false) rfl rfl rfl; simp only [Act.put, List.setIfInBounds_toArray, List.set_cons_zero, List.set_cons_succ]) | (apply lexFg (j := 10) (d := 25) (b := false) rfl rfl rfl rfl; (· intro _; go_simp; (try go_bits); exact ⟨rfl, rfl⟩); simp only [Act.put, List.setIfInBounds_toArray, List.set_cons_zero, List.set_cons_succ])
        first | (apply lexN (j := 10) (d := 25) (b := false) rfl rfl rfl rfl; simp only [Act.put, List.setIfInBounds_toArray, List.set_cons_zero, List.set_cons_succ]) | (apply lexN' (j := 10) (d := 25) (b := false) rfl rfl rfl; simp only [Act.put, List.setIfInBounds_toArray, List.set_cons_zero, List.set_cons_succ]) | (apply lexHg (j := 10) (d := 25) (b := false) rfl rfl rfl rfl; (· intro w' hw'; have hcc := cellsBelow hw'; go_simp; (try go_bits); exact ⟨rfl, hw'⟩); simp only [Act.put, List.setIfInBounds_toArray, List.set_cons_zero, List.set_cons_succ])
        first | (apply lexN (j := 10) (d := 25) (b := false) rfl rfl rfl rfl; simp only [Act.put, List.setIfInBounds_toArray, List.set_cons_zero, List.set_cons_succ]) | (apply lexN' (j := 10) (d := 25) (b := false) rfl rfl rfl; simp only [Act.put, List.setIfInBounds_toArray, List.set_cons_zero, List.set_cons_succ]) | (apply lexFg (j := 10) (d := 25) (b := false) rfl rfl rfl rfl; (· intro _; go_simp; (try go_bits); exact ⟨rfl, rfl⟩); simp only [Act.put, List.setIfInBounds_toArray, List.set_cons_zero, List.set_cons_succ])
        first | (apply lexN (j := 10) (d := 25) (b := false) rfl rfl rfl rfl; simp only [Act.put, List.setIfInBounds_toArray, List.set_cons_zero, List.set_cons_succ]) | (apply lexN' (j := 10) (d := 25) (b := false) rfl rfl rfl; simp only [Act.put, List.setIfInBounds_toArray, List.set_cons_zero, List.set_cons_succ]) | (apply lexFg (j := 10) (d := 25) (b := false) rfl rfl rfl rfl; (· intro _; go_simp; (try go_bits); exact ⟨rfl, rfl⟩); simp only [Act.put, List.setIfInBounds_toArray, List.set_cons_zero, List.set_cons_succ])
        first | (apply lexN (j := 10) (d := 25) (b := false) rfl rfl rfl rfl; simp only [Act.put, List.setIfInBounds_toArray, List.set_cons_zero, List.set_cons_succ]) | (apply lexN' (j := 10) (d := 25) (b := false) rfl rfl rfl; simp only [Act.put, List.setIfInBounds_toArray, List.set_cons_zero, List.set_cons_succ]) | (apply lexHg (j := 10) (d := 25) (b := false) rfl rfl rfl rfl; (· intro w' hw'; have hcc := cellsBelow hw'; go_simp; (try go_bits); exact ⟨rfl, hw'⟩); simp only [Act.put, List.setIfInBounds_toArray, List.set_cons_zero, List.set_cons_succ])
        first | (apply lexN (j := 10) (d := 25) (b := false) rfl rfl rfl rfl; simp only [Act.put, List.setIfInBounds_toArray, List.set_cons_zero, List.set_cons_succ]) | (apply lexN' (j := 10) (d := 25) (b := false) rfl rfl rfl; simp only [Act.put, List.setIfInBounds_toArray, List.set_cons_zero, List.set_cons_succ]) | (apply lexFg (j := 10) (d := 25) (b := false) rfl rfl rfl rfl; (· intro _; go_simp; (try go_bits); exact ⟨rfl, rfl⟩); simp only [Act.put, List.setIfInBounds_toArray, List.set_cons_zero, List.set_cons_succ])
        first | (apply lexN (j := 7) (d := 22) (b := true) rfl rfl rfl rfl; simp only [Act.put, List.setIfInBounds_toArray, List.set_cons_zero, List.set_cons_succ]) | (apply lexN' (j := 7) (d := 22) (b := true) rfl rfl rfl; simp only [Act.put, List.setIfInBounds_toArray, List.set_cons_zero, List.set_cons_succ]) | (apply lexFg (j := 7) (d := 22) (b := true) rfl rfl rfl rfl; (· intro _; go_simp; (try go_bits); exact ⟨rfl, rfl⟩); simp only [Act.put, List.setIfInBounds_toArray, List.set_cons_zero, List.set_cons_succ])
        apply lexF rfl; (· intro _; go_simp; (try go_bits); exact ⟨rfl, rfl⟩); simp only [Act.put, List.setIfInBounds_toArray, List.set_cons_zero, List.set_cons_succ]
        refine lexEnd (fun w2 hw2 => ?_)
        clear b0 b1 b2 g0 g1
        go_wp2
        go_roundw
        case rel => exact ⟨k + 1, bst, by omega, by go_num, rfl, hid (HF.out.trans HE.out), hat.below hw2⟩
        case measure => simp [intOf]; omega
      | true =>
        have HC := hid hcx
        obtain ⟨ba, bn, bv, bf⟩ := bst
        dsimp only at b0 b1 b2
        cases bf with
        | false =>
          have HE := hid (best_hit (b := ⟨ba, bn, bv, false⟩) hlt hcx (.inl rfl))
          clear hcx
          apply lexF rfl; (· intro _; go_simp; (try go_bits); exact ⟨rfl, rfl⟩); simp only [Act.put, List.setIfInBounds_toArray, List.set_cons_zero, List.set_cons_succ]
          apply lexF rfl; (· intro _; go_simp; (try go_bits); exact ⟨rfl, rfl⟩); simp only [Act.put, List.setIfInBounds_toArray, List.set_cons_zero, List.set_cons_succ]
          apply lexF rfl; (· intro _; go_simp; (try go_bits); exact ⟨rfl, rfl⟩); simp only [Act.put, List.setIfInBounds_toArray, List.set_cons_zero, List.set_cons_succ]
          apply lexF rfl; (· intro _; go_simp; (try go_bits); exact ⟨rfl, rfl⟩); simp only [Act.put, List.setIfInBounds_toArray, List.set_cons_zero, List.set_cons_succ]
          apply lexH rfl; (· intro w' hw'; have hcc := cellsBelow hw'; go_simp; (try go_bits); exact ⟨rfl, hw'⟩); simp only [Act.put, List.setIfInBounds_toArray, List.set_cons_zero, List.set_cons_succ]
          apply lexF rfl; (· intro _; go_simp; (try go_bits); exact ⟨rfl, rfl⟩); simp only [Act.put, List.setIfInBounds_toArray, List.set_cons_zero, List.set_cons_succ]
          apply lexH rfl
          · intro w' hw'; go_simp; (try go_bits); refine (rcontains_any L[k].a L[k].n x _ hya hx).mono ?_; rintro e w'' ⟨rfl, hbb⟩; exact ⟨_, rfl, congrArg Value.bool HC.out, hw'.trans (hbb.mono hw'.size)⟩
          simp only [Act.put, List.setIfInBounds_toArray, List.set_cons_zero, List.set_cons_succ]
          apply lexF rfl; (· intro _; go_simp; (try go_bits); exact ⟨rfl, rfl⟩); simp only [Act.put, List.setIfInBounds_toArray, List.set_cons_zero, List.set_cons_succ]
          first | (apply lexN (j := 7) (d := 22) (b := true) rfl rfl rfl rfl; simp only [Act.put, List.setIfInBounds_toArray, List.set_cons_zero, List.set_cons_succ]) | (apply lexN' (j := 7) (d := 22) (b := true) rfl rfl rfl; simp only [Act.put, List.setIfInBounds_toArray, List.set_cons_zero, List.set_cons_succ]) | (apply lexFg (j := 7) (d := 22) (b := true) rfl rfl rfl rfl; (· intro _; go_simp; (try go_bits); exact ⟨rfl, rfl⟩); simp only [Act.put, List.setIfInBounds_toArray, List.set_cons_zero, List.set_cons_succ])
          first | (apply lexN (j := 7) (d := 22) (b := true) rfl rfl rfl rfl; simp only [Act.put, List.setIfInBounds_toArray, List.set_cons_zero, List.set_cons_succ]) | (apply lexN' (j := 7) (d := 22) (b := true) rfl rfl rfl; simp only [Act.put, List.setIfInBounds_toArray, List.set_cons_zero, List.set_cons_succ]) | (apply lexFg (j := 7) (d := 22) (b := true) rfl rfl rfl rfl; (· intro _; go_simp; (try go_bits); exact ⟨rfl, rfl⟩); simp only [Act.put, List.setIfInBounds_toArray, List.set_cons_zero, List.set_cons_succ])
          first | (apply lexN (j := 7) (d := 22) (b := true) rfl rfl rfl rfl; simp only [Act.put, List.setIfInBounds_toArray, List.set_cons_zero, List.set_cons_succ]) | (apply lexN' (j := 7) (d := 22) (b := true) rfl rfl rfl; simp only [Act.put, List.setIfInBounds_toArray, List.set_cons_zero, List.set_cons_succ]) | (apply lexFg (j := 7) (d := 22) (b := true) rfl rfl rfl rfl; (· intro _; go_simp; (try go_bits); exact ⟨rfl, rfl⟩); simp only [Act.put, List.setIfInBounds_toArray, List.set_cons_zero, List.set_cons_succ])
          first | (apply lexN (j := 10) (d := 25) (b := false) rfl rfl rfl rfl; simp only [Act.put, List.setIfInBounds_toArray, List.set_cons_zero, List.set_cons_succ]) | (apply lexN' (j := 10) (d := 25) (b := false) rfl rfl rfl; simp only [Act.put, List.setIfInBounds_toArray, List.set_cons_zero, List.set_cons_succ]) | (apply lexFg (j := 10) (d := 25) (b := false) rfl rfl rfl rfl; (· intro _; go_simp; (try go_bits); exact ⟨rfl, rfl⟩); simp only [Act.put, List.setIfInBounds_toArray, List.set_cons_zero, List.set_cons_succ])
          first | (apply lexN (j := 10) (d := 25) (b := false) rfl rfl rfl rfl; simp only [Act.put, List.setIfInBounds_toArray, List.set_cons_zero, List.set_cons_succ]) | (apply lexN' (j := 10) (d := 25) (b := false) rfl rfl rfl; simp only [Act.put, List.setIfInBounds_toArray, List.set_cons_zero, List.set_cons_succ]) | (apply lexFg (j := 10) (d := 25) (b := false) rfl rfl rfl rfl; (· intro _; go_simp; (try go_bits); exact ⟨rfl, rfl⟩); simp only [Act.put, List.setIfInBounds_toArray, List.set_cons_zero, List.set_cons_succ])
          first | (apply lexN (j := 10) (d := 25) (b := false) rfl rfl rfl rfl; simp only [Act.put, List.setIfInBounds_toArray, List.set_cons_zero, List.set_cons_succ]) | (apply lexN' (j := 10) (d := 25) (b := false) rfl rfl rfl; simp only [Act.put, List.setIfInBounds_toArray, List.set_cons_zero, List.set_cons_succ]) | (apply lexFg (j := 10) (d := 25) (b := false) rfl rfl rfl rfl; (· intro _; go_simp; (try go_bits); exact ⟨rfl, rfl⟩); simp only [Act.put, List.setIfInBounds_toArray, List.set_cons_zero, List.set_cons_succ])
          first | (apply lexN (j := 10) (d := 25) (b := false) rfl rfl rfl rfl; simp only [Act.put, List.setIfInBounds_toArray, List.set_cons_zero, List.set_cons_succ]) | (apply lexN' (j := 10) (d := 25) (b := false) rfl rfl rfl; simp only [Act.put, List.setIfInBounds_toArray, List.set_cons_zero, List.set_cons_succ]) | (apply lexFg (j := 10) (d := 25) (b := false) rfl rfl rfl rfl; (· intro _; go_simp; (try go_bits); exact ⟨rfl, rfl⟩); simp only [Act.put, List.setIfInBounds_toArray, List.set_cons_zero, List.set_cons_succ])
          first | (apply lexN (j := 10) (d := 25) (b := false) rfl rfl rfl rfl; simp only [Act.put, List.setIfInBounds_toArray, List.set_cons_zero, List.set_cons_succ]) | (apply lexN' (j := 10) (d := 25) (b := false) rfl rfl rfl; simp only [Act.put, List.setIfInBounds_toArray, List.set_cons_zero, List.set_cons_succ]) | (apply lexFg (j := 10) (d := 25) (b := false) rfl rfl rfl rfl; (· intro _; go_simp; (try go_bits); exact ⟨rfl, rfl⟩); simp only [Act.put, List.setIfInBounds_toArray, List.set_cons_zero, List.set_cons_succ])
          first | (apply lexN (j := 10) (d := 25) (b := false) rfl rfl rfl rfl; simp only [Act.put, List.setIfInBounds_toArray, List.set_cons_zero, List.set_cons_succ]) | (apply lexN' (j := 10) (d := 25) (b := false) rfl rfl rfl; simp only [Act.put, List.setIfInBounds_toArray, List.set_cons_zero, List.set_cons_succ]) | (apply lexHg (j := 10) (d := 25) (b := false) rfl rfl rfl rfl; (· intro w' hw'; have hcc := cellsBelow hw'; go_simp; (try go_bits); exact ⟨rfl, hw'⟩); simp only [Act.put, List.setIfInBounds_toArray, List.set_cons_zero, List.set_cons_succ])
          first | (apply lexN (j := 10) (d := 25) (b := false) rfl rfl rfl rfl; simp only [Act.put, List.setIfInBounds_toArray, List.set_cons_zero, List.set_cons_succ]) | (apply lexN' (j := 10) (d := 25) (b := false) rfl rfl rfl; simp only [Act.put, List.setIfInBounds_toArray, List.set_cons_zero, List.set_cons_succ]) | (apply lexFg (j := 10) (d := 25) (b := false) rfl rfl rfl rfl; (· intro _; go_simp; (try go_bits); exact ⟨rfl, rfl⟩); simp only [Act.put, List.setIfInBounds_toArray, List.set_cons_zero, List.set_cons_succ])
          first | (apply lexN (j := 10) (d := 25) (b := false) rfl rfl rfl rfl; simp only [Act.put, List.setIfInBounds_toArray, List.set_cons_zero, List.set_cons_succ]) | (apply lexN' (j := 10) (d := 25) (b := false) rfl rfl rfl; simp only [Act.put, List.setIfInBounds_toArray, List.set_cons_zero, List.set_cons_succ]) | (apply lexFg (j := 10) (d := 25) (b := false) rfl rfl rfl rfl; (· intro _; go_simp; (try go_bits); exact ⟨rfl, rfl⟩); simp only [Act.put, List.setIfInBounds_toArray, List.set_cons_zero, List.set_cons_succ])
          first | (apply lexN (j := 10) (d := 25) (b := false) rfl rfl rfl rfl; simp only [Act.put, List.setIfInBounds_toArray, List.set_cons_zero, List.set_cons_succ]) | (apply lexN' (j := 10) (d := 25) (b := false) rfl rfl rfl; simp only [Act.put, List.setIfInBounds_toArray, List.set_cons_zero, List.set_cons_succ]) | (apply lexHg (j := 10) (d := 25) (b := false) rfl rfl rfl rfl; (· intro w' hw'; have hcc := cellsBelow hw'; go_simp; (try go_bits); exact ⟨rfl, hw'⟩); simp only [Act.put, List.setIfInBounds_toArray, List.set_cons_zero, List.set_cons_succ])
          first | (apply lexN (j := 10) (d := 25) (b := false) rfl rfl rfl rfl; simp only [Act.put, List.setIfInBounds_toArray, List.set_cons_zero, List.set_cons_succ]) | (apply lexN' (j := 10) (d := 25) (b := false) rfl rfl rfl; simp only [Act.put, List.setIfInBounds_toArray, List.set_cons_zero, List.set_cons_succ]) | (apply lexFg (j := 10) (d := 25) (b := false) rfl rfl rfl rfl; (· intro _; go_simp; (try go_bits); exact ⟨rfl, rfl⟩); simp only [Act.put, List.setIfInBounds_toArray, List.set_cons_zero, List.set_cons_succ])
          first | (apply lexN (j := 7) (d := 22) (b := true) rfl rfl rfl rfl; simp only [Act.put, List.setIfInBounds_toArray, List.set_cons_zero, List.set_cons_succ]) | (apply lexN' (j := 7) (d := 22) (b := true) rfl rfl rfl; simp only [Act.put, List.setIfInBounds_toArray, List.set_cons_zero, List.set_cons_succ]) | (apply lexFg (j := 7) (d := 22) (b := true) rfl rfl rfl rfl; (· intro _; go_simp; (try go_bits); exact ⟨rfl, rfl⟩); simp only [Act.put, List.setIfInBounds_toArray, List.set_cons_zero, List.set_cons_succ])
          apply lexF rfl; (· intro _; go_simp; (try go_bits); exact ⟨rfl, rfl⟩); simp only [Act.put, List.setIfInBounds_toArray, List.set_cons_zero, List.set_cons_succ]
          refine lexEnd (fun w2 hw2 => ?_)
          have hat2 := hat.below hw2
          have hTr2 := hTr.below hw2
          clear b0 b1 b2 g0 g1 s1
          have g0 := hTr2.at0 k hlt
          have g1 := hTr2.at1 k hlt
          have g2 := hTr2.at2 k hlt
          obtain ⟨b0, b1, b2⟩ := best_cells hat2.bst
          have hbf := best_free hat2.bst
          go_upto_region 5 with (fail)
          obtain ⟨W3, hW3, hat3⟩ : ∃ W3, W3 = ((w2.setCell ⟨w.heap.size + 1, 0, none⟩ (.int .u32 (L[k].a : Int))).setCell ⟨w.heap.size + 1, 1, none⟩ (.int .i64 (L[k].n : Int))).setCell ⟨w.heap.size + 1, 2, none⟩ (.int .i64 L[k].v) ∧ LookAt w W3 .nil ⟨L[k].a, L[k].n, L[k].v, true⟩ := ⟨_, rfl, hat2.set L[k].a L[k].n L[k].v⟩
          rw [← hW3]
          clear hW3 g0 g1 g2 b0 b1 b2 hbf
          go_wp2
          go_roundw
          case rel => exact ⟨k + 1, ⟨L[k].a, L[k].n, L[k].v, true⟩, by omega, by go_num, rfl, hid (HF.out.trans HE.out), hat3⟩
          case measure => simp [intOf]; omega
        | true =>
          by_cases hn : bn < L[k].n
          · have HE := hid (best_hit (b := ⟨ba, bn, bv, true⟩) hlt hcx (.inr hn))
            have hn1 : (bn : Int) < (L[k].n : Int) := by omega
            clear hcx hn
            apply lexF rfl; (· intro _; go_simp; (try go_bits); exact ⟨rfl, rfl⟩); simp only [Act.put, List.setIfInBounds_toArray, List.set_cons_zero, List.set_cons_succ]
            apply lexF rfl; (· intro _; go_simp; (try go_bits); exact ⟨rfl, rfl⟩); simp only [Act.put, List.setIfInBounds_toArray, List.set_cons_zero, List.set_cons_succ]
            apply lexF rfl; (· intro _; go_simp; (try go_bits); exact ⟨rfl, rfl⟩); simp only [Act.put, List.setIfInBounds_toArray, List.set_cons_zero, List.set_cons_succ]
            apply lexF rfl; (· intro _; go_simp; (try go_bits); exact ⟨rfl, rfl⟩); simp only [Act.put, List.setIfInBounds_toArray, List.set_cons_zero, List.set_cons_succ]
            apply lexH rfl; (· intro w' hw'; have hcc := cellsBelow hw'; go_simp; (try go_bits); exact ⟨rfl, hw'⟩); simp only [Act.put, List.setIfInBounds_toArray, List.set_cons_zero, List.set_cons_succ]
            apply lexF rfl; (· intro _; go_simp; (try go_bits); exact ⟨rfl, rfl⟩); simp only [Act.put, List.setIfInBounds_toArray, List.set_cons_zero, List.set_cons_succ]
            apply lexH rfl
            · intro w' hw'; go_simp; (try go_bits); refine (rcontains_any L[k].a L[k].n x _ hya hx).mono ?_; rintro e w'' ⟨rfl, hbb⟩; exact ⟨_, rfl, congrArg Value.bool HC.out, hw'.trans (hbb.mono hw'.size)⟩
            simp only [Act.put, List.setIfInBounds_toArray, List.set_cons_zero, List.set_cons_succ]
            apply lexF rfl; (· intro _; go_simp; (try go_bits); exact ⟨rfl, rfl⟩); simp only [Act.put, List.setIfInBounds_toArray, List.set_cons_zero, List.set_cons_succ]
            first | (apply lexN (j := 7) (d := 22) (b := true) rfl rfl rfl rfl; simp only [Act.put, List.setIfInBounds_toArray, List.set_cons_zero, List.set_cons_succ]) | (apply lexN' (j := 7) (d := 22) (b := true) rfl rfl rfl; simp only [Act.put, List.setIfInBounds_toArray, List.set_cons_zero, List.set_cons_succ]) | (apply lexFg (j := 7) (d := 22) (b := true) rfl rfl rfl rfl; (· intro _; go_simp; (try go_bits); exact ⟨rfl, rfl⟩); simp only [Act.put, List.setIfInBounds_toArray, List.set_cons_zero, List.set_cons_succ])
            first | (apply lexN (j := 7) (d := 22) (b := true) rfl rfl rfl rfl; simp only [Act.put, List.setIfInBounds_toArray, List.set_cons_zero, List.set_cons_succ]) | (apply lexN' (j := 7) (d := 22) (b := true) rfl rfl rfl; simp only [Act.put, List.setIfInBounds_toArray, List.set_cons_zero, List.set_cons_succ]) | (apply lexFg (j := 7) (d := 22) (b := true) rfl rfl rfl rfl; (· intro _; go_simp; (try go_bits); exact ⟨rfl, rfl⟩); simp only [Act.put, List.setIfInBounds_toArray, List.set_cons_zero, List.set_cons_succ])
            first | (apply lexN (j := 7) (d := 22) (b := true) rfl rfl rfl rfl; simp only [Act.put, List.setIfInBounds_toArray, List.set_cons_zero, List.set_cons_succ]) | (apply lexN' (j := 7) (d := 22) (b := true) rfl rfl rfl; simp only [Act.put, List.setIfInBounds_toArray, List.set_cons_zero, List.set_cons_succ]) | (apply lexFg (j := 7) (d := 22) (b := true) rfl rfl rfl rfl; (· intro _; go_simp; (try go_bits); exact ⟨rfl, rfl⟩); simp only [Act.put, List.setIfInBounds_toArray, List.set_cons_zero, List.set_cons_succ])
            first | (apply lexN (j := 10) (d := 25) (b := false) rfl rfl rfl rfl; simp only [Act.put, List.setIfInBounds_toArray, List.set_cons_zero, List.set_cons_succ]) | (apply lexN' (j := 10) (d := 25) (b := false) rfl rfl rfl; simp only [Act.put, List.setIfInBounds_toArray, List.set_cons_zero, List.set_cons_succ]) | (apply lexFg (j := 10) (d := 25) (b := false) rfl rfl rfl rfl; (· intro _; go_simp; (try go_bits); exact ⟨rfl, rfl⟩); simp only [Act.put, List.setIfInBounds_toArray, List.set_cons_zero, List.set_cons_succ])
            first | (apply lexN (j := 10) (d := 25) (b := false) rfl rfl rfl rfl; simp only [Act.put, List.setIfInBounds_toArray, List.set_cons_zero, List.set_cons_succ]) | (apply lexN' (j := 10) (d := 25) (b := false) rfl rfl rfl; simp only [Act.put, List.setIfInBounds_toArray, List.set_cons_zero, List.set_cons_succ]) | (apply lexFg (j := 10) (d := 25) (b := false) rfl rfl rfl rfl; (· intro _; go_simp; (try go_bits); exact ⟨rfl, rfl⟩); simp only [Act.put, List.setIfInBounds_toArray, List.set_cons_zero, List.set_cons_succ])
            first | (apply lexN (j := 10) (d := 25) (b := false) rfl rfl rfl rfl; simp only [Act.put, List.setIfInBounds_toArray, List.set_cons_zero, List.set_cons_succ]) | (apply lexN' (j := 10) (d := 25) (b := false) rfl rfl rfl; simp only [Act.put, List.setIfInBounds_toArray, List.set_cons_zero, List.set_cons_succ]) | (apply lexFg (j := 10) (d := 25) (b := false) rfl rfl rfl rfl; (· intro _; go_simp; (try go_bits); exact ⟨rfl, rfl⟩); simp only [Act.put, List.setIfInBounds_toArray, List.set_cons_zero, List.set_cons_succ])
            first | (apply lexN (j := 10) (d := 25) (b := false) rfl rfl rfl rfl; simp only [Act.put, List.setIfInBounds_toArray, List.set_cons_zero, List.set_cons_succ]) | (apply lexN' (j := 10) (d := 25) (b := false) rfl rfl rfl; simp only [Act.put, List.setIfInBounds_toArray, List.set_cons_zero, List.set_cons_succ]) | (apply lexFg (j := 10) (d := 25) (b := false) rfl rfl rfl rfl; (· intro _; go_simp; (try go_bits); exact ⟨rfl, rfl⟩); simp only [Act.put, List.setIfInBounds_toArray, List.set_cons_zero, List.set_cons_succ])
            first | (apply lexN (j := 10) (d := 25) (b := false) rfl rfl rfl rfl; simp only [Act.put, List.setIfInBounds_toArray, List.set_cons_zero, List.set_cons_succ]) | (apply lexN' (j := 10) (d := 25) (b := false) rfl rfl rfl; simp only [Act.put, List.setIfInBounds_toArray, List.set_cons_zero, List.set_cons_succ]) | (apply lexFg (j := 10) (d := 25) (b := false) rfl rfl rfl rfl; (· intro _; go_simp; (try go_bits); exact ⟨rfl, rfl⟩); simp only [Act.put, List.setIfInBounds_toArray, List.set_cons_zero, List.set_cons_succ])
            first | (apply lexN (j := 10) (d := 25) (b := false) rfl rfl rfl rfl; simp only [Act.put, List.setIfInBounds_toArray, List.set_cons_zero, List.set_cons_succ]) | (apply lexN' (j := 10) (d := 25) (b := false) rfl rfl rfl; simp only [Act.put, List.setIfInBounds_toArray, List.set_cons_zero, List.set_cons_succ]) | (apply lexHg (j := 10) (d := 25) (b := false) rfl rfl rfl rfl; (· intro w' hw'; have hcc := cellsBelow hw'; go_simp; (try go_bits); exact ⟨rfl, hw'⟩); simp only [Act.put, List.setIfInBounds_toArray, List.set_cons_zero, List.set_cons_succ])
            first | (apply lexN (j := 10) (d := 25) (b := false) rfl rfl rfl rfl; simp only [Act.put, List.setIfInBounds_toArray, List.set_cons_zero, List.set_cons_succ]) | (apply lexN' (j := 10) (d := 25) (b := false) rfl rfl rfl; simp only [Act.put, List.setIfInBounds_toArray, List.set_cons_zero, List.set_cons_succ]) | (apply lexFg (j := 10) (d := 25) (b := false) rfl rfl rfl rfl; (· intro _; go_simp; (try go_bits); exact ⟨rfl, rfl⟩); simp only [Act.put, List.setIfInBounds_toArray, List.set_cons_zero, List.set_cons_succ])
            first | (apply lexN (j := 10) (d := 25) (b := false) rfl rfl rfl rfl; simp only [Act.put, List.setIfInBounds_toArray, List.set_cons_zero, List.set_cons_succ]) | (apply lexN' (j := 10) (d := 25) (b := false) rfl rfl rfl; simp only [Act.put, List.setIfInBounds_toArray, List.set_cons_zero, List.set_cons_succ]) | (apply lexFg (j := 10) (d := 25) (b := false) rfl rfl rfl rfl; (· intro _; go_simp; (try go_bits); exact ⟨rfl, rfl⟩); simp only [Act.put, List.setIfInBounds_toArray, List.set_cons_zero, List.set_cons_succ])
            first | (apply lexN (j := 10) (d := 25) (b := false) rfl rfl rfl rfl; simp only [Act.put, List.setIfInBounds_toArray, List.set_cons_zero, List.set_cons_succ]) | (apply lexN' (j := 10) (d := 25) (b := false) rfl rfl rfl; simp only [Act.put, List.setIfInBounds_toArray, List.set_cons_zero, List.set_cons_succ]) | (apply lexHg (j := 10) (d := 25) (b := false) rfl rfl rfl rfl; (· intro w' hw'; have hcc := cellsBelow hw'; go_simp; (try go_bits); exact ⟨rfl, hw'⟩); simp only [Act.put, List.setIfInBounds_toArray, List.set_cons_zero, List.set_cons_succ])
            first | (apply lexN (j := 10) (d := 25) (b := false) rfl rfl rfl rfl; simp only [Act.put, List.setIfInBounds_toArray, List.set_cons_zero, List.set_cons_succ]) | (apply lexN' (j := 10) (d := 25) (b := false) rfl rfl rfl; simp only [Act.put, List.setIfInBounds_toArray, List.set_cons_zero, List.set_cons_succ]) | (apply lexFg (j := 10) (d := 25) (b := false) rfl rfl rfl rfl; (· intro _; go_simp; (try go_bits); exact ⟨rfl, rfl⟩); simp only [Act.put, List.setIfInBounds_toArray, List.set_cons_zero, List.set_cons_succ])
            first | (apply lexN (j := 7) (d := 22) (b := true) rfl rfl rfl rfl; simp only [Act.put, List.setIfInBounds_toArray, List.set_cons_zero, List.set_cons_succ]) | (apply lexN' (j := 7) (d := 22) (b := true) rfl rfl rfl; simp only [Act.put, List.setIfInBounds_toArray, List.set_cons_zero, List.set_cons_succ]) | (apply lexFg (j := 7) (d := 22) (b := true) rfl rfl rfl rfl; (· intro _; go_simp; (try go_bits); exact ⟨rfl, rfl⟩); simp only [Act.put, List.setIfInBounds_toArray, List.set_cons_zero, List.set_cons_succ])
            apply lexF rfl; (· intro _; go_simp; (try go_bits); exact ⟨rfl, rfl⟩); simp only [Act.put, List.setIfInBounds_toArray, List.set_cons_zero, List.set_cons_succ]
            refine lexEnd (fun w2 hw2 => ?_)
            have hat2 := hat.below hw2
            have hTr2 := hTr.below hw2
            clear b0 b1 b2 g0 g1 s1
            have g0 := hTr2.at0 k hlt
            have g1 := hTr2.at1 k hlt
            have g2 := hTr2.at2 k hlt
            obtain ⟨b0, b1, b2⟩ := best_cells hat2.bst
            have hbf := best_free hat2.bst
            go_upto_region 5 with (fail)
            obtain ⟨W3, hW3, hat3⟩ : ∃ W3, W3 = ((w2.setCell ⟨w.heap.size + 1, 0, none⟩ (.int .u32 (L[k].a : Int))).setCell ⟨w.heap.size + 1, 1, none⟩ (.int .i64 (L[k].n : Int))).setCell ⟨w.heap.size + 1, 2, none⟩ (.int .i64 L[k].v) ∧ LookAt w W3 .nil ⟨L[k].a, L[k].n, L[k].v, true⟩ := ⟨_, rfl, hat2.set L[k].a L[k].n L[k].v⟩
            rw [← hW3]
            clear hW3 g0 g1 g2 b0 b1 b2 hbf
            go_wp2
            go_roundw
            case rel => exact ⟨k + 1, ⟨L[k].a, L[k].n, L[k].v, true⟩, by omega, by go_num, rfl, hid (HF.out.trans HE.out), hat3⟩
            case measure => simp [intOf]; omega
          · have HE := hid (best_miss (x := x) (b := ⟨ba, bn, bv, true⟩) hlt (by simp; omega))
            have hn1 : ¬ (bn : Int) < (L[k].n : Int) := by omega
            clear hcx hn
            apply lexF rfl; (· intro _; go_simp; (try go_bits); exact ⟨rfl, rfl⟩); simp only [Act.put, List.setIfInBounds_toArray, List.set_cons_zero, List.set_cons_succ]
            apply lexF rfl; (· intro _; go_simp; (try go_bits); exact ⟨rfl, rfl⟩); simp only [Act.put, List.setIfInBounds_toArray, List.set_cons_zero, List.set_cons_succ]
            apply lexF rfl; (· intro _; go_simp; (try go_bits); exact ⟨rfl, rfl⟩); simp only [Act.put, List.setIfInBounds_toArray, List.set_cons_zero, List.set_cons_succ]
            apply lexF rfl; (· intro _; go_simp; (try go_bits); exact ⟨rfl, rfl⟩); simp only [Act.put, List.setIfInBounds_toArray, List.set_cons_zero, List.set_cons_succ]
            apply lexH rfl; (· intro w' hw'; have hcc := cellsBelow hw'; go_simp; (try go_bits); exact ⟨rfl, hw'⟩); simp only [Act.put, List.setIfInBounds_toArray, List.set_cons_zero, List.set_cons_succ]
            apply lexF rfl; (· intro _; go_simp; (try go_bits); exact ⟨rfl, rfl⟩); simp only [Act.put, List.setIfInBounds_toArray, List.set_cons_zero, List.set_cons_succ]
            apply lexH rfl
            · intro w' hw'; go_simp; (try go_bits); refine (rcontains_any L[k].a L[k].n x _ hya hx).mono ?_; rintro e w'' ⟨rfl, hbb⟩; exact ⟨_, rfl, congrArg Value.bool HC.out, hw'.trans (hbb.mono hw'.size)⟩
            simp only [Act.put, List.setIfInBounds_toArray, List.set_cons_zero, List.set_cons_succ]
            apply lexF rfl; (· intro _; go_simp; (try go_bits); exact ⟨rfl, rfl⟩); simp only [Act.put, List.setIfInBounds_toArray, List.set_cons_zero, List.set_cons_succ]
            first | (apply lexN (j := 7) (d := 22) (b := true) rfl rfl rfl rfl; simp only [Act.put, List.setIfInBounds_toArray, List.set_cons_zero, List.set_cons_succ]) | (apply lexN' (j := 7) (d := 22) (b := true) rfl rfl rfl; simp only [Act.put, List.setIfInBounds_toArray, List.set_cons_zero, List.set_cons_succ]) | (apply lexFg (j := 7) (d := 22) (b := true) rfl rfl rfl rfl; (· intro _; go_simp; (try go_bits); exact ⟨rfl, rfl⟩); simp only [Act.put, List.setIfInBounds_toArray, List.set_cons_zero, List.set_cons_succ])
            first | (apply lexN (j := 7) (d := 22) (b := true) rfl rfl rfl rfl; simp only [Act.put, List.setIfInBounds_toArray, List.set_cons_zero, List.set_cons_succ]) | (apply lexN' (j := 7) (d := 22) (b := true) rfl rfl rfl; simp only [Act.put, List.setIfInBounds_toArray, List.set_cons_zero, List.set_cons_succ]) | (apply lexFg (j := 7) (d := 22) (b := true) rfl rfl rfl rfl; (· intro _; go_simp; (try go_bits); exact ⟨rfl, rfl⟩); simp only [Act.put, List.setIfInBounds_toArray, List.set_cons_zero, List.set_cons_succ])
            first | (apply lexN (j := 7) (d := 22) (b := true) rfl rfl rfl rfl; simp only [Act.put, List.setIfInBounds_toArray, List.set_cons_zero, List.set_cons_succ]) | (apply lexN' (j := 7) (d := 22) (b := true) rfl rfl rfl; simp only [Act.put, List.setIfInBounds_toArray, List.set_cons_zero, List.set_cons_succ]) | (apply lexFg (j := 7) (d := 22) (b := true) rfl rfl rfl rfl; (· intro _; go_simp; (try go_bits); exact ⟨rfl, rfl⟩); simp only [Act.put, List.setIfInBounds_toArray, List.set_cons_zero, List.set_cons_succ])
            first | (apply lexN (j := 10) (d := 25) (b := false) rfl rfl rfl rfl; simp only [Act.put, List.setIfInBounds_toArray, List.set_cons_zero, List.set_cons_succ]) | (apply lexN' (j := 10) (d := 25) (b := false) rfl rfl rfl; simp only [Act.put, List.setIfInBounds_toArray, List.set_cons_zero, List.set_cons_succ]) | (apply lexFg (j := 10) (d := 25) (b := false) rfl rfl rfl rfl; (· intro _; go_simp; (try go_bits); exact ⟨rfl, rfl⟩); simp only [Act.put, List.setIfInBounds_toArray, List.set_cons_zero, List.set_cons_succ])
            first | (apply lexN (j := 10) (d := 25) (b := false) rfl rfl rfl rfl; simp only [Act.put, List.setIfInBounds_toArray, List.set_cons_zero, List.set_cons_succ]) | (apply lexN' (j := 10) (d := 25) (b := false) rfl rfl rfl; simp only [Act.put, List.setIfInBounds_toArray, List.set_cons_zero, List.set_cons_succ]) | (apply lexFg (j := 10) (d := 25) (b := false) rfl rfl rfl rfl; (· intro _; go_simp; (try go_bits); exact ⟨rfl, rfl⟩); simp only [Act.put, List.setIfInBounds_toArray, List.set_cons_zero, List.set_cons_succ])
            first | (apply lexN (j := 10) (d := 25) (b := false) rfl rfl rfl rfl; simp only [Act.put, List.setIfInBounds_toArray, List.set_cons_zero, List.set_cons_succ]) | (apply lexN' (j := 10) (d := 25) (b := false) rfl rfl rfl; simp only [Act.put, List.setIfInBounds_toArray, List.set_cons_zero, List.set_cons_succ]) | (apply lexFg (j := 10) (d := 25) (b := false) rfl rfl rfl rfl; (· intro _; go_simp; (try go_bits); exact ⟨rfl, rfl⟩); simp only [Act.put, List.setIfInBounds_toArray, List.set_cons_zero, List.set_cons_succ])
            first | (apply lexN (j := 10) (d := 25) (b := false) rfl rfl rfl rfl; simp only [Act.put, List.setIfInBounds_toArray, List.set_cons_zero, List.set_cons_succ]) | (apply lexN' (j := 10) (d := 25) (b := false) rfl rfl rfl; simp only [Act.put, List.setIfInBounds_toArray, List.set_cons_zero, List.set_cons_succ]) | (apply lexFg (j := 10) (d := 25) (b := false) rfl rfl rfl rfl; (· intro _; go_simp; (try go_bits); exact ⟨rfl, rfl⟩); simp only [Act.put, List.setIfInBounds_toArray, List.set_cons_zero, List.set_cons_succ])
            first | (apply lexN (j := 10) (d := 25) (b := false) rfl rfl rfl rfl; simp only [Act.put, List.setIfInBounds_toArray, List.set_cons_zero, List.set_cons_succ]) | (apply lexN' (j := 10) (d := 25) (b := false) rfl rfl rfl; simp only [Act.put, List.setIfInBounds_toArray, List.set_cons_zero, List.set_cons_succ]) | (apply lexFg (j := 10) (d := 25) (b := false) rfl rfl rfl rfl; (· intro _; go_simp; (try go_bits); exact ⟨rfl, rfl⟩); simp only [Act.put, List.setIfInBounds_toArray, List.set_cons_zero, List.set_cons_succ])
            first | (apply lexN (j := 10) (d := 25) (b := false) rfl rfl rfl rfl; simp only [Act.put, List.setIfInBounds_toArray, List.set_cons_zero, List.set_cons_succ]) | (apply lexN' (j := 10) (d := 25) (b := false) rfl rfl rfl; simp only [Act.put, List.setIfInBounds_toArray, List.set_cons_zero, List.set_cons_succ]) | (apply lexHg (j := 10) (d := 25) (b := false) rfl rfl rfl rfl; (· intro w' hw'; have hcc := cellsBelow hw'; go_simp; (try go_bits); exact ⟨rfl, hw'⟩); simp only [Act.put, List.setIfInBounds_toArray, List.set_cons_zero, List.set_cons_succ])
            first | (apply lexN (j := 10) (d := 25) (b := false) rfl rfl rfl rfl; simp only [Act.put, List.setIfInBounds_toArray, List.set_cons_zero, List.set_cons_succ]) | (apply lexN' (j := 10) (d := 25) (b := false) rfl rfl rfl; simp only [Act.put, List.setIfInBounds_toArray, List.set_cons_zero, List.set_cons_succ]) | (apply lexFg (j := 10) (d := 25) (b := false) rfl rfl rfl rfl; (· intro _; go_simp; (try go_bits); exact ⟨rfl, rfl⟩); simp only [Act.put, List.setIfInBounds_toArray, List.set_cons_zero, List.set_cons_succ])
            first | (apply lexN (j := 10) (d := 25) (b := false) rfl rfl rfl rfl; simp only [Act.put, List.setIfInBounds_toArray, List.set_cons_zero, List.set_cons_succ]) | (apply lexN' (j := 10) (d := 25) (b := false) rfl rfl rfl; simp only [Act.put, List.setIfInBounds_toArray, List.set_cons_zero, List.set_cons_succ]) | (apply lexFg (j := 10) (d := 25) (b := false) rfl rfl rfl rfl; (· intro _; go_simp; (try go_bits); exact ⟨rfl, rfl⟩); simp only [Act.put, List.setIfInBounds_toArray, List.set_cons_zero, List.set_cons_succ])
            first | (apply lexN (j := 10) (d := 25) (b := false) rfl rfl rfl rfl; simp only [Act.put, List.setIfInBounds_toArray, List.set_cons_zero, List.set_cons_succ]) | (apply lexN' (j := 10) (d := 25) (b := false) rfl rfl rfl; simp only [Act.put, List.setIfInBounds_toArray, List.set_cons_zero, List.set_cons_succ]) | (apply lexHg (j := 10) (d := 25) (b := false) rfl rfl rfl rfl; (· intro w' hw'; have hcc := cellsBelow hw'; go_simp; (try go_bits); exact ⟨rfl, hw'⟩); simp only [Act.put, List.setIfInBounds_toArray, List.set_cons_zero, List.set_cons_succ])
            first | (apply lexN (j := 10) (d := 25) (b := false) rfl rfl rfl rfl; simp only [Act.put, List.setIfInBounds_toArray, List.set_cons_zero, List.set_cons_succ]) | (apply lexN' (j := 10) (d := 25) (b := false) rfl rfl rfl; simp only [Act.put, List.setIfInBounds_toArray, List.set_cons_zero, List.set_cons_succ]) | (apply lexFg (j := 10) (d := 25) (b := false) rfl rfl rfl rfl; (· intro _; go_simp; (try go_bits); exact ⟨rfl, rfl⟩); simp only [Act.put, List.setIfInBounds_toArray, List.set_cons_zero, List.set_cons_succ])
            first | (apply lexN (j := 7) (d := 22) (b := true) rfl rfl rfl rfl; simp only [Act.put, List.setIfInBounds_toArray, List.set_cons_zero, List.set_cons_succ]) | (apply lexN' (j := 7) (d := 22) (b := true) rfl rfl rfl; simp only [Act.put, List.setIfInBounds_toArray, List.set_cons_zero, List.set_cons_succ]) | (apply lexFg (j := 7) (d := 22) (b := true) rfl rfl rfl rfl; (· intro _; go_simp; (try go_bits); exact ⟨rfl, rfl⟩); simp only [Act.put, List.setIfInBounds_toArray, List.set_cons_zero, List.set_cons_succ])
            apply lexF rfl; (· intro _; go_simp; (try go_bits); exact ⟨rfl, rfl⟩); simp only [Act.put, List.setIfInBounds_toArray, List.set_cons_zero, List.set_cons_succ]
            refine lexEnd (fun w2 hw2 => ?_)
            clear b0 b1 b2 g0 g1
            go_wp2
            go_roundw
            case rel => exact ⟨k + 1, ⟨ba, bn, bv, true⟩, by omega, by go_num, rfl, hid (HF.out.trans HE.out), hat.below hw2⟩
            case measure => simp [intOf]; omega
    · obtain rfl : k = L.length := by omega
      have HE := hid (show bestL x L ⟨0, 0, 0, false⟩ = bst by rw [HF.out, List.drop_length]; rfl)
      obtain ⟨b0, b1, b2⟩ := best_cells hat.bst
      obtain ⟨z0, z1, z2⟩ := zero_cells hat.res
      have hzf := zero_free hat.res
      go_wp2
      obtain ⟨WF, hWF, f0, f1, f2, f3⟩ := look_fin hat
      rw [← hWF]
      clear hWF
      refine bodyPost_ret (v := lookV bst) (by simp [results, Try.results18, go_sem, f0, f1, f2, lookV]) rfl ⟨by rw [HE.out], f3⟩

set_option maxHeartbeats 1000000 in
theorem rlook_nil (p : Option Addr) (c : Nat) (x : Nat) (w : World) :
    Calls Try.prog 18 #[.slice p 0 c, .int .u32 (x : Int)] w fun e w' => e = .returned (lookV ⟨0, 0, 0, false⟩) ∧ Below w.heap.size w w' := by
  go_enter Try.func18, Try.ntmps18
  go_wp2_with fail
  have HW := hid (show ∃ W1, W1 = (w.alloc (.cells #[.int .u32 0, .int .i64 0, .int .i64 0] 37)).alloc (.cells #[.int .u32 0, .int .i64 0, .int .i64 0] 37) ∧ LookAt w W1 .nil ⟨0, 0, 0, false⟩ by
    refine ⟨_, rfl, (Below.heap_alloc _ _ _ (by simp)).trans (heap_alloc_at w _), ?_, trivial, ((Below.refl _ w).alloc (Nat.le_refl _) _).alloc (by simp) _, by simp⟩
    have := heap_alloc_at (w.alloc (.cells #[.int .u32 0, .int .i64 0, .int .i64 0] 37)) (.cells #[.int .u32 0, .int .i64 0, .int .i64 0] 37)
    rw [World.size_alloc] at this
    exact this)
  obtain ⟨W1, hW1, hat⟩ := HW.out
  rw [← hW1]
  clear hW1 HW
  go_loop [7, 8] (fun f i => i = .int .i64 0 ∧ f = .bool false) (fun _ _ => 0)
  case atStart => exact ⟨rfl, rfl⟩
  case round =>
    obtain ⟨rfl, rfl⟩ := hrel
    obtain ⟨b0, b1, b2⟩ := best_cells hat.bst
    dsimp only at b0 b1 b2
    obtain ⟨z0, z1, z2⟩ := zero_cells hat.res
    have hzf := zero_free hat.res
    go_wp2
    obtain ⟨WF, hWF, f0, f1, f2, f3⟩ := look_fin hat
    dsimp only at hWF f0 f1 f2
    rw [show ((0 : Nat) : Int) = 0 from rfl] at hWF f0 f1
    rw [← hWF]
    clear hWF
    refine bodyPost_ret (v := lookV ⟨0, 0, 0, false⟩) (by simp [results, Try.results18, go_sem, f0, f1, f2, lookV]) rfl ⟨rfl, f3⟩
theorem rlook_any (v : Value) (L : List Rt) (x : Nat) (w : World) (hT : TabV w v L) (hc : L.length ≤ 1000000) (hx : W32 x) (hL : ∀ y ∈ L, W32 y.a) :
    Calls Try.prog 18 #[v, .int .u32 (x : Int)] w fun e w' => e = .returned (lookV (bestL x L ⟨0, 0, 0, false⟩)) ∧ Below w.heap.size w w' := by
  by_cases h : L = []
  · subst h
    obtain ⟨p, c, rfl⟩ := tab_empty hT
    exact rlook_nil p c x w
  · obtain ⟨g, c, rfl, h, _⟩ := tab_some hT h
    exact rlook_some g c L x w h hc hx hL

end Go.Proofs.Ytklkldnpgecajaa
