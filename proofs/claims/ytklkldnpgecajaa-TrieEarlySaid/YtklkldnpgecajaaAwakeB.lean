/- awake. -/
import Derived.Test.YtklkldnpgecajaaAwake
namespace Go.Proofs.Ytklkldnpgecajaa
open Go.RowKit Go.Shelf

theorem putX {n₀ tb : Nat} {w₀ w : World} {t : T} {S : List Nat} (h : Has n₀ w₀ w tb t S) (ra rn : Nat) (rv : Int) (a n v : Int) (t' : T) (ea : a = (ra : Int)) (en : n = (rn : Int)) (ev : v = rv) (hf : t.Fine) (hra : W32 ra) (hv : vld ra (rn : Int) = true) (ht : t.put ra rn rv = t') :
    Calls Try.prog 22 #[.pointer (some ⟨tb, 0, none⟩), .agg #[.int .u32 a, .int .i64 n, .int .i64 v]] w fun e w' => e = .returned (.int .i64 0) ∧ Has n₀ w₀ w' tb t' S := by
  subst ea en ev ht
  exact (has_putGood h ra rn v hf hra hv).mono fun _ _ ⟨e, h, _⟩ => ⟨e, h⟩
theorem lookX {n₀ tb : Nat} {w₀ w : World} {t : T} {S : List Nat} (h : Has n₀ w₀ w tb t S) (x : Nat) (a : Int) (ea : a = (x : Int)) (b : Best) (hf : t.Fine) (hx : W32 x) (hb : t.look x ⟨0, 0, 0, false⟩ = b) :
    Calls Try.prog 17 #[.pointer (some ⟨tb, 0, none⟩), .int .u32 a] w fun e w' => e = .returned (lookV b) ∧ Below w.heap.size w w' := by
  subst ea hb
  exact has_look h x hf hx

set_option maxRecDepth 100000 in
set_option maxHeartbeats 2000000 in
theorem awake_any (w : World) :
    Calls Try.prog 10 #[] w fun e w' => e = .returned (.bool true) ∧ Below w.heap.size w w' := by
  have R1 := hid route_1
  have R2 := hid route_2
  have R3 := hid route_3
  have L1 := hid (fun (w1 : World) (H : Has w.heap.size w w1 w.heap.size t3 []) => lookX H 167837701 167837701 rfl _ t3_fine (by unfold W32; decide) t3_look1)
  have L2 := hid (fun (w1 : World) (H : Has w.heap.size w w1 w.heap.size t3 []) => lookX H 168361984 168361984 rfl _ t3_fine (by unfold W32; decide) t3_look2)
  go_enter Try.func10, Try.ntmps10
  go_upto_region 9 with (first
    | (go_at_call 21; refine (has_new _).mono ?_; rintro e w1 ⟨rfl, H0, hb1, hl1⟩)
    | (go_at_call 28; refine (R1.out _).mono ?_; clear R1; rintro e w2 ⟨rfl, hb2⟩; replace H0 := H0.below hb2)
    | (go_at_call 22; refine (putX H0 167772160 8 1 _ _ _ t1 rfl rfl rfl trivial (by unfold W32; decide) (by decide +kernel) rfl).mono ?_; clear H0; rintro e w3 ⟨rfl, H1⟩)
    | (go_at_call 28; refine (R2.out _).mono ?_; clear R2; rintro e w4 ⟨rfl, hb4⟩; replace H1 := H1.below hb4)
    | (go_at_call 22; refine (putX H1 167837696 16 2 _ _ _ t2 rfl rfl rfl t1_fine (by unfold W32; decide) (by decide +kernel) rfl).mono ?_; clear H1; rintro e w5 ⟨rfl, H2⟩)
    | (go_at_call 28; refine (R3.out _).mono ?_; clear R3; rintro e w6 ⟨rfl, hb6⟩; replace H2 := H2.below hb6)
    | (go_at_call 22; refine (putX H2 167903232 16 3 _ _ _ t3 rfl rfl rfl t2_fine (by unfold W32; decide) (by decide +kernel) rfl).mono ?_; clear H2; rintro e w7 ⟨rfl, H3⟩)
    | (go_at_call 17; refine (L1.out _ H3).mono ?_; clear L1; rintro e w8 ⟨rfl, hb8⟩; replace H3 := H3.below hb8; simp only [lookV])
    | (go_at_call 17; refine (L2.out _ (H3.below ((Below.refl _ _).alloc (Nat.le_refl _) _))).mono ?_; clear L2; rintro e w9 ⟨rfl, hb9⟩; simp only [lookV])
    )
  obtain ⟨W, hW⟩ : ∃ W, W = w9.alloc (.cells #[.int .u32 167772160, .int .i64 8, .int .i64 1] 37) := ⟨_, rfl⟩
  have hb89 : Below w8.heap.size w8 w9 := ((Below.refl _ _).alloc (Nat.le_refl _) _).trans (hb9.mono (by simp))
  have hWb : Below w9.heap.size w9 W := by rw [hW]; exact (Below.refl _ _).alloc (Nat.le_refl _) _
  have H := H3.below (hb89.trans (hWb.mono hb89.size))
  have hlt : w8.heap.size < w9.heap.size := by have := hb9.size; simp at this; omega
  have kA : W.heap[w8.heap.size]? = some (.cells #[.int .u32 167837696, .int .i64 16, .int .i64 2] 37) := (hWb.block _ hlt).trans ((hb9.block _ (by simp)).trans (heap_alloc_at w8 _))
  have kB : W.heap[w9.heap.size]? = some (.cells #[.int .u32 167772160, .int .i64 8, .int .i64 1] 37) := by rw [hW]; exact heap_alloc_at w9 _
  rw [← hW]
  clear hW hb8 hb9 hb89 hWb H3 hlt
  obtain ⟨a0, a1, a2⟩ := cell_of_box3 kA
  obtain ⟨b0, b1, b2⟩ := cell_of_box3 kB
  go_wp2_with (first
    | (go_at_call 14; refine (len_any _ _ _ H.all (by rw [t3_len]; omega)).mono ?_; rintro e w10 ⟨rfl, hb10⟩; replace H := H.below hb10; rw [t3_len])
    | (go_at_call 15; refine (has_nodes H (by rw [t3_count]; omega)).mono ?_; rintro e w11 ⟨rfl, hb11⟩; replace H := H.below hb11; rw [t3_count])
    )
  go_ret
  obtain ⟨_, _, _, _, _, _, hB⟩ := H
  exact ⟨rfl, hB⟩

end Go.Proofs.Ytklkldnpgecajaa
