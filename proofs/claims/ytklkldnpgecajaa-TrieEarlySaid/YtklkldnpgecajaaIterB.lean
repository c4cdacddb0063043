/- Len, by the iterator's contract. -/
import Derived.Test.YtklkldnpgecajaaIterA
import Derived.Shelf.Lay
namespace Go.Proofs.Ytklkldnpgecajaa
open Go.RowKit Go.Shelf
attribute [local go_sem] Oper.semAt_some

theorem cell_box (w : World) (v : Value) (t : TypeId) : (w.alloc (.cells #[v] t)).cell? ⟨w.heap.size, 0, none⟩ = some v := (Boxed.new w t v).cell

set_option maxRecDepth 100000 in
set_option maxHeartbeats 2000000 in
theorem len_in (F : Fence) (hd : F.depth = none) (hF : ∀ f, F.fn f) (hro : F.round = none) (n : Nat) (hn : 3 ≤ n) (p0 : Option Addr) (L : List Rt) (w : World) (h : AllAt w.heap.size w p0 L) (hc : L.length ≤ 1000000) :
    CallsIn F n Try.prog 14 #[.pointer p0] w fun e w' => e = .returned (.int .i64 ((L.length : Nat) : Int)) ∧ Below w.heap.size w w' := by
  have h1 : 1 ≤ n := by omega
  refine callsIn_of_wp_marks Try.func14 rfl (hF _) ?_ hro
  simp only [Try.ntmps14, List.size_toArray, List.length_cons, List.length_nil, Nat.reduceAdd, Nat.reduceSub, Array.replicate_succ, Array.replicate_zero, List.push_toArray, List.append_toArray, List.nil_append, List.cons_append]
  have hdd : ∀ k : Nat, (F.depth.isSome = true → 1 ≤ k) := fun k h => by rw [hd] at h; cases h
  gi_wp2_with (gi_at_call 23; refine (all_in F (n - 1) (hF _) hro _ _).mono ?_; rintro e w' ⟨rfl, rfl⟩)
  rename_i Q K hK
  have hb := (cell_box (w.alloc (.cells #[.int .i64 0] 3)) (.pointer p0) 24)
  rw [World.size_alloc] at hb
  obtain ⟨W1, hW1⟩ : ∃ W1, (w.alloc (.cells #[.int .i64 0] 3)).alloc (.cells #[.pointer p0] 24) = W1 := ⟨_, rfl⟩
  have hsz : W1.heap.size = w.heap.size + 2 := by rw [← hW1]; simp
  have hB1 : Below w.heap.size w W1 := by rw [← hW1]; exact ((Below.refl _ w).alloc (Nat.le_refl _) _).alloc (by simp) _
  have hbox : Boxed W1 w.heap.size 3 (.int .i64 0) := by rw [← hW1]; exact (Boxed.new w 3 _).alloc _
  rw [hW1] at hb ⊢
  clear hW1
  refine wpIn_rangeFunc_ownH hro h1 (gf := 41) (lb := #[.pointer (some ⟨w.heap.size + 1, 0, none⟩)]) rfl (hF _) (enters_of Try.func41 (by kernel_rfl) rfl)
    (all_stopsL F hd (n - 1) (hF _) (hF _) hro (w.heap.size + 1) w.heap.size p0 L W1 (by omega) (by omega) hb (h.below hB1)) belowK_t (belowK_b (by omega)) (Below.refl _ _) (fun _ => rfl)
    (fun pre W => Boxed W w.heap.size 3 (.int .i64 (pre.length : Nat)) ∧ Below w.heap.size w W)
    (fun _ _ _ => False)
    (OwnFrom.and (Own.from (boxed_own _ _ _) _) (ownFrom_below (Nat.le_refl _) (by omega)))
    (fun _ _ _ _ _ hs _ _ => hs)
    ⟨hbox, hB1⟩
    (fun x a' W => a' = { tmps := #[.pointer p0, undef, .int .i64 0, .pointer (some ⟨w.heap.size, 0, none⟩), .pointer p0, .func (.func 41) #[] #[.pointer (some ⟨w.heap.size + 1, 0, none⟩)], Rt.enc x, undef, undef, undef], defers := [] }) (fun _ _ => ownFrom_pure _ _) ?assign ?body ?done ?stop
  case assign =>
    intro l pre x W K hi hK
    gi_wp2
    exact hK _ _ (KeepsFrom.refl _ _) (Below.refl _ _) hi (by simp)
  case body =>
    rintro l pre x a' W hl hr ⟨hbx, hB⟩ rfl hlt
    have hc1 := hbx.cell
    have hf1 := hbx.frozen
    gi_wp2
    refine ⟨(KeepsOthers.setCell _ _ _).from _, (Below.refl w.heap.size W).setCell (p := ⟨w.heap.size, 0, none⟩) (Nat.le_refl _) _, ?_, hB.setCell (p := ⟨w.heap.size, 0, none⟩) (Nat.le_refl _) _⟩
    rw [List.length_append]
    exact hbx.set _
  case done =>
    rintro D ys W hD rfl ⟨hbx, hB⟩ hKD
    have hc1 := hbx.cell
    have hf1 := hbx.frozen
    refine hK _ _ ?_
    gi_wp2
    refine ⟨by simp, .inl ⟨_, _, rfl, run_takeDeferred hKD, ⟨_, results_tmp rfl _ _ _, rfl, ?_⟩⟩⟩
    exact hB.trans (belowK_b (w := w) (Nat.le_refl _) W D _ _ (by omega) hKD rfl rfl)
  case stop =>
    rintro D c pre W _ _ h _
    exact h.elim

end Go.Proofs.Ytklkldnpgecajaa
