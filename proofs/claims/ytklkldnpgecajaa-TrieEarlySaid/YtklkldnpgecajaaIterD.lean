/- Under. -/
import Derived.Test.YtklkldnpgecajaaIterC
namespace Go.Proofs.Ytklkldnpgecajaa
open Go.RowKit Go.Shelf
attribute [local go_sem] Oper.semAt_some

/-- Of the routes that have come, those that a prefix covers. -/
def flt (pa : Nat) (pn : Int) (pre : List { x : Rt // W32 x.a }) : List Rt := (pre.map (·.1)).filter fun x => cvr pa pn x.a x.n
theorem grown_of_below {W W' : World} (h : Below W.heap.size W W') : W.grownBy W' none := ⟨h.os, h.tape, h.output, h.size, fun k hk _ => h.block k hk⟩

theorem row_kept_none {w w' : World} {base : Nat} {e : TypeId} {size n : Nat} {v : Value} {xs : List Value} (h : w.ownsRow base e size v n xs) (hg : w.grownBy w' none) : w'.ownsRow base e size v n xs :=
  h.kept hg (by
    rcases h.2 with ⟨rfl, _⟩ | ⟨g, cap, cur, rfl, _⟩
    · exact .inl rfl
    · exact .inr (by simp [Value.ownBlock]))
theorem row_mono {w : World} {base base' : Nat} {e : TypeId} {size n : Nat} {v : Value} {xs : List Value} (h : w.ownsRow base e size v n xs) (hb : base' ≤ base) : w.ownsRow base' e size v n xs :=
  ⟨h.1, h.2.elim .inl (fun ⟨g, cap, cur, hv, hg, r⟩ => .inr ⟨g, cap, cur, hv, Nat.le_trans hb hg, r⟩)⟩

set_option maxRecDepth 100000 in
set_option maxHeartbeats 2000000 in
theorem under_any (p0 : Option Addr) (L : List Rt) (w : World) (h : AllAt w.heap.size w p0 L) (hc : L.length ≤ 1000000) (hw : ∀ x ∈ L, W32 x.a) (pa : Nat) (pn : Int) (hpa : W32 pa) :
    Calls Try.prog 24 #[.pointer p0, .agg #[.int .u32 (pa : Int), .int .i64 pn]] w fun e w' => ∃ v, e = .returned v ∧ w'.ownsRow w.heap.size 37 3 v (L.filter fun x => cvr pa pn x.a x.n).length ((L.filter fun x => cvr pa pn x.a x.n).flatMap Rt.cells) ∧ Below w.heap.size w w' := by
  obtain ⟨i0, hi, hz0, hz1, hz2⟩ := info_parts infoR
  refine (callsIn_wide (n := 3)).1 ?_
  refine callsIn_of_wp_marks Try.func24 rfl trivial ?_ rfl
  simp only [Try.ntmps24, List.size_toArray, List.length_cons, List.length_nil, Nat.reduceAdd, Nat.reduceSub, Array.replicate_succ, Array.replicate_zero, List.push_toArray, List.append_toArray, List.nil_append, List.cons_append]
  gi_wp2_with (refine ⟨trivial, ?_⟩; gi_at_call 23; refine (all_in Fence.wide 2 trivial rfl _ _).mono ?_; rintro e w' ⟨rfl, rfl⟩)
  rename_i Q K hK
  have hb := (cell_box ((w.alloc (.cells #[.int .u32 (pa : Int), .int .i64 pn] 35)).alloc (.cells #[.slice none 0 0] 25)) (.pointer p0) 24)
  rw [World.size_alloc, World.size_alloc] at hb
  obtain ⟨W1, hW1⟩ : ∃ W1, ((w.alloc (.cells #[.int .u32 (pa : Int), .int .i64 pn] 35)).alloc (.cells #[.slice none 0 0] 25)).alloc (.cells #[.pointer p0] 24) = W1 := ⟨_, rfl⟩
  have hsz : W1.heap.size = w.heap.size + 3 := by rw [← hW1]; simp
  have hB1 : Below w.heap.size w W1 := by rw [← hW1]; exact (((Below.refl _ w).alloc (Nat.le_refl _) _).alloc (by simp) _).alloc (by simp; omega) _
  have hbox : Boxed W1 (w.heap.size + 1) 25 (.slice none 0 0) := by
    rw [← hW1]
    have := (Boxed.new (w.alloc (.cells #[.int .u32 (pa : Int), .int .i64 pn] 35)) 25 (.slice none 0 0)).alloc (.cells #[.pointer p0] 24)
    rwa [World.size_alloc] at this
  have hpb : Blk W1 w.heap.size #[.int .u32 (pa : Int), .int .i64 pn] 35 := by rw [← hW1]; exact ((Blk.new w _ _).alloc _).alloc _
  rw [hW1] at hb ⊢
  clear hW1
  refine wpIn_rangeFunc_ownH (n := 3) rfl (by omega) (gf := 41) (lb := #[.pointer (some ⟨w.heap.size + 1 + 1, 0, none⟩)]) rfl trivial (enters_of Try.func41 (by kernel_rfl) rfl)
    (all_stopsQ Fence.wide rfl 2 trivial trivial rfl (w.heap.size + 1 + 1) w.heap.size p0 L (fun x => W32 x.a) hw W1 (by omega) (by omega) hb (h.below hB1)) belowK_t (belowK_b (by omega)) (Below.refl _ _) (fun _ => rfl)
    (fun pre W => (Blk W w.heap.size #[.int .u32 (pa : Int), .int .i64 pn] 35 ∧ ∃ v, Boxed W (w.heap.size + 1) 25 v ∧ W.ownsRow (w.heap.size + 1) 37 3 v (flt pa pn pre).length ((flt pa pn pre).flatMap Rt.cells) ∧ True) ∧ Below w.heap.size w W)
    (fun _ _ _ => False)
    (OwnFrom.and (OwnFrom.and (Own.from (blk_own w.heap.size 35 (fun _ => #[.int .u32 (pa : Int), .int .i64 pn])) _) (Own.from (holdsRow_own (w.heap.size + 1) (w.heap.size + 1) 25 37 3 (fun pre : List { x : Rt // W32 x.a } => (flt pa pn pre).length) (fun pre => (flt pa pn pre).flatMap Rt.cells) (fun _ _ => True)) _)) (ownFrom_below (Nat.le_refl _) (by omega)))
    (fun _ _ _ _ _ hs _ _ => hs)
    ⟨⟨hpb, _, hbox, World.ownsRow_nil _ _ _ _, trivial⟩, hB1⟩
    (fun x a' W => ∃ Bx, w.heap.size + 1 < Bx ∧ Blk W Bx x.1.cells.toArray 37 ∧ a' = { tmps := #[.pointer p0, .agg #[.int .u32 (pa : Int), .int .i64 pn], undef, .pointer (some ⟨w.heap.size, 0, none⟩), .slice none 0 0, .pointer (some ⟨w.heap.size + 1, 0, none⟩), .pointer (some ⟨Bx, 0, none⟩), .pointer p0, .func (.func 41) #[] #[.pointer (some ⟨w.heap.size + 1 + 1, 0, none⟩)], Rt.enc x.1, undef, undef, undef, undef, undef, undef, undef, undef, undef], defers := [] })
    (fun x a' s A B row hs hg hr => ?hax) ?assign ?body ?done ?stop
  case hax =>
    obtain ⟨Bx, e1, e2, e3⟩ := hs
    exact ⟨Bx, e1, e2.kept hg (fun e' => by obtain ⟨_, o, ho, hc⟩ := hr Bx e'.symm; rw [show A.heap[Bx]? = _ from e2] at ho; cases ho; cases hc), e3⟩
  case assign =>
    rintro l pre ⟨⟨xa, xn, xv⟩, hx⟩ W K ⟨⟨hp, v, hv, hrow, _⟩, hB⟩ hK
    simp only [Rt.enc] at hK ⊢
    gi_wp2
    exact hK _ _ ((KeepsOthers.alloc _ _).from _) ((Below.refl _ W).alloc hB.size _) ⟨⟨hp.alloc _, v, hv.alloc _, hrow.alloc _, trivial⟩, hB.alloc hB.size _⟩ ⟨W.heap.size, hv.lt, Blk.new W _ _, rfl⟩
  case body =>
    rintro l pre ⟨⟨xa, xn, xv⟩, hxa⟩ a' W hl hr ⟨⟨hp, v, hv, hrow, _⟩, hB⟩ ⟨Bx, hBx, hx, rfl⟩ hlt
    simp only [Rt.enc]
    have p0 : W.cell? ⟨w.heap.size, 0, none⟩ = some (.int .u32 (pa : Int)) := by simp [World.cell?, show W.heap[w.heap.size]? = _ from hp]
    have p1 : W.cell? ⟨w.heap.size, 1, none⟩ = some (.int .i64 pn) := by simp [World.cell?, show W.heap[w.heap.size]? = _ from hp]
    have c0 : W.cell? ⟨Bx, 0, none⟩ = some (.int .u32 (xa : Int)) := by simp [World.cell?, show W.heap[Bx]? = _ from hx, Rt.cells]
    have c1 : W.cell? ⟨Bx, 1, none⟩ = some (.int .i64 (xn : Int)) := by simp [World.cell?, show W.heap[Bx]? = _ from hx, Rt.cells]
    have hfl : (flt pa pn pre).length ≤ pre.length := by unfold flt; exact Nat.le_trans (List.length_filter_le _ _) (by simp)
    have hC := (covers_any pa pn xa xn W hpa hxa).mono (R' := fun e W2 => e = .returned (.bool (cvr pa pn xa xn)) ∧ Below W.heap.size W W2 ∧ Boxed W2 (w.heap.size + 1) 25 v ∧ W2.cell? ⟨w.heap.size + 1, 0, none⟩ = some v ∧ W2.ownsRow (w.heap.size + 1) 37 3 v (flt pa pn pre).length ((flt pa pn pre).flatMap Rt.cells) ∧ Blk W2 w.heap.size #[.int .u32 (pa : Int), .int .i64 pn] 35 ∧ W2.cell? ⟨Bx, 0, none⟩ = some (.int .u32 (xa : Int)) ∧ W2.cell? ⟨Bx, 1, none⟩ = some (.int .i64 (xn : Int)) ∧ W2.cell? ⟨Bx, 2, none⟩ = some (.int .i64 xv))
      (fun e W2 ⟨he, hb2⟩ => by
        have hg := grown_of_below hb2
        have hx2 := hx.kept hg (by simp)
        have hv2 := hv.kept hg (by simp)
        refine ⟨he, hb2, hv2, hv2.cell, row_kept_none hrow hg, hp.kept hg (by simp), ?_, ?_, ?_⟩ <;> simp [World.cell?, show W2.heap[Bx]? = _ from hx2, Rt.cells])
    have hC' := hid hC
    clear hC hx hp hb 
    gi_wp2_with (first
      | ((try refine ⟨trivial, ?_⟩); gi_at_call 38; refine (CallsIn.inRound l (callsIn_wide.2 hC'.out)).mono ?_; clear hC'; rintro e W2 ⟨rfl, hb2, hv2, hc2, hrow2, hp2, d0, d1, d2⟩)
      | (gi_at_builtin; refine wpListIn_append_own _ rfl _ _ 25 rfl (w.heap.size + 1) 37 i0 _ 3 24 Try.underlying25 hi hz0 hz1 hz2 rfl (by decide) _ _ _ rfl (hrow2.alloc _) ⟨W2.heap.size, 0, none⟩ 1 1 (Rt.cells ⟨xa, xn, xv⟩) rfl rfl (cells_new W2 ⟨xa, xn, xv⟩ _) (by intro u hu; simp only [Rt.cells, List.mem_cons, List.not_mem_nil, or_false] at hu; rcases hu with rfl | rfl | rfl <;> rfl) (by simp [maxLen]; omega) (by omega) (by have := hv.lt; have := hb2.size; simp; omega) ?_; intro v' w1 hown' hgrow _; obtain ⟨g', cap', rfl⟩ := ownsRow_succ hown'; obtain ⟨hv1, hv2', hr2, hk2, hb3⟩ := hv2.appended (by decide) hrow2 (by have := hv.lt; have := hb2.size; omega) (Nat.le_refl _) hown' hgrow; have hc1' := hv1.cell; have hf1' := hv1.frozen))
    · have hy : cvr pa pn xa xn = true := by assumption
      have hKO := (KeepsOthers.of_grownBy (grown_of_below hb2) (by simp)).trans hk2
      have hBW := (hb2.mono hB.size).trans (hb3.mono (Nat.le_succ _))
      refine ⟨hKO.from _, hBW, ⟨⟨(hb3.block w.heap.size (Nat.lt_succ_self _)).trans hp2, _, hv2', ?_, trivial⟩, hB.trans hBW⟩⟩
      have e : flt pa pn (pre ++ [⟨⟨xa, xn, xv⟩, hxa⟩]) = flt pa pn pre ++ [⟨xa, xn, xv⟩] := by simp [flt, hy]
      rw [e]
      simpa [List.length_append, List.flatMap_append] using hr2
    · have hy : cvr pa pn xa xn = false := by assumption
      have e : flt pa pn (pre ++ [⟨⟨xa, xn, xv⟩, hxa⟩]) = flt pa pn pre := by simp [flt, hy]
      rw [← e] at hrow2
      exact ⟨(KeepsOthers.of_grownBy (grown_of_below hb2) (by simp)).from _, hb2.mono hB.size, ⟨⟨hp2, _, hv2, hrow2, trivial⟩, hB.trans (hb2.mono hB.size)⟩⟩
  case done =>
    rintro D ys W hD hys ⟨⟨hp, v, hv, hrow, _⟩, hB⟩ hKD
    have hc1 := hv.cell
    have hf1 := hv.frozen
    refine hK _ _ ?_
    gi_wp2
    refine ⟨by simp, .inl ⟨_, _, rfl, run_takeDeferred hKD, ⟨_, results_tmp rfl _ _ _, _, rfl, ?_, ?_⟩⟩⟩
    · have e : flt pa pn ys = L.filter fun x => cvr pa pn x.a x.n := by unfold flt; rw [hys]
      rw [← e]
      exact ownsRow_putObj (row_mono hrow (by omega)) _ hKD rfl
    · exact hB.trans (belowK_b (w := w) (Nat.le_refl _) W D _ _ (by omega) hKD rfl rfl)
  case stop =>
    rintro D c pre W _ _ h _
    exact h.elim

end Go.Proofs.Ytklkldnpgecajaa
