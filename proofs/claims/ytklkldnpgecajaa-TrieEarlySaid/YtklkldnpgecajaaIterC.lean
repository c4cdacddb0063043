/- routes and Under: a range over All that collects. -/
import Derived.Test.YtklkldnpgecajaaIterB
import Derived.Maps.AppendAt
namespace Go.Proofs.Ytklkldnpgecajaa
open Go.RowKit Go.Shelf
attribute [local go_sem] Oper.semAt_some

def Rt.cells (x : Rt) : List Value := [.int .u32 (x.a : Int), .int .i64 (x.n : Int), .int .i64 x.v]
theorem rt_enc (x : Rt) : Rt.enc x = .agg x.cells.toArray := rfl
theorem rtcells_len (l : List Rt) : (l.flatMap Rt.cells).length = l.length * 3 := by
  induction l with
  | nil => rfl
  | cons x l ih => simp [List.flatMap_cons, ih, Rt.cells]; omega
theorem rt_one {l : List Rt} : ∀ u ∈ l.flatMap Rt.cells, u.oneCell' = true := by
  intro u hu
  simp only [List.mem_flatMap, Rt.cells, List.mem_cons, List.not_mem_nil, or_false] at hu
  obtain ⟨x, _, rfl | rfl | rfl⟩ := hu <;> rfl

/-- Block B is of cells of a type, as they stand. -/
def Blk (W : World) (B : Nat) (vs : Array Value) (t : TypeId) : Prop := W.heap[B]? = some (.cells vs t (0, 0))
theorem Blk.lt {W : World} {B : Nat} {vs : Array Value} {t : TypeId} (h : Blk W B vs t) : B < W.heap.size := (Array.getElem?_eq_some_iff.1 h).1
theorem Blk.kept {W W' : World} {row : Option Nat} {B : Nat} {vs : Array Value} {t : TypeId} (h : Blk W B vs t) (hg : W.grownBy W' row) (hne : some B ≠ row) : Blk W' B vs t := (hg.block B h.lt hne).trans h
theorem Blk.alloc {W : World} {B : Nat} {vs : Array Value} {t : TypeId} (h : Blk W B vs t) (o : Obj) : Blk (W.alloc o) B vs t := h.kept (World.grownBy_alloc W o none) (by simp)
theorem Blk.new (W : World) (t : TypeId) (vs : Array Value) : Blk (W.alloc (.cells vs t)) W.heap.size vs t := World.alloc_heap_new W _
theorem blk_own {β : Type} (B : Nat) (t : TypeId) (f : β → Array Value) : Own (fun s W => Blk W B (f s) t) := fun s X Y row hs hg hrow =>
  hs.kept hg (fun e' => by obtain ⟨o, ho, hc⟩ := hrow B e'.symm; rw [show X.heap[B]? = _ from hs] at ho; cases ho; cases hc)
theorem infoR : (Try.prog.info? 37).map (fun i => (i.zero, i.size, i.bytes)) = some (some (.agg #[.int .u32 0, .int .i64 0, .int .i64 0]), 3, 24) := by kernel_rfl

theorem cells_new (W : World) (x : Rt) (t : TypeId) (j : Nat) (u : Value) (h : x.cells[j]? = some u) : (W.alloc (.cells x.cells.toArray t)).cell? ((⟨W.heap.size, 0, none⟩ : Addr).add j) = some u := by
  have he : (⟨W.heap.size, 0, none⟩ : Addr).add j = ⟨W.heap.size, j, none⟩ := by unfold Addr.add; split <;> simp_all
  rw [he]
  unfold World.cell?
  rw [World.alloc_heap_new]
  simpa using h

set_option maxRecDepth 100000 in
set_option maxHeartbeats 2000000 in
theorem routes_in (F : Fence) (hd : F.depth = none) (hF : ∀ f, F.fn f) (hro : F.round = none) (n : Nat) (hn : 3 ≤ n) (p0 : Option Addr) (L : List Rt) (w : World) (h : AllAt w.heap.size w p0 L) (hc : L.length ≤ 1000000) :
    CallsIn F n Try.prog 13 #[.pointer p0] w fun e w' => ∃ v, e = .returned v ∧ w'.ownsRow w.heap.size 37 3 v L.length (L.flatMap Rt.cells) ∧ Below w.heap.size w w' := by
  have h1 : 1 ≤ n := by omega
  obtain ⟨i0, hi, hz0, hz1, hz2⟩ := info_parts infoR
  refine callsIn_of_wp_marks Try.func13 rfl (hF _) ?_ hro
  simp only [Try.ntmps13, List.size_toArray, List.length_cons, List.length_nil, Nat.reduceAdd, Nat.reduceSub, Array.replicate_succ, Array.replicate_zero, List.push_toArray, List.append_toArray, List.nil_append, List.cons_append]
  have hdd : ∀ k : Nat, (F.depth.isSome = true → 1 ≤ k) := fun k h => by rw [hd] at h; cases h
  gi_wp2_with (gi_at_call 23; refine (all_in F (n - 1) (hF _) hro _ _).mono ?_; rintro e w' ⟨rfl, rfl⟩)
  rename_i Q K hK
  have hb := (cell_box (w.alloc (.cells #[.slice none 0 0] 25)) (.pointer p0) 24)
  rw [World.size_alloc] at hb
  obtain ⟨W1, hW1⟩ : ∃ W1, (w.alloc (.cells #[.slice none 0 0] 25)).alloc (.cells #[.pointer p0] 24) = W1 := ⟨_, rfl⟩
  have hsz : W1.heap.size = w.heap.size + 2 := by rw [← hW1]; simp
  have hB1 : Below w.heap.size w W1 := by rw [← hW1]; exact ((Below.refl _ w).alloc (Nat.le_refl _) _).alloc (by simp) _
  have hbox : Boxed W1 w.heap.size 25 (.slice none 0 0) := by rw [← hW1]; exact (Boxed.new w 25 _).alloc _
  rw [hW1] at hb ⊢
  clear hW1
  refine wpIn_rangeFunc_ownH hro h1 (gf := 41) (lb := #[.pointer (some ⟨w.heap.size + 1, 0, none⟩)]) rfl (hF _) (enters_of Try.func41 (by kernel_rfl) rfl)
    (all_stopsL F hd (n - 1) (hF _) (hF _) hro (w.heap.size + 1) w.heap.size p0 L W1 (by omega) (by omega) hb (h.below hB1)) belowK_t (belowK_b (by omega)) (Below.refl _ _) (fun _ => rfl)
    (fun pre W => (∃ v, Boxed W w.heap.size 25 v ∧ W.ownsRow w.heap.size 37 3 v pre.length (pre.flatMap Rt.cells) ∧ True) ∧ Below w.heap.size w W)
    (fun _ _ _ => False)
    (OwnFrom.and (Own.from (holdsRow_own w.heap.size w.heap.size 25 37 3 (fun pre : List Rt => pre.length) (fun pre => pre.flatMap Rt.cells) (fun _ _ => True)) _) (ownFrom_below (Nat.le_refl _) (by omega)))
    (fun _ _ _ _ _ hs _ _ => hs)
    ⟨⟨_, hbox, World.ownsRow_nil _ _ _ _, trivial⟩, hB1⟩
    (fun x a' W => ∃ Bx, w.heap.size < Bx ∧ Blk W Bx x.cells.toArray 37 ∧ a' = { tmps := #[.pointer p0, undef, .slice none 0 0, .pointer (some ⟨w.heap.size, 0, none⟩), .pointer (some ⟨Bx, 0, none⟩), .pointer p0, .func (.func 41) #[] #[.pointer (some ⟨w.heap.size + 1, 0, none⟩)], Rt.enc x, undef, undef, undef, undef, undef], defers := [] })
    (fun x a' s A B row hs hg hr => ?hax) ?assign ?body ?done ?stop
  case hax =>
    obtain ⟨Bx, e1, e2, e3⟩ := hs
    exact ⟨Bx, e1, e2.kept hg (fun e' => by obtain ⟨_, o, ho, hc⟩ := hr Bx e'.symm; rw [show A.heap[Bx]? = _ from e2] at ho; cases ho; cases hc), e3⟩
  case assign =>
    rintro l pre ⟨xa, xn, xv⟩ W K ⟨⟨v, hv, hrow, _⟩, hB⟩ hK
    simp only [Rt.enc] at hK ⊢
    gi_wp2
    exact hK _ _ ((KeepsOthers.alloc _ _).from _) ((Below.refl _ W).alloc hB.size _) ⟨⟨v, hv.alloc _, hrow.alloc _, trivial⟩, hB.alloc hB.size _⟩ ⟨W.heap.size, hv.lt, Blk.new W _ _, rfl⟩
  case body =>
    rintro l pre x a' W hl hr ⟨⟨v, hv, hrow, _⟩, hB⟩ ⟨Bx, hBx, hx, rfl⟩ hlt
    have hc1 := hv.cell
    have hf1 := hv.frozen
    obtain ⟨xa, xn, xv⟩ := x
    simp only [Rt.enc]
    have hx' := hid hx
    have c0 : W.cell? ⟨Bx, 0, none⟩ = some (.int .u32 (xa : Int)) := by simp [World.cell?, show W.heap[Bx]? = _ from hx, Rt.cells]
    have c1 : W.cell? ⟨Bx, 1, none⟩ = some (.int .i64 (xn : Int)) := by simp [World.cell?, show W.heap[Bx]? = _ from hx, Rt.cells]
    have c2 : W.cell? ⟨Bx, 2, none⟩ = some (.int .i64 xv) := by simp [World.cell?, show W.heap[Bx]? = _ from hx, Rt.cells]
    clear hx
    gi_wp2_with (gi_at_builtin; refine wpListIn_append_own _ rfl _ _ 25 rfl w.heap.size 37 i0 _ 3 24 Try.underlying25 hi hz0 hz1 hz2 rfl (by decide) _ _ _ rfl (hrow.alloc _) ⟨W.heap.size, 0, none⟩ 1 1 (Rt.cells ⟨xa, xn, xv⟩) rfl rfl (cells_new W ⟨xa, xn, xv⟩ _) (by intro u hu; simp only [Rt.cells, List.mem_cons, List.not_mem_nil, or_false] at hu; rcases hu with rfl | rfl | rfl <;> rfl) (by simp [maxLen]; omega) (by omega) (by have := hB.size; simp; omega) ?_; intro v' w1 hown' hgrow _; obtain ⟨g', cap', rfl⟩ := ownsRow_succ hown'; obtain ⟨hv1, hv2, hr2, hk2, hb2⟩ := hv.appended (by decide) hrow hB.size (Nat.le_refl _) hown' hgrow; have hc1' := hv1.cell; have hf1' := hv1.frozen)
    refine ⟨hk2.from _, hb2, ⟨⟨_, hv2, ?_, trivial⟩, hB.trans hb2⟩⟩
    simpa [List.length_append, List.flatMap_append] using hr2
  case done =>
    rintro D ys W hD rfl ⟨⟨v, hv, hrow, _⟩, hB⟩ hKD
    have hc1 := hv.cell
    have hf1 := hv.frozen
    refine hK _ _ ?_
    gi_wp2
    refine ⟨by simp, .inl ⟨_, _, rfl, run_takeDeferred hKD, ⟨_, results_tmp rfl _ _ _, _, rfl, ownsRow_putObj hrow _ hKD rfl, ?_⟩⟩⟩
    exact hB.trans (belowK_b (w := w) (Nat.le_refl _) W D _ _ (by omega) hKD rfl rfl)
  case stop =>
    rintro D c pre W _ _ h _
    exact h.elim

end Go.Proofs.Ytklkldnpgecajaa
