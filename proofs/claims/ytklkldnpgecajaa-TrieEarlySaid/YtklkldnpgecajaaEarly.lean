/- The walk of TrieEarly: a range over All that may be left early. -/
import Derived.Test.YtklkldnpgecajaaLaws
import Derived.Test.YtklkldnpgecajaaStageIn
namespace Go.Proofs.Ytklkldnpgecajaa
open Go.RowKit Go.Shelf
attribute [local go_sem] Oper.semAt_some

/-- The state of the range: the counter's box, the table's box, the table; how many routes have come. -/
structure EarlyAt (w2 : World) (B : Nat) (u : Value) (L : List Rt) (k : Nat) (W : World) : Prop where
  cnt : Boxed W (B + 1) 3 (.int .i64 (k : Int))
  ref : Blk W B #[u] 26
  old : Below B w2 W
/-- How the range may be left. -/
def EarlyX (w2 : World) (B : Nat) (u : Value) (L : List Rt) (n : Nat) (c : Code) (pre : List Rt) (W : World) : Prop :=
  ¬ pre <+: L ∨ (c = .exit 0 ∧ pre.length = n + 1 ∧ EarlyAt w2 B u L n W)

theorem early_box (n : Int) (w w1 : World) (h : Below ((w.alloc (.cells #[.int .i64 n] 3)).alloc (.cells #[.bool false] 4)).heap.size ((w.alloc (.cells #[.int .i64 n] 3)).alloc (.cells #[.bool false] 4)) w1) :
    Blk w1 w.heap.size #[.int .i64 n] 3 ∧ Blk w1 (w.heap.size + 1) #[.bool false] 4 ∧ Below w.heap.size w w1 ∧ w.heap.size + 2 ≤ w1.heap.size := by
  have hs : ((w.alloc (.cells #[.int .i64 n] 3)).alloc (.cells #[.bool false] 4)).heap.size = w.heap.size + 2 := by simp
  have h2 : Blk ((w.alloc (.cells #[.int .i64 n] 3)).alloc (.cells #[.bool false] 4)) (w.heap.size + 1) #[.bool false] 4 := by
    have := Blk.new (w.alloc (.cells #[.int .i64 n] 3)) 4 #[.bool false]
    rwa [World.size_alloc] at this
  refine ⟨(h.block _ (by omega)).trans ((Blk.new w 3 _).alloc _), (h.block _ (by omega)).trans h2, (((Below.refl _ w).alloc (Nat.le_refl _) _).alloc (by simp) _).trans (h.mono (by omega)), by have := h.size; omega⟩
theorem Blk.cell0 {W : World} {B : Nat} {x : Value} {t : TypeId} (h : Blk W B #[x] t) : W.cell? ⟨B, 0, none⟩ = some x := by simp [World.cell?, show W.heap[B]? = _ from h]

/-- The end: the result lies in its cell. -/
theorem early_fin {w w2 W : World} {B D : Nat} {u : Value} {L : List Rt} {k : Nat} (hE : EarlyAt w2 B u L k W) (kR : Blk W (w.heap.size + 1) #[.bool false] 4) (hKD : W.heap[D]? = some (.deferred (some []))) (hBD : B ≤ D) (hs : w.heap.size + 2 ≤ B) (hw : Below w.heap.size w w2) :
    (W.setCell ⟨w.heap.size + 1, 0, none⟩ (.bool true)).heap[D]? = some (.deferred (some [])) ∧ ((W.setCell ⟨w.heap.size + 1, 0, none⟩ (.bool true)).putObj D (.deferred none)).cell? ⟨w.heap.size + 1, 0, none⟩ = some (.bool true) ∧
      Below w.heap.size w ((W.setCell ⟨w.heap.size + 1, 0, none⟩ (.bool true)).putObj D (.deferred none)) := by
  have h1 : (W.setCell ⟨w.heap.size + 1, 0, none⟩ (.bool true)).heap[D]? = some (.deferred (some [])) := (setCell_far _ (by omega)).trans hKD
  have h2 : (W.setCell ⟨w.heap.size + 1, 0, none⟩ (.bool true)).heap[w.heap.size + 1]? = some (.cells #[.bool true] 4) := heap_setCell_at kR _
  refine ⟨h1, ?_, ?_⟩
  · have h3 : ((W.setCell ⟨w.heap.size + 1, 0, none⟩ (.bool true)).putObj D (.deferred none)).heap[w.heap.size + 1]? = some (.cells #[.bool true] 4) := (World.putObj_heap_other (by omega)).trans h2
    simp [World.cell?, h3]
  · exact ((hw.trans (hE.old.mono (by omega))).setCell (p := ⟨w.heap.size + 1, 0, none⟩) (by simp) _).trans (belowK_b (w := w) (Nat.le_refl _) _ D _ _ (by omega) h1 rfl rfl)

set_option maxRecDepth 100000 in
set_option maxHeartbeats 2000000 in
theorem early_any (v : Value) (ops : List Op) (n : Int) (w : World) (hO : OpsV w v ops) (hw : ∀ o ∈ ops, W32 o.a) :
    Calls Try.prog 7 #[v, .int .i64 n] w fun e w' => e = .returned (.bool true) ∧ Below w.heap.size w w' := by
  obtain ⟨p, c, rfl⟩ := ops_len hO
  have HB := hid (fun w1 (h : OpsV w1 (.slice p ops.length c) ops) (h1 : ops.length ≤ 80) => build_any _ ops w1 h h1 hw)
  clear hw
  by_cases hl : ops.length ≤ 80
  · by_cases hn : 0 ≤ n
    · obtain ⟨n, rfl⟩ := Int.eq_ofNat_of_zero_le hn
      refine (callsIn_wide (n := 3)).1 ?_
      refine callsIn_of_wp_marks Try.func7 rfl trivial ?_ rfl
      simp only [Try.ntmps7, List.size_toArray, List.length_cons, List.length_nil, Nat.reduceAdd, Nat.reduceSub, Array.replicate_succ, Array.replicate_zero, List.push_toArray, List.append_toArray, List.nil_append, List.cons_append]
      gi_wp2_with (first
        | (refine ⟨trivial, ?_⟩; gi_at_call 10; refine (callsIn_wide.2 (awake_any _)).mono ?_; rintro e w1 ⟨rfl, hb1⟩; obtain ⟨k1, k2, hw1, hs1⟩ := early_box _ w w1 hb1; clear hb1; have d0 := k1.cell0)
        | (refine ⟨trivial, ?_⟩; gi_at_call 11; refine (callsIn_wide.2 (HB.out _ (hO.below hw1) hl)).mono ?_; clear HB; rintro e w2 ⟨tb, t, u, rfl, hB, htl⟩; obtain ⟨q, c2, rfl⟩ := row_len hB.row)
        | (refine ⟨trivial, ?_⟩; gi_at_call 23; refine (all_in Fence.wide 2 trivial rfl _ _).mono ?_; rintro e w' ⟨rfl, rfl⟩))
      rename_i Q K hK
      have hbwp := hB.has.old
      have kn : Blk w2 w.heap.size #[.int .i64 (n : Int)] 3 := (hbwp.1.block _ k1.lt).trans k1
      have kr : Blk w2 (w.heap.size + 1) #[.bool false] 4 := (hbwp.1.block _ k2.lt).trans k2
      have hw2 : Below w.heap.size w w2 := hw1.trans (hbwp.1.mono (by omega))
      have hs2 : w.heap.size + 2 ≤ w2.heap.size := by omega
      have hAll := hB.has.all
      obtain ⟨B, hBd⟩ : ∃ B, w2.heap.size = B := ⟨_, rfl⟩
      obtain ⟨W1, hW1⟩ : ∃ W1, ((w2.alloc (.cells #[.slice q t.list.length c2] 26)).alloc (.cells #[.int .i64 0] 3)).alloc (.cells #[.pointer (some ⟨tb, 0, none⟩)] 24) = W1 := ⟨_, rfl⟩
      have hsz : W1.heap.size = B + 3 := by rw [← hW1, ← hBd]; simp
      have hB1 : Below B w2 W1 := by rw [← hW1, ← hBd]; exact (((Below.refl _ w2).alloc (Nat.le_refl _) _).alloc (by simp) _).alloc (by simp; omega) _
      have hb : W1.cell? ⟨B + 1 + 1, 0, none⟩ = some (.pointer (some ⟨tb, 0, none⟩)) := by
        have := cell_box ((w2.alloc (.cells #[.slice q t.list.length c2] 26)).alloc (.cells #[.int .i64 0] 3)) (.pointer (some ⟨tb, 0, none⟩)) 24
        rw [World.size_alloc, World.size_alloc, hBd, hW1] at this
        exact this
      have hcnt : Boxed W1 (B + 1) 3 (.int .i64 ((0 : Nat) : Int)) := by
        rw [← hW1, ← hBd]
        have := (Boxed.new (w2.alloc (.cells #[.slice q t.list.length c2] 26)) 3 (.int .i64 0)).alloc (.cells #[.pointer (some ⟨tb, 0, none⟩)] 24)
        rwa [World.size_alloc] at this
      have href : Blk W1 B #[.slice q t.list.length c2] 26 := by rw [← hW1, ← hBd]; exact ((Blk.new w2 26 _).alloc _).alloc _
      rw [hBd] at hAll hs2 ⊢
      rw [hW1]
      clear hW1
      have hE0 : EarlyAt w2 B (.slice q t.list.length c2) t.list 0 W1 := ⟨hcnt, href, hB1⟩
      have hTab := hB.tab
      clear hcnt href hbwp k1 k2 hw1 hs1
      refine wpIn_rangeFunc_ownH (n := 3) rfl (by omega) (gf := 41) (lb := #[.pointer (some ⟨B + 1 + 1, 0, none⟩)]) rfl trivial (enters_of Try.func41 (by kernel_rfl) rfl)
        (all_stopsL Fence.wide rfl 2 trivial trivial rfl (B + 1 + 1) B (some ⟨tb, 0, none⟩) t.list W1 (by omega) (by omega) hb (hAll.below hB1)) belowK_t (belowK_b (by omega)) (Below.refl _ _) (fun _ => rfl)
        (fun pre W => EarlyAt w2 B (.slice q t.list.length c2) t.list pre.length W ∧ pre.length ≤ n)
        (fun c pre W => EarlyX w2 B (.slice q t.list.length c2) t.list n c pre W)
        ?hI ?hIx ⟨hE0, Nat.zero_le _⟩
        (fun x a' W => ∃ Bx, B + 1 < Bx ∧ Blk W Bx x.cells.toArray 37 ∧ a' = { tmps := #[.slice p ops.length c, .int .i64 (n : Int), undef, .pointer (some ⟨w.heap.size, 0, none⟩), .pointer (some ⟨w.heap.size + 1, 0, none⟩), .pointer (some ⟨tb, 0, none⟩), .pointer (some ⟨B, 0, none⟩), .bool true, .pointer (some ⟨B + 1, 0, none⟩), .pointer (some ⟨Bx, 0, none⟩), .bool true, .bool false, .bool false, .slice p ops.length c, .int .i64 (ops.length : Int), .bool (decide ((80 : Int) < (ops.length : Int))), .bool (decide ((80 : Int) < (ops.length : Int))), .bool (decide ((80 : Int) < (ops.length : Int))), .int .i64 (n : Int), .bool (decide ((n : Int) < 0)), .bool (decide ((80 : Int) < (ops.length : Int)) || decide ((n : Int) < 0)), undef, .tuple #[.pointer (some ⟨tb, 0, none⟩), .slice q t.list.length c2, .bool true], .slice p ops.length c, .tuple #[.pointer (some ⟨tb, 0, none⟩), .slice q t.list.length c2, .bool true], .pointer (some ⟨tb, 0, none⟩), .slice q t.list.length c2, .bool true, .pointer (some ⟨tb, 0, none⟩), .func (.func 41) #[] #[.pointer (some ⟨B + 1 + 1, 0, none⟩)], Rt.enc x, undef, undef, undef, undef, undef, undef, undef, undef, undef, undef, undef, undef, undef, undef, undef, undef, undef, undef, undef, undef, undef, undef, undef, undef, undef, undef], defers := [] })
        (fun x a' s A B' row hs hg hr => ?hax) ?assign ?body ?done ?stop
      case hI =>
        exact fun s A C row hs hg hr => ⟨⟨(Own.from (boxed_own (B + 1) 3 fun (s : List Rt) => Value.int .i64 (s.length : Int)) _) s A C row hs.1.cnt hg hr, (Own.from (blk_own B 26 fun (_ : List Rt) => #[.slice q t.list.length c2]) _) s A C row hs.1.ref hg hr, (ownFrom_below (β := List Rt) (show B ≤ w2.heap.size by omega) (by omega)) s A C row hs.1.old hg hr⟩, hs.2⟩
      case hIx =>
        exact fun c s A C row hs hg hr => hs.imp id fun ⟨h1, h2, h3⟩ => ⟨h1, h2, ⟨(Own.from (boxed_own (B + 1) 3 fun (_ : List Rt) => Value.int .i64 (n : Int)) _) s A C row h3.cnt hg hr, (Own.from (blk_own B 26 fun (_ : List Rt) => #[.slice q t.list.length c2]) _) s A C row h3.ref hg hr, (ownFrom_below (β := List Rt) (show B ≤ w2.heap.size by omega) (by omega)) s A C row h3.old hg hr⟩⟩
      case hax =>
        obtain ⟨Bx, e1, e2, e3⟩ := hs
        exact ⟨Bx, e1, e2.kept hg (fun e' => by obtain ⟨_, o, ho, hc⟩ := hr Bx e'.symm; rw [show A.heap[Bx]? = _ from e2] at ho; cases ho; cases hc), e3⟩
      case assign =>
        rintro l pre ⟨xa, xn, xv⟩ W K ⟨hE, hle⟩ hK
        simp only [Rt.enc] at hK ⊢
        gi_wp2
        exact hK _ _ ((KeepsOthers.alloc _ _).from _) ((Below.refl _ W).alloc (by have := hE.old.size; omega) _) ⟨⟨hE.cnt.alloc _, hE.ref.alloc _, hE.old.alloc (by have := hE.old.size; omega) _⟩, hle⟩ ⟨W.heap.size, hE.cnt.lt, Blk.new W _ _, rfl⟩
      case body =>
        rintro l pre ⟨xa, xn, xv⟩ a' W hl hr ⟨hE, hle⟩ ⟨Bx, hBx, hx, rfl⟩ hlt
        simp only [Rt.enc]
        have ci := hE.cnt.cell
        have fi := hE.cnt.frozen
        have cr := hE.ref.cell0
        have cn := Blk.cell0 ((hE.old.block _ (by omega)).trans kn)
        by_cases hkn : pre.length = n
        · have hd : (((pre.length : Nat) : Int) == (n : Int)) = true := by rw [beq_iff_eq]; omega
          have HKN := hid hkn
          clear hkn
          gi_wp2
          exact ⟨KeepsFrom.refl _ _, .inr ⟨rfl, by simp [HKN.out], by have := HKN.out; rw [this] at hE; exact hE⟩⟩
        · have hd : (((pre.length : Nat) : Int) == (n : Int)) = false := by rw [beq_eq_false_iff_ne]; omega
          have HKN := hid hkn
          clear hkn
          have hL : t.list ≠ [] := fun e => by rw [e] at hlt; simp at hlt
          obtain ⟨gt, ct, hv, hT, _⟩ := tab_some hTab hL
          injection hv with e1 _ e3
          subst e1 e3
          have hgt : gt < B := by have := hT.lt; omega
          have t0 := (hE.old.cell (p := ⟨gt, pre.length * 3, none⟩) hgt).trans (hT.at0 _ hlt)
          have t1 := (hE.old.cell (p := ⟨gt, pre.length * 3 + 1, none⟩) hgt).trans (hT.at1 _ hlt)
          have t2 := (hE.old.cell (p := ⟨gt, pre.length * 3 + 2, none⟩) hgt).trans (hT.at2 _ hlt)
          have x0 : W.cell? ⟨Bx, 0, none⟩ = some (.int .u32 (xa : Int)) := by simp [World.cell?, show W.heap[Bx]? = _ from hx, Rt.cells]
          have x1 : W.cell? ⟨Bx, 1, none⟩ = some (.int .i64 (xn : Int)) := by simp [World.cell?, show W.heap[Bx]? = _ from hx, Rt.cells]
          have x2 : W.cell? ⟨Bx, 2, none⟩ = some (.int .i64 xv) := by simp [World.cell?, show W.heap[Bx]? = _ from hx, Rt.cells]
          have hlt' : ((pre.length : Nat) : Int) < (t.list.length : Int) := by omega
          have hge' : decide (t.list.length ≤ pre.length) = false := by simpa using hlt
          obtain ⟨⟨la, ln, lv⟩, hle'⟩ : ∃ r, t.list[pre.length] = r := ⟨_, rfl⟩
          rw [hle'] at t0 t1 t2
          dsimp only at t0 t1 t2
          have HLE := hid hle'
          have HX : ¬ (xa = la ∧ xn = ln ∧ xv = lv) → ¬ (pre ++ [(⟨xa, xn, xv⟩ : Rt)]) <+: t.list := fun h hp => by
            obtain ⟨s, hs⟩ := hp
            have h1 : t.list[pre.length]? = some (⟨xa, xn, xv⟩ : Rt) := by rw [← hs]; simp
            rw [List.getElem?_eq_getElem hlt, HLE.out] at h1
            simp only [Option.some.injEq, Rt.mk.injEq] at h1
            exact h ⟨h1.1.symm, h1.2.1.symm, h1.2.2.symm⟩
          have HX' := hid HX
          clear hle' HX
          have b1 : w.heap.size < W.heap.size := by have := hE.cnt.lt; omega
          have b1' : w.heap.size + 1 < W.heap.size := by have := hE.cnt.lt; omega
          have b2 : B < W.heap.size := hE.ref.lt
          have b3 : B + 1 < W.heap.size := hE.cnt.lt
          have b4 : Bx < W.heap.size := hx.lt
          have b5 : gt < W.heap.size := by omega
          have kR : Blk W (w.heap.size + 1) #[.bool false] 4 := (hE.old.block _ (by omega)).trans kr
          have cR := kR.cell0
          have fR : W.frozen? ⟨w.heap.size + 1, 0, none⟩ = false := by simp [World.frozen?, show W.heap[w.heap.size + 1]? = _ from kR]
          by_cases h1 : xa = la
          · subst h1
            by_cases h2 : xn = ln
            · subst h2
              by_cases h3 : xv = lv
              · subst h3
                gi_wp2
                refine wpIn_region_staged (wide_round _ _ _) (fun w' => Below W.heap.size W w') [1, 1, 0, 0, 0, 1, 1, 1, 0, 1, 0, 0] (by kernel_rfl) (by kernel_rfl) (by kernel_rfl) (by kernel_rfl) (by exact (Below.refl _ _).drew) ?_
                apply lexH rfl; (· intro w' hw'; have hcc := cellsBelow hw'; go_simp; (try go_bits); exact ⟨rfl, hw'⟩); simp only [Act.put, List.setIfInBounds_toArray, List.set_cons_zero, List.set_cons_succ]
                apply lexH rfl; (· intro w' hw'; have hcc := cellsBelow hw'; go_simp; (try go_bits); exact ⟨rfl, hw'⟩); simp only [Act.put, List.setIfInBounds_toArray, List.set_cons_zero, List.set_cons_succ]
                apply lexF rfl; (· intro _; go_simp; (try go_bits); exact ⟨rfl, rfl⟩); simp only [Act.put, List.setIfInBounds_toArray, List.set_cons_zero, List.set_cons_succ]
                apply lexF rfl; (· intro _; go_simp; (try go_bits); exact ⟨rfl, rfl⟩); simp only [Act.put, List.setIfInBounds_toArray, List.set_cons_zero, List.set_cons_succ]
                apply lexF rfl; (· intro _; go_simp; (try go_bits); exact ⟨rfl, rfl⟩); simp only [Act.put, List.setIfInBounds_toArray, List.set_cons_zero, List.set_cons_succ]
                first | (apply lexN (j := 4) (d := 38) (b := false) rfl rfl rfl rfl; simp only [Act.put, List.setIfInBounds_toArray, List.set_cons_zero, List.set_cons_succ]) | (apply lexN' (j := 4) (d := 38) (b := false) rfl rfl rfl; simp only [Act.put, List.setIfInBounds_toArray, List.set_cons_zero, List.set_cons_succ]) | (apply lexHg (j := 4) (d := 38) (b := false) rfl rfl rfl rfl; (· intro w' hw'; have hcc := cellsBelow hw'; go_simp; (try go_bits); exact ⟨rfl, hw'⟩); simp only [Act.put, List.setIfInBounds_toArray, List.set_cons_zero, List.set_cons_succ])
                first | (apply lexN (j := 4) (d := 38) (b := false) rfl rfl rfl rfl; simp only [Act.put, List.setIfInBounds_toArray, List.set_cons_zero, List.set_cons_succ]) | (apply lexN' (j := 4) (d := 38) (b := false) rfl rfl rfl; simp only [Act.put, List.setIfInBounds_toArray, List.set_cons_zero, List.set_cons_succ]) | (apply lexHg (j := 4) (d := 38) (b := false) rfl rfl rfl rfl; (· intro w' hw'; have hcc := cellsBelow hw'; go_simp; (try go_bits); exact ⟨rfl, hw'⟩); simp only [Act.put, List.setIfInBounds_toArray, List.set_cons_zero, List.set_cons_succ])
                first | (apply lexN (j := 4) (d := 38) (b := false) rfl rfl rfl rfl; simp only [Act.put, List.setIfInBounds_toArray, List.set_cons_zero, List.set_cons_succ]) | (apply lexN' (j := 4) (d := 38) (b := false) rfl rfl rfl; simp only [Act.put, List.setIfInBounds_toArray, List.set_cons_zero, List.set_cons_succ]) | (apply lexHg (j := 4) (d := 38) (b := false) rfl rfl rfl rfl; (· intro w' hw'; have hcc := cellsBelow hw'; go_simp; (try go_bits); exact ⟨rfl, hw'⟩); simp only [Act.put, List.setIfInBounds_toArray, List.set_cons_zero, List.set_cons_succ])
                first | (apply lexN (j := 4) (d := 38) (b := false) rfl rfl rfl rfl; simp only [Act.put, List.setIfInBounds_toArray, List.set_cons_zero, List.set_cons_succ]) | (apply lexN' (j := 4) (d := 38) (b := false) rfl rfl rfl; simp only [Act.put, List.setIfInBounds_toArray, List.set_cons_zero, List.set_cons_succ]) | (apply lexFg (j := 4) (d := 38) (b := false) rfl rfl rfl rfl; (· intro _; go_simp; (try go_bits); exact ⟨rfl, rfl⟩); simp only [Act.put, List.setIfInBounds_toArray, List.set_cons_zero, List.set_cons_succ])
                first | (apply lexN (j := 4) (d := 38) (b := false) rfl rfl rfl rfl; simp only [Act.put, List.setIfInBounds_toArray, List.set_cons_zero, List.set_cons_succ]) | (apply lexN' (j := 4) (d := 38) (b := false) rfl rfl rfl; simp only [Act.put, List.setIfInBounds_toArray, List.set_cons_zero, List.set_cons_succ]) | (apply lexHg (j := 4) (d := 38) (b := false) rfl rfl rfl rfl; (· intro w' hw'; have hcc := cellsBelow hw'; go_simp; (try go_bits); exact ⟨rfl, hw'⟩); simp only [Act.put, List.setIfInBounds_toArray, List.set_cons_zero, List.set_cons_succ])
                first | (apply lexN (j := 4) (d := 38) (b := false) rfl rfl rfl rfl; simp only [Act.put, List.setIfInBounds_toArray, List.set_cons_zero, List.set_cons_succ]) | (apply lexN' (j := 4) (d := 38) (b := false) rfl rfl rfl; simp only [Act.put, List.setIfInBounds_toArray, List.set_cons_zero, List.set_cons_succ]) | (apply lexFg (j := 4) (d := 38) (b := false) rfl rfl rfl rfl; (· intro _; go_simp; (try go_bits); exact ⟨rfl, rfl⟩); simp only [Act.put, List.setIfInBounds_toArray, List.set_cons_zero, List.set_cons_succ])
                apply lexF rfl; (· intro _; go_simp; (try go_bits); exact ⟨rfl, rfl⟩); simp only [Act.put, List.setIfInBounds_toArray, List.set_cons_zero, List.set_cons_succ]
                refine lexEnd (fun w3 hw3 => ?_)
                have hcc := cellsBelow hw3
                have hff := frozenBelow hw3
                gi_wp2
                have hE3 : EarlyAt w2 B (.slice (some ⟨gt, 0, none⟩) t.list.length c2) t.list pre.length w3 := ⟨hE.cnt.kept (grown_of_below hw3) (by simp), (hw3.block _ b2).trans hE.ref, hE.old.trans (hw3.mono (by omega))⟩
                refine ⟨((KeepsOthers.of_grownBy (grown_of_below hw3) (fun j o e => by cases e)).trans (KeepsOthers.setCell _ _ _)).from _, (hw3.mono (by omega)).setCell (p := ⟨B + 1, 0, none⟩) (by simp) _, ⟨?_, ?_, hE3.old.setCell (p := ⟨B + 1, 0, none⟩) (by simp) _⟩, ?_⟩
                · have := hE3.cnt.set (.int .i64 (((pre.length : Nat) : Int) + 1)); simpa using this
                · exact (setCell_far _ (by omega)).trans hE3.ref
                · have := HKN.out; simp; omega
              · have HB2 := HX'.out (fun h => h3 h.2.2)
                have hne : ¬ (xv = lv) := h3
                gi_wp2
                refine wpIn_region_staged (wide_round _ _ _) (fun w' => Below W.heap.size W w') [1, 1, 0, 0, 0, 1, 1, 1, 0, 1, 0, 0] (by kernel_rfl) (by kernel_rfl) (by kernel_rfl) (by kernel_rfl) (by exact (Below.refl _ _).drew) ?_
                apply lexH rfl; (· intro w' hw'; have hcc := cellsBelow hw'; go_simp; (try go_bits); exact ⟨rfl, hw'⟩); simp only [Act.put, List.setIfInBounds_toArray, List.set_cons_zero, List.set_cons_succ]
                apply lexH rfl; (· intro w' hw'; have hcc := cellsBelow hw'; go_simp; (try go_bits); exact ⟨rfl, hw'⟩); simp only [Act.put, List.setIfInBounds_toArray, List.set_cons_zero, List.set_cons_succ]
                apply lexF rfl; (· intro _; go_simp; (try go_bits); exact ⟨rfl, rfl⟩); simp only [Act.put, List.setIfInBounds_toArray, List.set_cons_zero, List.set_cons_succ]
                apply lexF rfl; (· intro _; go_simp; (try go_bits); exact ⟨rfl, rfl⟩); simp only [Act.put, List.setIfInBounds_toArray, List.set_cons_zero, List.set_cons_succ]
                apply lexF rfl; (· intro _; go_simp; (try go_bits); exact ⟨rfl, rfl⟩); simp only [Act.put, List.setIfInBounds_toArray, List.set_cons_zero, List.set_cons_succ]
                first | (apply lexN (j := 4) (d := 38) (b := false) rfl rfl rfl rfl; simp only [Act.put, List.setIfInBounds_toArray, List.set_cons_zero, List.set_cons_succ]) | (apply lexN' (j := 4) (d := 38) (b := false) rfl rfl rfl; simp only [Act.put, List.setIfInBounds_toArray, List.set_cons_zero, List.set_cons_succ]) | (apply lexHg (j := 4) (d := 38) (b := false) rfl rfl rfl rfl; (· intro w' hw'; have hcc := cellsBelow hw'; go_simp; (try go_bits); exact ⟨rfl, hw'⟩); simp only [Act.put, List.setIfInBounds_toArray, List.set_cons_zero, List.set_cons_succ])
                first | (apply lexN (j := 4) (d := 38) (b := false) rfl rfl rfl rfl; simp only [Act.put, List.setIfInBounds_toArray, List.set_cons_zero, List.set_cons_succ]) | (apply lexN' (j := 4) (d := 38) (b := false) rfl rfl rfl; simp only [Act.put, List.setIfInBounds_toArray, List.set_cons_zero, List.set_cons_succ]) | (apply lexHg (j := 4) (d := 38) (b := false) rfl rfl rfl rfl; (· intro w' hw'; have hcc := cellsBelow hw'; go_simp; (try go_bits); exact ⟨rfl, hw'⟩); simp only [Act.put, List.setIfInBounds_toArray, List.set_cons_zero, List.set_cons_succ])
                first | (apply lexN (j := 4) (d := 38) (b := false) rfl rfl rfl rfl; simp only [Act.put, List.setIfInBounds_toArray, List.set_cons_zero, List.set_cons_succ]) | (apply lexN' (j := 4) (d := 38) (b := false) rfl rfl rfl; simp only [Act.put, List.setIfInBounds_toArray, List.set_cons_zero, List.set_cons_succ]) | (apply lexHg (j := 4) (d := 38) (b := false) rfl rfl rfl rfl; (· intro w' hw'; have hcc := cellsBelow hw'; go_simp; (try go_bits); exact ⟨rfl, hw'⟩); simp only [Act.put, List.setIfInBounds_toArray, List.set_cons_zero, List.set_cons_succ])
                first | (apply lexN (j := 4) (d := 38) (b := false) rfl rfl rfl rfl; simp only [Act.put, List.setIfInBounds_toArray, List.set_cons_zero, List.set_cons_succ]) | (apply lexN' (j := 4) (d := 38) (b := false) rfl rfl rfl; simp only [Act.put, List.setIfInBounds_toArray, List.set_cons_zero, List.set_cons_succ]) | (apply lexFg (j := 4) (d := 38) (b := false) rfl rfl rfl rfl; (· intro _; go_simp; (try go_bits); exact ⟨rfl, rfl⟩); simp only [Act.put, List.setIfInBounds_toArray, List.set_cons_zero, List.set_cons_succ])
                first | (apply lexN (j := 4) (d := 38) (b := false) rfl rfl rfl rfl; simp only [Act.put, List.setIfInBounds_toArray, List.set_cons_zero, List.set_cons_succ]) | (apply lexN' (j := 4) (d := 38) (b := false) rfl rfl rfl; simp only [Act.put, List.setIfInBounds_toArray, List.set_cons_zero, List.set_cons_succ]) | (apply lexHg (j := 4) (d := 38) (b := false) rfl rfl rfl rfl; (· intro w' hw'; have hcc := cellsBelow hw'; go_simp; (try go_bits); exact ⟨rfl, hw'⟩); simp only [Act.put, List.setIfInBounds_toArray, List.set_cons_zero, List.set_cons_succ])
                first | (apply lexN (j := 4) (d := 38) (b := false) rfl rfl rfl rfl; simp only [Act.put, List.setIfInBounds_toArray, List.set_cons_zero, List.set_cons_succ]) | (apply lexN' (j := 4) (d := 38) (b := false) rfl rfl rfl; simp only [Act.put, List.setIfInBounds_toArray, List.set_cons_zero, List.set_cons_succ]) | (apply lexFg (j := 4) (d := 38) (b := false) rfl rfl rfl rfl; (· intro _; go_simp; (try go_bits); exact ⟨rfl, rfl⟩); simp only [Act.put, List.setIfInBounds_toArray, List.set_cons_zero, List.set_cons_succ])
                apply lexF rfl; (· intro _; go_simp; (try go_bits); exact ⟨rfl, rfl⟩); simp only [Act.put, List.setIfInBounds_toArray, List.set_cons_zero, List.set_cons_succ]
                refine lexEnd (fun w3 hw3 => ?_)
                have hcc := cellsBelow hw3
                have hff := frozenBelow hw3
                gi_wp2
                exact ⟨((KeepsOthers.of_grownBy (grown_of_below hw3) (fun j o e => by cases e)).trans (KeepsOthers.setCell _ _ _)).from _, .inl HB2⟩
            · have HB2 := HX'.out (fun h => h2 h.2.1)
              have hne : ¬ ((xn : Int) = (ln : Int)) := by omega
              gi_wp2
              refine wpIn_region_staged (wide_round _ _ _) (fun w' => Below W.heap.size W w') [1, 1, 0, 0, 0, 1, 1, 1, 0, 1, 0, 0] (by kernel_rfl) (by kernel_rfl) (by kernel_rfl) (by kernel_rfl) (by exact (Below.refl _ _).drew) ?_
              apply lexH rfl; (· intro w' hw'; have hcc := cellsBelow hw'; go_simp; (try go_bits); exact ⟨rfl, hw'⟩); simp only [Act.put, List.setIfInBounds_toArray, List.set_cons_zero, List.set_cons_succ]
              apply lexH rfl; (· intro w' hw'; have hcc := cellsBelow hw'; go_simp; (try go_bits); exact ⟨rfl, hw'⟩); simp only [Act.put, List.setIfInBounds_toArray, List.set_cons_zero, List.set_cons_succ]
              apply lexF rfl; (· intro _; go_simp; (try go_bits); exact ⟨rfl, rfl⟩); simp only [Act.put, List.setIfInBounds_toArray, List.set_cons_zero, List.set_cons_succ]
              apply lexF rfl; (· intro _; go_simp; (try go_bits); exact ⟨rfl, rfl⟩); simp only [Act.put, List.setIfInBounds_toArray, List.set_cons_zero, List.set_cons_succ]
              apply lexF rfl; (· intro _; go_simp; (try go_bits); exact ⟨rfl, rfl⟩); simp only [Act.put, List.setIfInBounds_toArray, List.set_cons_zero, List.set_cons_succ]
              first | (apply lexN (j := 4) (d := 38) (b := false) rfl rfl rfl rfl; simp only [Act.put, List.setIfInBounds_toArray, List.set_cons_zero, List.set_cons_succ]) | (apply lexN' (j := 4) (d := 38) (b := false) rfl rfl rfl; simp only [Act.put, List.setIfInBounds_toArray, List.set_cons_zero, List.set_cons_succ]) | (apply lexHg (j := 4) (d := 38) (b := false) rfl rfl rfl rfl; (· intro w' hw'; have hcc := cellsBelow hw'; go_simp; (try go_bits); exact ⟨rfl, hw'⟩); simp only [Act.put, List.setIfInBounds_toArray, List.set_cons_zero, List.set_cons_succ])
              first | (apply lexN (j := 4) (d := 38) (b := false) rfl rfl rfl rfl; simp only [Act.put, List.setIfInBounds_toArray, List.set_cons_zero, List.set_cons_succ]) | (apply lexN' (j := 4) (d := 38) (b := false) rfl rfl rfl; simp only [Act.put, List.setIfInBounds_toArray, List.set_cons_zero, List.set_cons_succ]) | (apply lexHg (j := 4) (d := 38) (b := false) rfl rfl rfl rfl; (· intro w' hw'; have hcc := cellsBelow hw'; go_simp; (try go_bits); exact ⟨rfl, hw'⟩); simp only [Act.put, List.setIfInBounds_toArray, List.set_cons_zero, List.set_cons_succ])
              first | (apply lexN (j := 4) (d := 38) (b := false) rfl rfl rfl rfl; simp only [Act.put, List.setIfInBounds_toArray, List.set_cons_zero, List.set_cons_succ]) | (apply lexN' (j := 4) (d := 38) (b := false) rfl rfl rfl; simp only [Act.put, List.setIfInBounds_toArray, List.set_cons_zero, List.set_cons_succ]) | (apply lexHg (j := 4) (d := 38) (b := false) rfl rfl rfl rfl; (· intro w' hw'; have hcc := cellsBelow hw'; go_simp; (try go_bits); exact ⟨rfl, hw'⟩); simp only [Act.put, List.setIfInBounds_toArray, List.set_cons_zero, List.set_cons_succ])
              first | (apply lexN (j := 4) (d := 38) (b := false) rfl rfl rfl rfl; simp only [Act.put, List.setIfInBounds_toArray, List.set_cons_zero, List.set_cons_succ]) | (apply lexN' (j := 4) (d := 38) (b := false) rfl rfl rfl; simp only [Act.put, List.setIfInBounds_toArray, List.set_cons_zero, List.set_cons_succ]) | (apply lexFg (j := 4) (d := 38) (b := false) rfl rfl rfl rfl; (· intro _; go_simp; (try go_bits); exact ⟨rfl, rfl⟩); simp only [Act.put, List.setIfInBounds_toArray, List.set_cons_zero, List.set_cons_succ])
              first | (apply lexN (j := 4) (d := 38) (b := false) rfl rfl rfl rfl; simp only [Act.put, List.setIfInBounds_toArray, List.set_cons_zero, List.set_cons_succ]) | (apply lexN' (j := 4) (d := 38) (b := false) rfl rfl rfl; simp only [Act.put, List.setIfInBounds_toArray, List.set_cons_zero, List.set_cons_succ]) | (apply lexHg (j := 4) (d := 38) (b := false) rfl rfl rfl rfl; (· intro w' hw'; have hcc := cellsBelow hw'; go_simp; (try go_bits); exact ⟨rfl, hw'⟩); simp only [Act.put, List.setIfInBounds_toArray, List.set_cons_zero, List.set_cons_succ])
              first | (apply lexN (j := 4) (d := 38) (b := false) rfl rfl rfl rfl; simp only [Act.put, List.setIfInBounds_toArray, List.set_cons_zero, List.set_cons_succ]) | (apply lexN' (j := 4) (d := 38) (b := false) rfl rfl rfl; simp only [Act.put, List.setIfInBounds_toArray, List.set_cons_zero, List.set_cons_succ]) | (apply lexFg (j := 4) (d := 38) (b := false) rfl rfl rfl rfl; (· intro _; go_simp; (try go_bits); exact ⟨rfl, rfl⟩); simp only [Act.put, List.setIfInBounds_toArray, List.set_cons_zero, List.set_cons_succ])
              apply lexF rfl; (· intro _; go_simp; (try go_bits); exact ⟨rfl, rfl⟩); simp only [Act.put, List.setIfInBounds_toArray, List.set_cons_zero, List.set_cons_succ]
              refine lexEnd (fun w3 hw3 => ?_)
              have hcc := cellsBelow hw3
              have hff := frozenBelow hw3
              gi_wp2
              exact ⟨((KeepsOthers.of_grownBy (grown_of_below hw3) (fun j o e => by cases e)).trans (KeepsOthers.setCell _ _ _)).from _, .inl HB2⟩
          · have HB2 := HX'.out (fun h => h1 h.1)
            have hne : ¬ ((xa : Int) = (la : Int)) := by omega
            gi_wp2
            refine wpIn_region_staged (wide_round _ _ _) (fun w' => Below W.heap.size W w') [1, 1, 0, 0, 0, 1, 1, 1, 0, 1, 0, 0] (by kernel_rfl) (by kernel_rfl) (by kernel_rfl) (by kernel_rfl) (by exact (Below.refl _ _).drew) ?_
            apply lexH rfl; (· intro w' hw'; have hcc := cellsBelow hw'; go_simp; (try go_bits); exact ⟨rfl, hw'⟩); simp only [Act.put, List.setIfInBounds_toArray, List.set_cons_zero, List.set_cons_succ]
            apply lexH rfl; (· intro w' hw'; have hcc := cellsBelow hw'; go_simp; (try go_bits); exact ⟨rfl, hw'⟩); simp only [Act.put, List.setIfInBounds_toArray, List.set_cons_zero, List.set_cons_succ]
            apply lexF rfl; (· intro _; go_simp; (try go_bits); exact ⟨rfl, rfl⟩); simp only [Act.put, List.setIfInBounds_toArray, List.set_cons_zero, List.set_cons_succ]
            apply lexF rfl; (· intro _; go_simp; (try go_bits); exact ⟨rfl, rfl⟩); simp only [Act.put, List.setIfInBounds_toArray, List.set_cons_zero, List.set_cons_succ]
            apply lexF rfl; (· intro _; go_simp; (try go_bits); exact ⟨rfl, rfl⟩); simp only [Act.put, List.setIfInBounds_toArray, List.set_cons_zero, List.set_cons_succ]
            first | (apply lexN (j := 4) (d := 38) (b := false) rfl rfl rfl rfl; simp only [Act.put, List.setIfInBounds_toArray, List.set_cons_zero, List.set_cons_succ]) | (apply lexN' (j := 4) (d := 38) (b := false) rfl rfl rfl; simp only [Act.put, List.setIfInBounds_toArray, List.set_cons_zero, List.set_cons_succ]) | (apply lexHg (j := 4) (d := 38) (b := false) rfl rfl rfl rfl; (· intro w' hw'; have hcc := cellsBelow hw'; go_simp; (try go_bits); exact ⟨rfl, hw'⟩); simp only [Act.put, List.setIfInBounds_toArray, List.set_cons_zero, List.set_cons_succ])
            first | (apply lexN (j := 4) (d := 38) (b := false) rfl rfl rfl rfl; simp only [Act.put, List.setIfInBounds_toArray, List.set_cons_zero, List.set_cons_succ]) | (apply lexN' (j := 4) (d := 38) (b := false) rfl rfl rfl; simp only [Act.put, List.setIfInBounds_toArray, List.set_cons_zero, List.set_cons_succ]) | (apply lexHg (j := 4) (d := 38) (b := false) rfl rfl rfl rfl; (· intro w' hw'; have hcc := cellsBelow hw'; go_simp; (try go_bits); exact ⟨rfl, hw'⟩); simp only [Act.put, List.setIfInBounds_toArray, List.set_cons_zero, List.set_cons_succ])
            first | (apply lexN (j := 4) (d := 38) (b := false) rfl rfl rfl rfl; simp only [Act.put, List.setIfInBounds_toArray, List.set_cons_zero, List.set_cons_succ]) | (apply lexN' (j := 4) (d := 38) (b := false) rfl rfl rfl; simp only [Act.put, List.setIfInBounds_toArray, List.set_cons_zero, List.set_cons_succ]) | (apply lexHg (j := 4) (d := 38) (b := false) rfl rfl rfl rfl; (· intro w' hw'; have hcc := cellsBelow hw'; go_simp; (try go_bits); exact ⟨rfl, hw'⟩); simp only [Act.put, List.setIfInBounds_toArray, List.set_cons_zero, List.set_cons_succ])
            first | (apply lexN (j := 4) (d := 38) (b := false) rfl rfl rfl rfl; simp only [Act.put, List.setIfInBounds_toArray, List.set_cons_zero, List.set_cons_succ]) | (apply lexN' (j := 4) (d := 38) (b := false) rfl rfl rfl; simp only [Act.put, List.setIfInBounds_toArray, List.set_cons_zero, List.set_cons_succ]) | (apply lexFg (j := 4) (d := 38) (b := false) rfl rfl rfl rfl; (· intro _; go_simp; (try go_bits); exact ⟨rfl, rfl⟩); simp only [Act.put, List.setIfInBounds_toArray, List.set_cons_zero, List.set_cons_succ])
            first | (apply lexN (j := 4) (d := 38) (b := false) rfl rfl rfl rfl; simp only [Act.put, List.setIfInBounds_toArray, List.set_cons_zero, List.set_cons_succ]) | (apply lexN' (j := 4) (d := 38) (b := false) rfl rfl rfl; simp only [Act.put, List.setIfInBounds_toArray, List.set_cons_zero, List.set_cons_succ]) | (apply lexHg (j := 4) (d := 38) (b := false) rfl rfl rfl rfl; (· intro w' hw'; have hcc := cellsBelow hw'; go_simp; (try go_bits); exact ⟨rfl, hw'⟩); simp only [Act.put, List.setIfInBounds_toArray, List.set_cons_zero, List.set_cons_succ])
            first | (apply lexN (j := 4) (d := 38) (b := false) rfl rfl rfl rfl; simp only [Act.put, List.setIfInBounds_toArray, List.set_cons_zero, List.set_cons_succ]) | (apply lexN' (j := 4) (d := 38) (b := false) rfl rfl rfl; simp only [Act.put, List.setIfInBounds_toArray, List.set_cons_zero, List.set_cons_succ]) | (apply lexFg (j := 4) (d := 38) (b := false) rfl rfl rfl rfl; (· intro _; go_simp; (try go_bits); exact ⟨rfl, rfl⟩); simp only [Act.put, List.setIfInBounds_toArray, List.set_cons_zero, List.set_cons_succ])
            apply lexF rfl; (· intro _; go_simp; (try go_bits); exact ⟨rfl, rfl⟩); simp only [Act.put, List.setIfInBounds_toArray, List.set_cons_zero, List.set_cons_succ]
            refine lexEnd (fun w3 hw3 => ?_)
            have hcc := cellsBelow hw3
            have hff := frozenBelow hw3
            gi_wp2
            exact ⟨((KeepsOthers.of_grownBy (grown_of_below hw3) (fun j o e => by cases e)).trans (KeepsOthers.setCell _ _ _)).from _, .inl HB2⟩
      case done =>
        rintro D ys W hD rfl ⟨hE, hle⟩ hKD
        have ci := hE.cnt.cell
        have cr := hE.ref.cell0
        have cn := Blk.cell0 ((hE.old.block _ (by omega)).trans kn)
        have kR : Blk W (w.heap.size + 1) #[.bool false] 4 := (hE.old.block _ (by omega)).trans kr
        have cR := kR.cell0
        have fR : W.frozen? ⟨w.heap.size + 1, 0, none⟩ = false := by simp [World.frozen?, show W.heap[w.heap.size + 1]? = _ from kR]
        refine hK _ _ ?_
        gi_wp2
        rw [show (((t.list.length : Nat) : Int) == min (n : Int) ((t.list.length : Nat) : Int)) = true by rw [beq_iff_eq]; omega]
        obtain ⟨e1, e2, e3⟩ := early_fin hE kR hKD (by omega) hs2 hw2
        refine ⟨by simp, .inl ⟨_, _, rfl, run_takeDeferred e1, ⟨_, (by simp [results, Try.results7, go_sem, e2]), rfl, e3⟩⟩⟩
      case stop =>
        rintro D c pre W hD hpre (hbad | ⟨rfl, hlen, hE⟩) hKD
        · exact absurd hpre hbad
        · have hln : n + 1 ≤ t.list.length := by have := hpre.length_le; omega
          have ci := hE.cnt.cell
          have cr := hE.ref.cell0
          have cn := Blk.cell0 ((hE.old.block _ (by omega)).trans kn)
          have kR : Blk W (w.heap.size + 1) #[.bool false] 4 := (hE.old.block _ (by omega)).trans kr
          have cR := kR.cell0
          have fR : W.frozen? ⟨w.heap.size + 1, 0, none⟩ = false := by simp [World.frozen?, show W.heap[w.heap.size + 1]? = _ from kR]
          gi_wp2
          rw [show (((n : Nat) : Int) == min (n : Int) ((t.list.length : Nat) : Int)) = true by rw [beq_iff_eq]; omega]
          obtain ⟨e1, e2, e3⟩ := early_fin hE kR hKD (by omega) hs2 hw2
          refine ⟨by simp, .inl ⟨_, _, rfl, run_takeDeferred e1, ⟨_, (by simp [results, Try.results7, go_sem, e2]), rfl, e3⟩⟩⟩
    · have hn' : n < 0 := by omega
      clear HB
      go_enter Try.func7, Try.ntmps7
      go_upto_region 2 with (go_at_call 10; refine (awake_any _).mono ?_; rintro e w1 ⟨rfl, hb1⟩; obtain ⟨k1, k2, hw1, hs1⟩ := early_box _ w w1 hb1; clear hb1; have d0 := k1.cell0)
      have k3 := fun (w2 : World) (hb2 : Below w1.heap.size w1 w2) => (hb2.block _ k2.lt).trans k2
      have K3 := hid k3
      clear k3 d0
      go_wp2_with (go_at_call 10; refine (awake_any _).mono ?_; rintro e w2 ⟨rfl, hb2⟩; have kW : w2.heap[w.heap.size + 1]? = _ := K3.out _ hb2; have cR := Blk.cell0 kW; have fR : w2.frozen? ⟨w.heap.size + 1, 0, none⟩ = false := by simp [World.frozen?, kW])
      have h2 : (w2.setCell ⟨w.heap.size + 1, 0, none⟩ (.bool true)).heap[w.heap.size + 1]? = some (.cells #[.bool true] 4) := heap_setCell_at kW _
      have c2' := Blk.cell0 h2
      refine bodyPost_ret (v := .bool true) (by simp [results, Try.results7, go_sem, c2']) rfl ⟨rfl, ?_⟩
      exact (hw1.trans (hb2.mono (by omega))).setCell (p := ⟨w.heap.size + 1, 0, none⟩) (by simp) _
  · have hl' : (80 : Int) < (ops.length : Int) := by omega
    clear HB
    go_enter Try.func7, Try.ntmps7
    go_upto_region 2 with (go_at_call 10; refine (awake_any _).mono ?_; rintro e w1 ⟨rfl, hb1⟩; obtain ⟨k1, k2, hw1, hs1⟩ := early_box _ w w1 hb1; clear hb1; have d0 := k1.cell0)
    have k3 := fun (w2 : World) (hb2 : Below w1.heap.size w1 w2) => (hb2.block _ k2.lt).trans k2
    have K3 := hid k3
    clear k3 d0
    go_wp2_with (go_at_call 10; refine (awake_any _).mono ?_; rintro e w2 ⟨rfl, hb2⟩; have kW : w2.heap[w.heap.size + 1]? = _ := K3.out _ hb2; have cR := Blk.cell0 kW; have fR : w2.frozen? ⟨w.heap.size + 1, 0, none⟩ = false := by simp [World.frozen?, kW])
    have h2 : (w2.setCell ⟨w.heap.size + 1, 0, none⟩ (.bool true)).heap[w.heap.size + 1]? = some (.cells #[.bool true] 4) := heap_setCell_at kW _
    have c2' := Blk.cell0 h2
    refine bodyPost_ret (v := .bool true) (by simp [results, Try.results7, go_sem, c2']) rfl ⟨rfl, ?_⟩
    exact (hw1.trans (hb2.mono (by omega))).setCell (p := ⟨w.heap.size + 1, 0, none⟩) (by simp) _

end Go.Proofs.Ytklkldnpgecajaa
