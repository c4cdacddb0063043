/- The reference's table of routes: Same, Put. -/
import Derived.Test.YtklkldnpgecajaaRefA
import Derived.Test.YtklkldnpgecajaaLawC
namespace Go.Proofs.Ytklkldnpgecajaa
open Go.RowKit Go.Shelf

theorem tab_empty {W : World} {v : Value} (h : TabV W v []) : ∃ p c, v = .slice p 0 c :=
  h.elim (fun ⟨_, h⟩ => h) fun ⟨_, c, e, _⟩ => ⟨_, c, e⟩
theorem tab_some {W : World} {v : Value} {L : List Rt} (h : TabV W v L) (hL : L ≠ []) : ∃ g c, v = .slice (some ⟨g, 0, none⟩) L.length c ∧ TabIn W g L ∧ L.length ≤ c ∧ c ≤ 9223372036854775807 :=
  h.elim (fun ⟨e, _⟩ => absurd e hL) id

set_option maxHeartbeats 400000 in
theorem same_nil (p p' : Option Addr) (c c' : Nat) (w : World) :
    Calls Try.prog 12 #[.slice p 0 c, .slice p' 0 c'] w fun e w' => e = .returned (.bool true) ∧ Below w.heap.size w w' := by
  go_enter Try.func12, Try.ntmps12
  go_wp2
  go_loop [5] (fun i => i = .int .i64 0) (fun _ => 0)
  case atStart => rfl
  case round =>
    obtain rfl := hrel
    go_wp2
    go_ret
    exact ⟨rfl, Below.refl _ _⟩

set_option maxHeartbeats 1000000 in
theorem same_some (g c g' c' : Nat) (L : List Rt) (w : World) (hT : TabIn w g L) (hT' : TabIn w g' L) (hc : L.length ≤ 1000000) :
    Calls Try.prog 12 #[.slice (some ⟨g, 0, none⟩) L.length c, .slice (some ⟨g', 0, none⟩) L.length c'] w fun e w' => e = .returned (.bool true) ∧ Below w.heap.size w w' := by
  go_enter Try.func12, Try.ntmps12
  go_wp2_with fail
  have hgl := hT.lt
  have hgl' := hT'.lt
  go_loopw [5] (fun i wr => ∃ k : Nat, k ≤ L.length ∧ i = .int .i64 k ∧ Below w.heap.size w wr) (fun i _ => L.length - (intOf i).toNat)
  case atStart => exact ⟨0, Nat.zero_le _, rfl, Below.refl _ _⟩
  case round =>
    obtain ⟨k, hk, rfl, hbw⟩ := hrel
    by_cases hlt : k < L.length
    · have g0 := hT.at0 k hlt
      have g1 := hT.at1 k hlt
      have g2 := hT.at2 k hlt
      have g0' := hT'.at0 k hlt
      have g1' := hT'.at1 k hlt
      have g2' := hT'.at2 k hlt
      go_upto_region 6 with (fail)
      refine wp_region_staged (fun w' => Below w.heap.size w w') [0, 0, 0, 1, 0, 0, 0, 1, 0] (by kernel_rfl) (by kernel_rfl) (by kernel_rfl) (by exact hbw.drew) ?_
      apply lexF rfl; (· intro _; go_simp; (try go_bits); exact ⟨rfl, rfl⟩); simp only [Act.put, List.setIfInBounds_toArray, List.set_cons_zero, List.set_cons_succ]
      apply lexF rfl; (· intro _; go_simp; (try go_bits); exact ⟨rfl, rfl⟩); simp only [Act.put, List.setIfInBounds_toArray, List.set_cons_zero, List.set_cons_succ]
      apply lexF rfl; (· intro _; go_simp; (try go_bits); exact ⟨rfl, rfl⟩); simp only [Act.put, List.setIfInBounds_toArray, List.set_cons_zero, List.set_cons_succ]
      apply lexH rfl; (· intro w' hw'; have hcc := cellsBelow hw'; go_simp; (try go_bits); exact ⟨rfl, hw'⟩); simp only [Act.put, List.setIfInBounds_toArray, List.set_cons_zero, List.set_cons_succ]
      apply lexF rfl; (· intro _; go_simp; (try go_bits); exact ⟨rfl, rfl⟩); simp only [Act.put, List.setIfInBounds_toArray, List.set_cons_zero, List.set_cons_succ]
      apply lexF rfl; (· intro _; go_simp; (try go_bits); exact ⟨rfl, rfl⟩); simp only [Act.put, List.setIfInBounds_toArray, List.set_cons_zero, List.set_cons_succ]
      apply lexF rfl; (· intro _; go_simp; (try go_bits); exact ⟨rfl, rfl⟩); simp only [Act.put, List.setIfInBounds_toArray, List.set_cons_zero, List.set_cons_succ]
      apply lexH rfl; (· intro w' hw'; have hcc := cellsBelow hw'; go_simp; (try go_bits); exact ⟨rfl, hw'⟩); simp only [Act.put, List.setIfInBounds_toArray, List.set_cons_zero, List.set_cons_succ]
      apply lexF rfl; (· intro _; go_simp; (try go_bits); exact ⟨rfl, rfl⟩); simp only [Act.put, List.setIfInBounds_toArray, List.set_cons_zero, List.set_cons_succ]
      refine lexEnd (fun w2 hw2 => ?_)
      go_wp2
      go_roundw
      case rel => exact ⟨k + 1, by omega, by go_num, hw2⟩
      case measure => simp [intOf]; omega
    · obtain rfl : k = L.length := by omega
      go_wp2
      go_ret
      exact ⟨rfl, hbw⟩
theorem same_any (v v' : Value) (L : List Rt) (w : World) (hT : TabV w v L) (hT' : TabV w v' L) (hc : L.length ≤ 1000000) :
    Calls Try.prog 12 #[v, v'] w fun e w' => e = .returned (.bool true) ∧ Below w.heap.size w w' := by
  by_cases hL : L = []
  · subst hL
    obtain ⟨p, c, rfl⟩ := tab_empty hT
    obtain ⟨p', c', rfl⟩ := tab_empty hT'
    exact same_nil p p' c c' w
  · obtain ⟨g, c, rfl, h, _⟩ := tab_some hT hL
    obtain ⟨g', c', rfl, h', _⟩ := tab_some hT' hL
    exact same_some g c g' c' L w h h' hc

/-! ### Put -/
/-- A row of routes of one's own. -/
abbrev RowL (W : World) (base : Nat) (v : Value) (o : List Rt) : Prop := W.ownsRow base 37 3 v o.length (o.flatMap Rt.cells)
theorem row_snoc {W : World} {base : Nat} {v : Value} {o : List Rt} {x : Rt} (h : W.ownsRow base 37 3 v (o.length + 1) (o.flatMap Rt.cells ++ x.cells)) : RowL W base v (o ++ [x]) := by
  unfold RowL
  simpa [List.length_append, List.flatMap_append] using h
theorem row_step {B : Nat} {W1 wr w1 : World} {v : Value} {o : List Rt} {tmp : Obj} (hb : Below B W1 wr) (hrow : RowL wr B v o) (hB : B ≤ wr.heap.size) (hgrow : (wr.alloc tmp).grownBy w1 v.ownBlock) : Below B W1 w1 :=
  (hb.alloc hB tmp).grown hgrow (by simp; omega) fun k hk => (hrow.lt k hk).1
theorem one_rt (x : Rt) : ∀ u ∈ x.cells, u.oneCell' = true := by
  intro u hu; simp only [Rt.cells, List.mem_cons, List.not_mem_nil, or_false] at hu; rcases hu with rfl | rfl | rfl <;> rfl

theorem putL_is {r x : Rt} {l : List Rt} {d : Bool} (h : x.is r.a r.n) : putL r d (x :: l) = putL r d l := by rw [putL, if_pos h]
theorem putL_in {r x : Rt} {l : List Rt} (h : ¬ x.is r.a r.n) (hl : r.lt x) : putL r false (x :: l) = [r] ++ [x] ++ putL r true l := by rw [putL, if_neg h, if_pos ⟨rfl, hl⟩]; rfl
theorem putL_on {r x : Rt} {l : List Rt} {d : Bool} (h : ¬ x.is r.a r.n) (hl : ¬ (d = false ∧ r.lt x)) : putL r d (x :: l) = [x] ++ putL r d l := by rw [putL, if_neg h, if_neg hl]; rfl
theorem cmp_lt {r x : Rt} (h : r.lt x) : cmpI r.a r.n x.a x.n = -1 := by unfold Rt.lt at h; unfold cmpI; rw [if_pos (by omega)]
theorem cmp_ge {r x : Rt} (h : ¬ r.lt x) : 0 ≤ cmpI r.a r.n x.a x.n := by
  unfold Rt.lt at h; unfold cmpI; rw [if_neg (by omega)]; split <;> omega

/-- The head of a function that boxes a route. -/
theorem rt_box (a : Nat) (n v : Int) (w : World) :
    ∃ W1, W1 = w.alloc (.cells #[.int .u32 (a : Int), .int .i64 n, .int .i64 v] 37) ∧ W1.heap.size = w.heap.size + 1 ∧
      W1.heap[w.heap.size]? = some (.cells #[.int .u32 (a : Int), .int .i64 n, .int .i64 v] 37) ∧ Below w.heap.size w W1 :=
  ⟨_, rfl, World.size_alloc _ _, heap_alloc_at _ _, (Below.refl _ _).alloc (Nat.le_refl _) _⟩

set_option maxHeartbeats 1000000 in
theorem rput_bad (v : Value) (a : Nat) (n rv : Int) (w : World) (ha : W32 a) (hv : vld a n = false) :
    Calls Try.prog 47 #[v, .agg #[.int .u32 (a : Int), .int .i64 n, .int .i64 rv]] w fun e w' => e = .returned (.tuple #[v, .int .i64 1]) ∧ Below w.heap.size w w' := by
  have HV := hid (fun w1 => rvalid_any a n w1 ha)
  rw [hv] at HV
  clear hv
  go_enter Try.func47, Try.ntmps47
  go_wp2_with fail
  obtain ⟨W1, hW1, hsz, kB, hWb⟩ := rt_box a n rv w
  rw [← hW1]
  have hB1 : w.heap.size < W1.heap.size := by omega
  clear hW1 hsz
  have d0 := cell_of_box3 kB
  go_wp2_with (go_at_call 27; refine (HV.out _).mono ?_; rintro e w2 ⟨rfl, hw2⟩)
  go_ret2
  exact ⟨rfl, hWb.trans (hw2.mono (by omega))⟩

end Go.Proofs.Ytklkldnpgecajaa
