/- The reference's table of routes: Under; the functions for the number of nodes: meet, with. -/
import Derived.Test.YtklkldnpgecajaaRefF
namespace Go.Proofs.Ytklkldnpgecajaa
open Go.RowKit Go.Shelf

def undL (pa : Nat) (pn : Int) (l : List Rt) : List Rt := l.filter fun x => cvr pa pn x.a x.n
theorem und_step {pa : Nat} {pn : Int} {L : List Rt} {k : Nat} (h : k < L.length) : undL pa pn (L.take (k + 1)) = undL pa pn (L.take k) ++ (if cvr pa pn L[k].a L[k].n = true then [L[k]] else []) := by
  rw [List.take_succ_eq_append_getElem h]
  simp only [undL, List.filter_append, List.filter_cons, List.filter_nil]
theorem und_len (pa : Nat) (pn : Int) (L : List Rt) (k : Nat) : (undL pa pn (L.take k)).length ≤ k := by
  unfold undL
  exact Nat.le_trans (List.length_filter_le _ _) (by rw [List.length_take]; omega)

set_option maxHeartbeats 1000000 in
theorem runder_nil (p : Option Addr) (c : Nat) (pa : Nat) (pn : Int) (w : World) :
    Calls Try.prog 25 #[.slice p 0 c, .agg #[.int .u32 (pa : Int), .int .i64 pn]] w fun e w' => e = .returned (.slice none 0 0) ∧ Below w.heap.size w w' := by
  go_enter Try.func25, Try.ntmps25
  go_wp2
  go_loop [5, 6] (fun o i => o = .slice none 0 0 ∧ i = .int .i64 0) (fun _ _ => 0)
  case atStart => exact ⟨rfl, rfl⟩
  case round =>
    obtain ⟨rfl, rfl⟩ := hrel
    go_wp2
    go_ret
    exact ⟨rfl, (Below.refl _ _).alloc (Nat.le_refl _) _⟩

set_option maxRecDepth 100000 in
set_option maxHeartbeats 2000000 in
theorem runder_some (g c : Nat) (L : List Rt) (pa : Nat) (pn : Int) (w : World) (hT : TabIn w g L) (hc : L.length ≤ 1000000) (hpa : W32 pa) (hL : ∀ y ∈ L, W32 y.a) :
    Calls Try.prog 25 #[.slice (some ⟨g, 0, none⟩) L.length c, .agg #[.int .u32 (pa : Int), .int .i64 pn]] w fun e w' => ∃ v', e = .returned v' ∧ RowL w' w.heap.size v' (undL pa pn L) ∧ Below w.heap.size w w' := by
  obtain ⟨i0, hi, hz0, hz1, hz2⟩ := info_parts infoR
  have HL := hid hL
  clear hL
  go_enter Try.func25, Try.ntmps25
  go_wp2_with fail
  obtain ⟨W1, hW1, hsz, kB, hWb⟩ := box_head pa pn w
  have hT1 := hT.below hWb
  rw [← hW1]
  have hB1 : w.heap.size < W1.heap.size := by omega
  have hgl := hT1.lt
  clear hW1 hsz hT
  have d0 := cell_of_pfx kB
  go_loopw [5, 6] (fun ov i wr => ∃ k : Nat, k ≤ L.length ∧ i = .int .i64 k ∧ RowL wr W1.heap.size ov (undL pa pn (L.take k)) ∧ Below W1.heap.size W1 wr) (fun _ i _ => L.length - (intOf i).toNat)
  case atStart => exact ⟨0, Nat.zero_le _, rfl, World.ownsRow_nil _ _ _ _, Below.refl _ _⟩
  case round =>
    obtain ⟨k, hk, rfl, ho, hbw⟩ := hrel
    by_cases hlt : k < L.length
    · have g0 := hT1.at0 k hlt
      have g1 := hT1.at1 k hlt
      have g2 := hT1.at2 k hlt
      have hya := HL.out L[k] (List.getElem_mem hlt)
      have hul := und_len pa pn L k
      go_upto_region 5 with (fail)
      refine wp_region_staged (fun w' => Below wr.heap.size wr w') [1, 0, 0, 0, 0, 1, 1] (by kernel_rfl) (by kernel_rfl) (by kernel_rfl) (by exact (Below.refl _ _).drew) ?_
      cases hcv : cvr pa pn L[k].a L[k].n with
      | false =>
        have HC := hid hcv
        have HE := hid (und_step (pa := pa) (pn := pn) hlt)
        clear hcv
        apply lexH rfl; (· intro w' hw'; have hcc := cellsBelow (hbw.trans (hw'.mono hbw.size)); go_simp; (try go_bits); exact ⟨rfl, hw'⟩); simp only [Act.put, List.setIfInBounds_toArray, List.set_cons_zero, List.set_cons_succ]
        apply lexF rfl; (· intro _; go_simp; (try go_bits); exact ⟨rfl, rfl⟩); simp only [Act.put, List.setIfInBounds_toArray, List.set_cons_zero, List.set_cons_succ]
        apply lexF rfl; (· intro _; go_simp; (try go_bits); exact ⟨rfl, rfl⟩); simp only [Act.put, List.setIfInBounds_toArray, List.set_cons_zero, List.set_cons_succ]
        apply lexF rfl; (· intro _; go_simp; (try go_bits); exact ⟨rfl, rfl⟩); simp only [Act.put, List.setIfInBounds_toArray, List.set_cons_zero, List.set_cons_succ]
        apply lexF rfl; (· intro _; go_simp; (try go_bits); exact ⟨rfl, rfl⟩); simp only [Act.put, List.setIfInBounds_toArray, List.set_cons_zero, List.set_cons_succ]
        apply lexH rfl; (· intro w' hw'; have hcc := cellsBelow (hbw.trans (hw'.mono hbw.size)); go_simp; (try go_bits); exact ⟨rfl, hw'⟩); simp only [Act.put, List.setIfInBounds_toArray, List.set_cons_zero, List.set_cons_succ]
        apply lexH rfl
        · intro w' hw'; go_simp; (try go_bits); refine (rcovers_any pa pn L[k].a L[k].n _ hpa hya).mono ?_; rintro e w'' ⟨rfl, hbb⟩; exact ⟨_, rfl, congrArg Value.bool HC.out, hw'.trans (hbb.mono hw'.size)⟩
        simp only [Act.put, List.setIfInBounds_toArray, List.set_cons_zero, List.set_cons_succ]
        refine lexEnd (fun w2 hw2 => ?_)
        go_wp2
        go_roundw
        case rel => exact ⟨k + 1, by omega, by go_num, by rw [HE.out, if_neg (by rw [HC.out]; simp), List.append_nil]; exact row_kept_none ho (grown_of_below hw2), hbw.trans (hw2.mono hbw.size)⟩
        case measure => simp [intOf]; omega
      | true =>
        have HC := hid hcv
        have HE := hid (und_step (pa := pa) (pn := pn) hlt)
        clear hcv
        apply lexH rfl; (· intro w' hw'; have hcc := cellsBelow (hbw.trans (hw'.mono hbw.size)); go_simp; (try go_bits); exact ⟨rfl, hw'⟩); simp only [Act.put, List.setIfInBounds_toArray, List.set_cons_zero, List.set_cons_succ]
        apply lexF rfl; (· intro _; go_simp; (try go_bits); exact ⟨rfl, rfl⟩); simp only [Act.put, List.setIfInBounds_toArray, List.set_cons_zero, List.set_cons_succ]
        apply lexF rfl; (· intro _; go_simp; (try go_bits); exact ⟨rfl, rfl⟩); simp only [Act.put, List.setIfInBounds_toArray, List.set_cons_zero, List.set_cons_succ]
        apply lexF rfl; (· intro _; go_simp; (try go_bits); exact ⟨rfl, rfl⟩); simp only [Act.put, List.setIfInBounds_toArray, List.set_cons_zero, List.set_cons_succ]
        apply lexF rfl; (· intro _; go_simp; (try go_bits); exact ⟨rfl, rfl⟩); simp only [Act.put, List.setIfInBounds_toArray, List.set_cons_zero, List.set_cons_succ]
        apply lexH rfl; (· intro w' hw'; have hcc := cellsBelow (hbw.trans (hw'.mono hbw.size)); go_simp; (try go_bits); exact ⟨rfl, hw'⟩); simp only [Act.put, List.setIfInBounds_toArray, List.set_cons_zero, List.set_cons_succ]
        apply lexH rfl
        · intro w' hw'; go_simp; (try go_bits); refine (rcovers_any pa pn L[k].a L[k].n _ hpa hya).mono ?_; rintro e w'' ⟨rfl, hbb⟩; exact ⟨_, rfl, congrArg Value.bool HC.out, hw'.trans (hbb.mono hw'.size)⟩
        simp only [Act.put, List.setIfInBounds_toArray, List.set_cons_zero, List.set_cons_succ]
        refine lexEnd (fun w2 hw2 => ?_)
        have ho2 := row_kept_none ho (grown_of_below hw2)
        have hb2 := hbw.trans (hw2.mono hbw.size)
        clear ho hbw hw2
        have hcc := cellsBelow hb2
        go_wp2_with (at_builtin; refine wpList_append_own _ rfl _ _ 26 rfl W1.heap.size 37 i0 _ 3 24 Try.underlying26 hi hz0 hz1 hz2 rfl (by decide) _ _ _ rfl (ho2.alloc _) ⟨w2.heap.size, 0, none⟩ 1 1 (Rt.cells L[k]) rfl rfl (cells_new w2 L[k] _) (one_rt _) (by simp [maxLen]; omega) (by omega) (by have := hb2.size; simp; omega) ?_; intro v' w5 hown' hgrow _; have hb5 := row_step hb2 ho2 hb2.size hgrow; replace hown' := row_snoc hown')
        clear hcc
        go_roundw
        case rel => exact ⟨k + 1, by omega, by go_num, by rw [HE.out, if_pos HC.out]; exact hown', hb5⟩
        case measure => simp [intOf]; omega
    · obtain rfl : k = L.length := by omega
      rw [List.take_length] at ho
      go_wp2
      go_ret
      exact ⟨_, rfl, row_mono ho (by omega), hWb.trans (hbw.mono (by omega))⟩
theorem runder_any (v : Value) (L : List Rt) (pa : Nat) (pn : Int) (w : World) (hT : TabV w v L) (hc : L.length ≤ 1000000) (hpa : W32 pa) (hL : ∀ y ∈ L, W32 y.a) :
    Calls Try.prog 25 #[v, .agg #[.int .u32 (pa : Int), .int .i64 pn]] w fun e w' => ∃ v', e = .returned v' ∧ RowL w' w.heap.size v' (undL pa pn L) ∧ Below w.heap.size w w' := by
  by_cases h : L = []
  · subst h
    obtain ⟨p, c, rfl⟩ := tab_empty hT
    exact (runder_nil p c pa pn w).mono fun _ _ ⟨e, hb⟩ => ⟨_, e, World.ownsRow_nil _ _ _ _, hb⟩
  · obtain ⟨g, c, rfl, h, _⟩ := tab_some hT h
    exact runder_some g c L pa pn w h hc hpa hL

end Go.Proofs.Ytklkldnpgecajaa
