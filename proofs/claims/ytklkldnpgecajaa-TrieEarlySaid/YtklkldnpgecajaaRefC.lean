/- The reference's table of routes: Put. -/
import Derived.Test.YtklkldnpgecajaaRefB
namespace Go.Proofs.Ytklkldnpgecajaa
open Go.RowKit Go.Shelf

/-- The state of Put's loop. -/
structure PutAt (W1 : World) (r : Rt) (L : List Rt) (k : Nat) (d : Bool) (ov : Value) (wr : World) : Prop where
  row : ∃ o : List Rt, RowL wr W1.heap.size ov o ∧ o.length ≤ k + 1 ∧ (d = false → o.length ≤ k) ∧ putL r false L = o ++ putL r d (L.drop k)
  old : Below W1.heap.size W1 wr
theorem PutAt.below {W1 : World} {r : Rt} {L : List Rt} {k : Nat} {d : Bool} {ov : Value} {wr w2 : World} (h : PutAt W1 r L k d ov wr) (hb : Below wr.heap.size wr w2) : PutAt W1 r L k d ov w2 := by
  obtain ⟨⟨o, h1, h2⟩, h3⟩ := h
  exact ⟨⟨o, row_kept_none h1 (grown_of_below hb), h2⟩, h3.trans (hb.mono h3.size)⟩
theorem PutAt.skip {W1 : World} {r : Rt} {L : List Rt} {k : Nat} {d : Bool} {ov : Value} {wr : World} (h : PutAt W1 r L k d ov wr) (hk : k < L.length) (hs : L[k].is r.a r.n) : PutAt W1 r L (k + 1) d ov wr := by
  obtain ⟨⟨o, h1, h2, h3, h4⟩, h5⟩ := h
  refine ⟨⟨o, h1, by omega, fun hd => by have := h3 hd; omega, ?_⟩, h5⟩
  rw [h4, List.drop_eq_getElem_cons hk, putL_is hs]

set_option maxRecDepth 100000 in
set_option maxHeartbeats 2000000 in
theorem rput_loop (g c : Nat) (L : List Rt) (r : Rt) (w : World) (hT : TabIn w g L) (hc : L.length ≤ 1000000) (ha : W32 r.a) (hv : vld r.a (r.n : Int) = true) :
    Calls Try.prog 47 #[.slice (some ⟨g, 0, none⟩) L.length c, .agg #[.int .u32 (r.a : Int), .int .i64 (r.n : Int), .int .i64 r.v]] w fun e w' =>
      ∃ v', e = .returned (.tuple #[v', .int .i64 0]) ∧ RowL w' w.heap.size v' (putL r false L) ∧ Below w.heap.size w w' := by
  obtain ⟨i0, hi, hz0, hz1, hz2⟩ := info_parts infoR
  have HV := hid (fun w1 => rvalid_any r.a r.n w1 ha)
  rw [hv] at HV
  clear hv
  go_enter Try.func47, Try.ntmps47
  go_wp2_with fail
  obtain ⟨W1, hW1, hsz, kB, hWb⟩ := rt_box r.a r.n r.v w
  have hT1 := hT.below hWb
  rw [← hW1]
  have hB1 : w.heap.size < W1.heap.size := by omega
  have hgl := hT1.lt
  clear hW1 hsz hT
  obtain ⟨d0, d1, d2⟩ := cell_of_box3 kB
  go_wp2_with (go_at_call 27; refine (HV.out _).mono ?_; clear HV; rintro e w2 ⟨rfl, hw2⟩)
  go_loopw [6, 7, 8] (fun ov d i wr => ∃ (k : Nat) (b : Bool), k ≤ L.length ∧ i = .int .i64 k ∧ d = .bool b ∧ PutAt W1 r L k b ov wr) (fun _ _ i _ => L.length - (intOf i).toNat)
  case atStart => exact ⟨0, false, Nat.zero_le _, rfl, rfl, ⟨⟨[], World.ownsRow_nil _ _ _ _, by simp, by simp, by simp⟩, hw2⟩⟩
  case round =>
    obtain ⟨k, d, hk, rfl, rfl, hat⟩ := hrel
    clear hw2
    by_cases hlt : k < L.length
    · have g0 := hT1.at0 k hlt
      have g1 := hT1.at1 k hlt
      have g2 := hT1.at2 k hlt
      by_cases hs : L[k].is r.a r.n
      · have hat' := hat.skip hlt hs
        rw [hs.1] at g0
        rw [hs.2] at g1
        clear hs hat
        go_upto_region 8 with (fail)
        refine wp_region_staged (fun w' => Below wr.heap.size wr w') [0, 0, 0, 0, 1, 0, 1, 0] (by kernel_rfl) (by kernel_rfl) (by kernel_rfl) (by exact (Below.refl _ _).drew) ?_
        apply lexF rfl; (· intro _; go_simp; (try go_bits); exact ⟨rfl, rfl⟩); simp only [Act.put, List.setIfInBounds_toArray, List.set_cons_zero, List.set_cons_succ]
        apply lexF rfl; (· intro _; go_simp; (try go_bits); exact ⟨rfl, rfl⟩); simp only [Act.put, List.setIfInBounds_toArray, List.set_cons_zero, List.set_cons_succ]
        apply lexF rfl; (· intro _; go_simp; (try go_bits); exact ⟨rfl, rfl⟩); simp only [Act.put, List.setIfInBounds_toArray, List.set_cons_zero, List.set_cons_succ]
        apply lexF rfl; (· intro _; go_simp; (try go_bits); exact ⟨rfl, rfl⟩); simp only [Act.put, List.setIfInBounds_toArray, List.set_cons_zero, List.set_cons_succ]
        apply lexH rfl; (· intro w' hw'; have hcc := cellsBelow (hat'.old.trans (hw'.mono hat'.old.size)); go_simp; (try go_bits); exact ⟨rfl, hw'⟩); simp only [Act.put, List.setIfInBounds_toArray, List.set_cons_zero, List.set_cons_succ]
        apply lexF rfl; (· intro _; go_simp; (try go_bits); exact ⟨rfl, rfl⟩); simp only [Act.put, List.setIfInBounds_toArray, List.set_cons_zero, List.set_cons_succ]
        apply lexH rfl; (· intro w' hw'; have hcc := cellsBelow (hat'.old.trans (hw'.mono hat'.old.size)); go_simp; (try go_bits); exact ⟨rfl, hw'⟩); simp only [Act.put, List.setIfInBounds_toArray, List.set_cons_zero, List.set_cons_succ]
        apply lexF rfl; (· intro _; go_simp; (try go_bits); exact ⟨rfl, rfl⟩); simp only [Act.put, List.setIfInBounds_toArray, List.set_cons_zero, List.set_cons_succ]
        refine lexEnd (fun w3 hw3 => ?_)
        go_wp2
        go_roundw
        case rel => exact ⟨k + 1, d, by omega, by go_num, rfl, hat'.below hw3⟩
        case measure => simp [intOf]; omega
      · have HNE := hid (show ¬ ((L[k].a : Int) = (r.a : Int) ∧ (L[k].n : Int) = (r.n : Int)) by unfold Rt.is at hs; omega)
        have HS := hid hs
        clear hs
        go_upto_region 8 with (fail)
        refine wp_region_staged (fun w' => Below wr.heap.size wr w') [0, 0, 0, 0, 1, 0, 1, 0] (by kernel_rfl) (by kernel_rfl) (by kernel_rfl) (by exact (Below.refl _ _).drew) ?_
        apply lexF rfl; (· intro _; go_simp; (try go_bits); exact ⟨rfl, rfl⟩); simp only [Act.put, List.setIfInBounds_toArray, List.set_cons_zero, List.set_cons_succ]
        apply lexF rfl; (· intro _; go_simp; (try go_bits); exact ⟨rfl, rfl⟩); simp only [Act.put, List.setIfInBounds_toArray, List.set_cons_zero, List.set_cons_succ]
        apply lexF rfl; (· intro _; go_simp; (try go_bits); exact ⟨rfl, rfl⟩); simp only [Act.put, List.setIfInBounds_toArray, List.set_cons_zero, List.set_cons_succ]
        apply lexF rfl; (· intro _; go_simp; (try go_bits); exact ⟨rfl, rfl⟩); simp only [Act.put, List.setIfInBounds_toArray, List.set_cons_zero, List.set_cons_succ]
        apply lexH rfl; (· intro w' hw'; have hcc := cellsBelow (hat.old.trans (hw'.mono hat.old.size)); go_simp; (try go_bits); exact ⟨rfl, hw'⟩); simp only [Act.put, List.setIfInBounds_toArray, List.set_cons_zero, List.set_cons_succ]
        apply lexF rfl; (· intro _; go_simp; (try go_bits); exact ⟨rfl, rfl⟩); simp only [Act.put, List.setIfInBounds_toArray, List.set_cons_zero, List.set_cons_succ]
        apply lexH rfl; (· intro w' hw'; have hcc := cellsBelow (hat.old.trans (hw'.mono hat.old.size)); go_simp; (try go_bits); exact ⟨rfl, hw'⟩); simp only [Act.put, List.setIfInBounds_toArray, List.set_cons_zero, List.set_cons_succ]
        apply lexF rfl
        · intro w'; go_simp; (try go_bits); exact flt_if2 HNE.out
        simp only [Act.put, List.setIfInBounds_toArray, List.set_cons_zero, List.set_cons_succ]
        refine lexEnd (fun w3 hw3 => ?_)
        have hat3 := hat.below hw3
        clear hat hw3 HNE
        go_upto_region 9 with (fail)
        refine wp_region_staged (fun w' => Below w3.heap.size w3 w') [0, 0, 0, 0, 1, 0, 0, 0, 0, 1, 1, 0, 0] (by kernel_rfl) (by kernel_rfl) (by kernel_rfl) (by exact (Below.refl _ _).drew) ?_
        cases d with
        | true =>
          apply lexF rfl; (· intro _; go_simp; (try go_bits); exact ⟨rfl, rfl⟩); simp only [Act.put, List.setIfInBounds_toArray, List.set_cons_zero, List.set_cons_succ]
          apply lexF rfl; (· intro _; go_simp; (try go_bits); exact ⟨rfl, rfl⟩); simp only [Act.put, List.setIfInBounds_toArray, List.set_cons_zero, List.set_cons_succ]
          apply lexF rfl; (· intro _; go_simp; (try go_bits); exact ⟨rfl, rfl⟩); simp only [Act.put, List.setIfInBounds_toArray, List.set_cons_zero, List.set_cons_succ]
          first | (apply lexN (j := 2) (d := 30) (b := true) rfl rfl rfl rfl; simp only [Act.put, List.setIfInBounds_toArray, List.set_cons_zero, List.set_cons_succ]) | (apply lexN' (j := 2) (d := 30) (b := true) rfl rfl rfl; simp only [Act.put, List.setIfInBounds_toArray, List.set_cons_zero, List.set_cons_succ]) | (apply lexFg (j := 2) (d := 30) (b := true) rfl rfl rfl rfl; (· intro _; go_simp; (try go_bits); exact ⟨rfl, rfl⟩); simp only [Act.put, List.setIfInBounds_toArray, List.set_cons_zero, List.set_cons_succ])
          first | (apply lexN (j := 2) (d := 30) (b := true) rfl rfl rfl rfl; simp only [Act.put, List.setIfInBounds_toArray, List.set_cons_zero, List.set_cons_succ]) | (apply lexN' (j := 2) (d := 30) (b := true) rfl rfl rfl; simp only [Act.put, List.setIfInBounds_toArray, List.set_cons_zero, List.set_cons_succ]) | (apply lexHg (j := 2) (d := 30) (b := true) rfl rfl rfl rfl; (· intro w' hw'; have hcc := cellsBelow (hat3.old.trans (hw'.mono hat3.old.size)); go_simp; (try go_bits); exact ⟨rfl, hw'⟩); simp only [Act.put, List.setIfInBounds_toArray, List.set_cons_zero, List.set_cons_succ])
          first | (apply lexN (j := 2) (d := 30) (b := true) rfl rfl rfl rfl; simp only [Act.put, List.setIfInBounds_toArray, List.set_cons_zero, List.set_cons_succ]) | (apply lexN' (j := 2) (d := 30) (b := true) rfl rfl rfl; simp only [Act.put, List.setIfInBounds_toArray, List.set_cons_zero, List.set_cons_succ]) | (apply lexFg (j := 2) (d := 30) (b := true) rfl rfl rfl rfl; (· intro _; go_simp; (try go_bits); exact ⟨rfl, rfl⟩); simp only [Act.put, List.setIfInBounds_toArray, List.set_cons_zero, List.set_cons_succ])
          first | (apply lexN (j := 2) (d := 30) (b := true) rfl rfl rfl rfl; simp only [Act.put, List.setIfInBounds_toArray, List.set_cons_zero, List.set_cons_succ]) | (apply lexN' (j := 2) (d := 30) (b := true) rfl rfl rfl; simp only [Act.put, List.setIfInBounds_toArray, List.set_cons_zero, List.set_cons_succ]) | (apply lexFg (j := 2) (d := 30) (b := true) rfl rfl rfl rfl; (· intro _; go_simp; (try go_bits); exact ⟨rfl, rfl⟩); simp only [Act.put, List.setIfInBounds_toArray, List.set_cons_zero, List.set_cons_succ])
          first | (apply lexN (j := 2) (d := 30) (b := true) rfl rfl rfl rfl; simp only [Act.put, List.setIfInBounds_toArray, List.set_cons_zero, List.set_cons_succ]) | (apply lexN' (j := 2) (d := 30) (b := true) rfl rfl rfl; simp only [Act.put, List.setIfInBounds_toArray, List.set_cons_zero, List.set_cons_succ]) | (apply lexFg (j := 2) (d := 30) (b := true) rfl rfl rfl rfl; (· intro _; go_simp; (try go_bits); exact ⟨rfl, rfl⟩); simp only [Act.put, List.setIfInBounds_toArray, List.set_cons_zero, List.set_cons_succ])
          first | (apply lexN (j := 2) (d := 30) (b := true) rfl rfl rfl rfl; simp only [Act.put, List.setIfInBounds_toArray, List.set_cons_zero, List.set_cons_succ]) | (apply lexN' (j := 2) (d := 30) (b := true) rfl rfl rfl; simp only [Act.put, List.setIfInBounds_toArray, List.set_cons_zero, List.set_cons_succ]) | (apply lexFg (j := 2) (d := 30) (b := true) rfl rfl rfl rfl; (· intro _; go_simp; (try go_bits); exact ⟨rfl, rfl⟩); simp only [Act.put, List.setIfInBounds_toArray, List.set_cons_zero, List.set_cons_succ])
          first | (apply lexN (j := 2) (d := 30) (b := true) rfl rfl rfl rfl; simp only [Act.put, List.setIfInBounds_toArray, List.set_cons_zero, List.set_cons_succ]) | (apply lexN' (j := 2) (d := 30) (b := true) rfl rfl rfl; simp only [Act.put, List.setIfInBounds_toArray, List.set_cons_zero, List.set_cons_succ]) | (apply lexHg (j := 2) (d := 30) (b := true) rfl rfl rfl rfl; (· intro w' hw'; have hcc := cellsBelow (hat3.old.trans (hw'.mono hat3.old.size)); go_simp; (try go_bits); exact ⟨rfl, hw'⟩); simp only [Act.put, List.setIfInBounds_toArray, List.set_cons_zero, List.set_cons_succ])
          first | (apply lexN (j := 2) (d := 30) (b := true) rfl rfl rfl rfl; simp only [Act.put, List.setIfInBounds_toArray, List.set_cons_zero, List.set_cons_succ]) | (apply lexN' (j := 2) (d := 30) (b := true) rfl rfl rfl; simp only [Act.put, List.setIfInBounds_toArray, List.set_cons_zero, List.set_cons_succ]) | (apply lexHg (j := 2) (d := 30) (b := true) rfl rfl rfl rfl; (· intro w' hw'; have hcc := cellsBelow (hat3.old.trans (hw'.mono hat3.old.size)); go_simp; (try go_bits); exact ⟨rfl, hw'⟩); simp only [Act.put, List.setIfInBounds_toArray, List.set_cons_zero, List.set_cons_succ])
          first | (apply lexN (j := 2) (d := 30) (b := true) rfl rfl rfl rfl; simp only [Act.put, List.setIfInBounds_toArray, List.set_cons_zero, List.set_cons_succ]) | (apply lexN' (j := 2) (d := 30) (b := true) rfl rfl rfl; simp only [Act.put, List.setIfInBounds_toArray, List.set_cons_zero, List.set_cons_succ]) | (apply lexFg (j := 2) (d := 30) (b := true) rfl rfl rfl rfl; (· intro _; go_simp; (try go_bits); exact ⟨rfl, rfl⟩); simp only [Act.put, List.setIfInBounds_toArray, List.set_cons_zero, List.set_cons_succ])
          apply lexF rfl; (· intro _; go_simp; (try go_bits); exact ⟨rfl, rfl⟩); simp only [Act.put, List.setIfInBounds_toArray, List.set_cons_zero, List.set_cons_succ]
          refine lexEnd (fun w4 hw4 => ?_)
          have hat4 := hat3.below hw4
          clear hat3 hw4
          obtain ⟨⟨o, ho, hol, _, hoe⟩, hob⟩ := hat4
          have hcc := cellsBelow hob
          have OE := hid (show putL r false L = (o ++ [L[k]]) ++ putL r true (L.drop (k + 1)) by rw [hoe, List.drop_eq_getElem_cons hlt, putL_on HS.out (by simp), List.append_assoc])
          clear hoe
          go_wp2_with (at_builtin; refine wpList_append_own _ rfl _ _ 26 rfl W1.heap.size 37 i0 _ 3 24 Try.underlying26 hi hz0 hz1 hz2 rfl (by decide) _ _ _ rfl (ho.alloc _) ⟨w4.heap.size, 0, none⟩ 1 1 (Rt.cells L[k]) rfl rfl (cells_new w4 L[k] _) (one_rt _) (by simp [maxLen]; omega) (by omega) (by have := hob.size; simp; omega) ?_; intro v' w5 hown' hgrow _; have hb5 := row_step hob ho hob.size hgrow; replace hown' := row_snoc hown')
          clear hcc
          go_roundw
          case rel => exact ⟨k + 1, true, by omega, by go_num, rfl, ⟨⟨_, hown', by simp; omega, by simp, OE.out⟩, hb5⟩⟩
          case measure => simp [intOf]; omega
        | false =>
          by_cases hl : r.lt L[k]
          · have HC := hid (cmp_lt hl)
            have HL := hid hl
            clear hl
            apply lexF rfl; (· intro _; go_simp; (try go_bits); exact ⟨rfl, rfl⟩); simp only [Act.put, List.setIfInBounds_toArray, List.set_cons_zero, List.set_cons_succ]
            apply lexF rfl; (· intro _; go_simp; (try go_bits); exact ⟨rfl, rfl⟩); simp only [Act.put, List.setIfInBounds_toArray, List.set_cons_zero, List.set_cons_succ]
            apply lexF rfl; (· intro _; go_simp; (try go_bits); exact ⟨rfl, rfl⟩); simp only [Act.put, List.setIfInBounds_toArray, List.set_cons_zero, List.set_cons_succ]
            first | (apply lexN (j := 2) (d := 30) (b := true) rfl rfl rfl rfl; simp only [Act.put, List.setIfInBounds_toArray, List.set_cons_zero, List.set_cons_succ]) | (apply lexN' (j := 2) (d := 30) (b := true) rfl rfl rfl; simp only [Act.put, List.setIfInBounds_toArray, List.set_cons_zero, List.set_cons_succ]) | (apply lexFg (j := 2) (d := 30) (b := true) rfl rfl rfl rfl; (· intro _; go_simp; (try go_bits); exact ⟨rfl, rfl⟩); simp only [Act.put, List.setIfInBounds_toArray, List.set_cons_zero, List.set_cons_succ])
            first | (apply lexN (j := 2) (d := 30) (b := true) rfl rfl rfl rfl; simp only [Act.put, List.setIfInBounds_toArray, List.set_cons_zero, List.set_cons_succ]) | (apply lexN' (j := 2) (d := 30) (b := true) rfl rfl rfl; simp only [Act.put, List.setIfInBounds_toArray, List.set_cons_zero, List.set_cons_succ]) | (apply lexHg (j := 2) (d := 30) (b := true) rfl rfl rfl rfl; (· intro w' hw'; have hcc := cellsBelow (hat3.old.trans (hw'.mono hat3.old.size)); go_simp; (try go_bits); exact ⟨rfl, hw'⟩); simp only [Act.put, List.setIfInBounds_toArray, List.set_cons_zero, List.set_cons_succ])
            first | (apply lexN (j := 2) (d := 30) (b := true) rfl rfl rfl rfl; simp only [Act.put, List.setIfInBounds_toArray, List.set_cons_zero, List.set_cons_succ]) | (apply lexN' (j := 2) (d := 30) (b := true) rfl rfl rfl; simp only [Act.put, List.setIfInBounds_toArray, List.set_cons_zero, List.set_cons_succ]) | (apply lexFg (j := 2) (d := 30) (b := true) rfl rfl rfl rfl; (· intro _; go_simp; (try go_bits); exact ⟨rfl, rfl⟩); simp only [Act.put, List.setIfInBounds_toArray, List.set_cons_zero, List.set_cons_succ])
            first | (apply lexN (j := 2) (d := 30) (b := true) rfl rfl rfl rfl; simp only [Act.put, List.setIfInBounds_toArray, List.set_cons_zero, List.set_cons_succ]) | (apply lexN' (j := 2) (d := 30) (b := true) rfl rfl rfl; simp only [Act.put, List.setIfInBounds_toArray, List.set_cons_zero, List.set_cons_succ]) | (apply lexFg (j := 2) (d := 30) (b := true) rfl rfl rfl rfl; (· intro _; go_simp; (try go_bits); exact ⟨rfl, rfl⟩); simp only [Act.put, List.setIfInBounds_toArray, List.set_cons_zero, List.set_cons_succ])
            first | (apply lexN (j := 2) (d := 30) (b := true) rfl rfl rfl rfl; simp only [Act.put, List.setIfInBounds_toArray, List.set_cons_zero, List.set_cons_succ]) | (apply lexN' (j := 2) (d := 30) (b := true) rfl rfl rfl; simp only [Act.put, List.setIfInBounds_toArray, List.set_cons_zero, List.set_cons_succ]) | (apply lexFg (j := 2) (d := 30) (b := true) rfl rfl rfl rfl; (· intro _; go_simp; (try go_bits); exact ⟨rfl, rfl⟩); simp only [Act.put, List.setIfInBounds_toArray, List.set_cons_zero, List.set_cons_succ])
            first | (apply lexN (j := 2) (d := 30) (b := true) rfl rfl rfl rfl; simp only [Act.put, List.setIfInBounds_toArray, List.set_cons_zero, List.set_cons_succ]) | (apply lexN' (j := 2) (d := 30) (b := true) rfl rfl rfl; simp only [Act.put, List.setIfInBounds_toArray, List.set_cons_zero, List.set_cons_succ]) | (apply lexFg (j := 2) (d := 30) (b := true) rfl rfl rfl rfl; (· intro _; go_simp; (try go_bits); exact ⟨rfl, rfl⟩); simp only [Act.put, List.setIfInBounds_toArray, List.set_cons_zero, List.set_cons_succ])
            first | (apply lexN (j := 2) (d := 30) (b := true) rfl rfl rfl rfl; simp only [Act.put, List.setIfInBounds_toArray, List.set_cons_zero, List.set_cons_succ]) | (apply lexN' (j := 2) (d := 30) (b := true) rfl rfl rfl; simp only [Act.put, List.setIfInBounds_toArray, List.set_cons_zero, List.set_cons_succ]) | (apply lexHg (j := 2) (d := 30) (b := true) rfl rfl rfl rfl; (· intro w' hw'; have hcc := cellsBelow (hat3.old.trans (hw'.mono hat3.old.size)); go_simp; (try go_bits); exact ⟨rfl, hw'⟩); simp only [Act.put, List.setIfInBounds_toArray, List.set_cons_zero, List.set_cons_succ])
            apply lexHg (j := 2) (d := 30) (b := true) rfl rfl rfl rfl
            · intro w' hw'; go_simp; (try go_bits); refine (rcompare_any r.a r.n L[k].a L[k].n _).mono ?_; rintro e w'' ⟨rfl, hbb⟩; exact ⟨_, rfl, congrArg (Value.int .i64) HC.out, hw'.trans (hbb.mono hw'.size)⟩
            simp only [Act.put, List.setIfInBounds_toArray, List.set_cons_zero, List.set_cons_succ]
            first | (apply lexN (j := 2) (d := 30) (b := true) rfl rfl rfl rfl; simp only [Act.put, List.setIfInBounds_toArray, List.set_cons_zero, List.set_cons_succ]) | (apply lexN' (j := 2) (d := 30) (b := true) rfl rfl rfl; simp only [Act.put, List.setIfInBounds_toArray, List.set_cons_zero, List.set_cons_succ]) | (apply lexFg (j := 2) (d := 30) (b := true) rfl rfl rfl rfl; (· intro _; go_simp; (try go_bits); exact ⟨rfl, rfl⟩); simp only [Act.put, List.setIfInBounds_toArray, List.set_cons_zero, List.set_cons_succ])
            apply lexF rfl; (· intro _; go_simp; (try go_bits); exact ⟨rfl, rfl⟩); simp only [Act.put, List.setIfInBounds_toArray, List.set_cons_zero, List.set_cons_succ]
            refine lexEnd (fun w4 hw4 => ?_)
            have hat4 := hat3.below hw4
            clear hat3 hw4
            obtain ⟨⟨o, ho, hol, hol', hoe⟩, hob⟩ := hat4
            replace hol' := hol' rfl
            have hcc := cellsBelow hob
            have OE := hid (show putL r false L = (o ++ [r] ++ [L[k]]) ++ putL r true (L.drop (k + 1)) by rw [hoe, List.drop_eq_getElem_cons hlt, putL_in HS.out HL.out]; simp [List.append_assoc])
            clear hoe
            go_upto_region 11 with (at_builtin; refine wpList_append_own _ rfl _ _ 26 rfl W1.heap.size 37 i0 _ 3 24 Try.underlying26 hi hz0 hz1 hz2 rfl (by decide) _ _ _ rfl (ho.alloc _) ⟨w4.heap.size, 0, none⟩ 1 1 (Rt.cells r) rfl rfl (cells_new w4 r _) (one_rt _) (by simp [maxLen]; omega) (by omega) (by have := hob.size; simp; omega) ?_; intro v5 w5 hown5 hgrow5 _)
            have hb5 := row_step hob ho hob.size hgrow5
            replace hown5 := row_snoc hown5
            clear hcc hgrow5 ho
            have hcc := cellsBelow hb5
            go_wp2_with (at_builtin; refine wpList_append_own _ rfl _ _ 26 rfl W1.heap.size 37 i0 _ 3 24 Try.underlying26 hi hz0 hz1 hz2 rfl (by decide) _ _ _ rfl (hown5.alloc _) ⟨w5.heap.size, 0, none⟩ 1 1 (Rt.cells L[k]) rfl rfl (cells_new w5 L[k] _) (one_rt _) (by simp [maxLen]; omega) (by simp; omega) (by have := hb5.size; simp; omega) ?_; intro v6 w6 hown6 hgrow6 _; have hb6 := row_step hb5 hown5 hb5.size hgrow6; replace hown6 := row_snoc hown6)
            clear hcc
            go_roundw
            case rel => exact ⟨k + 1, true, by omega, by go_num, rfl, ⟨⟨_, hown6, by simp; omega, by simp, OE.out⟩, hb6⟩⟩
            case measure => simp [intOf]; omega
          · obtain ⟨cv, hcv⟩ : ∃ cv, cmpI r.a r.n L[k].a L[k].n = cv := ⟨_, rfl⟩
            have hc0 : 0 ≤ cv := by rw [← hcv]; exact cmp_ge hl
            have HC := hid hcv
            have HL := hid hl
            clear hl hcv
            apply lexF rfl; (· intro _; go_simp; (try go_bits); exact ⟨rfl, rfl⟩); simp only [Act.put, List.setIfInBounds_toArray, List.set_cons_zero, List.set_cons_succ]
            apply lexF rfl; (· intro _; go_simp; (try go_bits); exact ⟨rfl, rfl⟩); simp only [Act.put, List.setIfInBounds_toArray, List.set_cons_zero, List.set_cons_succ]
            apply lexF rfl; (· intro _; go_simp; (try go_bits); exact ⟨rfl, rfl⟩); simp only [Act.put, List.setIfInBounds_toArray, List.set_cons_zero, List.set_cons_succ]
            first | (apply lexN (j := 2) (d := 30) (b := true) rfl rfl rfl rfl; simp only [Act.put, List.setIfInBounds_toArray, List.set_cons_zero, List.set_cons_succ]) | (apply lexN' (j := 2) (d := 30) (b := true) rfl rfl rfl; simp only [Act.put, List.setIfInBounds_toArray, List.set_cons_zero, List.set_cons_succ]) | (apply lexFg (j := 2) (d := 30) (b := true) rfl rfl rfl rfl; (· intro _; go_simp; (try go_bits); exact ⟨rfl, rfl⟩); simp only [Act.put, List.setIfInBounds_toArray, List.set_cons_zero, List.set_cons_succ])
            first | (apply lexN (j := 2) (d := 30) (b := true) rfl rfl rfl rfl; simp only [Act.put, List.setIfInBounds_toArray, List.set_cons_zero, List.set_cons_succ]) | (apply lexN' (j := 2) (d := 30) (b := true) rfl rfl rfl; simp only [Act.put, List.setIfInBounds_toArray, List.set_cons_zero, List.set_cons_succ]) | (apply lexHg (j := 2) (d := 30) (b := true) rfl rfl rfl rfl; (· intro w' hw'; have hcc := cellsBelow (hat3.old.trans (hw'.mono hat3.old.size)); go_simp; (try go_bits); exact ⟨rfl, hw'⟩); simp only [Act.put, List.setIfInBounds_toArray, List.set_cons_zero, List.set_cons_succ])
            first | (apply lexN (j := 2) (d := 30) (b := true) rfl rfl rfl rfl; simp only [Act.put, List.setIfInBounds_toArray, List.set_cons_zero, List.set_cons_succ]) | (apply lexN' (j := 2) (d := 30) (b := true) rfl rfl rfl; simp only [Act.put, List.setIfInBounds_toArray, List.set_cons_zero, List.set_cons_succ]) | (apply lexFg (j := 2) (d := 30) (b := true) rfl rfl rfl rfl; (· intro _; go_simp; (try go_bits); exact ⟨rfl, rfl⟩); simp only [Act.put, List.setIfInBounds_toArray, List.set_cons_zero, List.set_cons_succ])
            first | (apply lexN (j := 2) (d := 30) (b := true) rfl rfl rfl rfl; simp only [Act.put, List.setIfInBounds_toArray, List.set_cons_zero, List.set_cons_succ]) | (apply lexN' (j := 2) (d := 30) (b := true) rfl rfl rfl; simp only [Act.put, List.setIfInBounds_toArray, List.set_cons_zero, List.set_cons_succ]) | (apply lexFg (j := 2) (d := 30) (b := true) rfl rfl rfl rfl; (· intro _; go_simp; (try go_bits); exact ⟨rfl, rfl⟩); simp only [Act.put, List.setIfInBounds_toArray, List.set_cons_zero, List.set_cons_succ])
            first | (apply lexN (j := 2) (d := 30) (b := true) rfl rfl rfl rfl; simp only [Act.put, List.setIfInBounds_toArray, List.set_cons_zero, List.set_cons_succ]) | (apply lexN' (j := 2) (d := 30) (b := true) rfl rfl rfl; simp only [Act.put, List.setIfInBounds_toArray, List.set_cons_zero, List.set_cons_succ]) | (apply lexFg (j := 2) (d := 30) (b := true) rfl rfl rfl rfl; (· intro _; go_simp; (try go_bits); exact ⟨rfl, rfl⟩); simp only [Act.put, List.setIfInBounds_toArray, List.set_cons_zero, List.set_cons_succ])
            first | (apply lexN (j := 2) (d := 30) (b := true) rfl rfl rfl rfl; simp only [Act.put, List.setIfInBounds_toArray, List.set_cons_zero, List.set_cons_succ]) | (apply lexN' (j := 2) (d := 30) (b := true) rfl rfl rfl; simp only [Act.put, List.setIfInBounds_toArray, List.set_cons_zero, List.set_cons_succ]) | (apply lexFg (j := 2) (d := 30) (b := true) rfl rfl rfl rfl; (· intro _; go_simp; (try go_bits); exact ⟨rfl, rfl⟩); simp only [Act.put, List.setIfInBounds_toArray, List.set_cons_zero, List.set_cons_succ])
            first | (apply lexN (j := 2) (d := 30) (b := true) rfl rfl rfl rfl; simp only [Act.put, List.setIfInBounds_toArray, List.set_cons_zero, List.set_cons_succ]) | (apply lexN' (j := 2) (d := 30) (b := true) rfl rfl rfl; simp only [Act.put, List.setIfInBounds_toArray, List.set_cons_zero, List.set_cons_succ]) | (apply lexHg (j := 2) (d := 30) (b := true) rfl rfl rfl rfl; (· intro w' hw'; have hcc := cellsBelow (hat3.old.trans (hw'.mono hat3.old.size)); go_simp; (try go_bits); exact ⟨rfl, hw'⟩); simp only [Act.put, List.setIfInBounds_toArray, List.set_cons_zero, List.set_cons_succ])
            apply lexHg (j := 2) (d := 30) (b := true) rfl rfl rfl rfl
            · intro w' hw'; go_simp; (try go_bits); refine (rcompare_any r.a r.n L[k].a L[k].n _).mono ?_; rintro e w'' ⟨rfl, hbb⟩; exact ⟨_, rfl, congrArg (Value.int .i64) HC.out, hw'.trans (hbb.mono hw'.size)⟩
            simp only [Act.put, List.setIfInBounds_toArray, List.set_cons_zero, List.set_cons_succ]
            first | (apply lexN (j := 2) (d := 30) (b := true) rfl rfl rfl rfl; simp only [Act.put, List.setIfInBounds_toArray, List.set_cons_zero, List.set_cons_succ]) | (apply lexN' (j := 2) (d := 30) (b := true) rfl rfl rfl; simp only [Act.put, List.setIfInBounds_toArray, List.set_cons_zero, List.set_cons_succ]) | (apply lexFg (j := 2) (d := 30) (b := true) rfl rfl rfl rfl; (· intro _; go_simp; (try go_bits); exact ⟨rfl, rfl⟩); simp only [Act.put, List.setIfInBounds_toArray, List.set_cons_zero, List.set_cons_succ])
            apply lexF rfl; (· intro _; go_simp; (try go_bits); exact ⟨rfl, rfl⟩); simp only [Act.put, List.setIfInBounds_toArray, List.set_cons_zero, List.set_cons_succ]
            refine lexEnd (fun w4 hw4 => ?_)
            have hat4 := hat3.below hw4
            clear hat3 hw4
            obtain ⟨⟨o, ho, hol, hol', hoe⟩, hob⟩ := hat4
            replace hol' := hol' rfl
            have hcc := cellsBelow hob
            have OE := hid (show putL r false L = (o ++ [L[k]]) ++ putL r false (L.drop (k + 1)) by rw [hoe, List.drop_eq_getElem_cons hlt, putL_on HS.out (fun h => HL.out h.2), List.append_assoc])
            clear hoe
            go_wp2_with (at_builtin; refine wpList_append_own _ rfl _ _ 26 rfl W1.heap.size 37 i0 _ 3 24 Try.underlying26 hi hz0 hz1 hz2 rfl (by decide) _ _ _ rfl (ho.alloc _) ⟨w4.heap.size, 0, none⟩ 1 1 (Rt.cells L[k]) rfl rfl (cells_new w4 L[k] _) (one_rt _) (by simp [maxLen]; omega) (by omega) (by have := hob.size; simp; omega) ?_; intro v' w5 hown' hgrow _; have hb5 := row_step hob ho hob.size hgrow; replace hown' := row_snoc hown')
            clear hcc
            go_roundw
            case rel => exact ⟨k + 1, false, by omega, by go_num, rfl, ⟨⟨_, hown', by simp; omega, by simp; omega, OE.out⟩, hb5⟩⟩
            case measure => simp [intOf]; omega
    · obtain rfl : k = L.length := by omega
      obtain ⟨⟨o, ho, hol, hol', hoe⟩, hob⟩ := hat
      have hcc := cellsBelow hob
      cases d with
      | true =>
        have OE := hid (show putL r false L = o by rw [hoe, List.drop_length]; simp [putL])
        clear hoe
        go_wp2
        go_ret2
        exact ⟨_, rfl, by rw [OE.out]; exact row_mono ho (by omega), hWb.trans (hob.mono (by omega))⟩
      | false =>
        have OE := hid (show putL r false L = o ++ [r] by rw [hoe, List.drop_length]; simp [putL])
        clear hoe
        go_wp2_with (at_builtin; refine wpList_append_own _ rfl _ _ 26 rfl W1.heap.size 37 i0 _ 3 24 Try.underlying26 hi hz0 hz1 hz2 rfl (by decide) _ _ _ rfl (ho.alloc _) ⟨wr.heap.size, 0, none⟩ 1 1 (Rt.cells r) rfl rfl (cells_new wr r _) (one_rt _) (by simp [maxLen]; omega) (by omega) (by have := hob.size; simp; omega) ?_; intro v' w5 hown' hgrow _; have hb5 := row_step hob ho hob.size hgrow; replace hown' := row_snoc hown')
        go_ret2
        exact ⟨_, rfl, by rw [OE.out]; exact row_mono hown' (by omega), hWb.trans (hb5.mono (by omega))⟩

end Go.Proofs.Ytklkldnpgecajaa
