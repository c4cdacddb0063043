/- The laws NatBits and NatAlgebra. -/
import Derived.Test.YtepljhpamconbaaDoorNatW
namespace Go.Proofs.YtepljhpamconbaaDoor
open Go.RowKit
open Go.Lib (decDigits)

set_option maxRecDepth 100000 in
set_option maxHeartbeats 4000000 in
theorem natBits_walk (k : Nat) (v : Value) (ds : List Nat) (w : World) (hk : k < 18446744073709551616) (hv : InV w v ds) (hd : ∀ d ∈ ds, d < B32) (ht : Tab w) :
    Calls Tryd.prog 7 #[.int .u64 (k : Int), v] w fun e w' => e = .returned (.bool true) ∧ Below w.heap.size w w' := by
  obtain ⟨p, c, rfl, _⟩ := hv.slice
  have HA := hid (awake_any w ht)
  have HS := hid (fun w1 => small_any p none ds.length 0 c 0 w1)
  by_cases hl : ds.length ≤ 12
  · rw [decide_eq_true ⟨hl, (by decide : 0 ≤ 12)⟩] at HS
    have hL : Lm 12 (val B32 ds) := Nat.lt_of_lt_of_le (val_lt b32_2 hd) (Nat.pow_le_pow_right (by decide) hl)
    have HN1 := hid (fun w1 (hb : Below w.heap.size w w1) => number_any _ ds w1 (hv.below hb) hd hl)
    obtain ⟨n, hn⟩ : ∃ n, val B32 ds = n := ⟨_, rfl⟩
    rw [hn] at HN1 hL
    have hK := (KS.start w).add (F := fun w => Tab w) fun w' hb => ht.below hb
    have HL1 := hid (hL.lim (by omega))
    have HL2 := hid (show Lim k from lim_of (L := 2) (by rw [b32]; exact hk) (by omega))
    have HKB := hid hk
    have HU := hid (fun (v : Value) (w1 : World) (h : NatV w1 v n) => uint64_any v n w1 h)
    have HRU := hid (fun (v : Value) (w1 : World) (h : RefV w1 v n) => ruint_any v n w1 h (by have := HL1.out.d6; omega))
    unfold u64V at HU HRU
    obtain ⟨k0, hk0⟩ : ∃ k0 : Int, (if n < 18446744073709551616 then (n : Int) else 0) = k0 := ⟨_, rfl⟩
    obtain ⟨b0, hb0⟩ : ∃ b0, decide (n < 18446744073709551616) = b0 := ⟨_, rfl⟩
    rw [hk0, hb0] at HU HRU
    have HUK := hid (fun (v : Value) (w1 : World) (h : NatV w1 v k) => uint64_any v k w1 h)
    unfold u64V at HUK
    rw [if_pos hk, decide_eq_true hk] at HUK
    have hz1 : (((digs B6 n).length : Int) == 0) = (n == 0) := by
      rw [Bool.eq_iff_iff, beq_iff_eq, beq_iff_eq]
      have := digs_eq_nil b6_2 (n := n)
      rw [← this]
      exact ⟨fun h => List.eq_nil_of_length_eq_zero (by omega), fun h => by rw [h]; rfl⟩
    have hz2 : ((k : Int) == 0) = (k == 0) := by
      rw [Bool.eq_iff_iff, beq_iff_eq, beq_iff_eq]; omega
    clear hn hd hv ht hL hk0 hb0 hk
    go_enter Tryd.func7, Tryd.ntmps7
    go_upto_region 5 with (first
      | (go_at_call 11; refine HA.out.mono ?_; clear HA; rintro e W1 ⟨rfl, hb1⟩; replace hK := hK.step hb1; clear hb1)
      | (go_at_call 12; refine (HS.out _).mono ?_; clear HS; rintro e W2 ⟨rfl, rfl⟩))
    go_upto_region 6 with (go_at_call 13; refine (HN1.out _ hK.old).mono ?_; clear HN1; rintro e Wx ⟨x, y, rfl, hx, hy, hw⟩; obtain ⟨p1, c1, rfl, _⟩ := hx.dig; obtain ⟨py, cy, rfl, _⟩ := GV.slice hy; replace hK := ((hK.step hw).add (F := fun w => NatV w (.agg #[.slice p1 (digs B32 n).length c1]) n) fun w' h => hx.below h).add (F := fun w => RefV w (.slice py (digs B6 n).length cy) n) fun w' h => RefV.below hy h; clear hx hy hw)
    obtain ⟨V1, hVV, hKV⟩ : ∃ VV, VV = Wx.alloc (.cells #[.slice p1 (digs B32 n).length c1] 26) ∧ KS w _ VV := ⟨_, rfl, hK.box _⟩
    rw [← hVV]
    clear hVV hK
    have hK := hKV
    clear hKV
    generalize Wx.heap.size = R1 at hK ⊢
    have kA := hK.get (F := Has 0 R1 (.cells #[.slice p1 (digs B32 n).length c1] 26)) (by repeat (first | exact List.mem_cons_self .. | apply List.mem_cons_of_mem))
    have d0 := kA.cell
    have b1 := kA.lt
    go_upto_region 7 with (go_at_call 26; refine (HU.out _ _ (hK.get (F := fun w => NatV w _ n) (by repeat (first | exact List.mem_cons_self .. | apply List.mem_cons_of_mem)))).mono ?_; clear HU; rintro e V2 ⟨rfl, hw⟩; replace hK := hK.step hw; clear hw)
    go_upto_region 8 with (go_at_call 27; refine (HRU.out _ _ (hK.get (F := fun w => RefV w _ n) (by repeat (first | exact List.mem_cons_self .. | apply List.mem_cons_of_mem)))).mono ?_; clear HRU; rintro e V3 ⟨rfl, hw⟩; replace hK := hK.step hw; clear hw)
    go_upto_region 9 with (first
      | (go_at_call 28; refine (of_any k _ HKB.out).mono ?_; rintro e V4 ⟨x4, rfl, hx, hw⟩; replace hK := (hK.step hw).add (F := fun w => NatV w x4 k) fun w' h => hx.below h; clear hx hw)
      | (go_at_call 26; refine (HUK.out _ _ (hK.get (F := fun w => NatV w _ k) (by repeat (first | exact List.mem_cons_self .. | apply List.mem_cons_of_mem)))).mono ?_; clear HUK; rintro e V5 ⟨rfl, hw⟩; replace hK := hK.step hw; clear hw))
    replace kA := hK.get (F := Has 0 R1 (.cells #[.slice p1 (digs B32 n).length c1] 26)) (by repeat (first | exact List.mem_cons_self .. | apply List.mem_cons_of_mem))
    replace d0 := kA.cell
    replace b1 := kA.lt
    refine wp_region_ftext (V5) _ [0, 2, 0, 2, 1, 0, 0, 0, 0, 0, 0, 0, 0, 0, 0, 2, 1, 0, 2, 1, 0, 0, 0, 0, 0, 0, 0, 0, 0, 0, 0, 0, 0, 0, 1, 0, 1, 0, 0, 0, 0, 1, 0, 0, 0, 0, 0, 0, 0, 2, 1, 0, 0, 0, 0, 0] hK.re ?_
    apply lxF0 (wants0 rfl); (· intro w' h0; have hw' := h0.old; have hcc := cellsBelow hw'; go_simp; (try go_bits); exact ⟨rfl, rfl⟩); simp only [Act.put, List.setIfInBounds_toArray, List.set_cons_zero, List.set_cons_succ]
    apply lxE0 (α := Value) (fun vv => vv) (fun vv => [fun w => NatV w vv k]) (wants0 rfl)
    · intro w' h0 hK; go_simp; (try go_bits); refine (of_any k w' HKB.out).mono ?_; rintro e w5 ⟨x, rfl, hx, hb⟩; exact ⟨_, rfl, hb, fun w6 h6 => hx.below h6⟩
    intro v40
    simp only [Act.put, List.setIfInBounds_toArray, List.set_cons_zero, List.set_cons_succ]
    apply lxF0 (wants0 rfl); (· intro w' h0; have hw' := h0.old; have hcc := cellsBelow hw'; go_simp; (try go_bits); exact ⟨rfl, rfl⟩); simp only [Act.put, List.setIfInBounds_toArray, List.set_cons_zero, List.set_cons_succ]
    apply lxE0 (α := Value) (fun vv => vv) (fun vv => [fun w => RefV w vv k]) (wants0 rfl)
    · intro w' h0 hK; go_simp; (try go_bits); refine (rof_any k w' HKB.out).mono ?_; rintro e w5 ⟨x, rfl, hx, hb⟩; exact ⟨_, rfl, hb, fun w6 h6 => hx.below h6⟩
    intro v42
    simp only [Act.put, List.setIfInBounds_toArray, List.set_cons_zero, List.set_cons_succ]
    apply lxH0 (wants0 rfl)
    · intro w' h0 hK; go_simp; (try go_bits); refine (is_yes _ _ k k w' (hK.get (F := fun w => NatV w _ k) (by repeat (first | exact List.mem_cons_self .. | apply List.mem_cons_of_mem))) (hK.get (F := fun w => RefV w _ k) (by repeat (first | exact List.mem_cons_self .. | apply List.mem_cons_of_mem))) (hK.get (F := fun w => Tab w) (by repeat (first | exact List.mem_cons_self .. | apply List.mem_cons_of_mem))) HL2.out rfl).mono ?_; rintro e w5 ⟨rfl, hb⟩; exact ⟨_, rfl, rfl, hb⟩
    simp only [Act.put, List.setIfInBounds_toArray, List.set_cons_zero, List.set_cons_succ]
    apply lxF0 (wants0 rfl); (· intro w' h0; have hw' := h0.old; have hcc := cellsBelow hw'; go_simp; (try go_bits); exact ⟨rfl, rfl⟩); simp only [Act.put, List.setIfInBounds_toArray, List.set_cons_zero, List.set_cons_succ]
    first | (apply lxN (j := 5) (d := 44) (b := true) rfl rfl rfl rfl; simp only [Act.put, List.setIfInBounds_toArray, List.set_cons_zero, List.set_cons_succ]) | (apply lxN' (j := 5) (d := 44) (b := true) rfl rfl rfl; simp only [Act.put, List.setIfInBounds_toArray, List.set_cons_zero, List.set_cons_succ]) | (apply lxF0 (wantsg (j := 5) (d := 44) (b := true) rfl rfl rfl rfl); (· intro w' h0; have hw' := h0.old; have hcc := cellsBelow hw'; go_simp; (try go_bits); exact ⟨rfl, rfl⟩); simp only [Act.put, List.setIfInBounds_toArray, List.set_cons_zero, List.set_cons_succ])
    first | (apply lxN (j := 5) (d := 44) (b := true) rfl rfl rfl rfl; simp only [Act.put, List.setIfInBounds_toArray, List.set_cons_zero, List.set_cons_succ]) | (apply lxN' (j := 5) (d := 44) (b := true) rfl rfl rfl; simp only [Act.put, List.setIfInBounds_toArray, List.set_cons_zero, List.set_cons_succ]) | (apply lxF0 (wantsg (j := 5) (d := 44) (b := true) rfl rfl rfl rfl); (· intro w' h0; have hw' := h0.old; have hcc := cellsBelow hw'; go_simp; (try go_bits); exact ⟨rfl, rfl⟩); simp only [Act.put, List.setIfInBounds_toArray, List.set_cons_zero, List.set_cons_succ])
    first | (apply lxN (j := 5) (d := 44) (b := true) rfl rfl rfl rfl; simp only [Act.put, List.setIfInBounds_toArray, List.set_cons_zero, List.set_cons_succ]) | (apply lxN' (j := 5) (d := 44) (b := true) rfl rfl rfl; simp only [Act.put, List.setIfInBounds_toArray, List.set_cons_zero, List.set_cons_succ]) | (apply lxF0 (wantsg (j := 5) (d := 44) (b := true) rfl rfl rfl rfl); (· intro w' h0; have hw' := h0.old; have hcc := cellsBelow hw'; go_simp; (try go_bits); exact ⟨rfl, rfl⟩); simp only [Act.put, List.setIfInBounds_toArray, List.set_cons_zero, List.set_cons_succ])
    apply lxF0 (wants0 rfl); (· intro w' h0; have hw' := h0.old; have hcc := cellsBelow hw'; go_simp; (try go_bits); exact ⟨rfl, rfl⟩); simp only [Act.put, List.setIfInBounds_toArray, List.set_cons_zero, List.set_cons_succ]
    apply lxF0 (wants0 rfl); (· intro w' h0; have hw' := h0.old; have hcc := cellsBelow hw'; go_simp; (try go_bits); exact ⟨rfl, rfl⟩); simp only [Act.put, List.setIfInBounds_toArray, List.set_cons_zero, List.set_cons_succ]
    first | (apply lxN (j := 10) (d := 49) (b := true) rfl rfl rfl rfl; simp only [Act.put, List.setIfInBounds_toArray, List.set_cons_zero, List.set_cons_succ]) | (apply lxN' (j := 10) (d := 49) (b := true) rfl rfl rfl; simp only [Act.put, List.setIfInBounds_toArray, List.set_cons_zero, List.set_cons_succ]) | (apply lxF0 (wantsg (j := 10) (d := 49) (b := true) rfl rfl rfl rfl); (· intro w' h0; have hw' := h0.old; have hcc := cellsBelow hw'; go_simp; (try go_bits); exact ⟨rfl, rfl⟩); simp only [Act.put, List.setIfInBounds_toArray, List.set_cons_zero, List.set_cons_succ])
    apply lxF0 (wants0 rfl); (· intro w' h0; have hw' := h0.old; have hcc := cellsBelow hw'; go_simp; (try go_bits); exact ⟨rfl, rfl⟩); simp only [Act.put, List.setIfInBounds_toArray, List.set_cons_zero, List.set_cons_succ]
    apply lxF0 (wants0 rfl); (· intro w' h0; have hw' := h0.old; have hcc := cellsBelow hw'; go_simp; (try go_bits); exact ⟨rfl, rfl⟩); simp only [Act.put, List.setIfInBounds_toArray, List.set_cons_zero, List.set_cons_succ]
    first | (apply lxN (j := 13) (d := 52) (b := true) rfl rfl rfl rfl; simp only [Act.put, List.setIfInBounds_toArray, List.set_cons_zero, List.set_cons_succ]) | (apply lxN' (j := 13) (d := 52) (b := true) rfl rfl rfl; simp only [Act.put, List.setIfInBounds_toArray, List.set_cons_zero, List.set_cons_succ]) | (apply lxF0 (wantsg (j := 13) (d := 52) (b := true) rfl rfl rfl rfl); (· intro w' h0; have hw' := h0.old; have hcc := cellsBelow hw'; go_simp; (try go_bits); exact ⟨rfl, rfl⟩); simp only [Act.put, List.setIfInBounds_toArray, List.set_cons_zero, List.set_cons_succ])
    apply lxE0 (α := Value) (fun vv => vv) (fun vv => [fun w => NatV w vv k]) (wantsg (j := 13) (d := 52) (b := true) rfl rfl rfl rfl)
    · intro w' h0 hK; go_simp; (try go_bits); refine (of_any k w' HKB.out).mono ?_; rintro e w5 ⟨x, rfl, hx, hb⟩; exact ⟨_, rfl, hb, fun w6 h6 => hx.below h6⟩
    intro v54
    simp only [Act.put, List.setIfInBounds_toArray, List.set_cons_zero, List.set_cons_succ]
    apply lxH0 (wantsg (j := 13) (d := 52) (b := true) rfl rfl rfl rfl)
    · intro w' h0 hK; go_simp; (try go_bits); refine (bits_any _ k w' (hK.get (F := fun w => NatV w _ k) (by repeat (first | exact List.mem_cons_self .. | apply List.mem_cons_of_mem))) (by have := HL2.out.d32; omega)).mono ?_; rintro e w5 ⟨rfl, hb⟩; exact ⟨_, rfl, rfl, hb⟩
    simp only [Act.put, List.setIfInBounds_toArray, List.set_cons_zero, List.set_cons_succ]
    first | (apply lxN (j := 13) (d := 52) (b := true) rfl rfl rfl rfl; simp only [Act.put, List.setIfInBounds_toArray, List.set_cons_zero, List.set_cons_succ]) | (apply lxN' (j := 13) (d := 52) (b := true) rfl rfl rfl; simp only [Act.put, List.setIfInBounds_toArray, List.set_cons_zero, List.set_cons_succ]) | (apply lxF0 (wantsg (j := 13) (d := 52) (b := true) rfl rfl rfl rfl); (· intro w' h0; have hw' := h0.old; have hcc := cellsBelow hw'; go_simp; (try go_bits); exact ⟨rfl, rfl⟩); simp only [Act.put, List.setIfInBounds_toArray, List.set_cons_zero, List.set_cons_succ])
    apply lxE0 (α := Value) (fun vv => vv) (fun vv => [fun w => RefV w vv k]) (wantsg (j := 13) (d := 52) (b := true) rfl rfl rfl rfl)
    · intro w' h0 hK; go_simp; (try go_bits); refine (rof_any k w' HKB.out).mono ?_; rintro e w5 ⟨x, rfl, hx, hb⟩; exact ⟨_, rfl, hb, fun w6 h6 => hx.below h6⟩
    intro v57
    simp only [Act.put, List.setIfInBounds_toArray, List.set_cons_zero, List.set_cons_succ]
    apply lxH0 (wantsg (j := 13) (d := 52) (b := true) rfl rfl rfl rfl)
    · intro w' h0 hK; go_simp; (try go_bits); refine (rbits_any _ k w' (hK.get (F := fun w => RefV w _ k) (by repeat (first | exact List.mem_cons_self .. | apply List.mem_cons_of_mem))) (by have := HL2.out.d6; omega)).mono ?_; rintro e w5 ⟨rfl, hb⟩; exact ⟨_, rfl, rfl, hb⟩
    simp only [Act.put, List.setIfInBounds_toArray, List.set_cons_zero, List.set_cons_succ]
    first | (apply lxN (j := 13) (d := 52) (b := true) rfl rfl rfl rfl; simp only [Act.put, List.setIfInBounds_toArray, List.set_cons_zero, List.set_cons_succ]) | (apply lxN' (j := 13) (d := 52) (b := true) rfl rfl rfl; simp only [Act.put, List.setIfInBounds_toArray, List.set_cons_zero, List.set_cons_succ]) | (apply lxF0 (wantsg (j := 13) (d := 52) (b := true) rfl rfl rfl rfl); (· intro w' h0; have hw' := h0.old; have hcc := cellsBelow hw'; go_simp; (try go_bits); exact ⟨rfl, rfl⟩); simp only [Act.put, List.setIfInBounds_toArray, List.set_cons_zero, List.set_cons_succ])
    apply lxF0 (wants0 rfl); (· intro w' h0; have hw' := h0.old; have hcc := cellsBelow hw'; go_simp; (try go_bits); exact ⟨rfl, rfl⟩); simp only [Act.put, List.setIfInBounds_toArray, List.set_cons_zero, List.set_cons_succ]
    apply lxF0 (wants0 rfl); (· intro w' h0; have hw' := h0.old; have hcc := cellsBelow hw'; go_simp; (try go_bits); exact ⟨rfl, rfl⟩); simp only [Act.put, List.setIfInBounds_toArray, List.set_cons_zero, List.set_cons_succ]
    first | (apply lxN (j := 22) (d := 61) (b := true) rfl rfl rfl rfl; simp only [Act.put, List.setIfInBounds_toArray, List.set_cons_zero, List.set_cons_succ]) | (apply lxN' (j := 22) (d := 61) (b := true) rfl rfl rfl; simp only [Act.put, List.setIfInBounds_toArray, List.set_cons_zero, List.set_cons_succ]) | (apply lxF0 (wantsg (j := 22) (d := 61) (b := true) rfl rfl rfl rfl); (· intro w' h0; have hw' := h0.old; have hcc := cellsBelow hw'; go_simp; (try go_bits); exact ⟨rfl, rfl⟩); simp only [Act.put, List.setIfInBounds_toArray, List.set_cons_zero, List.set_cons_succ])
    first | (apply lxN (j := 22) (d := 61) (b := true) rfl rfl rfl rfl; simp only [Act.put, List.setIfInBounds_toArray, List.set_cons_zero, List.set_cons_succ]) | (apply lxN' (j := 22) (d := 61) (b := true) rfl rfl rfl; simp only [Act.put, List.setIfInBounds_toArray, List.set_cons_zero, List.set_cons_succ]) | (apply lxF0 (wantsg (j := 22) (d := 61) (b := true) rfl rfl rfl rfl); (· intro w' h0; have hw' := h0.old; have hcc := cellsBelow hw'; go_simp; (try go_bits); exact ⟨rfl, rfl⟩); simp only [Act.put, List.setIfInBounds_toArray, List.set_cons_zero, List.set_cons_succ])
    first | (apply lxN (j := 22) (d := 61) (b := true) rfl rfl rfl rfl; simp only [Act.put, List.setIfInBounds_toArray, List.set_cons_zero, List.set_cons_succ]) | (apply lxN' (j := 22) (d := 61) (b := true) rfl rfl rfl; simp only [Act.put, List.setIfInBounds_toArray, List.set_cons_zero, List.set_cons_succ]) | (apply lxF0 (wantsg (j := 22) (d := 61) (b := true) rfl rfl rfl rfl); (· intro w' h0; have hw' := h0.old; have hcc := cellsBelow hw'; go_simp; (try go_bits); exact ⟨rfl, rfl⟩); simp only [Act.put, List.setIfInBounds_toArray, List.set_cons_zero, List.set_cons_succ])
    apply lxF0 (wants0 rfl); (· intro w' h0; have hw' := h0.old; have hcc := cellsBelow hw'; go_simp; (try go_bits); exact ⟨rfl, rfl⟩); simp only [Act.put, List.setIfInBounds_toArray, List.set_cons_zero, List.set_cons_succ]
    apply lxF0 (wants0 rfl); (· intro w' h0; have hw' := h0.old; have hcc := cellsBelow hw'; go_simp; (try go_bits); exact ⟨rfl, rfl⟩); simp only [Act.put, List.setIfInBounds_toArray, List.set_cons_zero, List.set_cons_succ]
    first | (apply lxN (j := 27) (d := 66) (b := true) rfl rfl rfl rfl; simp only [Act.put, List.setIfInBounds_toArray, List.set_cons_zero, List.set_cons_succ]) | (apply lxN' (j := 27) (d := 66) (b := true) rfl rfl rfl; simp only [Act.put, List.setIfInBounds_toArray, List.set_cons_zero, List.set_cons_succ]) | (apply lxF0 (wantsg (j := 27) (d := 66) (b := true) rfl rfl rfl rfl); (· intro w' h0; have hw' := h0.old; have hcc := cellsBelow hw'; go_simp; (try go_bits); exact ⟨rfl, rfl⟩); simp only [Act.put, List.setIfInBounds_toArray, List.set_cons_zero, List.set_cons_succ])
    first | (apply lxN (j := 27) (d := 66) (b := true) rfl rfl rfl rfl; simp only [Act.put, List.setIfInBounds_toArray, List.set_cons_zero, List.set_cons_succ]) | (apply lxN' (j := 27) (d := 66) (b := true) rfl rfl rfl; simp only [Act.put, List.setIfInBounds_toArray, List.set_cons_zero, List.set_cons_succ]) | (apply lxF0 (wantsg (j := 27) (d := 66) (b := true) rfl rfl rfl rfl); (· intro w' h0; have hw' := h0.old; have hcc := cellsBelow hw'; go_simp; (try go_bits); exact ⟨rfl, rfl⟩); simp only [Act.put, List.setIfInBounds_toArray, List.set_cons_zero, List.set_cons_succ])
    first | (apply lxN (j := 27) (d := 66) (b := true) rfl rfl rfl rfl; simp only [Act.put, List.setIfInBounds_toArray, List.set_cons_zero, List.set_cons_succ]) | (apply lxN' (j := 27) (d := 66) (b := true) rfl rfl rfl; simp only [Act.put, List.setIfInBounds_toArray, List.set_cons_zero, List.set_cons_succ]) | (apply lxF0 (wantsg (j := 27) (d := 66) (b := true) rfl rfl rfl rfl); (· intro w' h0; have hw' := h0.old; have hcc := cellsBelow hw'; go_simp; (try go_bits); exact ⟨rfl, rfl⟩); simp only [Act.put, List.setIfInBounds_toArray, List.set_cons_zero, List.set_cons_succ])
    apply lxF0 (wants0 rfl); (· intro w' h0; have hw' := h0.old; have hcc := cellsBelow hw'; go_simp; (try go_bits); exact ⟨rfl, rfl⟩); simp only [Act.put, List.setIfInBounds_toArray, List.set_cons_zero, List.set_cons_succ]
    apply lxF0 (wants0 rfl); (· intro w' h0; have hw' := h0.old; have hcc := cellsBelow hw'; go_simp; (try go_bits); exact ⟨rfl, rfl⟩); simp only [Act.put, List.setIfInBounds_toArray, List.set_cons_zero, List.set_cons_succ]
    first | (apply lxN (j := 32) (d := 71) (b := true) rfl rfl rfl rfl; simp only [Act.put, List.setIfInBounds_toArray, List.set_cons_zero, List.set_cons_succ]) | (apply lxN' (j := 32) (d := 71) (b := true) rfl rfl rfl; simp only [Act.put, List.setIfInBounds_toArray, List.set_cons_zero, List.set_cons_succ]) | (apply lxF0 (wantsg (j := 32) (d := 71) (b := true) rfl rfl rfl rfl); (· intro w' h0; have hw' := h0.old; have hcc := cellsBelow hw'; go_simp; (try go_bits); exact ⟨rfl, rfl⟩); simp only [Act.put, List.setIfInBounds_toArray, List.set_cons_zero, List.set_cons_succ])
    apply lxH0 (wantsg (j := 32) (d := 71) (b := true) rfl rfl rfl rfl)
    · intro w' h0 hK; go_simp; (try go_bits); refine (bits_any _ n w' (hK.get (F := fun w => NatV w _ n) (by repeat (first | exact List.mem_cons_self .. | apply List.mem_cons_of_mem))) (by have := HL1.out.d32; omega)).mono ?_; rintro e w5 ⟨rfl, hb⟩; exact ⟨_, rfl, rfl, hb⟩
    simp only [Act.put, List.setIfInBounds_toArray, List.set_cons_zero, List.set_cons_succ]
    first | (apply lxN (j := 32) (d := 71) (b := true) rfl rfl rfl rfl; simp only [Act.put, List.setIfInBounds_toArray, List.set_cons_zero, List.set_cons_succ]) | (apply lxN' (j := 32) (d := 71) (b := true) rfl rfl rfl; simp only [Act.put, List.setIfInBounds_toArray, List.set_cons_zero, List.set_cons_succ]) | (apply lxF0 (wantsg (j := 32) (d := 71) (b := true) rfl rfl rfl rfl); (· intro w' h0; have hw' := h0.old; have hcc := cellsBelow hw'; go_simp; (try go_bits); exact ⟨rfl, rfl⟩); simp only [Act.put, List.setIfInBounds_toArray, List.set_cons_zero, List.set_cons_succ])
    apply lxH0 (wantsg (j := 32) (d := 71) (b := true) rfl rfl rfl rfl)
    · intro w' h0 hK; go_simp; (try go_bits); refine (rbits_any _ n w' (hK.get (F := fun w => RefV w _ n) (by repeat (first | exact List.mem_cons_self .. | apply List.mem_cons_of_mem))) (by have := HL1.out.d6; omega)).mono ?_; rintro e w5 ⟨rfl, hb⟩; exact ⟨_, rfl, rfl, hb⟩
    simp only [Act.put, List.setIfInBounds_toArray, List.set_cons_zero, List.set_cons_succ]
    first | (apply lxN (j := 32) (d := 71) (b := true) rfl rfl rfl rfl; simp only [Act.put, List.setIfInBounds_toArray, List.set_cons_zero, List.set_cons_succ]) | (apply lxN' (j := 32) (d := 71) (b := true) rfl rfl rfl; simp only [Act.put, List.setIfInBounds_toArray, List.set_cons_zero, List.set_cons_succ]) | (apply lxF0 (wantsg (j := 32) (d := 71) (b := true) rfl rfl rfl rfl); (· intro w' h0; have hw' := h0.old; have hcc := cellsBelow hw'; go_simp; (try go_bits); exact ⟨rfl, rfl⟩); simp only [Act.put, List.setIfInBounds_toArray, List.set_cons_zero, List.set_cons_succ])
    apply lxF0 (wants0 rfl); (· intro w' h0; have hw' := h0.old; have hcc := cellsBelow hw'; go_simp; (try go_bits); exact ⟨rfl, rfl⟩); simp only [Act.put, List.setIfInBounds_toArray, List.set_cons_zero, List.set_cons_succ]
    apply lxF0 (wants0 rfl); (· intro w' h0; have hw' := h0.old; have hcc := cellsBelow hw'; go_simp; (try go_bits); exact ⟨rfl, rfl⟩); simp only [Act.put, List.setIfInBounds_toArray, List.set_cons_zero, List.set_cons_succ]
    first | (apply lxN (j := 39) (d := 78) (b := true) rfl rfl rfl rfl; simp only [Act.put, List.setIfInBounds_toArray, List.set_cons_zero, List.set_cons_succ]) | (apply lxN' (j := 39) (d := 78) (b := true) rfl rfl rfl; simp only [Act.put, List.setIfInBounds_toArray, List.set_cons_zero, List.set_cons_succ]) | (apply lxF0 (wantsg (j := 39) (d := 78) (b := true) rfl rfl rfl rfl); (· intro w' h0; have hw' := h0.old; have hcc := cellsBelow hw'; go_simp; (try go_bits); exact ⟨rfl, rfl⟩); simp only [Act.put, List.setIfInBounds_toArray, List.set_cons_zero, List.set_cons_succ])
    apply lxH0 (wantsg (j := 39) (d := 78) (b := true) rfl rfl rfl rfl)
    · intro w' h0 hK; go_simp; (try go_bits); refine (isZero_any _ n w' (hK.get (F := fun w => NatV w _ n) (by repeat (first | exact List.mem_cons_self .. | apply List.mem_cons_of_mem)))).mono ?_; rintro e w5 ⟨rfl, hb⟩; exact ⟨_, rfl, rfl, hb⟩
    simp only [Act.put, List.setIfInBounds_toArray, List.set_cons_zero, List.set_cons_succ]
    first | (apply lxN (j := 39) (d := 78) (b := true) rfl rfl rfl rfl; simp only [Act.put, List.setIfInBounds_toArray, List.set_cons_zero, List.set_cons_succ]) | (apply lxN' (j := 39) (d := 78) (b := true) rfl rfl rfl; simp only [Act.put, List.setIfInBounds_toArray, List.set_cons_zero, List.set_cons_succ]) | (apply lxF0 (wantsg (j := 39) (d := 78) (b := true) rfl rfl rfl rfl); (· intro w' h0; have hw' := h0.old; have hcc := cellsBelow hw'; go_simp; (try go_bits); exact ⟨rfl, rfl⟩); simp only [Act.put, List.setIfInBounds_toArray, List.set_cons_zero, List.set_cons_succ])
    first | (apply lxN (j := 39) (d := 78) (b := true) rfl rfl rfl rfl; simp only [Act.put, List.setIfInBounds_toArray, List.set_cons_zero, List.set_cons_succ]) | (apply lxN' (j := 39) (d := 78) (b := true) rfl rfl rfl; simp only [Act.put, List.setIfInBounds_toArray, List.set_cons_zero, List.set_cons_succ]) | (apply lxF0 (wantsg (j := 39) (d := 78) (b := true) rfl rfl rfl rfl); (· intro w' h0; have hw' := h0.old; have hcc := cellsBelow hw'; go_simp; (try go_bits); exact ⟨rfl, rfl⟩); simp only [Act.put, List.setIfInBounds_toArray, List.set_cons_zero, List.set_cons_succ])
    first | (apply lxN (j := 39) (d := 78) (b := true) rfl rfl rfl rfl; simp only [Act.put, List.setIfInBounds_toArray, List.set_cons_zero, List.set_cons_succ]) | (apply lxN' (j := 39) (d := 78) (b := true) rfl rfl rfl; simp only [Act.put, List.setIfInBounds_toArray, List.set_cons_zero, List.set_cons_succ]) | (apply lxF0 (wantsg (j := 39) (d := 78) (b := true) rfl rfl rfl rfl); (· intro w' h0; have hw' := h0.old; have hcc := cellsBelow hw'; go_simp; (try go_bits); exact ⟨rfl, rfl⟩); simp only [Act.put, List.setIfInBounds_toArray, List.set_cons_zero, List.set_cons_succ])
    first | (apply lxN (j := 39) (d := 78) (b := true) rfl rfl rfl rfl; simp only [Act.put, List.setIfInBounds_toArray, List.set_cons_zero, List.set_cons_succ]) | (apply lxN' (j := 39) (d := 78) (b := true) rfl rfl rfl; simp only [Act.put, List.setIfInBounds_toArray, List.set_cons_zero, List.set_cons_succ]) | (apply lxF0 (wantsg (j := 39) (d := 78) (b := true) rfl rfl rfl rfl); (· intro w' h0; have hw' := h0.old; have hcc := cellsBelow hw'; go_simp; (try go_bits); exact ⟨rfl, rfl⟩); simp only [Act.put, List.setIfInBounds_toArray, List.set_cons_zero, List.set_cons_succ])
    apply lxF0 (wants0 rfl); (· intro w' h0; have hw' := h0.old; have hcc := cellsBelow hw'; go_simp; (try go_bits); exact ⟨rfl, rfl⟩); simp only [Act.put, List.setIfInBounds_toArray, List.set_cons_zero, List.set_cons_succ]
    apply lxF0 (wants0 rfl); (· intro w' h0; have hw' := h0.old; have hcc := cellsBelow hw'; go_simp; (try go_bits); exact ⟨rfl, rfl⟩); simp only [Act.put, List.setIfInBounds_toArray, List.set_cons_zero, List.set_cons_succ]
    first | (apply lxN (j := 47) (d := 86) (b := true) rfl rfl rfl rfl; simp only [Act.put, List.setIfInBounds_toArray, List.set_cons_zero, List.set_cons_succ]) | (apply lxN' (j := 47) (d := 86) (b := true) rfl rfl rfl; simp only [Act.put, List.setIfInBounds_toArray, List.set_cons_zero, List.set_cons_succ]) | (apply lxF0 (wantsg (j := 47) (d := 86) (b := true) rfl rfl rfl rfl); (· intro w' h0; have hw' := h0.old; have hcc := cellsBelow hw'; go_simp; (try go_bits); exact ⟨rfl, rfl⟩); simp only [Act.put, List.setIfInBounds_toArray, List.set_cons_zero, List.set_cons_succ])
    apply lxE0 (α := Value) (fun vv => vv) (fun vv => [fun w => NatV w vv k]) (wantsg (j := 47) (d := 86) (b := true) rfl rfl rfl rfl)
    · intro w' h0 hK; go_simp; (try go_bits); refine (of_any k w' HKB.out).mono ?_; rintro e w5 ⟨x, rfl, hx, hb⟩; exact ⟨_, rfl, hb, fun w6 h6 => hx.below h6⟩
    intro v88
    simp only [Act.put, List.setIfInBounds_toArray, List.set_cons_zero, List.set_cons_succ]
    apply lxH0 (wantsg (j := 47) (d := 86) (b := true) rfl rfl rfl rfl)
    · intro w' h0 hK; go_simp; (try go_bits); refine (isZero_any _ k w' (hK.get (F := fun w => NatV w _ k) (by repeat (first | exact List.mem_cons_self .. | apply List.mem_cons_of_mem)))).mono ?_; rintro e w5 ⟨rfl, hb⟩; exact ⟨_, rfl, rfl, hb⟩
    simp only [Act.put, List.setIfInBounds_toArray, List.set_cons_zero, List.set_cons_succ]
    first | (apply lxN (j := 47) (d := 86) (b := true) rfl rfl rfl rfl; simp only [Act.put, List.setIfInBounds_toArray, List.set_cons_zero, List.set_cons_succ]) | (apply lxN' (j := 47) (d := 86) (b := true) rfl rfl rfl; simp only [Act.put, List.setIfInBounds_toArray, List.set_cons_zero, List.set_cons_succ]) | (apply lxF0 (wantsg (j := 47) (d := 86) (b := true) rfl rfl rfl rfl); (· intro w' h0; have hw' := h0.old; have hcc := cellsBelow hw'; go_simp; (try go_bits); exact ⟨rfl, rfl⟩); simp only [Act.put, List.setIfInBounds_toArray, List.set_cons_zero, List.set_cons_succ])
    first | (apply lxN (j := 47) (d := 86) (b := true) rfl rfl rfl rfl; simp only [Act.put, List.setIfInBounds_toArray, List.set_cons_zero, List.set_cons_succ]) | (apply lxN' (j := 47) (d := 86) (b := true) rfl rfl rfl; simp only [Act.put, List.setIfInBounds_toArray, List.set_cons_zero, List.set_cons_succ]) | (apply lxF0 (wantsg (j := 47) (d := 86) (b := true) rfl rfl rfl rfl); (· intro w' h0; have hw' := h0.old; have hcc := cellsBelow hw'; go_simp; (try go_bits); exact ⟨rfl, rfl⟩); simp only [Act.put, List.setIfInBounds_toArray, List.set_cons_zero, List.set_cons_succ])
    first | (apply lxN (j := 47) (d := 86) (b := true) rfl rfl rfl rfl; simp only [Act.put, List.setIfInBounds_toArray, List.set_cons_zero, List.set_cons_succ]) | (apply lxN' (j := 47) (d := 86) (b := true) rfl rfl rfl; simp only [Act.put, List.setIfInBounds_toArray, List.set_cons_zero, List.set_cons_succ]) | (apply lxF0 (wantsg (j := 47) (d := 86) (b := true) rfl rfl rfl rfl); (· intro w' h0; have hw' := h0.old; have hcc := cellsBelow hw'; go_simp; (try go_bits); exact ⟨rfl, rfl⟩); simp only [Act.put, List.setIfInBounds_toArray, List.set_cons_zero, List.set_cons_succ])
    apply lxF0 (wants0 rfl); (· intro w' h0; have hw' := h0.old; have hcc := cellsBelow hw'; go_simp; (try go_bits); exact ⟨rfl, rfl⟩); simp only [Act.put, List.setIfInBounds_toArray, List.set_cons_zero, List.set_cons_succ]
    apply lxF0 (wants0 rfl); (· intro w' h0; have hw' := h0.old; have hcc := cellsBelow hw'; go_simp; (try go_bits); exact ⟨rfl, rfl⟩); simp only [Act.put, List.setIfInBounds_toArray, List.set_cons_zero, List.set_cons_succ]
    refine lxEnd (fun W9 hK9 => ?_)
    go_wp2
    go_ret
    exact ⟨rfl, hK.old.trans (hK9.old.mono hK.old.size)⟩
  · rw [decide_eq_false (fun h => hl h.1)] at HS
    go_enter Tryd.func7, Tryd.ntmps7
    go_wp2_with (first
      | (go_at_call 11; refine HA.out.mono ?_; clear HA; rintro e W1 ⟨rfl, hb1⟩)
      | (go_at_call 12; refine (HS.out _).mono ?_; clear HS; rintro e W2 ⟨rfl, rfl⟩))
    go_ret
    exact ⟨rfl, hb1⟩

set_option maxRecDepth 100000 in
set_option maxHeartbeats 8000000 in
theorem natAlgebra_walk (v u t : Value) (ds es cs : List Nat) (w : World) (hv : InV w v ds) (hu : InV w u es) (hw : InV w t cs) (hd : ∀ d ∈ ds, d < B32) (he : ∀ d ∈ es, d < B32) (hf : ∀ d ∈ cs, d < B32) (ht : Tab w) :
    Calls Tryd.prog 10 #[v, u, t] w fun e w' => e = .returned (.bool true) ∧ Below w.heap.size w w' := by
  obtain ⟨p, c, rfl, _⟩ := hv.slice
  obtain ⟨q, c', rfl, _⟩ := hu.slice
  obtain ⟨r, c'', rfl, _⟩ := hw.slice
  have HA := hid (awake_any w ht)
  have HS := hid (fun w1 => small_any p q ds.length es.length c c' w1)
  have HS2 := hid (fun w1 => small_any r none cs.length 0 c'' 0 w1)
  by_cases hl : ds.length ≤ 12 ∧ es.length ≤ 12
  · by_cases hl2 : cs.length ≤ 12
    · rw [decide_eq_true hl] at HS
      rw [decide_eq_true ⟨hl2, (by decide : 0 ≤ 12)⟩] at HS2
      have hX : Lm 12 (val B32 ds) := Nat.lt_of_lt_of_le (val_lt b32_2 hd) (Nat.pow_le_pow_right (by decide) hl.1)
      have hY : Lm 12 (val B32 es) := Nat.lt_of_lt_of_le (val_lt b32_2 he) (Nat.pow_le_pow_right (by decide) hl.2)
      have hZ : Lm 12 (val B32 cs) := Nat.lt_of_lt_of_le (val_lt b32_2 hf) (Nat.pow_le_pow_right (by decide) hl2)
      have HN1 := hid (fun w1 (hb : Below w.heap.size w w1) => number_any _ ds w1 (hv.below hb) hd hl.1)
      have HN2 := hid (fun w1 (hb : Below w.heap.size w w1) => number_any _ es w1 (hu.below hb) he hl.2)
      have HN3 := hid (fun w1 (hb : Below w.heap.size w w1) => number_any _ cs w1 (hw.below hb) hf hl2)
      obtain ⟨x, hx⟩ : ∃ n, val B32 ds = n := ⟨_, rfl⟩
      obtain ⟨y, hy⟩ : ∃ n, val B32 es = n := ⟨_, rfl⟩
      obtain ⟨z, hz⟩ : ∃ n, val B32 cs = n := ⟨_, rfl⟩
      rw [hx] at HN1 hX
      rw [hy] at HN2 hY
      rw [hz] at HN3 hZ
      have hK := (KS.start w).add (F := fun w => Tab w) fun w' hb => ht.below hb
      have LX := hid (hX.lim (by omega))
      have LY := hid (hY.lim (by omega))
      have LZ := hid (hZ.lim (by omega))
      have LXY := hid ((hX.add hY).lim (by omega))
      have LYZ := hid ((hY.add hZ).lim (by omega))
      have LXYZ := hid (((hX.add hY).add hZ).lim (by omega))
      have MXY := hid ((hX.mul hY).lim (by omega))
      have MXZ := hid ((hX.mul hZ).lim (by omega))
      have MYZ := hid ((hY.mul hZ).lim (by omega))
      have MXYZ := hid (((hX.mul hY).mul hZ).lim (by omega))
      have MD := hid ((hX.mul (hY.add hZ)).lim (by omega))
      have LB := hid (((hX.add hY).sub (m := y)).lim (by omega))
      clear hx hy hz hd he hf hv hu hw ht hX hY hZ
      go_enter Tryd.func10, Tryd.ntmps10
      go_upto_region 5 with (first
        | (go_at_call 11; refine HA.out.mono ?_; clear HA; rintro e W1 ⟨rfl, hb1⟩; replace hK := hK.step hb1; clear hb1)
        | (go_at_call 12; refine (HS.out _).mono ?_; clear HS; rintro e W2 ⟨rfl, rfl⟩)
        | (go_at_call 12; refine (HS2.out _).mono ?_; clear HS2; rintro e W2 ⟨rfl, rfl⟩))

      go_upto_region 6 with (go_at_call 13; refine (HN1.out _ hK.old).mono ?_; clear HN1; rintro e W3 ⟨xv, y1, rfl, hx, hy, hw⟩; obtain ⟨p1, c1, rfl, _⟩ := hx.dig; replace hK := ((hK.step hw).add (F := fun w => NatV w (.agg #[.slice p1 (digs B32 x).length c1]) x) fun w' h => hx.below h).add (F := fun w => RefV w y1 x) fun w' h => hy.below h; clear hx hy hw)
      obtain ⟨V1, hV1, hKV⟩ : ∃ V1, V1 = W3.alloc (.cells #[.slice p1 (digs B32 x).length c1] 26) ∧ KS w _ V1 := ⟨_, rfl, hK.box _⟩
      rw [← hV1]
      clear hV1 hK
      have hK := hKV
      clear hKV
      generalize W3.heap.size = R1 at hK ⊢
      go_upto_region 7 with (go_at_call 13; refine (HN2.out _ hK.old).mono ?_; clear HN2; rintro e W4 ⟨xv, y2, rfl, hx, hy, hw⟩; obtain ⟨p2, c2, rfl, _⟩ := hx.dig; replace hK := ((hK.step hw).add (F := fun w => NatV w (.agg #[.slice p2 (digs B32 y).length c2]) y) fun w' h => hx.below h).add (F := fun w => RefV w y2 y) fun w' h => hy.below h; clear hx hy hw)
      obtain ⟨V2, hV2, hKV⟩ : ∃ V2, V2 = W4.alloc (.cells #[.slice p2 (digs B32 y).length c2] 26) ∧ KS w _ V2 := ⟨_, rfl, hK.box _⟩
      rw [← hV2]
      clear hV2 hK
      have hK := hKV
      clear hKV
      generalize W4.heap.size = R2 at hK ⊢
      go_upto_region 8 with (go_at_call 13; refine (HN3.out _ hK.old).mono ?_; clear HN3; rintro e W5 ⟨xv, y3, rfl, hx, hy, hw⟩; obtain ⟨p3, c3, rfl, _⟩ := hx.dig; replace hK := ((hK.step hw).add (F := fun w => NatV w (.agg #[.slice p3 (digs B32 z).length c3]) z) fun w' h => hx.below h).add (F := fun w => RefV w y3 z) fun w' h => hy.below h; clear hx hy hw)
      obtain ⟨V3, hV3, hKV⟩ : ∃ V3, V3 = W5.alloc (.cells #[.slice p3 (digs B32 z).length c3] 26) ∧ KS w _ V3 := ⟨_, rfl, hK.box _⟩
      rw [← hV3]
      clear hV3 hK
      have hK := hKV
      clear hKV
      generalize W5.heap.size = R3 at hK ⊢
      have kA := hK.get (F := Has 0 R1 (.cells #[.slice p1 (digs B32 x).length c1] 26)) (by repeat (first | exact List.mem_cons_self .. | apply List.mem_cons_of_mem))
      have kB := hK.get (F := Has 0 R2 (.cells #[.slice p2 (digs B32 y).length c2] 26)) (by repeat (first | exact List.mem_cons_self .. | apply List.mem_cons_of_mem))
      have kC := hK.get (F := Has 0 R3 (.cells #[.slice p3 (digs B32 z).length c3] 26)) (by repeat (first | exact List.mem_cons_self .. | apply List.mem_cons_of_mem))
      have d0 := kA.cell
      have d1 := kB.cell
      have d2 := kC.cell
      have b0 := kA.lt
      have b1 := kB.lt
      have b2 := kC.lt
      refine wp_region_float (V3) _ [0, 0, 2, 0, 2, 0, 0, 0, 3, 4, 0] (by kernel_rfl) (by kernel_rfl) (by kernel_rfl) (by kernel_rfl) (KS.drew hK.re) ?_
      apply lxF0 (wants0 rfl); (· intro w' h0; have hw' := h0.old; have hcc := cellsBelow hw'; go_simp; (try go_bits); exact ⟨rfl, rfl⟩); simp only [Act.put, List.setIfInBounds_toArray, List.set_cons_zero, List.set_cons_succ]
      apply lxF0 (wants0 rfl); (· intro w' h0; have hw' := h0.old; have hcc := cellsBelow hw'; go_simp; (try go_bits); exact ⟨rfl, rfl⟩); simp only [Act.put, List.setIfInBounds_toArray, List.set_cons_zero, List.set_cons_succ]
      apply lxE0 (α := Value) (fun vv => vv) (fun vv => [fun w => NatV w vv (x + y)]) (wants0 rfl)
      · intro w' h0 hK; go_simp; (try go_bits); refine (add_any _ _ (x) (y) w' (hK.get (F := fun w => NatV w _ (x)) (by repeat (first | exact List.mem_cons_self .. | apply List.mem_cons_of_mem))) (hK.get (F := fun w => NatV w _ (y)) (by repeat (first | exact List.mem_cons_self .. | apply List.mem_cons_of_mem))) (by have := LX.out.d32; omega) (by have := LY.out.d32; omega)).mono ?_; rintro e w5 ⟨x, rfl, hx, hb⟩; exact ⟨_, rfl, hb, fun w6 h6 => hx.below h6⟩
      intro v44
      simp only [Act.put, List.setIfInBounds_toArray, List.set_cons_zero, List.set_cons_succ]
      apply lxF0 (wants0 rfl); (· intro w' h0; have hw' := h0.old; have hcc := cellsBelow hw'; go_simp; (try go_bits); exact ⟨rfl, rfl⟩); simp only [Act.put, List.setIfInBounds_toArray, List.set_cons_zero, List.set_cons_succ]
      apply lxE0 (α := Option Addr × Nat) (fun q => .tuple #[.agg #[.slice q.1 (digs B32 x).length q.2], .int .i64 0]) (fun q => [fun w => NatV w (.agg #[.slice q.1 (digs B32 x).length q.2]) x]) (wants0 rfl)
      · intro w' h0 hK; go_simp; (try go_bits); refine (sub_any _ _ (x + y) y w' (hK.get (F := fun w => NatV w _ (x + y)) (by repeat (first | exact List.mem_cons_self .. | apply List.mem_cons_of_mem))) (hK.get (F := fun w => NatV w _ y) (by repeat (first | exact List.mem_cons_self .. | apply List.mem_cons_of_mem))) (by have := LXY.out.d32; omega) (by have := LY.out.d32; omega)).mono ?_; rintro e w5 ⟨qv, rfl, hq, hb⟩; rw [Nat.add_sub_cancel] at hq; obtain ⟨p5, c5, rfl, _⟩ := hq.dig; refine ⟨_, rfl, p5, c5, ?_, hb, fun w6 h6 => hq.below h6⟩; rw [if_neg (by omega)]
      rintro ⟨p4, c4⟩
      simp only [Act.put, List.setIfInBounds_toArray, List.set_cons_zero, List.set_cons_succ]
      apply lxF0 (wants0 rfl); (· intro w' h0; have hw' := h0.old; have hcc := cellsBelow hw'; go_simp; (try go_bits); exact ⟨rfl, rfl⟩); simp only [Act.put, List.setIfInBounds_toArray, List.set_cons_zero, List.set_cons_succ]
      apply lxF0 (wants0 rfl); (· intro w' h0; have hw' := h0.old; have hcc := cellsBelow hw'; go_simp; (try go_bits); exact ⟨rfl, rfl⟩); simp only [Act.put, List.setIfInBounds_toArray, List.set_cons_zero, List.set_cons_succ]
      apply lxF0 (wants0 rfl); (· intro w' h0; have hw' := h0.old; have hcc := cellsBelow hw'; go_simp; (try go_bits); exact ⟨rfl, rfl⟩); simp only [Act.put, List.setIfInBounds_toArray, List.set_cons_zero, List.set_cons_succ]
      apply lxA0 (.cells #[.slice none 0 0] 26) (wants0 rfl)
      · intro w' h0; go_simp; rfl
      intro R4
      simp only [mkOf, Act.put, List.setIfInBounds_toArray, List.set_cons_zero, List.set_cons_succ]
      apply lxS0 [Has 0 R4 (.cells #[.slice p4 (digs B32 x).length c4] 26), fun w => NatV w (.agg #[.slice p4 (digs B32 x).length c4]) x] (wants0 rfl)
      · intro w' h0 hK; have hR := hK.get (F := Has V3.heap.size R4 (.cells #[.slice none 0 0] 26)) (by repeat (first | exact List.mem_cons_self .. | apply List.mem_cons_of_mem)); have c4' := hR.cell; have f4' := hR.free; have hN4 := hK.get (F := fun w => NatV w (.agg #[.slice p4 (digs B32 x).length c4]) x) (by repeat (first | exact List.mem_cons_self .. | apply List.mem_cons_of_mem)); go_simp; refine ⟨rfl, ⟨hK.old.setCell (p := ⟨R4, 0, none⟩) hR.1 _, fun _ h => absurd h List.not_mem_nil⟩, hK.old.setCell (p := ⟨R4, 0, none⟩) hR.1 _, fun F hF => ?_⟩; simp only [List.mem_cons, List.not_mem_nil, or_false] at hF; rcases hF with rfl | rfl; exact fun w' hb => Has.below ⟨Nat.zero_le _, box_store hR.2 _⟩ hb; exact fun w' hb => (hN4.store c4' _).below hb
      simp only [Act.put]
      apply lxF0 (wants0 rfl); (· intro w' h0; have hw' := h0.old; have hcc := cellsBelow hw'; go_simp; (try go_bits); exact ⟨rfl, rfl⟩); simp only [Act.put, List.setIfInBounds_toArray, List.set_cons_zero, List.set_cons_succ]
      refine lxEnd (fun W9 hK9 => ?_)
      replace hK := (hK.step hK9.old).app (l' := [_, _]) hK9.all
      replace kA := hK.get (F := Has 0 R1 (.cells #[.slice p1 (digs B32 x).length c1] 26)) (by repeat (first | exact List.mem_cons_self .. | apply List.mem_cons_of_mem))
      replace kB := hK.get (F := Has 0 R2 (.cells #[.slice p2 (digs B32 y).length c2] 26)) (by repeat (first | exact List.mem_cons_self .. | apply List.mem_cons_of_mem))
      replace kC := hK.get (F := Has 0 R3 (.cells #[.slice p3 (digs B32 z).length c3] 26)) (by repeat (first | exact List.mem_cons_self .. | apply List.mem_cons_of_mem))
      have kD := hK.get (F := Has 0 R4 (.cells #[.slice p4 (digs B32 x).length c4] 26)) (by repeat (first | exact List.mem_cons_self .. | apply List.mem_cons_of_mem))
      replace d0 := kA.cell
      replace d1 := kB.cell
      replace d2 := kC.cell
      have d3 := kD.cell
      replace b0 := kA.lt
      replace b1 := kB.lt
      replace b2 := kC.lt
      have b3 := kD.lt
      clear hK9
      go_upto_region 9 with (fail)
      refine wp_region_float (W9) _ (0 :: 0 :: 2 :: 0 :: 0 :: 2 :: 1 :: 0 :: 0 :: 0 :: 2 :: 0 :: 2 :: 0 :: 0 :: 0 :: 2 :: 2 :: 1 :: 0 :: 0 :: 0 :: 0 :: 2 :: 0 :: 0 :: 2 :: 1 :: 0 :: 0 :: 0 :: 0 :: 2 :: 0 :: 2 :: 0 :: 0 :: 0 :: 2 :: 2 :: 1 :: 0 :: 0 :: 0 :: 0 :: 0 :: 2 :: 2 :: 0 :: 0 :: 2 :: 0 :: 0 :: 2 :: 2 :: 1 :: 0 :: 0 :: 0 :: 0 :: 0 :: 0 :: 0 :: 0 :: 1 :: 0 :: 0 :: []) (by kernel_rfl) (by kernel_rfl) (by kernel_rfl) (by kernel_rfl) (KS.drew hK.re) ?_
      apply lxF0 (wants0 rfl); (· intro w' h0; have hw' := h0.old; have hcc := cellsBelow hw'; go_simp; (try go_bits); exact ⟨rfl, rfl⟩); simp only [Act.put, List.setIfInBounds_toArray, List.set_cons_zero, List.set_cons_succ]
      apply lxF0 (wants0 rfl); (· intro w' h0; have hw' := h0.old; have hcc := cellsBelow hw'; go_simp; (try go_bits); exact ⟨rfl, rfl⟩); simp only [Act.put, List.setIfInBounds_toArray, List.set_cons_zero, List.set_cons_succ]
      apply lxE0 (α := Value) (fun vv => vv) (fun vv => [fun w => NatV w vv (x + y)]) (wants0 rfl)
      · intro w' h0 hK; go_simp; (try go_bits); refine (add_any _ _ (x) (y) w' (hK.get (F := fun w => NatV w _ (x)) (by repeat (first | exact List.mem_cons_self .. | apply List.mem_cons_of_mem))) (hK.get (F := fun w => NatV w _ (y)) (by repeat (first | exact List.mem_cons_self .. | apply List.mem_cons_of_mem))) (by have := LX.out.d32; omega) (by have := LY.out.d32; omega)).mono ?_; rintro e w5 ⟨x, rfl, hx, hb⟩; exact ⟨_, rfl, hb, fun w6 h6 => hx.below h6⟩
      intro v51
      simp only [Act.put, List.setIfInBounds_toArray, List.set_cons_zero, List.set_cons_succ]
      apply lxF0 (wants0 rfl); (· intro w' h0; have hw' := h0.old; have hcc := cellsBelow hw'; go_simp; (try go_bits); exact ⟨rfl, rfl⟩); simp only [Act.put, List.setIfInBounds_toArray, List.set_cons_zero, List.set_cons_succ]
      apply lxF0 (wants0 rfl); (· intro w' h0; have hw' := h0.old; have hcc := cellsBelow hw'; go_simp; (try go_bits); exact ⟨rfl, rfl⟩); simp only [Act.put, List.setIfInBounds_toArray, List.set_cons_zero, List.set_cons_succ]
      apply lxE0 (α := Value) (fun vv => vv) (fun vv => [fun w => NatV w vv (y + x)]) (wants0 rfl)
      · intro w' h0 hK; go_simp; (try go_bits); refine (add_any _ _ (y) (x) w' (hK.get (F := fun w => NatV w _ (y)) (by repeat (first | exact List.mem_cons_self .. | apply List.mem_cons_of_mem))) (hK.get (F := fun w => NatV w _ (x)) (by repeat (first | exact List.mem_cons_self .. | apply List.mem_cons_of_mem))) (by have := LY.out.d32; omega) (by have := LX.out.d32; omega)).mono ?_; rintro e w5 ⟨x, rfl, hx, hb⟩; exact ⟨_, rfl, hb, fun w6 h6 => hx.below h6⟩
      intro v54
      simp only [Act.put, List.setIfInBounds_toArray, List.set_cons_zero, List.set_cons_succ]
      apply lxH0 (wants0 rfl)
      · intro w' h0 hK; go_simp; (try go_bits); refine (same_yes _ _ (x + y) (y + x) w' (hK.get (F := fun w => NatV w _ (x + y)) (by repeat (first | exact List.mem_cons_self .. | apply List.mem_cons_of_mem))) (hK.get (F := fun w => NatV w _ (y + x)) (by repeat (first | exact List.mem_cons_self .. | apply List.mem_cons_of_mem))) (hK.get (F := fun w => Tab w) (by repeat (first | exact List.mem_cons_self .. | apply List.mem_cons_of_mem))) LXY.out (Nat.add_comm x y)).mono ?_; rintro e w5 ⟨rfl, hb⟩; exact ⟨_, rfl, rfl, hb⟩
      simp only [Act.put, List.setIfInBounds_toArray, List.set_cons_zero, List.set_cons_succ]
      apply lxF0 (wants0 rfl); (· intro w' h0; have hw' := h0.old; have hcc := cellsBelow hw'; go_simp; (try go_bits); exact ⟨rfl, rfl⟩); simp only [Act.put, List.setIfInBounds_toArray, List.set_cons_zero, List.set_cons_succ]
      first | (apply lxN (j := 7) (d := 56) (b := true) rfl rfl rfl rfl; simp only [Act.put, List.setIfInBounds_toArray, List.set_cons_zero, List.set_cons_succ]) | (apply lxN' (j := 7) (d := 56) (b := true) rfl rfl rfl; simp only [Act.put, List.setIfInBounds_toArray, List.set_cons_zero, List.set_cons_succ]) | (apply lxF0 (wantsg (j := 7) (d := 56) (b := true) rfl rfl rfl rfl); (· intro w' h0; have hw' := h0.old; have hcc := cellsBelow hw'; go_simp; (try go_bits); exact ⟨rfl, rfl⟩); simp only [Act.put, List.setIfInBounds_toArray, List.set_cons_zero, List.set_cons_succ])
      first | (apply lxN (j := 7) (d := 56) (b := true) rfl rfl rfl rfl; simp only [Act.put, List.setIfInBounds_toArray, List.set_cons_zero, List.set_cons_succ]) | (apply lxN' (j := 7) (d := 56) (b := true) rfl rfl rfl; simp only [Act.put, List.setIfInBounds_toArray, List.set_cons_zero, List.set_cons_succ]) | (apply lxF0 (wantsg (j := 7) (d := 56) (b := true) rfl rfl rfl rfl); (· intro w' h0; have hw' := h0.old; have hcc := cellsBelow hw'; go_simp; (try go_bits); exact ⟨rfl, rfl⟩); simp only [Act.put, List.setIfInBounds_toArray, List.set_cons_zero, List.set_cons_succ])
      apply lxE0 (α := Value) (fun vv => vv) (fun vv => [fun w => NatV w vv (x + y)]) (wantsg (j := 7) (d := 56) (b := true) rfl rfl rfl rfl)
      · intro w' h0 hK; go_simp; (try go_bits); refine (add_any _ _ (x) (y) w' (hK.get (F := fun w => NatV w _ (x)) (by repeat (first | exact List.mem_cons_self .. | apply List.mem_cons_of_mem))) (hK.get (F := fun w => NatV w _ (y)) (by repeat (first | exact List.mem_cons_self .. | apply List.mem_cons_of_mem))) (by have := LX.out.d32; omega) (by have := LY.out.d32; omega)).mono ?_; rintro e w5 ⟨x, rfl, hx, hb⟩; exact ⟨_, rfl, hb, fun w6 h6 => hx.below h6⟩
      intro v59
      simp only [Act.put, List.setIfInBounds_toArray, List.set_cons_zero, List.set_cons_succ]
      first | (apply lxN (j := 7) (d := 56) (b := true) rfl rfl rfl rfl; simp only [Act.put, List.setIfInBounds_toArray, List.set_cons_zero, List.set_cons_succ]) | (apply lxN' (j := 7) (d := 56) (b := true) rfl rfl rfl; simp only [Act.put, List.setIfInBounds_toArray, List.set_cons_zero, List.set_cons_succ]) | (apply lxF0 (wantsg (j := 7) (d := 56) (b := true) rfl rfl rfl rfl); (· intro w' h0; have hw' := h0.old; have hcc := cellsBelow hw'; go_simp; (try go_bits); exact ⟨rfl, rfl⟩); simp only [Act.put, List.setIfInBounds_toArray, List.set_cons_zero, List.set_cons_succ])
      apply lxE0 (α := Value) (fun vv => vv) (fun vv => [fun w => NatV w vv (x + y + z)]) (wantsg (j := 7) (d := 56) (b := true) rfl rfl rfl rfl)
      · intro w' h0 hK; go_simp; (try go_bits); refine (add_any _ _ (x + y) (z) w' (hK.get (F := fun w => NatV w _ (x + y)) (by repeat (first | exact List.mem_cons_self .. | apply List.mem_cons_of_mem))) (hK.get (F := fun w => NatV w _ (z)) (by repeat (first | exact List.mem_cons_self .. | apply List.mem_cons_of_mem))) (by have := LXY.out.d32; omega) (by have := LZ.out.d32; omega)).mono ?_; rintro e w5 ⟨x, rfl, hx, hb⟩; exact ⟨_, rfl, hb, fun w6 h6 => hx.below h6⟩
      intro v61
      simp only [Act.put, List.setIfInBounds_toArray, List.set_cons_zero, List.set_cons_succ]
      first | (apply lxN (j := 7) (d := 56) (b := true) rfl rfl rfl rfl; simp only [Act.put, List.setIfInBounds_toArray, List.set_cons_zero, List.set_cons_succ]) | (apply lxN' (j := 7) (d := 56) (b := true) rfl rfl rfl; simp only [Act.put, List.setIfInBounds_toArray, List.set_cons_zero, List.set_cons_succ]) | (apply lxF0 (wantsg (j := 7) (d := 56) (b := true) rfl rfl rfl rfl); (· intro w' h0; have hw' := h0.old; have hcc := cellsBelow hw'; go_simp; (try go_bits); exact ⟨rfl, rfl⟩); simp only [Act.put, List.setIfInBounds_toArray, List.set_cons_zero, List.set_cons_succ])
      first | (apply lxN (j := 7) (d := 56) (b := true) rfl rfl rfl rfl; simp only [Act.put, List.setIfInBounds_toArray, List.set_cons_zero, List.set_cons_succ]) | (apply lxN' (j := 7) (d := 56) (b := true) rfl rfl rfl; simp only [Act.put, List.setIfInBounds_toArray, List.set_cons_zero, List.set_cons_succ]) | (apply lxF0 (wantsg (j := 7) (d := 56) (b := true) rfl rfl rfl rfl); (· intro w' h0; have hw' := h0.old; have hcc := cellsBelow hw'; go_simp; (try go_bits); exact ⟨rfl, rfl⟩); simp only [Act.put, List.setIfInBounds_toArray, List.set_cons_zero, List.set_cons_succ])
      first | (apply lxN (j := 7) (d := 56) (b := true) rfl rfl rfl rfl; simp only [Act.put, List.setIfInBounds_toArray, List.set_cons_zero, List.set_cons_succ]) | (apply lxN' (j := 7) (d := 56) (b := true) rfl rfl rfl; simp only [Act.put, List.setIfInBounds_toArray, List.set_cons_zero, List.set_cons_succ]) | (apply lxF0 (wantsg (j := 7) (d := 56) (b := true) rfl rfl rfl rfl); (· intro w' h0; have hw' := h0.old; have hcc := cellsBelow hw'; go_simp; (try go_bits); exact ⟨rfl, rfl⟩); simp only [Act.put, List.setIfInBounds_toArray, List.set_cons_zero, List.set_cons_succ])
      apply lxE0 (α := Value) (fun vv => vv) (fun vv => [fun w => NatV w vv (y + z)]) (wantsg (j := 7) (d := 56) (b := true) rfl rfl rfl rfl)
      · intro w' h0 hK; go_simp; (try go_bits); refine (add_any _ _ (y) (z) w' (hK.get (F := fun w => NatV w _ (y)) (by repeat (first | exact List.mem_cons_self .. | apply List.mem_cons_of_mem))) (hK.get (F := fun w => NatV w _ (z)) (by repeat (first | exact List.mem_cons_self .. | apply List.mem_cons_of_mem))) (by have := LY.out.d32; omega) (by have := LZ.out.d32; omega)).mono ?_; rintro e w5 ⟨x, rfl, hx, hb⟩; exact ⟨_, rfl, hb, fun w6 h6 => hx.below h6⟩
      intro v65
      simp only [Act.put, List.setIfInBounds_toArray, List.set_cons_zero, List.set_cons_succ]
      apply lxE0 (α := Value) (fun vv => vv) (fun vv => [fun w => NatV w vv (x + (y + z))]) (wantsg (j := 7) (d := 56) (b := true) rfl rfl rfl rfl)
      · intro w' h0 hK; go_simp; (try go_bits); refine (add_any _ _ (x) (y + z) w' (hK.get (F := fun w => NatV w _ (x)) (by repeat (first | exact List.mem_cons_self .. | apply List.mem_cons_of_mem))) (hK.get (F := fun w => NatV w _ (y + z)) (by repeat (first | exact List.mem_cons_self .. | apply List.mem_cons_of_mem))) (by have := LX.out.d32; omega) (by have := LYZ.out.d32; omega)).mono ?_; rintro e w5 ⟨x, rfl, hx, hb⟩; exact ⟨_, rfl, hb, fun w6 h6 => hx.below h6⟩
      intro v66
      simp only [Act.put, List.setIfInBounds_toArray, List.set_cons_zero, List.set_cons_succ]
      apply lxH0 (wantsg (j := 7) (d := 56) (b := true) rfl rfl rfl rfl)
      · intro w' h0 hK; go_simp; (try go_bits); refine (same_yes _ _ (x + y + z) (x + (y + z)) w' (hK.get (F := fun w => NatV w _ (x + y + z)) (by repeat (first | exact List.mem_cons_self .. | apply List.mem_cons_of_mem))) (hK.get (F := fun w => NatV w _ (x + (y + z))) (by repeat (first | exact List.mem_cons_self .. | apply List.mem_cons_of_mem))) (hK.get (F := fun w => Tab w) (by repeat (first | exact List.mem_cons_self .. | apply List.mem_cons_of_mem))) LXYZ.out (Nat.add_assoc x y z)).mono ?_; rintro e w5 ⟨rfl, hb⟩; exact ⟨_, rfl, rfl, hb⟩
      simp only [Act.put, List.setIfInBounds_toArray, List.set_cons_zero, List.set_cons_succ]
      apply lxF0 (wants0 rfl); (· intro w' h0; have hw' := h0.old; have hcc := cellsBelow hw'; go_simp; (try go_bits); exact ⟨rfl, rfl⟩); simp only [Act.put, List.setIfInBounds_toArray, List.set_cons_zero, List.set_cons_succ]
      apply lxF0 (wants0 rfl); (· intro w' h0; have hw' := h0.old; have hcc := cellsBelow hw'; go_simp; (try go_bits); exact ⟨rfl, rfl⟩); simp only [Act.put, List.setIfInBounds_toArray, List.set_cons_zero, List.set_cons_succ]
      first | (apply lxN (j := 20) (d := 69) (b := true) rfl rfl rfl rfl; simp only [Act.put, List.setIfInBounds_toArray, List.set_cons_zero, List.set_cons_succ]) | (apply lxN' (j := 20) (d := 69) (b := true) rfl rfl rfl; simp only [Act.put, List.setIfInBounds_toArray, List.set_cons_zero, List.set_cons_succ]) | (apply lxF0 (wantsg (j := 20) (d := 69) (b := true) rfl rfl rfl rfl); (· intro w' h0; have hw' := h0.old; have hcc := cellsBelow hw'; go_simp; (try go_bits); exact ⟨rfl, rfl⟩); simp only [Act.put, List.setIfInBounds_toArray, List.set_cons_zero, List.set_cons_succ])
      first | (apply lxN (j := 20) (d := 69) (b := true) rfl rfl rfl rfl; simp only [Act.put, List.setIfInBounds_toArray, List.set_cons_zero, List.set_cons_succ]) | (apply lxN' (j := 20) (d := 69) (b := true) rfl rfl rfl; simp only [Act.put, List.setIfInBounds_toArray, List.set_cons_zero, List.set_cons_succ]) | (apply lxF0 (wantsg (j := 20) (d := 69) (b := true) rfl rfl rfl rfl); (· intro w' h0; have hw' := h0.old; have hcc := cellsBelow hw'; go_simp; (try go_bits); exact ⟨rfl, rfl⟩); simp only [Act.put, List.setIfInBounds_toArray, List.set_cons_zero, List.set_cons_succ])
      apply lxE0 (α := Value) (fun vv => vv) (fun vv => [fun w => NatV w vv (x * y)]) (wantsg (j := 20) (d := 69) (b := true) rfl rfl rfl rfl)
      · intro w' h0 hK; go_simp; (try go_bits); refine (mul_any _ _ (x) (y) w' (hK.get (F := fun w => NatV w _ (x)) (by repeat (first | exact List.mem_cons_self .. | apply List.mem_cons_of_mem))) (hK.get (F := fun w => NatV w _ (y)) (by repeat (first | exact List.mem_cons_self .. | apply List.mem_cons_of_mem))) (by have := LX.out.d32; have := LY.out.d32; omega)).mono ?_; rintro e w5 ⟨x, rfl, hx, hb⟩; exact ⟨_, rfl, hb, fun w6 h6 => hx.below h6⟩
      intro v72
      simp only [Act.put, List.setIfInBounds_toArray, List.set_cons_zero, List.set_cons_succ]
      first | (apply lxN (j := 20) (d := 69) (b := true) rfl rfl rfl rfl; simp only [Act.put, List.setIfInBounds_toArray, List.set_cons_zero, List.set_cons_succ]) | (apply lxN' (j := 20) (d := 69) (b := true) rfl rfl rfl; simp only [Act.put, List.setIfInBounds_toArray, List.set_cons_zero, List.set_cons_succ]) | (apply lxF0 (wantsg (j := 20) (d := 69) (b := true) rfl rfl rfl rfl); (· intro w' h0; have hw' := h0.old; have hcc := cellsBelow hw'; go_simp; (try go_bits); exact ⟨rfl, rfl⟩); simp only [Act.put, List.setIfInBounds_toArray, List.set_cons_zero, List.set_cons_succ])
      first | (apply lxN (j := 20) (d := 69) (b := true) rfl rfl rfl rfl; simp only [Act.put, List.setIfInBounds_toArray, List.set_cons_zero, List.set_cons_succ]) | (apply lxN' (j := 20) (d := 69) (b := true) rfl rfl rfl; simp only [Act.put, List.setIfInBounds_toArray, List.set_cons_zero, List.set_cons_succ]) | (apply lxF0 (wantsg (j := 20) (d := 69) (b := true) rfl rfl rfl rfl); (· intro w' h0; have hw' := h0.old; have hcc := cellsBelow hw'; go_simp; (try go_bits); exact ⟨rfl, rfl⟩); simp only [Act.put, List.setIfInBounds_toArray, List.set_cons_zero, List.set_cons_succ])
      apply lxE0 (α := Value) (fun vv => vv) (fun vv => [fun w => NatV w vv (y * x)]) (wantsg (j := 20) (d := 69) (b := true) rfl rfl rfl rfl)
      · intro w' h0 hK; go_simp; (try go_bits); refine (mul_any _ _ (y) (x) w' (hK.get (F := fun w => NatV w _ (y)) (by repeat (first | exact List.mem_cons_self .. | apply List.mem_cons_of_mem))) (hK.get (F := fun w => NatV w _ (x)) (by repeat (first | exact List.mem_cons_self .. | apply List.mem_cons_of_mem))) (by have := LY.out.d32; have := LX.out.d32; omega)).mono ?_; rintro e w5 ⟨x, rfl, hx, hb⟩; exact ⟨_, rfl, hb, fun w6 h6 => hx.below h6⟩
      intro v75
      simp only [Act.put, List.setIfInBounds_toArray, List.set_cons_zero, List.set_cons_succ]
      apply lxH0 (wantsg (j := 20) (d := 69) (b := true) rfl rfl rfl rfl)
      · intro w' h0 hK; go_simp; (try go_bits); refine (same_yes _ _ (x * y) (y * x) w' (hK.get (F := fun w => NatV w _ (x * y)) (by repeat (first | exact List.mem_cons_self .. | apply List.mem_cons_of_mem))) (hK.get (F := fun w => NatV w _ (y * x)) (by repeat (first | exact List.mem_cons_self .. | apply List.mem_cons_of_mem))) (hK.get (F := fun w => Tab w) (by repeat (first | exact List.mem_cons_self .. | apply List.mem_cons_of_mem))) MXY.out (Nat.mul_comm x y)).mono ?_; rintro e w5 ⟨rfl, hb⟩; exact ⟨_, rfl, rfl, hb⟩
      simp only [Act.put, List.setIfInBounds_toArray, List.set_cons_zero, List.set_cons_succ]
      apply lxF0 (wants0 rfl); (· intro w' h0; have hw' := h0.old; have hcc := cellsBelow hw'; go_simp; (try go_bits); exact ⟨rfl, rfl⟩); simp only [Act.put, List.setIfInBounds_toArray, List.set_cons_zero, List.set_cons_succ]
      apply lxF0 (wants0 rfl); (· intro w' h0; have hw' := h0.old; have hcc := cellsBelow hw'; go_simp; (try go_bits); exact ⟨rfl, rfl⟩); simp only [Act.put, List.setIfInBounds_toArray, List.set_cons_zero, List.set_cons_succ]
      first | (apply lxN (j := 29) (d := 78) (b := true) rfl rfl rfl rfl; simp only [Act.put, List.setIfInBounds_toArray, List.set_cons_zero, List.set_cons_succ]) | (apply lxN' (j := 29) (d := 78) (b := true) rfl rfl rfl; simp only [Act.put, List.setIfInBounds_toArray, List.set_cons_zero, List.set_cons_succ]) | (apply lxF0 (wantsg (j := 29) (d := 78) (b := true) rfl rfl rfl rfl); (· intro w' h0; have hw' := h0.old; have hcc := cellsBelow hw'; go_simp; (try go_bits); exact ⟨rfl, rfl⟩); simp only [Act.put, List.setIfInBounds_toArray, List.set_cons_zero, List.set_cons_succ])
      first | (apply lxN (j := 29) (d := 78) (b := true) rfl rfl rfl rfl; simp only [Act.put, List.setIfInBounds_toArray, List.set_cons_zero, List.set_cons_succ]) | (apply lxN' (j := 29) (d := 78) (b := true) rfl rfl rfl; simp only [Act.put, List.setIfInBounds_toArray, List.set_cons_zero, List.set_cons_succ]) | (apply lxF0 (wantsg (j := 29) (d := 78) (b := true) rfl rfl rfl rfl); (· intro w' h0; have hw' := h0.old; have hcc := cellsBelow hw'; go_simp; (try go_bits); exact ⟨rfl, rfl⟩); simp only [Act.put, List.setIfInBounds_toArray, List.set_cons_zero, List.set_cons_succ])
      apply lxE0 (α := Value) (fun vv => vv) (fun vv => [fun w => NatV w vv (x * y)]) (wantsg (j := 29) (d := 78) (b := true) rfl rfl rfl rfl)
      · intro w' h0 hK; go_simp; (try go_bits); refine (mul_any _ _ (x) (y) w' (hK.get (F := fun w => NatV w _ (x)) (by repeat (first | exact List.mem_cons_self .. | apply List.mem_cons_of_mem))) (hK.get (F := fun w => NatV w _ (y)) (by repeat (first | exact List.mem_cons_self .. | apply List.mem_cons_of_mem))) (by have := LX.out.d32; have := LY.out.d32; omega)).mono ?_; rintro e w5 ⟨x, rfl, hx, hb⟩; exact ⟨_, rfl, hb, fun w6 h6 => hx.below h6⟩
      intro v81
      simp only [Act.put, List.setIfInBounds_toArray, List.set_cons_zero, List.set_cons_succ]
      first | (apply lxN (j := 29) (d := 78) (b := true) rfl rfl rfl rfl; simp only [Act.put, List.setIfInBounds_toArray, List.set_cons_zero, List.set_cons_succ]) | (apply lxN' (j := 29) (d := 78) (b := true) rfl rfl rfl; simp only [Act.put, List.setIfInBounds_toArray, List.set_cons_zero, List.set_cons_succ]) | (apply lxF0 (wantsg (j := 29) (d := 78) (b := true) rfl rfl rfl rfl); (· intro w' h0; have hw' := h0.old; have hcc := cellsBelow hw'; go_simp; (try go_bits); exact ⟨rfl, rfl⟩); simp only [Act.put, List.setIfInBounds_toArray, List.set_cons_zero, List.set_cons_succ])
      apply lxE0 (α := Value) (fun vv => vv) (fun vv => [fun w => NatV w vv (x * y * z)]) (wantsg (j := 29) (d := 78) (b := true) rfl rfl rfl rfl)
      · intro w' h0 hK; go_simp; (try go_bits); refine (mul_any _ _ (x * y) (z) w' (hK.get (F := fun w => NatV w _ (x * y)) (by repeat (first | exact List.mem_cons_self .. | apply List.mem_cons_of_mem))) (hK.get (F := fun w => NatV w _ (z)) (by repeat (first | exact List.mem_cons_self .. | apply List.mem_cons_of_mem))) (by have := MXY.out.d32; have := LZ.out.d32; omega)).mono ?_; rintro e w5 ⟨x, rfl, hx, hb⟩; exact ⟨_, rfl, hb, fun w6 h6 => hx.below h6⟩
      intro v83
      simp only [Act.put, List.setIfInBounds_toArray, List.set_cons_zero, List.set_cons_succ]
      first | (apply lxN (j := 29) (d := 78) (b := true) rfl rfl rfl rfl; simp only [Act.put, List.setIfInBounds_toArray, List.set_cons_zero, List.set_cons_succ]) | (apply lxN' (j := 29) (d := 78) (b := true) rfl rfl rfl; simp only [Act.put, List.setIfInBounds_toArray, List.set_cons_zero, List.set_cons_succ]) | (apply lxF0 (wantsg (j := 29) (d := 78) (b := true) rfl rfl rfl rfl); (· intro w' h0; have hw' := h0.old; have hcc := cellsBelow hw'; go_simp; (try go_bits); exact ⟨rfl, rfl⟩); simp only [Act.put, List.setIfInBounds_toArray, List.set_cons_zero, List.set_cons_succ])
      first | (apply lxN (j := 29) (d := 78) (b := true) rfl rfl rfl rfl; simp only [Act.put, List.setIfInBounds_toArray, List.set_cons_zero, List.set_cons_succ]) | (apply lxN' (j := 29) (d := 78) (b := true) rfl rfl rfl; simp only [Act.put, List.setIfInBounds_toArray, List.set_cons_zero, List.set_cons_succ]) | (apply lxF0 (wantsg (j := 29) (d := 78) (b := true) rfl rfl rfl rfl); (· intro w' h0; have hw' := h0.old; have hcc := cellsBelow hw'; go_simp; (try go_bits); exact ⟨rfl, rfl⟩); simp only [Act.put, List.setIfInBounds_toArray, List.set_cons_zero, List.set_cons_succ])
      first | (apply lxN (j := 29) (d := 78) (b := true) rfl rfl rfl rfl; simp only [Act.put, List.setIfInBounds_toArray, List.set_cons_zero, List.set_cons_succ]) | (apply lxN' (j := 29) (d := 78) (b := true) rfl rfl rfl; simp only [Act.put, List.setIfInBounds_toArray, List.set_cons_zero, List.set_cons_succ]) | (apply lxF0 (wantsg (j := 29) (d := 78) (b := true) rfl rfl rfl rfl); (· intro w' h0; have hw' := h0.old; have hcc := cellsBelow hw'; go_simp; (try go_bits); exact ⟨rfl, rfl⟩); simp only [Act.put, List.setIfInBounds_toArray, List.set_cons_zero, List.set_cons_succ])
      apply lxE0 (α := Value) (fun vv => vv) (fun vv => [fun w => NatV w vv (y * z)]) (wantsg (j := 29) (d := 78) (b := true) rfl rfl rfl rfl)
      · intro w' h0 hK; go_simp; (try go_bits); refine (mul_any _ _ (y) (z) w' (hK.get (F := fun w => NatV w _ (y)) (by repeat (first | exact List.mem_cons_self .. | apply List.mem_cons_of_mem))) (hK.get (F := fun w => NatV w _ (z)) (by repeat (first | exact List.mem_cons_self .. | apply List.mem_cons_of_mem))) (by have := LY.out.d32; have := LZ.out.d32; omega)).mono ?_; rintro e w5 ⟨x, rfl, hx, hb⟩; exact ⟨_, rfl, hb, fun w6 h6 => hx.below h6⟩
      intro v87
      simp only [Act.put, List.setIfInBounds_toArray, List.set_cons_zero, List.set_cons_succ]
      apply lxE0 (α := Value) (fun vv => vv) (fun vv => [fun w => NatV w vv (x * (y * z))]) (wantsg (j := 29) (d := 78) (b := true) rfl rfl rfl rfl)
      · intro w' h0 hK; go_simp; (try go_bits); refine (mul_any _ _ (x) (y * z) w' (hK.get (F := fun w => NatV w _ (x)) (by repeat (first | exact List.mem_cons_self .. | apply List.mem_cons_of_mem))) (hK.get (F := fun w => NatV w _ (y * z)) (by repeat (first | exact List.mem_cons_self .. | apply List.mem_cons_of_mem))) (by have := LX.out.d32; have := MYZ.out.d32; omega)).mono ?_; rintro e w5 ⟨x, rfl, hx, hb⟩; exact ⟨_, rfl, hb, fun w6 h6 => hx.below h6⟩
      intro v88
      simp only [Act.put, List.setIfInBounds_toArray, List.set_cons_zero, List.set_cons_succ]
      apply lxH0 (wantsg (j := 29) (d := 78) (b := true) rfl rfl rfl rfl)
      · intro w' h0 hK; go_simp; (try go_bits); refine (same_yes _ _ (x * y * z) (x * (y * z)) w' (hK.get (F := fun w => NatV w _ (x * y * z)) (by repeat (first | exact List.mem_cons_self .. | apply List.mem_cons_of_mem))) (hK.get (F := fun w => NatV w _ (x * (y * z))) (by repeat (first | exact List.mem_cons_self .. | apply List.mem_cons_of_mem))) (hK.get (F := fun w => Tab w) (by repeat (first | exact List.mem_cons_self .. | apply List.mem_cons_of_mem))) MXYZ.out (Nat.mul_assoc x y z)).mono ?_; rintro e w5 ⟨rfl, hb⟩; exact ⟨_, rfl, rfl, hb⟩
      simp only [Act.put, List.setIfInBounds_toArray, List.set_cons_zero, List.set_cons_succ]
      apply lxF0 (wants0 rfl); (· intro w' h0; have hw' := h0.old; have hcc := cellsBelow hw'; go_simp; (try go_bits); exact ⟨rfl, rfl⟩); simp only [Act.put, List.setIfInBounds_toArray, List.set_cons_zero, List.set_cons_succ]
      apply lxF0 (wants0 rfl); (· intro w' h0; have hw' := h0.old; have hcc := cellsBelow hw'; go_simp; (try go_bits); exact ⟨rfl, rfl⟩); simp only [Act.put, List.setIfInBounds_toArray, List.set_cons_zero, List.set_cons_succ]
      first | (apply lxN (j := 42) (d := 91) (b := true) rfl rfl rfl rfl; simp only [Act.put, List.setIfInBounds_toArray, List.set_cons_zero, List.set_cons_succ]) | (apply lxN' (j := 42) (d := 91) (b := true) rfl rfl rfl; simp only [Act.put, List.setIfInBounds_toArray, List.set_cons_zero, List.set_cons_succ]) | (apply lxF0 (wantsg (j := 42) (d := 91) (b := true) rfl rfl rfl rfl); (· intro w' h0; have hw' := h0.old; have hcc := cellsBelow hw'; go_simp; (try go_bits); exact ⟨rfl, rfl⟩); simp only [Act.put, List.setIfInBounds_toArray, List.set_cons_zero, List.set_cons_succ])
      first | (apply lxN (j := 42) (d := 91) (b := true) rfl rfl rfl rfl; simp only [Act.put, List.setIfInBounds_toArray, List.set_cons_zero, List.set_cons_succ]) | (apply lxN' (j := 42) (d := 91) (b := true) rfl rfl rfl; simp only [Act.put, List.setIfInBounds_toArray, List.set_cons_zero, List.set_cons_succ]) | (apply lxF0 (wantsg (j := 42) (d := 91) (b := true) rfl rfl rfl rfl); (· intro w' h0; have hw' := h0.old; have hcc := cellsBelow hw'; go_simp; (try go_bits); exact ⟨rfl, rfl⟩); simp only [Act.put, List.setIfInBounds_toArray, List.set_cons_zero, List.set_cons_succ])
      first | (apply lxN (j := 42) (d := 91) (b := true) rfl rfl rfl rfl; simp only [Act.put, List.setIfInBounds_toArray, List.set_cons_zero, List.set_cons_succ]) | (apply lxN' (j := 42) (d := 91) (b := true) rfl rfl rfl; simp only [Act.put, List.setIfInBounds_toArray, List.set_cons_zero, List.set_cons_succ]) | (apply lxF0 (wantsg (j := 42) (d := 91) (b := true) rfl rfl rfl rfl); (· intro w' h0; have hw' := h0.old; have hcc := cellsBelow hw'; go_simp; (try go_bits); exact ⟨rfl, rfl⟩); simp only [Act.put, List.setIfInBounds_toArray, List.set_cons_zero, List.set_cons_succ])
      apply lxE0 (α := Value) (fun vv => vv) (fun vv => [fun w => NatV w vv (y + z)]) (wantsg (j := 42) (d := 91) (b := true) rfl rfl rfl rfl)
      · intro w' h0 hK; go_simp; (try go_bits); refine (add_any _ _ (y) (z) w' (hK.get (F := fun w => NatV w _ (y)) (by repeat (first | exact List.mem_cons_self .. | apply List.mem_cons_of_mem))) (hK.get (F := fun w => NatV w _ (z)) (by repeat (first | exact List.mem_cons_self .. | apply List.mem_cons_of_mem))) (by have := LY.out.d32; omega) (by have := LZ.out.d32; omega)).mono ?_; rintro e w5 ⟨x, rfl, hx, hb⟩; exact ⟨_, rfl, hb, fun w6 h6 => hx.below h6⟩
      intro v95
      simp only [Act.put, List.setIfInBounds_toArray, List.set_cons_zero, List.set_cons_succ]
      apply lxE0 (α := Value) (fun vv => vv) (fun vv => [fun w => NatV w vv (x * (y + z))]) (wantsg (j := 42) (d := 91) (b := true) rfl rfl rfl rfl)
      · intro w' h0 hK; go_simp; (try go_bits); refine (mul_any _ _ (x) (y + z) w' (hK.get (F := fun w => NatV w _ (x)) (by repeat (first | exact List.mem_cons_self .. | apply List.mem_cons_of_mem))) (hK.get (F := fun w => NatV w _ (y + z)) (by repeat (first | exact List.mem_cons_self .. | apply List.mem_cons_of_mem))) (by have := LX.out.d32; have := LYZ.out.d32; omega)).mono ?_; rintro e w5 ⟨x, rfl, hx, hb⟩; exact ⟨_, rfl, hb, fun w6 h6 => hx.below h6⟩
      intro v96
      simp only [Act.put, List.setIfInBounds_toArray, List.set_cons_zero, List.set_cons_succ]
      first | (apply lxN (j := 42) (d := 91) (b := true) rfl rfl rfl rfl; simp only [Act.put, List.setIfInBounds_toArray, List.set_cons_zero, List.set_cons_succ]) | (apply lxN' (j := 42) (d := 91) (b := true) rfl rfl rfl; simp only [Act.put, List.setIfInBounds_toArray, List.set_cons_zero, List.set_cons_succ]) | (apply lxF0 (wantsg (j := 42) (d := 91) (b := true) rfl rfl rfl rfl); (· intro w' h0; have hw' := h0.old; have hcc := cellsBelow hw'; go_simp; (try go_bits); exact ⟨rfl, rfl⟩); simp only [Act.put, List.setIfInBounds_toArray, List.set_cons_zero, List.set_cons_succ])
      first | (apply lxN (j := 42) (d := 91) (b := true) rfl rfl rfl rfl; simp only [Act.put, List.setIfInBounds_toArray, List.set_cons_zero, List.set_cons_succ]) | (apply lxN' (j := 42) (d := 91) (b := true) rfl rfl rfl; simp only [Act.put, List.setIfInBounds_toArray, List.set_cons_zero, List.set_cons_succ]) | (apply lxF0 (wantsg (j := 42) (d := 91) (b := true) rfl rfl rfl rfl); (· intro w' h0; have hw' := h0.old; have hcc := cellsBelow hw'; go_simp; (try go_bits); exact ⟨rfl, rfl⟩); simp only [Act.put, List.setIfInBounds_toArray, List.set_cons_zero, List.set_cons_succ])
      apply lxE0 (α := Value) (fun vv => vv) (fun vv => [fun w => NatV w vv (x * y)]) (wantsg (j := 42) (d := 91) (b := true) rfl rfl rfl rfl)
      · intro w' h0 hK; go_simp; (try go_bits); refine (mul_any _ _ (x) (y) w' (hK.get (F := fun w => NatV w _ (x)) (by repeat (first | exact List.mem_cons_self .. | apply List.mem_cons_of_mem))) (hK.get (F := fun w => NatV w _ (y)) (by repeat (first | exact List.mem_cons_self .. | apply List.mem_cons_of_mem))) (by have := LX.out.d32; have := LY.out.d32; omega)).mono ?_; rintro e w5 ⟨x, rfl, hx, hb⟩; exact ⟨_, rfl, hb, fun w6 h6 => hx.below h6⟩
      intro v99
      simp only [Act.put, List.setIfInBounds_toArray, List.set_cons_zero, List.set_cons_succ]
      first | (apply lxN (j := 42) (d := 91) (b := true) rfl rfl rfl rfl; simp only [Act.put, List.setIfInBounds_toArray, List.set_cons_zero, List.set_cons_succ]) | (apply lxN' (j := 42) (d := 91) (b := true) rfl rfl rfl; simp only [Act.put, List.setIfInBounds_toArray, List.set_cons_zero, List.set_cons_succ]) | (apply lxF0 (wantsg (j := 42) (d := 91) (b := true) rfl rfl rfl rfl); (· intro w' h0; have hw' := h0.old; have hcc := cellsBelow hw'; go_simp; (try go_bits); exact ⟨rfl, rfl⟩); simp only [Act.put, List.setIfInBounds_toArray, List.set_cons_zero, List.set_cons_succ])
      first | (apply lxN (j := 42) (d := 91) (b := true) rfl rfl rfl rfl; simp only [Act.put, List.setIfInBounds_toArray, List.set_cons_zero, List.set_cons_succ]) | (apply lxN' (j := 42) (d := 91) (b := true) rfl rfl rfl; simp only [Act.put, List.setIfInBounds_toArray, List.set_cons_zero, List.set_cons_succ]) | (apply lxF0 (wantsg (j := 42) (d := 91) (b := true) rfl rfl rfl rfl); (· intro w' h0; have hw' := h0.old; have hcc := cellsBelow hw'; go_simp; (try go_bits); exact ⟨rfl, rfl⟩); simp only [Act.put, List.setIfInBounds_toArray, List.set_cons_zero, List.set_cons_succ])
      apply lxE0 (α := Value) (fun vv => vv) (fun vv => [fun w => NatV w vv (x * z)]) (wantsg (j := 42) (d := 91) (b := true) rfl rfl rfl rfl)
      · intro w' h0 hK; go_simp; (try go_bits); refine (mul_any _ _ (x) (z) w' (hK.get (F := fun w => NatV w _ (x)) (by repeat (first | exact List.mem_cons_self .. | apply List.mem_cons_of_mem))) (hK.get (F := fun w => NatV w _ (z)) (by repeat (first | exact List.mem_cons_self .. | apply List.mem_cons_of_mem))) (by have := LX.out.d32; have := LZ.out.d32; omega)).mono ?_; rintro e w5 ⟨x, rfl, hx, hb⟩; exact ⟨_, rfl, hb, fun w6 h6 => hx.below h6⟩
      intro v102
      simp only [Act.put, List.setIfInBounds_toArray, List.set_cons_zero, List.set_cons_succ]
      apply lxE0 (α := Value) (fun vv => vv) (fun vv => [fun w => NatV w vv (x * y + x * z)]) (wantsg (j := 42) (d := 91) (b := true) rfl rfl rfl rfl)
      · intro w' h0 hK; go_simp; (try go_bits); refine (add_any _ _ (x * y) (x * z) w' (hK.get (F := fun w => NatV w _ (x * y)) (by repeat (first | exact List.mem_cons_self .. | apply List.mem_cons_of_mem))) (hK.get (F := fun w => NatV w _ (x * z)) (by repeat (first | exact List.mem_cons_self .. | apply List.mem_cons_of_mem))) (by have := MXY.out.d32; omega) (by have := MXZ.out.d32; omega)).mono ?_; rintro e w5 ⟨x, rfl, hx, hb⟩; exact ⟨_, rfl, hb, fun w6 h6 => hx.below h6⟩
      intro v103
      simp only [Act.put, List.setIfInBounds_toArray, List.set_cons_zero, List.set_cons_succ]
      apply lxH0 (wantsg (j := 42) (d := 91) (b := true) rfl rfl rfl rfl)
      · intro w' h0 hK; go_simp; (try go_bits); refine (same_yes _ _ (x * (y + z)) (x * y + x * z) w' (hK.get (F := fun w => NatV w _ (x * (y + z))) (by repeat (first | exact List.mem_cons_self .. | apply List.mem_cons_of_mem))) (hK.get (F := fun w => NatV w _ (x * y + x * z)) (by repeat (first | exact List.mem_cons_self .. | apply List.mem_cons_of_mem))) (hK.get (F := fun w => Tab w) (by repeat (first | exact List.mem_cons_self .. | apply List.mem_cons_of_mem))) MD.out (Nat.mul_add x y z)).mono ?_; rintro e w5 ⟨rfl, hb⟩; exact ⟨_, rfl, rfl, hb⟩
      simp only [Act.put, List.setIfInBounds_toArray, List.set_cons_zero, List.set_cons_succ]
      apply lxF0 (wants0 rfl); (· intro w' h0; have hw' := h0.old; have hcc := cellsBelow hw'; go_simp; (try go_bits); exact ⟨rfl, rfl⟩); simp only [Act.put, List.setIfInBounds_toArray, List.set_cons_zero, List.set_cons_succ]
      apply lxF0 (wants0 rfl); (· intro w' h0; have hw' := h0.old; have hcc := cellsBelow hw'; go_simp; (try go_bits); exact ⟨rfl, rfl⟩); simp only [Act.put, List.setIfInBounds_toArray, List.set_cons_zero, List.set_cons_succ]
      first | (apply lxN (j := 57) (d := 106) (b := true) rfl rfl rfl rfl; simp only [Act.put, List.setIfInBounds_toArray, List.set_cons_zero, List.set_cons_succ]) | (apply lxN' (j := 57) (d := 106) (b := true) rfl rfl rfl; simp only [Act.put, List.setIfInBounds_toArray, List.set_cons_zero, List.set_cons_succ]) | (apply lxF0 (wantsg (j := 57) (d := 106) (b := true) rfl rfl rfl rfl); (· intro w' h0; have hw' := h0.old; have hcc := cellsBelow hw'; go_simp; (try go_bits); exact ⟨rfl, rfl⟩); simp only [Act.put, List.setIfInBounds_toArray, List.set_cons_zero, List.set_cons_succ])
      first | (apply lxN (j := 57) (d := 106) (b := true) rfl rfl rfl rfl; simp only [Act.put, List.setIfInBounds_toArray, List.set_cons_zero, List.set_cons_succ]) | (apply lxN' (j := 57) (d := 106) (b := true) rfl rfl rfl; simp only [Act.put, List.setIfInBounds_toArray, List.set_cons_zero, List.set_cons_succ]) | (apply lxF0 (wantsg (j := 57) (d := 106) (b := true) rfl rfl rfl rfl); (· intro w' h0; have hw' := h0.old; have hcc := cellsBelow hw'; go_simp; (try go_bits); exact ⟨rfl, rfl⟩); simp only [Act.put, List.setIfInBounds_toArray, List.set_cons_zero, List.set_cons_succ])
      apply lxF0 (wants0 rfl); (· intro w' h0; have hw' := h0.old; have hcc := cellsBelow hw'; go_simp; (try go_bits); exact ⟨rfl, rfl⟩); simp only [Act.put, List.setIfInBounds_toArray, List.set_cons_zero, List.set_cons_succ]
      apply lxF0 (wants0 rfl); (· intro w' h0; have hw' := h0.old; have hcc := cellsBelow hw'; go_simp; (try go_bits); exact ⟨rfl, rfl⟩); simp only [Act.put, List.setIfInBounds_toArray, List.set_cons_zero, List.set_cons_succ]
      first | (apply lxN (j := 61) (d := 110) (b := true) rfl rfl rfl rfl; simp only [Act.put, List.setIfInBounds_toArray, List.set_cons_zero, List.set_cons_succ]) | (apply lxN' (j := 61) (d := 110) (b := true) rfl rfl rfl; simp only [Act.put, List.setIfInBounds_toArray, List.set_cons_zero, List.set_cons_succ]) | (apply lxF0 (wantsg (j := 61) (d := 110) (b := true) rfl rfl rfl rfl); (· intro w' h0; have hw' := h0.old; have hcc := cellsBelow hw'; go_simp; (try go_bits); exact ⟨rfl, rfl⟩); simp only [Act.put, List.setIfInBounds_toArray, List.set_cons_zero, List.set_cons_succ])
      first | (apply lxN (j := 61) (d := 110) (b := true) rfl rfl rfl rfl; simp only [Act.put, List.setIfInBounds_toArray, List.set_cons_zero, List.set_cons_succ]) | (apply lxN' (j := 61) (d := 110) (b := true) rfl rfl rfl; simp only [Act.put, List.setIfInBounds_toArray, List.set_cons_zero, List.set_cons_succ]) | (apply lxF0 (wantsg (j := 61) (d := 110) (b := true) rfl rfl rfl rfl); (· intro w' h0; have hw' := h0.old; have hcc := cellsBelow hw'; go_simp; (try go_bits); exact ⟨rfl, rfl⟩); simp only [Act.put, List.setIfInBounds_toArray, List.set_cons_zero, List.set_cons_succ])
      apply lxH0 (wantsg (j := 61) (d := 110) (b := true) rfl rfl rfl rfl)
      · intro w' h0 hK; go_simp; (try go_bits); refine (same_yes _ _ (x) (x) w' (hK.get (F := fun w => NatV w _ (x)) (by repeat (first | exact List.mem_cons_self .. | apply List.mem_cons_of_mem))) (hK.get (F := fun w => NatV w _ (x)) (by repeat (first | exact List.mem_cons_self .. | apply List.mem_cons_of_mem))) (hK.get (F := fun w => Tab w) (by repeat (first | exact List.mem_cons_self .. | apply List.mem_cons_of_mem))) LX.out (rfl)).mono ?_; rintro e w5 ⟨rfl, hb⟩; exact ⟨_, rfl, rfl, hb⟩
      simp only [Act.put, List.setIfInBounds_toArray, List.set_cons_zero, List.set_cons_succ]
      apply lxF0 (wants0 rfl); (· intro w' h0; have hw' := h0.old; have hcc := cellsBelow hw'; go_simp; (try go_bits); exact ⟨rfl, rfl⟩); simp only [Act.put, List.setIfInBounds_toArray, List.set_cons_zero, List.set_cons_succ]
      apply lxF0 (wants0 rfl); (· intro w' h0; have hw' := h0.old; have hcc := cellsBelow hw'; go_simp; (try go_bits); exact ⟨rfl, rfl⟩); simp only [Act.put, List.setIfInBounds_toArray, List.set_cons_zero, List.set_cons_succ]
      refine lxEnd (fun W10 hK10 => ?_)
      go_wp2
      go_ret
      exact ⟨rfl, hK.old.trans (hK10.old.mono hK.old.size)⟩
    · rw [decide_eq_true hl] at HS
      rw [decide_eq_false (fun h => hl2 h.1)] at HS2
      go_enter Tryd.func10, Tryd.ntmps10
      go_wp2_with (first
        | (go_at_call 11; refine HA.out.mono ?_; clear HA; rintro e W1 ⟨rfl, hb1⟩)
        | (go_at_call 12; refine (HS.out _).mono ?_; clear HS; rintro e W2 ⟨rfl, rfl⟩)
        | (go_at_call 12; refine (HS2.out _).mono ?_; clear HS2; rintro e W2 ⟨rfl, rfl⟩))
      go_ret
      exact ⟨rfl, hb1⟩
  · rw [decide_eq_false hl] at HS
    go_enter Tryd.func10, Tryd.ntmps10
    go_wp2_with (first
      | (go_at_call 11; refine HA.out.mono ?_; clear HA; rintro e W1 ⟨rfl, hb1⟩)
      | (go_at_call 12; refine (HS.out _).mono ?_; clear HS; rintro e W2 ⟨rfl, rfl⟩)
      | (go_at_call 12; refine (HS2.out _).mono ?_; clear HS2; rintro e W2 ⟨rfl, rfl⟩))
    go_ret
    exact ⟨rfl, hb1⟩

end Go.Proofs.YtepljhpamconbaaDoor
