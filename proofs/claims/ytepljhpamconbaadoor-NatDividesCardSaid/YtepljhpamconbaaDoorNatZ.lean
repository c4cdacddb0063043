/- The law NatQuotients. -/
import Derived.Test.YtepljhpamconbaaDoorNatX
import Derived.Test.YtepljhpamconbaaDoorNatRL
import Derived.Test.YtepljhpamconbaaDoorNatOF
namespace Go.Proofs.YtepljhpamconbaaDoor
open Go.RowKit
open Go.Lib (decDigits)

/-- The rest, 0 where there is none. -/
def rem0 (n m : Nat) : Nat := if m = 0 then 0 else n % m
def errD (m : Nat) : Int := if m = 0 then 10 else 0
theorem dm_any (v u : Value) (n m : Nat) (w : World) (hv : NatV w v n) (hu : NatV w u m) (hl : (digs B32 n).length ≤ 100000) (hl2 : (digs B32 m).length ≤ 100000) :
    Calls Tryd.prog 22 #[v, u] w fun e w' => ∃ x y, e = .returned (.tuple #[x, y, .int .i64 (errD m)]) ∧ NatV w' x (n / m) ∧ NatV w' y (rem0 n m) ∧ Below w.heap.size w w' := by
  unfold rem0 errD
  by_cases h : m = 0
  · subst h
    rw [if_pos rfl, if_pos rfl, Nat.div_zero]
    exact (divmod_zero v u n w hv hu).mono fun e w' ⟨h1, h2⟩ => ⟨_, _, h1, NatV.zero _, NatV.zero _, h2⟩
  · rw [if_neg h, if_neg h]
    exact divmod_any v u n m w hv hu h hl hl2
theorem rdm_any (v u : Value) (n m : Nat) (w : World) (hv : RefV w v n) (hu : RefV w u m) (hl : (digs B6 n).length ≤ 50000) (hl2 : (digs B6 m).length ≤ 50000) :
    Calls Tryd.prog 23 #[v, u] w fun e w' => ∃ x y, e = .returned (.tuple #[x, y, .int .i64 (errD m)]) ∧ RefV w' x (n / m) ∧ RefV w' y (rem0 n m) ∧ Below w.heap.size w w' := by
  unfold rem0 errD
  by_cases h : m = 0
  · subst h
    rw [if_pos rfl, if_pos rfl, Nat.div_zero]
    exact (rdivmod_zero v u n w hv hu).mono fun e w' ⟨h1, h2⟩ => ⟨_, _, h1, .inl ⟨digs_zero, _, _, rfl⟩, .inl ⟨digs_zero, _, _, rfl⟩, h2⟩
  · rw [if_neg h, if_neg h]
    exact rdivmod_any v u n m w hv hu h hl hl2
theorem rem0_le (n m : Nat) : rem0 n m ≤ n := by
  unfold rem0; split
  · exact Nat.zero_le _
  · exact Nat.mod_le _ _
theorem Lim.le {n m : Nat} (h : Lim m) (hle : n ≤ m) : Lim n := Nat.lt_of_le_of_lt hle h
theorem gcd_le (n m : Nat) : Nat.gcd n m ≤ n + m := by
  rcases Nat.eq_zero_or_pos n with h | h
  · subst h; rw [Nat.gcd_zero_left]; omega
  · have := Nat.gcd_le_left m h; omega

set_option maxRecDepth 100000 in
set_option maxHeartbeats 4000000 in
theorem natQuotients_walk (v u : Value) (ds es : List Nat) (w : World) (hv : InV w v ds) (hu : InV w u es) (hd : ∀ d ∈ ds, d < B32) (he : ∀ d ∈ es, d < B32) (ht : Tab w) :
    Calls Tryd.prog 6 #[v, u] w fun e w' => e = .returned (.bool true) ∧ Below w.heap.size w w' := by
  obtain ⟨p, c, rfl, _⟩ := hv.slice
  obtain ⟨q, c', rfl, _⟩ := hu.slice
  have HA := hid (awake_any w ht)
  have HS := hid (fun w1 => small_any p q ds.length es.length c c' w1)
  by_cases hl : ds.length ≤ 12 ∧ es.length ≤ 12
  · rw [decide_eq_true hl] at HS
    have hL : Lm 12 (val B32 ds) := Nat.lt_of_lt_of_le (val_lt b32_2 hd) (Nat.pow_le_pow_right (by decide) hl.1)
    have hM : Lm 12 (val B32 es) := Nat.lt_of_lt_of_le (val_lt b32_2 he) (Nat.pow_le_pow_right (by decide) hl.2)
    have HN1 := hid (fun w1 (hb : Below w.heap.size w w1) => number_any _ ds w1 (hv.below hb) hd hl.1)
    have HN2 := hid (fun w1 (hb : Below w.heap.size w w1) => number_any _ es w1 (hu.below hb) he hl.2)
    obtain ⟨n, hn⟩ : ∃ n, val B32 ds = n := ⟨_, rfl⟩
    obtain ⟨m, hm⟩ : ∃ m, val B32 es = m := ⟨_, rfl⟩
    rw [hn] at HN1 hL
    rw [hm] at HN2 hM
    have hK := (KS.start w).add (F := fun w => Tab w) fun w' hb => ht.below hb
    have HL1 := hid (hL.lim (by omega))
    have HL2 := hid (hM.lim (by omega))
    have HL3 := hid (Lim.le (hL.lim (by omega)) (Nat.div_le_self n m))
    have HL4 := hid (Lim.le (hL.lim (by omega)) (rem0_le n m))
    have HL5 := hid (Lim.le ((hL.add hM).lim (by omega)) (gcd_le n m))
    have HDM := hid (fun (v u : Value) (w1 : World) (h : NatV w1 v n) (h' : NatV w1 u m) => dm_any v u n m w1 h h' (by have := HL1.out.d32; omega) (by have := HL2.out.d32; omega))
    have HRD := hid (fun (v u : Value) (w1 : World) (h : RefV w1 v n) (h' : RefV w1 u m) => rdm_any v u n m w1 h h' (by have := HL1.out.d6; omega) (by have := HL2.out.d6; omega))
    obtain ⟨e0, he0⟩ : ∃ e0 : Int, errD m = e0 := ⟨_, rfl⟩
    obtain ⟨qq, hqq⟩ : ∃ qq, n / m = qq := ⟨_, rfl⟩
    obtain ⟨rr, hrr⟩ : ∃ rr, rem0 n m = rr := ⟨_, rfl⟩
    rw [he0, hqq, hrr] at HDM HRD
    rw [hqq] at HL3
    rw [hrr] at HL4
    clear hn hm hd he hv hu ht hL hM he0 hqq hrr
    go_enter Tryd.func6, Tryd.ntmps6
    go_upto_region 5 with (first
      | (go_at_call 11; refine HA.out.mono ?_; clear HA; rintro e W1 ⟨rfl, hb1⟩; replace hK := hK.step hb1; clear hb1)
      | (go_at_call 12; refine (HS.out _).mono ?_; clear HS; rintro e W2 ⟨rfl, rfl⟩))
    go_upto_region 6 with (go_at_call 13; refine (HN1.out _ hK.old).mono ?_; clear HN1; rintro e W3 ⟨x, y1, rfl, hx, hy, hw⟩; obtain ⟨p1, c1, rfl, _⟩ := hx.dig; replace hK := ((hK.step hw).add (F := fun w => NatV w (.agg #[.slice p1 (digs B32 n).length c1]) n) fun w' h => hx.below h).add (F := fun w => RefV w y1 n) fun w' h => hy.below h; clear hx hy hw)
    obtain ⟨V1, hV1, hKV⟩ : ∃ V1, V1 = W3.alloc (.cells #[.slice p1 (digs B32 n).length c1] 26) ∧ KS w _ V1 := ⟨_, rfl, hK.box _⟩
    rw [← hV1]
    clear hV1 hK
    have hK := hKV
    clear hKV
    generalize W3.heap.size = R1 at hK ⊢
    go_upto_region 7 with (go_at_call 13; refine (HN2.out _ hK.old).mono ?_; clear HN2; rintro e W4 ⟨x, y2, rfl, hx, hy, hw⟩; obtain ⟨p2, c2, rfl, _⟩ := hx.dig; replace hK := ((hK.step hw).add (F := fun w => NatV w (.agg #[.slice p2 (digs B32 m).length c2]) m) fun w' h => hx.below h).add (F := fun w => RefV w y2 m) fun w' h => hy.below h; clear hx hy hw)
    obtain ⟨V2, hV2, hKV⟩ : ∃ V2, V2 = W4.alloc (.cells #[.slice p2 (digs B32 m).length c2] 26) ∧ KS w _ V2 := ⟨_, rfl, hK.box _⟩
    rw [← hV2]
    clear hV2 hK
    have hK := hKV
    clear hKV
    generalize W4.heap.size = R2 at hK ⊢
    have kA := hK.get (F := Has 0 R1 (.cells #[.slice p1 (digs B32 n).length c1] 26)) (by repeat (first | exact List.mem_cons_self .. | apply List.mem_cons_of_mem))
    have kB := hK.get (F := Has 0 R2 (.cells #[.slice p2 (digs B32 m).length c2] 26)) (by repeat (first | exact List.mem_cons_self .. | apply List.mem_cons_of_mem))
    have d0 := kA.cell
    have d1 := kB.cell
    have b0 := kA.lt
    have b1 := kB.lt
    go_upto_region 8 with (go_at_call 22; refine (HDM.out _ _ _ (hK.get (F := fun w => NatV w _ n) (by repeat (first | exact List.mem_cons_self .. | apply List.mem_cons_of_mem))) (hK.get (F := fun w => NatV w _ m) (by repeat (first | exact List.mem_cons_self .. | apply List.mem_cons_of_mem)))).mono ?_; clear HDM; rintro e W5 ⟨x, y, rfl, hx, hy, hw⟩; obtain ⟨p3, c3, rfl, _⟩ := hx.dig; obtain ⟨p4, c4, rfl, _⟩ := hy.dig; replace hK := ((hK.step hw).add (F := fun w => NatV w (.agg #[.slice p3 (digs B32 qq).length c3]) qq) fun w' h => hx.below h).add (F := fun w => NatV w (.agg #[.slice p4 (digs B32 rr).length c4]) rr) fun w' h => hy.below h; clear hx hy hw)
    obtain ⟨V3, R3, R4, hVV, hR3, hR4, hKV⟩ : ∃ VV R3 R4, VV = (W5.alloc (.cells #[.slice p3 (digs B32 qq).length c3] 26)).alloc (.cells #[.slice p4 (digs B32 rr).length c4] 26) ∧ W5.heap.size = R3 ∧ W5.heap.size + 1 = R4 ∧ KS w (Has 0 R4 (.cells #[.slice p4 (digs B32 rr).length c4] 26) :: Has 0 R3 (.cells #[.slice p3 (digs B32 qq).length c3] 26) :: _) VV := by
      refine ⟨_, _, _, rfl, rfl, rfl, ?_⟩
      have := (hK.box (.cells #[.slice p3 (digs B32 qq).length c3] 26)).box (.cells #[.slice p4 (digs B32 rr).length c4] 26)
      rw [World.size_alloc] at this
      exact this
    rw [← hVV]
    rw [hR4, hR3]
    clear hVV hK d0 d1 b0 b1 kA kB hR3 hR4
    have hK := hKV
    clear hKV
    go_upto_region 9 with (go_at_call 23; refine (HRD.out _ _ _ (hK.get (F := fun w => RefV w _ n) (by repeat (first | exact List.mem_cons_self .. | apply List.mem_cons_of_mem))) (hK.get (F := fun w => RefV w _ m) (by repeat (first | exact List.mem_cons_self .. | apply List.mem_cons_of_mem)))).mono ?_; clear HRD; rintro e V4 ⟨s3, t3, rfl, hx, hy, hw⟩; replace hK := ((hK.step hw).add (F := fun w => RefV w s3 qq) fun w' h => hx.below h).add (F := fun w => RefV w t3 rr) fun w' h => hy.below h; clear hx hy hw)
    have kA := hK.get (F := Has 0 R1 (.cells #[.slice p1 (digs B32 n).length c1] 26)) (by repeat (first | exact List.mem_cons_self .. | apply List.mem_cons_of_mem))
    have kB := hK.get (F := Has 0 R2 (.cells #[.slice p2 (digs B32 m).length c2] 26)) (by repeat (first | exact List.mem_cons_self .. | apply List.mem_cons_of_mem))
    have kC := hK.get (F := Has 0 R3 (.cells #[.slice p3 (digs B32 qq).length c3] 26)) (by repeat (first | exact List.mem_cons_self .. | apply List.mem_cons_of_mem))
    have kD := hK.get (F := Has 0 R4 (.cells #[.slice p4 (digs B32 rr).length c4] 26)) (by repeat (first | exact List.mem_cons_self .. | apply List.mem_cons_of_mem))
    have d0 := kA.cell
    have d1 := kB.cell
    have d2 := kC.cell
    have d3 := kD.cell
    have b0 := kA.lt
    have b1 := kB.lt
    have b2 := kC.lt
    have b3 := kD.lt
    refine wp_region_ftext (V4) _ [0, 0, 0, 0, 0, 0, 1, 0, 0, 0, 0, 1, 0, 0, 0, 0, 2, 0, 0, 2, 1, 0, 0] hK.re ?_
    apply lxF0 (wants0 rfl); (· intro w' h0; have hw' := h0.old; have hcc := cellsBelow hw'; go_simp; (try go_bits); exact ⟨rfl, rfl⟩); simp only [Act.put, List.setIfInBounds_toArray, List.set_cons_zero, List.set_cons_succ]
    apply lxF0 (wants0 rfl); (· intro w' h0; have hw' := h0.old; have hcc := cellsBelow hw'; go_simp; (try go_bits); exact ⟨rfl, rfl⟩); simp only [Act.put, List.setIfInBounds_toArray, List.set_cons_zero, List.set_cons_succ]
    apply lxF0 (wants0 rfl); (· intro w' h0; have hw' := h0.old; have hcc := cellsBelow hw'; go_simp; (try go_bits); exact ⟨rfl, rfl⟩); simp only [Act.put, List.setIfInBounds_toArray, List.set_cons_zero, List.set_cons_succ]
    apply lxF0 (wants0 rfl); (· intro w' h0; have hw' := h0.old; have hcc := cellsBelow hw'; go_simp; (try go_bits); exact ⟨rfl, rfl⟩); simp only [Act.put, List.setIfInBounds_toArray, List.set_cons_zero, List.set_cons_succ]
    first | (apply lxN (j := 3) (d := 48) (b := true) rfl rfl rfl rfl; simp only [Act.put, List.setIfInBounds_toArray, List.set_cons_zero, List.set_cons_succ]) | (apply lxN' (j := 3) (d := 48) (b := true) rfl rfl rfl; simp only [Act.put, List.setIfInBounds_toArray, List.set_cons_zero, List.set_cons_succ]) | (apply lxF0 (wantsg (j := 3) (d := 48) (b := true) rfl rfl rfl rfl); (· intro w' h0; have hw' := h0.old; have hcc := cellsBelow hw'; go_simp; (try go_bits); exact ⟨rfl, rfl⟩); simp only [Act.put, List.setIfInBounds_toArray, List.set_cons_zero, List.set_cons_succ])
    first | (apply lxN (j := 3) (d := 48) (b := true) rfl rfl rfl rfl; simp only [Act.put, List.setIfInBounds_toArray, List.set_cons_zero, List.set_cons_succ]) | (apply lxN' (j := 3) (d := 48) (b := true) rfl rfl rfl; simp only [Act.put, List.setIfInBounds_toArray, List.set_cons_zero, List.set_cons_succ]) | (apply lxF0 (wantsg (j := 3) (d := 48) (b := true) rfl rfl rfl rfl); (· intro w' h0; have hw' := h0.old; have hcc := cellsBelow hw'; go_simp; (try go_bits); exact ⟨rfl, rfl⟩); simp only [Act.put, List.setIfInBounds_toArray, List.set_cons_zero, List.set_cons_succ])
    apply lxH0 (wantsg (j := 3) (d := 48) (b := true) rfl rfl rfl rfl)
    · intro w' h0 hK; go_simp; (try go_bits); refine (is_yes _ _ qq qq w' (hK.get (F := fun w => NatV w _ qq) (by repeat (first | exact List.mem_cons_self .. | apply List.mem_cons_of_mem))) (hK.get (F := fun w => RefV w _ qq) (by repeat (first | exact List.mem_cons_self .. | apply List.mem_cons_of_mem))) (hK.get (F := fun w => Tab w) (by repeat (first | exact List.mem_cons_self .. | apply List.mem_cons_of_mem))) HL3.out rfl).mono ?_; rintro e w5 ⟨rfl, hb⟩; exact ⟨_, rfl, rfl, hb⟩
    simp only [Act.put, List.setIfInBounds_toArray, List.set_cons_zero, List.set_cons_succ]
    apply lxF0 (wants0 rfl); (· intro w' h0; have hw' := h0.old; have hcc := cellsBelow hw'; go_simp; (try go_bits); exact ⟨rfl, rfl⟩); simp only [Act.put, List.setIfInBounds_toArray, List.set_cons_zero, List.set_cons_succ]
    apply lxF0 (wants0 rfl); (· intro w' h0; have hw' := h0.old; have hcc := cellsBelow hw'; go_simp; (try go_bits); exact ⟨rfl, rfl⟩); simp only [Act.put, List.setIfInBounds_toArray, List.set_cons_zero, List.set_cons_succ]
    first | (apply lxN (j := 8) (d := 53) (b := true) rfl rfl rfl rfl; simp only [Act.put, List.setIfInBounds_toArray, List.set_cons_zero, List.set_cons_succ]) | (apply lxN' (j := 8) (d := 53) (b := true) rfl rfl rfl; simp only [Act.put, List.setIfInBounds_toArray, List.set_cons_zero, List.set_cons_succ]) | (apply lxF0 (wantsg (j := 8) (d := 53) (b := true) rfl rfl rfl rfl); (· intro w' h0; have hw' := h0.old; have hcc := cellsBelow hw'; go_simp; (try go_bits); exact ⟨rfl, rfl⟩); simp only [Act.put, List.setIfInBounds_toArray, List.set_cons_zero, List.set_cons_succ])
    first | (apply lxN (j := 8) (d := 53) (b := true) rfl rfl rfl rfl; simp only [Act.put, List.setIfInBounds_toArray, List.set_cons_zero, List.set_cons_succ]) | (apply lxN' (j := 8) (d := 53) (b := true) rfl rfl rfl; simp only [Act.put, List.setIfInBounds_toArray, List.set_cons_zero, List.set_cons_succ]) | (apply lxF0 (wantsg (j := 8) (d := 53) (b := true) rfl rfl rfl rfl); (· intro w' h0; have hw' := h0.old; have hcc := cellsBelow hw'; go_simp; (try go_bits); exact ⟨rfl, rfl⟩); simp only [Act.put, List.setIfInBounds_toArray, List.set_cons_zero, List.set_cons_succ])
    apply lxH0 (wantsg (j := 8) (d := 53) (b := true) rfl rfl rfl rfl)
    · intro w' h0 hK; go_simp; (try go_bits); refine (is_yes _ _ rr rr w' (hK.get (F := fun w => NatV w _ rr) (by repeat (first | exact List.mem_cons_self .. | apply List.mem_cons_of_mem))) (hK.get (F := fun w => RefV w _ rr) (by repeat (first | exact List.mem_cons_self .. | apply List.mem_cons_of_mem))) (hK.get (F := fun w => Tab w) (by repeat (first | exact List.mem_cons_self .. | apply List.mem_cons_of_mem))) HL4.out rfl).mono ?_; rintro e w5 ⟨rfl, hb⟩; exact ⟨_, rfl, rfl, hb⟩
    simp only [Act.put, List.setIfInBounds_toArray, List.set_cons_zero, List.set_cons_succ]
    apply lxF0 (wants0 rfl); (· intro w' h0; have hw' := h0.old; have hcc := cellsBelow hw'; go_simp; (try go_bits); exact ⟨rfl, rfl⟩); simp only [Act.put, List.setIfInBounds_toArray, List.set_cons_zero, List.set_cons_succ]
    apply lxF0 (wants0 rfl); (· intro w' h0; have hw' := h0.old; have hcc := cellsBelow hw'; go_simp; (try go_bits); exact ⟨rfl, rfl⟩); simp only [Act.put, List.setIfInBounds_toArray, List.set_cons_zero, List.set_cons_succ]
    first | (apply lxN (j := 13) (d := 58) (b := true) rfl rfl rfl rfl; simp only [Act.put, List.setIfInBounds_toArray, List.set_cons_zero, List.set_cons_succ]) | (apply lxN' (j := 13) (d := 58) (b := true) rfl rfl rfl; simp only [Act.put, List.setIfInBounds_toArray, List.set_cons_zero, List.set_cons_succ]) | (apply lxF0 (wantsg (j := 13) (d := 58) (b := true) rfl rfl rfl rfl); (· intro w' h0; have hw' := h0.old; have hcc := cellsBelow hw'; go_simp; (try go_bits); exact ⟨rfl, rfl⟩); simp only [Act.put, List.setIfInBounds_toArray, List.set_cons_zero, List.set_cons_succ])
    first | (apply lxN (j := 13) (d := 58) (b := true) rfl rfl rfl rfl; simp only [Act.put, List.setIfInBounds_toArray, List.set_cons_zero, List.set_cons_succ]) | (apply lxN' (j := 13) (d := 58) (b := true) rfl rfl rfl; simp only [Act.put, List.setIfInBounds_toArray, List.set_cons_zero, List.set_cons_succ]) | (apply lxF0 (wantsg (j := 13) (d := 58) (b := true) rfl rfl rfl rfl); (· intro w' h0; have hw' := h0.old; have hcc := cellsBelow hw'; go_simp; (try go_bits); exact ⟨rfl, rfl⟩); simp only [Act.put, List.setIfInBounds_toArray, List.set_cons_zero, List.set_cons_succ])
    apply lxE0 (α := Value) (fun vv => vv) (fun vv => [fun w => NatV w vv (Nat.gcd n m)]) (wantsg (j := 13) (d := 58) (b := true) rfl rfl rfl rfl)
    · intro w' h0 hK; go_simp; (try go_bits); refine (gcd_any _ _ n m w' (hK.get (F := fun w => NatV w _ n) (by repeat (first | exact List.mem_cons_self .. | apply List.mem_cons_of_mem))) (hK.get (F := fun w => NatV w _ m) (by repeat (first | exact List.mem_cons_self .. | apply List.mem_cons_of_mem))) (by have := HL1.out.d32; omega) (by have := HL2.out.d32; omega)).mono ?_; rintro e w5 ⟨x, rfl, hx, hb⟩; exact ⟨_, rfl, hb, fun w6 h6 => hx.below h6⟩
    intro v61
    simp only [Act.put, List.setIfInBounds_toArray, List.set_cons_zero, List.set_cons_succ]
    first | (apply lxN (j := 13) (d := 58) (b := true) rfl rfl rfl rfl; simp only [Act.put, List.setIfInBounds_toArray, List.set_cons_zero, List.set_cons_succ]) | (apply lxN' (j := 13) (d := 58) (b := true) rfl rfl rfl; simp only [Act.put, List.setIfInBounds_toArray, List.set_cons_zero, List.set_cons_succ]) | (apply lxF0 (wantsg (j := 13) (d := 58) (b := true) rfl rfl rfl rfl); (· intro w' h0; have hw' := h0.old; have hcc := cellsBelow hw'; go_simp; (try go_bits); exact ⟨rfl, rfl⟩); simp only [Act.put, List.setIfInBounds_toArray, List.set_cons_zero, List.set_cons_succ])
    first | (apply lxN (j := 13) (d := 58) (b := true) rfl rfl rfl rfl; simp only [Act.put, List.setIfInBounds_toArray, List.set_cons_zero, List.set_cons_succ]) | (apply lxN' (j := 13) (d := 58) (b := true) rfl rfl rfl; simp only [Act.put, List.setIfInBounds_toArray, List.set_cons_zero, List.set_cons_succ]) | (apply lxF0 (wantsg (j := 13) (d := 58) (b := true) rfl rfl rfl rfl); (· intro w' h0; have hw' := h0.old; have hcc := cellsBelow hw'; go_simp; (try go_bits); exact ⟨rfl, rfl⟩); simp only [Act.put, List.setIfInBounds_toArray, List.set_cons_zero, List.set_cons_succ])
    apply lxE0 (α := Value) (fun vv => vv) (fun vv => [fun w => RefV w vv (Nat.gcd n m)]) (wantsg (j := 13) (d := 58) (b := true) rfl rfl rfl rfl)
    · intro w' h0 hK; go_simp; (try go_bits); refine (rgcd_any m n _ _ w' (hK.get (F := fun w => RefV w _ n) (by repeat (first | exact List.mem_cons_self .. | apply List.mem_cons_of_mem))) (hK.get (F := fun w => RefV w _ m) (by repeat (first | exact List.mem_cons_self .. | apply List.mem_cons_of_mem))) (by have := HL1.out.d6; omega) (by have := HL2.out.d6; omega)).mono ?_; rintro e w5 ⟨x, rfl, hx, hb⟩; exact ⟨_, rfl, hb, fun w6 h6 => hx.below h6⟩
    intro v64
    simp only [Act.put, List.setIfInBounds_toArray, List.set_cons_zero, List.set_cons_succ]
    apply lxH0 (wantsg (j := 13) (d := 58) (b := true) rfl rfl rfl rfl)
    · intro w' h0 hK; go_simp; (try go_bits); refine (is_yes _ _ (Nat.gcd n m) (Nat.gcd n m) w' (hK.get (F := fun w => NatV w _ (Nat.gcd n m)) (by repeat (first | exact List.mem_cons_self .. | apply List.mem_cons_of_mem))) (hK.get (F := fun w => RefV w _ (Nat.gcd n m)) (by repeat (first | exact List.mem_cons_self .. | apply List.mem_cons_of_mem))) (hK.get (F := fun w => Tab w) (by repeat (first | exact List.mem_cons_self .. | apply List.mem_cons_of_mem))) HL5.out rfl).mono ?_; rintro e w5 ⟨rfl, hb⟩; exact ⟨_, rfl, rfl, hb⟩
    simp only [Act.put, List.setIfInBounds_toArray, List.set_cons_zero, List.set_cons_succ]
    apply lxF0 (wants0 rfl); (· intro w' h0; have hw' := h0.old; have hcc := cellsBelow hw'; go_simp; (try go_bits); exact ⟨rfl, rfl⟩); simp only [Act.put, List.setIfInBounds_toArray, List.set_cons_zero, List.set_cons_succ]
    apply lxF0 (wants0 rfl); (· intro w' h0; have hw' := h0.old; have hcc := cellsBelow hw'; go_simp; (try go_bits); exact ⟨rfl, rfl⟩); simp only [Act.put, List.setIfInBounds_toArray, List.set_cons_zero, List.set_cons_succ]
    refine lxEnd (fun W9 hK9 => ?_)
    go_wp2
    go_ret
    exact ⟨rfl, hK.old.trans (hK9.old.mono hK.old.size)⟩
  · rw [decide_eq_false hl] at HS
    go_enter Tryd.func6, Tryd.ntmps6
    go_wp2_with (first
      | (go_at_call 11; refine HA.out.mono ?_; clear HA; rintro e W1 ⟨rfl, hb1⟩)
      | (go_at_call 12; refine (HS.out _).mono ?_; clear HS; rintro e W2 ⟨rfl, rfl⟩))
    go_ret
    exact ⟨rfl, hb1⟩

end Go.Proofs.YtepljhpamconbaaDoor
