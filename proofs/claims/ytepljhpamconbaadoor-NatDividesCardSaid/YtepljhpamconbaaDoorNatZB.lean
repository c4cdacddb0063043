/- The law NatDivides. -/
import Derived.Test.YtepljhpamconbaaDoorNatZ
namespace Go.Proofs.YtepljhpamconbaaDoor
open Go.RowKit
open Go.Lib (decDigits)

theorem gcd_mul (x y z : Nat) : Nat.gcd (x * z) (y * z) = Nat.gcd x y * z := Nat.gcd_mul_right x z y
theorem big_any (p q r : Option Addr) (l m k c d e : Nat) : True := trivial

set_option maxRecDepth 100000 in
set_option maxHeartbeats 8000000 in
theorem natDivides_walk (v u t : Value) (ds es cs : List Nat) (w : World) (hv : InV w v ds) (hu : InV w u es) (hw : InV w t cs) (hd : ∀ d ∈ ds, d < B32) (he : ∀ d ∈ es, d < B32) (hf : ∀ d ∈ cs, d < B32) (ht : Tab w) :
    Calls Tryd.prog 8 #[v, u, t] w fun e w' => e = .returned (.bool true) ∧ Below w.heap.size w w' := by
  obtain ⟨p, c, rfl, _⟩ := hv.slice
  obtain ⟨q, c', rfl, _⟩ := hu.slice
  obtain ⟨r, c'', rfl, _⟩ := hw.slice
  have HA := hid (awake_any w ht)
  by_cases l1 : ds.length ≤ 8
  case neg =>
    have q1 : (8 : Int) < (ds.length : Int) := by omega
    go_enter Tryd.func8, Tryd.ntmps8
    go_wp2_with (go_at_call 11; refine HA.out.mono ?_; clear HA; rintro e W1 ⟨rfl, hb1⟩)
    go_ret
    exact ⟨rfl, hb1⟩
  by_cases l2 : es.length ≤ 8
  case neg =>
    have q1 : ¬ (8 : Int) < (ds.length : Int) := by omega
    have q2 : (8 : Int) < (es.length : Int) := by omega
    go_enter Tryd.func8, Tryd.ntmps8
    go_wp2_with (go_at_call 11; refine HA.out.mono ?_; clear HA; rintro e W1 ⟨rfl, hb1⟩)
    go_ret
    exact ⟨rfl, hb1⟩
  by_cases l3 : cs.length ≤ 8
  case neg =>
    have q1 : ¬ (8 : Int) < (ds.length : Int) := by omega
    have q2 : ¬ (8 : Int) < (es.length : Int) := by omega
    have q3 : (8 : Int) < (cs.length : Int) := by omega
    go_enter Tryd.func8, Tryd.ntmps8
    go_wp2_with (go_at_call 11; refine HA.out.mono ?_; clear HA; rintro e W1 ⟨rfl, hb1⟩)
    go_ret
    exact ⟨rfl, hb1⟩
  have q1 : ¬ (8 : Int) < (ds.length : Int) := by omega
  have q2 : ¬ (8 : Int) < (es.length : Int) := by omega
  have q3 : ¬ (8 : Int) < (cs.length : Int) := by omega
  have hX : Lm 8 (val B32 ds) := Nat.lt_of_lt_of_le (val_lt b32_2 hd) (Nat.pow_le_pow_right (by decide) l1)
  have hY : Lm 8 (val B32 es) := Nat.lt_of_lt_of_le (val_lt b32_2 he) (Nat.pow_le_pow_right (by decide) l2)
  have hZ : Lm 8 (val B32 cs) := Nat.lt_of_lt_of_le (val_lt b32_2 hf) (Nat.pow_le_pow_right (by decide) l3)
  have HN1 := hid (fun w1 (hb : Below w.heap.size w w1) => number_any _ ds w1 (hv.below hb) hd (by omega))
  have HN2 := hid (fun w1 (hb : Below w.heap.size w w1) => number_any _ es w1 (hu.below hb) he (by omega))
  have HN3 := hid (fun w1 (hb : Below w.heap.size w w1) => number_any _ cs w1 (hw.below hb) hf (by omega))
  obtain ⟨x, hx⟩ : ∃ n, val B32 ds = n := ⟨_, rfl⟩
  obtain ⟨y, hy⟩ : ∃ n, val B32 es = n := ⟨_, rfl⟩
  obtain ⟨z, hz⟩ : ∃ n, val B32 cs = n := ⟨_, rfl⟩
  rw [hx] at HN1 hX
  rw [hy] at HN2 hY
  rw [hz] at HN3 hZ
  have hK := (KS.start w).add (F := fun w => Tab w) fun w' hb => ht.below hb
  clear hx hy hz hd he hf hv hu hw ht
  go_enter Tryd.func8, Tryd.ntmps8
  go_upto_region 5 with (go_at_call 11; refine HA.out.mono ?_; clear HA; rintro e W1 ⟨rfl, hb1⟩; replace hK := hK.step hb1; clear hb1)

  go_upto_region 6 with (go_at_call 13; refine (HN1.out _ hK.old).mono ?_; clear HN1; rintro e W3 ⟨xv, y1, rfl, hx, hy, hw⟩; obtain ⟨p1, c1, rfl, _⟩ := hx.dig; replace hK := ((hK.step hw).add (F := fun w => NatV w (.agg #[.slice p1 (digs B32 x).length c1]) x) fun w' h => hx.below h).add (F := fun w => RefV w y1 x) fun w' h => hy.below h; clear hx hy hw)
  obtain ⟨V1, hV1, hKV⟩ : ∃ V1, V1 = W3.alloc (.cells #[.slice p1 (digs B32 x).length c1] 26) ∧ KS w _ V1 := ⟨_, rfl, hK.box _⟩
  rw [← hV1]
  clear hV1 hK
  have hK := hKV
  clear hKV
  generalize W3.heap.size = R1 at hK ⊢
  go_upto_region 7 with (go_at_call 13; refine (HN2.out _ hK.old).mono ?_; clear HN2; rintro e W4 ⟨xv, y2, rfl, hx, hy, hw⟩; obtain ⟨p2, c2, rfl, _⟩ := hx.dig; replace hK := ((hK.step hw).add (F := fun w => NatV w (.agg #[.slice p2 (digs B32 y).length c2]) y) fun w' h => hx.below h).add (F := fun w => RefV w y2 y) fun w' h => hy.below h; clear hx hy hw)
  obtain ⟨V2, hV2, hKV⟩ : ∃ V2, V2 = W4.alloc (.cells #[.slice p2 (digs B32 y).length c2] 26) ∧ KS w _ V2 := ⟨_, rfl, hK.box _⟩
  rw [← hV2]
  clear hV2 hK
  have hK := hKV
  clear hKV
  generalize W4.heap.size = R2 at hK ⊢
  go_upto_region 8 with (go_at_call 13; refine (HN3.out _ hK.old).mono ?_; clear HN3; rintro e W5 ⟨xv, y3, rfl, hx, hy, hw⟩; obtain ⟨p3, c3, rfl, _⟩ := hx.dig; replace hK := ((hK.step hw).add (F := fun w => NatV w (.agg #[.slice p3 (digs B32 z).length c3]) z) fun w' h => hx.below h).add (F := fun w => RefV w y3 z) fun w' h => hy.below h; clear hx hy hw)
  obtain ⟨V3, hV3, hKV⟩ : ∃ V3, V3 = W5.alloc (.cells #[.slice p3 (digs B32 z).length c3] 26) ∧ KS w _ V3 := ⟨_, rfl, hK.box _⟩
  rw [← hV3]
  clear hV3 hK
  have hK := hKV
  clear hKV
  generalize W5.heap.size = R3 at hK ⊢
  have kA := hK.get (F := Has 0 R1 (.cells #[.slice p1 (digs B32 x).length c1] 26)) (by repeat (first | exact List.mem_cons_self .. | apply List.mem_cons_of_mem))
  have kB := hK.get (F := Has 0 R2 (.cells #[.slice p2 (digs B32 y).length c2] 26)) (by repeat (first | exact List.mem_cons_self .. | apply List.mem_cons_of_mem))
  have kC := hK.get (F := Has 0 R3 (.cells #[.slice p3 (digs B32 z).length c3] 26)) (by repeat (first | exact List.mem_cons_self .. | apply List.mem_cons_of_mem))
  have d0 := kA.cell
  have d1 := kB.cell
  have d2 := kC.cell
  have b0 := kA.lt
  have b1 := kB.lt
  have b2 := kC.lt
  by_cases hy0 : y = 0
  · subst hy0
    have HZ1 := hid (isZero_any _ 0 V3 (hK.get (F := fun w => NatV w (.agg #[.slice p2 (digs B32 0).length c2]) 0) (by repeat (first | exact List.mem_cons_self .. | apply List.mem_cons_of_mem))))
    go_wp2_with (go_at_call 18; refine HZ1.out.mono ?_; clear HZ1; rintro e W6 ⟨rfl, hw⟩; replace hK := hK.step hw)
    go_ret
    exact ⟨rfl, hK.old⟩
  by_cases hz0 : z = 0
  · subst hz0
    have HZ1 := hid (isZero_any _ y V3 (hK.get (F := fun w => NatV w (.agg #[.slice p2 (digs B32 y).length c2]) y) (by repeat (first | exact List.mem_cons_self .. | apply List.mem_cons_of_mem))))
    rw [show (y == 0) = false by rw [beq_eq_false_iff_ne]; exact hy0] at HZ1
    have HZ2 := hid (fun w1 (hb : Below V3.heap.size V3 w1) => isZero_any _ 0 w1 ((hK.get (F := fun w => NatV w (.agg #[.slice p3 (digs B32 0).length c3]) 0) (by repeat (first | exact List.mem_cons_self .. | apply List.mem_cons_of_mem))).below hb))
    go_wp2_with (first
      | (go_at_call 18; refine HZ1.out.mono ?_; clear HZ1; rintro e W6 ⟨rfl, hw⟩; have hcc := cellsBelow hw; replace hK := hK.step hw)
      | (go_at_call 18; refine (HZ2.out _ hw).mono ?_; clear HZ2; rintro e W7 ⟨rfl, hw7⟩; replace hK := hK.step hw7))
    go_ret
    exact ⟨rfl, hK.old⟩
  have HZ1 := hid (isZero_any _ y V3 (hK.get (F := fun w => NatV w (.agg #[.slice p2 (digs B32 y).length c2]) y) (by repeat (first | exact List.mem_cons_self .. | apply List.mem_cons_of_mem))))
  rw [show (y == 0) = false by rw [beq_eq_false_iff_ne]; exact hy0] at HZ1
  have HZ2 := hid (fun w1 (hb : Below V3.heap.size V3 w1) => isZero_any _ z w1 ((hK.get (F := fun w => NatV w (.agg #[.slice p3 (digs B32 z).length c3]) z) (by repeat (first | exact List.mem_cons_self .. | apply List.mem_cons_of_mem))).below hb))
  rw [show (z == 0) = false by rw [beq_eq_false_iff_ne]; exact hz0] at HZ2
  have LX := hid (hX.lim (by omega))
  have LY := hid (hY.lim (by omega))
  have LZ := hid (hZ.lim (by omega))
  have LXZ := hid ((hX.mul hZ).lim (by omega))
  have LYZ := hid ((hY.mul hZ).lim (by omega))
  have LG := hid (Lim.le (((hX.mul hZ).add (hY.mul hZ)).lim (by omega)) (gcd_le (x * z) (y * z)))
  have hYp : 0 < y := Nat.pos_of_ne_zero hy0
  have hZp : 0 < z := Nat.pos_of_ne_zero hz0
  have hqr : x / y * y + x % y = x := by rw [Nat.mul_comm]; exact Nat.div_add_mod x y
  have hrl : x % y < y := Nat.mod_lt x hYp
  have hg0 : Nat.gcd (x * z) (y * z) ≠ 0 := fun h => by
    have := Nat.eq_zero_of_gcd_eq_zero_right h
    rcases Nat.mul_eq_zero.1 this with h | h <;> omega
  have HG1 := hid (show Nat.gcd (x * z) (y * z) % z = 0 by rw [gcd_mul, Nat.mul_mod_left])
  have HG2 := hid (show x * z % Nat.gcd (x * z) (y * z) = 0 from Nat.mod_eq_zero_of_dvd (Nat.gcd_dvd_left _ _))
  have HG3 := hid (show y * z % Nat.gcd (x * z) (y * z) = 0 from Nat.mod_eq_zero_of_dvd (Nat.gcd_dvd_right _ _))
  have LQ := hid (Lim.le (hX.lim (by omega)) (Nat.div_le_self x y))
  have LR := hid (Lim.le (hX.lim (by omega)) (Nat.mod_le x y))
  have LQY := hid (Lim.le (hX.lim (by omega)) (show x / y * y ≤ x by omega))
  have HCR := hid (show ¬ 0 ≤ cmpN (x % y) y by rw [cmpN_lt hrl]; decide)
  have HD1 := hid (fun (v u : Value) (w1 : World) (h : NatV w1 v x) (h' : NatV w1 u y) => divmod_any v u x y w1 h h' hy0 (by have := LX.out.d32; omega) (by have := LY.out.d32; omega))
  obtain ⟨g, hge⟩ : ∃ g, Nat.gcd (x * z) (y * z) = g := ⟨_, rfl⟩
  have HD2 := hid (fun (v u : Value) (w1 : World) (h : NatV w1 v g) (h' : NatV w1 u z) => divmod_any v u g z w1 h h' hz0 (by have := LG.out.d32; rw [hge] at this; omega) (by have := LZ.out.d32; omega))
  have HD3 := hid (fun (v u : Value) (w1 : World) (h : NatV w1 v (x * z)) (h' : NatV w1 u g) => divmod_any v u (x * z) g w1 h h' (by rw [← hge]; exact hg0) (by have := LXZ.out.d32; omega) (by have := LG.out.d32; rw [hge] at this; omega))
  have HD4 := hid (fun (v u : Value) (w1 : World) (h : NatV w1 v (y * z)) (h' : NatV w1 u g) => divmod_any v u (y * z) g w1 h h' (by rw [← hge]; exact hg0) (by have := LYZ.out.d32; omega) (by have := LG.out.d32; rw [hge] at this; omega))
  have HGC := hid (fun (v u : Value) (w1 : World) (h : NatV w1 v (x * z)) (h' : NatV w1 u (y * z)) => gcd_any v u (x * z) (y * z) w1 h h' (by have := LXZ.out.d32; omega) (by have := LYZ.out.d32; omega))
  rw [hge] at HG1 HG2 HG3 HGC
  rw [HG1.out] at HD2
  rw [HG2.out] at HD3
  rw [HG3.out] at HD4
  obtain ⟨qq, hqq⟩ : ∃ qq, x / y = qq := ⟨_, rfl⟩
  obtain ⟨rr, hrr⟩ : ∃ rr, x % y = rr := ⟨_, rfl⟩
  rw [hqq] at HD1 LQ LQY hqr
  rw [hrr] at HD1 LR HCR hqr
  have HQR := hid hqr
  clear hqr hrl hg0 hge hqq hrr hX hY hZ hYp hZp hy0 hz0
  have hcc0 := cellsBelow (Below.refl V3.heap.size V3)
  go_upto_region 10 with (first
    | (go_at_call 18; refine HZ1.out.mono ?_; clear HZ1; rintro e W6 ⟨rfl, hw⟩; have hcc := cellsBelow hw; replace hK := hK.step hw)
    | (go_at_call 18; refine (HZ2.out _ hw).mono ?_; clear HZ2; rintro e W7 ⟨rfl, hw7⟩; replace hK := hK.step hw7; clear hcc hw hw7 d0 d1 d2 b0 b1 b2 kA kB kC hcc0))
  have kA := hK.get (F := Has 0 R1 (.cells #[.slice p1 (digs B32 x).length c1] 26)) (by repeat (first | exact List.mem_cons_self .. | apply List.mem_cons_of_mem))
  have kB := hK.get (F := Has 0 R2 (.cells #[.slice p2 (digs B32 y).length c2] 26)) (by repeat (first | exact List.mem_cons_self .. | apply List.mem_cons_of_mem))
  have kC := hK.get (F := Has 0 R3 (.cells #[.slice p3 (digs B32 z).length c3] 26)) (by repeat (first | exact List.mem_cons_self .. | apply List.mem_cons_of_mem))
  have d0 := kA.cell
  have d1 := kB.cell
  have d2 := kC.cell
  have b0 := kA.lt
  have b1 := kB.lt
  have b2 := kC.lt
  go_upto_region 11 with (go_at_call 22; refine (HD1.out _ _ _ (hK.get (F := fun w => NatV w _ x) (by repeat (first | exact List.mem_cons_self .. | apply List.mem_cons_of_mem))) (hK.get (F := fun w => NatV w _ y) (by repeat (first | exact List.mem_cons_self .. | apply List.mem_cons_of_mem)))).mono ?_; clear HD1; rintro e W5 ⟨xv, yv, rfl, hx, hy, hw⟩; obtain ⟨p4, c4, rfl, _⟩ := hx.dig; obtain ⟨p5, c5, rfl, _⟩ := hy.dig; replace hK := ((hK.step hw).add (F := fun w => NatV w (.agg #[.slice p4 (digs B32 qq).length c4]) qq) fun w' h => hx.below h).add (F := fun w => NatV w (.agg #[.slice p5 (digs B32 rr).length c5]) rr) fun w' h => hy.below h; clear hx hy hw)
  obtain ⟨V4, R4, R5, hV4, hR3, hR4, hKV⟩ : ∃ V4 R4 R5, V4 = (W5.alloc (.cells #[.slice p4 (digs B32 qq).length c4] 26)).alloc (.cells #[.slice p5 (digs B32 rr).length c5] 26) ∧ W5.heap.size = R4 ∧ W5.heap.size + 1 = R5 ∧ KS w (Has 0 R5 (.cells #[.slice p5 (digs B32 rr).length c5] 26) :: Has 0 R4 (.cells #[.slice p4 (digs B32 qq).length c4] 26) :: _) V4 := by
    refine ⟨_, _, _, rfl, rfl, rfl, ?_⟩
    have := (hK.box (.cells #[.slice p4 (digs B32 qq).length c4] 26)).box (.cells #[.slice p5 (digs B32 rr).length c5] 26)
    rw [World.size_alloc] at this
    exact this
  rw [← hV4, hR4, hR3]
  clear hV4 hK d0 d1 d2 b0 b1 b2 kA kB kC hR3 hR4
  have hK := hKV
  clear hKV
  have kA := hK.get (F := Has 0 R1 (.cells #[.slice p1 (digs B32 x).length c1] 26)) (by repeat (first | exact List.mem_cons_self .. | apply List.mem_cons_of_mem))
  have kB := hK.get (F := Has 0 R2 (.cells #[.slice p2 (digs B32 y).length c2] 26)) (by repeat (first | exact List.mem_cons_self .. | apply List.mem_cons_of_mem))
  have kC := hK.get (F := Has 0 R3 (.cells #[.slice p3 (digs B32 z).length c3] 26)) (by repeat (first | exact List.mem_cons_self .. | apply List.mem_cons_of_mem))
  have d0 := kA.cell
  have d1 := kB.cell
  have d2 := kC.cell
  have b0 := kA.lt
  have b1 := kB.lt
  have b2 := kC.lt
  have kD := hK.get (F := Has 0 R4 (.cells #[.slice p4 (digs B32 qq).length c4] 26)) (by repeat (first | exact List.mem_cons_self .. | apply List.mem_cons_of_mem))
  have kE := hK.get (F := Has 0 R5 (.cells #[.slice p5 (digs B32 rr).length c5] 26)) (by repeat (first | exact List.mem_cons_self .. | apply List.mem_cons_of_mem))
  have d3 := kD.cell
  have d4 := kE.cell
  have b3 := kD.lt
  have b4 := kE.lt
  have hcr := HCR.out
  have hrz : (cmpN (qq * y + rr) x != 0) = false := by rw [HQR.out, cmpN_eq]; rfl
  obtain ⟨cm1, hcm1⟩ : ∃ cm, cmpN rr y = cm := ⟨_, rfl⟩
  rw [hcm1] at hcr
  have hcd : decide (0 ≤ cm1) = false := decide_eq_false (by omega)
  have HCM1 := hid (fun (v u : Value) (w1 : World) (h : NatV w1 v rr) (h' : NatV w1 u y) => cmp_any v u rr y w1 h h' (by have := LR.out.d32; omega) (by have := LY.out.d32; omega))
  rw [hcm1] at HCM1
  clear hcm1
  have HCM2 := hid (fun (v u : Value) (w1 : World) (h : NatV w1 v (qq * y + rr)) (h' : NatV w1 u x) => cmp_any v u (qq * y + rr) x w1 h h' (by rw [HQR.out]; have := LX.out.d32; omega) (by have := LX.out.d32; omega))
  have hce : cmpN (qq * y + rr) x = 0 := by rw [HQR.out, cmpN_eq]
  rw [hce] at HCM2
  clear hce
  clear hrz
  refine wp_region_float (V4) _ [0, 0, 0, 0, 0, 1, 0, 0, 0, 0, 0, 2, 0, 2, 0, 1, 0, 0] (by kernel_rfl) (by kernel_rfl) (by kernel_rfl) (by kernel_rfl) (KS.drew hK.re) ?_
  apply lxF0 (wants0 rfl); (· intro w' h0; have hw' := h0.old; have hcc := cellsBelow hw'; go_simp; (try go_bits); exact ⟨rfl, rfl⟩); simp only [Act.put, List.setIfInBounds_toArray, List.set_cons_zero, List.set_cons_succ]
  apply lxF0 (wants0 rfl); (· intro w' h0; have hw' := h0.old; have hcc := cellsBelow hw'; go_simp; (try go_bits); exact ⟨rfl, rfl⟩); simp only [Act.put, List.setIfInBounds_toArray, List.set_cons_zero, List.set_cons_succ]
  apply lxF0 (wants0 rfl); (· intro w' h0; have hw' := h0.old; have hcc := cellsBelow hw'; go_simp; (try go_bits); exact ⟨rfl, rfl⟩); simp only [Act.put, List.setIfInBounds_toArray, List.set_cons_zero, List.set_cons_succ]
  first | (apply lxN (j := 2) (d := 71) (b := false) rfl rfl rfl rfl; simp only [Act.put, List.setIfInBounds_toArray, List.set_cons_zero, List.set_cons_succ]) | (apply lxN' (j := 2) (d := 71) (b := false) rfl rfl rfl; simp only [Act.put, List.setIfInBounds_toArray, List.set_cons_zero, List.set_cons_succ]) | (apply lxF0 (wantsg (j := 2) (d := 71) (b := false) rfl rfl rfl rfl); (· intro w' h0; have hw' := h0.old; have hcc := cellsBelow hw'; go_simp; (try go_bits); exact ⟨rfl, rfl⟩); simp only [Act.put, List.setIfInBounds_toArray, List.set_cons_zero, List.set_cons_succ])
  first | (apply lxN (j := 2) (d := 71) (b := false) rfl rfl rfl rfl; simp only [Act.put, List.setIfInBounds_toArray, List.set_cons_zero, List.set_cons_succ]) | (apply lxN' (j := 2) (d := 71) (b := false) rfl rfl rfl; simp only [Act.put, List.setIfInBounds_toArray, List.set_cons_zero, List.set_cons_succ]) | (apply lxF0 (wantsg (j := 2) (d := 71) (b := false) rfl rfl rfl rfl); (· intro w' h0; have hw' := h0.old; have hcc := cellsBelow hw'; go_simp; (try go_bits); exact ⟨rfl, rfl⟩); simp only [Act.put, List.setIfInBounds_toArray, List.set_cons_zero, List.set_cons_succ])
  apply lxH0 (wantsg (j := 2) (d := 71) (b := false) rfl rfl rfl rfl)
  · intro w' h0 hK; go_simp; (try go_bits); refine (HCM1.out _ _ w' (hK.get (F := fun w => NatV w _ rr) (by repeat (first | exact List.mem_cons_self .. | apply List.mem_cons_of_mem))) (hK.get (F := fun w => NatV w _ y) (by repeat (first | exact List.mem_cons_self .. | apply List.mem_cons_of_mem)))).mono ?_; rintro e w5 ⟨rfl, hb⟩; exact ⟨_, rfl, rfl, hb⟩
  simp only [Act.put, List.setIfInBounds_toArray, List.set_cons_zero, List.set_cons_succ]
  first | (apply lxN (j := 2) (d := 71) (b := false) rfl rfl rfl rfl; simp only [Act.put, List.setIfInBounds_toArray, List.set_cons_zero, List.set_cons_succ]) | (apply lxN' (j := 2) (d := 71) (b := false) rfl rfl rfl; simp only [Act.put, List.setIfInBounds_toArray, List.set_cons_zero, List.set_cons_succ]) | (apply lxF0 (wantsg (j := 2) (d := 71) (b := false) rfl rfl rfl rfl); (· intro w' h0; have hw' := h0.old; have hcc := cellsBelow hw'; go_simp; (try go_bits); exact ⟨rfl, rfl⟩); simp only [Act.put, List.setIfInBounds_toArray, List.set_cons_zero, List.set_cons_succ])
  apply lxF0 (wants0 rfl); (· intro w' h0; have hw' := h0.old; have hcc := cellsBelow hw'; go_simp; (try go_bits); exact ⟨rfl, rfl⟩); simp only [Act.put, List.setIfInBounds_toArray, List.set_cons_zero, List.set_cons_succ]
  apply lxF0 (wants0 rfl); (· intro w' h0; have hw' := h0.old; have hcc := cellsBelow hw'; go_simp; (try go_bits); exact ⟨rfl, rfl⟩); simp only [Act.put, List.setIfInBounds_toArray, List.set_cons_zero, List.set_cons_succ]
  first | (apply lxN (j := 8) (d := 77) (b := false) rfl rfl rfl rfl; simp only [Act.put, List.setIfInBounds_toArray, List.set_cons_zero, List.set_cons_succ]) | (apply lxN' (j := 8) (d := 77) (b := false) rfl rfl rfl; simp only [Act.put, List.setIfInBounds_toArray, List.set_cons_zero, List.set_cons_succ]) | (apply lxF0 (wantsg (j := 8) (d := 77) (b := false) rfl rfl rfl rfl); (· intro w' h0; have hw' := h0.old; have hcc := cellsBelow hw'; go_simp; (try go_bits); exact ⟨rfl, rfl⟩); simp only [Act.put, List.setIfInBounds_toArray, List.set_cons_zero, List.set_cons_succ])
  first | (apply lxN (j := 8) (d := 77) (b := false) rfl rfl rfl rfl; simp only [Act.put, List.setIfInBounds_toArray, List.set_cons_zero, List.set_cons_succ]) | (apply lxN' (j := 8) (d := 77) (b := false) rfl rfl rfl; simp only [Act.put, List.setIfInBounds_toArray, List.set_cons_zero, List.set_cons_succ]) | (apply lxF0 (wantsg (j := 8) (d := 77) (b := false) rfl rfl rfl rfl); (· intro w' h0; have hw' := h0.old; have hcc := cellsBelow hw'; go_simp; (try go_bits); exact ⟨rfl, rfl⟩); simp only [Act.put, List.setIfInBounds_toArray, List.set_cons_zero, List.set_cons_succ])
  apply lxE0 (α := Value) (fun vv => vv) (fun vv => [fun w => NatV w vv (qq * y)]) (wantsg (j := 8) (d := 77) (b := false) rfl rfl rfl rfl)
  · intro w' h0 hK; go_simp; (try go_bits); refine (mul_any _ _ (qq) (y) w' (hK.get (F := fun w => NatV w _ (qq)) (by repeat (first | exact List.mem_cons_self .. | apply List.mem_cons_of_mem))) (hK.get (F := fun w => NatV w _ (y)) (by repeat (first | exact List.mem_cons_self .. | apply List.mem_cons_of_mem))) (by have := LQ.out.d32; have := LY.out.d32; omega)).mono ?_; rintro e w5 ⟨x, rfl, hx, hb⟩; exact ⟨_, rfl, hb, fun w6 h6 => hx.below h6⟩
  intro v80
  simp only [Act.put, List.setIfInBounds_toArray, List.set_cons_zero, List.set_cons_succ]
  first | (apply lxN (j := 8) (d := 77) (b := false) rfl rfl rfl rfl; simp only [Act.put, List.setIfInBounds_toArray, List.set_cons_zero, List.set_cons_succ]) | (apply lxN' (j := 8) (d := 77) (b := false) rfl rfl rfl; simp only [Act.put, List.setIfInBounds_toArray, List.set_cons_zero, List.set_cons_succ]) | (apply lxF0 (wantsg (j := 8) (d := 77) (b := false) rfl rfl rfl rfl); (· intro w' h0; have hw' := h0.old; have hcc := cellsBelow hw'; go_simp; (try go_bits); exact ⟨rfl, rfl⟩); simp only [Act.put, List.setIfInBounds_toArray, List.set_cons_zero, List.set_cons_succ])
  apply lxE0 (α := Value) (fun vv => vv) (fun vv => [fun w => NatV w vv (qq * y + rr)]) (wantsg (j := 8) (d := 77) (b := false) rfl rfl rfl rfl)
  · intro w' h0 hK; go_simp; (try go_bits); refine (add_any _ _ (qq * y) (rr) w' (hK.get (F := fun w => NatV w _ (qq * y)) (by repeat (first | exact List.mem_cons_self .. | apply List.mem_cons_of_mem))) (hK.get (F := fun w => NatV w _ (rr)) (by repeat (first | exact List.mem_cons_self .. | apply List.mem_cons_of_mem))) (by have := LQY.out.d32; omega) (by have := LR.out.d32; omega)).mono ?_; rintro e w5 ⟨x, rfl, hx, hb⟩; exact ⟨_, rfl, hb, fun w6 h6 => hx.below h6⟩
  intro v82
  simp only [Act.put, List.setIfInBounds_toArray, List.set_cons_zero, List.set_cons_succ]
  first | (apply lxN (j := 8) (d := 77) (b := false) rfl rfl rfl rfl; simp only [Act.put, List.setIfInBounds_toArray, List.set_cons_zero, List.set_cons_succ]) | (apply lxN' (j := 8) (d := 77) (b := false) rfl rfl rfl; simp only [Act.put, List.setIfInBounds_toArray, List.set_cons_zero, List.set_cons_succ]) | (apply lxF0 (wantsg (j := 8) (d := 77) (b := false) rfl rfl rfl rfl); (· intro w' h0; have hw' := h0.old; have hcc := cellsBelow hw'; go_simp; (try go_bits); exact ⟨rfl, rfl⟩); simp only [Act.put, List.setIfInBounds_toArray, List.set_cons_zero, List.set_cons_succ])
  apply lxH0 (wantsg (j := 8) (d := 77) (b := false) rfl rfl rfl rfl)
  · intro w' h0 hK; go_simp; (try go_bits); refine (HCM2.out _ _ w' (hK.get (F := fun w => NatV w _ (qq * y + rr)) (by repeat (first | exact List.mem_cons_self .. | apply List.mem_cons_of_mem))) (hK.get (F := fun w => NatV w _ x) (by repeat (first | exact List.mem_cons_self .. | apply List.mem_cons_of_mem)))).mono ?_; rintro e w5 ⟨rfl, hb⟩; exact ⟨_, rfl, rfl, hb⟩
  simp only [Act.put, List.setIfInBounds_toArray, List.set_cons_zero, List.set_cons_succ]
  first | (apply lxN (j := 8) (d := 77) (b := false) rfl rfl rfl rfl; simp only [Act.put, List.setIfInBounds_toArray, List.set_cons_zero, List.set_cons_succ]) | (apply lxN' (j := 8) (d := 77) (b := false) rfl rfl rfl; simp only [Act.put, List.setIfInBounds_toArray, List.set_cons_zero, List.set_cons_succ]) | (apply lxF0 (wantsg (j := 8) (d := 77) (b := false) rfl rfl rfl rfl); (· intro w' h0; have hw' := h0.old; have hcc := cellsBelow hw'; go_simp; (try go_bits); exact ⟨rfl, rfl⟩); simp only [Act.put, List.setIfInBounds_toArray, List.set_cons_zero, List.set_cons_succ])
  apply lxF0 (wants0 rfl); (· intro w' h0; have hw' := h0.old; have hcc := cellsBelow hw'; go_simp; (try go_bits); exact ⟨rfl, rfl⟩); simp only [Act.put, List.setIfInBounds_toArray, List.set_cons_zero, List.set_cons_succ]
  refine lxEnd (fun W9 hK9 => ?_)
  replace hK := hK.step hK9.old
  clear hK9 d0 d1 d2 b0 b1 b2 kA kB kC d3 d4 b3 b4 kD kE hcr hcd HCM1 HCM2
  have kA := hK.get (F := Has 0 R1 (.cells #[.slice p1 (digs B32 x).length c1] 26)) (by repeat (first | exact List.mem_cons_self .. | apply List.mem_cons_of_mem))
  have kB := hK.get (F := Has 0 R2 (.cells #[.slice p2 (digs B32 y).length c2] 26)) (by repeat (first | exact List.mem_cons_self .. | apply List.mem_cons_of_mem))
  have kC := hK.get (F := Has 0 R3 (.cells #[.slice p3 (digs B32 z).length c3] 26)) (by repeat (first | exact List.mem_cons_self .. | apply List.mem_cons_of_mem))
  have d0 := kA.cell
  have d1 := kB.cell
  have d2 := kC.cell
  have b0 := kA.lt
  have b1 := kB.lt
  have b2 := kC.lt
  go_upto_region 13 with (fail)
  refine wp_region_float (W9) _ [0, 0, 2, 0, 0, 2, 2, 3, 4] (by kernel_rfl) (by kernel_rfl) (by kernel_rfl) (by kernel_rfl) (KS.drew hK.re) ?_
  apply lxF0 (wants0 rfl); (· intro w' h0; have hw' := h0.old; have hcc := cellsBelow hw'; go_simp; (try go_bits); exact ⟨rfl, rfl⟩); simp only [Act.put, List.setIfInBounds_toArray, List.set_cons_zero, List.set_cons_succ]
  apply lxF0 (wants0 rfl); (· intro w' h0; have hw' := h0.old; have hcc := cellsBelow hw'; go_simp; (try go_bits); exact ⟨rfl, rfl⟩); simp only [Act.put, List.setIfInBounds_toArray, List.set_cons_zero, List.set_cons_succ]
  apply lxE0 (α := Value) (fun vv => vv) (fun vv => [fun w => NatV w vv (x * z)]) (wants0 rfl)
  · intro w' h0 hK; go_simp; (try go_bits); refine (mul_any _ _ (x) (z) w' (hK.get (F := fun w => NatV w _ (x)) (by repeat (first | exact List.mem_cons_self .. | apply List.mem_cons_of_mem))) (hK.get (F := fun w => NatV w _ (z)) (by repeat (first | exact List.mem_cons_self .. | apply List.mem_cons_of_mem))) (by have := LX.out.d32; have := LZ.out.d32; omega)).mono ?_; rintro e w5 ⟨x, rfl, hx, hb⟩; exact ⟨_, rfl, hb, fun w6 h6 => hx.below h6⟩
  intro v89
  simp only [Act.put, List.setIfInBounds_toArray, List.set_cons_zero, List.set_cons_succ]
  apply lxF0 (wants0 rfl); (· intro w' h0; have hw' := h0.old; have hcc := cellsBelow hw'; go_simp; (try go_bits); exact ⟨rfl, rfl⟩); simp only [Act.put, List.setIfInBounds_toArray, List.set_cons_zero, List.set_cons_succ]
  apply lxF0 (wants0 rfl); (· intro w' h0; have hw' := h0.old; have hcc := cellsBelow hw'; go_simp; (try go_bits); exact ⟨rfl, rfl⟩); simp only [Act.put, List.setIfInBounds_toArray, List.set_cons_zero, List.set_cons_succ]
  apply lxE0 (α := Value) (fun vv => vv) (fun vv => [fun w => NatV w vv (y * z)]) (wants0 rfl)
  · intro w' h0 hK; go_simp; (try go_bits); refine (mul_any _ _ (y) (z) w' (hK.get (F := fun w => NatV w _ (y)) (by repeat (first | exact List.mem_cons_self .. | apply List.mem_cons_of_mem))) (hK.get (F := fun w => NatV w _ (z)) (by repeat (first | exact List.mem_cons_self .. | apply List.mem_cons_of_mem))) (by have := LY.out.d32; have := LZ.out.d32; omega)).mono ?_; rintro e w5 ⟨x, rfl, hx, hb⟩; exact ⟨_, rfl, hb, fun w6 h6 => hx.below h6⟩
  intro v92
  simp only [Act.put, List.setIfInBounds_toArray, List.set_cons_zero, List.set_cons_succ]
  apply lxE0 (α := Option Addr × Nat) (fun q => .agg #[.slice q.1 (digs B32 g).length q.2]) (fun q => [fun w => NatV w (.agg #[.slice q.1 (digs B32 g).length q.2]) g]) (wants0 rfl)
  · intro w' h0 hK; go_simp; (try go_bits); refine (HGC.out _ _ w' (hK.get (F := fun w => NatV w _ (x * z)) (by repeat (first | exact List.mem_cons_self .. | apply List.mem_cons_of_mem))) (hK.get (F := fun w => NatV w _ (y * z)) (by repeat (first | exact List.mem_cons_self .. | apply List.mem_cons_of_mem)))).mono ?_; rintro e w5 ⟨qv, rfl, hq, hb⟩; obtain ⟨p6, c6, rfl, _⟩ := hq.dig; exact ⟨_, rfl, p6, c6, rfl, hb, fun w6 h6 => hq.below h6⟩
  rintro ⟨p6, c6⟩
  simp only [Act.put, List.setIfInBounds_toArray, List.set_cons_zero, List.set_cons_succ]
  apply lxA0 (.cells #[.slice none 0 0] 26) (wants0 rfl)
  · intro w' h0; go_simp; rfl
  intro R6
  simp only [mkOf, Act.put, List.setIfInBounds_toArray, List.set_cons_zero, List.set_cons_succ]
  apply lxS0 [Has 0 R6 (.cells #[.slice p6 (digs B32 g).length c6] 26), fun w => NatV w (.agg #[.slice p6 (digs B32 g).length c6]) g] (wants0 rfl)
  · intro w' h0 hK; have hR := hK.get (F := Has W9.heap.size R6 (.cells #[.slice none 0 0] 26)) (by repeat (first | exact List.mem_cons_self .. | apply List.mem_cons_of_mem)); have hN := hK.get (F := fun w => NatV w (.agg #[.slice p6 (digs B32 g).length c6]) g) (by repeat (first | exact List.mem_cons_self .. | apply List.mem_cons_of_mem)); have k1 := hasCell hR; have f1 := hasFree hR; go_simp; exact ⟨rfl, ks_set h0 hR.1 _ all0, ks_set hK hR.1 _ (all1 (fun w2 hb => has_set hR _ hb) (all1 (fun w2 hb => nat_set hN hR _ hb) all0))⟩
  simp only [Act.put]
  refine lxEnd (fun W10 hK9 => ?_)
  replace hK := (hK.step hK9.old).app (l' := [_, _]) hK9.all
  clear hK9 d0 d1 d2 b0 b1 b2 kA kB kC
  have kA := hK.get (F := Has 0 R1 (.cells #[.slice p1 (digs B32 x).length c1] 26)) (by repeat (first | exact List.mem_cons_self .. | apply List.mem_cons_of_mem))
  have kB := hK.get (F := Has 0 R2 (.cells #[.slice p2 (digs B32 y).length c2] 26)) (by repeat (first | exact List.mem_cons_self .. | apply List.mem_cons_of_mem))
  have kC := hK.get (F := Has 0 R3 (.cells #[.slice p3 (digs B32 z).length c3] 26)) (by repeat (first | exact List.mem_cons_self .. | apply List.mem_cons_of_mem))
  have d0 := kA.cell
  have d1 := kB.cell
  have d2 := kC.cell
  have b0 := kA.lt
  have b1 := kB.lt
  have b2 := kC.lt
  have kG := hK.get (F := Has 0 R6 (.cells #[.slice p6 (digs B32 g).length c6] 26)) (by repeat (first | exact List.mem_cons_self .. | apply List.mem_cons_of_mem))
  have d6 := kG.cell
  have b6' := kG.lt
  go_upto_region 15 with (go_at_call 22; refine (HD2.out _ _ _ (hK.get (F := fun w => NatV w _ g) (by repeat (first | exact List.mem_cons_self .. | apply List.mem_cons_of_mem))) (hK.get (F := fun w => NatV w _ z) (by repeat (first | exact List.mem_cons_self .. | apply List.mem_cons_of_mem)))).mono ?_; clear HD2; rintro e W11 ⟨xv, yv, rfl, hx, hy, hw⟩; obtain ⟨p7, c7, rfl, _⟩ := hx.dig; obtain ⟨p8, c8, rfl, _⟩ := hy.dig; replace hK := ((hK.step hw).add (F := fun w => NatV w (.agg #[.slice p7 (digs B32 (g / z)).length c7]) (g / z)) fun w' h => hx.below h).add (F := fun w => NatV w (.agg #[.slice p8 (digs B32 0).length c8]) 0) fun w' h => hy.below h; clear hx hy hw)
  clear kG d6 b6'
  obtain ⟨V11, R7, R8, hV11, hR3, hR4, hKV⟩ : ∃ V11 R7 R8, V11 = (W11.alloc (.cells #[.slice p7 (digs B32 (g / z)).length c7] 26)).alloc (.cells #[.slice p8 (digs B32 0).length c8] 26) ∧ W11.heap.size = R7 ∧ W11.heap.size + 1 = R8 ∧ KS w (Has 0 R8 (.cells #[.slice p8 (digs B32 0).length c8] 26) :: Has 0 R7 (.cells #[.slice p7 (digs B32 (g / z)).length c7] 26) :: _) V11 := by
    refine ⟨_, _, _, rfl, rfl, rfl, ?_⟩
    have := (hK.box (.cells #[.slice p7 (digs B32 (g / z)).length c7] 26)).box (.cells #[.slice p8 (digs B32 0).length c8] 26)
    rw [World.size_alloc] at this
    exact this
  rw [← hV11, hR4, hR3]
  clear hV11 hK d0 d1 d2 b0 b1 b2 kA kB kC hR3 hR4
  have hK := hKV
  clear hKV
  have kA := hK.get (F := Has 0 R1 (.cells #[.slice p1 (digs B32 x).length c1] 26)) (by repeat (first | exact List.mem_cons_self .. | apply List.mem_cons_of_mem))
  have kB := hK.get (F := Has 0 R2 (.cells #[.slice p2 (digs B32 y).length c2] 26)) (by repeat (first | exact List.mem_cons_self .. | apply List.mem_cons_of_mem))
  have kC := hK.get (F := Has 0 R3 (.cells #[.slice p3 (digs B32 z).length c3] 26)) (by repeat (first | exact List.mem_cons_self .. | apply List.mem_cons_of_mem))
  have d0 := kA.cell
  have d1 := kB.cell
  have d2 := kC.cell
  have b0 := kA.lt
  have b1 := kB.lt
  have b2 := kC.lt
  have kG := hK.get (F := Has 0 R6 (.cells #[.slice p6 (digs B32 g).length c6] 26)) (by repeat (first | exact List.mem_cons_self .. | apply List.mem_cons_of_mem))
  have d6 := kG.cell
  have b6' := kG.lt
  refine wp_region_float (V11) _ [0, 0, 2, 0, 2, 0, 0, 0, 0, 3, 3, 4, 4, 0] (by kernel_rfl) (by kernel_rfl) (by kernel_rfl) (by kernel_rfl) (KS.drew hK.re) ?_
  apply lxF0 (wants0 rfl); (· intro w' h0; have hw' := h0.old; have hcc := cellsBelow hw'; go_simp; (try go_bits); exact ⟨rfl, rfl⟩); simp only [Act.put, List.setIfInBounds_toArray, List.set_cons_zero, List.set_cons_succ]
  apply lxF0 (wants0 rfl); (· intro w' h0; have hw' := h0.old; have hcc := cellsBelow hw'; go_simp; (try go_bits); exact ⟨rfl, rfl⟩); simp only [Act.put, List.setIfInBounds_toArray, List.set_cons_zero, List.set_cons_succ]
  apply lxE0 (α := Value) (fun vv => vv) (fun vv => [fun w => NatV w vv (x * z)]) (wants0 rfl)
  · intro w' h0 hK; go_simp; (try go_bits); refine (mul_any _ _ (x) (z) w' (hK.get (F := fun w => NatV w _ (x)) (by repeat (first | exact List.mem_cons_self .. | apply List.mem_cons_of_mem))) (hK.get (F := fun w => NatV w _ (z)) (by repeat (first | exact List.mem_cons_self .. | apply List.mem_cons_of_mem))) (by have := LX.out.d32; have := LZ.out.d32; omega)).mono ?_; rintro e w5 ⟨x, rfl, hx, hb⟩; exact ⟨_, rfl, hb, fun w6 h6 => hx.below h6⟩
  intro v104
  simp only [Act.put, List.setIfInBounds_toArray, List.set_cons_zero, List.set_cons_succ]
  apply lxF0 (wants0 rfl); (· intro w' h0; have hw' := h0.old; have hcc := cellsBelow hw'; go_simp; (try go_bits); exact ⟨rfl, rfl⟩); simp only [Act.put, List.setIfInBounds_toArray, List.set_cons_zero, List.set_cons_succ]
  apply lxE0 (α := (Option Addr × Nat) × (Option Addr × Nat)) (fun ab => .tuple #[.agg #[.slice ab.1.1 (digs B32 (x * z / g)).length ab.1.2], .agg #[.slice ab.2.1 (digs B32 0).length ab.2.2], .int .i64 0]) (fun ab => [fun w => NatV w (.agg #[.slice ab.1.1 (digs B32 (x * z / g)).length ab.1.2]) (x * z / g) ∧ NatV w (.agg #[.slice ab.2.1 (digs B32 0).length ab.2.2]) 0]) (wants0 rfl)
  · intro w' h0 hK; go_simp; (try go_bits); refine (HD3.out _ _ w' (hK.get (F := fun w => NatV w _ (x * z)) (by repeat (first | exact List.mem_cons_self .. | apply List.mem_cons_of_mem))) (hK.get (F := fun w => NatV w _ (g)) (by repeat (first | exact List.mem_cons_self .. | apply List.mem_cons_of_mem)))).mono ?_; rintro e w5 ⟨xv, yv, rfl, hx, hy, hb⟩; obtain ⟨pa, ca, rfl, _⟩ := hx.dig; obtain ⟨pb, cb, rfl, _⟩ := hy.dig; exact ⟨_, rfl, pa, ca, pb, cb, rfl, hb, fun w6 h6 => ⟨hx.below h6, hy.below h6⟩⟩
  rintro ⟨⟨p9, c9⟩, ⟨p10, c10⟩⟩
  simp only [Act.put, List.setIfInBounds_toArray, List.set_cons_zero, List.set_cons_succ]
  apply lxF0 (wants0 rfl); (· intro w' h0; have hw' := h0.old; have hcc := cellsBelow hw'; go_simp; (try go_bits); exact ⟨rfl, rfl⟩); simp only [Act.put, List.setIfInBounds_toArray, List.set_cons_zero, List.set_cons_succ]
  apply lxF0 (wants0 rfl); (· intro w' h0; have hw' := h0.old; have hcc := cellsBelow hw'; go_simp; (try go_bits); exact ⟨rfl, rfl⟩); simp only [Act.put, List.setIfInBounds_toArray, List.set_cons_zero, List.set_cons_succ]
  apply lxF0 (wants0 rfl); (· intro w' h0; have hw' := h0.old; have hcc := cellsBelow hw'; go_simp; (try go_bits); exact ⟨rfl, rfl⟩); simp only [Act.put, List.setIfInBounds_toArray, List.set_cons_zero, List.set_cons_succ]
  apply lxF0 (wants0 rfl); (· intro w' h0; have hw' := h0.old; have hcc := cellsBelow hw'; go_simp; (try go_bits); exact ⟨rfl, rfl⟩); simp only [Act.put, List.setIfInBounds_toArray, List.set_cons_zero, List.set_cons_succ]
  apply lxA0 (.cells #[.slice none 0 0] 26) (wants0 rfl)
  · intro w' h0; go_simp; rfl
  intro R9
  simp only [mkOf, Act.put, List.setIfInBounds_toArray, List.set_cons_zero, List.set_cons_succ]
  apply lxA0 (.cells #[.slice none 0 0] 26) (wants0 rfl)
  · intro w' h0; go_simp; rfl
  intro R10
  simp only [mkOf, Act.put, List.setIfInBounds_toArray, List.set_cons_zero, List.set_cons_succ]
  apply lxS0 [fun w => ∃ p l c, Has V11.heap.size R10 (.cells #[.slice p l c] 26) w, fun w => NatV w (.agg #[.slice p9 (digs B32 (x * z / g)).length c9]) (x * z / g) ∧ NatV w (.agg #[.slice p10 (digs B32 0).length c10]) 0] (wants0 rfl)
  · intro w' h0 hK; have hR := hK.get (F := Has V11.heap.size R9 (.cells #[.slice none 0 0] 26)) (by repeat (first | exact List.mem_cons_self .. | apply List.mem_cons_of_mem)); have hR' := hK.get (F := Has V11.heap.size R10 (.cells #[.slice none 0 0] 26)) (by repeat (first | exact List.mem_cons_self .. | apply List.mem_cons_of_mem)); have hN := hK.get (F := fun w => NatV w (.agg #[.slice p9 (digs B32 (x * z / g)).length c9]) (x * z / g) ∧ NatV w (.agg #[.slice p10 (digs B32 0).length c10]) 0) (by repeat (first | exact List.mem_cons_self .. | apply List.mem_cons_of_mem)); have k1 := hasCell hR; have f1 := hasFree hR; go_simp; exact ⟨rfl, ks_set h0 hR.1 _ all0, ks_set hK hR.1 _ (all1 (fun w2 hb => by by_cases e : R9 = R10; (· subst e; exact ⟨_, _, _, hR.1, (has_set hR _ hb).2⟩); (· exact ⟨_, _, _, hR'.1, (has_far hR' (fun h => e h.symm) _ hb).2⟩)) (all1 (fun w2 hb => ⟨nat_set hN.1 hR _ hb, nat_set hN.2 hR _ hb⟩) all0))⟩
  simp only [Act.put]
  apply lxS0 [Has 0 R10 (.cells #[.slice p10 (digs B32 0).length c10] 26), fun w => NatV w (.agg #[.slice p9 (digs B32 (x * z / g)).length c9]) (x * z / g) ∧ NatV w (.agg #[.slice p10 (digs B32 0).length c10]) 0] (wants0 rfl)
  · intro w' h0 hK; obtain ⟨px, lx, cx, hR⟩ := hK.get (F := fun w => ∃ p l c, Has V11.heap.size R10 (.cells #[.slice p l c] 26) w) (by repeat (first | exact List.mem_cons_self .. | apply List.mem_cons_of_mem)); have hN := hK.get (F := fun w => NatV w (.agg #[.slice p9 (digs B32 (x * z / g)).length c9]) (x * z / g) ∧ NatV w (.agg #[.slice p10 (digs B32 0).length c10]) 0) (by repeat (first | exact List.mem_cons_self .. | apply List.mem_cons_of_mem)); have k1 := hasCell hR; have f1 := hasFree hR; go_simp; exact ⟨rfl, ks_set h0 hR.1 _ all0, ks_set hK hR.1 _ (all1 (fun w2 hb => has_set hR _ hb) (all1 (fun w2 hb => ⟨nat_set hN.1 hR _ hb, nat_set hN.2 hR _ hb⟩) all0))⟩
  simp only [Act.put]
  apply lxF0 (wants0 rfl); (· intro w' h0; have hw' := h0.old; have hcc := cellsBelow hw'; go_simp; (try go_bits); exact ⟨rfl, rfl⟩); simp only [Act.put, List.setIfInBounds_toArray, List.set_cons_zero, List.set_cons_succ]
  refine lxEnd (fun W12 hK9 => ?_)
  replace hK := (hK.step hK9.old).app (l' := [_, _]) hK9.all
  clear hK9 d0 d1 d2 b0 b1 b2 kA kB kC kG d6 b6'
  have kA := hK.get (F := Has 0 R1 (.cells #[.slice p1 (digs B32 x).length c1] 26)) (by repeat (first | exact List.mem_cons_self .. | apply List.mem_cons_of_mem))
  have kB := hK.get (F := Has 0 R2 (.cells #[.slice p2 (digs B32 y).length c2] 26)) (by repeat (first | exact List.mem_cons_self .. | apply List.mem_cons_of_mem))
  have kC := hK.get (F := Has 0 R3 (.cells #[.slice p3 (digs B32 z).length c3] 26)) (by repeat (first | exact List.mem_cons_self .. | apply List.mem_cons_of_mem))
  have d0 := kA.cell
  have d1 := kB.cell
  have d2 := kC.cell
  have b0 := kA.lt
  have b1 := kB.lt
  have b2 := kC.lt
  have kG := hK.get (F := Has 0 R6 (.cells #[.slice p6 (digs B32 g).length c6] 26)) (by repeat (first | exact List.mem_cons_self .. | apply List.mem_cons_of_mem))
  have d6 := kG.cell
  have b6' := kG.lt
  go_upto_region 16 with (fail)
  refine wp_region_float (W12) _ [0, 0, 2, 0, 2, 0, 0, 0, 0, 3, 3, 4, 4, 0] (by kernel_rfl) (by kernel_rfl) (by kernel_rfl) (by kernel_rfl) (KS.drew hK.re) ?_
  apply lxF0 (wants0 rfl); (· intro w' h0; have hw' := h0.old; have hcc := cellsBelow hw'; go_simp; (try go_bits); exact ⟨rfl, rfl⟩); simp only [Act.put, List.setIfInBounds_toArray, List.set_cons_zero, List.set_cons_succ]
  apply lxF0 (wants0 rfl); (· intro w' h0; have hw' := h0.old; have hcc := cellsBelow hw'; go_simp; (try go_bits); exact ⟨rfl, rfl⟩); simp only [Act.put, List.setIfInBounds_toArray, List.set_cons_zero, List.set_cons_succ]
  apply lxE0 (α := Value) (fun vv => vv) (fun vv => [fun w => NatV w vv (y * z)]) (wants0 rfl)
  · intro w' h0 hK; go_simp; (try go_bits); refine (mul_any _ _ (y) (z) w' (hK.get (F := fun w => NatV w _ (y)) (by repeat (first | exact List.mem_cons_self .. | apply List.mem_cons_of_mem))) (hK.get (F := fun w => NatV w _ (z)) (by repeat (first | exact List.mem_cons_self .. | apply List.mem_cons_of_mem))) (by have := LY.out.d32; have := LZ.out.d32; omega)).mono ?_; rintro e w5 ⟨x, rfl, hx, hb⟩; exact ⟨_, rfl, hb, fun w6 h6 => hx.below h6⟩
  intro v113
  simp only [Act.put, List.setIfInBounds_toArray, List.set_cons_zero, List.set_cons_succ]
  apply lxF0 (wants0 rfl); (· intro w' h0; have hw' := h0.old; have hcc := cellsBelow hw'; go_simp; (try go_bits); exact ⟨rfl, rfl⟩); simp only [Act.put, List.setIfInBounds_toArray, List.set_cons_zero, List.set_cons_succ]
  apply lxE0 (α := (Option Addr × Nat) × (Option Addr × Nat)) (fun ab => .tuple #[.agg #[.slice ab.1.1 (digs B32 (y * z / g)).length ab.1.2], .agg #[.slice ab.2.1 (digs B32 0).length ab.2.2], .int .i64 0]) (fun ab => [fun w => NatV w (.agg #[.slice ab.1.1 (digs B32 (y * z / g)).length ab.1.2]) (y * z / g) ∧ NatV w (.agg #[.slice ab.2.1 (digs B32 0).length ab.2.2]) 0]) (wants0 rfl)
  · intro w' h0 hK; go_simp; (try go_bits); refine (HD4.out _ _ w' (hK.get (F := fun w => NatV w _ (y * z)) (by repeat (first | exact List.mem_cons_self .. | apply List.mem_cons_of_mem))) (hK.get (F := fun w => NatV w _ (g)) (by repeat (first | exact List.mem_cons_self .. | apply List.mem_cons_of_mem)))).mono ?_; rintro e w5 ⟨xv, yv, rfl, hx, hy, hb⟩; obtain ⟨pa, ca, rfl, _⟩ := hx.dig; obtain ⟨pb, cb, rfl, _⟩ := hy.dig; exact ⟨_, rfl, pa, ca, pb, cb, rfl, hb, fun w6 h6 => ⟨hx.below h6, hy.below h6⟩⟩
  rintro ⟨⟨p11, c11⟩, ⟨p12, c12⟩⟩
  simp only [Act.put, List.setIfInBounds_toArray, List.set_cons_zero, List.set_cons_succ]
  apply lxF0 (wants0 rfl); (· intro w' h0; have hw' := h0.old; have hcc := cellsBelow hw'; go_simp; (try go_bits); exact ⟨rfl, rfl⟩); simp only [Act.put, List.setIfInBounds_toArray, List.set_cons_zero, List.set_cons_succ]
  apply lxF0 (wants0 rfl); (· intro w' h0; have hw' := h0.old; have hcc := cellsBelow hw'; go_simp; (try go_bits); exact ⟨rfl, rfl⟩); simp only [Act.put, List.setIfInBounds_toArray, List.set_cons_zero, List.set_cons_succ]
  apply lxF0 (wants0 rfl); (· intro w' h0; have hw' := h0.old; have hcc := cellsBelow hw'; go_simp; (try go_bits); exact ⟨rfl, rfl⟩); simp only [Act.put, List.setIfInBounds_toArray, List.set_cons_zero, List.set_cons_succ]
  apply lxF0 (wants0 rfl); (· intro w' h0; have hw' := h0.old; have hcc := cellsBelow hw'; go_simp; (try go_bits); exact ⟨rfl, rfl⟩); simp only [Act.put, List.setIfInBounds_toArray, List.set_cons_zero, List.set_cons_succ]
  apply lxA0 (.cells #[.slice none 0 0] 26) (wants0 rfl)
  · intro w' h0; go_simp; rfl
  intro R11
  simp only [mkOf, Act.put, List.setIfInBounds_toArray, List.set_cons_zero, List.set_cons_succ]
  apply lxA0 (.cells #[.slice none 0 0] 26) (wants0 rfl)
  · intro w' h0; go_simp; rfl
  intro R12
  simp only [mkOf, Act.put, List.setIfInBounds_toArray, List.set_cons_zero, List.set_cons_succ]
  apply lxS0 [fun w => ∃ p l c, Has W12.heap.size R12 (.cells #[.slice p l c] 26) w, fun w => NatV w (.agg #[.slice p11 (digs B32 (y * z / g)).length c11]) (y * z / g) ∧ NatV w (.agg #[.slice p12 (digs B32 0).length c12]) 0] (wants0 rfl)
  · intro w' h0 hK; have hR := hK.get (F := Has W12.heap.size R11 (.cells #[.slice none 0 0] 26)) (by repeat (first | exact List.mem_cons_self .. | apply List.mem_cons_of_mem)); have hR' := hK.get (F := Has W12.heap.size R12 (.cells #[.slice none 0 0] 26)) (by repeat (first | exact List.mem_cons_self .. | apply List.mem_cons_of_mem)); have hN := hK.get (F := fun w => NatV w (.agg #[.slice p11 (digs B32 (y * z / g)).length c11]) (y * z / g) ∧ NatV w (.agg #[.slice p12 (digs B32 0).length c12]) 0) (by repeat (first | exact List.mem_cons_self .. | apply List.mem_cons_of_mem)); have k1 := hasCell hR; have f1 := hasFree hR; go_simp; exact ⟨rfl, ks_set h0 hR.1 _ all0, ks_set hK hR.1 _ (all1 (fun w2 hb => by by_cases e : R11 = R12; (· subst e; exact ⟨_, _, _, hR.1, (has_set hR _ hb).2⟩); (· exact ⟨_, _, _, hR'.1, (has_far hR' (fun h => e h.symm) _ hb).2⟩)) (all1 (fun w2 hb => ⟨nat_set hN.1 hR _ hb, nat_set hN.2 hR _ hb⟩) all0))⟩
  simp only [Act.put]
  apply lxS0 [Has 0 R12 (.cells #[.slice p12 (digs B32 0).length c12] 26), fun w => NatV w (.agg #[.slice p11 (digs B32 (y * z / g)).length c11]) (y * z / g) ∧ NatV w (.agg #[.slice p12 (digs B32 0).length c12]) 0] (wants0 rfl)
  · intro w' h0 hK; obtain ⟨px, lx, cx, hR⟩ := hK.get (F := fun w => ∃ p l c, Has W12.heap.size R12 (.cells #[.slice p l c] 26) w) (by repeat (first | exact List.mem_cons_self .. | apply List.mem_cons_of_mem)); have hN := hK.get (F := fun w => NatV w (.agg #[.slice p11 (digs B32 (y * z / g)).length c11]) (y * z / g) ∧ NatV w (.agg #[.slice p12 (digs B32 0).length c12]) 0) (by repeat (first | exact List.mem_cons_self .. | apply List.mem_cons_of_mem)); have k1 := hasCell hR; have f1 := hasFree hR; go_simp; exact ⟨rfl, ks_set h0 hR.1 _ all0, ks_set hK hR.1 _ (all1 (fun w2 hb => has_set hR _ hb) (all1 (fun w2 hb => ⟨nat_set hN.1 hR _ hb, nat_set hN.2 hR _ hb⟩) all0))⟩
  simp only [Act.put]
  apply lxF0 (wants0 rfl); (· intro w' h0; have hw' := h0.old; have hcc := cellsBelow hw'; go_simp; (try go_bits); exact ⟨rfl, rfl⟩); simp only [Act.put, List.setIfInBounds_toArray, List.set_cons_zero, List.set_cons_succ]
  refine lxEnd (fun W13 hK9 => ?_)
  replace hK := (hK.step hK9.old).app (l' := [_, _]) hK9.all
  clear hK9 d0 d1 d2 b0 b1 b2 kA kB kC kG d6 b6'
  have k8 := hK.get (F := Has 0 R8 (.cells #[.slice p8 (digs B32 0).length c8] 26)) (by repeat (first | exact List.mem_cons_self .. | apply List.mem_cons_of_mem))
  have dk8 := k8.cell
  have bk8 := k8.lt
  have k10 := hK.get (F := Has 0 R10 (.cells #[.slice p10 (digs B32 0).length c10] 26)) (by repeat (first | exact List.mem_cons_self .. | apply List.mem_cons_of_mem))
  have dk10 := k10.cell
  have bk10 := k10.lt
  have k12 := hK.get (F := Has 0 R12 (.cells #[.slice p12 (digs B32 0).length c12] 26)) (by repeat (first | exact List.mem_cons_self .. | apply List.mem_cons_of_mem))
  have dk12 := k12.cell
  have bk12 := k12.lt
  have z8 := hK.get (F := fun w => NatV w (.agg #[.slice p8 (digs B32 0).length c8]) 0) (by repeat (first | exact List.mem_cons_self .. | apply List.mem_cons_of_mem))
  have z10 := (hK.get (F := fun w => NatV w (.agg #[.slice p9 (digs B32 (x * z / g)).length c9]) (x * z / g) ∧ NatV w (.agg #[.slice p10 (digs B32 0).length c10]) 0) (by repeat (first | exact List.mem_cons_self .. | apply List.mem_cons_of_mem))).2
  have z12 := (hK.get (F := fun w => NatV w (.agg #[.slice p11 (digs B32 (y * z / g)).length c11]) (y * z / g) ∧ NatV w (.agg #[.slice p12 (digs B32 0).length c12]) 0) (by repeat (first | exact List.mem_cons_self .. | apply List.mem_cons_of_mem))).2
  have Z8 := hid (fun w1 (hb : Below W13.heap.size W13 w1) => isZero_any _ 0 w1 (z8.below hb))
  have Z10 := hid (fun w1 (hb : Below W13.heap.size W13 w1) => isZero_any _ 0 w1 (z10.below hb))
  have Z12 := hid (fun w1 (hb : Below W13.heap.size W13 w1) => isZero_any _ 0 w1 (z12.below hb))
  clear z8 z10 z12
  go_upto_region 17 with (fail)
  refine wp_region_ftext (W13) _ [0, 0, 0, 0, 0, 0, 0, 0, 0, 0, 0, 0, 1, 0, 0, 0, 1, 0, 0, 0, 1, 0, 0] hK.re ?_
  apply lxF0 (wants0 rfl); (· intro w' h0; have hw' := h0.old; have hcc := cellsBelow hw'; go_simp; (try go_bits); exact ⟨rfl, rfl⟩); simp only [Act.put, List.setIfInBounds_toArray, List.set_cons_zero, List.set_cons_succ]
  apply lxF0 (wants0 rfl); (· intro w' h0; have hw' := h0.old; have hcc := cellsBelow hw'; go_simp; (try go_bits); exact ⟨rfl, rfl⟩); simp only [Act.put, List.setIfInBounds_toArray, List.set_cons_zero, List.set_cons_succ]
  apply lxF0 (wants0 rfl); (· intro w' h0; have hw' := h0.old; have hcc := cellsBelow hw'; go_simp; (try go_bits); exact ⟨rfl, rfl⟩); simp only [Act.put, List.setIfInBounds_toArray, List.set_cons_zero, List.set_cons_succ]
  first | (apply lxN (j := 2) (d := 121) (b := true) rfl rfl rfl rfl; simp only [Act.put, List.setIfInBounds_toArray, List.set_cons_zero, List.set_cons_succ]) | (apply lxN' (j := 2) (d := 121) (b := true) rfl rfl rfl; simp only [Act.put, List.setIfInBounds_toArray, List.set_cons_zero, List.set_cons_succ]) | (apply lxF0 (wantsg (j := 2) (d := 121) (b := true) rfl rfl rfl rfl); (· intro w' h0; have hw' := h0.old; have hcc := cellsBelow hw'; go_simp; (try go_bits); exact ⟨rfl, rfl⟩); simp only [Act.put, List.setIfInBounds_toArray, List.set_cons_zero, List.set_cons_succ])
  first | (apply lxN (j := 2) (d := 121) (b := true) rfl rfl rfl rfl; simp only [Act.put, List.setIfInBounds_toArray, List.set_cons_zero, List.set_cons_succ]) | (apply lxN' (j := 2) (d := 121) (b := true) rfl rfl rfl; simp only [Act.put, List.setIfInBounds_toArray, List.set_cons_zero, List.set_cons_succ]) | (apply lxF0 (wantsg (j := 2) (d := 121) (b := true) rfl rfl rfl rfl); (· intro w' h0; have hw' := h0.old; have hcc := cellsBelow hw'; go_simp; (try go_bits); exact ⟨rfl, rfl⟩); simp only [Act.put, List.setIfInBounds_toArray, List.set_cons_zero, List.set_cons_succ])
  apply lxF0 (wants0 rfl); (· intro w' h0; have hw' := h0.old; have hcc := cellsBelow hw'; go_simp; (try go_bits); exact ⟨rfl, rfl⟩); simp only [Act.put, List.setIfInBounds_toArray, List.set_cons_zero, List.set_cons_succ]
  apply lxF0 (wants0 rfl); (· intro w' h0; have hw' := h0.old; have hcc := cellsBelow hw'; go_simp; (try go_bits); exact ⟨rfl, rfl⟩); simp only [Act.put, List.setIfInBounds_toArray, List.set_cons_zero, List.set_cons_succ]
  first | (apply lxN (j := 6) (d := 125) (b := true) rfl rfl rfl rfl; simp only [Act.put, List.setIfInBounds_toArray, List.set_cons_zero, List.set_cons_succ]) | (apply lxN' (j := 6) (d := 125) (b := true) rfl rfl rfl; simp only [Act.put, List.setIfInBounds_toArray, List.set_cons_zero, List.set_cons_succ]) | (apply lxF0 (wantsg (j := 6) (d := 125) (b := true) rfl rfl rfl rfl); (· intro w' h0; have hw' := h0.old; have hcc := cellsBelow hw'; go_simp; (try go_bits); exact ⟨rfl, rfl⟩); simp only [Act.put, List.setIfInBounds_toArray, List.set_cons_zero, List.set_cons_succ])
  first | (apply lxN (j := 6) (d := 125) (b := true) rfl rfl rfl rfl; simp only [Act.put, List.setIfInBounds_toArray, List.set_cons_zero, List.set_cons_succ]) | (apply lxN' (j := 6) (d := 125) (b := true) rfl rfl rfl; simp only [Act.put, List.setIfInBounds_toArray, List.set_cons_zero, List.set_cons_succ]) | (apply lxF0 (wantsg (j := 6) (d := 125) (b := true) rfl rfl rfl rfl); (· intro w' h0; have hw' := h0.old; have hcc := cellsBelow hw'; go_simp; (try go_bits); exact ⟨rfl, rfl⟩); simp only [Act.put, List.setIfInBounds_toArray, List.set_cons_zero, List.set_cons_succ])
  apply lxF0 (wants0 rfl); (· intro w' h0; have hw' := h0.old; have hcc := cellsBelow hw'; go_simp; (try go_bits); exact ⟨rfl, rfl⟩); simp only [Act.put, List.setIfInBounds_toArray, List.set_cons_zero, List.set_cons_succ]
  apply lxF0 (wants0 rfl); (· intro w' h0; have hw' := h0.old; have hcc := cellsBelow hw'; go_simp; (try go_bits); exact ⟨rfl, rfl⟩); simp only [Act.put, List.setIfInBounds_toArray, List.set_cons_zero, List.set_cons_succ]
  first | (apply lxN (j := 10) (d := 129) (b := true) rfl rfl rfl rfl; simp only [Act.put, List.setIfInBounds_toArray, List.set_cons_zero, List.set_cons_succ]) | (apply lxN' (j := 10) (d := 129) (b := true) rfl rfl rfl; simp only [Act.put, List.setIfInBounds_toArray, List.set_cons_zero, List.set_cons_succ]) | (apply lxF0 (wantsg (j := 10) (d := 129) (b := true) rfl rfl rfl rfl); (· intro w' h0; have hw' := h0.old; have hcc := cellsBelow hw'; go_simp; (try go_bits); exact ⟨rfl, rfl⟩); simp only [Act.put, List.setIfInBounds_toArray, List.set_cons_zero, List.set_cons_succ])
  apply lxH0 (wantsg (j := 10) (d := 129) (b := true) rfl rfl rfl rfl)
  · intro w' h0 hK; go_simp; (try go_bits); refine (Z8.out w' hK.old).mono ?_; rintro e w5 ⟨rfl, hb⟩; exact ⟨_, rfl, rfl, hb⟩
  simp only [Act.put, List.setIfInBounds_toArray, List.set_cons_zero, List.set_cons_succ]
  apply lxF0 (wants0 rfl); (· intro w' h0; have hw' := h0.old; have hcc := cellsBelow hw'; go_simp; (try go_bits); exact ⟨rfl, rfl⟩); simp only [Act.put, List.setIfInBounds_toArray, List.set_cons_zero, List.set_cons_succ]
  apply lxF0 (wants0 rfl); (· intro w' h0; have hw' := h0.old; have hcc := cellsBelow hw'; go_simp; (try go_bits); exact ⟨rfl, rfl⟩); simp only [Act.put, List.setIfInBounds_toArray, List.set_cons_zero, List.set_cons_succ]
  first | (apply lxN (j := 14) (d := 133) (b := true) rfl rfl rfl rfl; simp only [Act.put, List.setIfInBounds_toArray, List.set_cons_zero, List.set_cons_succ]) | (apply lxN' (j := 14) (d := 133) (b := true) rfl rfl rfl; simp only [Act.put, List.setIfInBounds_toArray, List.set_cons_zero, List.set_cons_succ]) | (apply lxF0 (wantsg (j := 14) (d := 133) (b := true) rfl rfl rfl rfl); (· intro w' h0; have hw' := h0.old; have hcc := cellsBelow hw'; go_simp; (try go_bits); exact ⟨rfl, rfl⟩); simp only [Act.put, List.setIfInBounds_toArray, List.set_cons_zero, List.set_cons_succ])
  apply lxH0 (wantsg (j := 14) (d := 133) (b := true) rfl rfl rfl rfl)
  · intro w' h0 hK; go_simp; (try go_bits); refine (Z10.out w' hK.old).mono ?_; rintro e w5 ⟨rfl, hb⟩; exact ⟨_, rfl, rfl, hb⟩
  simp only [Act.put, List.setIfInBounds_toArray, List.set_cons_zero, List.set_cons_succ]
  apply lxF0 (wants0 rfl); (· intro w' h0; have hw' := h0.old; have hcc := cellsBelow hw'; go_simp; (try go_bits); exact ⟨rfl, rfl⟩); simp only [Act.put, List.setIfInBounds_toArray, List.set_cons_zero, List.set_cons_succ]
  apply lxF0 (wants0 rfl); (· intro w' h0; have hw' := h0.old; have hcc := cellsBelow hw'; go_simp; (try go_bits); exact ⟨rfl, rfl⟩); simp only [Act.put, List.setIfInBounds_toArray, List.set_cons_zero, List.set_cons_succ]
  first | (apply lxN (j := 18) (d := 137) (b := true) rfl rfl rfl rfl; simp only [Act.put, List.setIfInBounds_toArray, List.set_cons_zero, List.set_cons_succ]) | (apply lxN' (j := 18) (d := 137) (b := true) rfl rfl rfl; simp only [Act.put, List.setIfInBounds_toArray, List.set_cons_zero, List.set_cons_succ]) | (apply lxF0 (wantsg (j := 18) (d := 137) (b := true) rfl rfl rfl rfl); (· intro w' h0; have hw' := h0.old; have hcc := cellsBelow hw'; go_simp; (try go_bits); exact ⟨rfl, rfl⟩); simp only [Act.put, List.setIfInBounds_toArray, List.set_cons_zero, List.set_cons_succ])
  apply lxH0 (wantsg (j := 18) (d := 137) (b := true) rfl rfl rfl rfl)
  · intro w' h0 hK; go_simp; (try go_bits); refine (Z12.out w' hK.old).mono ?_; rintro e w5 ⟨rfl, hb⟩; exact ⟨_, rfl, rfl, hb⟩
  simp only [Act.put, List.setIfInBounds_toArray, List.set_cons_zero, List.set_cons_succ]
  apply lxF0 (wants0 rfl); (· intro w' h0; have hw' := h0.old; have hcc := cellsBelow hw'; go_simp; (try go_bits); exact ⟨rfl, rfl⟩); simp only [Act.put, List.setIfInBounds_toArray, List.set_cons_zero, List.set_cons_succ]
  apply lxF0 (wants0 rfl); (· intro w' h0; have hw' := h0.old; have hcc := cellsBelow hw'; go_simp; (try go_bits); exact ⟨rfl, rfl⟩); simp only [Act.put, List.setIfInBounds_toArray, List.set_cons_zero, List.set_cons_succ]
  refine lxEnd (fun W14 hK14 => ?_)
  go_wp2
  go_ret
  exact ⟨rfl, hK.old.trans (hK14.old.mono hK.old.size)⟩

end Go.Proofs.YtepljhpamconbaaDoor
