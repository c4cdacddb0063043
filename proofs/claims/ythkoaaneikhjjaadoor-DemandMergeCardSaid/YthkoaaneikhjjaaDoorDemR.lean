/- Merge of the reference walked. -/
import Derived.Test.YthkoaaneikhjjaaDoorDemB
import Derived.Test.YthkoaaneikhjjaaDoorDemN
namespace Go.Proofs.YthkoaaneikhjjaaDoor
open Go.RowKit
open Go.Lib (decDigits)
def zD : Dm := ⟨0, 0, 0, 0⟩
def LtK (ys : List Dm) (k : Nat) (x : Dm) : Prop := ∀ i z, i < k → ys[i]? = some z → keyD z < keyD x
theorem LtK.zero (ys : List Dm) (x : Dm) : LtK ys 0 x := fun _ _ h => absurd h (Nat.not_lt_zero _)
theorem LtK.step {ys : List Dm} {k : Nat} {x y : Dm} (h : LtK ys k x) (hy : ys[k]? = some y) (hl : keyD y < keyD x) : LtK ys (k + 1) x := fun i z hi hz => by
  rcases Nat.lt_or_eq_of_le (Nat.le_of_lt_succ hi) with h1 | rfl
  · exact h i z h1 hz
  · rw [hy] at hz; injection hz with hz; subst hz; exact hl
structure Shf (ys : List Dm) (n : Nat) (zs : List Dm) : Prop where
  len : zs.length = ys.length + 1
  lo : ∀ i, i < n → zs[i]? = ys[i]?
  hi : ∀ i, n < i → zs[i]? = ys[i - 1]?
theorem Shf.start (ys : List Dm) : Shf ys ys.length (snocD ys zD) :=
  ⟨by rw [snocD_len], fun i hi => by unfold snocD; rw [List.getElem?_append_left hi], fun i hi => by unfold snocD; rw [List.getElem?_eq_none (by simp; omega), List.getElem?_eq_none (by omega)]⟩
theorem Shf.step {ys zs : List Dm} {n : Nat} {u : Dm} (h : Shf ys n zs) (hn : 0 < n) (hl : n ≤ ys.length) (hu : zs[n - 1]? = some u) : Shf ys (n - 1) (zs.set n u) := by
  have := h.len
  refine ⟨by rw [List.length_set]; exact h.len, fun i hi => ?_, fun i hi => ?_⟩
  · rw [List.getElem?_set_ne (by omega)]; exact h.lo i (by omega)
  · by_cases e : i = n
    · subst e
      rw [List.getElem?_set_self (by omega), ← hu, h.lo _ (by omega)]
    · rw [List.getElem?_set_ne (by omega)]; exact h.hi i (by omega)
theorem Shf.ins {ys zs : List Dm} {k : Nat} {x : Dm} (h : Shf ys k zs) (hk : k ≤ ys.length) : zs.set k x = ys.take k ++ x :: ys.drop k := by
  have := h.len
  refine List.ext_getElem? fun i => ?_
  by_cases h1 : i < k
  · rw [List.getElem?_set_ne (by omega), h.lo i h1, List.getElem?_append_left (by simp; omega), List.getElem?_take, if_pos h1]
  · rw [List.getElem?_append_right (by simp; omega), List.length_take, Nat.min_eq_left hk]
    by_cases h2 : i = k
    · subst h2; rw [List.getElem?_set_self (by omega), Nat.sub_self]; rfl
    · rw [List.getElem?_set_ne (by omega), h.hi i (by omega), show i - k = (i - k - 1) + 1 by omega, List.getElem?_cons_succ, List.getElem?_drop, show k + (i - k - 1) = i - 1 by omega]
theorem rac_ins {xs ys zs : List Dm} {i k : Nat} {x : Dm} (hys : ys = racD (xs.take i)) (hx : xs[i]? = some x) (hk : k ≤ ys.length) (hl : LtK ys k x) (hg : ∀ y, ys[k]? = some y → keyD x < keyD y) (h : Shf ys k zs) : zs.set k x = racD (xs.take (i + 1)) := by
  rw [racD_step hx, ← hys, h.ins hk, insD_new hk hl hg]
theorem rac_put {xs ys : List Dm} {i k : Nat} {x y : Dm} (hys : ys = racD (xs.take i)) (hx : xs[i]? = some x) (hl : LtK ys k x) (hy : ys[k]? = some y) (e : keyD y = keyD x) : ys.set k (upD y x) = racD (xs.take (i + 1)) := by
  rw [racD_step hx, ← hys, insD_put hl hy e]
theorem rac_end {xs ys : List Dm} {k : Nat} (hs : ys = racD (xs.take k)) (hv : k = 0 ∨ vldD 64 xs = true) (h : (xs.length : Int) ≤ (k : Int) ∨ vldD 64 xs = false) : ys = mgD xs := by
  cases hb : vldD 64 xs with
  | true =>
    have hk : xs.length ≤ k := by
      rcases h with h | h
      · omega
      · rw [hb] at h; cases h
    rw [hs, List.take_of_length_le hk, racD_eq hb]
  | false =>
    have hk : k = 0 := by
      rcases hv with h | h
      · exact h
      · rw [hb] at h; cases h
    subst hk
    rw [mgD_f hb, hs]; rfl
theorem rac_keys {xs : List Dm} (hv : vldD 64 xs = true) (i : Nat) : MgD (xs.take i) (racD (xs.take i)) ∧ ∀ y ∈ racD (xs.take i), KeyOk y :=
  have h := racD_mg (xs := xs.take i) fun x hx => vldD_keys hv x (List.mem_of_mem_take hx)
  ⟨h.1, h.2.2⟩
set_option maxRecDepth 100000 in
set_option maxHeartbeats 2000000 in
theorem rmerge_any (v0 : Value) (xs : List Dm) (w : World) (h0 : SlV demK w v0 xs) (hl : xs.length ≤ 100000) :
    Calls Tryd.prog 18 #[v0] w fun e w' => ∃ y0, e = .returned y0 ∧ OwV demK 25 w.heap.size w' y0 (mgD xs) ∧ Below w.heap.size w w' := by
  have h0_0 := h0; obtain ⟨p_h0, c_h0, rfl, n_h0⟩ := h0.sh
  have hK : KS w [] w := (KS.start w)
  refine Calls.hide (fun Q0 hQ0 => ?_)
  go_enter Tryd.func18, Tryd.ntmps18
  go_wp2_with fail
  go_loopw [3, 4] (fun s3 s4 wl => ∃ (i : Nat) (p : Option Addr) (c : Nat) (ys : List Dm), s3 = .slice p ys.length c ∧ s4 = .int .i64 (i : Int) ∧ (i ≤ xs.length) ∧ RowKit.Hid (ys = racD (xs.take i)) ∧ RowKit.Hid (i = 0 ∨ vldD 64 xs = true) ∧ KS w [fun w1 => OwV demK 25 w.heap.size w1 (.slice p ys.length c) ys] wl) (fun s3 s4 _ => xs.length - (intOf s4).toNat)
  case atStart => exact ⟨0, none, 0, [], rfl, rfl, (by omega), (hid rfl), (hid (.inl rfl)), ⟨hK.old, (al1 (fun w' _ => OwV.nil) aN)⟩⟩
  case round =>
   clear hK
   obtain ⟨i, p, c, ys, rfl, rfl, hi, hys, hv, hK⟩ := hrel
   generalize wr = W1 at hK ⊢
   go_upto_region 3 with (fail)
   refine wp_region_tx w hK ?_
   clear hK
   iterate 3 (apply txF (wants0 rfl); (· intro w' hK; go_simp; (try go_bits); exact ⟨rfl, rfl⟩); simp only [Act.put, pA, pB, pC])
   obtain ⟨b1, hb1⟩ : ∃ b : Bool, RowKit.Hid (decide (((i : Int)) < ((xs.length : Int))) = b) := ⟨_, hid rfl⟩
   apply txB b1 (wants0 rfl); (· intro w' hK; go_simp; (try go_bits); exact ⟨by have q := hb1.out; subst q; first | rfl | simp, rfl⟩); simp only [Act.put, pA, pB, pC]
   apply txF (wants0 rfl); (· intro w' hK; go_simp; (try go_bits); exact ⟨rfl, rfl⟩); simp only [Act.put, pA, pB, pC]
   cases b1
   · --
    have q_b1 : ((xs.length : Int)) ≤ ((i : Int)) := Int.not_lt.1 (of_decide_eq_false hb1.out)
    iterate 2 (apply txN (j := 4) (d := 11) (b := true) rfl rfl rfl rfl; simp only [Act.put, pA, pB, pC])
    apply txF (wants0 rfl); (· intro w' hK; go_simp; (try go_bits); exact ⟨rfl, rfl⟩); simp only [Act.put, pA, pB, pC]
    refine txEnd (fun W2 hK => ?_)
    go_wp2
    try go_ret
    show Q0 (.returned (.slice p ys.length c)) _
    exact (by obtain rfl := hQ0.out; exact ⟨_, rfl, (Eq.mp (congrArg (OwV demK 25 w.heap.size _ _) (show ys = mgD xs from (rac_end hys.out hv.out (.inl (by omega))))) (hK.get m0)), hK.old⟩)
   · --
    have q_b1 : ((i : Int)) < ((xs.length : Int)) := of_decide_eq_true hb1.out
    apply txF (wantsg (j := 4) (d := 11) (b := true) rfl rfl rfl rfl); (· intro w' hK; go_simp; (try go_bits); exact ⟨rfl, rfl⟩); simp only [Act.put, pA, pB, pC]
    obtain ⟨b2, hb2⟩ : ∃ b : Bool, RowKit.Hid ((vldD 64 xs) = b) := ⟨_, hid rfl⟩
    apply txH (v := .bool b2) (wantsg (j := 4) (d := 11) (b := true) rfl rfl rfl rfl)
    · intro v1 hv1 w' hK; go_simp; (try go_bits); refine (rvalid_any (.slice p_h0 xs.length c_h0) 64 xs w' (h0_0.below hK.old) (by omega)).mono ?_; rintro e w5 ⟨rfl, hb⟩; obtain rfl := hv1.out; exact ⟨_, rfl, (by rw [hb2.out]), hb⟩
    simp only [Act.put, pA, pB, pC]
    apply txF (wants0 rfl); (· intro w' hK; go_simp; (try go_bits); exact ⟨rfl, rfl⟩); simp only [Act.put, pA, pB, pC]
    refine txEnd (fun W3 hK => ?_)
    cases b2
    · --
     go_wp2
     try go_ret
     show Q0 (.returned (.slice p ys.length c)) _
     exact (by obtain rfl := hQ0.out; exact ⟨_, rfl, (Eq.mp (congrArg (OwV demK 25 w.heap.size _ _) (show ys = mgD xs from (rac_end hys.out hv.out (.inr hb2.out)))) (hK.get m0)), hK.old⟩)
    · --
     obtain ⟨x5, ex5⟩ : ∃ x, RowKit.Hid (xs[i]? = some x) := ⟨_, hid (List.getElem?_eq_getElem (show i < xs.length from (by omega)))⟩
     have i4 : i < xs.length := by have q : i < xs.length := (by omega); first | exact q | (simp at q; omega) | omega
     obtain ⟨g4, o4, q4, l4⟩ := (h0_0).ptr ex5.out
     subst q4
     replace hK := KS.atD hK (h0_0.below hK.old) ex5.out
     have hok := (vldD_iff.1 hb2.out).2.2.2 x5 (List.mem_of_getElem? ex5.out); have hkx := hok.key; unfold OkD at hok
     have hyl : ys.length ≤ 64 := by have q := racD_len (xs.take i); rw [← hys.out] at q; have q2 := List.length_take_le i xs; have q3 := (vldD_iff.1 hb2.out).2.2.1; omega
     have hky : RowKit.Hid (∀ y ∈ ys, KeyOk y ∧ y.a ≤ 67108864 ∧ 0 ≤ y.a) := hid (by have q := rac_keys hb2.out i; rw [← hys.out] at q; exact fun y hy => ⟨q.2 y hy, (acc_bd hb2.out q.1 hy).2.1, (acc_bd hb2.out q.1 hy).1⟩)
     go_upto_region 5 with (fail)
     refine wp_region_tx w hK ?_
     clear hK
     apply txF (wants0 rfl); (· intro w' hK; go_simp; (try go_bits); exact ⟨rfl, rfl⟩); simp only [Act.put, pA, pB, pC]
     refine txEnd (fun W5 hK => ?_)
     go_wp2_with fail
     go_loopw [5] (fun s5 wl => ∃ (k : Nat), s5 = .int .i64 (k : Int) ∧ (k ≤ ys.length) ∧ RowKit.Hid (LtK ys k x5) ∧ KS w [fun w1 => OwV demK 25 w.heap.size w1 (.slice p ys.length c) ys] wl) (fun s5 _ => ys.length - (intOf s5).toNat)
     case atStart => exact ⟨0, rfl, (by omega), (hid (LtK.zero _ _)), ⟨hK.old, (al1 (hK.all _ m1) aN)⟩⟩
     case round =>
      clear hK
      obtain ⟨k, rfl, hk, hlt, hK⟩ := hrel
      generalize wr = W6 at hK ⊢
      rcases Nat.lt_or_ge k ys.length with hkl | hkl
      · --
       have i7 : i < xs.length := by have q : i < xs.length := (by omega); first | exact q | (simp at q; omega) | omega
       replace hK := KS.atD hK (h0_0.below hK.old) ex5.out
       obtain ⟨y6, ey6⟩ : ∃ x, RowKit.Hid (ys[k]? = some x) := ⟨_, hid (List.getElem?_eq_getElem (show k < ys.length from (by omega)))⟩
       have i8 : k < ys.length := by have q : k < ys.length := (by omega); first | exact q | (simp at q; omega) | omega
       obtain ⟨g8, o8, q8, l8⟩ := ((hK.get m1).slv).ptr ey6.out
       obtain rfl : o8 = 0 := ((hK.get m1)).off q8
       subst q8
       replace hK := KS.atD hK (hK.get m1).slv ey6.out
       have hky6 := (hky.out y6 (List.mem_of_getElem? ey6.out)).1; have hka6 := (hky.out y6 (List.mem_of_getElem? ey6.out)).2
       go_upto_region 6 with (fail)
       have hK0 := hK
       refine wp_region_float0 (w) _ _ [0, 0, 0, 0, 0, 0, 0, 0, 0, 1, 0, 0, 0, 0, 1, 0, 0] (by kernel_rfl) (by kernel_rfl) (by kernel_rfl) (by kernel_rfl) (KS.drew hK0) (KS.drew hK) ?_
       clear hK hK0
       iterate 3 (apply lxF0 (wants0 rfl); (· intro w' h0; go_simp; (try go_bits); exact ⟨rfl, rfl⟩); simp only [Act.put, pA, pB, pC])
       apply lxF0 (v := .bool true) (wants0 rfl); (· intro w' h0; go_simp; (try go_bits); exact ⟨congrArg Value.bool (by simp <;> omega), rfl⟩); simp only [Act.put, pA, pB, pC]
       apply lxF0 (wants0 rfl); (· intro w' h0; go_simp; (try go_bits); exact ⟨rfl, rfl⟩); simp only [Act.put, pA, pB, pC]
       iterate 3 (apply lxF0 (wantsg (j := 4) (d := 21) (b := true) rfl rfl rfl rfl); (· intro w' h0; go_simp; (try go_bits); exact ⟨rfl, rfl⟩); simp only [Act.put, pA, pB, pC])
       apply lxF0 (wantsg (j := 4) (d := 21) (b := true) rfl rfl rfl rfl); (· intro w' h0; have c_CEL8_0 : w'.cell? ⟨g8, k * 4, none⟩ = some (.int .i64 y6.s) := (by have q := (h0.get m0).2 0 _ rfl; simpa using q); have c_CEL8_1 : w'.cell? ⟨g8, k * 4 + 1, none⟩ = some (.int .i64 y6.d) := (by have q := (h0.get m0).2 1 _ rfl; simpa using q); have c_CEL8_2 : w'.cell? ⟨g8, k * 4 + 2, none⟩ = some (.int .i64 y6.a) := (by have q := (h0.get m0).2 2 _ rfl; simpa using q); have c_CEL8_3 : w'.cell? ⟨g8, k * 4 + 3, none⟩ = some (.int .i64 y6.p) := (by have q := (h0.get m0).2 3 _ rfl; simpa using q); go_simp; (try go_bits); exact ⟨rfl, rfl⟩); simp only [Act.put, pA, pB, pC]
       obtain ⟨z1, hz1⟩ : ∃ b : Int, RowKit.Hid ((keyD y6) = b) := ⟨_, hid rfl⟩
       apply lxH1 (v := .int .i64 z1) (wantsg (j := 4) (d := 21) (b := true) rfl rfl rfl rfl)
       · intro v1 hv1 w' h0 hK; go_simp; (try go_bits); refine (key_any y6 w' (by assumption)).mono ?_; rintro e w5 ⟨rfl, hb⟩; obtain rfl := hv1.out; exact ⟨_, rfl, (by rw [hz1.out]), hb⟩
       simp only [Act.put, pA, pB, pC]
       iterate 3 (apply lxF0 (wantsg (j := 4) (d := 21) (b := true) rfl rfl rfl rfl); (· intro w' h0; go_simp; (try go_bits); exact ⟨rfl, rfl⟩); simp only [Act.put, pA, pB, pC])
       apply lxF0 (wantsg (j := 4) (d := 21) (b := true) rfl rfl rfl rfl); (· intro w' h0; have c_CEL7_0 : w'.cell? ⟨g4, o4 + i * 4, none⟩ = some (.int .i64 x5.s) := (by have q := (h0.get m1).2 0 _ rfl; simpa using q); have c_CEL7_1 : w'.cell? ⟨g4, o4 + i * 4 + 1, none⟩ = some (.int .i64 x5.d) := (by have q := (h0.get m1).2 1 _ rfl; simpa using q); have c_CEL7_2 : w'.cell? ⟨g4, o4 + i * 4 + 2, none⟩ = some (.int .i64 x5.a) := (by have q := (h0.get m1).2 2 _ rfl; simpa using q); have c_CEL7_3 : w'.cell? ⟨g4, o4 + i * 4 + 3, none⟩ = some (.int .i64 x5.p) := (by have q := (h0.get m1).2 3 _ rfl; simpa using q); go_simp; (try go_bits); exact ⟨rfl, rfl⟩); simp only [Act.put, pA, pB, pC]
       obtain ⟨z2, hz2⟩ : ∃ b : Int, RowKit.Hid ((keyD x5) = b) := ⟨_, hid rfl⟩
       apply lxH1 (v := .int .i64 z2) (wantsg (j := 4) (d := 21) (b := true) rfl rfl rfl rfl)
       · intro v1 hv1 w' h0 hK; go_simp; (try go_bits); refine (key_any x5 w' (by assumption)).mono ?_; rintro e w5 ⟨rfl, hb⟩; obtain rfl := hv1.out; exact ⟨_, rfl, (by rw [hz2.out]), hb⟩
       simp only [Act.put, pA, pB, pC]
       obtain ⟨b3, hb3⟩ : ∃ b : Bool, RowKit.Hid (decide (z1 < z2) = b) := ⟨_, hid rfl⟩
       apply lxB0 b3 (wantsg (j := 4) (d := 21) (b := true) rfl rfl rfl rfl); (· intro w' h0; go_simp; (try go_bits); exact ⟨by have q := hb3.out; subst q; first | rfl | simp, rfl⟩); simp only [Act.put, pA, pB, pC]
       apply lxF0 (wants0 rfl); (· intro w' h0; go_simp; (try go_bits); exact ⟨rfl, rfl⟩); simp only [Act.put, pA, pB, pC]
       refine lxEnd (fun W9 hK => ?_)
       cases b3
       · --
        have q_b3 : z2 ≤ z1 := Int.not_lt.1 (of_decide_eq_false hb3.out)
        go_upto_region 8 with (fail)
        have hK0 := hK
        refine wp_region_float0 (w) _ _ [0, 0, 0, 0, 0, 0, 0, 0, 0, 1, 0, 0, 0, 0, 1, 0, 0] (by kernel_rfl) (by kernel_rfl) (by kernel_rfl) (by kernel_rfl) (KS.drew hK0) (KS.drew hK) ?_
        clear hK hK0
        iterate 3 (apply lxF0 (wants0 rfl); (· intro w' h0; go_simp; (try go_bits); exact ⟨rfl, rfl⟩); simp only [Act.put, pA, pB, pC])
        apply lxF0 (v := .bool true) (wants0 rfl); (· intro w' h0; go_simp; (try go_bits); exact ⟨congrArg Value.bool (by simp <;> omega), rfl⟩); simp only [Act.put, pA, pB, pC]
        apply lxF0 (wants0 rfl); (· intro w' h0; go_simp; (try go_bits); exact ⟨rfl, rfl⟩); simp only [Act.put, pA, pB, pC]
        iterate 3 (apply lxF0 (wantsg (j := 4) (d := 40) (b := true) rfl rfl rfl rfl); (· intro w' h0; go_simp; (try go_bits); exact ⟨rfl, rfl⟩); simp only [Act.put, pA, pB, pC])
        apply lxF0 (wantsg (j := 4) (d := 40) (b := true) rfl rfl rfl rfl); (· intro w' h0; have c_CEL8_0 : w'.cell? ⟨g8, k * 4, none⟩ = some (.int .i64 y6.s) := (by have q := (h0.get m0).2 0 _ rfl; simpa using q); have c_CEL8_1 : w'.cell? ⟨g8, k * 4 + 1, none⟩ = some (.int .i64 y6.d) := (by have q := (h0.get m0).2 1 _ rfl; simpa using q); have c_CEL8_2 : w'.cell? ⟨g8, k * 4 + 2, none⟩ = some (.int .i64 y6.a) := (by have q := (h0.get m0).2 2 _ rfl; simpa using q); have c_CEL8_3 : w'.cell? ⟨g8, k * 4 + 3, none⟩ = some (.int .i64 y6.p) := (by have q := (h0.get m0).2 3 _ rfl; simpa using q); go_simp; (try go_bits); exact ⟨rfl, rfl⟩); simp only [Act.put, pA, pB, pC]
        obtain ⟨z3, hz3⟩ : ∃ b : Int, RowKit.Hid ((keyD y6) = b) := ⟨_, hid rfl⟩
        apply lxH1 (v := .int .i64 z3) (wantsg (j := 4) (d := 40) (b := true) rfl rfl rfl rfl)
        · intro v1 hv1 w' h0 hK; go_simp; (try go_bits); refine (key_any y6 w' (by assumption)).mono ?_; rintro e w5 ⟨rfl, hb⟩; obtain rfl := hv1.out; exact ⟨_, rfl, (by rw [hz3.out]), hb⟩
        simp only [Act.put, pA, pB, pC]
        iterate 3 (apply lxF0 (wantsg (j := 4) (d := 40) (b := true) rfl rfl rfl rfl); (· intro w' h0; go_simp; (try go_bits); exact ⟨rfl, rfl⟩); simp only [Act.put, pA, pB, pC])
        apply lxF0 (wantsg (j := 4) (d := 40) (b := true) rfl rfl rfl rfl); (· intro w' h0; have c_CEL7_0 : w'.cell? ⟨g4, o4 + i * 4, none⟩ = some (.int .i64 x5.s) := (by have q := (h0.get m1).2 0 _ rfl; simpa using q); have c_CEL7_1 : w'.cell? ⟨g4, o4 + i * 4 + 1, none⟩ = some (.int .i64 x5.d) := (by have q := (h0.get m1).2 1 _ rfl; simpa using q); have c_CEL7_2 : w'.cell? ⟨g4, o4 + i * 4 + 2, none⟩ = some (.int .i64 x5.a) := (by have q := (h0.get m1).2 2 _ rfl; simpa using q); have c_CEL7_3 : w'.cell? ⟨g4, o4 + i * 4 + 3, none⟩ = some (.int .i64 x5.p) := (by have q := (h0.get m1).2 3 _ rfl; simpa using q); go_simp; (try go_bits); exact ⟨rfl, rfl⟩); simp only [Act.put, pA, pB, pC]
        obtain ⟨z4, hz4⟩ : ∃ b : Int, RowKit.Hid ((keyD x5) = b) := ⟨_, hid rfl⟩
        apply lxH1 (v := .int .i64 z4) (wantsg (j := 4) (d := 40) (b := true) rfl rfl rfl rfl)
        · intro v1 hv1 w' h0 hK; go_simp; (try go_bits); refine (key_any x5 w' (by assumption)).mono ?_; rintro e w5 ⟨rfl, hb⟩; obtain rfl := hv1.out; exact ⟨_, rfl, (by rw [hz4.out]), hb⟩
        simp only [Act.put, pA, pB, pC]
        obtain ⟨b4, hb4⟩ : ∃ b : Bool, RowKit.Hid ((z3 == z4) = b) := ⟨_, hid rfl⟩
        apply lxB0 b4 (wantsg (j := 4) (d := 40) (b := true) rfl rfl rfl rfl); (· intro w' h0; go_simp; (try go_bits); exact ⟨by have q := hb4.out; subst q; first | rfl | simp, rfl⟩); simp only [Act.put, pA, pB, pC]
        apply lxF0 (wants0 rfl); (· intro w' h0; go_simp; (try go_bits); exact ⟨rfl, rfl⟩); simp only [Act.put, pA, pB, pC]
        refine lxEnd (fun W10 hK => ?_)
        cases b4
        · --
         go_upto_region 10 with (fail)
         refine wp_region_tx w hK ?_
         clear hK
         iterate 2 (apply txF (wants0 rfl); (· intro w' hK; go_simp; (try go_bits); exact ⟨rfl, rfl⟩); simp only [Act.put, pA, pB, pC])
         apply txA2 (.cells #[.int .i64 0, .int .i64 0, .int .i64 0, .int .i64 0] 25) (wants0 rfl)
         · intro w' hK; go_simp; rfl
         intro R11 q_R11
         have n12 : ob ((some ⟨g8, 0, none⟩)) ≠ some R11 := q_R11.row m2
         clear q_R11
         simp only [mkOf, Act.put, pA, pB, pC]
         refine txApp (K := demK) (t := 25) (xs := ys) (ys := [(⟨0, 0, 0, 0⟩ : Dm)]) (.tmp 66) (.tmp 68) (wants0 rfl) (by rfl) Tryd.underlying22 Tryd.underlying22 infoDm rfl (by rfl) (by rfl) (by simp [maxLen]; omega) (by simp; omega) (fun r => [Has w.heap.size R11 (.cells #[.int .i64 0, .int .i64 0, .int .i64 0, .int .i64 0] 25), fun _ => ob r ≠ some R11]) (fun w' hK => ⟨(hK.get m3), (fun _ _ => .inl demK_free), (SlV.one (hK.get m0) rfl (Nat.le_refl 1) (by decide))⟩) (fun w' r hK hr => (al1 (gwH (hK.get m0) n12) (al1 (gwC (apb hr n12 ((hK.get m0)).ltS)) aN))) ?_
         intro sv13
         rw [(show ys ++ [(⟨0, 0, 0, 0⟩ : Dm)] = snocD ys zD from rfl)]
         simp only [Act.put, pA, pB, pC]
         refine Tx.know (Pr := ob sv13.p ≠ some R11) (fun w' hK => hK.get m2) (fun n14 => ?_)
         apply txF (wants0 rfl); (· intro w' hK; go_simp; (try go_bits); exact ⟨rfl, rfl⟩); simp only [Act.put, pA, pB, pC]
         refine txEnd (fun W15 hK => ?_)
         generalize sv13.p = pz at hK ⊢
         have hq0 : (snocD ys zD).length ≤ 65 := by rw [snocD_len]; omega
         go_upto_region 11 with (fail)
         refine wp_region_tx w hK ?_
         clear hK
         iterate 2 (apply txF (wants0 rfl); (· intro w' hK; go_simp; (try go_bits); exact ⟨rfl, rfl⟩); simp only [Act.put, pA, pB, pC])
         apply txF (v := .int .i64 ((ys.length : Nat) : Int)) (wants0 rfl); (· intro w' hK; go_simp; (try go_bits); exact ⟨congrArg _ (by rw [snocD_len]; omega), rfl⟩); simp only [Act.put, pA, pB, pC]
         apply txF (wants0 rfl); (· intro w' hK; go_simp; (try go_bits); exact ⟨rfl, rfl⟩); simp only [Act.put, pA, pB, pC]
         refine txEnd (fun W16 hK => ?_)
         go_wp2_with fail
         go_loopw [6] (fun s6 wl => ∃ (n : Nat) (zs : List Dm), s6 = .int .i64 (n : Int) ∧ (n ≤ ys.length ∧ k ≤ n) ∧ RowKit.Hid (Shf ys n zs) ∧ KS w [fun w1 => OwV demK 25 w.heap.size w1 (.slice pz (snocD ys zD).length sv13.c) zs] wl) (fun s6 _ => (intOf s6).toNat)
         case atStart => exact ⟨ys.length, (snocD ys zD), rfl, (by omega), (hid (Shf.start ys)), ⟨hK.old, (al1 (hK.all _ m0) aN)⟩⟩
         case round =>
          clear hK
          obtain ⟨n, zs, rfl, hn, hsh, hK⟩ := hrel
          generalize wr = W17 at hK ⊢
          go_upto_region 12 with (fail)
          refine wp_region_tx w hK ?_
          clear hK
          iterate 2 (apply txF (wants0 rfl); (· intro w' hK; go_simp; (try go_bits); exact ⟨rfl, rfl⟩); simp only [Act.put, pA, pB, pC])
          obtain ⟨b5, hb5⟩ : ∃ b : Bool, RowKit.Hid (decide (((k : Int)) < ((n : Int))) = b) := ⟨_, hid rfl⟩
          apply txB b5 (wants0 rfl); (· intro w' hK; go_simp; (try go_bits); exact ⟨by have q := hb5.out; subst q; first | rfl | simp, rfl⟩); simp only [Act.put, pA, pB, pC]
          refine txEnd (fun W18 hK => ?_)
          cases b5
          · --
           have q_b5 : ((n : Int)) ≤ ((k : Int)) := Int.not_lt.1 (of_decide_eq_false hb5.out)
           have hzl := hid hsh.out.len; have hq1 : zs.length ≤ (snocD ys zD).length := by rw [snocD_len, hzl.out]; exact Nat.le_refl _
           have hq2 : (snocD ys zD).length ≤ zs.length := by rw [snocD_len, hzl.out]; exact Nat.le_refl _
           have i19 : i < xs.length := by have q : i < xs.length := (by omega); first | exact q | (simp at q; omega) | omega
           replace hK := KS.atD hK (h0_0.below hK.old) ex5.out
           obtain ⟨v15, ev15⟩ : ∃ x, RowKit.Hid (zs[k]? = some x) := ⟨_, hid (List.getElem?_eq_getElem (show k < zs.length from (by have := hzl.out; omega)))⟩
           have i20 : k < (snocD ys zD).length := by have q : k < zs.length := (by have := hzl.out; omega); first | exact q | (simp at q; omega) | omega
           obtain ⟨g20, o20, q20, l20⟩ := ((hK.get m1).slv).ptr ev15.out
           obtain rfl : o20 = 0 := ((hK.get m1)).off q20
           subst q20
           replace hK := KS.atD hK (hK.get m1).slv ev15.out
           go_upto_region 15 with (fail)
           refine wp_region_tx w hK ?_
           clear hK
           iterate 5 (apply txF (wants0 rfl); (· intro w' hK; go_simp; (try go_bits); exact ⟨rfl, rfl⟩); simp only [Act.put, pA, pB, pC])
           apply txF (wants0 rfl); (· intro w' hK; have c_CEL19_0 : w'.cell? ⟨g4, o4 + i * 4, none⟩ = some (.int .i64 x5.s) := (by have q := (hK.get m1).2 0 _ rfl; simpa using q); have c_CEL19_1 : w'.cell? ⟨g4, o4 + i * 4 + 1, none⟩ = some (.int .i64 x5.d) := (by have q := (hK.get m1).2 1 _ rfl; simpa using q); have c_CEL19_2 : w'.cell? ⟨g4, o4 + i * 4 + 2, none⟩ = some (.int .i64 x5.a) := (by have q := (hK.get m1).2 2 _ rfl; simpa using q); have c_CEL19_3 : w'.cell? ⟨g4, o4 + i * 4 + 3, none⟩ = some (.int .i64 x5.p) := (by have q := (hK.get m1).2 3 _ rfl; simpa using q); go_simp; (try go_bits); exact ⟨rfl, rfl⟩); simp only [Act.put, pA, pB, pC]
           apply txF (wants0 rfl); (· intro w' hK; go_simp; (try go_bits); exact ⟨rfl, rfl⟩); simp only [Act.put, pA, pB, pC]
           apply txS [fun w1 => OwV demK 25 w.heap.size w1 (.slice (some ⟨g20, 0, none⟩) (snocD ys zD).length sv13.c) (zs.set k x5)] (wants0 rfl)
           · intro l1 hl1; intro w' hK; have k_g := (hK.get m2); have f_g := k_g.fz; have c_CEL20_0 : w'.cell? ⟨g20, k * 4, none⟩ = some (.int .i64 v15.s) := (by have q := (hK.get m0).2 0 _ rfl; simpa using q); have c_CEL20_1 : w'.cell? ⟨g20, k * 4 + 1, none⟩ = some (.int .i64 v15.d) := (by have q := (hK.get m0).2 1 _ rfl; simpa using q); have c_CEL20_2 : w'.cell? ⟨g20, k * 4 + 2, none⟩ = some (.int .i64 v15.a) := (by have q := (hK.get m0).2 2 _ rfl; simpa using q); have c_CEL20_3 : w'.cell? ⟨g20, k * 4 + 3, none⟩ = some (.int .i64 v15.p) := (by have q := (hK.get m0).2 3 _ rfl; simpa using q); go_simp; obtain rfl := hl1.out; exact ⟨rfl, ks_put (R := g20) hK (k_g.block rfl).1 (k * 4) [.int .i64 x5.s, .int .i64 x5.d, .int .i64 x5.a, .int .i64 x5.p] (al1 (k_g.put rfl (show k < zs.length from (by have := hzl.out; omega))) aN)⟩
           simp only [Act.put]
           refine txEnd (fun W21 hK => ?_)
           (try go_wp2)
           go_roundw
           case rel => exact ⟨i + 1, (some ⟨g20, 0, none⟩), sv13.c, (zs.set k x5), (by rw [List.length_set, hsh.out.len, snocD_len]), (by first | rfl | go_num), (by omega), (hid (rac_ins hys.out ex5.out hk hlt.out (fun y hy => by rw [ey6.out] at hy; cases hy; have e_z1 := hz1.out; have e_z2 := hz2.out; have e_z3 := hz3.out; have e_z4 := hz4.out; have a_b4 := hb4.out; simp at a_b4; omega) (by rw [show k = n from by omega]; exact hsh.out))), (hid (.inr hb2.out)), ⟨hK.old, (al1 (fun w' hb => by have q := hK.all _ m0 w' hb; rw [List.length_set, hsh.out.len]; rw [snocD_len] at q; exact q) aN)⟩⟩
           case measure => simp [intOf]; omega
          · --
           have q_b5 : ((k : Int)) < ((n : Int)) := of_decide_eq_true hb5.out
           have hzl := hid hsh.out.len; have hq1 : zs.length ≤ (snocD ys zD).length := by rw [snocD_len, hzl.out]; exact Nat.le_refl _
           have hq2 : (snocD ys zD).length ≤ zs.length := by rw [snocD_len, hzl.out]; exact Nat.le_refl _
           obtain ⟨u14, eu14⟩ : ∃ x, RowKit.Hid (zs[n - 1]? = some x) := ⟨_, hid (List.getElem?_eq_getElem (show n - 1 < zs.length from (by have := hzl.out; omega)))⟩
           have i22 : n - 1 < (snocD ys zD).length := by have q : n - 1 < zs.length := (by have := hzl.out; omega); first | exact q | (simp at q; omega) | omega
           obtain ⟨g22, o22, q22, l22⟩ := ((hK.get m0).slv).ptr eu14.out
           obtain rfl : o22 = 0 := ((hK.get m0)).off q22
           subst q22
           replace hK := KS.atD hK (hK.get m0).slv eu14.out
           obtain ⟨v14, ev14⟩ : ∃ x, RowKit.Hid (zs[n]? = some x) := ⟨_, hid (List.getElem?_eq_getElem (show n < zs.length from (by have := hzl.out; omega)))⟩
           have i23 : n < (snocD ys zD).length := by have q : n < zs.length := (by have := hzl.out; omega); first | exact q | (simp at q; omega) | omega
           replace hK := KS.atD hK (hK.get m1).slv ev14.out
           go_upto_region 14 with (fail)
           refine wp_region_tx w hK ?_
           clear hK
           iterate 4 (apply txF (wants0 rfl); (· intro w' hK; go_simp; (try go_bits); exact ⟨rfl, rfl⟩); simp only [Act.put, pA, pB, pC])
           apply txF (v := .int .i64 ((n - 1 : Nat) : Int)) (wants0 rfl); (· intro w' hK; go_simp; (try go_bits); exact ⟨congrArg _ (by omega), rfl⟩); simp only [Act.put, pA, pB, pC]
           apply txF (wants0 rfl); (· intro w' hK; go_simp; (try go_bits); exact ⟨rfl, rfl⟩); simp only [Act.put, pA, pB, pC]
           apply txF (wants0 rfl); (· intro w' hK; have c_CEL22_0 : w'.cell? ⟨g22, (n - 1) * 4, none⟩ = some (.int .i64 u14.s) := (by have q := (hK.get m1).2 0 _ rfl; simpa using q); have c_CEL22_1 : w'.cell? ⟨g22, (n - 1) * 4 + 1, none⟩ = some (.int .i64 u14.d) := (by have q := (hK.get m1).2 1 _ rfl; simpa using q); have c_CEL22_2 : w'.cell? ⟨g22, (n - 1) * 4 + 2, none⟩ = some (.int .i64 u14.a) := (by have q := (hK.get m1).2 2 _ rfl; simpa using q); have c_CEL22_3 : w'.cell? ⟨g22, (n - 1) * 4 + 3, none⟩ = some (.int .i64 u14.p) := (by have q := (hK.get m1).2 3 _ rfl; simpa using q); go_simp; (try go_bits); exact ⟨rfl, rfl⟩); simp only [Act.put, pA, pB, pC]
           apply txF (wants0 rfl); (· intro w' hK; go_simp; (try go_bits); exact ⟨rfl, rfl⟩); simp only [Act.put, pA, pB, pC]
           apply txS [fun w1 => OwV demK 25 w.heap.size w1 (.slice (some ⟨g22, 0, none⟩) (snocD ys zD).length sv13.c) (zs.set n u14)] (wants0 rfl)
           · intro l1 hl1; intro w' hK; have k_g := (hK.get m2); have f_g := k_g.fz; have c_CEL23_0 : w'.cell? ⟨g22, n * 4, none⟩ = some (.int .i64 v14.s) := (by have q := (hK.get m0).2 0 _ rfl; simpa using q); have c_CEL23_1 : w'.cell? ⟨g22, n * 4 + 1, none⟩ = some (.int .i64 v14.d) := (by have q := (hK.get m0).2 1 _ rfl; simpa using q); have c_CEL23_2 : w'.cell? ⟨g22, n * 4 + 2, none⟩ = some (.int .i64 v14.a) := (by have q := (hK.get m0).2 2 _ rfl; simpa using q); have c_CEL23_3 : w'.cell? ⟨g22, n * 4 + 3, none⟩ = some (.int .i64 v14.p) := (by have q := (hK.get m0).2 3 _ rfl; simpa using q); go_simp; obtain rfl := hl1.out; exact ⟨rfl, ks_put (R := g22) hK (k_g.block rfl).1 (n * 4) [.int .i64 u14.s, .int .i64 u14.d, .int .i64 u14.a, .int .i64 u14.p] (al1 (k_g.put rfl (show n < zs.length from (by have := hzl.out; omega))) aN)⟩
           simp only [Act.put]
           refine txEnd (fun W24 hK => ?_)
           go_upto_region 13 with (fail)
           refine wp_region_tx w hK ?_
           clear hK
           apply txF (wants0 rfl); (· intro w' hK; go_simp; (try go_bits); exact ⟨rfl, rfl⟩); simp only [Act.put, pA, pB, pC]
           apply txF (v := .int .i64 ((n - 1 : Nat) : Int)) (wants0 rfl); (· intro w' hK; go_simp; (try go_bits); exact ⟨congrArg _ (by omega), rfl⟩); simp only [Act.put, pA, pB, pC]
           apply txF (wants0 rfl); (· intro w' hK; go_simp; (try go_bits); exact ⟨rfl, rfl⟩); simp only [Act.put, pA, pB, pC]
           refine txEnd (fun W25 hK => ?_)
           (try go_wp2)
           go_roundw
           case rel => exact ⟨n - 1, (zs.set n u14), (by first | rfl | go_num), (by omega), (hid (hsh.out.step (by omega) (by omega) eu14.out)), ⟨hK.old, (al1 (hK.all _ m0) aN)⟩⟩
           case measure => simp [intOf]; omega
        · --
         go_upto_region 9 with (fail)
         have hK0 := hK.subl (sC (sC (sC sZ)))
         refine wp_region_float0 (w) _ _ [0, 0, 0, 0, 1, 0, 0, 0, 0, 1, 0, 0, 0, 4] (by kernel_rfl) (by kernel_rfl) (by kernel_rfl) (by kernel_rfl) (KS.drew hK0) (KS.drew hK) ?_
         clear hK hK0
         iterate 4 (apply lxF0 (wants0 rfl); (· intro w' h0; go_simp; (try go_bits); exact ⟨rfl, rfl⟩); simp only [Act.put, pA, pB, pC])
         apply lxR0 (wants0 rfl); (· intro w' h0 hK; have c_CEL8_2 : w'.cell? ⟨g8, k * 4 + 2, none⟩ = some (.int .i64 y6.a) := (by have q := (hK.get m0).2 2 _ rfl; simpa using q); go_simp; (try go_bits); exact ⟨rfl, rfl⟩); simp only [Act.put, pA, pB, pC]
         iterate 4 (apply lxF0 (wants0 rfl); (· intro w' h0; go_simp; (try go_bits); exact ⟨rfl, rfl⟩); simp only [Act.put, pA, pB, pC])
         apply lxR0 (wants0 rfl); (· intro w' h0 hK; have c_CEL7_2 : w'.cell? ⟨g4, o4 + i * 4 + 2, none⟩ = some (.int .i64 x5.a) := (by have q := (hK.get m1).2 2 _ rfl; simpa using q); go_simp; (try go_bits); exact ⟨rfl, rfl⟩); simp only [Act.put, pA, pB, pC]
         apply lxF0 (v := .int .i64 (y6.a + x5.a)) (wants0 rfl); (· intro w' h0; go_simp; (try go_bits); exact ⟨congrArg _ (by omega), rfl⟩); simp only [Act.put, pA, pB, pC]
         iterate 2 (apply lxF0 (wants0 rfl); (· intro w' h0; go_simp; (try go_bits); exact ⟨rfl, rfl⟩); simp only [Act.put, pA, pB, pC])
         apply lxS1 [fun w1 => OwV demK 25 w.heap.size w1 (.slice (some ⟨g8, 0, none⟩) ys.length c) (ys.set k ((⟨y6.s, y6.d, y6.a + x5.a, y6.p⟩ : Dm)))] (wants0 rfl)
         · intro g0 l1 hl1; intro w' h0 hK; have k_g := (hK.get m2); have f_g := k_g.fz; have c_CEL8_0 : w'.cell? ⟨g8, k * 4, none⟩ = some (.int .i64 y6.s) := (by have q := (hK.get m0).2 0 _ rfl; simpa using q); have c_CEL8_1 : w'.cell? ⟨g8, k * 4 + 1, none⟩ = some (.int .i64 y6.d) := (by have q := (hK.get m0).2 1 _ rfl; simpa using q); have c_CEL8_2 : w'.cell? ⟨g8, k * 4 + 2, none⟩ = some (.int .i64 y6.a) := (by have q := (hK.get m0).2 2 _ rfl; simpa using q); have c_CEL8_3 : w'.cell? ⟨g8, k * 4 + 3, none⟩ = some (.int .i64 y6.p) := (by have q := (hK.get m0).2 3 _ rfl; simpa using q); go_simp; obtain ⟨rfl, rfl⟩ := hl1.out; exact ⟨rfl, ks_put (R := g8) h0 (k_g.block rfl).1 (k * 4 + 2) [.int .i64 (y6.a + x5.a)] aN, ks_put (R := g8) hK (k_g.block rfl).1 (k * 4 + 2) [.int .i64 (y6.a + x5.a)] (al1 (OwV.putF (f := dmC) (o := 2) (ds := [.int .i64 (y6.a + x5.a)]) (fun _ _ _ => Iff.rfl) k_g ey6.out rfl (show 3 ≤ 4 from by decide)) aN)⟩
         simp only [Act.put]
         refine lxEnd (fun W26 hK => ?_)
         (try go_wp2)
         go_roundw
         case rel => exact ⟨i + 1, (some ⟨g8, 0, none⟩), c, (ys.set k ((⟨y6.s, y6.d, y6.a + x5.a, y6.p⟩ : Dm))), (by rw [List.length_set]), (by first | rfl | go_num), (by omega), (hid (rac_put hys.out ex5.out hlt.out ey6.out (by have e_z1 := hz1.out; have e_z2 := hz2.out; have e_z3 := hz3.out; have e_z4 := hz4.out; have a_b4 := hb4.out; simp at a_b4; first | omega | (simp_all; omega)))), (hid (.inr hb2.out)), ⟨hK.old, (al1 (fun w' hb => by have q := hK.all _ m0 w' hb; rw [List.length_set]; exact q) aN)⟩⟩
         case measure => simp [intOf]; omega
       · --
        have q_b3 : z1 < z2 := of_decide_eq_true hb3.out
        (try go_wp2)
        go_roundw
        case rel => exact ⟨k + 1, (by first | rfl | go_num), (by omega), (hid (hlt.out.step ey6.out (by have e_z1 := hz1.out; have e_z2 := hz2.out; omega))), ⟨hK.old, (al1 (hK.all _ m2) aN)⟩⟩
        case measure => simp [intOf]; omega
      · --
       have i27 : i < xs.length := by have q : i < xs.length := (by omega); first | exact q | (simp at q; omega) | omega
       replace hK := KS.atD hK (h0_0.below hK.old) ex5.out
       go_upto_region 6 with (fail)
       have hK0 := hK
       refine wp_region_float0 (w) _ _ [0, 0, 0, 0, 0, 0, 0, 0, 0, 0, 0, 0, 0, 0, 0, 0, 0] (by kernel_rfl) (by kernel_rfl) (by kernel_rfl) (by kernel_rfl) (KS.drew hK0) (KS.drew hK) ?_
       clear hK hK0
       iterate 3 (apply lxF0 (wants0 rfl); (· intro w' h0; go_simp; (try go_bits); exact ⟨rfl, rfl⟩); simp only [Act.put, pA, pB, pC])
       apply lxF0 (v := .bool false) (wants0 rfl); (· intro w' h0; go_simp; (try go_bits); exact ⟨congrArg Value.bool (by simp <;> omega), rfl⟩); simp only [Act.put, pA, pB, pC]
       apply lxF0 (wants0 rfl); (· intro w' h0; go_simp; (try go_bits); exact ⟨rfl, rfl⟩); simp only [Act.put, pA, pB, pC]
       iterate 11 (apply lxN (j := 4) (d := 21) (b := true) rfl rfl rfl rfl; simp only [Act.put, pA, pB, pC])
       apply lxF0 (wants0 rfl); (· intro w' h0; go_simp; (try go_bits); exact ⟨rfl, rfl⟩); simp only [Act.put, pA, pB, pC]
       refine lxEnd (fun W28 hK => ?_)
       go_upto_region 8 with (fail)
       have hK0 := hK
       refine wp_region_float0 (w) _ _ [0, 0, 0, 0, 0, 0, 0, 0, 0, 0, 0, 0, 0, 0, 0, 0, 0] (by kernel_rfl) (by kernel_rfl) (by kernel_rfl) (by kernel_rfl) (KS.drew hK0) (KS.drew hK) ?_
       clear hK hK0
       iterate 3 (apply lxF0 (wants0 rfl); (· intro w' h0; go_simp; (try go_bits); exact ⟨rfl, rfl⟩); simp only [Act.put, pA, pB, pC])
       apply lxF0 (v := .bool false) (wants0 rfl); (· intro w' h0; go_simp; (try go_bits); exact ⟨congrArg Value.bool (by simp <;> omega), rfl⟩); simp only [Act.put, pA, pB, pC]
       apply lxF0 (wants0 rfl); (· intro w' h0; go_simp; (try go_bits); exact ⟨rfl, rfl⟩); simp only [Act.put, pA, pB, pC]
       iterate 11 (apply lxN (j := 4) (d := 40) (b := true) rfl rfl rfl rfl; simp only [Act.put, pA, pB, pC])
       apply lxF0 (wants0 rfl); (· intro w' h0; go_simp; (try go_bits); exact ⟨rfl, rfl⟩); simp only [Act.put, pA, pB, pC]
       refine lxEnd (fun W29 hK => ?_)
       go_upto_region 10 with (fail)
       refine wp_region_tx w hK ?_
       clear hK
       iterate 2 (apply txF (wants0 rfl); (· intro w' hK; go_simp; (try go_bits); exact ⟨rfl, rfl⟩); simp only [Act.put, pA, pB, pC])
       apply txA2 (.cells #[.int .i64 0, .int .i64 0, .int .i64 0, .int .i64 0] 25) (wants0 rfl)
       · intro w' hK; go_simp; rfl
       intro R30 q_R30
       have n31 : ob p ≠ some R30 := q_R30.row m1
       clear q_R30
       simp only [mkOf, Act.put, pA, pB, pC]
       refine txApp (K := demK) (t := 25) (xs := ys) (ys := [(⟨0, 0, 0, 0⟩ : Dm)]) (.tmp 66) (.tmp 68) (wants0 rfl) (by rfl) Tryd.underlying22 Tryd.underlying22 infoDm rfl (by rfl) (by rfl) (by simp [maxLen]; omega) (by simp; omega) (fun r => [Has w.heap.size R30 (.cells #[.int .i64 0, .int .i64 0, .int .i64 0, .int .i64 0] 25), fun _ => ob r ≠ some R30]) (fun w' hK => ⟨(hK.get m2), (fun _ _ => .inl demK_free), (SlV.one (hK.get m0) rfl (Nat.le_refl 1) (by decide))⟩) (fun w' r hK hr => (al1 (gwH (hK.get m0) n31) (al1 (gwC (apb hr n31 ((hK.get m0)).ltS)) aN))) ?_
       intro sv32
       rw [(show ys ++ [(⟨0, 0, 0, 0⟩ : Dm)] = snocD ys zD from rfl)]
       simp only [Act.put, pA, pB, pC]
       refine Tx.know (Pr := ob sv32.p ≠ some R30) (fun w' hK => hK.get m2) (fun n33 => ?_)
       apply txF (wants0 rfl); (· intro w' hK; go_simp; (try go_bits); exact ⟨rfl, rfl⟩); simp only [Act.put, pA, pB, pC]
       refine txEnd (fun W34 hK => ?_)
       generalize sv32.p = pz at hK ⊢
       have hq0 : (snocD ys zD).length ≤ 65 := by rw [snocD_len]; omega
       go_upto_region 11 with (fail)
       refine wp_region_tx w hK ?_
       clear hK
       iterate 2 (apply txF (wants0 rfl); (· intro w' hK; go_simp; (try go_bits); exact ⟨rfl, rfl⟩); simp only [Act.put, pA, pB, pC])
       apply txF (v := .int .i64 ((ys.length : Nat) : Int)) (wants0 rfl); (· intro w' hK; go_simp; (try go_bits); exact ⟨congrArg _ (by rw [snocD_len]; omega), rfl⟩); simp only [Act.put, pA, pB, pC]
       apply txF (wants0 rfl); (· intro w' hK; go_simp; (try go_bits); exact ⟨rfl, rfl⟩); simp only [Act.put, pA, pB, pC]
       refine txEnd (fun W35 hK => ?_)
       go_wp2_with fail
       go_loopw [6] (fun s6 wl => ∃ (n : Nat) (zs : List Dm), s6 = .int .i64 (n : Int) ∧ (n ≤ ys.length ∧ k ≤ n) ∧ RowKit.Hid (Shf ys n zs) ∧ KS w [fun w1 => OwV demK 25 w.heap.size w1 (.slice pz (snocD ys zD).length sv32.c) zs] wl) (fun s6 _ => (intOf s6).toNat)
       case atStart => exact ⟨ys.length, (snocD ys zD), rfl, (by omega), (hid (Shf.start ys)), ⟨hK.old, (al1 (hK.all _ m0) aN)⟩⟩
       case round =>
        clear hK
        obtain ⟨n, zs, rfl, hn, hsh, hK⟩ := hrel
        generalize wr = W36 at hK ⊢
        go_upto_region 12 with (fail)
        refine wp_region_tx w hK ?_
        clear hK
        iterate 2 (apply txF (wants0 rfl); (· intro w' hK; go_simp; (try go_bits); exact ⟨rfl, rfl⟩); simp only [Act.put, pA, pB, pC])
        obtain ⟨b3, hb3⟩ : ∃ b : Bool, RowKit.Hid (decide (((k : Int)) < ((n : Int))) = b) := ⟨_, hid rfl⟩
        apply txB b3 (wants0 rfl); (· intro w' hK; go_simp; (try go_bits); exact ⟨by have q := hb3.out; subst q; first | rfl | simp, rfl⟩); simp only [Act.put, pA, pB, pC]
        refine txEnd (fun W37 hK => ?_)
        cases b3
        · --
         have q_b3 : ((n : Int)) ≤ ((k : Int)) := Int.not_lt.1 (of_decide_eq_false hb3.out)
         have hzl := hid hsh.out.len; have hq1 : zs.length ≤ (snocD ys zD).length := by rw [snocD_len, hzl.out]; exact Nat.le_refl _
         have hq2 : (snocD ys zD).length ≤ zs.length := by rw [snocD_len, hzl.out]; exact Nat.le_refl _
         have i38 : i < xs.length := by have q : i < xs.length := (by omega); first | exact q | (simp at q; omega) | omega
         replace hK := KS.atD hK (h0_0.below hK.old) ex5.out
         obtain ⟨v15, ev15⟩ : ∃ x, RowKit.Hid (zs[k]? = some x) := ⟨_, hid (List.getElem?_eq_getElem (show k < zs.length from (by have := hzl.out; omega)))⟩
         have i39 : k < (snocD ys zD).length := by have q : k < zs.length := (by have := hzl.out; omega); first | exact q | (simp at q; omega) | omega
         obtain ⟨g39, o39, q39, l39⟩ := ((hK.get m1).slv).ptr ev15.out
         obtain rfl : o39 = 0 := ((hK.get m1)).off q39
         subst q39
         replace hK := KS.atD hK (hK.get m1).slv ev15.out
         go_upto_region 15 with (fail)
         refine wp_region_tx w hK ?_
         clear hK
         iterate 5 (apply txF (wants0 rfl); (· intro w' hK; go_simp; (try go_bits); exact ⟨rfl, rfl⟩); simp only [Act.put, pA, pB, pC])
         apply txF (wants0 rfl); (· intro w' hK; have c_CEL38_0 : w'.cell? ⟨g4, o4 + i * 4, none⟩ = some (.int .i64 x5.s) := (by have q := (hK.get m1).2 0 _ rfl; simpa using q); have c_CEL38_1 : w'.cell? ⟨g4, o4 + i * 4 + 1, none⟩ = some (.int .i64 x5.d) := (by have q := (hK.get m1).2 1 _ rfl; simpa using q); have c_CEL38_2 : w'.cell? ⟨g4, o4 + i * 4 + 2, none⟩ = some (.int .i64 x5.a) := (by have q := (hK.get m1).2 2 _ rfl; simpa using q); have c_CEL38_3 : w'.cell? ⟨g4, o4 + i * 4 + 3, none⟩ = some (.int .i64 x5.p) := (by have q := (hK.get m1).2 3 _ rfl; simpa using q); go_simp; (try go_bits); exact ⟨rfl, rfl⟩); simp only [Act.put, pA, pB, pC]
         apply txF (wants0 rfl); (· intro w' hK; go_simp; (try go_bits); exact ⟨rfl, rfl⟩); simp only [Act.put, pA, pB, pC]
         apply txS [fun w1 => OwV demK 25 w.heap.size w1 (.slice (some ⟨g39, 0, none⟩) (snocD ys zD).length sv32.c) (zs.set k x5)] (wants0 rfl)
         · intro l1 hl1; intro w' hK; have k_g := (hK.get m2); have f_g := k_g.fz; have c_CEL39_0 : w'.cell? ⟨g39, k * 4, none⟩ = some (.int .i64 v15.s) := (by have q := (hK.get m0).2 0 _ rfl; simpa using q); have c_CEL39_1 : w'.cell? ⟨g39, k * 4 + 1, none⟩ = some (.int .i64 v15.d) := (by have q := (hK.get m0).2 1 _ rfl; simpa using q); have c_CEL39_2 : w'.cell? ⟨g39, k * 4 + 2, none⟩ = some (.int .i64 v15.a) := (by have q := (hK.get m0).2 2 _ rfl; simpa using q); have c_CEL39_3 : w'.cell? ⟨g39, k * 4 + 3, none⟩ = some (.int .i64 v15.p) := (by have q := (hK.get m0).2 3 _ rfl; simpa using q); go_simp; obtain rfl := hl1.out; exact ⟨rfl, ks_put (R := g39) hK (k_g.block rfl).1 (k * 4) [.int .i64 x5.s, .int .i64 x5.d, .int .i64 x5.a, .int .i64 x5.p] (al1 (k_g.put rfl (show k < zs.length from (by have := hzl.out; omega))) aN)⟩
         simp only [Act.put]
         refine txEnd (fun W40 hK => ?_)
         (try go_wp2)
         go_roundw
         case rel => exact ⟨i + 1, (some ⟨g39, 0, none⟩), sv32.c, (zs.set k x5), (by rw [List.length_set, hsh.out.len, snocD_len]), (by first | rfl | go_num), (by omega), (hid (rac_ins hys.out ex5.out hk hlt.out (fun y hy => by rw [List.getElem?_eq_none (by omega)] at hy; cases hy) (by rw [show k = n from by omega]; exact hsh.out))), (hid (.inr hb2.out)), ⟨hK.old, (al1 (fun w' hb => by have q := hK.all _ m0 w' hb; rw [List.length_set, hsh.out.len]; rw [snocD_len] at q; exact q) aN)⟩⟩
         case measure => simp [intOf]; omega
        · --
         have q_b3 : ((k : Int)) < ((n : Int)) := of_decide_eq_true hb3.out
         have hzl := hid hsh.out.len; have hq1 : zs.length ≤ (snocD ys zD).length := by rw [snocD_len, hzl.out]; exact Nat.le_refl _
         have hq2 : (snocD ys zD).length ≤ zs.length := by rw [snocD_len, hzl.out]; exact Nat.le_refl _
         obtain ⟨u14, eu14⟩ : ∃ x, RowKit.Hid (zs[n - 1]? = some x) := ⟨_, hid (List.getElem?_eq_getElem (show n - 1 < zs.length from (by have := hzl.out; omega)))⟩
         have i41 : n - 1 < (snocD ys zD).length := by have q : n - 1 < zs.length := (by have := hzl.out; omega); first | exact q | (simp at q; omega) | omega
         obtain ⟨g41, o41, q41, l41⟩ := ((hK.get m0).slv).ptr eu14.out
         obtain rfl : o41 = 0 := ((hK.get m0)).off q41
         subst q41
         replace hK := KS.atD hK (hK.get m0).slv eu14.out
         obtain ⟨v14, ev14⟩ : ∃ x, RowKit.Hid (zs[n]? = some x) := ⟨_, hid (List.getElem?_eq_getElem (show n < zs.length from (by have := hzl.out; omega)))⟩
         have i42 : n < (snocD ys zD).length := by have q : n < zs.length := (by have := hzl.out; omega); first | exact q | (simp at q; omega) | omega
         replace hK := KS.atD hK (hK.get m1).slv ev14.out
         go_upto_region 14 with (fail)
         refine wp_region_tx w hK ?_
         clear hK
         iterate 4 (apply txF (wants0 rfl); (· intro w' hK; go_simp; (try go_bits); exact ⟨rfl, rfl⟩); simp only [Act.put, pA, pB, pC])
         apply txF (v := .int .i64 ((n - 1 : Nat) : Int)) (wants0 rfl); (· intro w' hK; go_simp; (try go_bits); exact ⟨congrArg _ (by omega), rfl⟩); simp only [Act.put, pA, pB, pC]
         apply txF (wants0 rfl); (· intro w' hK; go_simp; (try go_bits); exact ⟨rfl, rfl⟩); simp only [Act.put, pA, pB, pC]
         apply txF (wants0 rfl); (· intro w' hK; have c_CEL41_0 : w'.cell? ⟨g41, (n - 1) * 4, none⟩ = some (.int .i64 u14.s) := (by have q := (hK.get m1).2 0 _ rfl; simpa using q); have c_CEL41_1 : w'.cell? ⟨g41, (n - 1) * 4 + 1, none⟩ = some (.int .i64 u14.d) := (by have q := (hK.get m1).2 1 _ rfl; simpa using q); have c_CEL41_2 : w'.cell? ⟨g41, (n - 1) * 4 + 2, none⟩ = some (.int .i64 u14.a) := (by have q := (hK.get m1).2 2 _ rfl; simpa using q); have c_CEL41_3 : w'.cell? ⟨g41, (n - 1) * 4 + 3, none⟩ = some (.int .i64 u14.p) := (by have q := (hK.get m1).2 3 _ rfl; simpa using q); go_simp; (try go_bits); exact ⟨rfl, rfl⟩); simp only [Act.put, pA, pB, pC]
         apply txF (wants0 rfl); (· intro w' hK; go_simp; (try go_bits); exact ⟨rfl, rfl⟩); simp only [Act.put, pA, pB, pC]
         apply txS [fun w1 => OwV demK 25 w.heap.size w1 (.slice (some ⟨g41, 0, none⟩) (snocD ys zD).length sv32.c) (zs.set n u14)] (wants0 rfl)
         · intro l1 hl1; intro w' hK; have k_g := (hK.get m2); have f_g := k_g.fz; have c_CEL42_0 : w'.cell? ⟨g41, n * 4, none⟩ = some (.int .i64 v14.s) := (by have q := (hK.get m0).2 0 _ rfl; simpa using q); have c_CEL42_1 : w'.cell? ⟨g41, n * 4 + 1, none⟩ = some (.int .i64 v14.d) := (by have q := (hK.get m0).2 1 _ rfl; simpa using q); have c_CEL42_2 : w'.cell? ⟨g41, n * 4 + 2, none⟩ = some (.int .i64 v14.a) := (by have q := (hK.get m0).2 2 _ rfl; simpa using q); have c_CEL42_3 : w'.cell? ⟨g41, n * 4 + 3, none⟩ = some (.int .i64 v14.p) := (by have q := (hK.get m0).2 3 _ rfl; simpa using q); go_simp; obtain rfl := hl1.out; exact ⟨rfl, ks_put (R := g41) hK (k_g.block rfl).1 (n * 4) [.int .i64 u14.s, .int .i64 u14.d, .int .i64 u14.a, .int .i64 u14.p] (al1 (k_g.put rfl (show n < zs.length from (by have := hzl.out; omega))) aN)⟩
         simp only [Act.put]
         refine txEnd (fun W43 hK => ?_)
         go_upto_region 13 with (fail)
         refine wp_region_tx w hK ?_
         clear hK
         apply txF (wants0 rfl); (· intro w' hK; go_simp; (try go_bits); exact ⟨rfl, rfl⟩); simp only [Act.put, pA, pB, pC]
         apply txF (v := .int .i64 ((n - 1 : Nat) : Int)) (wants0 rfl); (· intro w' hK; go_simp; (try go_bits); exact ⟨congrArg _ (by omega), rfl⟩); simp only [Act.put, pA, pB, pC]
         apply txF (wants0 rfl); (· intro w' hK; go_simp; (try go_bits); exact ⟨rfl, rfl⟩); simp only [Act.put, pA, pB, pC]
         refine txEnd (fun W44 hK => ?_)
         (try go_wp2)
         go_roundw
         case rel => exact ⟨n - 1, (zs.set n u14), (by first | rfl | go_num), (by omega), (hid (hsh.out.step (by omega) (by omega) eu14.out)), ⟨hK.old, (al1 (hK.all _ m0) aN)⟩⟩
         case measure => simp [intOf]; omega
end Go.Proofs.YthkoaaneikhjjaaDoor
