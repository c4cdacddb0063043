/- The reference: fits, DivMod, GCD. -/
import Derived.Test.YtepljhpamconbaaDoorNatRK
import Derived.Test.YtepljhpamconbaaDoorNatW
namespace Go.Proofs.YtepljhpamconbaaDoor
open Go.RowKit

theorem digs6_mul {n m : Nat} (hm : m ≤ 1000000) {L : Nat} (h : (digs B6 n).length ≤ L) : (digs B6 (n * m)).length ≤ L + 2 := by
  refine digs_len_le b6_2 _ _ ?_
  have h1 := val_lt b6_2 (digs_lt b6_2 n)
  rw [val_digs b6_2] at h1
  have h2 : n < B6 ^ L := Nat.lt_of_lt_of_le h1 (Nat.pow_le_pow_right (by decide) h)
  rw [Nat.pow_add]
  refine Nat.lt_of_lt_of_le (Nat.mul_lt_mul_of_lt_of_le h2 hm (by decide)) (Nat.mul_le_mul_left _ (by decide))
theorem digs6_mono {n m : Nat} (h : n ≤ m) {L : Nat} (hm : (digs B6 m).length ≤ L) : (digs B6 n).length ≤ L := by
  refine digs_len_le b6_2 _ _ ?_
  have h1 := val_lt b6_2 (digs_lt b6_2 m)
  rw [val_digs b6_2] at h1
  exact Nat.lt_of_lt_of_le (Nat.lt_of_le_of_lt h h1) (Nat.pow_le_pow_right (by decide) hm)

set_option maxRecDepth 100000 in
set_option maxHeartbeats 2000000 in
theorem fits_any (v u : Value) (n m : Nat) (w : World) (hv : RefV w v n) (hu : RefV w u m) (hm : 0 < m) (hlt : n < B6 * m) (h1 : (digs B6 n).length ≤ 100000) (h2 : (digs B6 m).length ≤ 100000) :
    Calls Tryd.prog 50 #[v, u] w fun e w' => e = .returned (.int .i64 ((n / m : Nat) : Int)) ∧ Below w.heap.size w w' := by
  have HT := hid (fun (k : Nat) (hk : k ≤ 1000000) w1 (hb : Below w.heap.size w w1) => times_any u m k w1 (hu.below hb) (by omega) (by omega))
  have HC := hid (fun (x : Value) (k : Nat) (hk : k ≤ 1000000) w1 (hb : Below w.heap.size w w1) (hx : RefV w1 x (m * k)) => rcmp_any x v (m * k) n w1 hx (hv.below hb) (by have := digs6_mul (n := m) (m := k) hk h2; omega) (by omega))
  have HQ := hid (show n / m < 1000000 by rw [Nat.div_lt_iff_lt_mul hm]; rw [b6] at hlt; exact hlt)
  have HM := hid hm
  clear hv hu h1 h2 hlt hm
  go_enter Tryd.func50, Tryd.ntmps50
  go_wp2_with fail
  go_loopw [5, 6] (fun lv mv wr => ∃ a b : Nat, lv = .int .i64 (a : Int) ∧ mv = .int .i64 (b : Int) ∧ a ≤ b ∧ b ≤ 999999 ∧ RowKit.Hid (a ≤ n / m ∧ n / m ≤ b) ∧ Below w.heap.size w wr) (fun lv mv _ => (intOf mv).toNat - (intOf lv).toNat)
  case atStart => exact ⟨0, 999999, rfl, rfl, by omega, by omega, hid ⟨Nat.zero_le _, by have := HQ.out; omega⟩, Below.refl _ _⟩
  case round =>
    obtain ⟨a, b, rfl, rfl, hab, hb9, HR, hbw⟩ := hrel
    generalize wr = W1 at hbw ⊢
    by_cases hlt : a < b
    · have hlti : (a : Int) < (b : Int) := by omega
      obtain ⟨k, hk, hka, hkb⟩ : ∃ k : Nat, ((a : Int) + (b : Int) + 1) / 2 = (k : Int) ∧ a < k ∧ k ≤ b := ⟨(a + b + 1) / 2, by omega, by omega, by omega⟩
      have HT1 := hid (HT.out k (by omega) W1 hbw)
      have HC1 := hid (HC.out · k (by omega) · · ·)
      have hks : 0 ≤ ((a : Int) + (b : Int) + 1) / 2 := by omega
      by_cases hle : m * k ≤ n
      · have HE := hid (show cmpN (m * k) n ≤ 0 by unfold cmpN; split <;> (try split) <;> omega)
        have hq : k ≤ n / m := by rw [Nat.le_div_iff_mul_le HM.out, Nat.mul_comm]; exact hle
        have HR2 := hid (show k ≤ n / m ∧ n / m ≤ b from ⟨hq, HR.out.2⟩)
        obtain ⟨cm, hcm⟩ : ∃ cm, cmpN (m * k) n = cm := ⟨_, rfl⟩
        rw [hcm] at HE HC1
        have hce := HE.out
        clear hcm hle hq
        go_upto_region 4 with (fail)
        go_wp2_with (first
          | (go_at_call 51; refine HT1.out.mono ?_; clear HT1; rintro e W2 ⟨x, rfl, hx, hw2⟩; have hb2 := hbw.trans (hw2.mono hbw.size))
          | (go_at_call 36; refine (HC1.out _ _ hb2 hx).mono ?_; clear HC1; rintro e W3 ⟨rfl, hw3⟩))
        go_roundw
        case rel => exact ⟨k, b, rfl, rfl, by omega, hb9, HR2, hb2.trans (hw3.mono hb2.size)⟩
        case measure => simp [intOf]; omega
      · have HE := hid (show ¬ cmpN (m * k) n ≤ 0 by unfold cmpN; rw [if_neg (by omega), if_pos (by omega)]; decide)
        have hq : n / m < k := by rw [Nat.div_lt_iff_lt_mul HM.out, Nat.mul_comm]; omega
        have HR2 := hid (show a ≤ n / m ∧ n / m ≤ k - 1 from ⟨HR.out.1, by omega⟩)
        obtain ⟨cm, hcm⟩ : ∃ cm, cmpN (m * k) n = cm := ⟨_, rfl⟩
        rw [hcm] at HE HC1
        have hce := HE.out
        clear hcm hle hq
        go_upto_region 4 with (fail)
        go_wp2_with (first
          | (go_at_call 51; refine HT1.out.mono ?_; clear HT1; rintro e W2 ⟨x, rfl, hx, hw2⟩; have hb2 := hbw.trans (hw2.mono hbw.size))
          | (go_at_call 36; refine (HC1.out _ _ hb2 hx).mono ?_; clear HC1; rintro e W3 ⟨rfl, hw3⟩))
        go_roundw
        case rel => exact ⟨a, k - 1, rfl, by congr 1; omega, by omega, by omega, HR2, hb2.trans (hw3.mono hb2.size)⟩
        case measure => simp [intOf]; omega
    · have e : a = n / m := by have := HR.out; omega
      have HE := hid e
      clear e
      have hlti : ¬ (a : Int) < (b : Int) := by omega
      go_wp2
      go_ret
      refine ⟨?_, hbw⟩
      show _ = Ending.returned (.int .i64 ((n / m : Nat) : Int))
      rw [← HE.out]; rfl

set_option maxRecDepth 100000 in
set_option maxHeartbeats 2000000 in
theorem without_own (v : Value) (xs : List Nat) (w : World) (hv : GV w v xs) (hl : xs.length ≤ 1000000) :
    Calls Tryd.prog 47 #[v] w fun e w' => ∃ v', e = .returned v' ∧ RowI w' w.heap.size v' (trimD xs) ∧ Below w.heap.size w w' := by
  obtain ⟨i0, hi, hz0, hz1, hz2⟩ := info_parts infoI
  obtain ⟨p, c, rfl, hpg⟩ := hv.slice
  clear hv
  go_enter Tryd.func47, Tryd.ntmps47
  go_wp2_with fail
  go_loop [0] (fun n => ∃ k : Nat, k ≤ xs.length ∧ n = .slice p k c ∧ RowKit.Hid (trimD xs = trimD (xs.take k))) (fun n => sliceLen n)
  case atStart => exact ⟨xs.length, Nat.le_refl _, rfl, hid (by rw [List.take_length])⟩
  case round =>
    obtain ⟨k, hk, rfl, HT⟩ := hrel
    by_cases hk0 : k = 0
    · subst hk0
      have HE := hid (show trimD xs = [] from HT.out)
      go_wp2_with (at_builtin; go_loud (refine wpList_append_two rfl _ _ 28 27 rfl w.heap.size 3 3 i0 _ 8 Tryd.underlying28 Tryd.underlying27 hi hz0 hz1 hz2 rfl _ 0 [] rfl (row_empty w 3 _ (Nat.le_refl _)) p 0 c (([] : List Nat).map iCell) rfl (by simp; try omega) (.inl rfl) (all_i _) (by simp [maxLen]; try omega) (by omega) (by simp) ?_; intro v' w2 hown hgr; have hb2 := ((Below.refl w.heap.size w).alloc (Nat.le_refl _) _).grown hgr (by simp) (fun k' hk' => by injection hk' with hk'; subst hk'; exact Nat.le_refl _)))
      go_ret
      exact ⟨_, rfl, by rw [HE.out]; exact hown, hb2⟩
    · obtain ⟨j, rfl⟩ : ∃ j, k = j + 1 := ⟨k - 1, by omega⟩
      have hj : j < xs.length := by omega
      obtain ⟨g, rfl, hg, hc1, hc2⟩ := hpg (fun e => by subst e; simp at hj)
      have g0 := hg.at0 j hj
      unfold iCell at g0
      have hgt : (0 : Int) < ((j + 1 : Nat) : Int) := by omega
      have hgl := hg.lt
      by_cases hz : xs[j] = 0
      · rw [hz] at g0
        have HZ := hid (trim_take_zero hk hz)
        clear hz
        go_wp2
        go_round
        case rel => exact ⟨j, by omega, rfl, hid (HT.out.trans HZ.out)⟩
        case measure => simp [sliceLen]
      · have hzi : (((xs[j] : Nat) : Int) == 0) = false := by rw [beq_eq_false_iff_ne]; omega
        have HE := hid (HT.out.trans (trim_take_last hk hz))
        clear hz
        have hcell : ∀ t, ∀ i u, ((xs.take (j + 1)).map iCell)[i]? = some u → (w.alloc (.cells #[] t)).cell? ((⟨g, 0, none⟩ : Addr).add i) = some u := by
          intro t i u hu
          rw [add_at, ((Below.refl w.heap.size w).alloc (Nat.le_refl _) _).cell (p := ⟨g, i, none⟩) hgl]
          obtain ⟨hi', rfl⟩ := List.getElem?_eq_some_iff.1 hu
          rw [List.length_map, List.length_take] at hi'
          rw [hg.at0 i (by omega)]; simp
        go_wp2_with (at_builtin; go_loud (refine wpList_append_two rfl _ _ 28 27 rfl w.heap.size 3 3 i0 _ 8 Tryd.underlying28 Tryd.underlying27 hi hz0 hz1 hz2 rfl _ 0 [] rfl (row_empty w 3 _ (Nat.le_refl _)) (some ⟨g, 0, none⟩) (j + 1) c ((xs.take (j + 1)).map iCell) rfl (by simp; try omega) (.inr ⟨_, rfl, hcell _⟩) (all_i _) (by simp [maxLen]; try omega) (by omega) (by simp) ?_; intro v' w2 hown hgr; have hb2 := ((Below.refl w.heap.size w).alloc (Nat.le_refl _) _).grown hgr (by simp) (fun k' hk' => by injection hk' with hk'; subst hk'; exact Nat.le_refl _)))
        go_ret
        refine ⟨_, rfl, ?_, hb2⟩
        rw [HE.out]
        unfold RowI
        rw [List.length_take, Nat.min_eq_left hk]
        simpa using hown


theorem RowI.far {W : World} {base G k : Nat} {v u : Value} {xs : List Nat} (h : RowI W base v xs) (hG : G < base) : RowI (W.setCell ⟨G, k, none⟩ u) base v xs := by
  refine ⟨h.1, ?_⟩
  rcases h.2 with h2 | ⟨g, cap, cur, e, hg, hb, r⟩
  · exact .inl h2
  · exact .inr ⟨g, cap, cur, e, hg, by rw [setCell_far _ (by omega)]; exact hb, r⟩
theorem rdivmod_zero (v u : Value) (n : Nat) (w : World) (hv : RefV w v n) (hu : RefV w u 0) :
    Calls Tryd.prog 23 #[v, u] w fun e w' => e = .returned (.tuple #[.slice none 0 0, .slice none 0 0, .int .i64 10]) ∧ Below w.heap.size w w' := by
  obtain ⟨p, cp, rfl, _⟩ := GV.slice hv
  obtain ⟨q, cq, rfl, _⟩ := GV.slice hu
  rw [digs_zero]
  clear hv hu
  go_enter Tryd.func23, Tryd.ntmps23
  go_wp2
  exact bodyPost_ret (v := .tuple #[.slice none 0 0, .slice none 0 0, .int .i64 10]) (by simp [results, Tryd.results23, go_sem]) rfl ⟨rfl, Below.refl _ _⟩

set_option maxRecDepth 100000 in
set_option maxHeartbeats 2000000 in
theorem rdivmod_64 (v u : Value) (n m : Nat) (w : World) (hv : RefV w v n) (hu : RefV w u m) (hm : m ≠ 0) (hn : n < 18446744073709551616) (hm1 : m < 18446744073709551616) :
    Calls Tryd.prog 23 #[v, u] w fun e w' => ∃ x y, e = .returned (.tuple #[x, y, .int .i64 0]) ∧ RefV w' x (n / m) ∧ RefV w' y (n % m) ∧ Below w.heap.size w w' := by
  have l1 : (digs B6 n).length ≤ 4 := digs_len_le b6_2 _ _ (Nat.lt_trans hn (by decide))
  have l2 : (digs B6 m).length ≤ 4 := digs_len_le b6_2 _ _ (Nat.lt_trans hm1 (by decide))
  have HU := hid (fun w1 (hb : Below w.heap.size w w1) => ruint_any v n w1 (hv.below hb) (by omega))
  have HU' := hid (fun w1 (hb : Below w.heap.size w w1) => ruint_any u m w1 (hu.below hb) (by omega))
  unfold u64V at HU HU'
  rw [if_pos hn, decide_eq_true hn] at HU
  rw [if_pos hm1, decide_eq_true hm1] at HU'
  have hl : (((digs B6 m).length : Int) == 0) = false := by
    rw [beq_eq_false_iff_ne]
    intro e
    exact hm ((digs_eq_nil b6_2).1 (List.eq_nil_of_length_eq_zero (by omega)))
  obtain ⟨p, cp, rfl, _⟩ := GV.slice hv
  obtain ⟨q, cq, rfl, _⟩ := GV.slice hu
  have HO1 := hid (fun w1 => rof_any (n / m) w1 (Nat.lt_of_le_of_lt (Nat.div_le_self _ _) hn))
  have HO2 := hid (fun w1 => rof_any (n % m) w1 (by have := Nat.mod_lt n (Nat.pos_of_ne_zero hm); omega))
  have hq1 : (n : Int) / (m : Int) < 18446744073709551616 := by
    have e : (n : Int) / (m : Int) = ((n / m : Nat) : Int) := rfl
    have := Nat.div_le_self n m
    rw [e]; omega
  have hq2 : 0 ≤ (n : Int) / (m : Int) := Int.natCast_nonneg (n / m)
  have hr1 : (n : Int) % (m : Int) < 18446744073709551616 := by
    have e : (n : Int) % (m : Int) = ((n % m : Nat) : Int) := rfl
    have := Nat.mod_le n m
    rw [e]; omega
  have hr2 : 0 ≤ (n : Int) % (m : Int) := Int.natCast_nonneg (n % m)
  have hmi : ¬ m = 0 := hm
  clear hv hu l1 l2
  go_enter Tryd.func23, Tryd.ntmps23
  go_upto_region 4 with (go_at_call 27; refine (HU.out _ (Below.refl _ _)).mono ?_; clear HU; rintro e W1 ⟨rfl, hw1⟩)
  go_upto_region 6 with (go_at_call 27; refine (HU'.out _ hw1).mono ?_; clear HU'; rintro e W2 ⟨rfl, hw2⟩; have hb2 := hw1.trans (hw2.mono hw1.size))
  refine wp_region_float (W2) [] [0, 0, 0, 2, 0, 0, 0, 2, 0, 0, 0] (by kernel_rfl) (by kernel_rfl) (by kernel_rfl) (by kernel_rfl) (KS.drew (KS.start W2)) ?_
  apply lxF0 (wants0 rfl); (· intro w' h0; have hw' := h0.old; go_simp; (try go_bits); exact ⟨rfl, rfl⟩); simp only [Act.put, List.setIfInBounds_toArray, List.set_cons_zero, List.set_cons_succ]
  apply lxF0 (wants0 rfl); (· intro w' h0; have hw' := h0.old; go_simp; (try go_bits); exact ⟨rfl, rfl⟩); simp only [Act.put, List.setIfInBounds_toArray, List.set_cons_zero, List.set_cons_succ]
  apply lxF0 (wants0 rfl); (· intro w' h0; have hw' := h0.old; go_simp; (try go_bits); exact ⟨rfl, rfl⟩); simp only [Act.put, List.setIfInBounds_toArray, List.set_cons_zero, List.set_cons_succ]
  apply lxE0 (α := Value) (fun vv => vv) (fun vv => [fun w => RefV w vv (n / m)]) (wants0 rfl)
  · intro w' h0 hK; go_simp; (try go_bits); refine (HO1.out w').mono ?_; rintro e w5 ⟨x, rfl, hx, hb⟩; exact ⟨_, rfl, hb, fun w6 h6 => hx.below h6⟩
  intro v34
  simp only [Act.put, List.setIfInBounds_toArray, List.set_cons_zero, List.set_cons_succ]
  apply lxF0 (wants0 rfl); (· intro w' h0; have hw' := h0.old; go_simp; (try go_bits); exact ⟨rfl, rfl⟩); simp only [Act.put, List.setIfInBounds_toArray, List.set_cons_zero, List.set_cons_succ]
  apply lxF0 (wants0 rfl); (· intro w' h0; have hw' := h0.old; go_simp; (try go_bits); exact ⟨rfl, rfl⟩); simp only [Act.put, List.setIfInBounds_toArray, List.set_cons_zero, List.set_cons_succ]
  apply lxF0 (wants0 rfl); (· intro w' h0; have hw' := h0.old; go_simp; (try go_bits); exact ⟨rfl, rfl⟩); simp only [Act.put, List.setIfInBounds_toArray, List.set_cons_zero, List.set_cons_succ]
  apply lxE0 (α := Value) (fun vv => vv) (fun vv => [fun w => RefV w vv (n % m)]) (wants0 rfl)
  · intro w' h0 hK; go_simp; (try go_bits); refine (HO2.out w').mono ?_; rintro e w5 ⟨x, rfl, hx, hb⟩; exact ⟨_, rfl, hb, fun w6 h6 => hx.below h6⟩
  intro v38
  simp only [Act.put, List.setIfInBounds_toArray, List.set_cons_zero, List.set_cons_succ]
  apply lxF0 (wants0 rfl); (· intro w' h0; have hw' := h0.old; go_simp; (try go_bits); exact ⟨rfl, rfl⟩); simp only [Act.put, List.setIfInBounds_toArray, List.set_cons_zero, List.set_cons_succ]
  apply lxF0 (wants0 rfl); (· intro w' h0; have hw' := h0.old; go_simp; (try go_bits); exact ⟨rfl, rfl⟩); simp only [Act.put, List.setIfInBounds_toArray, List.set_cons_zero, List.set_cons_succ]
  apply lxF0 (wants0 rfl); (· intro w' h0; have hw' := h0.old; go_simp; (try go_bits); exact ⟨rfl, rfl⟩); simp only [Act.put, List.setIfInBounds_toArray, List.set_cons_zero, List.set_cons_succ]
  refine lxEnd (fun W9 hK9 => ?_)
  go_wp2
  exact bodyPost_ret (v := .tuple #[v34, v38, .int .i64 0]) (by simp [results, Tryd.results23, go_sem]) rfl ⟨_, _, rfl, hK9.get (F := fun w => RefV w v34 (n / m)) (by repeat (first | exact List.mem_cons_self .. | apply List.mem_cons_of_mem)), hK9.get (F := fun w => RefV w v38 (n % m)) (by repeat (first | exact List.mem_cons_self .. | apply List.mem_cons_of_mem)), hb2.trans (hK9.old.mono hb2.size)⟩

theorem row_one (W : World) (t : TypeId) (x : Value) (base : Nat) (hb : base ≤ W.heap.size) : (W.alloc (.cells #[x] t)).ownsRow base t 1 (.slice (some ⟨W.heap.size, 0, none⟩) 1 1) 1 [x] :=
  ⟨rfl, .inr ⟨W.heap.size, 1, #[x], rfl, hb, heap_new W _, Nat.le_refl _, by unfold maxLen; omega, rfl, rfl⟩⟩
/-- The state of DivMod's loop: the groups from k on are done, r is the rest. -/
structure RDivAt (w : World) (G : Nat) (xs : List Nat) (m k r : Nat) (rv : Value) (wr : World) : Prop where
  q : ∃ qs, ArrI wr G qs ∧ qs.length = xs.length ∧ (∀ q ∈ qs, q < B6) ∧ val B6 (qs.drop k) = val B6 (xs.drop k) / m
  rest : RefV wr rv r
  rem : r = val B6 (xs.drop k) % m
  old : Below w.heap.size w wr
  gb : w.heap.size ≤ G
theorem div_group {x D m : Nat} (hm : 0 < m) : (x + B6 * D) / m = (x + B6 * (D % m)) / m + B6 * (D / m) ∧ (x + B6 * D) % m = (x + B6 * (D % m)) % m := by
  have h := Nat.div_add_mod D m
  have e : x + B6 * D = (x + B6 * (D % m)) + m * (B6 * (D / m)) := by
    conv => lhs; rw [← h]
    rw [Nat.mul_add, show B6 * (m * (D / m)) = m * (B6 * (D / m)) by ac_rfl]
    omega
  exact ⟨by rw [e, Nat.add_mul_div_left _ _ hm], by rw [e, Nat.add_mul_mod_self_left]⟩

set_option maxRecDepth 100000 in
set_option maxHeartbeats 4000000 in
theorem rdivmod_big (v u : Value) (n m : Nat) (w : World) (hv : RefV w v n) (hu : RefV w u m) (hm : m ≠ 0) (hbig : ¬ (n < 18446744073709551616 ∧ m < 18446744073709551616)) (l1 : (digs B6 n).length ≤ 50000) (l2 : (digs B6 m).length ≤ 50000) :
    Calls Tryd.prog 23 #[v, u] w fun e w' => ∃ x y, e = .returned (.tuple #[x, y, .int .i64 0]) ∧ RefV w' x (n / m) ∧ RefV w' y (n % m) ∧ Below w.heap.size w w' := by
  obtain ⟨i0, hi, hz0, hz1, hz2⟩ := info_parts infoI
  have HU := hid (fun w1 (hb : Below w.heap.size w w1) => ruint_any v n w1 (hv.below hb) (by omega))
  have HU' := hid (fun w1 (hb : Below w.heap.size w w1) => ruint_any u m w1 (hu.below hb) (by omega))
  unfold u64V at HU HU'
  have hl : (((digs B6 m).length : Int) == 0) = false := by
    rw [beq_eq_false_iff_ne]
    intro e
    exact hm ((digs_eq_nil b6_2).1 (List.eq_nil_of_length_eq_zero (by omega)))
  have HM := hid (Nat.pos_of_ne_zero hm)
  have HFT := hid (fun (x : Value) (t : Nat) w1 (hb : Below w.heap.size w w1) (hx : RefV w1 x t) (ht : t < B6 * m) => fits_any x u t m w1 hx (hu.below hb) HM.out ht (by
    have h3 := val_lt b6_2 (digs_lt b6_2 m)
    rw [val_digs b6_2] at h3
    have h4 : t < B6 ^ ((digs B6 m).length + 1) := by
      rw [Nat.pow_succ, Nat.mul_comm]
      exact Nat.lt_of_lt_of_le ht (Nat.mul_le_mul_left _ (Nat.le_of_lt h3))
    have := digs_len_le b6_2 _ _ h4
    omega) (by omega))
  have HTM := hid (fun (k : Nat) (hk : k < 1000000) w1 (hb : Below w.heap.size w w1) => times_any u m k w1 (hu.below hb) (by omega) (by omega))
  have HSB := hid (fun (x y : Value) (t k : Nat) w1 (hx : RefV w1 x t) (hy : RefV w1 y (m * k)) (ht : t < B6 * m) (hle : m * k ≤ t) => rsub_ok x y t (m * k) w1 hx hy (by
    have h3 := val_lt b6_2 (digs_lt b6_2 m)
    rw [val_digs b6_2] at h3
    have h4 : t < B6 ^ ((digs B6 m).length + 1) := by
      rw [Nat.pow_succ, Nat.mul_comm]
      exact Nat.lt_of_lt_of_le ht (Nat.mul_le_mul_left _ (Nat.le_of_lt h3))
    have := digs_len_le b6_2 _ _ h4
    omega) (by
    have h3 := val_lt b6_2 (digs_lt b6_2 m)
    rw [val_digs b6_2] at h3
    have h4 : t < B6 ^ ((digs B6 m).length + 1) := by
      rw [Nat.pow_succ, Nat.mul_comm]
      exact Nat.lt_of_lt_of_le ht (Nat.mul_le_mul_left _ (Nat.le_of_lt h3))
    have := digs_len_le b6_2 _ _ (Nat.lt_of_le_of_lt hle h4)
    omega) hle)
  obtain ⟨p, cp, rfl, hpg⟩ := GV.slice hv
  obtain ⟨q, cq, rfl, _⟩ := GV.slice hu
  have HPG := hid hpg
  have HXB := hid (digs_lt b6_2 n)
  have HVN := hid (val_digs b6_2 n)
  obtain ⟨xs, hxs⟩ : ∃ xs, digs B6 n = xs := ⟨_, rfl⟩
  rw [hxs] at HPG HXB HVN l1 HU ⊢
  obtain ⟨n64, hn64⟩ : ∃ n64 : Int, (if n < 18446744073709551616 then (n : Int) else 0) = n64 := ⟨_, rfl⟩
  obtain ⟨m64, hm64⟩ : ∃ m64 : Int, (if m < 18446744073709551616 then (m : Int) else 0) = m64 := ⟨_, rfl⟩
  rw [hn64] at HU
  rw [hm64] at HU'
  obtain ⟨lm, hlm⟩ : ∃ lm, (digs B6 m).length = lm := ⟨_, rfl⟩
  rw [hlm] at HU' hl l2 HFT HTM ⊢
  have HLM := hid hlm
  clear hv hu hpg hxs hn64 hm64 hlm hm
  go_enter Tryd.func23, Tryd.ntmps23
  go_upto_region 4 with (go_at_call 27; refine (HU.out _ (Below.refl _ _)).mono ?_; clear HU; rintro e W1 ⟨rfl, hw1⟩)
  go_upto_region 5 with (go_at_call 27; refine (HU'.out _ hw1).mono ?_; clear HU'; rintro e W2 ⟨rfl, hw2⟩; have hb2 := hw1.trans (hw2.mono hw1.size))
  by_cases hn : n < 18446744073709551616
  · have hm1 : ¬ m < 18446744073709551616 := fun h => hbig ⟨hn, h⟩
    rw [decide_eq_true hn, decide_eq_false hm1]
    clear hn hm1 hbig
    go_upto_region 8 with (at_make; go_loud (refine wpList_make_full _ rfl _ _ _ rfl W2.heap.size 3 i0 _ 1 Tryd.underlying27 hi hz0 hz1 _ _ _ _ xs.length rfl rfl (by simp) (by simp) (by rw [hz2]; omega) (by unfold maxLen; omega) (Nat.le_refl _) ?_; intro w3 hown hgr; have hb3 : Below W2.heap.size W2 w3 := (Below.refl _ W2).grown hgr (Nat.le_refl _) (by simp); have hA := ari_made hown; clear hown hgr))
    have hb4 := hb2.trans (hb3.mono hb2.size)
    have hs3 : W2.heap.size < w3.heap.size := hA.lt
    obtain ⟨W4, hW4, hat0⟩ : ∃ W4, W4 = w3.alloc (.cells #[] 3) ∧ RDivAt w W2.heap.size xs m xs.length 0 (.slice (some ⟨w3.heap.size, 0, none⟩) 0 0) W4 := by
      refine ⟨_, rfl, ⟨_, hA.below ((Below.refl _ _).alloc (Nat.le_refl _) _), by simp, fun y hy => by rw [List.eq_of_mem_replicate hy]; decide, by simp [val]⟩, RefV.nil w3 3, by rw [List.drop_length]; simp [val], hb4.alloc hb4.size _, hb2.size⟩
    clear hA hb3 hb4 hs3
    go_upto_region 9 with (fail)
    rw [← hW4]
    clear hW4
    generalize W2.heap.size = G at hat0 ⊢
    generalize w3.heap.size = E0 at hat0 ⊢
    go_wp2_with fail
    go_loopw [12, 13] (fun rv iv wr => ∃ k r : Nat, k ≤ xs.length ∧ iv = .int .i64 ((k : Int) - 1) ∧ RDivAt w G xs m k r rv wr) (fun _ iv _ => (intOf iv + 1).toNat)
    case atStart => exact ⟨xs.length, 0, Nat.le_refl _, rfl, hat0⟩
    case round =>
      clear hat0
      obtain ⟨k, r, hk, rfl, hat⟩ := hrel
      generalize wr = W5 at hat ⊢
      generalize u12 = rv at hat ⊢
      obtain ⟨qs, harr, hql, hqb, hqv⟩ := hat.q
      have hold := hat.old
      have hgb := hat.gb
      by_cases hk0 : k = 0
      · subst hk0
        rw [List.drop_zero, List.drop_zero, HVN.out] at hqv
        have hrem := hat.rem
        rw [List.drop_zero, HVN.out] at hrem
        have hrest := hat.rest
        subst hrem
        have HT := hid (without_any _ qs W5 (harr.gv (by unfold maxLen; omega)) (by omega))
        rw [hql, ← digs_val b6_2 hqb, hqv] at HT
        clear hat harr hqv
        go_wp2_with (go_at_call 47; refine HT.out.mono ?_; clear HT; rintro e w6 ⟨x, rfl, hx, hw6⟩)
        exact bodyPost_ret (v := .tuple #[x, rv, .int .i64 0]) (by simp [results, Tryd.results23, go_sem]) rfl ⟨_, _, rfl, hx, hrest.below hw6, hold.trans (hw6.mono hold.size)⟩
      · obtain ⟨j, rfl⟩ : ∃ j, k = j + 1 := ⟨k - 1, by omega⟩
        have hj : j < xs.length := by omega
        have ei : (((j + 1 : Nat) : Int) - 1) = (j : Int) := by omega
        rw [ei]
        clear ei
        obtain ⟨g, rfl, hg, _, _⟩ := HPG.out (fun e => by subst e; simp at hj)
        have g0 := (hg.below hold).at0 j hj
        unfold iCell at g0
        have hgl := Nat.lt_of_lt_of_le hg.lt hold.size
        have q0 : 0 ≤ (j : Int) := by omega
        have hx1 := HXB.out _ (List.getElem_mem hj)
        obtain ⟨x, hx⟩ : ∃ x, xs[j] = x := ⟨_, rfl⟩
        have hvd := val_drop (B := B6) hj
        rw [hx] at g0 hx1 hvd
        obtain ⟨d1, d2⟩ := div_group (x := x) (D := val B6 (xs.drop (j + 1))) HM.out
        rw [← hvd, ← hat.rem] at d1 d2
        have hrm : r < m := by rw [hat.rem]; exact Nat.mod_lt _ HM.out
        have htl : x + B6 * r < B6 * m := by
          have : B6 * (r + 1) ≤ B6 * m := Nat.mul_le_mul_left _ hrm
          rw [Nat.mul_add] at this
          omega
        obtain ⟨rp, rc, rfl, hrg⟩ := GV.slice hat.rest
        have hrl : (digs B6 r).length ≤ 50000 := digs6_mono (Nat.le_of_lt hrm) (by rw [HLM.out]; exact l2)
        have HDW := hid (show trimD (x :: digs B6 r) = digs B6 (x + B6 * r) by
          rw [← digs_val b6_2 (l := x :: digs B6 r) (fun d hd => by
            rcases List.mem_cons.1 hd with h | h
            · rw [h]; exact hx1
            · exact digs_lt b6_2 r d h)]
          show digs B6 (x + B6 * val B6 (digs B6 r)) = _
          rw [val_digs b6_2])
        obtain ⟨t, ht⟩ : ∃ t, x + B6 * r = t := ⟨_, rfl⟩
        rw [ht] at d1 d2 htl HDW
        have hsrc : ∀ (W : World), Below W5.heap.size W5 W → (digs B6 r).length = 0 ∨ ∃ ad, rp = some ad ∧ ∀ i u, ((digs B6 r).map iCell)[i]? = some u → W.cell? (ad.add i) = some u := fun W hb => by
          by_cases h0 : digs B6 r = []
          · exact .inl (by rw [h0]; rfl)
          · obtain ⟨g', rfl, hg', _, _⟩ := hrg h0
            refine .inr ⟨_, rfl, fun i u hu => ?_⟩
            obtain ⟨hi', rfl⟩ := List.getElem?_eq_some_iff.1 hu
            rw [add_at, List.getElem_map]
            exact (hg'.below hb).at0 i (by simpa using hi')
        have HSRC := hid hsrc
        have HARR := hid harr
        have HQV := hid (show val B6 ((qs.set j (t / m)).drop j) = val B6 (xs.drop j) / m by rw [val_drop_set (by omega), d1, hqv])
        have HRM := hid (show t - m * (t / m) = val B6 (xs.drop j) % m by rw [d2]; have := Nat.div_add_mod t m; omega)
        have HQB := hid (show ∀ q ∈ qs.set j (t / m), q < B6 from all_set hqb (by rw [Nat.div_lt_iff_lt_mul HM.out]; exact htl))
        have HMT := hid (show m * (t / m) ≤ t from Nat.mul_div_le t m)
        have HTL := hid htl
        have htq : t / m < 1000000 := by rw [Nat.div_lt_iff_lt_mul HM.out]; exact htl
        have hx6 : x ≤ 1000000 := by rw [b6] at hx1; omega
        clear hat harr hsrc hrg hqv hqb hvd d1 d2 hx ht hrm htl hx1
        obtain ⟨lr, hlr⟩ : ∃ lr, (digs B6 r).length = lr := ⟨_, rfl⟩
        have HLR := hid hlr
        rw [hlr] at HSRC hrl ⊢
        clear hlr
        obtain ⟨ql, hqle⟩ : ∃ ql, t / m = ql := ⟨_, rfl⟩
        rw [hqle] at HQV HRM HQB HMT htq
        have HQE := hid hqle
        clear hqle
        go_upto_region 13 with (first
          | (at_builtin; go_loud (refine wpList_append_two rfl _ _ 27 28 rfl w.heap.size 3 3 i0 _ 8 Tryd.underlying27 Tryd.underlying28 hi hz0 hz1 hz2 rfl _ 1 [iCell x] rfl (row_one W5 3 _ _ hold.size) rp lr rc ((digs B6 r).map iCell) rfl (by rw [List.length_map]; exact HLR.out) (HSRC.out _ ((Below.refl _ _).alloc (Nat.le_refl _) _)) (all_i _) (by simp [maxLen]; omega) (by omega) (by have := hold.size; simp; omega) ?_; intro v7 w7 hown hgr; have hb7 := (hold.alloc hold.size _).grown hgr (by have := hold.size; simp; omega) (fun k' hk' => by injection hk' with hk'; subst hk'; exact hold.size); have hb57 : Below W5.heap.size W5 w7 := ((Below.refl W5.heap.size W5).alloc (Nat.le_refl _) _).grown hgr (by simp) (fun k' hk' => by injection hk' with hk'; subst hk'; exact Nat.le_refl _); have HW := hid (without_own v7 (x :: digs B6 r) w7 (RowI.gv (base := w.heap.size) (by unfold RowI; rw [List.length_cons, HLR.out, Nat.add_comm lr 1]; simpa using hown)) (by rw [List.length_cons, HLR.out]; omega)); clear hown hgr))
          | (go_at_call 47; refine HW.out.mono ?_; clear HW; rintro e W8 ⟨rv2, rfl, hrow8, hw8⟩; rw [HDW.out] at hrow8; have hrv : RefV W8 rv2 t := hrow8.gv; have hGb := Nat.lt_of_lt_of_le HARR.out.lt hb57.size; have hb8 := hb7.trans (hw8.mono hb7.size); have hb58 := hb57.trans (hw8.mono hb57.size)))
        have HFT1 := hid (HFT.out rv2 t W8 hb8 hrv HTL.out)
        rw [HQE.out] at HFT1
        have hA8 := HARR.out.below hb58
        have hGl := hA8.lt
        have c0 := hA8.cell j (by omega)
        have hfr := hA8.free
        clear hb7 hb57 hw8
        go_upto_region 14 with (go_at_call 50; refine HFT1.out.mono ?_; clear HFT1; rintro e W9 ⟨rfl, hw9⟩; have hb9 := hb8.trans (hw9.mono hb8.size); have hA9 := hA8.below hw9; have hrow9 := RowI.below hrow8 hw9; have hGl9 := hA9.lt; have c9 := hA9.cell j (by omega); have hfr9 := hA9.free)
        obtain ⟨W10, hW10, hA10, hb10, hrv10⟩ : ∃ W10, W10 = W9.setCell ⟨G, j, none⟩ (.int .i64 (ql : Int)) ∧ ArrI W10 G (qs.set j ql) ∧ Below w.heap.size w W10 ∧ RefV W10 rv2 t := by
          refine ⟨_, rfl, hA9.store j ql, hb9.setCell (p := ⟨G, j, none⟩) hgb _, ?_⟩
          exact (hrow9.far hGb).gv
        rw [← hW10]
        clear hW10 hA8 hA9 hrow8 hrow9 c0 c9 hfr hfr9 hGl hGl9 hGb
        have c10 := hA10.cell j (by rw [List.length_set]; omega)
        rw [List.getElem_set_self] at c10
        have hGl10 := hA10.lt
        have HTM1 := hid (HTM.out ql htq W10 hb10)
        have HSB1 := hid (fun (y : Value) w1 (hb : Below W10.heap.size W10 w1) (hy : RefV w1 y (m * ql)) => HSB.out rv2 y t ql w1 (hrv10.below hb) hy HTL.out HMT.out)
        go_wp2_with (first
          | (go_at_call 51; refine HTM1.out.mono ?_; clear HTM1; rintro e W11 ⟨y, rfl, hy, hw11⟩)
          | (go_at_call 34; refine (HSB1.out y _ hw11 hy).mono ?_; clear HSB1; rintro e W12 ⟨rv3, rfl, hrv3, hw12⟩; have hb12 := hw11.trans (hw12.mono hw11.size)))
        go_roundw
        case rel => exact ⟨j, t - m * ql, by omega, by go_num, ⟨_, hA10.below hb12, by rw [List.length_set]; exact hql, HQB.out, HQV.out⟩, hrv3, HRM.out, hb10.trans (hb12.mono hb10.size), hgb⟩
        case measure => simp [intOf]
  · rw [decide_eq_false hn]
    clear hn hbig
    go_upto_region 8 with (at_make; go_loud (refine wpList_make_full _ rfl _ _ _ rfl W2.heap.size 3 i0 _ 1 Tryd.underlying27 hi hz0 hz1 _ _ _ _ xs.length rfl rfl (by simp) (by simp) (by rw [hz2]; omega) (by unfold maxLen; omega) (Nat.le_refl _) ?_; intro w3 hown hgr; have hb3 : Below W2.heap.size W2 w3 := (Below.refl _ W2).grown hgr (Nat.le_refl _) (by simp); have hA := ari_made hown; clear hown hgr))
    have hb4 := hb2.trans (hb3.mono hb2.size)
    have hs3 : W2.heap.size < w3.heap.size := hA.lt
    obtain ⟨W4, hW4, hat0⟩ : ∃ W4, W4 = w3.alloc (.cells #[] 3) ∧ RDivAt w W2.heap.size xs m xs.length 0 (.slice (some ⟨w3.heap.size, 0, none⟩) 0 0) W4 := by
      refine ⟨_, rfl, ⟨_, hA.below ((Below.refl _ _).alloc (Nat.le_refl _) _), by simp, fun y hy => by rw [List.eq_of_mem_replicate hy]; decide, by simp [val]⟩, RefV.nil w3 3, by rw [List.drop_length]; simp [val], hb4.alloc hb4.size _, hb2.size⟩
    clear hA hb3 hb4 hs3
    go_upto_region 9 with (fail)
    rw [← hW4]
    clear hW4
    generalize W2.heap.size = G at hat0 ⊢
    generalize w3.heap.size = E0 at hat0 ⊢
    go_wp2_with fail
    go_loopw [12, 13] (fun rv iv wr => ∃ k r : Nat, k ≤ xs.length ∧ iv = .int .i64 ((k : Int) - 1) ∧ RDivAt w G xs m k r rv wr) (fun _ iv _ => (intOf iv + 1).toNat)
    case atStart => exact ⟨xs.length, 0, Nat.le_refl _, rfl, hat0⟩
    case round =>
      clear hat0
      obtain ⟨k, r, hk, rfl, hat⟩ := hrel
      generalize wr = W5 at hat ⊢
      generalize u12 = rv at hat ⊢
      obtain ⟨qs, harr, hql, hqb, hqv⟩ := hat.q
      have hold := hat.old
      have hgb := hat.gb
      by_cases hk0 : k = 0
      · subst hk0
        rw [List.drop_zero, List.drop_zero, HVN.out] at hqv
        have hrem := hat.rem
        rw [List.drop_zero, HVN.out] at hrem
        have hrest := hat.rest
        subst hrem
        have HT := hid (without_any _ qs W5 (harr.gv (by unfold maxLen; omega)) (by omega))
        rw [hql, ← digs_val b6_2 hqb, hqv] at HT
        clear hat harr hqv
        go_wp2_with (go_at_call 47; refine HT.out.mono ?_; clear HT; rintro e w6 ⟨x, rfl, hx, hw6⟩)
        exact bodyPost_ret (v := .tuple #[x, rv, .int .i64 0]) (by simp [results, Tryd.results23, go_sem]) rfl ⟨_, _, rfl, hx, hrest.below hw6, hold.trans (hw6.mono hold.size)⟩
      · obtain ⟨j, rfl⟩ : ∃ j, k = j + 1 := ⟨k - 1, by omega⟩
        have hj : j < xs.length := by omega
        have ei : (((j + 1 : Nat) : Int) - 1) = (j : Int) := by omega
        rw [ei]
        clear ei
        obtain ⟨g, rfl, hg, _, _⟩ := HPG.out (fun e => by subst e; simp at hj)
        have g0 := (hg.below hold).at0 j hj
        unfold iCell at g0
        have hgl := Nat.lt_of_lt_of_le hg.lt hold.size
        have q0 : 0 ≤ (j : Int) := by omega
        have hx1 := HXB.out _ (List.getElem_mem hj)
        obtain ⟨x, hx⟩ : ∃ x, xs[j] = x := ⟨_, rfl⟩
        have hvd := val_drop (B := B6) hj
        rw [hx] at g0 hx1 hvd
        obtain ⟨d1, d2⟩ := div_group (x := x) (D := val B6 (xs.drop (j + 1))) HM.out
        rw [← hvd, ← hat.rem] at d1 d2
        have hrm : r < m := by rw [hat.rem]; exact Nat.mod_lt _ HM.out
        have htl : x + B6 * r < B6 * m := by
          have : B6 * (r + 1) ≤ B6 * m := Nat.mul_le_mul_left _ hrm
          rw [Nat.mul_add] at this
          omega
        obtain ⟨rp, rc, rfl, hrg⟩ := GV.slice hat.rest
        have hrl : (digs B6 r).length ≤ 50000 := digs6_mono (Nat.le_of_lt hrm) (by rw [HLM.out]; exact l2)
        have HDW := hid (show trimD (x :: digs B6 r) = digs B6 (x + B6 * r) by
          rw [← digs_val b6_2 (l := x :: digs B6 r) (fun d hd => by
            rcases List.mem_cons.1 hd with h | h
            · rw [h]; exact hx1
            · exact digs_lt b6_2 r d h)]
          show digs B6 (x + B6 * val B6 (digs B6 r)) = _
          rw [val_digs b6_2])
        obtain ⟨t, ht⟩ : ∃ t, x + B6 * r = t := ⟨_, rfl⟩
        rw [ht] at d1 d2 htl HDW
        have hsrc : ∀ (W : World), Below W5.heap.size W5 W → (digs B6 r).length = 0 ∨ ∃ ad, rp = some ad ∧ ∀ i u, ((digs B6 r).map iCell)[i]? = some u → W.cell? (ad.add i) = some u := fun W hb => by
          by_cases h0 : digs B6 r = []
          · exact .inl (by rw [h0]; rfl)
          · obtain ⟨g', rfl, hg', _, _⟩ := hrg h0
            refine .inr ⟨_, rfl, fun i u hu => ?_⟩
            obtain ⟨hi', rfl⟩ := List.getElem?_eq_some_iff.1 hu
            rw [add_at, List.getElem_map]
            exact (hg'.below hb).at0 i (by simpa using hi')
        have HSRC := hid hsrc
        have HARR := hid harr
        have HQV := hid (show val B6 ((qs.set j (t / m)).drop j) = val B6 (xs.drop j) / m by rw [val_drop_set (by omega), d1, hqv])
        have HRM := hid (show t - m * (t / m) = val B6 (xs.drop j) % m by rw [d2]; have := Nat.div_add_mod t m; omega)
        have HQB := hid (show ∀ q ∈ qs.set j (t / m), q < B6 from all_set hqb (by rw [Nat.div_lt_iff_lt_mul HM.out]; exact htl))
        have HMT := hid (show m * (t / m) ≤ t from Nat.mul_div_le t m)
        have HTL := hid htl
        have htq : t / m < 1000000 := by rw [Nat.div_lt_iff_lt_mul HM.out]; exact htl
        have hx6 : x ≤ 1000000 := by rw [b6] at hx1; omega
        clear hat harr hsrc hrg hqv hqb hvd d1 d2 hx ht hrm htl hx1
        obtain ⟨lr, hlr⟩ : ∃ lr, (digs B6 r).length = lr := ⟨_, rfl⟩
        have HLR := hid hlr
        rw [hlr] at HSRC hrl ⊢
        clear hlr
        obtain ⟨ql, hqle⟩ : ∃ ql, t / m = ql := ⟨_, rfl⟩
        rw [hqle] at HQV HRM HQB HMT htq
        have HQE := hid hqle
        clear hqle
        go_upto_region 13 with (first
          | (at_builtin; go_loud (refine wpList_append_two rfl _ _ 27 28 rfl w.heap.size 3 3 i0 _ 8 Tryd.underlying27 Tryd.underlying28 hi hz0 hz1 hz2 rfl _ 1 [iCell x] rfl (row_one W5 3 _ _ hold.size) rp lr rc ((digs B6 r).map iCell) rfl (by rw [List.length_map]; exact HLR.out) (HSRC.out _ ((Below.refl _ _).alloc (Nat.le_refl _) _)) (all_i _) (by simp [maxLen]; omega) (by omega) (by have := hold.size; simp; omega) ?_; intro v7 w7 hown hgr; have hb7 := (hold.alloc hold.size _).grown hgr (by have := hold.size; simp; omega) (fun k' hk' => by injection hk' with hk'; subst hk'; exact hold.size); have hb57 : Below W5.heap.size W5 w7 := ((Below.refl W5.heap.size W5).alloc (Nat.le_refl _) _).grown hgr (by simp) (fun k' hk' => by injection hk' with hk'; subst hk'; exact Nat.le_refl _); have HW := hid (without_own v7 (x :: digs B6 r) w7 (RowI.gv (base := w.heap.size) (by unfold RowI; rw [List.length_cons, HLR.out, Nat.add_comm lr 1]; simpa using hown)) (by rw [List.length_cons, HLR.out]; omega)); clear hown hgr))
          | (go_at_call 47; refine HW.out.mono ?_; clear HW; rintro e W8 ⟨rv2, rfl, hrow8, hw8⟩; rw [HDW.out] at hrow8; have hrv : RefV W8 rv2 t := hrow8.gv; have hGb := Nat.lt_of_lt_of_le HARR.out.lt hb57.size; have hb8 := hb7.trans (hw8.mono hb7.size); have hb58 := hb57.trans (hw8.mono hb57.size)))
        have HFT1 := hid (HFT.out rv2 t W8 hb8 hrv HTL.out)
        rw [HQE.out] at HFT1
        have hA8 := HARR.out.below hb58
        have hGl := hA8.lt
        have c0 := hA8.cell j (by omega)
        have hfr := hA8.free
        clear hb7 hb57 hw8
        go_upto_region 14 with (go_at_call 50; refine HFT1.out.mono ?_; clear HFT1; rintro e W9 ⟨rfl, hw9⟩; have hb9 := hb8.trans (hw9.mono hb8.size); have hA9 := hA8.below hw9; have hrow9 := RowI.below hrow8 hw9; have hGl9 := hA9.lt; have c9 := hA9.cell j (by omega); have hfr9 := hA9.free)
        obtain ⟨W10, hW10, hA10, hb10, hrv10⟩ : ∃ W10, W10 = W9.setCell ⟨G, j, none⟩ (.int .i64 (ql : Int)) ∧ ArrI W10 G (qs.set j ql) ∧ Below w.heap.size w W10 ∧ RefV W10 rv2 t := by
          refine ⟨_, rfl, hA9.store j ql, hb9.setCell (p := ⟨G, j, none⟩) hgb _, ?_⟩
          exact (hrow9.far hGb).gv
        rw [← hW10]
        clear hW10 hA8 hA9 hrow8 hrow9 c0 c9 hfr hfr9 hGl hGl9 hGb
        have c10 := hA10.cell j (by rw [List.length_set]; omega)
        rw [List.getElem_set_self] at c10
        have hGl10 := hA10.lt
        have HTM1 := hid (HTM.out ql htq W10 hb10)
        have HSB1 := hid (fun (y : Value) w1 (hb : Below W10.heap.size W10 w1) (hy : RefV w1 y (m * ql)) => HSB.out rv2 y t ql w1 (hrv10.below hb) hy HTL.out HMT.out)
        go_wp2_with (first
          | (go_at_call 51; refine HTM1.out.mono ?_; clear HTM1; rintro e W11 ⟨y, rfl, hy, hw11⟩)
          | (go_at_call 34; refine (HSB1.out y _ hw11 hy).mono ?_; clear HSB1; rintro e W12 ⟨rv3, rfl, hrv3, hw12⟩; have hb12 := hw11.trans (hw12.mono hw11.size)))
        go_roundw
        case rel => exact ⟨j, t - m * ql, by omega, by go_num, ⟨_, hA10.below hb12, by rw [List.length_set]; exact hql, HQB.out, HQV.out⟩, hrv3, HRM.out, hb10.trans (hb12.mono hb10.size), hgb⟩
        case measure => simp [intOf]

theorem rdivmod_any (v u : Value) (n m : Nat) (w : World) (hv : RefV w v n) (hu : RefV w u m) (hm : m ≠ 0) (l1 : (digs B6 n).length ≤ 50000) (l2 : (digs B6 m).length ≤ 50000) :
    Calls Tryd.prog 23 #[v, u] w fun e w' => ∃ x y, e = .returned (.tuple #[x, y, .int .i64 0]) ∧ RefV w' x (n / m) ∧ RefV w' y (n % m) ∧ Below w.heap.size w w' := by
  by_cases h : n < 18446744073709551616 ∧ m < 18446744073709551616
  · exact rdivmod_64 v u n m w hv hu hm h.1 h.2
  · exact rdivmod_big v u n m w hv hu hm h l1 l2

set_option maxHeartbeats 1000000 in
theorem rgcd_any : ∀ (m n : Nat) (v u : Value) (w : World), RefV w v n → RefV w u m → (digs B6 n).length ≤ 50000 → (digs B6 m).length ≤ 50000 →
    Calls Tryd.prog 25 #[v, u] w fun e w' => ∃ x, e = .returned x ∧ RefV w' x (Nat.gcd n m) ∧ Below w.heap.size w w' := by
  intro m
  induction m using Nat.strongRecOn with
  | ind m ih =>
    intro n v u w hv hu l1 l2
    obtain ⟨q, cq, rfl, _⟩ := GV.slice hu
    by_cases hm : m = 0
    · subst hm
      rw [Nat.gcd_zero_right, digs_zero]
      have HV := hid hv
      clear hv hu
      go_enter Tryd.func25, Tryd.ntmps25
      go_wp2
      go_ret
      exact ⟨_, rfl, HV.out, Below.refl _ _⟩
    · have hl : (((digs B6 m).length : Int) == 0) = false := by
        rw [beq_eq_false_iff_ne]
        intro e
        exact hm ((digs_eq_nil b6_2).1 (List.eq_nil_of_length_eq_zero (by omega)))
      have HD := hid (rdivmod_any v _ n m w hv hu hm l1 l2)
      have hlt := Nat.mod_lt n (Nat.pos_of_ne_zero hm)
      have HI := hid (fun (x : Value) (w1 : World) (hb : Below w.heap.size w w1) (h : RefV w1 x (n % m)) => ih (n % m) hlt m _ x w1 (hu.below hb) h l2 (digs6_mono (Nat.le_of_lt hlt) l2))
      have HG := hid (show Nat.gcd m (n % m) = Nat.gcd n m from gcd_step n m)
      obtain ⟨lm, hlm⟩ : ∃ lm, (digs B6 m).length = lm := ⟨_, rfl⟩
      rw [hlm] at HD HI hl ⊢
      clear hv hu hm ih l1 l2 hlt hlm
      go_enter Tryd.func25, Tryd.ntmps25
      go_wp2_with (first
        | (go_at_call 23; refine HD.out.mono ?_; clear HD; rintro e w1 ⟨x, y, rfl, hx, hy, hw1⟩)
        | (go_at_call 25; refine (HI.out y w1 hw1 hy).mono ?_; clear HI; rintro e w2 ⟨z, rfl, hz, hw2⟩))
      go_ret
      exact ⟨_, rfl, by rw [← HG.out]; exact hz, hw1.trans (hw2.mono hw1.size)⟩

end Go.Proofs.YtepljhpamconbaaDoor
