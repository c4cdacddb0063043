/- The reference: Uint64, Bits. -/
import Derived.Test.YtepljhpamconbaaDoorNatRG
namespace Go.Proofs.YtepljhpamconbaaDoor
open Go.RowKit

theorem bitsN_le : ∀ (k n : Nat), n < 2 ^ k → bitsN n ≤ k
  | 0, n, h => by
    have : n = 0 := by simpa using h
    subst this; rw [bitsN_zero]; exact Nat.le_refl _
  | k + 1, n, h => by
    by_cases h0 : n = 0
    · subst h0; rw [bitsN_zero]; omega
    · rw [bitsN_pos h0]
      have := bitsN_le k (n / 2) (by rw [Nat.pow_succ] at h; omega)
      omega
theorem bits6_le {n L : Nat} (h : (digs B6 n).length ≤ L) : bitsN n ≤ 20 * L := by
  refine bitsN_le _ _ ?_
  have h1 := val_lt b6_2 (digs_lt b6_2 n)
  rw [val_digs b6_2] at h1
  refine Nat.lt_of_lt_of_le h1 (Nat.le_trans (Nat.pow_le_pow_right (by decide) h) ?_)
  rw [Nat.pow_mul]
  exact Nat.pow_le_pow_left (by decide) _

set_option maxRecDepth 100000 in
set_option maxHeartbeats 2000000 in
theorem ruint_any (v : Value) (n : Nat) (w : World) (hv : RefV w v n) (h1 : (digs B6 n).length ≤ 900000) :
    Calls Tryd.prog 27 #[v] w fun e w' => e = .returned (u64V n) ∧ Below w.heap.size w w' := by
  obtain ⟨p, cp, rfl, hpg⟩ := GV.slice hv
  have HPG := hid hpg
  have HXB := hid (digs_lt b6_2 n)
  have HVN := hid (val_digs b6_2 n)
  obtain ⟨xs, hxs⟩ : ∃ xs, digs B6 n = xs := ⟨_, rfl⟩
  rw [hxs] at HPG HXB HVN h1 ⊢
  obtain ⟨u, hu⟩ : ∃ u, u64V n = u := ⟨_, rfl⟩
  have HU := hid hu
  rw [hu]
  clear hv hpg hxs hu
  go_enter Tryd.func27, Tryd.ntmps27
  go_wp2_with fail
  go_loopw [4, 5] (fun nv i wr => ∃ k T : Nat, k ≤ xs.length ∧ i = .int .i64 ((k : Int) - 1) ∧ nv = .int .u64 (T : Int) ∧ T < 18446744073709551616 ∧ RowKit.Hid (T = val B6 (xs.drop k)) ∧ Below w.heap.size w wr) (fun _ i _ => (intOf i + 1).toNat)
  case atStart => exact ⟨xs.length, 0, Nat.le_refl _, rfl, rfl, by omega, hid (by rw [List.drop_length]; rfl), Below.refl _ _⟩
  case round =>
    obtain ⟨k, T, hk, rfl, rfl, hT, HT, hbw⟩ := hrel
    generalize wr = W1 at hbw ⊢
    by_cases hk0 : k = 0
    · subst hk0
      have HE := hid (show u = .tuple #[.int .u64 (T : Int), .bool true] by
        have e : T = n := by have := HT.out; rw [List.drop_zero] at this; rw [this, HVN.out]
        rw [← HU.out]; unfold u64V; rw [← e, if_pos hT, decide_eq_true hT])
      go_wp2
      go_ret2
      exact ⟨HE.out.symm ▸ rfl, hbw⟩
    · obtain ⟨j, rfl⟩ : ∃ j, k = j + 1 := ⟨k - 1, by omega⟩
      have hj : j < xs.length := by omega
      have ei : (((j + 1 : Nat) : Int) - 1) = (j : Int) := by omega
      rw [ei]
      clear ei
      obtain ⟨g, rfl, hg, _, _⟩ := HPG.out (fun e => by subst e; simp at hj)
      have g0 := (hg.below hbw).at0 j hj
      unfold iCell at g0
      have gl := Nat.lt_of_lt_of_le hg.lt hbw.size
      have q0 : 0 ≤ (j : Int) := by omega
      have hx1 := HXB.out _ (List.getElem_mem hj)
      rw [b6] at hx1
      obtain ⟨x, hx⟩ : ∃ x, xs[j] = x := ⟨_, rfl⟩
      have HN := hid (show x + 1000000 * T = val B6 (xs.drop j) by rw [val_drop hj, ← HT.out, hx, b6])
      rw [hx] at g0 hx1
      clear hx
      by_cases hbig : (18446744073709551615 - x) / 1000000 < T
      · have HE := hid (show u = .tuple #[.int .u64 0, .bool false] by
          have e : ¬ n < 18446744073709551616 := by
            have h3 := val_take_drop (B := B6) xs j (by omega)
            rw [HVN.out, ← HN.out] at h3
            have h4 : 1 * (x + 1000000 * T) ≤ B6 ^ j * (x + 1000000 * T) := Nat.mul_le_mul_right _ (Nat.pow_pos (by decide))
            omega
          rw [← HU.out]; unfold u64V; rw [if_neg e, decide_eq_false e])
        have q : (18446744073709551615 - (x : Int)) / 1000000 < (T : Int) := by omega
        clear hbig
        go_wp2
        go_ret2
        exact ⟨HE.out.symm ▸ rfl, hbw⟩
      · have q : ¬ (18446744073709551615 - (x : Int)) / 1000000 < (T : Int) := by omega
        have hb : x + 1000000 * T < 18446744073709551616 := by omega
        have hbi : (T : Int) * 1000000 + (x : Int) ≤ 18446744073709551615 := by omega
        clear hbig
        go_upto_region 8 with (fail)
        have e2 : (T : Int) * 1000000 + (x : Int) = ((x + 1000000 * T : Nat) : Int) := by omega
        obtain ⟨t, ht⟩ : ∃ t, x + 1000000 * T = t := ⟨_, rfl⟩
        rw [ht] at hb e2 HN
        clear q ht
        go_wp2
        go_roundw
        case rel => exact ⟨j, t, by omega, by go_num, rfl, hb, HN, hbw⟩
        case measure => simp [intOf]

/-- The state of the loop that halves: the places from k on are done, odd is carried. -/
structure HalfAt (W0 : World) (D L : Nat) (xs : List Nat) (k od : Nat) (wr : World) : Prop where
  arr : ∃ ys, ArrI wr D ys ∧ ys.length = L ∧ (∀ y ∈ ys, y < B6) ∧ val B6 (ys.drop k) * 2 + od = val B6 (xs.drop k)
  old : Below D W0 wr
  o1 : od ≤ 1
theorem HalfAt.step {W0 wr : World} {D L : Nat} {xs : List Nat} {j od x : Nat} (h : HalfAt W0 D L xs (j + 1) od wr) (hL : xs.length = L) (hj : j < xs.length) (hx : xs[j] = x) (hx1 : x < 1000000) :
    HalfAt W0 D L xs j ((od * 1000000 + x) % 2) (wr.setCell ⟨D, j, none⟩ (.int .i64 (((od * 1000000 + x) / 2 : Nat) : Int))) := by
  have ho := h.o1
  obtain ⟨⟨ys, h1, h2, h3, h4⟩, h5, _⟩ := h
  refine ⟨⟨ys.set j ((od * 1000000 + x) / 2), h1.store _ _, by simpa using h2, all_set h3 (by rw [b6]; omega), ?_⟩, h5.setCell (p := ⟨D, j, none⟩) (Nat.le_refl _) _, by omega⟩
  rw [val_drop_set (by omega), val_drop hj, hx, ← h4, b6]
  omega

set_option maxRecDepth 100000 in
set_option maxHeartbeats 4000000 in
theorem rbits_any (v : Value) (n : Nat) (w : World) (hv : RefV w v n) (h1 : (digs B6 n).length ≤ 900000) :
    Calls Tryd.prog 31 #[v] w fun e w' => e = .returned (.int .i64 (bitsN n : Nat)) ∧ Below w.heap.size w w' := by
  obtain ⟨i0, hi, hz0, hz1, hz2⟩ := info_parts infoI
  have hbn := bits6_le h1
  obtain ⟨bn, hbe⟩ : ∃ bn, bitsN n = bn := ⟨_, rfl⟩
  rw [hbe] at hbn ⊢
  have HB := hid hbe
  clear hbe
  go_enter Tryd.func31, Tryd.ntmps31
  go_wp2_with fail
  go_loopw [0, 3] (fun av nv wr => ∃ m k : Nat, nv = .int .i64 (k : Int) ∧ RefV wr av m ∧ (digs B6 m).length ≤ 900000 ∧ RowKit.Hid (bn = k + bitsN m) ∧ Below w.heap.size w wr) (fun _ nv _ => bn - (intOf nv).toNat)
  case atStart => exact ⟨n, 0, rfl, hv, h1, hid (by rw [Nat.zero_add, HB.out]), Below.refl _ _⟩
  case round =>
    clear hv h1
    obtain ⟨m, k, rfl, hv, h1, HK, hold⟩ := hrel
    generalize wr = W1 at hv hold ⊢
    generalize u0 = a at hv ⊢
    obtain ⟨p, cp, rfl, hpg⟩ := GV.slice hv
    have HPG := hid hpg
    have HXB := hid (digs_lt b6_2 m)
    have HVM := hid (val_digs b6_2 m)
    have hnil := digs_eq_nil b6_2 (n := m)
    obtain ⟨xs, hxs⟩ : ∃ xs, digs B6 m = xs := ⟨_, rfl⟩
    rw [hxs] at HPG HXB HVM h1 hnil ⊢
    clear hv hpg hxs
    by_cases hm0 : m = 0
    · subst hm0
      obtain rfl : xs = [] := hnil.2 rfl
      have HE := hid (show bn = k by rw [HK.out, bitsN_zero]; rfl)
      go_wp2
      go_ret
      exact ⟨by rw [HE.out]; rfl, hold⟩
    · have hl0 : 0 < xs.length := List.length_pos_iff.2 fun e => hm0 (hnil.1 e)
      have hl0i : (0 : Int) < (xs.length : Int) := by omega
      have HK2 := hid (show bn = (k + 1) + bitsN (m / 2) by rw [HK.out, bitsN_pos hm0]; omega)
      have hkb : k < bn := by have := HK2.out; omega
      clear hnil hm0 HK
      go_upto_region 4 with (at_make; go_loud (refine wpList_make_full _ rfl _ _ _ rfl W1.heap.size 3 i0 _ 1 Tryd.underlying27 hi hz0 hz1 _ _ _ _ xs.length rfl rfl (by simp) (by simp) (by rw [hz2]; omega) (by unfold maxLen; omega) (Nat.le_refl _) ?_; intro w2 hown hgr; have hb2 : Below W1.heap.size W1 w2 := (Below.refl _ W1).grown hgr (Nat.le_refl _) (by simp); have hA := ari_made hown; clear hown hgr))
      have hat0 : HalfAt W1 W1.heap.size xs.length xs xs.length 0 w2 := ⟨⟨_, hA, by simp, fun y hy => by rw [List.eq_of_mem_replicate hy]; decide, by simp [val]⟩, hb2, by omega⟩
      clear hA hb2
      go_wp2_with fail
      go_loopw [5, 6] (fun ov i wr => ∃ j od : Nat, j ≤ xs.length ∧ i = .int .i64 ((j : Int) - 1) ∧ ov = .int .i64 (od : Int) ∧ HalfAt W1 W1.heap.size xs.length xs j od wr) (fun _ i _ => (intOf i + 1).toNat)
      case atStart => exact ⟨xs.length, 0, Nat.le_refl _, rfl, rfl, hat0⟩
      case round =>
        clear hat0
        obtain ⟨j', od, hj', rfl, rfl, hat⟩ := hrel
        generalize wr = W2 at hat ⊢
        have hod := hat.o1
        by_cases hj0 : j' = 0
        · subst hj0
          obtain ⟨ys, harr, hyl, hyb, hyv⟩ := hat.arr
          have hold2 := hold.trans (hat.old.mono hold.size)
          rw [List.drop_zero, List.drop_zero, HVM.out] at hyv
          have HT := hid (without_any _ ys W2 (harr.gv (by unfold maxLen; omega)) (by omega))
          rw [hyl, ← digs_val b6_2 hyb, show val B6 ys = m / 2 by omega] at HT
          have HLL := hid (show (digs B6 (m / 2)).length ≤ 900000 from by
            have h3 : m / 2 < B6 ^ xs.length := by
              have := val_lt b6_2 HXB.out
              rw [HVM.out] at this
              omega
            exact Nat.le_trans (digs_len_le b6_2 _ _ h3) h1)
          clear harr hat hyv
          go_wp2_with (go_at_call 47; refine HT.out.mono ?_; clear HT; rintro e w3 ⟨v', rfl, hv', hw3⟩)
          go_roundw
          case rel => exact ⟨m / 2, k + 1, by go_num, hv', HLL.out, HK2, hold2.trans (hw3.mono hold2.size)⟩
          case measure => simp [intOf]; omega
        · obtain ⟨j, rfl⟩ : ∃ j, j' = j + 1 := ⟨j' - 1, by omega⟩
          have hj : j < xs.length := by omega
          have ei : (((j + 1 : Nat) : Int) - 1) = (j : Int) := by omega
          rw [ei]
          clear ei
          obtain ⟨g, rfl, hg, _, _⟩ := HPG.out (fun e => by subst e; simp at hj)
          obtain ⟨ys, harr, hyl, hyb, hyv⟩ := hat.arr
          have g0 := (hg.below hat.old).at0 j hj
          unfold iCell at g0
          have gl := Nat.lt_of_lt_of_le hg.lt hat.old.size
          have q0 : 0 ≤ (j : Int) := by omega
          have hx1 := HXB.out _ (List.getElem_mem hj)
          rw [b6] at hx1
          obtain ⟨x, hx⟩ : ∃ x, xs[j] = x := ⟨_, rfl⟩
          rw [hx] at g0 hx1
          have HS := hid (hat.step rfl hj hx hx1)
          have hfr := harr.free
          have hDl := harr.lt
          have c0 := harr.cell j (by omega)
          obtain ⟨z, hz⟩ : ∃ z, ys[j]'(by omega) = z := ⟨_, rfl⟩
          rw [hz] at c0
          obtain ⟨t, ht, ht2⟩ : ∃ t : Nat, od * 1000000 + x = t ∧ (od : Int) * 1000000 + (x : Int) = (t : Int) := ⟨_, rfl, by omega⟩
          have htb : t ≤ 1999999 := by omega
          rw [ht] at HS
          clear hx hz ht hat harr hyv hyb hyl
          go_wp2
          go_roundw
          case rel => exact ⟨j, t % 2, by omega, by go_num, rfl, HS.out⟩
          case measure => simp [intOf]
end Go.Proofs.YtepljhpamconbaaDoor
