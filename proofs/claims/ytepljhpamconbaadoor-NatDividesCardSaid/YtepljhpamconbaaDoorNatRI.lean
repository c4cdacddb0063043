/- The reference: Mul. -/
import Derived.Test.YtepljhpamconbaaDoorNatRD
import Derived.Test.YtepljhpamconbaaDoorRefPlain
namespace Go.Proofs.YtepljhpamconbaaDoor
open Go.RowKit

/-- The groups while place k is being filled: i of xs are through. -/
def cvL (xs ys : List Nat) (L k i : Nat) : List Nat := (List.range L).map fun t => if t < k then cv xs ys t else if t = k then cv (xs.take i) ys k else 0
theorem cvL_len (xs ys : List Nat) (L k i : Nat) : (cvL xs ys L k i).length = L := by simp [cvL]
theorem cvL_at {xs ys : List Nat} {L k i : Nat} (h : k < L) : (cvL xs ys L k i)[k]'(by rw [cvL_len]; exact h) = cv (xs.take i) ys k := by simp [cvL]
theorem cvL_set {xs ys : List Nat} {L k i x : Nat} (hx : x = cv (xs.take (i + 1)) ys k) : (cvL xs ys L k i).set k x = cvL xs ys L k (i + 1) := by
  subst hx
  refine List.ext_getElem (by simp [cvL]) fun t h1 h2 => ?_
  rw [List.getElem_set]
  simp only [cvL, List.getElem_map, List.getElem_range]
  split
  · rename_i h; subst h; simp
  · rename_i h
    have : t ≠ k := fun e => h e.symm
    simp [this]
theorem cvL_same {xs ys : List Nat} {L k i : Nat} (h : cv (xs.take (i + 1)) ys k = cv (xs.take i) ys k) : cvL xs ys L k i = cvL xs ys L k (i + 1) := by unfold cvL; rw [h]
theorem cvL_next {xs ys : List Nat} {L k i : Nat} (h : xs.length ≤ i ∨ k < i) : cvL xs ys L k i = cvL xs ys L (k + 1) 0 := by
  unfold cvL
  refine List.map_congr_left fun t _ => ?_
  by_cases h1 : t < k
  · rw [if_pos h1, if_pos (by omega)]
  · by_cases h2 : t = k
    · rw [if_neg h1, if_pos h2, if_pos (by omega), cv_take _ _ _ _ h, h2]
    · rw [if_neg h1, if_neg h2, if_neg (by omega)]
      split
      · simp [cv]
      · rfl
theorem cvL_start (xs ys : List Nat) (L : Nat) : cvL xs ys L 0 0 = List.replicate L 0 := by
  rw [List.eq_replicate_iff]
  refine ⟨cvL_len .., fun b hb => ?_⟩
  obtain ⟨t, _, rfl⟩ := List.mem_map.1 hb
  simp [cv]
theorem cvL_end (xs ys : List Nat) (L : Nat) : cvL xs ys L L 0 = (List.range L).map (cv xs ys) := by
  unfold cvL
  refine List.map_congr_left fun t ht => ?_
  rw [if_pos (List.mem_range.1 ht)]
structure MulR (W0 : World) (D : Nat) (xs ys : List Nat) (L k i : Nat) (wr : World) : Prop where
  arr : ArrI wr D (cvL xs ys L k i)
  old : Below D W0 wr
theorem MulR.step {W0 wr w' : World} {D L : Nat} {xs ys : List Nat} {k i x y z : Nat} (h : MulR W0 D xs ys L k i wr) (hb : Below wr.heap.size wr w') (hz : cv (xs.take i) ys k = z) (hi : i < xs.length) (hx : xs[i] = x) (hy : ys.getD (k - i) 0 = y) (hik : i ≤ k) :
    MulR W0 D xs ys L k (i + 1) (w'.setCell ⟨D, k, none⟩ (.int .i64 ((z + x * y : Nat) : Int))) := by
  refine ⟨?_, (h.old.trans (hb.mono (Nat.le_of_lt h.arr.lt))).setCell (p := ⟨D, k, none⟩) (Nat.le_refl _) _⟩
  have := (h.arr.below hb).store k (z + x * y)
  rwa [cvL_set (by rw [cv_take_succ _ _ _ _ hi hik, hz, hx, hy])] at this

set_option maxRecDepth 100000 in
set_option maxHeartbeats 4000000 in
theorem rmul_any (v u : Value) (n m : Nat) (w : World) (hv : RefV w v n) (hu : RefV w u m) (h1 : (digs B6 n).length ≤ 50000) (h2 : (digs B6 m).length ≤ 50000) :
    Calls Tryd.prog 21 #[v, u] w fun e w' => ∃ v', e = .returned v' ∧ RefV w' v' (n * m) ∧ Below w.heap.size w w' := by
  obtain ⟨i0, hi, hz0, hz1, hz2⟩ := info_parts infoI
  obtain ⟨p, cp, rfl, hpg⟩ := GV.slice hv
  obtain ⟨q, cq, rfl, hqg⟩ := GV.slice hu
  have HPG := hid hpg
  have HQG := hid hqg
  have HXB := hid (digs_lt b6_2 n)
  have HYB := hid (digs_lt b6_2 m)
  have HVN := hid (val_digs b6_2 n)
  have HVM := hid (val_digs b6_2 m)
  obtain ⟨xs, hxs⟩ : ∃ xs, digs B6 n = xs := ⟨_, rfl⟩
  obtain ⟨ys, hys⟩ : ∃ ys, digs B6 m = ys := ⟨_, rfl⟩
  rw [hxs] at HPG HXB HVN h1 ⊢
  rw [hys] at HQG HYB HVM h2 ⊢
  clear hv hpg hxs hu hqg hys
  have HCB := hid (fun (zs : List Nat) k (h : ∀ a ∈ zs, a < B6) (hl : zs.length ≤ 50000) => show cv zs ys k ≤ 50000000000000000 from by
    have h3 := cv_le zs ys k 1000000 (fun a ha => Nat.le_of_lt (h a ha)) (fun a ha => Nat.le_of_lt (HYB.out a ha))
    have h4 : zs.length * (1000000 * 1000000) ≤ 50000 * (1000000 * 1000000) := Nat.mul_le_mul_right _ hl
    omega)
  go_enter Tryd.func21, Tryd.ntmps21
  go_upto_region 2 with (at_make; go_loud (refine wpList_make_full _ rfl _ _ _ rfl w.heap.size 3 i0 _ 1 Tryd.underlying27 hi hz0 hz1 _ _ _ _ (xs.length + ys.length) rfl rfl (by simp) (by simp) (by rw [hz2]; omega) (by unfold maxLen; omega) (Nat.le_refl _) ?_; intro w2 hown hgr; have hb2 : Below w.heap.size w w2 := (Below.refl _ w).grown hgr (Nat.le_refl _) (by simp); have hA := ari_made hown; clear hown hgr))
  have hat0 : MulR w w.heap.size xs ys (xs.length + ys.length) 0 0 w2 := ⟨by rw [cvL_start]; exact hA, hb2⟩
  clear hA hb2
  go_wp2_with fail
  go_loopw [6] (fun i wr => ∃ k : Nat, k ≤ xs.length + ys.length ∧ i = .int .i64 k ∧ MulR w w.heap.size xs ys (xs.length + ys.length) k 0 wr) (fun i _ => xs.length + ys.length - (intOf i).toNat)
  case atStart => exact ⟨0, Nat.zero_le _, rfl, hat0⟩
  case round =>
    clear hat0
    obtain ⟨k, hk, rfl, hat⟩ := hrel
    generalize wr = W1 at hat ⊢
    by_cases hlt : k < xs.length + ys.length
    · have hti : (k : Int) < ((xs.length + ys.length : Nat) : Int) := by omega
      have HAT := hid hat
      clear hat
      go_upto_region 5 with (fail)
      go_wp2_with fail
      go_loopw [7] (fun iv wr => ∃ i : Nat, i ≤ xs.length ∧ iv = .int .i64 i ∧ MulR w w.heap.size xs ys (xs.length + ys.length) k i wr) (fun iv _ => xs.length - (intOf iv).toNat)
      case atStart => exact ⟨0, Nat.zero_le _, rfl, HAT.out⟩
      case round =>
        clear HAT
        obtain ⟨i, hix, rfl, hat⟩ := hrel
        generalize wr = W2 at hat ⊢
        by_cases hik : i ≤ k
        · have hiki : (i : Int) ≤ (k : Int) := by omega
          by_cases hil : i < xs.length
          · have hili : (i : Int) < (xs.length : Int) := by omega
            obtain ⟨j, hj⟩ : ∃ j, j = k - i := ⟨_, rfl⟩
            have ej : (k : Int) - (i : Int) = (j : Int) := by omega
            by_cases hjl : j < ys.length
            · have hjli : (j : Int) < (ys.length : Int) := by omega
              have hold := hat.old
              obtain ⟨g, rfl, hg, _, _⟩ := HPG.out (fun e => by subst e; simp at hil)
              obtain ⟨g', rfl, hg', _, _⟩ := HQG.out (fun e => by subst e; simp at hjl)
              have hg1 := (hg.below hold).at0 i hil
              have hg2 := (hg'.below hold).at0 j hjl
              have hgl := Nat.lt_of_lt_of_le hg.lt hold.size
              have hgl' := Nat.lt_of_lt_of_le hg'.lt hold.size
              have hxk := HXB.out _ (List.getElem_mem hil)
              have hyk := HYB.out _ (List.getElem_mem hjl)
              have hzl : k < (cvL xs ys (xs.length + ys.length) k i).length := by rw [cvL_len]; exact hlt
              have hzc := hat.arr.cell k hzl
              rw [cvL_at hlt] at hzc
              have hfr := hat.arr.free
              have hDl := hat.arr.lt
              have hzb := HCB.out (xs.take i) k (fun a ha => HXB.out a (List.mem_of_mem_take ha)) (by rw [List.length_take]; omega)
              obtain ⟨x, hx⟩ : ∃ x, xs[i] = x := ⟨_, rfl⟩
              obtain ⟨y, hy⟩ : ∃ y, ys[j] = y := ⟨_, rfl⟩
              obtain ⟨z, hz⟩ : ∃ z, cv (xs.take i) ys k = z := ⟨_, rfl⟩
              have HA := hid hat.arr
              have HS := hid (fun w' (hb : Below W2.heap.size W2 w') => hat.step hb hz hil hx (show ys.getD (k - i) 0 = y by rw [← hj, ← hy, List.getD_eq_getElem?_getD, List.getElem?_eq_getElem hjl]; rfl) hik)
              rw [hx] at hg1 hxk
              rw [hy] at hg2 hyk
              rw [hz] at hzc hzb
              unfold iCell at hg1 hg2
              rw [b6] at hxk hyk
              have hm1 : x * y ≤ 1000000 * 1000000 := Nat.mul_le_mul (by omega) (by omega)
              obtain ⟨t, ht, ht2⟩ : ∃ t : Nat, x * y = t ∧ (x : Int) * (y : Int) = (t : Int) := ⟨_, rfl, by simp only [Int.natCast_mul]⟩
              rw [ht] at HS hm1
              have hHZ := HS
              clear hx hy hz ht hat hj HS
              go_upto_region 9 with (fail)
              refine wp_region_staged (fun w' => Below W2.heap.size W2 w') [0, 0, 0, 1, 0, 0, 0, 1, 0, 0, 0, 0, 0, 1, 0, 0, 0, 2] (by kernel_rfl) (by kernel_rfl) (by kernel_rfl) (by exact (Below.refl _ _).drew) ?_
              apply lexF rfl; (· intro _; go_simp; (try go_bits); exact ⟨rfl, rfl⟩); simp only [Act.put, List.setIfInBounds_toArray, List.set_cons_zero, List.set_cons_succ]
              apply lexF rfl; (· intro _; go_simp; (try go_bits); exact ⟨rfl, rfl⟩); simp only [Act.put, List.setIfInBounds_toArray, List.set_cons_zero, List.set_cons_succ]
              apply lexF rfl; (· intro _; go_simp; (try go_bits); exact ⟨rfl, rfl⟩); simp only [Act.put, List.setIfInBounds_toArray, List.set_cons_zero, List.set_cons_succ]
              apply lexH rfl; (· intro w' hw'; have hcc := cellsBelow hw'; go_simp; (try go_bits); exact ⟨rfl, hw'⟩); simp only [Act.put, List.setIfInBounds_toArray, List.set_cons_zero, List.set_cons_succ]
              apply lexF rfl; (· intro _; go_simp; (try go_bits); exact ⟨rfl, rfl⟩); simp only [Act.put, List.setIfInBounds_toArray, List.set_cons_zero, List.set_cons_succ]
              apply lexF rfl; (· intro _; go_simp; (try go_bits); exact ⟨rfl, rfl⟩); simp only [Act.put, List.setIfInBounds_toArray, List.set_cons_zero, List.set_cons_succ]
              apply lexF rfl; (· intro _; go_simp; (try go_bits); exact ⟨rfl, rfl⟩); simp only [Act.put, List.setIfInBounds_toArray, List.set_cons_zero, List.set_cons_succ]
              apply lexH rfl; (· intro w' hw'; have hcc := cellsBelow hw'; go_simp; (try go_bits); exact ⟨rfl, hw'⟩); simp only [Act.put, List.setIfInBounds_toArray, List.set_cons_zero, List.set_cons_succ]
              apply lexF rfl; (· intro _; go_simp; (try go_bits); exact ⟨rfl, rfl⟩); simp only [Act.put, List.setIfInBounds_toArray, List.set_cons_zero, List.set_cons_succ]
              apply lexF rfl; (· intro _; go_simp; (try go_bits); exact ⟨rfl, rfl⟩); simp only [Act.put, List.setIfInBounds_toArray, List.set_cons_zero, List.set_cons_succ]
              apply lexF rfl; (· intro _; go_simp; (try go_bits); exact ⟨rfl, rfl⟩); simp only [Act.put, List.setIfInBounds_toArray, List.set_cons_zero, List.set_cons_succ]
              apply lexF rfl; (· intro _; go_simp; (try go_bits); exact ⟨rfl, rfl⟩); simp only [Act.put, List.setIfInBounds_toArray, List.set_cons_zero, List.set_cons_succ]
              apply lexF rfl; (· intro _; go_simp; (try go_bits); exact ⟨rfl, rfl⟩); simp only [Act.put, List.setIfInBounds_toArray, List.set_cons_zero, List.set_cons_succ]
              apply lexH rfl; (· intro w' hw'; have hcc := cellsBelow hw'; go_simp; (try go_bits); exact ⟨rfl, hw'⟩); simp only [Act.put, List.setIfInBounds_toArray, List.set_cons_zero, List.set_cons_succ]
              apply lexF rfl; (· intro _; go_simp; (try go_bits); exact ⟨rfl, rfl⟩); simp only [Act.put, List.setIfInBounds_toArray, List.set_cons_zero, List.set_cons_succ]
              apply lexF rfl; (· intro _; go_simp; (try go_bits); exact ⟨rfl, rfl⟩); simp only [Act.put, List.setIfInBounds_toArray, List.set_cons_zero, List.set_cons_succ]
              apply lexF rfl; (· intro _; go_simp; (try go_bits); exact ⟨rfl, rfl⟩); simp only [Act.put, List.setIfInBounds_toArray, List.set_cons_zero, List.set_cons_succ]
              apply lexS (fun w' => MulR w w.heap.size xs ys (xs.length + ys.length) k (i + 1) w') rfl
              · intro w' hw'
                have c0 := (HA.out.below hw').cell k hzl
                have f0 := (HA.out.below hw').free
                go_simp
                exact ⟨rfl, hHZ.out w' hw'⟩
              simp only [Act.put]
              refine lexEnd (fun W5 hw5 => ?_)
              go_wp2
              go_roundw
              case rel => exact ⟨i + 1, by omega, by go_num, hw5⟩
              case measure => simp [intOf]; omega
            · have hjli : ¬ (j : Int) < (ys.length : Int) := by omega
              have hs : cv (xs.take (i + 1)) ys k = cv (xs.take i) ys k := by
                rw [cv_take_succ _ _ _ _ hil hik, List.getD_eq_getElem?_getD, List.getElem?_eq_none (by omega)]; simp
              have hat2 : MulR w w.heap.size xs ys (xs.length + ys.length) k (i + 1) W2 := ⟨by rw [← cvL_same hs]; exact hat.arr, hat.old⟩
              clear hs hat hj
              go_wp2
              go_roundw
              case rel => exact ⟨i + 1, by omega, by go_num, hat2⟩
              case measure => simp [intOf]; omega
          · have hili : ¬ (i : Int) < (xs.length : Int) := by omega
            have hat2 : MulR w w.heap.size xs ys (xs.length + ys.length) (k + 1) 0 W2 := ⟨by rw [← cvL_next (i := i) (.inl (by omega))]; exact hat.arr, hat.old⟩
            clear hat
            go_wp2
            go_roundw
            case rel => exact ⟨k + 1, by omega, by go_num, hat2⟩
            case measure => simp [intOf]; omega
        · have hiki : ¬ (i : Int) ≤ (k : Int) := by omega
          have hat2 : MulR w w.heap.size xs ys (xs.length + ys.length) (k + 1) 0 W2 := ⟨by rw [← cvL_next (i := i) (.inr (by omega))]; exact hat.arr, hat.old⟩
          clear hat
          go_wp2
          go_roundw
          case rel => exact ⟨k + 1, by omega, by go_num, hat2⟩
          case measure => simp [intOf]; omega
    · obtain rfl : k = xs.length + ys.length := by omega
      have hold := hat.old
      have harr := hat.arr
      rw [cvL_end] at harr
      have hge : (List.map (cv xs ys) (List.range (xs.length + ys.length))).length = xs.length + ys.length := by simp
      have hgv := harr.gv (by rw [hge]; unfold maxLen; omega)
      rw [hge] at hgv
      have HT := hid (carried_any _ _ W1 hgv (by rw [hge]; omega) (fun y hy => by
        obtain ⟨t, _, rfl⟩ := List.mem_map.1 hy
        have := HCB.out xs t HXB.out h1
        omega))
      rw [val_cv xs ys _ (by omega) (by omega), HVN.out, HVM.out] at HT
      clear hge hgv harr hat
      have hti : ¬ ((xs.length + ys.length : Nat) : Int) < ((xs.length + ys.length : Nat) : Int) := by omega
      go_wp2_with (go_at_call 48; refine HT.out.mono ?_; clear HT; rintro e w3 ⟨v', rfl, hv', hw3⟩)
      go_ret
      exact ⟨_, rfl, hv', hold.trans (hw3.mono hold.size)⟩

end Go.Proofs.YtepljhpamconbaaDoor
