/- The reference: Add, Make. -/
import Derived.Test.YtepljhpamconbaaDoorNatRC
namespace Go.Proofs.YtepljhpamconbaaDoor
open Go.RowKit

/-- A new block of groups, known whole. -/
def ArrI (W : World) (D : Nat) (xs : List Nat) : Prop := W.heap[D]? = some (.cells (xs.map iCell).toArray 3 (0, 0))
theorem ArrI.lt {W : World} {D : Nat} {xs : List Nat} (h : ArrI W D xs) : D < W.heap.size := (Array.getElem?_eq_some_iff.1 h).1
theorem ArrI.cell {W : World} {D : Nat} {xs : List Nat} (h : ArrI W D xs) (k : Nat) (hk : k < xs.length) : W.cell? ⟨D, k, none⟩ = some (.int .i64 (xs[k] : Int)) := by
  unfold World.cell?; rw [show W.heap[(⟨D, k, none⟩ : Addr).block]? = _ from h]; simp [hk, iCell]
theorem ArrI.free {W : World} {D : Nat} {xs : List Nat} (h : ArrI W D xs) : ∀ o, W.frozen? ⟨D, o, none⟩ = false := by
  intro o; unfold World.frozen?; rw [show W.heap[(⟨D, o, none⟩ : Addr).block]? = _ from h]; simp
theorem ArrI.below {W W' : World} {D : Nat} {xs : List Nat} (h : ArrI W D xs) (hb : Below W.heap.size W W') : ArrI W' D xs := (hb.block _ h.lt).trans h
theorem ArrI.store {W : World} {D : Nat} {xs : List Nat} (h : ArrI W D xs) (k v : Nat) : ArrI (W.setCell ⟨D, k, none⟩ (.int .i64 (v : Int))) D (xs.set k v) := by
  unfold ArrI
  rw [heap_setCell_at h]
  simp [List.map_set, iCell]
theorem ArrI.gv {W : World} {D : Nat} {xs : List Nat} (h : ArrI W D xs) (hl : xs.length ≤ maxLen) : GV W (.slice (some ⟨D, 0, none⟩) xs.length xs.length) xs :=
  .inr ⟨D, _, rfl, ⟨h.lt, h.cell⟩, Nat.le_refl _, hl⟩
theorem ari_made {W : World} {base g n : Nat} (h : W.ownsRow base 3 1 (.slice (some ⟨g, 0, none⟩) n n) n (madeCells (Value.int .i64 0).cells (n * 1)).toList) : ArrI W g (List.replicate n 0) := by
  rcases h.2 with ⟨e, _⟩ | ⟨g', cap, cur, e, _, hg, _, _, hs, ht⟩
  · cases e
  · injection e with e1 _ e3
    injection e1 with e1
    injection e1 with e1
    subst e1 e3
    have h1 : cur.toList = List.replicate n (Value.int .i64 0) := by
      have h2 : (madeCells (Value.int .i64 0).cells (n * 1)).toList = List.replicate n (.int .i64 0) := by
        rw [Nat.mul_one]; exact toList_madeCells_one _ n
      rw [h2, List.take_of_length_le (by rw [Array.length_toList, hs]; omega)] at ht
      exact ht
    unfold ArrI
    rw [hg]
    congr 2
    rw [← Array.toArray_toList (xs := cur), h1, List.map_replicate]
    rfl
theorem val_set_add {B : Nat} : ∀ (ys : List Nat) (k x : Nat) (h : k < ys.length), val B (ys.set k (ys[k] + x)) = val B ys + B ^ k * x
  | y :: ys, 0, x, _ => by simp only [List.set_cons_zero, val, List.getElem_cons_zero, Nat.pow_zero]; omega
  | y :: ys, k + 1, x, h => by
    simp only [List.set_cons_succ, val, List.getElem_cons_succ, val_set_add ys k x (by simpa using h), Nat.pow_succ]
    rw [Nat.mul_add, Nat.mul_comm (B ^ k) B, Nat.mul_assoc]; omega
/-- The state of a loop that adds groups to a row: k of xs are added; V stood there before, no place above M. -/
structure RAdd (W0 : World) (D L V M : Nat) (xs : List Nat) (k : Nat) (wr : World) : Prop where
  arr : ∃ ys, ArrI wr D ys ∧ ys.length = L ∧ (∀ y ∈ ys, y ≤ M + 1000000 * k) ∧ val B6 ys = V + val B6 (xs.take k)
  old : Below D W0 wr
theorem RAdd.step {W0 wr w' : World} {D L V M : Nat} {xs ys : List Nat} {k x y : Nat} (h : RAdd W0 D L V M xs k wr) (ha : ArrI w' D ys) (hb : Below wr.heap.size wr w') (hyl : ys.length = L) (hym : ∀ y ∈ ys, y ≤ M + 1000000 * k) (hyv : val B6 ys = V + val B6 (xs.take k))
    (hk : k < xs.length) (hL : xs.length ≤ L) (hx : xs[k] = x) (hx1 : x < 1000000) (hy : ys[k]'(by omega) = y) : RAdd W0 D L V M xs (k + 1) (w'.setCell ⟨D, k, none⟩ (.int .i64 ((y + x : Nat) : Int))) := by
  have hD : D ≤ wr.heap.size := by
    obtain ⟨zs, h1, _⟩ := h.arr
    exact Nat.le_of_lt h1.lt
  refine ⟨⟨ys.set k (y + x), ha.store _ _, by simpa using hyl, fun z hz => ?_, ?_⟩, (h.old.trans (hb.mono hD)).setCell (p := ⟨D, k, none⟩) (Nat.le_refl _) _⟩
  · rcases List.mem_or_eq_of_mem_set hz with h1 | h1
    · have := hym z h1; omega
    · have := hym y (hy ▸ List.getElem_mem _); omega
  · rw [← hy, val_set_add ys k x (by omega), hyv, val_take_succ hk, hx]; omega

set_option maxRecDepth 100000 in
set_option maxHeartbeats 4000000 in
theorem radd_any (v u : Value) (n m : Nat) (w : World) (hv : RefV w v n) (hu : RefV w u m) (h1 : (digs B6 n).length ≤ 100000) (h2 : (digs B6 m).length ≤ 100000) :
    Calls Tryd.prog 35 #[v, u] w fun e w' => ∃ v', e = .returned v' ∧ RefV w' v' (n + m) ∧ Below w.heap.size w w' := by
  obtain ⟨i0, hi, hz0, hz1, hz2⟩ := info_parts infoI
  obtain ⟨p, cp, rfl, hpg⟩ := GV.slice hv
  obtain ⟨q, cq, rfl, hqg⟩ := GV.slice hu
  have HPG := hid hpg
  have HQG := hid hqg
  have HXB := hid (digs_lt b6_2 n)
  have HYB := hid (digs_lt b6_2 m)
  have HVN := hid (val_digs b6_2 n)
  have HVM := hid (val_digs b6_2 m)
  obtain ⟨xs, hxs⟩ : ∃ xs, digs B6 n = xs := ⟨_, rfl⟩
  obtain ⟨ys, hys⟩ : ∃ ys, digs B6 m = ys := ⟨_, rfl⟩
  rw [hxs] at HPG HXB HVN h1 ⊢
  rw [hys] at HQG HYB HVM h2 ⊢
  clear hv hpg hxs hu hqg hys
  obtain ⟨L, hL, hL1, hL2, hL3⟩ : ∃ L : Nat, max (xs.length : Int) (ys.length : Int) = (L : Int) ∧ xs.length ≤ L ∧ ys.length ≤ L ∧ L ≤ 100000 := ⟨max xs.length ys.length, by omega, by omega, by omega, by omega⟩
  go_enter Tryd.func35, Tryd.ntmps35
  go_upto_region 2 with (at_make; go_loud (refine wpList_make_full _ rfl _ _ _ rfl w.heap.size 3 i0 _ 1 Tryd.underlying27 hi hz0 hz1 _ _ _ _ L rfl rfl (by simp) (by simp) (by rw [hz2]; omega) (by unfold maxLen; omega) (Nat.le_refl _) ?_; intro w2 hown hgr; have hb2 : Below w.heap.size w w2 := (Below.refl _ w).grown hgr (Nat.le_refl _) (by simp); have hA := ari_made hown; clear hown hgr))
  clear hL
  have hat0 : RAdd w w.heap.size L 0 0 xs 0 w2 := ⟨⟨_, hA, by simp, fun y hy => by rw [List.eq_of_mem_replicate hy]; omega, by simp [val, val_replicate]⟩, hb2⟩
  clear hA hb2
  go_wp2_with fail
  go_loopw [6] (fun i wr => ∃ k : Nat, k ≤ xs.length ∧ i = .int .i64 k ∧ RAdd w w.heap.size L 0 0 xs k wr) (fun i _ => xs.length - (intOf i).toNat)
  case atStart => exact ⟨0, Nat.zero_le _, rfl, hat0⟩
  case round =>
    clear hat0
    obtain ⟨k, hk, rfl, hat⟩ := hrel
    generalize wr = W1 at hat ⊢
    have hold := hat.old
    obtain ⟨zs, hzs, hzl, hzm, hzv⟩ := hat.arr
    by_cases hlt : k < xs.length
    · obtain ⟨g, rfl, hg, _, _⟩ := HPG.out (fun e => by subst e; simp at hlt)
      have hg1 := (hg.below hold).at0 k hlt
      have hgl := Nat.lt_of_lt_of_le hg.lt hold.size
      have hxk := HXB.out _ (List.getElem_mem hlt)
      have hzk : k < zs.length := by omega
      have hz1 := hzs.cell k hzk
      have hzm1 := hzm _ (List.getElem_mem hzk)
      have hfr := hzs.free
      have hDl := hzs.lt
      have hti : (k : Int) < (xs.length : Int) := by omega
      have HS := hid (fun w' (hb : Below W1.heap.size W1 w') => hat.step (hzs.below hb) hb hzl hzm hzv hlt hL1 rfl hxk rfl)
      obtain ⟨x, hx⟩ : ∃ x, xs[k] = x := ⟨_, rfl⟩
      obtain ⟨z, hz⟩ : ∃ z, zs[k] = z := ⟨_, rfl⟩
      rw [hx] at hg1 hxk HS
      rw [hz] at hz1 hzm1 HS
      unfold iCell at hg1
      rw [b6] at hxk
      have hkL : (k : Int) < (L : Int) := by omega
      clear hx hz hzv hat
      go_upto_region 5 with (fail)
      refine wp_region_staged (fun w' => Below W1.heap.size W1 w') [0, 0, 0, 1, 0, 0, 0, 1, 0, 0, 2] (by kernel_rfl) (by kernel_rfl) (by kernel_rfl) (by exact (Below.refl _ _).drew) ?_
      apply lexF rfl; (· intro _; go_simp; (try go_bits); exact ⟨rfl, rfl⟩); simp only [Act.put, List.setIfInBounds_toArray, List.set_cons_zero, List.set_cons_succ]
      apply lexF rfl; (· intro _; go_simp; (try go_bits); exact ⟨rfl, rfl⟩); simp only [Act.put, List.setIfInBounds_toArray, List.set_cons_zero, List.set_cons_succ]
      apply lexF rfl; (· intro _; go_simp; (try go_bits); exact ⟨rfl, rfl⟩); simp only [Act.put, List.setIfInBounds_toArray, List.set_cons_zero, List.set_cons_succ]
      apply lexH rfl; (· intro w' hw'; have hcc := cellsBelow hw'; go_simp; (try go_bits); exact ⟨rfl, hw'⟩); simp only [Act.put, List.setIfInBounds_toArray, List.set_cons_zero, List.set_cons_succ]
      apply lexF rfl; (· intro _; go_simp; (try go_bits); exact ⟨rfl, rfl⟩); simp only [Act.put, List.setIfInBounds_toArray, List.set_cons_zero, List.set_cons_succ]
      apply lexF rfl; (· intro _; go_simp; (try go_bits); exact ⟨rfl, rfl⟩); simp only [Act.put, List.setIfInBounds_toArray, List.set_cons_zero, List.set_cons_succ]
      apply lexF rfl; (· intro _; go_simp; (try go_bits); exact ⟨rfl, rfl⟩); simp only [Act.put, List.setIfInBounds_toArray, List.set_cons_zero, List.set_cons_succ]
      apply lexH rfl; (· intro w' hw'; have hcc := cellsBelow hw'; go_simp; (try go_bits); exact ⟨rfl, hw'⟩); simp only [Act.put, List.setIfInBounds_toArray, List.set_cons_zero, List.set_cons_succ]
      apply lexF rfl; (· intro _; go_simp; (try go_bits); exact ⟨rfl, rfl⟩); simp only [Act.put, List.setIfInBounds_toArray, List.set_cons_zero, List.set_cons_succ]
      apply lexF rfl; (· intro _; go_simp; (try go_bits); exact ⟨rfl, rfl⟩); simp only [Act.put, List.setIfInBounds_toArray, List.set_cons_zero, List.set_cons_succ]
      apply lexS (fun w' => RAdd w w.heap.size L 0 0 xs (k + 1) w') rfl
      · intro w' hw'
        have c0 := (hzs.below hw').cell k hzk
        have f0 := (hzs.below hw').free
        go_simp
        exact ⟨rfl, HS.out w' hw'⟩
      simp only [Act.put]
      refine lexEnd (fun W5 hw5 => ?_)
      go_wp2
      go_roundw
      case rel => exact ⟨k + 1, by omega, by go_num, hw5⟩
      case measure => simp [intOf]; omega
    · obtain rfl : k = xs.length := by omega
      skip
      have hat1 : RAdd w w.heap.size L n (1000000 * xs.length) ys 0 W1 := ⟨⟨zs, hzs, hzl, fun y hy => by have := hzm y hy; omega, by rw [hzv, List.take_length, HVN.out]; simp [val]⟩, hold⟩
      clear hat hzs hzl hzm hzv hold
      go_wp2_with fail
      go_loopw [7] (fun i wr => ∃ k : Nat, k ≤ ys.length ∧ i = .int .i64 k ∧ RAdd w w.heap.size L n (1000000 * xs.length) ys k wr) (fun i _ => ys.length - (intOf i).toNat)
      case atStart => exact ⟨0, Nat.zero_le _, rfl, hat1⟩
      case round =>
        clear hat1
        obtain ⟨k, hk, rfl, hat⟩ := hrel
        generalize wr = W2 at hat ⊢
        have hold := hat.old
        obtain ⟨zs, hzs, hzl, hzm, hzv⟩ := hat.arr
        by_cases hlt : k < ys.length
        · obtain ⟨g, rfl, hg, _, _⟩ := HQG.out (fun e => by subst e; simp at hlt)
          have hg1 := (hg.below hold).at0 k hlt
          have hgl := Nat.lt_of_lt_of_le hg.lt hold.size
          have hxk := HYB.out _ (List.getElem_mem hlt)
          have hzk : k < zs.length := by omega
          have hz1 := hzs.cell k hzk
          have hzm1 := hzm _ (List.getElem_mem hzk)
          have hfr := hzs.free
          have hDl := hzs.lt
          have hti : (k : Int) < (ys.length : Int) := by omega
          have HS := hid (fun w' (hb : Below W2.heap.size W2 w') => hat.step (hzs.below hb) hb hzl hzm hzv hlt hL2 rfl hxk rfl)
          obtain ⟨x, hx⟩ : ∃ x, ys[k] = x := ⟨_, rfl⟩
          obtain ⟨z, hz⟩ : ∃ z, zs[k] = z := ⟨_, rfl⟩
          rw [hx] at hg1 hxk HS
          rw [hz] at hz1 hzm1 HS
          unfold iCell at hg1
          rw [b6] at hxk
          have hkL : (k : Int) < (L : Int) := by omega
          clear hx hz hzv hat
          go_upto_region 9 with (fail)
          refine wp_region_staged (fun w' => Below W2.heap.size W2 w') [0, 0, 0, 1, 0, 0, 0, 1, 0, 0, 2] (by kernel_rfl) (by kernel_rfl) (by kernel_rfl) (by exact (Below.refl _ _).drew) ?_
          apply lexF rfl; (· intro _; go_simp; (try go_bits); exact ⟨rfl, rfl⟩); simp only [Act.put, List.setIfInBounds_toArray, List.set_cons_zero, List.set_cons_succ]
          apply lexF rfl; (· intro _; go_simp; (try go_bits); exact ⟨rfl, rfl⟩); simp only [Act.put, List.setIfInBounds_toArray, List.set_cons_zero, List.set_cons_succ]
          apply lexF rfl; (· intro _; go_simp; (try go_bits); exact ⟨rfl, rfl⟩); simp only [Act.put, List.setIfInBounds_toArray, List.set_cons_zero, List.set_cons_succ]
          apply lexH rfl; (· intro w' hw'; have hcc := cellsBelow hw'; go_simp; (try go_bits); exact ⟨rfl, hw'⟩); simp only [Act.put, List.setIfInBounds_toArray, List.set_cons_zero, List.set_cons_succ]
          apply lexF rfl; (· intro _; go_simp; (try go_bits); exact ⟨rfl, rfl⟩); simp only [Act.put, List.setIfInBounds_toArray, List.set_cons_zero, List.set_cons_succ]
          apply lexF rfl; (· intro _; go_simp; (try go_bits); exact ⟨rfl, rfl⟩); simp only [Act.put, List.setIfInBounds_toArray, List.set_cons_zero, List.set_cons_succ]
          apply lexF rfl; (· intro _; go_simp; (try go_bits); exact ⟨rfl, rfl⟩); simp only [Act.put, List.setIfInBounds_toArray, List.set_cons_zero, List.set_cons_succ]
          apply lexH rfl; (· intro w' hw'; have hcc := cellsBelow hw'; go_simp; (try go_bits); exact ⟨rfl, hw'⟩); simp only [Act.put, List.setIfInBounds_toArray, List.set_cons_zero, List.set_cons_succ]
          apply lexF rfl; (· intro _; go_simp; (try go_bits); exact ⟨rfl, rfl⟩); simp only [Act.put, List.setIfInBounds_toArray, List.set_cons_zero, List.set_cons_succ]
          apply lexF rfl; (· intro _; go_simp; (try go_bits); exact ⟨rfl, rfl⟩); simp only [Act.put, List.setIfInBounds_toArray, List.set_cons_zero, List.set_cons_succ]
          apply lexS (fun w' => RAdd w w.heap.size L n (1000000 * xs.length) ys (k + 1) w') rfl
          · intro w' hw'
            have c0 := (hzs.below hw').cell k hzk
            have f0 := (hzs.below hw').free
            go_simp
            exact ⟨rfl, HS.out w' hw'⟩
          simp only [Act.put]
          refine lexEnd (fun W5 hw5 => ?_)
          go_wp2
          go_roundw
          case rel => exact ⟨k + 1, by omega, by go_num, hw5⟩
          case measure => simp [intOf]; omega
        · obtain rfl : k = ys.length := by omega
          skip
          rw [List.take_length, HVM.out] at hzv
          have HT := hid (carried_any _ zs W2 (hzs.gv (by unfold maxLen; omega)) (by omega) (fun y hy => by have := hzm y hy; omega))
          rw [hzv, hzl] at HT
          go_wp2_with (go_at_call 48; refine HT.out.mono ?_; clear HT; rintro e w3 ⟨v', rfl, hv', hw3⟩)
          go_ret
          exact ⟨_, rfl, hv', hold.trans (hw3.mono hold.size)⟩

end Go.Proofs.YtepljhpamconbaaDoor
