/- Mul. -/
import Derived.Test.YtepljhpamconbaaDoorNatF
namespace Go.Proofs.YtepljhpamconbaaDoor
open Go.RowKit

/-- The state of Mul's outer loop: i digits of the first number are done. -/
structure MulAt (W0 : World) (D : Nat) (ds es : List Nat) (i : Nat) (wr : World) : Prop where
  arr : ∃ xs : List Nat, Arr wr D xs ∧ xs.length = ds.length + es.length ∧ (∀ x ∈ xs, x < B32) ∧ val B32 (xs.take (i + es.length)) = val B32 (ds.take i) * val B32 es
  old : Below D W0 wr
/-- The state of Mul's inner loop: k digits of the second number are done, cy is carried. -/
structure MulIn (W0 : World) (D : Nat) (ds es : List Nat) (i x k cy : Nat) (wr : World) : Prop where
  arr : ∃ xs xs0 : List Nat, Arr wr D xs ∧ xs.length = ds.length + es.length ∧ (∀ x ∈ xs, x < B32) ∧ xs0.length = xs.length ∧ val B32 (xs0.take (i + es.length)) = val B32 (ds.take i) * val B32 es ∧
    xs.drop (i + k) = xs0.drop (i + k) ∧ val B32 (xs.take (i + k)) + B32 ^ (i + k) * cy = val B32 (xs0.take (i + k)) + B32 ^ i * (x * val B32 (es.take k))
  old : Below D W0 wr
  cy1 : cy ≤ 4294967295
theorem arr_inj {W : World} {D : Nat} {xs ys : List Nat} (h : Arr W D xs) (h' : Arr W D ys) : xs = ys := by
  unfold Arr at h h'
  rw [h] at h'
  have e := congrArg (fun o => match o with | some (Obj.cells c _ _) => c.toList | _ => []) h'
  simp only at e
  refine List.map_inj_right (f := uCell) (fun a b hab => ?_) |>.1 e
  unfold uCell at hab
  injection hab with _ hab
  exact_mod_cast hab
theorem MulAt.start {W0 wr : World} {D : Nat} {ds es : List Nat} {i : Nat} (h : MulAt W0 D ds es i wr) (x : Nat) : MulIn W0 D ds es i x 0 0 wr := by
  obtain ⟨⟨xs, h1, h2, h3, h4⟩, h5⟩ := h
  exact ⟨⟨xs, xs, h1, h2, h3, rfl, h4, rfl, by simp [val]⟩, h5, by omega⟩
theorem mul_bound {cn x y d : Nat} (hc : cn ≤ 4294967295) (hx : x ≤ 4294967295) (hy : y ≤ 4294967295) (hd : d ≤ 4294967295) : cn + (x * y + d) ≤ 18446744073709551615 := by
  have : x * y ≤ 4294967295 * 4294967295 := Nat.mul_le_mul hx hy
  omega
theorem MulIn.step {W0 wr : World} {D : Nat} {ds es : List Nat} {i x k cn y d : Nat} (h : MulIn W0 D ds es i x k cn wr) (hk : k < es.length) (hi : i < ds.length) (hy : es[k] = y) (hx1 : x ≤ 4294967295) (hy1 : y ≤ 4294967295) (hd : ∀ xs, Arr wr D xs → ∀ h : i + k < xs.length, xs[i + k] = d) (hd1 : d ≤ 4294967295) :
    MulIn W0 D ds es i x (k + 1) ((cn + (x * y + d)) / 4294967296) (wr.setCell ⟨D, i + k, none⟩ (.int .u32 (((cn + (x * y + d)) % 4294967296 : Nat) : Int))) := by
  have hcy := h.cy1
  obtain ⟨⟨xs, xs0, h1, h2, h3, h4, h5, h6, h7⟩, h8, h9⟩ := h
  have hlt : i + k < xs.length := by omega
  have hlt0 : i + k < xs0.length := by omega
  have hdd := hd xs h1 hlt
  have hd0 : xs0[i + k] = d := by
    rw [List.drop_eq_getElem_cons hlt, List.drop_eq_getElem_cons hlt0] at h6
    rw [← hdd]; exact (List.cons.inj h6).1.symm
  have hb := mul_bound hcy hx1 hy1 hd1
  refine ⟨⟨xs.set (i + k) ((cn + (x * y + d)) % 4294967296), xs0, h1.store _ _, by simpa using h2, all_set h3 (by rw [b32]; omega), by simpa using h4, h5, ?_, ?_⟩, h8.setCell (p := ⟨D, i + k, none⟩) (Nat.le_refl _) _, by omega⟩
  · rw [← Nat.add_assoc, List.drop_set_of_lt (by omega)]
    rw [List.drop_eq_getElem_cons hlt, List.drop_eq_getElem_cons hlt0] at h6
    exact (List.cons.inj h6).2
  · rw [← Nat.add_assoc, val_take_set hlt, val_take_succ hlt0, val_take_succ hk, hd0, hy, Nat.pow_succ, Nat.mul_add x, Nat.mul_add (B32 ^ i)]
    have e1 : B32 ^ i * (x * (B32 ^ k * y)) = B32 ^ (i + k) * (x * y) := by rw [Nat.pow_add]; ac_rfl
    rw [e1]
    generalize B32 ^ (i + k) = p at *
    rw [Nat.mul_assoc p B32]
    have e2 : p * ((cn + (x * y + d)) % 4294967296) + p * (B32 * ((cn + (x * y + d)) / 4294967296)) = p * cn + (p * (x * y) + p * d) := by
      rw [← Nat.mul_add, b32, Nat.mod_add_div, Nat.mul_add, Nat.mul_add]
    omega
theorem MulIn.done {W0 wr : World} {D : Nat} {ds es : List Nat} {i x cn : Nat} (h : MulIn W0 D ds es i x es.length cn wr) (hi : i < ds.length) (hx : ds[i] = x) :
    MulAt W0 D ds es (i + 1) (wr.setCell ⟨D, i + es.length, none⟩ (.int .u32 (cn : Int))) := by
  have hcy := h.cy1
  obtain ⟨⟨xs, xs0, h1, h2, h3, h4, h5, h6, h7⟩, h8, h9⟩ := h
  refine ⟨⟨xs.set (i + es.length) cn, h1.store _ _, by simpa using h2, all_set h3 (by rw [b32]; omega), ?_⟩, h8.setCell (p := ⟨D, i + es.length, none⟩) (Nat.le_refl _) _⟩
  rw [show i + 1 + es.length = i + es.length + 1 by omega, val_take_set (by omega), h7, h5, val_take_succ hi, hx, List.take_length, Nat.add_mul, Nat.mul_assoc]

set_option maxRecDepth 100000 in
set_option maxHeartbeats 2000000 in
theorem mul_core (P Q : Option Addr) (c c' : Nat) (ds es : List Nat) (w : World) (hd : DigP w P ds) (he : DigP w Q es) (h1 : ∀ d ∈ ds, d < B32) (h2 : ∀ d ∈ es, d < B32) (hl : ds.length + es.length ≤ 1000000) (hz : ∀ w1, Below w.heap.size w w1 → Calls Tryd.prog 18 #[.agg #[.slice P ds.length c]] w1 fun e w' => e = .returned (.bool false) ∧ Below w1.heap.size w1 w') (hz' : ∀ w1, Below w.heap.size w w1 → Calls Tryd.prog 18 #[.agg #[.slice Q es.length c']] w1 fun e w' => e = .returned (.bool false) ∧ Below w1.heap.size w1 w') :
    Calls Tryd.prog 20 #[.agg #[.slice P ds.length c], .agg #[.slice Q es.length c']] w fun e w' => ∃ v, e = .returned v ∧ NatV w' v (val B32 ds * val B32 es) ∧ Below w.heap.size w w' := by
  obtain ⟨i0, hi, hz0, hz1, hz2⟩ := info_parts infoU
  have H1 := hid h1
  have H2 := hid h2
  have HZ := hid hz
  have HZ' := hid hz'
  clear h1 h2 hz hz'
  go_enter Tryd.func20, Tryd.ntmps20
  go_upto_region 1 with (fail)
  obtain ⟨W0, hW0, hsz, kA0, kB0, kR0, hWb0⟩ := box3_head (.slice P ds.length c) (.slice Q es.length c') w
  rw [← hW0]
  have b1 : w.heap.size < W0.heap.size := by omega
  have b2 : w.heap.size + 1 < W0.heap.size := by omega
  have b3 : w.heap.size + 1 + 1 < W0.heap.size := by omega
  clear hW0 hsz
  have a00 := cell_box1 kA0
  have a10 := cell_box1 kB0
  refine wp_region_text (fun w' => Below W0.heap.size W0 w') [1, 1, 0, 1, 1, 0] (by exact Below.refl _ _) ?_
  have hsub : ∀ w', Below W0.heap.size W0 w' → Below w.heap.size w w' := fun w' h => hWb0.trans (h.mono hWb0.size)
  apply lexH rfl; (· intro w' hw'; have hcc := cellsBelow hw'; go_simp; (try go_bits); exact ⟨rfl, hw'⟩); simp only [Act.put, List.setIfInBounds_toArray, List.set_cons_zero, List.set_cons_succ]
  apply lexH rfl
  · intro w' hw'; go_simp; (try go_bits); refine (HZ.out _ (hsub _ hw')).mono ?_; rintro e w1 ⟨rfl, hw1⟩; exact ⟨_, rfl, rfl, hw'.trans (hw1.mono hw'.size)⟩
  simp only [Act.put, List.setIfInBounds_toArray, List.set_cons_zero, List.set_cons_succ]
  apply lexF rfl; (· intro _; go_simp; (try go_bits); exact ⟨rfl, rfl⟩); simp only [Act.put, List.setIfInBounds_toArray, List.set_cons_zero, List.set_cons_succ]
  first | (apply lexN (j := 2) (d := 13) (b := false) rfl rfl rfl rfl; simp only [Act.put, List.setIfInBounds_toArray, List.set_cons_zero, List.set_cons_succ]) | (apply lexN' (j := 2) (d := 13) (b := false) rfl rfl rfl; simp only [Act.put, List.setIfInBounds_toArray, List.set_cons_zero, List.set_cons_succ]) | (apply lexHg (j := 2) (d := 13) (b := false) rfl rfl rfl rfl; (· intro w' hw'; have hcc := cellsBelow hw'; go_simp; (try go_bits); exact ⟨rfl, hw'⟩); simp only [Act.put, List.setIfInBounds_toArray, List.set_cons_zero, List.set_cons_succ])
  apply lexHg (j := 2) (d := 13) (b := false) rfl rfl rfl rfl
  · intro w' hw'; go_simp; (try go_bits); refine (HZ'.out _ (hsub _ hw')).mono ?_; rintro e w1 ⟨rfl, hw1⟩; exact ⟨_, rfl, rfl, hw'.trans (hw1.mono hw'.size)⟩
  simp only [Act.put, List.setIfInBounds_toArray, List.set_cons_zero, List.set_cons_succ]
  apply lexF rfl; (· intro _; go_simp; (try go_bits); exact ⟨rfl, rfl⟩); simp only [Act.put, List.setIfInBounds_toArray, List.set_cons_zero, List.set_cons_succ]
  refine lexEnd (fun W1 hw1 => ?_)
  have kA := (hw1.block _ b1).trans kA0
  have kB := (hw1.block _ b2).trans kB0
  have kR := (hw1.block _ b3).trans kR0
  have hWb := hWb0.trans (hw1.mono hWb0.size)
  have hd1 := hd.below hWb
  have he1 := he.below hWb
  have hs1 := hw1.size
  replace b1 := Nat.lt_of_lt_of_le b1 hs1
  replace b2 := Nat.lt_of_lt_of_le b2 hs1
  replace b3 := Nat.lt_of_lt_of_le b3 hs1
  clear hd he a00 a10 kA0 kB0 kR0 hWb0 HZ HZ' hw1 hs1 hsub
  have a0 := cell_box1 kA
  have a1 := cell_box1 kB
  go_wp2_with (at_make; refine wpList_make_full _ rfl _ _ _ rfl W1.heap.size 69 i0 _ 1 Tryd.underlying22 hi hz0 hz1 _ _ _ _ (ds.length + es.length) rfl rfl (by simp) (by simp) (by rw [hz2]; omega) (by unfold maxLen; omega) (Nat.le_refl _) ?_; intro w2 hown hgr; have hb2 : Below W1.heap.size W1 w2 := (Below.refl _ W1).grown hgr (Nat.le_refl _) (by simp); have hA := arr_made hown; clear hown hgr; have hcc := cellsBelow hb2)
  clear hcc
  have hA0 : MulAt W1 W1.heap.size ds es 0 w2 := ⟨⟨_, hA, by simp, fun x hx => by rw [List.eq_of_mem_replicate hx, b32]; omega, by simp [val, val_replicate]⟩, hb2⟩
  clear hA hb2
  go_loopw [29] (fun i wr => ∃ k : Nat, k ≤ ds.length ∧ i = .int .i64 k ∧ MulAt W1 W1.heap.size ds es k wr) (fun i _ => ds.length - (intOf i).toNat)
  case atStart => exact ⟨0, Nat.zero_le _, rfl, hA0⟩
  case round =>
    clear hA0
    obtain ⟨i, hk, rfl, hat⟩ := hrel
    have hold := hat.old
    have hcc := cellsBelow hold
    by_cases hlt : i < ds.length
    · obtain ⟨g, rfl, hdg⟩ := hd1.at hlt
      have hgl := hdg.lt
      have g0 := hdg.at0 i hlt
      have hx1 : ds[i] ≤ 4294967295 := by have := H1.out _ (List.getElem_mem hlt); rw [b32] at this; omega
      obtain ⟨x, hx⟩ : ∃ x, ds[i] = x := ⟨_, rfl⟩
      rw [hx] at g0 hx1
      have HX := hid hx
      have HIN := hid (hat.start x)
      clear hx hat
      go_upto_region 9 with (fail)
      clear hcc hold
      go_loopw [8, 37] (fun cy i' wr => ∃ k cn : Nat, k ≤ es.length ∧ i' = .int .i64 k ∧ cy = .int .u64 (cn : Int) ∧ MulIn W1 W1.heap.size ds es i x k cn wr) (fun _ i' _ => es.length - (intOf i').toNat)
      case atStart => exact ⟨0, 0, Nat.zero_le _, rfl, rfl, HIN.out⟩
      case round =>
        clear HIN
        obtain ⟨k, cn, hk2, rfl, rfl, hat⟩ := hrel
        have hold := hat.old
        have hcc := cellsBelow hold
        have hcy := hat.cy1
        by_cases hlt2 : k < es.length
        · obtain ⟨g', rfl, heg⟩ := he1.at hlt2
          have hgl' := heg.lt
          have g1 := heg.at0 k hlt2
          have hy1 : es[k] ≤ 4294967295 := by have := H2.out _ (List.getElem_mem hlt2); rw [b32] at this; omega
          obtain ⟨y, hy⟩ : ∃ y, es[k] = y := ⟨_, rfl⟩
          obtain ⟨xs, _, hxs, hxl, hxb, _⟩ := hat.arr
          have hfr := hxs.free
          have hik : i + k < xs.length := by omega
          have c0 := hxs.cell (i + k) hik
          have hd1' : xs[i + k] ≤ 4294967295 := by have := hxb _ (List.getElem_mem hik); rw [b32] at this; omega
          obtain ⟨d, hdd⟩ : ∃ d, xs[i + k] = d := ⟨_, rfl⟩
          rw [hy] at g1 hy1
          rw [hdd] at c0 hd1'
          have HS := hid (hat.step hlt2 hlt hy hx1 hy1 (fun xs' h' hl' => by
            have e : xs' = xs := arr_inj h' hxs
            subst e; exact hdd) hd1')
          have hmb := mul_bound hcy hx1 hy1 hd1'
          have hmb0 : 0 ≤ (x : Int) * (y : Int) := Int.mul_nonneg (by omega) (by omega)
          have hmb1 : (cn : Int) + ((x : Int) * (y : Int) + (d : Int)) ≤ 18446744073709551615 := by
            have e1 : ((x * y : Nat) : Int) = (x : Int) * (y : Int) := Int.natCast_mul x y
            omega
          clear hy hdd hat hmb
          go_upto_region 12 with (fail)
          go_upto_region 13 with (fail)
          obtain ⟨t, ht, ht2⟩ : ∃ t : Nat, cn + (x * y + d) = t ∧ (cn : Int) + ((x : Int) * (y : Int) + (d : Int)) = (t : Int) := ⟨_, rfl, by simp only [Int.natCast_add, Int.natCast_mul]⟩
          rw [ht] at HS
          rw [ht2]
          rw [ht2] at hmb1
          clear ht ht2 hmb0
          go_wp2
          go_roundw
          case rel => exact ⟨k + 1, t / 4294967296, by omega, by go_num, rfl, HS.out⟩
          case measure => simp [intOf]; omega
        · obtain rfl : k = es.length := by omega
          obtain ⟨xs, _, hxs, hxl, hxb, _⟩ := hat.arr
          have hfr := hxs.free
          have hik : i + es.length < xs.length := by omega
          have c0 := hxs.cell (i + es.length) hik
          have HS := hid (hat.done hlt HX.out)
          clear hat
          go_wp2
          go_roundw
          case rel => exact ⟨i + 1, by omega, by go_num, HS.out⟩
          case measure => simp [intOf]; omega
    · obtain rfl : i = ds.length := by omega
      obtain ⟨xs, hxs, hxl, hxb, hxv⟩ := hat.arr
      have HT := hid (trim_arr hxs hxb (by omega))
      rw [← hxl, List.take_length, List.take_length] at hxv
      rw [hxv, hxl] at HT
      clear hxv hat
      go_wp2_with (go_at_call 41; refine HT.out.mono ?_; clear HT; rintro e w3 ⟨p, c3, rfl, hv, hw3⟩; have hb3 := hold.trans (hw3.mono hold.size); have hR2 := (hb3.block _ b3).trans kR; have hc2 := cell_box1 hR2; have hf2 := free_box1 hR2)
      have hc3 := res_store hR2 (.slice p (digs B32 (val B32 ds * val B32 es)).length c3)
      refine bodyPost_ret (v := .agg #[.slice p (digs B32 (val B32 ds * val B32 es)).length c3]) (by simp [results, Tryd.results20, go_sem, hc3]) rfl ⟨_, rfl, hv.store hc2 _, ?_⟩
      exact (hWb.trans (hb3.mono (by omega))).setCell (p := ⟨w.heap.size + 1 + 1, 0, none⟩) (by show _ ≤ w.heap.size + 1 + 1; omega) _

set_option maxHeartbeats 1000000 in
theorem mul_zero1 (P Q : Option Addr) (c c' l m : Nat) (w : World) (hz : ∀ w1, Below w.heap.size w w1 → Calls Tryd.prog 18 #[.agg #[.slice P l c]] w1 fun e w' => e = .returned (.bool true) ∧ Below w1.heap.size w1 w') :
    Calls Tryd.prog 20 #[.agg #[.slice P l c], .agg #[.slice Q m c']] w fun e w' => e = .returned (.agg #[.slice none 0 0]) ∧ Below w.heap.size w w' := by
  have HZ := hid hz
  clear hz
  go_enter Tryd.func20, Tryd.ntmps20
  go_upto_region 1 with (fail)
  obtain ⟨W0, hW0, hsz, kA0, kB0, kR0, hWb0⟩ := box3_head (.slice P l c) (.slice Q m c') w
  rw [← hW0]
  have b1 : w.heap.size < W0.heap.size := by omega
  have b2 : w.heap.size + 1 < W0.heap.size := by omega
  have b3 : w.heap.size + 1 + 1 < W0.heap.size := by omega
  clear hW0 hsz
  have a00 := cell_box1 kA0
  have a10 := cell_box1 kB0
  refine wp_region_text (fun w' => Below W0.heap.size W0 w') [1, 1, 0, 1, 1, 0] (by exact Below.refl _ _) ?_
  have hsub : ∀ w', Below W0.heap.size W0 w' → Below w.heap.size w w' := fun w' h => hWb0.trans (h.mono hWb0.size)
  apply lexH rfl; (· intro w' hw'; have hcc := cellsBelow hw'; go_simp; (try go_bits); exact ⟨rfl, hw'⟩); simp only [Act.put, List.setIfInBounds_toArray, List.set_cons_zero, List.set_cons_succ]
  apply lexH rfl
  · intro w' hw'; go_simp; (try go_bits); refine (HZ.out _ (hsub _ hw')).mono ?_; rintro e w1 ⟨rfl, hw1⟩; exact ⟨_, rfl, rfl, hw'.trans (hw1.mono hw'.size)⟩
  simp only [Act.put, List.setIfInBounds_toArray, List.set_cons_zero, List.set_cons_succ]
  apply lexF rfl; (· intro _; go_simp; (try go_bits); exact ⟨rfl, rfl⟩); simp only [Act.put, List.setIfInBounds_toArray, List.set_cons_zero, List.set_cons_succ]
  first | (apply lexN (j := 2) (d := 13) (b := false) rfl rfl rfl rfl; simp only [Act.put, List.setIfInBounds_toArray, List.set_cons_zero, List.set_cons_succ]) | (apply lexN' (j := 2) (d := 13) (b := false) rfl rfl rfl; simp only [Act.put, List.setIfInBounds_toArray, List.set_cons_zero, List.set_cons_succ]) | (apply lexHg (j := 2) (d := 13) (b := false) rfl rfl rfl rfl; (· intro w' hw'; have hcc := cellsBelow hw'; go_simp; (try go_bits); exact ⟨rfl, hw'⟩); simp only [Act.put, List.setIfInBounds_toArray, List.set_cons_zero, List.set_cons_succ])
  first | (apply lexN (j := 2) (d := 13) (b := false) rfl rfl rfl rfl; simp only [Act.put, List.setIfInBounds_toArray, List.set_cons_zero, List.set_cons_succ]) | (apply lexN' (j := 2) (d := 13) (b := false) rfl rfl rfl; simp only [Act.put, List.setIfInBounds_toArray, List.set_cons_zero, List.set_cons_succ]) | (apply lexHg (j := 2) (d := 13) (b := false) rfl rfl rfl rfl; (· intro w' hw'; have hcc := cellsBelow hw'; go_simp; (try go_bits); exact ⟨rfl, hw'⟩); simp only [Act.put, List.setIfInBounds_toArray, List.set_cons_zero, List.set_cons_succ])
  apply lexF rfl; (· intro _; go_simp; (try go_bits); exact ⟨rfl, rfl⟩); simp only [Act.put, List.setIfInBounds_toArray, List.set_cons_zero, List.set_cons_succ]
  refine lexEnd (fun W1 hw1 => ?_)
  have kR := (hw1.block _ b3).trans kR0
  have a2 := cell_box1 kR
  have f2 := free_box1 kR
  have hWb := hWb0.trans (hw1.mono hWb0.size)
  have hs1 := hw1.size
  replace b3 := Nat.lt_of_lt_of_le b3 hs1
  clear a00 a10 kA0 kB0 kR0 hWb0 hw1 hs1 hsub
  go_wp2
  have hc3 := res_store kR (.slice none 0 0)
  refine bodyPost_ret (v := .agg #[.slice none 0 0]) (by simp [results, Tryd.results20, go_sem, hc3]) rfl ⟨rfl, ?_⟩
  exact hWb.setCell (p := ⟨w.heap.size + 1 + 1, 0, none⟩) (by show _ ≤ w.heap.size + 1 + 1; omega) _

set_option maxHeartbeats 1000000 in
theorem mul_zero2 (P Q : Option Addr) (c c' l m : Nat) (w : World) (hz : ∀ w1, Below w.heap.size w w1 → Calls Tryd.prog 18 #[.agg #[.slice P l c]] w1 fun e w' => e = .returned (.bool false) ∧ Below w1.heap.size w1 w') (hz' : ∀ w1, Below w.heap.size w w1 → Calls Tryd.prog 18 #[.agg #[.slice Q m c']] w1 fun e w' => e = .returned (.bool true) ∧ Below w1.heap.size w1 w') :
    Calls Tryd.prog 20 #[.agg #[.slice P l c], .agg #[.slice Q m c']] w fun e w' => e = .returned (.agg #[.slice none 0 0]) ∧ Below w.heap.size w w' := by
  have HZ := hid hz
  have HZ' := hid hz'
  clear hz hz'
  go_enter Tryd.func20, Tryd.ntmps20
  go_upto_region 1 with (fail)
  obtain ⟨W0, hW0, hsz, kA0, kB0, kR0, hWb0⟩ := box3_head (.slice P l c) (.slice Q m c') w
  rw [← hW0]
  have b1 : w.heap.size < W0.heap.size := by omega
  have b2 : w.heap.size + 1 < W0.heap.size := by omega
  have b3 : w.heap.size + 1 + 1 < W0.heap.size := by omega
  clear hW0 hsz
  have a00 := cell_box1 kA0
  have a10 := cell_box1 kB0
  refine wp_region_text (fun w' => Below W0.heap.size W0 w') [1, 1, 0, 1, 1, 0] (by exact Below.refl _ _) ?_
  have hsub : ∀ w', Below W0.heap.size W0 w' → Below w.heap.size w w' := fun w' h => hWb0.trans (h.mono hWb0.size)
  apply lexH rfl; (· intro w' hw'; have hcc := cellsBelow hw'; go_simp; (try go_bits); exact ⟨rfl, hw'⟩); simp only [Act.put, List.setIfInBounds_toArray, List.set_cons_zero, List.set_cons_succ]
  apply lexH rfl
  · intro w' hw'; go_simp; (try go_bits); refine (HZ.out _ (hsub _ hw')).mono ?_; rintro e w1 ⟨rfl, hw1⟩; exact ⟨_, rfl, rfl, hw'.trans (hw1.mono hw'.size)⟩
  simp only [Act.put, List.setIfInBounds_toArray, List.set_cons_zero, List.set_cons_succ]
  apply lexF rfl; (· intro _; go_simp; (try go_bits); exact ⟨rfl, rfl⟩); simp only [Act.put, List.setIfInBounds_toArray, List.set_cons_zero, List.set_cons_succ]
  first | (apply lexN (j := 2) (d := 13) (b := false) rfl rfl rfl rfl; simp only [Act.put, List.setIfInBounds_toArray, List.set_cons_zero, List.set_cons_succ]) | (apply lexN' (j := 2) (d := 13) (b := false) rfl rfl rfl; simp only [Act.put, List.setIfInBounds_toArray, List.set_cons_zero, List.set_cons_succ]) | (apply lexHg (j := 2) (d := 13) (b := false) rfl rfl rfl rfl; (· intro w' hw'; have hcc := cellsBelow hw'; go_simp; (try go_bits); exact ⟨rfl, hw'⟩); simp only [Act.put, List.setIfInBounds_toArray, List.set_cons_zero, List.set_cons_succ])
  apply lexHg (j := 2) (d := 13) (b := false) rfl rfl rfl rfl
  · intro w' hw'; go_simp; (try go_bits); refine (HZ'.out _ (hsub _ hw')).mono ?_; rintro e w1 ⟨rfl, hw1⟩; exact ⟨_, rfl, rfl, hw'.trans (hw1.mono hw'.size)⟩
  simp only [Act.put, List.setIfInBounds_toArray, List.set_cons_zero, List.set_cons_succ]
  apply lexF rfl; (· intro _; go_simp; (try go_bits); exact ⟨rfl, rfl⟩); simp only [Act.put, List.setIfInBounds_toArray, List.set_cons_zero, List.set_cons_succ]
  refine lexEnd (fun W1 hw1 => ?_)
  have kR := (hw1.block _ b3).trans kR0
  have a2 := cell_box1 kR
  have f2 := free_box1 kR
  have hWb := hWb0.trans (hw1.mono hWb0.size)
  have hs1 := hw1.size
  replace b3 := Nat.lt_of_lt_of_le b3 hs1
  clear a00 a10 kA0 kB0 kR0 hWb0 hw1 hs1 hsub
  go_wp2
  have hc3 := res_store kR (.slice none 0 0)
  refine bodyPost_ret (v := .agg #[.slice none 0 0]) (by simp [results, Tryd.results20, go_sem, hc3]) rfl ⟨rfl, ?_⟩
  exact hWb.setCell (p := ⟨w.heap.size + 1 + 1, 0, none⟩) (by show _ ≤ w.heap.size + 1 + 1; omega) _

theorem mul_any (v u : Value) (n m : Nat) (w : World) (hv : NatV w v n) (hu : NatV w u m) (hl : (digs B32 n).length + (digs B32 m).length ≤ 1000000) :
    Calls Tryd.prog 20 #[v, u] w fun e w' => ∃ x, e = .returned x ∧ NatV w' x (n * m) ∧ Below w.heap.size w w' := by
  have hz := fun w1 (hb : Below w.heap.size w w1) => isZero_any v n w1 (hv.below hb)
  have hz' := fun w1 (hb : Below w.heap.size w w1) => isZero_any u m w1 (hu.below hb)
  obtain ⟨P, c, rfl, hp⟩ := hv.digp
  obtain ⟨Q, c', rfl, hq⟩ := hu.digp
  by_cases h0 : n = 0
  · subst h0
    refine (mul_zero1 P Q c c' _ _ w hz).mono fun e w' ⟨h1, h2⟩ => ⟨_, h1, ?_, h2⟩
    rw [Nat.zero_mul]; exact NatV.zero _
  · rw [show (n == 0) = false by simpa using h0] at hz
    by_cases h1 : m = 0
    · subst h1
      refine (mul_zero2 P Q c c' _ _ w hz hz').mono fun e w' ⟨h1, h2⟩ => ⟨_, h1, ?_, h2⟩
      rw [Nat.mul_zero]; exact NatV.zero _
    · rw [show (m == 0) = false by simpa using h1] at hz'
      have := mul_core P Q c c' _ _ w hp hq (digs_lt b32_2 n) (digs_lt b32_2 m) hl hz hz'
      rwa [val_digs b32_2, val_digs b32_2] at this

end Go.Proofs.YtepljhpamconbaaDoor
