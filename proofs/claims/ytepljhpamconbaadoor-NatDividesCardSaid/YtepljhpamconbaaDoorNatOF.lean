/- DivMod and GCD: every case. -/
import Derived.Test.YtepljhpamconbaaDoorNatOE
namespace Go.Proofs.YtepljhpamconbaaDoor
open Go.RowKit

theorem divmod_any (v u : Value) (n m : Nat) (w : World) (hv : NatV w v n) (hu : NatV w u m) (hm : m ≠ 0) (hl : (digs B32 n).length ≤ 100000) (hl2 : (digs B32 m).length ≤ 100000) :
    Calls Tryd.prog 22 #[v, u] w fun e w' => ∃ x y, e = .returned (.tuple #[x, y, .int .i64 0]) ∧ NatV w' x (n / m) ∧ NatV w' y (n % m) ∧ Below w.heap.size w w' := by
  by_cases h1 : n < m
  · exact divmod_lt v u n m w hv hu h1 (by omega) (by omega)
  · by_cases h2 : n < 18446744073709551616
    · exact divmod_64 v u n m w hv hu hm (by omega) h2
    · by_cases h3 : m < 4294967296
      · exact divmod_small v u n m w hv hu hm h3 (by omega) hl
      · exact divmod_long v u n m w hv hu (by omega) (by omega) (by omega) hl

/-- The state of GCD's loop. -/
structure GcdAt (w : World) (d n m : Nat) (wr : World) : Prop where
  a : ∃ p c, wr.heap[w.heap.size]? = some (.cells #[.slice p (digs B32 n).length c] 26) ∧ NatV wr (.agg #[.slice p (digs B32 n).length c]) n
  b : ∃ p c, wr.heap[w.heap.size + 1]? = some (.cells #[.slice p (digs B32 m).length c] 26) ∧ NatV wr (.agg #[.slice p (digs B32 m).length c]) m
  r : wr.heap[w.heap.size + 1 + 1]? = some (.cells #[.slice none 0 0] 26)
  old : Below w.heap.size w wr
  g : Nat.gcd n m = d
  ln : (digs B32 n).length ≤ 100000
  lm : (digs B32 m).length ≤ 100000

set_option maxRecDepth 100000 in
set_option maxHeartbeats 4000000 in
theorem gcd_any (v u : Value) (n m : Nat) (w : World) (hv : NatV w v n) (hu : NatV w u m) (hn : (digs B32 n).length ≤ 100000) (hm : (digs B32 m).length ≤ 100000) :
    Calls Tryd.prog 24 #[v, u] w fun e w' => ∃ x, e = .returned x ∧ NatV w' x (Nat.gcd n m) ∧ Below w.heap.size w w' := by
  have HO := hid (fun g (hg : g < 18446744073709551616) w1 => of_any g w1 hg)
  obtain ⟨d, hd⟩ : ∃ d, Nat.gcd n m = d := ⟨_, rfl⟩
  rw [hd]
  obtain ⟨P, c, rfl, _⟩ := hv.digp
  obtain ⟨Q, c', rfl, _⟩ := hu.digp
  go_enter Tryd.func24, Tryd.ntmps24
  go_upto_region 1 with (fail)
  obtain ⟨W0, hW0, hsz, kA, kB, kR, hWb⟩ := box3_head (.slice P (digs B32 n).length c) (.slice Q (digs B32 m).length c') w
  rw [← hW0]
  have hat0 : GcdAt w d n m W0 := ⟨⟨P, c, kA, hv.below hWb⟩, ⟨Q, c', kB, hu.below hWb⟩, kR, hWb, hd, hn, hm⟩
  clear hW0 hsz kA kB kR hWb hv hu hn hm hd
  go_loopg [] m (fun k wr => ∃ n' m', k = m' ∧ GcdAt w d n' m' wr)
  case atStart => exact ⟨n, m, rfl, hat0⟩
  case round =>
    clear hat0
    obtain ⟨x, y, hkj, hat⟩ := hrel
    have HJ := hid hkj
    clear hkj
    generalize wr = W1 at hat ⊢
    obtain ⟨p1, c1, kA, hx⟩ := hat.a
    obtain ⟨p2, c2, kB, hy⟩ := hat.b
    have kR := hat.r
    have hold := hat.old
    have hlx := hat.ln
    have hly := hat.lm
    have HG := hid hat.g
    have lA := (Array.getElem?_eq_some_iff.1 kA).1
    have lB := (Array.getElem?_eq_some_iff.1 kB).1
    have lR := (Array.getElem?_eq_some_iff.1 kR).1
    have a1 := cell_box1 kB
    have HZ := hid (isZero_any _ y W1 hy)
    have HK := hid (show KS w [Has 0 w.heap.size (.cells #[.slice p1 (digs B32 x).length c1] 26), Has 0 (w.heap.size + 1) (.cells #[.slice p2 (digs B32 y).length c2] 26), Has 0 (w.heap.size + 1 + 1) (.cells #[.slice none 0 0] 26), fun w => NatV w (.agg #[.slice p1 (digs B32 x).length c1]) x, fun w => NatV w (.agg #[.slice p2 (digs B32 y).length c2]) y] W1 from
      ⟨hold, all1 (fun w2 hb => Has.below ⟨Nat.zero_le _, kA⟩ hb) (all1 (fun w2 hb => Has.below ⟨Nat.zero_le _, kB⟩ hb) (all1 (fun w2 hb => Has.below ⟨Nat.zero_le _, kR⟩ hb) (all1 (fun w2 hb => hx.below hb) (all1 (fun w2 hb => hy.below hb) all0))))⟩)
    clear hat kA kB kR hx hy
    by_cases h0 : y = 0
    · subst h0
      have hxd : x = d := by have := HG.out; rwa [Nat.gcd_zero_right] at this
      have HXD := hid hxd
      clear hxd
      go_upto_region 10 with (go_at_call 18; refine HZ.out.mono ?_; clear HZ; rintro e W2 ⟨rfl, hw⟩; have hK := HK.out.step hw)
      have hA := hK.get (F := Has 0 w.heap.size (.cells #[.slice p1 (digs B32 x).length c1] 26)) (by repeat (first | exact List.mem_cons_self .. | apply List.mem_cons_of_mem))
      have hR := hK.get (F := Has 0 (w.heap.size + 1 + 1) (.cells #[.slice none 0 0] 26)) (by repeat (first | exact List.mem_cons_self .. | apply List.mem_cons_of_mem))
      have hN := hK.get (F := fun w => NatV w (.agg #[.slice p1 (digs B32 x).length c1]) x) (by repeat (first | exact List.mem_cons_self .. | apply List.mem_cons_of_mem))
      have b0 := hasCell hA
      have cR := hasCell hR
      have fR := hasFree hR
      clear a1
      have hc3 := res_store hR.2 (.slice p1 (digs B32 x).length c1)
      go_wp2
      have hxd := HXD.out
      exact bodyPost_ret (v := .agg #[.slice p1 (digs B32 x).length c1]) (by simp [results, Tryd.results24, go_sem, hc3]) rfl ⟨_, rfl, by rw [← hxd]; exact nat_set hN hR _ (Below.refl _ _), hK.old.setCell (p := ⟨w.heap.size + 1 + 1, 0, none⟩) (by show _ ≤ w.heap.size + 1 + 1; omega) _⟩
    · rw [show (y == 0) = false by rw [beq_eq_false_iff_ne]; omega] at HZ
      go_upto_region 2 with (go_at_call 18; refine HZ.out.mono ?_; clear HZ; rintro e W2 ⟨rfl, hw⟩; have hK := HK.out.step hw)
      have hA := hK.get (F := Has 0 w.heap.size (.cells #[.slice p1 (digs B32 x).length c1] 26)) (by repeat (first | exact List.mem_cons_self .. | apply List.mem_cons_of_mem))
      have b0 := hasCell hA
      clear a1 hw HK
      have HU := hid (uint64_any _ x W2 (hK.get (F := fun w => NatV w (.agg #[.slice p1 (digs B32 x).length c1]) x) (by repeat (first | exact List.mem_cons_self .. | apply List.mem_cons_of_mem))))
      unfold u64V at HU
      go_upto_region 3 with (go_at_call 26; refine HU.out.mono ?_; clear HU; rintro e W3 ⟨rfl, hw⟩; replace hK := hK.step hw)
      have hB := hK.get (F := Has 0 (w.heap.size + 1) (.cells #[.slice p2 (digs B32 y).length c2] 26)) (by repeat (first | exact List.mem_cons_self .. | apply List.mem_cons_of_mem))
      have b1 := hasCell hB
      clear b0 hA hw
      have HU := hid (uint64_any _ y W3 (hK.get (F := fun w => NatV w (.agg #[.slice p2 (digs B32 y).length c2]) y) (by repeat (first | exact List.mem_cons_self .. | apply List.mem_cons_of_mem))))
      unfold u64V at HU
      go_upto_region 4 with (go_at_call 26; refine HU.out.mono ?_; clear HU; rintro e W4 ⟨rfl, hw⟩; replace hK := hK.step hw)
      clear b1 hB hw
      by_cases hs : x < 18446744073709551616 ∧ y < 18446744073709551616
      · have hs1 := hs.1
        have hs2 := hs.2
        clear hs
        have hR := hK.get (F := Has 0 (w.heap.size + 1 + 1) (.cells #[.slice none 0 0] 26)) (by repeat (first | exact List.mem_cons_self .. | apply List.mem_cons_of_mem))
        have lR4 := (Array.getElem?_eq_some_iff.1 hR.2).1
        have kR4 := hR.2
        have hb4 := hK.old
        simp only [hs1, hs2, if_true, decide_true]
        go_upto_region 5 with (fail)
        go_loopw [5, 7] (fun xv yv wl => ∃ x' y' : Nat, x' < 18446744073709551616 ∧ y' < 18446744073709551616 ∧ xv = .int .u64 (x' : Int) ∧ yv = .int .u64 (y' : Int) ∧ RowKit.Hid (Nat.gcd x' y' = d) ∧ Below W4.heap.size W4 wl) (fun _ yv _ => (intOf yv).toNat)
        case atStart => exact ⟨x, y, hs1, hs2, rfl, rfl, HG, Below.refl _ _⟩
        case round =>
          clear hs1 hs2
          obtain ⟨x', y', hx', hy', rfl, rfl, HG', hbl⟩ := hrel
          generalize wr = W5 at hbl ⊢
          by_cases hy0 : y' = 0
          · subst hy0
            have hxd : x' = d := by rw [← HG'.out, Nat.gcd_zero_right]
            subst hxd
            have HO1 := hid (fun w1 => HO.out x' hx' w1)
            go_wp2_with (go_at_call 28; refine (HO1.out _).mono ?_; clear HO1; rintro e W6 ⟨v, rfl, hv, hw6⟩; obtain ⟨p, c6, rfl, _⟩ := hv.dig; have hb6 := hbl.trans (hw6.mono hbl.size); have kR6 := (hb6.block _ lR4).trans kR4; have cR := cell_box1 kR6; have fR := free_box1 kR6)
            have hc3 := res_store kR6 (.slice p (digs B32 x').length c6)
            exact bodyPost_ret (v := .agg #[.slice p (digs B32 x').length c6]) (by simp [results, Tryd.results24, go_sem, hc3]) rfl ⟨_, rfl, hv.store cR _, (hb4.trans (hb6.mono hb4.size)).setCell (p := ⟨w.heap.size + 1 + 1, 0, none⟩) (by show _ ≤ w.heap.size + 1 + 1; omega) _⟩
          · have hyi : ((y' : Int) != 0) = true := by rw [bne_iff_ne]; omega
            have hr1 : (x' : Int) % (y' : Int) < 18446744073709551616 := by
              have e : (x' : Int) % (y' : Int) = ((x' % y' : Nat) : Int) := rfl
              have := Nat.mod_le x' y'
              rw [e]; omega
            have hr2 : 0 ≤ (x' : Int) % (y' : Int) := Int.natCast_nonneg (x' % y')
            have HL := hid (show x' % y' < y' from Nat.mod_lt _ (by omega))
            have HG2 := hid (show Nat.gcd y' (x' % y') = d by rw [gcd_step, HG'.out])
            go_upto_region 6 with (fail)
            refine wp_region_staged (fun w' => Below W4.heap.size W4 w') [0, 0, 0, 0, 0, 0] (by kernel_rfl) (by kernel_rfl) (by kernel_rfl) (by exact hbl.drew) ?_
            apply lexF rfl; (· intro _; go_simp; (try go_bits); exact ⟨rfl, rfl⟩); simp only [Act.put, List.setIfInBounds_toArray, List.set_cons_zero, List.set_cons_succ]
            apply lexF rfl; (· intro _; go_simp; (try go_bits); exact ⟨rfl, rfl⟩); simp only [Act.put, List.setIfInBounds_toArray, List.set_cons_zero, List.set_cons_succ]
            apply lexF rfl; (· intro _; go_simp; (try go_bits); exact ⟨rfl, rfl⟩); simp only [Act.put, List.setIfInBounds_toArray, List.set_cons_zero, List.set_cons_succ]
            apply lexF rfl; (· intro _; go_simp; (try go_bits); exact ⟨rfl, rfl⟩); simp only [Act.put, List.setIfInBounds_toArray, List.set_cons_zero, List.set_cons_succ]
            apply lexF rfl; (· intro _; go_simp; (try go_bits); exact ⟨rfl, rfl⟩); simp only [Act.put, List.setIfInBounds_toArray, List.set_cons_zero, List.set_cons_succ]
            apply lexF rfl; (· intro _; go_simp; (try go_bits); exact ⟨rfl, rfl⟩); simp only [Act.put, List.setIfInBounds_toArray, List.set_cons_zero, List.set_cons_succ]
            refine lexEnd (fun W6 hw6 => ?_)
            go_wp2
            go_roundw
            case rel => exact ⟨y', x' % y', hy', by have := HL.out; omega, rfl, rfl, HG2, hw6⟩
            case measure =>
              have := HL.out
              show ((x' : Int) % (y' : Int)).toNat < ((y' : Int)).toNat
              have e : (x' : Int) % (y' : Int) = ((x' % y' : Nat) : Int) := rfl
              rw [e]; omega
      · skip
        by_cases hs1 : x < 18446744073709551616
        · have hs2 : ¬ y < 18446744073709551616 := fun h => hs ⟨hs1, h⟩
          simp only [hs1, hs2, if_true, if_false, decide_true, decide_false]
          clear hs hs1 hs2
          go_upto_region 8 with (fail)
          have hA := hK.get (F := Has 0 w.heap.size (.cells #[.slice p1 (digs B32 x).length c1] 26)) (by repeat (first | exact List.mem_cons_self .. | apply List.mem_cons_of_mem))
          have hB := hK.get (F := Has 0 (w.heap.size + 1) (.cells #[.slice p2 (digs B32 y).length c2] 26)) (by repeat (first | exact List.mem_cons_self .. | apply List.mem_cons_of_mem))
          have b0 := hasCell hA
          have b1 := hasCell hB
          have HD := hid (divmod_any _ _ x y W4 (hK.get (F := fun w => NatV w (.agg #[.slice p1 (digs B32 x).length c1]) x) (by repeat (first | exact List.mem_cons_self .. | apply List.mem_cons_of_mem))) (hK.get (F := fun w => NatV w (.agg #[.slice p2 (digs B32 y).length c2]) y) (by repeat (first | exact List.mem_cons_self .. | apply List.mem_cons_of_mem))) h0 hlx hly)
          go_upto_region 9 with (go_at_call 22; refine HD.out.mono ?_; clear HD; rintro e W5 ⟨qv, rv, rfl, hqv, hrv, hw⟩; replace hK := hK.step hw; obtain ⟨p5, c5, rfl, _⟩ := hqv.dig; obtain ⟨p6, c6, rfl, _⟩ := hrv.dig)
          obtain ⟨V3, hVV, hK0, hK2⟩ : ∃ VV, VV = (W5.alloc (.cells #[.slice p5 (digs B32 (x / y)).length c5] 26)).alloc (.cells #[.slice p6 (digs B32 (x % y)).length c6] 26) ∧ KS w [Has 0 (W5.heap.size + 1) (.cells #[.slice p6 (digs B32 (x % y)).length c6] 26)] VV ∧ KS w [Has 0 w.heap.size (.cells #[.slice p1 (digs B32 x).length c1] 26), Has 0 (w.heap.size + 1) (.cells #[.slice p2 (digs B32 y).length c2] 26), Has 0 (w.heap.size + 1 + 1) (.cells #[.slice none 0 0] 26), fun w => NatV w (.agg #[.slice p2 (digs B32 y).length c2]) y, fun w => NatV w (.agg #[.slice p6 (digs B32 (x % y)).length c6]) (x % y)] VV := by
            have g1 := (Below.refl W5.heap.size W5).alloc (Nat.le_refl _) (.cells #[.slice p5 (digs B32 (x / y)).length c5] 26)
            have g2 := g1.alloc (by simp) (.cells #[.slice p6 (digs B32 (x % y)).length c6] 26)
            have g3 := heap_new (W5.alloc (.cells #[.slice p5 (digs B32 (x / y)).length c5] 26)) (.cells #[.slice p6 (digs B32 (x % y)).length c6] 26)
            rw [World.size_alloc] at g3
            have hK6 := hK.step g2
            exact ⟨_, rfl, ⟨hK6.old, all1 (fun w2 hb => Has.below ⟨Nat.zero_le _, g3⟩ hb) all0⟩, ⟨hK6.old, all1 (hK6.all _ (by repeat (first | exact List.mem_cons_self .. | apply List.mem_cons_of_mem))) (all1 (hK6.all _ (by repeat (first | exact List.mem_cons_self .. | apply List.mem_cons_of_mem))) (all1 (hK6.all _ (by repeat (first | exact List.mem_cons_self .. | apply List.mem_cons_of_mem))) (all1 (hK6.all _ (by repeat (first | exact List.mem_cons_self .. | apply List.mem_cons_of_mem))) (all1 (fun w2 hb => (hrv.below g2).below hb) all0))))⟩⟩
          have hs5 : w.heap.size + 1 + 1 < W5.heap.size := (Array.getElem?_eq_some_iff.1 (hK.get (F := Has 0 (w.heap.size + 1 + 1) (.cells #[.slice none 0 0] 26)) (by repeat (first | exact List.mem_cons_self .. | apply List.mem_cons_of_mem))).2).1
          rw [← hVV]
          clear hVV hqv hrv hw hK b0 b1 hA hB
          obtain ⟨R10, hR10⟩ : ∃ R10, W5.heap.size + 1 = R10 := ⟨_, rfl⟩
          have hs6 : w.heap.size + 1 + 1 < R10 := by omega
          rw [hR10] at hK0 ⊢
          clear hR10 hs5
          refine wp_region_float0 (w) [_] _ [1, 0, 4, 4] (by kernel_rfl) (by kernel_rfl) (by kernel_rfl) (by kernel_rfl) (KS.drew hK0) (KS.drew hK2) ?_
          apply lxR0 (wants0 rfl); (· intro w' h0 hK; have hw' := hK.old; have k1 := hasCell (hK.get (F := Has 0 (w.heap.size + 1) (.cells #[.slice p2 (digs B32 y).length c2] 26)) (by repeat (first | exact List.mem_cons_self .. | apply List.mem_cons_of_mem))); go_simp; (try go_bits); exact ⟨rfl, rfl⟩); simp only [Act.put, List.setIfInBounds_toArray, List.set_cons_zero, List.set_cons_succ]
          apply lxF0 (wants0 rfl); (· intro w' h0; have k1 := hasCell (h0.get (F := Has 0 R10 (.cells #[.slice p6 (digs B32 (x % y)).length c6] 26)) (by repeat (first | exact List.mem_cons_self .. | apply List.mem_cons_of_mem))); go_simp; exact ⟨rfl, rfl⟩); simp only [Act.put, List.setIfInBounds_toArray, List.set_cons_zero, List.set_cons_succ]
          apply lxS0 [Has 0 w.heap.size (.cells #[.slice p2 (digs B32 y).length c2] 26), Has 0 (w.heap.size + 1) (.cells #[.slice p2 (digs B32 y).length c2] 26), Has 0 (w.heap.size + 1 + 1) (.cells #[.slice none 0 0] 26), fun w => NatV w (.agg #[.slice p2 (digs B32 y).length c2]) y, fun w => NatV w (.agg #[.slice p6 (digs B32 (x % y)).length c6]) (x % y)] (wants0 rfl)
          · intro w' h0 hK; have g10 := h0.get (F := Has 0 R10 (.cells #[.slice p6 (digs B32 (x % y)).length c6] 26)) (by repeat (first | exact List.mem_cons_self .. | apply List.mem_cons_of_mem)); have hA := hK.get (F := Has 0 w.heap.size (.cells #[.slice p1 (digs B32 x).length c1] 26)) (by repeat (first | exact List.mem_cons_self .. | apply List.mem_cons_of_mem)); have hB := hK.get (F := Has 0 (w.heap.size + 1) (.cells #[.slice p2 (digs B32 y).length c2] 26)) (by repeat (first | exact List.mem_cons_self .. | apply List.mem_cons_of_mem)); have hR := hK.get (F := Has 0 (w.heap.size + 1 + 1) (.cells #[.slice none 0 0] 26)) (by repeat (first | exact List.mem_cons_self .. | apply List.mem_cons_of_mem)); have hN := hK.get (F := fun w => NatV w (.agg #[.slice p2 (digs B32 y).length c2]) y) (by repeat (first | exact List.mem_cons_self .. | apply List.mem_cons_of_mem)); have hN' := hK.get (F := fun w => NatV w (.agg #[.slice p6 (digs B32 (x % y)).length c6]) (x % y)) (by repeat (first | exact List.mem_cons_self .. | apply List.mem_cons_of_mem)); have k1 := hasCell hA; have f1 := hasFree hA; go_simp; exact ⟨rfl, ks_set h0 (Nat.le_refl _) _ (all1 (fun w2 hb => has_far g10 (by omega) _ hb) all0), ks_set hK (Nat.le_refl _) _ (all1 (fun w2 hb => has_set hA _ hb) (all1 (fun w2 hb => has_far hB (by omega) _ hb) (all1 (fun w2 hb => has_far hR (by omega) _ hb) (all1 (fun w2 hb => nat_set hN hA _ hb) (all1 (fun w2 hb => nat_set hN' hA _ hb) all0)))))⟩
          simp only [Act.put]
          apply lxS0 [Has 0 w.heap.size (.cells #[.slice p2 (digs B32 y).length c2] 26), Has 0 (w.heap.size + 1) (.cells #[.slice p6 (digs B32 (x % y)).length c6] 26), Has 0 (w.heap.size + 1 + 1) (.cells #[.slice none 0 0] 26), fun w => NatV w (.agg #[.slice p2 (digs B32 y).length c2]) y, fun w => NatV w (.agg #[.slice p6 (digs B32 (x % y)).length c6]) (x % y)] (wants0 rfl)
          · intro w' h0 hK; have g10 := h0.get (F := Has 0 R10 (.cells #[.slice p6 (digs B32 (x % y)).length c6] 26)) (by repeat (first | exact List.mem_cons_self .. | apply List.mem_cons_of_mem)); have hA := hK.get (F := Has 0 w.heap.size (.cells #[.slice p2 (digs B32 y).length c2] 26)) (by repeat (first | exact List.mem_cons_self .. | apply List.mem_cons_of_mem)); have hB := hK.get (F := Has 0 (w.heap.size + 1) (.cells #[.slice p2 (digs B32 y).length c2] 26)) (by repeat (first | exact List.mem_cons_self .. | apply List.mem_cons_of_mem)); have hR := hK.get (F := Has 0 (w.heap.size + 1 + 1) (.cells #[.slice none 0 0] 26)) (by repeat (first | exact List.mem_cons_self .. | apply List.mem_cons_of_mem)); have hN := hK.get (F := fun w => NatV w (.agg #[.slice p2 (digs B32 y).length c2]) y) (by repeat (first | exact List.mem_cons_self .. | apply List.mem_cons_of_mem)); have hN' := hK.get (F := fun w => NatV w (.agg #[.slice p6 (digs B32 (x % y)).length c6]) (x % y)) (by repeat (first | exact List.mem_cons_self .. | apply List.mem_cons_of_mem)); have k1 := hasCell hB; have f1 := hasFree hB; go_simp; exact ⟨rfl, ks_set h0 (by omega) _ (all1 (fun w2 hb => has_far g10 (by omega) _ hb) all0), ks_set hK (by omega) _ (all1 (fun w2 hb => has_far hA (by omega) _ hb) (all1 (fun w2 hb => has_set hB _ hb) (all1 (fun w2 hb => has_far hR (by omega) _ hb) (all1 (fun w2 hb => nat_set hN hB _ hb) (all1 (fun w2 hb => nat_set hN' hB _ hb) all0)))))⟩
          simp only [Act.put]
          refine lxEnd (fun W9 hK9 => ?_)
          have HL := hid (show x % y < y from Nat.mod_lt _ (by omega))
          have HG2 := hid (show Nat.gcd y (x % y) = d by rw [gcd_step, HG.out])
          go_wp2
          go_roundg (x % y)
          case measure => have := HJ.out; have := HL.out; omega
          case rel => exact ⟨y, x % y, rfl, ⟨p2, c2, (hK9.get (F := Has 0 w.heap.size (.cells #[.slice p2 (digs B32 y).length c2] 26)) (by repeat (first | exact List.mem_cons_self .. | apply List.mem_cons_of_mem))).2, hK9.get (F := fun w => NatV w (.agg #[.slice p2 (digs B32 y).length c2]) y) (by repeat (first | exact List.mem_cons_self .. | apply List.mem_cons_of_mem))⟩, ⟨p6, c6, (hK9.get (F := Has 0 (w.heap.size + 1) (.cells #[.slice p6 (digs B32 (x % y)).length c6] 26)) (by repeat (first | exact List.mem_cons_self .. | apply List.mem_cons_of_mem))).2, hK9.get (F := fun w => NatV w (.agg #[.slice p6 (digs B32 (x % y)).length c6]) (x % y)) (by repeat (first | exact List.mem_cons_self .. | apply List.mem_cons_of_mem))⟩, (hK9.get (F := Has 0 (w.heap.size + 1 + 1) (.cells #[.slice none 0 0] 26)) (by repeat (first | exact List.mem_cons_self .. | apply List.mem_cons_of_mem))).2, hK9.old, HG2.out, hly, Nat.le_trans (digs_mono (Nat.le_of_lt HL.out)) hly⟩
        · simp only [hs1, if_false, decide_false]
          clear hs hs1
          obtain ⟨y64, hy64⟩ : ∃ y64 : Int, (if y < 18446744073709551616 then (y : Int) else 0) = y64 := ⟨_, rfl⟩
          obtain ⟨by64, hby⟩ : ∃ b, decide (y < 18446744073709551616) = b := ⟨_, rfl⟩
          rw [hy64, hby]
          clear hy64 hby
          go_upto_region 8 with (fail)
          have hA := hK.get (F := Has 0 w.heap.size (.cells #[.slice p1 (digs B32 x).length c1] 26)) (by repeat (first | exact List.mem_cons_self .. | apply List.mem_cons_of_mem))
          have hB := hK.get (F := Has 0 (w.heap.size + 1) (.cells #[.slice p2 (digs B32 y).length c2] 26)) (by repeat (first | exact List.mem_cons_self .. | apply List.mem_cons_of_mem))
          have b0 := hasCell hA
          have b1 := hasCell hB
          have HD := hid (divmod_any _ _ x y W4 (hK.get (F := fun w => NatV w (.agg #[.slice p1 (digs B32 x).length c1]) x) (by repeat (first | exact List.mem_cons_self .. | apply List.mem_cons_of_mem))) (hK.get (F := fun w => NatV w (.agg #[.slice p2 (digs B32 y).length c2]) y) (by repeat (first | exact List.mem_cons_self .. | apply List.mem_cons_of_mem))) h0 hlx hly)
          go_upto_region 9 with (go_at_call 22; refine HD.out.mono ?_; clear HD; rintro e W5 ⟨qv, rv, rfl, hqv, hrv, hw⟩; replace hK := hK.step hw; obtain ⟨p5, c5, rfl, _⟩ := hqv.dig; obtain ⟨p6, c6, rfl, _⟩ := hrv.dig)
          obtain ⟨V3, hVV, hK0, hK2⟩ : ∃ VV, VV = (W5.alloc (.cells #[.slice p5 (digs B32 (x / y)).length c5] 26)).alloc (.cells #[.slice p6 (digs B32 (x % y)).length c6] 26) ∧ KS w [Has 0 (W5.heap.size + 1) (.cells #[.slice p6 (digs B32 (x % y)).length c6] 26)] VV ∧ KS w [Has 0 w.heap.size (.cells #[.slice p1 (digs B32 x).length c1] 26), Has 0 (w.heap.size + 1) (.cells #[.slice p2 (digs B32 y).length c2] 26), Has 0 (w.heap.size + 1 + 1) (.cells #[.slice none 0 0] 26), fun w => NatV w (.agg #[.slice p2 (digs B32 y).length c2]) y, fun w => NatV w (.agg #[.slice p6 (digs B32 (x % y)).length c6]) (x % y)] VV := by
            have g1 := (Below.refl W5.heap.size W5).alloc (Nat.le_refl _) (.cells #[.slice p5 (digs B32 (x / y)).length c5] 26)
            have g2 := g1.alloc (by simp) (.cells #[.slice p6 (digs B32 (x % y)).length c6] 26)
            have g3 := heap_new (W5.alloc (.cells #[.slice p5 (digs B32 (x / y)).length c5] 26)) (.cells #[.slice p6 (digs B32 (x % y)).length c6] 26)
            rw [World.size_alloc] at g3
            have hK6 := hK.step g2
            exact ⟨_, rfl, ⟨hK6.old, all1 (fun w2 hb => Has.below ⟨Nat.zero_le _, g3⟩ hb) all0⟩, ⟨hK6.old, all1 (hK6.all _ (by repeat (first | exact List.mem_cons_self .. | apply List.mem_cons_of_mem))) (all1 (hK6.all _ (by repeat (first | exact List.mem_cons_self .. | apply List.mem_cons_of_mem))) (all1 (hK6.all _ (by repeat (first | exact List.mem_cons_self .. | apply List.mem_cons_of_mem))) (all1 (hK6.all _ (by repeat (first | exact List.mem_cons_self .. | apply List.mem_cons_of_mem))) (all1 (fun w2 hb => (hrv.below g2).below hb) all0))))⟩⟩
          have hs5 : w.heap.size + 1 + 1 < W5.heap.size := (Array.getElem?_eq_some_iff.1 (hK.get (F := Has 0 (w.heap.size + 1 + 1) (.cells #[.slice none 0 0] 26)) (by repeat (first | exact List.mem_cons_self .. | apply List.mem_cons_of_mem))).2).1
          rw [← hVV]
          clear hVV hqv hrv hw hK b0 b1 hA hB
          obtain ⟨R10, hR10⟩ : ∃ R10, W5.heap.size + 1 = R10 := ⟨_, rfl⟩
          have hs6 : w.heap.size + 1 + 1 < R10 := by omega
          rw [hR10] at hK0 ⊢
          clear hR10 hs5
          refine wp_region_float0 (w) [_] _ [1, 0, 4, 4] (by kernel_rfl) (by kernel_rfl) (by kernel_rfl) (by kernel_rfl) (KS.drew hK0) (KS.drew hK2) ?_
          apply lxR0 (wants0 rfl); (· intro w' h0 hK; have hw' := hK.old; have k1 := hasCell (hK.get (F := Has 0 (w.heap.size + 1) (.cells #[.slice p2 (digs B32 y).length c2] 26)) (by repeat (first | exact List.mem_cons_self .. | apply List.mem_cons_of_mem))); go_simp; (try go_bits); exact ⟨rfl, rfl⟩); simp only [Act.put, List.setIfInBounds_toArray, List.set_cons_zero, List.set_cons_succ]
          apply lxF0 (wants0 rfl); (· intro w' h0; have k1 := hasCell (h0.get (F := Has 0 R10 (.cells #[.slice p6 (digs B32 (x % y)).length c6] 26)) (by repeat (first | exact List.mem_cons_self .. | apply List.mem_cons_of_mem))); go_simp; exact ⟨rfl, rfl⟩); simp only [Act.put, List.setIfInBounds_toArray, List.set_cons_zero, List.set_cons_succ]
          apply lxS0 [Has 0 w.heap.size (.cells #[.slice p2 (digs B32 y).length c2] 26), Has 0 (w.heap.size + 1) (.cells #[.slice p2 (digs B32 y).length c2] 26), Has 0 (w.heap.size + 1 + 1) (.cells #[.slice none 0 0] 26), fun w => NatV w (.agg #[.slice p2 (digs B32 y).length c2]) y, fun w => NatV w (.agg #[.slice p6 (digs B32 (x % y)).length c6]) (x % y)] (wants0 rfl)
          · intro w' h0 hK; have g10 := h0.get (F := Has 0 R10 (.cells #[.slice p6 (digs B32 (x % y)).length c6] 26)) (by repeat (first | exact List.mem_cons_self .. | apply List.mem_cons_of_mem)); have hA := hK.get (F := Has 0 w.heap.size (.cells #[.slice p1 (digs B32 x).length c1] 26)) (by repeat (first | exact List.mem_cons_self .. | apply List.mem_cons_of_mem)); have hB := hK.get (F := Has 0 (w.heap.size + 1) (.cells #[.slice p2 (digs B32 y).length c2] 26)) (by repeat (first | exact List.mem_cons_self .. | apply List.mem_cons_of_mem)); have hR := hK.get (F := Has 0 (w.heap.size + 1 + 1) (.cells #[.slice none 0 0] 26)) (by repeat (first | exact List.mem_cons_self .. | apply List.mem_cons_of_mem)); have hN := hK.get (F := fun w => NatV w (.agg #[.slice p2 (digs B32 y).length c2]) y) (by repeat (first | exact List.mem_cons_self .. | apply List.mem_cons_of_mem)); have hN' := hK.get (F := fun w => NatV w (.agg #[.slice p6 (digs B32 (x % y)).length c6]) (x % y)) (by repeat (first | exact List.mem_cons_self .. | apply List.mem_cons_of_mem)); have k1 := hasCell hA; have f1 := hasFree hA; go_simp; exact ⟨rfl, ks_set h0 (Nat.le_refl _) _ (all1 (fun w2 hb => has_far g10 (by omega) _ hb) all0), ks_set hK (Nat.le_refl _) _ (all1 (fun w2 hb => has_set hA _ hb) (all1 (fun w2 hb => has_far hB (by omega) _ hb) (all1 (fun w2 hb => has_far hR (by omega) _ hb) (all1 (fun w2 hb => nat_set hN hA _ hb) (all1 (fun w2 hb => nat_set hN' hA _ hb) all0)))))⟩
          simp only [Act.put]
          apply lxS0 [Has 0 w.heap.size (.cells #[.slice p2 (digs B32 y).length c2] 26), Has 0 (w.heap.size + 1) (.cells #[.slice p6 (digs B32 (x % y)).length c6] 26), Has 0 (w.heap.size + 1 + 1) (.cells #[.slice none 0 0] 26), fun w => NatV w (.agg #[.slice p2 (digs B32 y).length c2]) y, fun w => NatV w (.agg #[.slice p6 (digs B32 (x % y)).length c6]) (x % y)] (wants0 rfl)
          · intro w' h0 hK; have g10 := h0.get (F := Has 0 R10 (.cells #[.slice p6 (digs B32 (x % y)).length c6] 26)) (by repeat (first | exact List.mem_cons_self .. | apply List.mem_cons_of_mem)); have hA := hK.get (F := Has 0 w.heap.size (.cells #[.slice p2 (digs B32 y).length c2] 26)) (by repeat (first | exact List.mem_cons_self .. | apply List.mem_cons_of_mem)); have hB := hK.get (F := Has 0 (w.heap.size + 1) (.cells #[.slice p2 (digs B32 y).length c2] 26)) (by repeat (first | exact List.mem_cons_self .. | apply List.mem_cons_of_mem)); have hR := hK.get (F := Has 0 (w.heap.size + 1 + 1) (.cells #[.slice none 0 0] 26)) (by repeat (first | exact List.mem_cons_self .. | apply List.mem_cons_of_mem)); have hN := hK.get (F := fun w => NatV w (.agg #[.slice p2 (digs B32 y).length c2]) y) (by repeat (first | exact List.mem_cons_self .. | apply List.mem_cons_of_mem)); have hN' := hK.get (F := fun w => NatV w (.agg #[.slice p6 (digs B32 (x % y)).length c6]) (x % y)) (by repeat (first | exact List.mem_cons_self .. | apply List.mem_cons_of_mem)); have k1 := hasCell hB; have f1 := hasFree hB; go_simp; exact ⟨rfl, ks_set h0 (by omega) _ (all1 (fun w2 hb => has_far g10 (by omega) _ hb) all0), ks_set hK (by omega) _ (all1 (fun w2 hb => has_far hA (by omega) _ hb) (all1 (fun w2 hb => has_set hB _ hb) (all1 (fun w2 hb => has_far hR (by omega) _ hb) (all1 (fun w2 hb => nat_set hN hB _ hb) (all1 (fun w2 hb => nat_set hN' hB _ hb) all0)))))⟩
          simp only [Act.put]
          refine lxEnd (fun W9 hK9 => ?_)
          have HL := hid (show x % y < y from Nat.mod_lt _ (by omega))
          have HG2 := hid (show Nat.gcd y (x % y) = d by rw [gcd_step, HG.out])
          go_wp2
          go_roundg (x % y)
          case measure => have := HJ.out; have := HL.out; omega
          case rel => exact ⟨y, x % y, rfl, ⟨p2, c2, (hK9.get (F := Has 0 w.heap.size (.cells #[.slice p2 (digs B32 y).length c2] 26)) (by repeat (first | exact List.mem_cons_self .. | apply List.mem_cons_of_mem))).2, hK9.get (F := fun w => NatV w (.agg #[.slice p2 (digs B32 y).length c2]) y) (by repeat (first | exact List.mem_cons_self .. | apply List.mem_cons_of_mem))⟩, ⟨p6, c6, (hK9.get (F := Has 0 (w.heap.size + 1) (.cells #[.slice p6 (digs B32 (x % y)).length c6] 26)) (by repeat (first | exact List.mem_cons_self .. | apply List.mem_cons_of_mem))).2, hK9.get (F := fun w => NatV w (.agg #[.slice p6 (digs B32 (x % y)).length c6]) (x % y)) (by repeat (first | exact List.mem_cons_self .. | apply List.mem_cons_of_mem))⟩, (hK9.get (F := Has 0 (w.heap.size + 1 + 1) (.cells #[.slice none 0 0] 26)) (by repeat (first | exact List.mem_cons_self .. | apply List.mem_cons_of_mem))).2, hK9.old, HG2.out, hly, Nat.le_trans (digs_mono (Nat.le_of_lt HL.out)) hly⟩

end Go.Proofs.YtepljhpamconbaaDoor
