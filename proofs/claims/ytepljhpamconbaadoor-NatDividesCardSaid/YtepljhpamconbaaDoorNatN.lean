/- GCD of small numbers. -/
import Derived.Test.YtepljhpamconbaaDoorNatM
namespace Go.Proofs.YtepljhpamconbaaDoor
open Go.RowKit

theorem gcd_step (x y : Nat) : Nat.gcd y (x % y) = Nat.gcd x y := by rw [Nat.gcd_comm x y, Nat.gcd_rec y x, Nat.gcd_comm]

set_option maxRecDepth 100000 in
set_option maxHeartbeats 2000000 in
theorem gcd_64 (v u : Value) (n m : Nat) (w : World) (hv : NatV w v n) (hu : NatV w u m) (hn : n < 18446744073709551616) (hm : m < 18446744073709551616) :
    Calls Tryd.prog 24 #[v, u] w fun e w' => ∃ x, e = .returned x ∧ NatV w' x (Nat.gcd n m) ∧ Below w.heap.size w w' := by
  have HZ := hid (fun w1 (hb : Below w.heap.size w w1) => isZero_any u m w1 (hu.below hb))
  have HV := hid (fun w1 (hb : Below w.heap.size w w1) => hv.below hb)
  have HU := hid (fun w1 (hb : Below w.heap.size w w1) => uint64_any v n w1 (hv.below hb))
  have HU' := hid (fun w1 (hb : Below w.heap.size w w1) => uint64_any u m w1 (hu.below hb))
  rw [show u64V n = .tuple #[.int .u64 (n : Int), .bool true] by unfold u64V; rw [if_pos hn, decide_eq_true hn]] at HU
  rw [show u64V m = .tuple #[.int .u64 (m : Int), .bool true] by unfold u64V; rw [if_pos hm, decide_eq_true hm]] at HU'
  have HO := hid (fun g (hg : g < 18446744073709551616) w1 => of_any g w1 hg)
  obtain ⟨d, hd⟩ : ∃ d, Nat.gcd n m = d := ⟨_, rfl⟩
  rw [hd]
  have HD := hid hd
  clear hd
  obtain ⟨P, c, rfl, hp⟩ := hv.digp
  obtain ⟨Q, c', rfl, hq⟩ := hu.digp
  clear hp hq hv hu
  go_enter Tryd.func24, Tryd.ntmps24
  go_upto_region 1 with (fail)
  obtain ⟨W0, hW0, hsz, kA, kB, kR, hWb⟩ := box3_head (.slice P (digs B32 n).length c) (.slice Q (digs B32 m).length c') w
  rw [← hW0]
  have b1 : w.heap.size < W0.heap.size := by omega
  have b2 : w.heap.size + 1 < W0.heap.size := by omega
  have b3 : w.heap.size + 1 + 1 < W0.heap.size := by omega
  clear hW0 hsz
  have a1 := cell_box1 kB
  go_loopw [] (fun wr => RowKit.Hid (wr = W0)) (fun _ => 0)
  case atStart => exact hid rfl
  case round =>
    have hww := hrel.out
    subst hww
    clear hrel
    by_cases h0 : m = 0
    · subst h0
      have hdn : n = d := by rw [← HD.out, Nat.gcd_zero_right]
      have HDN := hid hdn
      clear hdn
      go_upto_region 10 with (go_at_call 18; refine (HZ.out _ hWb).mono ?_; clear HZ; rintro e W1 ⟨rfl, hw1⟩; have hb1 := hWb.trans (hw1.mono hWb.size))
      have kA1 := (hw1.block _ b1).trans kA
      have kR1 := (hw1.block _ b3).trans kR
      have a0 := cell_box1 kA1
      have cR := cell_box1 kR1
      have fR := free_box1 kR1
      clear a1
      have hc3 := res_store kR1 (.slice P (digs B32 n).length c)
      go_wp2
      have hdn := HDN.out
      subst hdn
      have hx := (HV.out _ hb1).store cR (.slice P (digs B32 n).length c)
      exact bodyPost_ret (v := .agg #[.slice P (digs B32 n).length c]) (by simp [results, Tryd.results24, go_sem, hc3]) rfl ⟨_, rfl, hx, hb1.setCell (p := ⟨w.heap.size + 1 + 1, 0, none⟩) (by show _ ≤ w.heap.size + 1 + 1; omega) _⟩
    · rw [show (m == 0) = false by rw [beq_eq_false_iff_ne]; omega] at HZ
      go_upto_region 2 with (go_at_call 18; refine (HZ.out _ hWb).mono ?_; clear HZ; rintro e W1 ⟨rfl, hw1⟩; have hb1 := hWb.trans (hw1.mono hWb.size))
      have kA1 := (hw1.block _ b1).trans kA
      have kB1 := (hw1.block _ b2).trans kB
      have kR1 := (hw1.block _ b3).trans kR
      have c1 := hw1.size
      clear a1 hw1 kA kB kR hWb
      have a0 := cell_box1 kA1
      go_upto_region 3 with (go_at_call 26; refine (HU.out _ hb1).mono ?_; clear HU; rintro e W2 ⟨rfl, hw2⟩; have hb2 := hb1.trans (hw2.mono hb1.size))
      have kB2 := (hw2.block _ (by omega)).trans kB1
      have kR2 := (hw2.block _ (by omega)).trans kR1
      have c2 := hw2.size
      clear a0 hw2 kA1 kB1 kR1 hb1
      have a1 := cell_box1 kB2
      go_upto_region 4 with (go_at_call 26; refine (HU'.out _ hb2).mono ?_; clear HU'; rintro e W3 ⟨rfl, hw3⟩; have hb3 := hb2.trans (hw3.mono hb2.size))
      have kR3 := (hw3.block _ (by omega)).trans kR2
      have c3 := hw3.size
      have b3' : w.heap.size + 1 + 1 < W3.heap.size := by omega
      clear a1 hw3 kB2 kR2 hb2 c1 c2 c3
      go_upto_region 5 with (fail)
      go_loopw [5, 7] (fun xv yv wl => ∃ x y : Nat, x < 18446744073709551616 ∧ y < 18446744073709551616 ∧ xv = .int .u64 (x : Int) ∧ yv = .int .u64 (y : Int) ∧ RowKit.Hid (Nat.gcd x y = d) ∧ Below W3.heap.size W3 wl) (fun _ yv _ => (intOf yv).toNat)
      case atStart => exact ⟨n, m, hn, hm, rfl, rfl, HD, Below.refl _ _⟩
      case round =>
        obtain ⟨x, y, hx, hy, rfl, rfl, HG, hbl⟩ := hrel
        generalize wr = W4 at hbl ⊢
        by_cases hy0 : y = 0
        · subst hy0
          have hxd : x = d := by rw [← HG.out, Nat.gcd_zero_right]
          subst hxd
          have HO1 := hid (fun w1 => HO.out x hx w1)
          go_wp2_with (go_at_call 28; refine (HO1.out _).mono ?_; clear HO1; rintro e W5 ⟨v, rfl, hv, hw5⟩; obtain ⟨p, c5, rfl, _⟩ := hv.dig; have hb5 := hbl.trans (hw5.mono hbl.size); have kR5 := (hb5.block _ b3').trans kR3; have cR := cell_box1 kR5; have fR := free_box1 kR5)
          have hc3 := res_store kR5 (.slice p (digs B32 x).length c5)
          exact bodyPost_ret (v := .agg #[.slice p (digs B32 x).length c5]) (by simp [results, Tryd.results24, go_sem, hc3]) rfl ⟨_, rfl, hv.store cR _, (hb3.trans (hb5.mono (by omega))).setCell (p := ⟨w.heap.size + 1 + 1, 0, none⟩) (by show _ ≤ w.heap.size + 1 + 1; omega) _⟩
        · have hyi : ((y : Int) != 0) = true := by rw [bne_iff_ne]; omega
          have hr1 : (x : Int) % (y : Int) < 18446744073709551616 := by
            have e : (x : Int) % (y : Int) = ((x % y : Nat) : Int) := rfl
            have := Nat.mod_le x y
            rw [e]; omega
          have hr2 : 0 ≤ (x : Int) % (y : Int) := Int.natCast_nonneg (x % y)
          have HL := hid (show x % y < y from Nat.mod_lt _ (by omega))
          have HG2 := hid (show Nat.gcd y (x % y) = d by rw [gcd_step, HG.out])
          go_upto_region 6 with (fail)
          refine wp_region_staged (fun w' => Below W3.heap.size W3 w') [0, 0, 0, 0, 0, 0] (by kernel_rfl) (by kernel_rfl) (by kernel_rfl) (by exact hbl.drew) ?_
          apply lexF rfl; (· intro _; go_simp; (try go_bits); exact ⟨rfl, rfl⟩); simp only [Act.put, List.setIfInBounds_toArray, List.set_cons_zero, List.set_cons_succ]
          apply lexF rfl; (· intro _; go_simp; (try go_bits); exact ⟨rfl, rfl⟩); simp only [Act.put, List.setIfInBounds_toArray, List.set_cons_zero, List.set_cons_succ]
          apply lexF rfl; (· intro _; go_simp; (try go_bits); exact ⟨rfl, rfl⟩); simp only [Act.put, List.setIfInBounds_toArray, List.set_cons_zero, List.set_cons_succ]
          apply lexF rfl; (· intro _; go_simp; (try go_bits); exact ⟨rfl, rfl⟩); simp only [Act.put, List.setIfInBounds_toArray, List.set_cons_zero, List.set_cons_succ]
          apply lexF rfl; (· intro _; go_simp; (try go_bits); exact ⟨rfl, rfl⟩); simp only [Act.put, List.setIfInBounds_toArray, List.set_cons_zero, List.set_cons_succ]
          apply lexF rfl; (· intro _; go_simp; (try go_bits); exact ⟨rfl, rfl⟩); simp only [Act.put, List.setIfInBounds_toArray, List.set_cons_zero, List.set_cons_succ]
          refine lexEnd (fun W5 hw5 => ?_)
          go_wp2
          go_roundw
          case rel => exact ⟨y, x % y, hy, by have := HL.out; omega, rfl, rfl, HG2, hw5⟩
          case measure =>
            have := HL.out
            show ((x : Int) % (y : Int)).toNat < ((y : Int)).toNat
            have e : (x : Int) % (y : Int) = ((x % y : Nat) : Int) := rfl
            rw [e]; omega

end Go.Proofs.YtepljhpamconbaaDoor
