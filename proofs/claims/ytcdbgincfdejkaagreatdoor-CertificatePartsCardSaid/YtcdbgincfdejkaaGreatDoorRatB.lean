/- Rational numbers: the sign, the parts. -/
import Derived.Test.YtcdbgincfdejkaaGreatDoorRatA
namespace Go.Proofs.YtcdbgincfdejkaaGreatDoor
open Go.RowKit
open Go.Lib (decDigits)
set_option maxRecDepth 100000 in
theorem sign_any (v : Value) (x : Rat) (w : World) (hv : RatV w v x) :
    Calls Tryz.prog 30 #[v] w fun e w' => e = .returned (.int .i64 (sgQ x)) ∧ Below w.heap.size w w' := by
  obtain ⟨p, l, c, q, m, d, rfl, h1, h2⟩ := hv
  have HZ := hid (fun w1 (hb : Below w.heap.size w w1) => isZero_any _ x.num.natAbs w1 (h1.below hb))
  unfold sgQ
  generalize isN x = b at *
  generalize x.num.natAbs = n at *
  clear h1 h2
  go_enter Tryz.func30, Tryz.ntmps30
  go_upto_region 1 with (fail)
  have hK := (KS.start w).box (.cells #[.bool b, .slice p l c, .slice q m d] 55)
  obtain ⟨W1, hW1⟩ : ∃ W1, W1 = w.alloc (.cells #[.bool b, .slice p l c, .slice q m d] 55) := ⟨_, rfl⟩
  rw [← hW1] at hK ⊢
  clear hW1
  have k := hK.get (F := Has 0 w.heap.size (.cells #[.bool b, .slice p l c, .slice q m d] 55)) (by repeat (first | exact List.mem_cons_self .. | apply List.mem_cons_of_mem))
  have k0 := k.c3.1
  have k1 := k.c3.2.1
  have b1 := k.lt
  by_cases h0 : n = 0
  · have h1 : (n == 0) = true := by simp [h0]
    go_wp2_with (go_at_call 78; refine (HZ.out _ hK.old).mono ?_; clear HZ; rintro e W2 ⟨rfl, hb⟩; replace hK := hK.step hb; replace k := hK.get (F := Has 0 w.heap.size (.cells #[.bool b, .slice p l c, .slice q m d] 55)) (by repeat (first | exact List.mem_cons_self .. | apply List.mem_cons_of_mem)); have k2 := k.c3.1; have b2 := k.lt; simp only [h1])
    go_ret
    exact ⟨rfl, hK.old⟩
  · have h1 : (n == 0) = false := by simp [h0]
    cases b
    · --
      go_wp2_with (go_at_call 78; refine (HZ.out _ hK.old).mono ?_; clear HZ; rintro e W2 ⟨rfl, hb⟩; replace hK := hK.step hb; replace k := hK.get (F := Has 0 w.heap.size (.cells #[.bool false, .slice p l c, .slice q m d] 55)) (by repeat (first | exact List.mem_cons_self .. | apply List.mem_cons_of_mem)); have k2 := k.c3.1; have b2 := k.lt; simp only [h1])
      go_ret
      exact ⟨rfl, hK.old⟩
    · --
      go_wp2_with (go_at_call 78; refine (HZ.out _ hK.old).mono ?_; clear HZ; rintro e W2 ⟨rfl, hb⟩; replace hK := hK.step hb; replace k := hK.get (F := Has 0 w.heap.size (.cells #[.bool true, .slice p l c, .slice q m d] 55)) (by repeat (first | exact List.mem_cons_self .. | apply List.mem_cons_of_mem)); have k2 := k.c3.1; have b2 := k.lt; simp only [h1])
      go_ret
      exact ⟨rfl, hK.old⟩
set_option maxRecDepth 100000 in
theorem den_any (v : Value) (x : Rat) (w : World) (hv : RatV w v x) :
    Calls Tryz.prog 149 #[v] w fun e w' => ∃ u, e = .returned u ∧ NatV w' u x.den ∧ Below w.heap.size w w' := by
  obtain ⟨p, l, c, q, m, d, rfl, h1, h2⟩ := hv
  have HZ := hid (fun w1 (hb : Below w.heap.size w w1) => isZero_any _ (den0 x) w1 (h2.below hb))
  have HO := hid (fun w1 => of_any 1 w1 (by omega))
  have HD := hid (one0_den0 x)
  generalize isN x = b at *
  generalize den0 x = n at *
  generalize x.den = dd at *
  clear h1
  go_enter Tryz.func149, Tryz.ntmps149
  go_upto_region 1 with (fail)
  have hK := (((KS.start w).add (F := fun w => NatV w (.agg #[.slice q m d]) n) fun w' hb => h2.below hb).box (.cells #[.bool b, .slice p l c, .slice q m d] 55)).box (.cells #[.slice none 0 0] 53)
  rw [World.size_alloc] at hK
  obtain ⟨W1, hW1⟩ : ∃ W1, W1 = (w.alloc (.cells #[.bool b, .slice p l c, .slice q m d] 55)).alloc (.cells #[.slice none 0 0] 53) := ⟨_, rfl⟩
  rw [← hW1] at hK ⊢
  clear hW1
  have k := hK.get (F := Has 0 w.heap.size (.cells #[.bool b, .slice p l c, .slice q m d] 55)) (by repeat (first | exact List.mem_cons_self .. | apply List.mem_cons_of_mem))
  have k1 := k.c3.2.2
  have b1 := k.lt
  by_cases h0 : n = 0
  · have e1 : (n == 0) = true := by simp [h0]
    have hd : dd = 1 := by have := HD.out; unfold one0 at this; rw [if_pos h0] at this; omega
    clear HD
    go_upto_region 2 with (go_at_call 78; refine (HZ.out _ hK.old).mono ?_; clear HZ; rintro e W2 ⟨rfl, hb⟩; replace hK := hK.step hb; simp only [e1])
    go_upto_region 3 with (go_at_call 140; refine (HO.out _).mono ?_; clear HO; rintro e W3 ⟨v, rfl, hx, hb⟩; replace hK := (hK.step hb).add (F := fun w => NatV w v 1) fun w' h => hx.below h; obtain ⟨P, C, rfl, _⟩ := hx.digp; have kR := hK.get (F := Has 0 (w.heap.size + 1) (.cells #[.slice none 0 0] 53)) (by repeat (first | exact List.mem_cons_self .. | apply List.mem_cons_of_mem)); have r1 := kR.lt; have r0 := hasCell kR; have rf := hasFree kR)
    go_wp2
    exact bodyPost_ret (v := .agg #[.slice P (digs B32 1).length C]) (by simp [results, Tryz.results149, go_sem, res_store kR.2]) rfl ⟨_, rfl, by rw [hd]; exact hx.store r0 _, hK.old.setCell (p := ⟨w.heap.size + 1, 0, none⟩) (Nat.le_succ _) _⟩
  · have e1 : (n == 0) = false := by simp [h0]
    have hd : dd = n := by have := HD.out; unfold one0 at this; rw [if_neg h0] at this; omega
    clear HD
    go_upto_region 3 with (go_at_call 78; refine (HZ.out _ hK.old).mono ?_; clear HZ; rintro e W2 ⟨rfl, hb⟩; replace hK := hK.step hb; replace k := hK.get (F := Has 0 w.heap.size (.cells #[.bool b, .slice p l c, .slice q m d] 55)) (by repeat (first | exact List.mem_cons_self .. | apply List.mem_cons_of_mem)); have k2 := k.c3.2.2; have b2 := k.lt; simp only [e1])
    have hn := hK.get (F := fun w => NatV w (.agg #[.slice q m d]) n) (by repeat (first | exact List.mem_cons_self .. | apply List.mem_cons_of_mem))
    have kR := hK.get (F := Has 0 (w.heap.size + 1) (.cells #[.slice none 0 0] 53)) (by repeat (first | exact List.mem_cons_self .. | apply List.mem_cons_of_mem))
    have r1 := kR.lt
    have r0 := hasCell kR
    have rf := hasFree kR
    go_wp2
    exact bodyPost_ret (v := .agg #[.slice q m d]) (by simp [results, Tryz.results149, go_sem, res_store kR.2]) rfl ⟨_, rfl, by rw [hd]; exact hn.store r0 _, hK.old.setCell (p := ⟨w.heap.size + 1, 0, none⟩) (Nat.le_succ _) _⟩
set_option maxRecDepth 100000 in
theorem qtimes_any (v u : Value) (n z : Nat) (w : World) (hv : NatV w v n) (hu : NatV w u z) (hl : (digs B32 n).length + (digs B32 z).length ≤ 1000000) :
    Calls Tryz.prog 121 #[v, u] w fun e w' => ∃ y, e = .returned y ∧ NatV w' y (n * one0 z) ∧ Below w.heap.size w w' := by
  obtain ⟨p, c, rfl, _⟩ := hv.digp
  obtain ⟨q, d, rfl, _⟩ := hu.digp
  have HZ := hid (fun w1 (h : NatV w1 _ z) => isZero_any (.agg #[.slice q (digs B32 z).length d]) z w1 h)
  have HM := hid (fun w1 (h : NatV w1 _ n) (h' : NatV w1 _ z) => mul_any (.agg #[.slice p (digs B32 n).length c]) (.agg #[.slice q (digs B32 z).length d]) n z w1 h h' hl)
  go_enter Tryz.func121, Tryz.ntmps121
  go_upto_region 1 with (fail)
  have hK := (((((KS.start w).add (F := fun w => NatV w (.agg #[.slice p (digs B32 n).length c]) n) fun w' hb => hv.below hb).add (F := fun w => NatV w (.agg #[.slice q (digs B32 z).length d]) z) fun w' hb => hu.below hb).box (.cells #[.slice p (digs B32 n).length c] 53)).box (.cells #[.slice q (digs B32 z).length d] 53)).box (.cells #[.slice none 0 0] 53)
  rw [World.size_alloc, World.size_alloc] at hK
  obtain ⟨W1, hW1⟩ : ∃ W1, W1 = ((w.alloc (.cells #[.slice p (digs B32 n).length c] 53)).alloc (.cells #[.slice q (digs B32 z).length d] 53)).alloc (.cells #[.slice none 0 0] 53) := ⟨_, rfl⟩
  rw [← hW1] at hK ⊢
  clear hW1 hv hu hl
  by_cases h0 : z = 0
  · have e1 : (z == 0) = true := by simp [h0]
    have hd : n * one0 z = n := by unfold one0; rw [if_pos h0, Nat.mul_one]
    clear HM h0
    have kA := hK.get (F := Has 0 w.heap.size (.cells #[.slice p (digs B32 n).length c] 53)) (by repeat (first | exact List.mem_cons_self .. | apply List.mem_cons_of_mem))
    have kB := hK.get (F := Has 0 (w.heap.size + 1) (.cells #[.slice q (digs B32 z).length d] 53)) (by repeat (first | exact List.mem_cons_self .. | apply List.mem_cons_of_mem))
    have kR := hK.get (F := Has 0 (w.heap.size + 1 + 1) (.cells #[.slice none 0 0] 53)) (by repeat (first | exact List.mem_cons_self .. | apply List.mem_cons_of_mem))
    have a0 := hasCell kA
    have a1 := hasCell kB
    have a2 := hasCell kR
    have rf := hasFree kR
    have b0 := kA.lt
    have b1 := kB.lt
    have b2 := kR.lt
    go_upto_region 2 with (go_at_call 78; refine (HZ.out _ (hK.get (F := fun w => NatV w _ z) (by repeat (first | exact List.mem_cons_self .. | apply List.mem_cons_of_mem)))).mono ?_; clear HZ; rintro e W2 ⟨rfl, hb⟩; replace hK := hK.step hb; clear kA kB kR a0 a1 a2 rf b0 b1 b2; simp only [e1])
    have kA := hK.get (F := Has 0 w.heap.size (.cells #[.slice p (digs B32 n).length c] 53)) (by repeat (first | exact List.mem_cons_self .. | apply List.mem_cons_of_mem))
    have kB := hK.get (F := Has 0 (w.heap.size + 1) (.cells #[.slice q (digs B32 z).length d] 53)) (by repeat (first | exact List.mem_cons_self .. | apply List.mem_cons_of_mem))
    have kR := hK.get (F := Has 0 (w.heap.size + 1 + 1) (.cells #[.slice none 0 0] 53)) (by repeat (first | exact List.mem_cons_self .. | apply List.mem_cons_of_mem))
    have a0 := hasCell kA
    have a1 := hasCell kB
    have a2 := hasCell kR
    have rf := hasFree kR
    have b0 := kA.lt
    have b1 := kB.lt
    have b2 := kR.lt
    have hn := hK.get (F := fun w => NatV w (.agg #[.slice p (digs B32 n).length c]) n) (by repeat (first | exact List.mem_cons_self .. | apply List.mem_cons_of_mem))
    go_wp2
    exact bodyPost_ret (v := .agg #[.slice p (digs B32 n).length c]) (by simp [results, Tryz.results121, go_sem, res_store kR.2]) rfl ⟨_, rfl, by rw [hd]; exact hn.store a2 _, hK.old.setCell (p := ⟨w.heap.size + 1 + 1, 0, none⟩) (show w.heap.size ≤ w.heap.size + 1 + 1 by omega) _⟩
  · have e1 : (z == 0) = false := by simp [h0]
    have hd : n * one0 z = n * z := by unfold one0; rw [if_neg h0]
    clear h0
    have kA := hK.get (F := Has 0 w.heap.size (.cells #[.slice p (digs B32 n).length c] 53)) (by repeat (first | exact List.mem_cons_self .. | apply List.mem_cons_of_mem))
    have kB := hK.get (F := Has 0 (w.heap.size + 1) (.cells #[.slice q (digs B32 z).length d] 53)) (by repeat (first | exact List.mem_cons_self .. | apply List.mem_cons_of_mem))
    have kR := hK.get (F := Has 0 (w.heap.size + 1 + 1) (.cells #[.slice none 0 0] 53)) (by repeat (first | exact List.mem_cons_self .. | apply List.mem_cons_of_mem))
    have a0 := hasCell kA
    have a1 := hasCell kB
    have a2 := hasCell kR
    have rf := hasFree kR
    have b0 := kA.lt
    have b1 := kB.lt
    have b2 := kR.lt
    go_upto_region 3 with (go_at_call 78; refine (HZ.out _ (hK.get (F := fun w => NatV w _ z) (by repeat (first | exact List.mem_cons_self .. | apply List.mem_cons_of_mem)))).mono ?_; clear HZ; rintro e W2 ⟨rfl, hb⟩; replace hK := hK.step hb; clear kA kB kR a0 a1 a2 rf b0 b1 b2; simp only [e1])
    have kA := hK.get (F := Has 0 w.heap.size (.cells #[.slice p (digs B32 n).length c] 53)) (by repeat (first | exact List.mem_cons_self .. | apply List.mem_cons_of_mem))
    have kB := hK.get (F := Has 0 (w.heap.size + 1) (.cells #[.slice q (digs B32 z).length d] 53)) (by repeat (first | exact List.mem_cons_self .. | apply List.mem_cons_of_mem))
    have kR := hK.get (F := Has 0 (w.heap.size + 1 + 1) (.cells #[.slice none 0 0] 53)) (by repeat (first | exact List.mem_cons_self .. | apply List.mem_cons_of_mem))
    have a0 := hasCell kA
    have a1 := hasCell kB
    have a2 := hasCell kR
    have rf := hasFree kR
    have b0 := kA.lt
    have b1 := kB.lt
    have b2 := kR.lt
    go_wp2_with (go_at_call 150; refine (HM.out _ (hK.get (F := fun w => NatV w _ n) (by repeat (first | exact List.mem_cons_self .. | apply List.mem_cons_of_mem))) (hK.get (F := fun w => NatV w _ z) (by repeat (first | exact List.mem_cons_self .. | apply List.mem_cons_of_mem)))).mono ?_; clear HM; rintro e W3 ⟨y, rfl, hy, hb⟩; obtain ⟨P, C, rfl, _⟩ := hy.digp; replace hK := hK.step hb; have kR' := hK.get (F := Has 0 (w.heap.size + 1 + 1) (.cells #[.slice none 0 0] 53)) (by repeat (first | exact List.mem_cons_self .. | apply List.mem_cons_of_mem)); have r2 := hasCell kR'; have rf2 := hasFree kR'; have r3 := kR'.lt)
    exact bodyPost_ret (v := .agg #[.slice P (digs B32 (n * z)).length C]) (by simp [results, Tryz.results121, go_sem, res_store kR'.2]) rfl ⟨_, rfl, by rw [hd]; exact hy.store r2 _, hK.old.setCell (p := ⟨w.heap.size + 1 + 1, 0, none⟩) (show w.heap.size ≤ w.heap.size + 1 + 1 by omega) _⟩
end Go.Proofs.YtcdbgincfdejkaaGreatDoor
