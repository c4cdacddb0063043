/- Rational numbers: the sign, the parts. Rational numbers: signed sums. -/
import Derived.Test.YtokhapaffleffaaRatA
namespace Go.Proofs.Ytokhapaffleffaa
open Go.RowKit
open Go.Lib (decDigits)
set_option maxRecDepth 100000 in
theorem sign_any (v : Value) (x : Rat) (w : World) (hv : RatV w v x) :
    Calls Try.prog 26 #[v] w fun e w' => e = .returned (.int .i64 (sgQ x)) ∧ Below w.heap.size w w' := by
  obtain ⟨p, l, c, q, m, d, rfl, h1, h2⟩ := hv
  have HZ := hid (fun w1 (hb : Below w.heap.size w w1) => isZero_any _ x.num.natAbs w1 (h1.below hb))
  unfold sgQ
  generalize isN x = b at *
  generalize x.num.natAbs = n at *
  clear h1 h2
  go_enter Try.func26, Try.ntmps26
  go_upto_region 1 with (fail)
  have hK := (KS.start w).box (.cells #[.bool b, .slice p l c, .slice q m d] 47)
  obtain ⟨W1, hW1⟩ : ∃ W1, W1 = w.alloc (.cells #[.bool b, .slice p l c, .slice q m d] 47) := ⟨_, rfl⟩
  rw [← hW1] at hK ⊢
  clear hW1
  have k := hK.get (F := Has 0 w.heap.size (.cells #[.bool b, .slice p l c, .slice q m d] 47)) (by repeat (first | exact List.mem_cons_self .. | apply List.mem_cons_of_mem))
  have k0 := k.c3.1
  have k1 := k.c3.2.1
  have b1 := k.lt
  by_cases h0 : n = 0
  · have h1 : (n == 0) = true := by simp [h0]
    go_wp2_with (go_at_call 49; refine (HZ.out _ hK.old).mono ?_; clear HZ; rintro e W2 ⟨rfl, hb⟩; replace hK := hK.step hb; replace k := hK.get (F := Has 0 w.heap.size (.cells #[.bool b, .slice p l c, .slice q m d] 47)) (by repeat (first | exact List.mem_cons_self .. | apply List.mem_cons_of_mem)); have k2 := k.c3.1; have b2 := k.lt; simp only [h1])
    go_ret
    exact ⟨rfl, hK.old⟩
  · have h1 : (n == 0) = false := by simp [h0]
    cases b
    · --
      go_wp2_with (go_at_call 49; refine (HZ.out _ hK.old).mono ?_; clear HZ; rintro e W2 ⟨rfl, hb⟩; replace hK := hK.step hb; replace k := hK.get (F := Has 0 w.heap.size (.cells #[.bool false, .slice p l c, .slice q m d] 47)) (by repeat (first | exact List.mem_cons_self .. | apply List.mem_cons_of_mem)); have k2 := k.c3.1; have b2 := k.lt; simp only [h1])
      go_ret
      exact ⟨rfl, hK.old⟩
    · --
      go_wp2_with (go_at_call 49; refine (HZ.out _ hK.old).mono ?_; clear HZ; rintro e W2 ⟨rfl, hb⟩; replace hK := hK.step hb; replace k := hK.get (F := Has 0 w.heap.size (.cells #[.bool true, .slice p l c, .slice q m d] 47)) (by repeat (first | exact List.mem_cons_self .. | apply List.mem_cons_of_mem)); have k2 := k.c3.1; have b2 := k.lt; simp only [h1])
      go_ret
      exact ⟨rfl, hK.old⟩
set_option maxRecDepth 100000 in
theorem den_any (v : Value) (x : Rat) (w : World) (hv : RatV w v x) :
    Calls Try.prog 51 #[v] w fun e w' => ∃ u, e = .returned u ∧ NatV w' u x.den ∧ Below w.heap.size w w' := by
  obtain ⟨p, l, c, q, m, d, rfl, h1, h2⟩ := hv
  have HZ := hid (fun w1 (hb : Below w.heap.size w w1) => isZero_any _ (den0 x) w1 (h2.below hb))
  have HO := hid (fun w1 => of_any 1 w1 (by omega))
  have HD := hid (one0_den0 x)
  generalize isN x = b at *
  generalize den0 x = n at *
  generalize x.den = dd at *
  clear h1
  go_enter Try.func51, Try.ntmps51
  go_upto_region 1 with (fail)
  have hK := (((KS.start w).add (F := fun w => NatV w (.agg #[.slice q m d]) n) fun w' hb => h2.below hb).box (.cells #[.bool b, .slice p l c, .slice q m d] 47)).box (.cells #[.slice none 0 0] 45)
  rw [World.size_alloc] at hK
  obtain ⟨W1, hW1⟩ : ∃ W1, W1 = (w.alloc (.cells #[.bool b, .slice p l c, .slice q m d] 47)).alloc (.cells #[.slice none 0 0] 45) := ⟨_, rfl⟩
  rw [← hW1] at hK ⊢
  clear hW1
  have k := hK.get (F := Has 0 w.heap.size (.cells #[.bool b, .slice p l c, .slice q m d] 47)) (by repeat (first | exact List.mem_cons_self .. | apply List.mem_cons_of_mem))
  have k1 := k.c3.2.2
  have b1 := k.lt
  by_cases h0 : n = 0
  · have e1 : (n == 0) = true := by simp [h0]
    have hd : dd = 1 := by have := HD.out; unfold one0 at this; rw [if_pos h0] at this; omega
    clear HD
    go_upto_region 2 with (go_at_call 49; refine (HZ.out _ hK.old).mono ?_; clear HZ; rintro e W2 ⟨rfl, hb⟩; replace hK := hK.step hb; simp only [e1])
    go_upto_region 3 with (go_at_call 52; refine (HO.out _).mono ?_; clear HO; rintro e W3 ⟨v, rfl, hx, hb⟩; replace hK := (hK.step hb).add (F := fun w => NatV w v 1) fun w' h => hx.below h; obtain ⟨P, C, rfl, _⟩ := hx.digp; have kR := hK.get (F := Has 0 (w.heap.size + 1) (.cells #[.slice none 0 0] 45)) (by repeat (first | exact List.mem_cons_self .. | apply List.mem_cons_of_mem)); have r1 := kR.lt; have r0 := hasCell kR; have rf := hasFree kR)
    go_wp2
    exact bodyPost_ret (v := .agg #[.slice P (digs B32 1).length C]) (by simp [results, Try.results51, go_sem, res_store kR.2]) rfl ⟨_, rfl, by rw [hd]; exact hx.store r0 _, hK.old.setCell (p := ⟨w.heap.size + 1, 0, none⟩) (Nat.le_succ _) _⟩
  · have e1 : (n == 0) = false := by simp [h0]
    have hd : dd = n := by have := HD.out; unfold one0 at this; rw [if_neg h0] at this; omega
    clear HD
    go_upto_region 3 with (go_at_call 49; refine (HZ.out _ hK.old).mono ?_; clear HZ; rintro e W2 ⟨rfl, hb⟩; replace hK := hK.step hb; replace k := hK.get (F := Has 0 w.heap.size (.cells #[.bool b, .slice p l c, .slice q m d] 47)) (by repeat (first | exact List.mem_cons_self .. | apply List.mem_cons_of_mem)); have k2 := k.c3.2.2; have b2 := k.lt; simp only [e1])
    have hn := hK.get (F := fun w => NatV w (.agg #[.slice q m d]) n) (by repeat (first | exact List.mem_cons_self .. | apply List.mem_cons_of_mem))
    have kR := hK.get (F := Has 0 (w.heap.size + 1) (.cells #[.slice none 0 0] 45)) (by repeat (first | exact List.mem_cons_self .. | apply List.mem_cons_of_mem))
    have r1 := kR.lt
    have r0 := hasCell kR
    have rf := hasFree kR
    go_wp2
    exact bodyPost_ret (v := .agg #[.slice q m d]) (by simp [results, Try.results51, go_sem, res_store kR.2]) rfl ⟨_, rfl, by rw [hd]; exact hn.store r0 _, hK.old.setCell (p := ⟨w.heap.size + 1, 0, none⟩) (Nat.le_succ _) _⟩
set_option maxRecDepth 100000 in
theorem qtimes_any (v u : Value) (n z : Nat) (w : World) (hv : NatV w v n) (hu : NatV w u z) (hl : (digs B32 n).length + (digs B32 z).length ≤ 1000000) :
    Calls Try.prog 32 #[v, u] w fun e w' => ∃ y, e = .returned y ∧ NatV w' y (n * one0 z) ∧ Below w.heap.size w w' := by
  obtain ⟨p, c, rfl, _⟩ := hv.digp
  obtain ⟨q, d, rfl, _⟩ := hu.digp
  have HZ := hid (fun w1 (h : NatV w1 _ z) => isZero_any (.agg #[.slice q (digs B32 z).length d]) z w1 h)
  have HM := hid (fun w1 (h : NatV w1 _ n) (h' : NatV w1 _ z) => mul_any (.agg #[.slice p (digs B32 n).length c]) (.agg #[.slice q (digs B32 z).length d]) n z w1 h h' hl)
  go_enter Try.func32, Try.ntmps32
  go_upto_region 1 with (fail)
  have hK := (((((KS.start w).add (F := fun w => NatV w (.agg #[.slice p (digs B32 n).length c]) n) fun w' hb => hv.below hb).add (F := fun w => NatV w (.agg #[.slice q (digs B32 z).length d]) z) fun w' hb => hu.below hb).box (.cells #[.slice p (digs B32 n).length c] 45)).box (.cells #[.slice q (digs B32 z).length d] 45)).box (.cells #[.slice none 0 0] 45)
  rw [World.size_alloc, World.size_alloc] at hK
  obtain ⟨W1, hW1⟩ : ∃ W1, W1 = ((w.alloc (.cells #[.slice p (digs B32 n).length c] 45)).alloc (.cells #[.slice q (digs B32 z).length d] 45)).alloc (.cells #[.slice none 0 0] 45) := ⟨_, rfl⟩
  rw [← hW1] at hK ⊢
  clear hW1 hv hu hl
  by_cases h0 : z = 0
  · have e1 : (z == 0) = true := by simp [h0]
    have hd : n * one0 z = n := by unfold one0; rw [if_pos h0, Nat.mul_one]
    clear HM h0
    have kA := hK.get (F := Has 0 w.heap.size (.cells #[.slice p (digs B32 n).length c] 45)) (by repeat (first | exact List.mem_cons_self .. | apply List.mem_cons_of_mem))
    have kB := hK.get (F := Has 0 (w.heap.size + 1) (.cells #[.slice q (digs B32 z).length d] 45)) (by repeat (first | exact List.mem_cons_self .. | apply List.mem_cons_of_mem))
    have kR := hK.get (F := Has 0 (w.heap.size + 1 + 1) (.cells #[.slice none 0 0] 45)) (by repeat (first | exact List.mem_cons_self .. | apply List.mem_cons_of_mem))
    have a0 := hasCell kA
    have a1 := hasCell kB
    have a2 := hasCell kR
    have rf := hasFree kR
    have b0 := kA.lt
    have b1 := kB.lt
    have b2 := kR.lt
    go_upto_region 2 with (go_at_call 49; refine (HZ.out _ (hK.get (F := fun w => NatV w _ z) (by repeat (first | exact List.mem_cons_self .. | apply List.mem_cons_of_mem)))).mono ?_; clear HZ; rintro e W2 ⟨rfl, hb⟩; replace hK := hK.step hb; clear kA kB kR a0 a1 a2 rf b0 b1 b2; simp only [e1])
    have kA := hK.get (F := Has 0 w.heap.size (.cells #[.slice p (digs B32 n).length c] 45)) (by repeat (first | exact List.mem_cons_self .. | apply List.mem_cons_of_mem))
    have kB := hK.get (F := Has 0 (w.heap.size + 1) (.cells #[.slice q (digs B32 z).length d] 45)) (by repeat (first | exact List.mem_cons_self .. | apply List.mem_cons_of_mem))
    have kR := hK.get (F := Has 0 (w.heap.size + 1 + 1) (.cells #[.slice none 0 0] 45)) (by repeat (first | exact List.mem_cons_self .. | apply List.mem_cons_of_mem))
    have a0 := hasCell kA
    have a1 := hasCell kB
    have a2 := hasCell kR
    have rf := hasFree kR
    have b0 := kA.lt
    have b1 := kB.lt
    have b2 := kR.lt
    have hn := hK.get (F := fun w => NatV w (.agg #[.slice p (digs B32 n).length c]) n) (by repeat (first | exact List.mem_cons_self .. | apply List.mem_cons_of_mem))
    go_wp2
    exact bodyPost_ret (v := .agg #[.slice p (digs B32 n).length c]) (by simp [results, Try.results32, go_sem, res_store kR.2]) rfl ⟨_, rfl, by rw [hd]; exact hn.store a2 _, hK.old.setCell (p := ⟨w.heap.size + 1 + 1, 0, none⟩) (show w.heap.size ≤ w.heap.size + 1 + 1 by omega) _⟩
  · have e1 : (z == 0) = false := by simp [h0]
    have hd : n * one0 z = n * z := by unfold one0; rw [if_neg h0]
    clear h0
    have kA := hK.get (F := Has 0 w.heap.size (.cells #[.slice p (digs B32 n).length c] 45)) (by repeat (first | exact List.mem_cons_self .. | apply List.mem_cons_of_mem))
    have kB := hK.get (F := Has 0 (w.heap.size + 1) (.cells #[.slice q (digs B32 z).length d] 45)) (by repeat (first | exact List.mem_cons_self .. | apply List.mem_cons_of_mem))
    have kR := hK.get (F := Has 0 (w.heap.size + 1 + 1) (.cells #[.slice none 0 0] 45)) (by repeat (first | exact List.mem_cons_self .. | apply List.mem_cons_of_mem))
    have a0 := hasCell kA
    have a1 := hasCell kB
    have a2 := hasCell kR
    have rf := hasFree kR
    have b0 := kA.lt
    have b1 := kB.lt
    have b2 := kR.lt
    go_upto_region 3 with (go_at_call 49; refine (HZ.out _ (hK.get (F := fun w => NatV w _ z) (by repeat (first | exact List.mem_cons_self .. | apply List.mem_cons_of_mem)))).mono ?_; clear HZ; rintro e W2 ⟨rfl, hb⟩; replace hK := hK.step hb; clear kA kB kR a0 a1 a2 rf b0 b1 b2; simp only [e1])
    have kA := hK.get (F := Has 0 w.heap.size (.cells #[.slice p (digs B32 n).length c] 45)) (by repeat (first | exact List.mem_cons_self .. | apply List.mem_cons_of_mem))
    have kB := hK.get (F := Has 0 (w.heap.size + 1) (.cells #[.slice q (digs B32 z).length d] 45)) (by repeat (first | exact List.mem_cons_self .. | apply List.mem_cons_of_mem))
    have kR := hK.get (F := Has 0 (w.heap.size + 1 + 1) (.cells #[.slice none 0 0] 45)) (by repeat (first | exact List.mem_cons_self .. | apply List.mem_cons_of_mem))
    have a0 := hasCell kA
    have a1 := hasCell kB
    have a2 := hasCell kR
    have rf := hasFree kR
    have b0 := kA.lt
    have b1 := kB.lt
    have b2 := kR.lt
    go_wp2_with (go_at_call 56; refine (HM.out _ (hK.get (F := fun w => NatV w _ n) (by repeat (first | exact List.mem_cons_self .. | apply List.mem_cons_of_mem))) (hK.get (F := fun w => NatV w _ z) (by repeat (first | exact List.mem_cons_self .. | apply List.mem_cons_of_mem)))).mono ?_; clear HM; rintro e W3 ⟨y, rfl, hy, hb⟩; obtain ⟨P, C, rfl, _⟩ := hy.digp; replace hK := hK.step hb; have kR' := hK.get (F := Has 0 (w.heap.size + 1 + 1) (.cells #[.slice none 0 0] 45)) (by repeat (first | exact List.mem_cons_self .. | apply List.mem_cons_of_mem)); have r2 := hasCell kR'; have rf2 := hasFree kR'; have r3 := kR'.lt)
    exact bodyPost_ret (v := .agg #[.slice P (digs B32 (n * z)).length C]) (by simp [results, Try.results32, go_sem, res_store kR'.2]) rfl ⟨_, rfl, by rw [hd]; exact hy.store r2 _, hK.old.setCell (p := ⟨w.heap.size + 1 + 1, 0, none⟩) (show w.heap.size ≤ w.heap.size + 1 + 1 by omega) _⟩
end Go.Proofs.Ytokhapaffleffaa
namespace Go.Proofs.Ytokhapaffleffaa
open Go.RowKit
open Go.Lib (decDigits)
def sgnd (s : Bool) (n : Nat) (t : Bool) (m : Nat) : Bool × Nat := if s = t then (s, n + m) else if m ≤ n then (s, n - m) else (t, m - n)
theorem sgnd_eq (s : Bool) (n : Nat) (t : Bool) (m : Nat) : sgn (sgnd s n t m).1 (sgnd s n t m).2 = sgn s n + sgn t m := by
  unfold sgnd sgn
  cases s <;> cases t <;> simp <;> first | omega | (split <;> simp <;> omega)
set_option maxRecDepth 100000 in
theorem signed_same (s : Bool) (v u : Value) (n m : Nat) (w : World) (hv : NatV w v n) (hu : NatV w u m) (h1 : (digs B32 n).length < 1000000) (h2 : (digs B32 m).length < 1000000) :
    Calls Try.prog 50 #[.bool s, v, .bool s, u] w fun e w' => ∃ y, e = .returned (.tuple #[.bool s, y]) ∧ NatV w' y (n + m) ∧ Below w.heap.size w w' := by
  obtain ⟨p, c, rfl, _⟩ := hv.digp
  obtain ⟨q, d, rfl, _⟩ := hu.digp
  have HM := hid (fun w1 (h : NatV w1 _ n) (h' : NatV w1 _ m) => add_any (.agg #[.slice p (digs B32 n).length c]) (.agg #[.slice q (digs B32 m).length d]) n m w1 h h' h1 h2)
  clear h1 h2
  go_enter Try.func50, Try.ntmps50
  go_upto_region 1 with (fail)
  have hK := (((((KS.start w).add (F := fun w => NatV w (.agg #[.slice p (digs B32 n).length c]) n) fun w' hb => hv.below hb).add (F := fun w => NatV w (.agg #[.slice q (digs B32 m).length d]) m) fun w' hb => hu.below hb).box (.cells #[.slice p (digs B32 n).length c] 45)).box (.cells #[.slice q (digs B32 m).length d] 45)).box (.cells #[.slice none 0 0] 45)
  rw [World.size_alloc, World.size_alloc] at hK
  obtain ⟨W1, hW1⟩ : ∃ W1, W1 = ((w.alloc (.cells #[.slice p (digs B32 n).length c] 45)).alloc (.cells #[.slice q (digs B32 m).length d] 45)).alloc (.cells #[.slice none 0 0] 45) := ⟨_, rfl⟩
  rw [← hW1] at hK ⊢
  clear hW1 hv hu
  have kA := hK.get (F := Has 0 w.heap.size (.cells #[.slice p (digs B32 n).length c] 45)) (by repeat (first | exact List.mem_cons_self .. | apply List.mem_cons_of_mem))
  have kB := hK.get (F := Has 0 (w.heap.size + 1) (.cells #[.slice q (digs B32 m).length d] 45)) (by repeat (first | exact List.mem_cons_self .. | apply List.mem_cons_of_mem))
  have a0 := hasCell kA
  have a1 := hasCell kB
  have b0 := kA.lt
  have b1 := kB.lt
  have hss : (s == s) = true := by simp
  go_upto_region 2 with (fail)
  go_wp2_with (go_at_call 67; refine (HM.out _ (hK.get (F := fun w => NatV w _ n) (by repeat (first | exact List.mem_cons_self .. | apply List.mem_cons_of_mem))) (hK.get (F := fun w => NatV w _ m) (by repeat (first | exact List.mem_cons_self .. | apply List.mem_cons_of_mem)))).mono ?_; clear HM; rintro e W3 ⟨y, rfl, hy, hb⟩; obtain ⟨P, C, rfl, _⟩ := hy.digp; replace hK := hK.step hb; have kR' := hK.get (F := Has 0 (w.heap.size + 1 + 1) (.cells #[.slice none 0 0] 45)) (by repeat (first | exact List.mem_cons_self .. | apply List.mem_cons_of_mem)); have r2 := hasCell kR'; have rf2 := hasFree kR'; have r3 := kR'.lt)
  exact bodyPost_ret (v := .tuple #[.bool s, .agg #[.slice P (digs B32 (n + m)).length C]]) (by simp [results, Try.results50, go_sem, res_store kR'.2]) rfl ⟨_, rfl, hy.store r2 _, hK.old.setCell (p := ⟨w.heap.size + 1 + 1, 0, none⟩) (show w.heap.size ≤ w.heap.size + 1 + 1 by omega) _⟩
set_option maxRecDepth 100000 in
theorem signed_ge (s t : Bool) (hst : (s == t) = false) (v u : Value) (n m : Nat) (w : World) (hv : NatV w v n) (hu : NatV w u m) (h1 : (digs B32 n).length < 1000000) (h2 : (digs B32 m).length < 1000000) (hle : m ≤ n) :
    Calls Try.prog 50 #[.bool s, v, .bool t, u] w fun e w' => ∃ y, e = .returned (.tuple #[.bool s, y]) ∧ NatV w' y (n - m) ∧ Below w.heap.size w w' := by
  obtain ⟨p, c, rfl, _⟩ := hv.digp
  obtain ⟨q, d, rfl, _⟩ := hu.digp
  have HC := hid (fun w1 (h : NatV w1 _ n) (h' : NatV w1 _ m) => cmp_any (.agg #[.slice p (digs B32 n).length c]) (.agg #[.slice q (digs B32 m).length d]) n m w1 h h' (by omega) (by omega))
  have HS := hid (fun w1 (h : NatV w1 _ n) (h' : NatV w1 _ m) => sub_any (.agg #[.slice p (digs B32 n).length c]) (.agg #[.slice q (digs B32 m).length d]) n m w1 h h' h1 h2)
  have hc : 0 ≤ cmpN n m := by unfold cmpN; split <;> (try split) <;> omega
  obtain ⟨z, hz⟩ : ∃ z, cmpN n m = z := ⟨_, rfl⟩
  rw [hz] at HC hc
  rw [if_neg (by omega)] at HS
  clear h1 h2 hz hle
  go_enter Try.func50, Try.ntmps50
  go_upto_region 1 with (fail)
  have hK := (((((KS.start w).add (F := fun w => NatV w (.agg #[.slice p (digs B32 n).length c]) n) fun w' hb => hv.below hb).add (F := fun w => NatV w (.agg #[.slice q (digs B32 m).length d]) m) fun w' hb => hu.below hb).box (.cells #[.slice p (digs B32 n).length c] 45)).box (.cells #[.slice q (digs B32 m).length d] 45)).box (.cells #[.slice none 0 0] 45)
  rw [World.size_alloc, World.size_alloc] at hK
  obtain ⟨W1, hW1⟩ : ∃ W1, W1 = ((w.alloc (.cells #[.slice p (digs B32 n).length c] 45)).alloc (.cells #[.slice q (digs B32 m).length d] 45)).alloc (.cells #[.slice none 0 0] 45) := ⟨_, rfl⟩
  rw [← hW1] at hK ⊢
  clear hW1 hv hu
  have kA := hK.get (F := Has 0 w.heap.size (.cells #[.slice p (digs B32 n).length c] 45)) (by repeat (first | exact List.mem_cons_self .. | apply List.mem_cons_of_mem))
  have kB := hK.get (F := Has 0 (w.heap.size + 1) (.cells #[.slice q (digs B32 m).length d] 45)) (by repeat (first | exact List.mem_cons_self .. | apply List.mem_cons_of_mem))
  have a0 := hasCell kA
  have a1 := hasCell kB
  have b0 := kA.lt
  have b1 := kB.lt
  go_upto_region 4 with (go_at_call 31; refine (HC.out _ (hK.get (F := fun w => NatV w _ n) (by repeat (first | exact List.mem_cons_self .. | apply List.mem_cons_of_mem))) (hK.get (F := fun w => NatV w _ m) (by repeat (first | exact List.mem_cons_self .. | apply List.mem_cons_of_mem)))).mono ?_; clear HC; rintro e W3 ⟨rfl, hb⟩; replace hK := hK.step hb; clear kA kB a0 a1 b0 b1)
  have kA := hK.get (F := Has 0 w.heap.size (.cells #[.slice p (digs B32 n).length c] 45)) (by repeat (first | exact List.mem_cons_self .. | apply List.mem_cons_of_mem))
  have kB := hK.get (F := Has 0 (w.heap.size + 1) (.cells #[.slice q (digs B32 m).length d] 45)) (by repeat (first | exact List.mem_cons_self .. | apply List.mem_cons_of_mem))
  have a0 := hasCell kA
  have a1 := hasCell kB
  have b0 := kA.lt
  have b1 := kB.lt
  go_upto_region 5 with (go_at_call 68; refine (HS.out _ (hK.get (F := fun w => NatV w _ n) (by repeat (first | exact List.mem_cons_self .. | apply List.mem_cons_of_mem))) (hK.get (F := fun w => NatV w _ m) (by repeat (first | exact List.mem_cons_self .. | apply List.mem_cons_of_mem)))).mono ?_; clear HS; rintro e W4 ⟨y, rfl, hy, hb⟩; obtain ⟨P, C, rfl, _⟩ := hy.digp; replace hK := (hK.step hb).add (F := fun w => NatV w _ (n - m)) fun w' h => hy.below h)
  have hK := hK.box (.cells #[.slice P (digs B32 (n - m)).length C] 45)
  obtain ⟨W5, R5, hW5, hR5⟩ : ∃ W5 R5, W5 = W4.alloc (.cells #[.slice P (digs B32 (n - m)).length C] 45) ∧ R5 = W4.heap.size := ⟨_, _, rfl, rfl⟩
  rw [← hR5, ← hW5] at hK ⊢
  clear hW5 hR5 kA kB a0 a1 b0 b1
  refine wp_region_float (w) _ [0, 1, 0, 4] (by kernel_rfl) (by kernel_rfl) (by kernel_rfl) (by kernel_rfl) (KS.drew hK) ?_
  apply lxF0 (wants0 rfl); (· intro w' h0; have hw' := h0.old; go_simp; (try go_bits); exact ⟨rfl, rfl⟩); simp only [Act.put, List.setIfInBounds_toArray, List.set_cons_zero, List.set_cons_succ]
  apply lxR0 (wants0 rfl); (· intro w' h0 hK; have hw' := hK.old; have c1 := hasCell (hK.get (F := Has 0 R5 (.cells #[.slice P (digs B32 (n - m)).length C] 45)) (by repeat (first | exact List.mem_cons_self .. | apply List.mem_cons_of_mem))); go_simp; (try go_bits); exact ⟨rfl, rfl⟩); simp only [Act.put, List.setIfInBounds_toArray, List.set_cons_zero, List.set_cons_succ]
  apply lxF0 (wants0 rfl); (· intro w' h0; have hw' := h0.old; go_simp; (try go_bits); exact ⟨rfl, rfl⟩); simp only [Act.put, List.setIfInBounds_toArray, List.set_cons_zero, List.set_cons_succ]
  apply lxS0 [Has 0 (w.heap.size + 1 + 1) (.cells #[.slice P (digs B32 (n - m)).length C] 45), fun w => NatV w (.agg #[.slice P (digs B32 (n - m)).length C]) (n - m)] (wants0 rfl)
  · intro w' h0 hK; have hR := hK.get (F := Has 0 (w.heap.size + 1 + 1) (.cells #[.slice none 0 0] 45)) (by repeat (first | exact List.mem_cons_self .. | apply List.mem_cons_of_mem)); have hN := hK.get (F := fun w => NatV w (.agg #[.slice P (digs B32 (n - m)).length C]) (n - m)) (by repeat (first | exact List.mem_cons_self .. | apply List.mem_cons_of_mem)); have c1 := hasCell hR; have f1 := hasFree hR; go_simp; exact ⟨rfl, ks_set h0 (by omega) _ all0, ks_set hK (by omega) _ (all1 (fun w2 hb => has_set hR _ hb) (all1 (fun w2 hb => nat_set hN hR _ hb) all0))⟩
  simp only [Act.put]
  refine lxEnd (fun W9 hK9 => ?_)
  have k := hasCell (hK9.get (F := Has 0 (w.heap.size + 1 + 1) (.cells #[.slice P (digs B32 (n - m)).length C] 45)) (by repeat (first | exact List.mem_cons_self .. | apply List.mem_cons_of_mem)))
  have hx := hK9.get (F := fun w => NatV w (.agg #[.slice P (digs B32 (n - m)).length C]) (n - m)) (by repeat (first | exact List.mem_cons_self .. | apply List.mem_cons_of_mem))
  go_wp2
  exact bodyPost_ret (v := .tuple #[.bool s, .agg #[.slice P (digs B32 (n - m)).length C]]) (by simp [results, Try.results50, go_sem, k]) rfl ⟨_, rfl, hx, hK9.old⟩
set_option maxRecDepth 100000 in
theorem signed_lt (s t : Bool) (hst : (s == t) = false) (v u : Value) (n m : Nat) (w : World) (hv : NatV w v n) (hu : NatV w u m) (h1 : (digs B32 n).length < 1000000) (h2 : (digs B32 m).length < 1000000) (hle : n < m) :
    Calls Try.prog 50 #[.bool s, v, .bool t, u] w fun e w' => ∃ y, e = .returned (.tuple #[.bool t, y]) ∧ NatV w' y (m - n) ∧ Below w.heap.size w w' := by
  obtain ⟨p, c, rfl, _⟩ := hv.digp
  obtain ⟨q, d, rfl, _⟩ := hu.digp
  have HC := hid (fun w1 (h : NatV w1 _ n) (h' : NatV w1 _ m) => cmp_any (.agg #[.slice p (digs B32 n).length c]) (.agg #[.slice q (digs B32 m).length d]) n m w1 h h' (by omega) (by omega))
  have HS := hid (fun w1 (h : NatV w1 _ n) (h' : NatV w1 _ m) => sub_any (.agg #[.slice q (digs B32 m).length d]) (.agg #[.slice p (digs B32 n).length c]) m n w1 h' h h2 h1)
  have hc : cmpN n m < 0 := by rw [cmpN_lt hle]; decide
  obtain ⟨z, hz⟩ : ∃ z, cmpN n m = z := ⟨_, rfl⟩
  rw [hz] at HC hc
  rw [if_neg (by omega)] at HS
  clear h1 h2 hz hle
  go_enter Try.func50, Try.ntmps50
  go_upto_region 1 with (fail)
  have hK := (((((KS.start w).add (F := fun w => NatV w (.agg #[.slice p (digs B32 n).length c]) n) fun w' hb => hv.below hb).add (F := fun w => NatV w (.agg #[.slice q (digs B32 m).length d]) m) fun w' hb => hu.below hb).box (.cells #[.slice p (digs B32 n).length c] 45)).box (.cells #[.slice q (digs B32 m).length d] 45)).box (.cells #[.slice none 0 0] 45)
  rw [World.size_alloc, World.size_alloc] at hK
  obtain ⟨W1, hW1⟩ : ∃ W1, W1 = ((w.alloc (.cells #[.slice p (digs B32 n).length c] 45)).alloc (.cells #[.slice q (digs B32 m).length d] 45)).alloc (.cells #[.slice none 0 0] 45) := ⟨_, rfl⟩
  rw [← hW1] at hK ⊢
  clear hW1 hv hu
  have kA := hK.get (F := Has 0 w.heap.size (.cells #[.slice p (digs B32 n).length c] 45)) (by repeat (first | exact List.mem_cons_self .. | apply List.mem_cons_of_mem))
  have kB := hK.get (F := Has 0 (w.heap.size + 1) (.cells #[.slice q (digs B32 m).length d] 45)) (by repeat (first | exact List.mem_cons_self .. | apply List.mem_cons_of_mem))
  have a0 := hasCell kA
  have a1 := hasCell kB
  have b0 := kA.lt
  have b1 := kB.lt
  go_upto_region 6 with (go_at_call 31; refine (HC.out _ (hK.get (F := fun w => NatV w _ n) (by repeat (first | exact List.mem_cons_self .. | apply List.mem_cons_of_mem))) (hK.get (F := fun w => NatV w _ m) (by repeat (first | exact List.mem_cons_self .. | apply List.mem_cons_of_mem)))).mono ?_; clear HC; rintro e W3 ⟨rfl, hb⟩; replace hK := hK.step hb; clear kA kB a0 a1 b0 b1)
  have kA := hK.get (F := Has 0 w.heap.size (.cells #[.slice p (digs B32 n).length c] 45)) (by repeat (first | exact List.mem_cons_self .. | apply List.mem_cons_of_mem))
  have kB := hK.get (F := Has 0 (w.heap.size + 1) (.cells #[.slice q (digs B32 m).length d] 45)) (by repeat (first | exact List.mem_cons_self .. | apply List.mem_cons_of_mem))
  have a0 := hasCell kA
  have a1 := hasCell kB
  have b0 := kA.lt
  have b1 := kB.lt
  go_upto_region 7 with (go_at_call 68; refine (HS.out _ (hK.get (F := fun w => NatV w _ n) (by repeat (first | exact List.mem_cons_self .. | apply List.mem_cons_of_mem))) (hK.get (F := fun w => NatV w _ m) (by repeat (first | exact List.mem_cons_self .. | apply List.mem_cons_of_mem)))).mono ?_; clear HS; rintro e W4 ⟨y, rfl, hy, hb⟩; obtain ⟨P, C, rfl, _⟩ := hy.digp; replace hK := (hK.step hb).add (F := fun w => NatV w _ (m - n)) fun w' h => hy.below h)
  have hK := hK.box (.cells #[.slice P (digs B32 (m - n)).length C] 45)
  obtain ⟨W5, R5, hW5, hR5⟩ : ∃ W5 R5, W5 = W4.alloc (.cells #[.slice P (digs B32 (m - n)).length C] 45) ∧ R5 = W4.heap.size := ⟨_, _, rfl, rfl⟩
  rw [← hR5, ← hW5] at hK ⊢
  clear hW5 hR5 kA kB a0 a1 b0 b1
  refine wp_region_float (w) _ [0, 1, 0, 4] (by kernel_rfl) (by kernel_rfl) (by kernel_rfl) (by kernel_rfl) (KS.drew hK) ?_
  apply lxF0 (wants0 rfl); (· intro w' h0; have hw' := h0.old; go_simp; (try go_bits); exact ⟨rfl, rfl⟩); simp only [Act.put, List.setIfInBounds_toArray, List.set_cons_zero, List.set_cons_succ]
  apply lxR0 (wants0 rfl); (· intro w' h0 hK; have hw' := hK.old; have c1 := hasCell (hK.get (F := Has 0 R5 (.cells #[.slice P (digs B32 (m - n)).length C] 45)) (by repeat (first | exact List.mem_cons_self .. | apply List.mem_cons_of_mem))); go_simp; (try go_bits); exact ⟨rfl, rfl⟩); simp only [Act.put, List.setIfInBounds_toArray, List.set_cons_zero, List.set_cons_succ]
  apply lxF0 (wants0 rfl); (· intro w' h0; have hw' := h0.old; go_simp; (try go_bits); exact ⟨rfl, rfl⟩); simp only [Act.put, List.setIfInBounds_toArray, List.set_cons_zero, List.set_cons_succ]
  apply lxS0 [Has 0 (w.heap.size + 1 + 1) (.cells #[.slice P (digs B32 (m - n)).length C] 45), fun w => NatV w (.agg #[.slice P (digs B32 (m - n)).length C]) (m - n)] (wants0 rfl)
  · intro w' h0 hK; have hR := hK.get (F := Has 0 (w.heap.size + 1 + 1) (.cells #[.slice none 0 0] 45)) (by repeat (first | exact List.mem_cons_self .. | apply List.mem_cons_of_mem)); have hN := hK.get (F := fun w => NatV w (.agg #[.slice P (digs B32 (m - n)).length C]) (m - n)) (by repeat (first | exact List.mem_cons_self .. | apply List.mem_cons_of_mem)); have c1 := hasCell hR; have f1 := hasFree hR; go_simp; exact ⟨rfl, ks_set h0 (by omega) _ all0, ks_set hK (by omega) _ (all1 (fun w2 hb => has_set hR _ hb) (all1 (fun w2 hb => nat_set hN hR _ hb) all0))⟩
  simp only [Act.put]
  refine lxEnd (fun W9 hK9 => ?_)
  have k := hasCell (hK9.get (F := Has 0 (w.heap.size + 1 + 1) (.cells #[.slice P (digs B32 (m - n)).length C] 45)) (by repeat (first | exact List.mem_cons_self .. | apply List.mem_cons_of_mem)))
  have hx := hK9.get (F := fun w => NatV w (.agg #[.slice P (digs B32 (m - n)).length C]) (m - n)) (by repeat (first | exact List.mem_cons_self .. | apply List.mem_cons_of_mem))
  go_wp2
  exact bodyPost_ret (v := .tuple #[.bool t, .agg #[.slice P (digs B32 (m - n)).length C]]) (by simp [results, Try.results50, go_sem, k]) rfl ⟨_, rfl, hx, hK9.old⟩
theorem signed_any (s t : Bool) (v u : Value) (n m : Nat) (w : World) (hv : NatV w v n) (hu : NatV w u m) (h1 : (digs B32 n).length < 1000000) (h2 : (digs B32 m).length < 1000000) :
    Calls Try.prog 50 #[.bool s, v, .bool t, u] w fun e w' => ∃ y, e = .returned (.tuple #[.bool (sgnd s n t m).1, y]) ∧ NatV w' y (sgnd s n t m).2 ∧ Below w.heap.size w w' := by
  unfold sgnd
  by_cases h : s = t
  · subst h
    rw [if_pos rfl]
    exact signed_same s v u n m w hv hu h1 h2
  · rw [if_neg h]
    by_cases hle : m ≤ n
    · rw [if_pos hle]
      exact signed_ge s t (by simpa using h) v u n m w hv hu h1 h2 hle
    · rw [if_neg hle]
      exact signed_lt s t (by simpa using h) v u n m w hv hu h1 h2 (by omega)
end Go.Proofs.Ytokhapaffleffaa
