/- reduce: a multiple of the divisor is taken off in place. -/
import Derived.Test.YtepljhpamconbaaDoorNatH
import Derived.Test.YtepljhpamconbaaDoorKnuthPlain
namespace Go.Proofs.YtepljhpamconbaaDoor
open Go.RowKit

theorem grown_store {W W' : World} {D k : Nat} (h : W.grownBy W' (some D)) (hD : D < W.heap.size) (u : Value) : W.grownBy (W'.setCell ⟨D, k, none⟩ u) (some D) := by
  obtain ⟨h1, h2, h3, h4, h5⟩ := h
  refine ⟨h1, h2, h3, by simpa [World.setCell] using h4, fun j hj hne => ?_⟩
  rw [Below.heap_setCell _ _ _ _ (fun e => hne (by rw [e]))]
  exact h5 j hj hne
theorem grown_refl (W : World) (o : Option Nat) : W.grownBy W o := ⟨rfl, rfl, rfl, Nat.le_refl _, fun _ _ _ => rfl⟩
theorem grown_trans {W W' W'' : World} {o : Option Nat} (h : W.grownBy W' o) (h' : W'.grownBy W'' o) : W.grownBy W'' o := by
  obtain ⟨h1, h2, h3, h4, h5⟩ := h
  obtain ⟨g1, g2, g3, g4, g5⟩ := h'
  exact ⟨g1.trans h1, g2.trans h2, g3.trans h3, Nat.le_trans h4 g4, fun j hj hne => (g5 j (Nat.lt_of_lt_of_le hj h4) hne).trans (h5 j hj hne)⟩
theorem grown_below {W W' : World} {D : Nat} (h : W.grownBy W' (some D)) (hD : D ≤ W.heap.size) : Below D W W' := by
  obtain ⟨h1, h2, h3, h4, h5⟩ := h
  exact ⟨h1, h2, h3, h4, fun j hj => h5 j (by omega) (fun e => by injection e with e; omega)⟩
theorem below_grown {W W' : World} {o : Option Nat} (h : Below W.heap.size W W') : W.grownBy W' o := ⟨h.os, h.tape, h.output, h.size, fun k hk _ => h.block k hk⟩
theorem arr_other {W W' : World} {D E : Nat} {vs : List Nat} (h : Arr W E vs) (hg : W.grownBy W' (some D)) (hne : E ≠ D) : Arr W' E vs := by
  obtain ⟨_, _, _, _, h5⟩ := hg
  exact (h5 E h.lt (fun e => by injection e with e; exact hne e)).trans h
theorem mid_at {A xs C : List Nat} {i : Nat} (hi : i < xs.length) (h : A.length + i < (A ++ xs ++ C).length) : (A ++ xs ++ C)[A.length + i] = xs[i] := by
  rw [List.getElem_append_left (by rw [List.length_append]; omega), List.getElem_append_right (by omega)]
  simp
theorem mid_set {A xs C : List Nat} {i v : Nat} (hi : i < xs.length) : (A ++ xs ++ C).set (A.length + i) v = A ++ xs.set i v ++ C := by
  rw [List.set_append_left _ _ (by rw [List.length_append]; omega), List.set_append_right _ _ (by omega)]
  simp
/-- A window of a block of digits. -/
def Win (W : World) (D : Nat) (A xs C : List Nat) : Prop := Arr W D (A ++ xs ++ C)
theorem Win.cell {W : World} {D : Nat} {A xs C : List Nat} (h : Win W D A xs C) {i : Nat} (hi : i < xs.length) : W.cell? ⟨D, A.length + i, none⟩ = some (.int .u32 (xs[i] : Int)) := by
  have hl : A.length + i < (A ++ xs ++ C).length := by rw [List.length_append, List.length_append]; omega
  have := Arr.cell h (A.length + i) hl
  rwa [mid_at hi hl] at this
theorem Win.store {W : World} {D : Nat} {A xs C : List Nat} (h : Win W D A xs C) {i : Nat} (hi : i < xs.length) (v : Nat) : Win (W.setCell ⟨D, A.length + i, none⟩ (.int .u32 (v : Int))) D A (xs.set i v) C := by
  have := Arr.store h (A.length + i) v
  rwa [mid_set hi] at this
/-- The state of reduce's first loop at place i. -/
structure RedAt (W0 : World) (D : Nat) (A us C vs : List Nat) (q i p b : Nat) (wr : World) : Prop where
  arr : ∃ xs, Win wr D A xs C ∧ xs.length = us.length ∧ (∀ x ∈ xs, x < B32) ∧ xs.drop i = us.drop i ∧ val B32 (xs.take i) + q * val B32 (vs.take i) = val B32 (us.take i) + B32 ^ i * (p + b)
  old : W0.grownBy wr (some D)
  p1 : p ≤ 4294967295
  b1 : b ≤ 1
theorem drop_at {xs us : List Nat} {i : Nat} (h : xs.drop i = us.drop i) (hi : i < xs.length) (hu : i < us.length) : xs[i] = us[i] ∧ xs.drop (i + 1) = us.drop (i + 1) := by
  rw [List.drop_eq_getElem_cons hi, List.drop_eq_getElem_cons hu] at h
  exact List.cons.inj h
theorem red_val {xs us vs : List Nat} {q i p b v u x t : Nat} (hx : i < xs.length) (hu : i < us.length) (hv : val B32 (vs.take (i + 1)) = val B32 (vs.take i) + B32 ^ i * v) (hue : us[i] = u) (h : val B32 (xs.take i) + q * val B32 (vs.take i) = val B32 (us.take i) + B32 ^ i * (p + b)) (hs : x + v * q + p + b = u + B32 * t) :
    val B32 ((xs.set i x).take (i + 1)) + q * val B32 (vs.take (i + 1)) = val B32 (us.take (i + 1)) + B32 ^ (i + 1) * t := by
  rw [val_take_set hx, val_take_succ hu, hue, hv, Nat.pow_succ, Nat.mul_assoc]
  generalize B32 ^ i = P at *
  have e : P * x + q * (P * v) + P * (p + b) = P * u + P * (B32 * t) := by
    rw [← Nat.mul_add P u, ← hs, Nat.mul_add, Nat.mul_add, Nat.mul_add, Nat.mul_add]
    rw [show q * (P * v) = P * (v * q) by ac_rfl]
    omega
  rw [Nat.mul_add q]
  omega
theorem RedAt.step {W0 wr : World} {D : Nat} {A us C vs : List Nat} {q i p b u v : Nat} (h : RedAt W0 D A us C vs q i p b wr) (hD : D < W0.heap.size) (hi : i < vs.length) (hl : us.length = vs.length + 1) (hu : us[i]'(by omega) = u) (hv : vs[i] = v) (hu1 : u ≤ 4294967295) (hv1 : v ≤ 4294967295) (hq1 : q ≤ 4294967295) :
    RedAt W0 D A us C vs q (i + 1) ((p + v * q) / 4294967296) (if u < (p + v * q) % 4294967296 + b then 1 else 0) (wr.setCell ⟨D, A.length + i, none⟩ (.int .u32 (((u + 4294967296 - (p + v * q) % 4294967296 - b) % 4294967296 : Nat) : Int))) := by
  obtain ⟨⟨xs, h1, h2, h3, h4, h5⟩, h6, h7, h8⟩ := h
  have hix : i < xs.length := by omega
  obtain ⟨_, hd⟩ := drop_at h4 hix (by omega)
  refine ⟨⟨_, h1.store hix _, by simpa using h2, all_set h3 (by rw [b32]; omega), ?_, ?_⟩, grown_store h6 hD _, ?_, by split <;> omega⟩
  · rw [List.drop_set_of_lt (by omega)]; exact hd
  · refine red_val hix (by omega) (by rw [val_take_succ hi, hv]) hu h5 ?_
    have := red_step (B := B32) (u := u) (p := p) (b := b) (v := v) (q := q) (by decide) (by rw [b32]; omega) h8
    rw [b32] at this ⊢
    rw [this]
    exact congrArg (fun t => u + 4294967296 * t) (Nat.add_comm _ _)
  · have h9 : v * q ≤ 4294967295 * 4294967295 := Nat.mul_le_mul hv1 hq1
    omega
/-- What the first loop and the last place leave. -/
structure RedOut (W0 : World) (D : Nat) (A us C vs : List Nat) (q b : Nat) (wr : World) : Prop where
  arr : ∃ xs, Win wr D A xs C ∧ xs.length = us.length ∧ (∀ x ∈ xs, x < B32) ∧ val B32 xs + q * val B32 vs = val B32 us + B32 ^ us.length * b
  old : W0.grownBy wr (some D)
theorem RedAt.last {W0 wr : World} {D : Nat} {A us C vs : List Nat} {q n p b u : Nat} (h : RedAt W0 D A us C vs q n p b wr) (hD : D < W0.heap.size) (hn : n = vs.length) (hl : us.length = n + 1) (hu : us[n]'(by omega) = u) (hu1 : u ≤ 4294967295) :
    RedOut W0 D A us C vs q (if u < p + b then 1 else 0) (wr.setCell ⟨D, A.length + n, none⟩ (.int .u32 (((u + 4294967296 - p - b) % 4294967296 : Nat) : Int))) := by
  obtain ⟨⟨xs, h1, h2, h3, h4, h5⟩, h6, h7, h8⟩ := h
  have hix : n < xs.length := by omega
  refine ⟨⟨_, h1.store hix _, by simpa using h2, all_set h3 (by rw [b32]; omega), ?_⟩, grown_store h6 hD _⟩
  have hs := red_step (B := B32) (u := u) (p := p) (b := b) (v := 0) (q := q) (by decide) (by rw [b32]; omega) h8
  have hp : (p + 0 * q) % B32 = p := by rw [b32, Nat.zero_mul, Nat.add_zero, Nat.mod_eq_of_lt (by omega)]
  have hp2 : (p + 0 * q) / B32 = 0 := by rw [b32, Nat.zero_mul, Nat.add_zero]; omega
  rw [hp, hp2, Nat.add_zero] at hs
  have hv0 : val B32 (vs.take (n + 1)) = val B32 (vs.take n) + B32 ^ n * 0 := by rw [List.take_of_length_le (by omega), List.take_of_length_le (by omega)]; simp
  have hr := red_val (x := (u + 4294967296 - p - b) % 4294967296) hix (by omega) hv0 hu h5 (by rw [b32] at hs; exact hs)
  rw [List.take_of_length_le (by rw [List.length_set]; omega), List.take_of_length_le (by omega), List.take_of_length_le (by omega), ← hl] at hr
  exact hr
/-- The state of reduce's second loop: the divisor is added back. -/
structure BackAt (W0 : World) (D : Nat) (A xs C vs : List Nat) (i c : Nat) (wr : World) : Prop where
  arr : ∃ ys, Win wr D A ys C ∧ ys.length = xs.length ∧ (∀ y ∈ ys, y < B32) ∧ ys.drop i = xs.drop i ∧ val B32 (ys.take i) + B32 ^ i * c = val B32 (xs.take i) + val B32 (vs.take i)
  old : W0.grownBy wr (some D)
  c1 : c ≤ 1
theorem back_val {ys xs vs : List Nat} {i c u v : Nat} (hy : i < ys.length) (hx : i < xs.length) (hv : val B32 (vs.take (i + 1)) = val B32 (vs.take i) + B32 ^ i * v) (hxe : xs[i] = u) (h : val B32 (ys.take i) + B32 ^ i * c = val B32 (xs.take i) + val B32 (vs.take i)) :
    val B32 ((ys.set i ((u + v + c) % 4294967296)).take (i + 1)) + B32 ^ (i + 1) * ((u + v + c) / 4294967296) = val B32 (xs.take (i + 1)) + val B32 (vs.take (i + 1)) := by
  rw [val_take_set hy, val_take_succ hx, hxe, hv, Nat.pow_succ, Nat.mul_assoc]
  have hb := b32
  generalize B32 ^ i = P at *
  have e : P * ((u + v + c) % 4294967296) + P * (B32 * ((u + v + c) / 4294967296)) = P * u + P * v + P * c := by
    rw [hb, ← Nat.mul_add, Nat.mod_add_div, Nat.mul_add, Nat.mul_add]
  omega
theorem BackAt.step {W0 wr wr' : World} {D : Nat} {A xs C vs : List Nat} {i c u v : Nat} (h : BackAt W0 D A xs C vs i c wr) (hw : Below wr.heap.size wr wr') (hD : D < W0.heap.size) (hi : i < vs.length) (hl : xs.length = vs.length + 1) (hu : xs[i]'(by omega) = u) (hv : vs[i] = v) (hu1 : u ≤ 4294967295) (hv1 : v ≤ 4294967295) :
    BackAt W0 D A xs C vs (i + 1) ((u + v + c) / 4294967296) (wr'.setCell ⟨D, A.length + i, none⟩ (.int .u32 (((u + v + c) % 4294967296 : Nat) : Int))) := by
  obtain ⟨⟨ys, h1, h2, h3, h4, h5⟩, h6, h7⟩ := h
  have hiy : i < ys.length := by omega
  obtain ⟨_, hd⟩ := drop_at h4 hiy (by omega)
  have h1' : Win wr' D A ys C := Arr.below h1 hw
  refine ⟨⟨_, h1'.store hiy _, by simpa using h2, all_set h3 (by rw [b32]; omega), ?_, back_val hiy (by omega) (by rw [val_take_succ hi, hv]) hu h5⟩, grown_store (grown_trans h6 (below_grown hw)) hD _, by omega⟩
  rw [List.drop_set_of_lt (by omega)]; exact hd
theorem BackAt.last {W0 wr : World} {D : Nat} {A xs C vs : List Nat} {n c u : Nat} (h : BackAt W0 D A xs C vs n c wr) (hD : D < W0.heap.size) (hn : n = vs.length) (hl : xs.length = n + 1) (hu : xs[n]'(by omega) = u) :
    ∃ ys, Win (wr.setCell ⟨D, A.length + n, none⟩ (.int .u32 (((u + c) % 4294967296 : Nat) : Int))) D A ys C ∧ ys.length = xs.length ∧ (∀ y ∈ ys, y < B32) ∧ val B32 ys + B32 ^ xs.length * ((u + c) / 4294967296) = val B32 xs + val B32 vs ∧ W0.grownBy (wr.setCell ⟨D, A.length + n, none⟩ (.int .u32 (((u + c) % 4294967296 : Nat) : Int))) (some D) := by
  obtain ⟨⟨ys, h1, h2, h3, h4, h5⟩, h6, h7⟩ := h
  have hiy : n < ys.length := by omega
  refine ⟨_, h1.store hiy _, by simpa using h2, all_set h3 (by rw [b32]; omega), ?_, grown_store h6 hD _⟩
  have hv0 : val B32 (vs.take (n + 1)) = val B32 (vs.take n) + B32 ^ n * 0 := by rw [List.take_of_length_le (by omega), List.take_of_length_le (by omega)]; simp
  have hr := back_val hiy (by omega) hv0 hu h5
  rw [Nat.add_zero] at hr
  rw [List.take_of_length_le (by rw [List.length_set]; omega), List.take_of_length_le (by omega), List.take_of_length_le (by omega), ← hl] at hr
  exact hr

set_option maxRecDepth 100000 in
set_option maxHeartbeats 4000000 in
theorem reduce_any (D E cE : Nat) (A us C vs : List Nat) (q : Nat) (w : World) (hD : Win w D A us C) (hE : Arr w E vs) (hne : E ≠ D) (hl : us.length = vs.length + 1) (hub : ∀ u ∈ us, u < B32) (hvb : ∀ v ∈ vs, v < B32) (hV : 0 < val B32 vs) (hq1 : q ≤ 4294967295)
    (h1 : val B32 us / val B32 vs ≤ q) (h2 : q ≤ val B32 us / val B32 vs + 1) (hA : A.length ≤ 1000000) (hn : vs.length ≤ 1000000) :
    Calls Tryd.prog 64 #[.slice (some ⟨D, A.length, none⟩) (vs.length + 1) (vs.length + 1), .slice (some ⟨E, 0, none⟩) vs.length cE, .int .u32 (q : Int)] w fun e w' => e = .returned (.int .u32 ((val B32 us / val B32 vs : Nat) : Int)) ∧ (∃ us', us'.length = us.length ∧ (∀ u ∈ us', u < B32) ∧ val B32 us' = val B32 us % val B32 vs ∧ Win w' D A us' C) ∧ w.grownBy w' (some D) := by
  have HUB := hid hub
  have HVB := hid hvb
  have HE := hid hE
  have HNE := hid hne
  have HV := hid hV
  have HQ1 := hid h1
  have HQ2 := hid h2
  have hDl := hD.lt
  have hEl := hE.lt
  have HUL := hid (val_lt b32_2 hub)
  have HVL := hid (val_lt b32_2 hvb)
  have hat0 : RedAt w D A us C vs q 0 0 0 w := ⟨⟨us, hD, rfl, hub, rfl, by simp [val]⟩, grown_refl _ _, by omega, by omega⟩
  clear hub hvb hE hne hV h1 h2 hD
  obtain ⟨U, hU⟩ : ∃ U, val B32 us = U := ⟨_, rfl⟩
  obtain ⟨V, hV⟩ : ∃ V, val B32 vs = V := ⟨_, rfl⟩
  rw [hU, hV] at HQ1 HQ2 ⊢
  rw [hV] at HV HVL
  rw [hU] at HUL
  have HUE := hid hU
  have HVE := hid hV
  clear hU hV
  go_enter Tryd.func64, Tryd.ntmps64
  go_wp2_with fail
  go_loopw [8, 9, 16] (fun pv bv iv wr => ∃ i p b : Nat, i ≤ vs.length ∧ iv = .int .i64 (i : Int) ∧ pv = .int .u64 (p : Int) ∧ bv = .int .u32 (b : Int) ∧ RedAt w D A us C vs q i p b wr) (fun _ _ iv _ => vs.length - (intOf iv).toNat)
  case atStart => exact ⟨0, 0, 0, Nat.zero_le _, rfl, rfl, rfl, hat0⟩
  case round =>
    clear hat0
    obtain ⟨i, p, b, hi, rfl, rfl, rfl, hat⟩ := hrel
    generalize wr = W1 at hat ⊢
    have hp1 := hat.p1
    have hb1 := hat.b1
    obtain ⟨xs, hwin, hxl, hxb, hxd, _⟩ := hat.arr
    have hvs := arr_other HE.out hat.old HNE.out
    have hfr := hwin.free
    have hDl1 := hwin.lt
    by_cases hlt : i < vs.length
    · have hix : i < xs.length := by omega
      have hiu : i < us.length := by omega
      have cu := hwin.cell hix
      rw [(drop_at hxd hix hiu).1] at cu
      have cv := hvs.cell i hlt
      have hu1 : us[i] ≤ 4294967295 := by have := HUB.out _ (List.getElem_mem hiu); rw [b32] at this; omega
      have hv1 : vs[i] ≤ 4294967295 := by have := HVB.out _ (List.getElem_mem hlt); rw [b32] at this; omega
      obtain ⟨u, hu⟩ : ∃ u, us[i] = u := ⟨_, rfl⟩
      obtain ⟨v, hv⟩ : ∃ v, vs[i] = v := ⟨_, rfl⟩
      rw [hu] at cu hu1
      rw [hv] at cv hv1
      have HS := hid (hat.step hDl hlt hl hu hv hu1 hv1 hq1)
      have hvl := hvs.lt
      have h9 : v * q ≤ 4294967295 * 4294967295 := Nat.mul_le_mul hv1 hq1
      have hm0 : 0 ≤ (v : Int) * (q : Int) := Int.mul_nonneg (by omega) (by omega)
      have hm1 : (v : Int) * (q : Int) ≤ 18446744065119617025 := by
        have e1 : ((v * q : Nat) : Int) = (v : Int) * (q : Int) := Int.natCast_mul v q
        omega
      obtain ⟨t, ht, ht2⟩ : ∃ t : Nat, p + v * q = t ∧ (p : Int) + (v : Int) * (q : Int) = (t : Int) := ⟨_, rfl, by simp only [Int.natCast_add, Int.natCast_mul]⟩
      have htb : (t : Int) ≤ 18446744073709551615 := by omega
      rw [ht] at HS
      have HSB := hid (fun w1 => show Calls Tryd.prog 54 #[.int .u32 (u : Int), .int .u32 ((t : Int) % 4294967296), .int .u32 (b : Int)] w1 _ from sub32_any u (t % 4294967296) b w1 hu1 (by omega) hb1)
      clear hu hv ht h9 hat hxd hxb hxl
      go_upto_region 8 with (fail)
      clear ht2 hm0 hm1
      go_wp2_with (go_at_call 54; refine (HSB.out _).mono ?_; clear HSB; rintro e w2 ⟨rfl, rfl⟩)
      go_roundw
      case rel => exact ⟨i + 1, t / 4294967296, _, by omega, by go_num, rfl, rfl, HS.out⟩
      case measure => simp [intOf]; omega
    · obtain rfl : i = vs.length := by omega
      have hix : vs.length < xs.length := by omega
      have hiu : vs.length < us.length := by omega
      have cu := hwin.cell hix
      rw [(drop_at hxd hix hiu).1] at cu
      have hu1 : us[vs.length] ≤ 4294967295 := by have := HUB.out _ (List.getElem_mem hiu); rw [b32] at this; omega
      obtain ⟨u, hu⟩ : ∃ u, us[vs.length] = u := ⟨_, rfl⟩
      rw [hu] at cu hu1
      have HL := hid (hat.last hDl rfl hl hu hu1)
      have HSB := hid (fun w1 => sub32_any u p b w1 hu1 hp1 hb1)
      clear hu hat hxd hxb hxl
      by_cases hbor : u < p + b
      · rw [if_pos hbor] at HSB HL
        clear hbor
        obtain ⟨x, hx⟩ : ∃ x, (u + 4294967296 - p - b) % 4294967296 = x := ⟨_, rfl⟩
        rw [hx] at HSB HL
        clear hx
        go_upto_region 14 with (go_at_call 54; refine (HSB.out _).mono ?_; clear HSB; rintro e w2 ⟨rfl, rfl⟩)
        obtain ⟨⟨xs', g1, g2, g3, g4⟩, g5⟩ := HL.out
        generalize W1.setCell ⟨D, A.length + vs.length, none⟩ (.int .u32 (x : Int)) = W2 at g1 g5 ⊢
        have HX4 := hid g4
        have HX3 := hid g3
        have hvs2 := arr_other HE.out g5 HNE.out
        have hat1 : BackAt w D A xs' C vs 0 0 W2 := ⟨⟨xs', g1, rfl, g3, rfl, by simp [val]⟩, g5, by omega⟩
        have hxl' : xs'.length = vs.length + 1 := by omega
        clear cu hfr hvs g1 g3 g4 g5 hwin HL hvs2
        go_wp2_with fail
        go_loopw [11, 64] (fun cv iv wr => ∃ i c : Nat, i ≤ vs.length ∧ iv = .int .i64 (i : Int) ∧ cv = .int .u32 (c : Int) ∧ BackAt w D A xs' C vs i c wr) (fun _ iv _ => vs.length - (intOf iv).toNat)
        case atStart => exact ⟨0, 0, Nat.zero_le _, rfl, rfl, hat1⟩
        case round =>
          clear hat1
          obtain ⟨i, c, hi, rfl, rfl, hat⟩ := hrel
          generalize wr = W3 at hat ⊢
          have hc1 := hat.c1
          obtain ⟨ys, hwin, hyl, hyb, hyd, _⟩ := hat.arr
          have hvs := arr_other HE.out hat.old HNE.out
          have hfr := hwin.free
          have hDl1 := hwin.lt
          by_cases hlt : i < vs.length
          · have hiy : i < ys.length := by omega
            have hix : i < xs'.length := by omega
            have cu := hwin.cell hiy
            rw [(drop_at hyd hiy hix).1] at cu
            have cv := hvs.cell i hlt
            have hu1 : xs'[i] ≤ 4294967295 := by have := HX3.out _ (List.getElem_mem hix); rw [b32] at this; omega
            have hv1 : vs[i] ≤ 4294967295 := by have := HVB.out _ (List.getElem_mem hlt); rw [b32] at this; omega
            obtain ⟨u2, hu⟩ : ∃ u, xs'[i] = u := ⟨_, rfl⟩
            obtain ⟨v, hv⟩ : ∃ v, vs[i] = v := ⟨_, rfl⟩
            rw [hu] at cu hu1
            rw [hv] at cv hv1
            have HS := hid (fun w' (hb : Below W3.heap.size W3 w') => hat.step hb hDl hlt hxl' hu hv hu1 hv1)
            have hvl := hvs.lt
            have HAD := hid (fun w1 => add32_any u2 v c w1 hu1 hv1 hc1)
            have HW := hid hwin
            clear hu hv hat hyd hyb hyl
            obtain ⟨s1, hs1⟩ : ∃ s1, (u2 + v + c) % 4294967296 = s1 := ⟨_, rfl⟩
            obtain ⟨s2, hs2⟩ : ∃ s2, (u2 + v + c) / 4294967296 = s2 := ⟨_, rfl⟩
            rw [hs1, hs2] at HS HAD
            clear hs1 hs2
            have hi1 : (i : Int) < (vs.length : Int) + 1 := by omega
            have hi2 : (i : Int) < (vs.length : Int) := by omega
            go_upto_region 18 with (fail)
            refine wp_region_staged (fun w' => Below W3.heap.size W3 w') [0, 0, 0, 0, 0, 1, 0, 0, 0, 1, 0, 1, 0, 0, 0, 0, 2, 0] (by kernel_rfl) (by kernel_rfl) (by kernel_rfl) (by exact (Below.refl _ _).drew) ?_
            apply lexF rfl; (· intro _; go_simp; (try go_bits); exact ⟨rfl, rfl⟩); simp only [Act.put, List.setIfInBounds_toArray, List.set_cons_zero, List.set_cons_succ]
            apply lexF rfl; (· intro _; go_simp; (try go_bits); exact ⟨rfl, rfl⟩); simp only [Act.put, List.setIfInBounds_toArray, List.set_cons_zero, List.set_cons_succ]
            apply lexF rfl; (· intro _; go_simp; (try go_bits); exact ⟨rfl, rfl⟩); simp only [Act.put, List.setIfInBounds_toArray, List.set_cons_zero, List.set_cons_succ]
            apply lexF rfl; (· intro _; go_simp; (try go_bits); exact ⟨rfl, rfl⟩); simp only [Act.put, List.setIfInBounds_toArray, List.set_cons_zero, List.set_cons_succ]
            apply lexF rfl; (· intro _; go_simp; (try go_bits); exact ⟨rfl, rfl⟩); simp only [Act.put, List.setIfInBounds_toArray, List.set_cons_zero, List.set_cons_succ]
            apply lexH rfl; (· intro w' hw'; have hcc := cellsBelow hw'; go_simp; (try go_bits); exact ⟨rfl, hw'⟩); simp only [Act.put, List.setIfInBounds_toArray, List.set_cons_zero, List.set_cons_succ]
            apply lexF rfl; (· intro _; go_simp; (try go_bits); exact ⟨rfl, rfl⟩); simp only [Act.put, List.setIfInBounds_toArray, List.set_cons_zero, List.set_cons_succ]
            apply lexF rfl; (· intro _; go_simp; (try go_bits); exact ⟨rfl, rfl⟩); simp only [Act.put, List.setIfInBounds_toArray, List.set_cons_zero, List.set_cons_succ]
            apply lexF rfl; (· intro _; go_simp; (try go_bits); exact ⟨rfl, rfl⟩); simp only [Act.put, List.setIfInBounds_toArray, List.set_cons_zero, List.set_cons_succ]
            apply lexH rfl; (· intro w' hw'; have hcc := cellsBelow hw'; go_simp; (try go_bits); exact ⟨rfl, hw'⟩); simp only [Act.put, List.setIfInBounds_toArray, List.set_cons_zero, List.set_cons_succ]
            apply lexF rfl; (· intro _; go_simp; (try go_bits); exact ⟨rfl, rfl⟩); simp only [Act.put, List.setIfInBounds_toArray, List.set_cons_zero, List.set_cons_succ]
            apply lexH rfl
            · intro w' hw'; go_simp; (try go_bits); refine (HAD.out _).mono ?_; rintro e w5 ⟨rfl, rfl⟩; exact ⟨_, rfl, rfl, hw'⟩
            simp only [Act.put, List.setIfInBounds_toArray, List.set_cons_zero, List.set_cons_succ]
            apply lexF rfl; (· intro _; go_simp; (try go_bits); exact ⟨rfl, rfl⟩); simp only [Act.put, List.setIfInBounds_toArray, List.set_cons_zero, List.set_cons_succ]
            apply lexF rfl; (· intro _; go_simp; (try go_bits); exact ⟨rfl, rfl⟩); simp only [Act.put, List.setIfInBounds_toArray, List.set_cons_zero, List.set_cons_succ]
            apply lexF rfl; (· intro _; go_simp; (try go_bits); exact ⟨rfl, rfl⟩); simp only [Act.put, List.setIfInBounds_toArray, List.set_cons_zero, List.set_cons_succ]
            apply lexF rfl; (· intro _; go_simp; (try go_bits); exact ⟨rfl, rfl⟩); simp only [Act.put, List.setIfInBounds_toArray, List.set_cons_zero, List.set_cons_succ]
            apply lexS (fun w' => BackAt w D A xs' C vs (i + 1) s2 w') rfl
            · intro w' hw'
              have hwin' : Win w' D A ys C := Arr.below HW.out hw'
              have c0 := hwin'.cell hiy
              have f0 := hwin'.free
              go_simp
              exact ⟨rfl, HS.out w' hw'⟩
            simp only [Act.put]
            apply lexF rfl; (· intro _; go_simp; (try go_bits); exact ⟨rfl, rfl⟩); simp only [Act.put, List.setIfInBounds_toArray, List.set_cons_zero, List.set_cons_succ]
            refine lexEnd (fun W5 hw5 => ?_)
            go_wp2
            go_roundw
            case rel => exact ⟨i + 1, s2, by omega, by go_num, rfl, hw5⟩
            case measure => simp [intOf]; omega
          · obtain rfl : i = vs.length := by omega
            have hiy : vs.length < ys.length := by omega
            have hix : vs.length < xs'.length := by omega
            have cu := hwin.cell hiy
            rw [(drop_at hyd hiy hix).1] at cu
            have hu1 : xs'[vs.length] ≤ 4294967295 := by have := HX3.out _ (List.getElem_mem hix); rw [b32] at this; omega
            obtain ⟨u2, hu⟩ : ∃ u, xs'[vs.length] = u := ⟨_, rfl⟩
            rw [hu] at cu hu1
            have HLL := hid (hat.last hDl rfl hxl' hu)
            clear hu hat hyd hyb hyl
            have e2 : ((u2 : Int) + (c : Int)) % 4294967296 = (((u2 + c) % 4294967296 : Nat) : Int) := by omega
            obtain ⟨s1, hs1⟩ : ∃ s1, (u2 + c) % 4294967296 = s1 := ⟨_, rfl⟩
            rw [hs1] at e2 HLL
            obtain ⟨ys', k1, k2, k3, k4, k5⟩ := HLL.out
            have hg4 := HX4.out
            rw [HUE.out, HVE.out] at hg4
            rw [HVE.out] at k4
            have hX := val_lt b32_2 HX3.out
            have hY := val_lt b32_2 k3
            rw [k2] at hY
            have hlen : us.length = xs'.length := by omega
            rw [hlen] at hg4
            have g6 := red_back (c := (u2 + c) / 4294967296) hg4 hX hY (by
              have h5 := HVL.out
              rw [hxl', Nat.pow_succ]
              refine Nat.le_trans (Nat.le_of_lt h5) ?_
              exact Nat.le_mul_of_pos_right _ (by decide)) k4 HQ2.out HV.out
            have HG := hid g6
            have HK := hid k1
            have HK2 := hid k2
            have HK3 := hid k3
            have HK5 := hid k5
            have hq0 : 1 ≤ q := by rw [g6.1]; exact Nat.le_add_left 1 _
            clear hs1 HLL k1 k2 k3 k4 k5 g6 hg4 hX hY hlen
            go_upto_region 21 with (fail)
            go_wp2
            go_ret
            refine ⟨?_, ⟨ys', by rw [HK2.out]; omega, HK3.out, HG.out.2, HK.out⟩, HK5.out⟩
            have hqe := HG.out.1
            show Ending.returned (Value.int .u32 ((q : Int) - 1)) = Ending.returned (.int .u32 ((U / V : Nat) : Int))
            rw [hqe]
            congr 2
            omega
      · rw [if_neg hbor] at HSB HL
        clear hbor
        obtain ⟨x, hx⟩ : ∃ x, (u + 4294967296 - p - b) % 4294967296 = x := ⟨_, rfl⟩
        rw [hx] at HSB HL
        clear hx
        go_wp2_with (go_at_call 54; refine (HSB.out _).mono ?_; clear HSB; rintro e w2 ⟨rfl, rfl⟩)
        go_ret
        obtain ⟨⟨ys, g1, g2, g3, g4⟩, g5⟩ := HL.out
        rw [HUE.out, HVE.out] at g4
        have g6 := red_done (T := B32 ^ us.length) g4 HQ1.out HV.out
        exact ⟨by rw [← g6.1]; rfl, ⟨ys, g2, g3, g6.2, g1⟩, g5⟩
end Go.Proofs.YtepljhpamconbaaDoor
