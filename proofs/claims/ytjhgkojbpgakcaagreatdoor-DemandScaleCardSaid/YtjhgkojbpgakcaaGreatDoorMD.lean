/- reduce: a multiple of the divisor is taken off in place. The shifts of divideLong. shiftRight. divideLong. DivMod and GCD of whatever numbers. DivMod and GCD: every case. -/
import Derived.Test.YtjhgkojbpgakcaaGreatDoorMC
namespace Go.Proofs.YtjhgkojbpgakcaaGreatDoor
open Go.RowKit
theorem grown_store {W W' : World} {D k : Nat} (h : W.grownBy W' (some D)) (_hD : D < W.heap.size) (u : Value) : W.grownBy (W'.setCell ⟨D, k, none⟩ u) (some D) := by
  obtain ⟨h1, h2, h3, h4, h5⟩ := h
  refine ⟨h1, h2, h3, by simpa [World.setCell] using h4, fun j hj hne => ?_⟩
  rw [Below.heap_setCell _ _ _ _ (fun e => hne (by rw [e]))]
  exact h5 j hj hne
theorem grown_refl (W : World) (o : Option Nat) : W.grownBy W o := ⟨rfl, rfl, rfl, Nat.le_refl _, fun _ _ _ => rfl⟩
theorem grown_trans {W W' W'' : World} {o : Option Nat} (h : W.grownBy W' o) (h' : W'.grownBy W'' o) : W.grownBy W'' o := by
  obtain ⟨h1, h2, h3, h4, h5⟩ := h
  obtain ⟨g1, g2, g3, g4, g5⟩ := h'
  exact ⟨g1.trans h1, g2.trans h2, g3.trans h3, Nat.le_trans h4 g4, fun j hj hne => (g5 j (Nat.lt_of_lt_of_le hj h4) hne).trans (h5 j hj hne)⟩
theorem grown_below {W W' : World} {D : Nat} (h : W.grownBy W' (some D)) (hD : D ≤ W.heap.size) : Below D W W' := by
  obtain ⟨h1, h2, h3, h4, h5⟩ := h
  exact ⟨h1, h2, h3, h4, fun j hj => h5 j (by omega) (fun e => by injection e with e; omega)⟩
theorem below_grown {W W' : World} {o : Option Nat} (h : Below W.heap.size W W') : W.grownBy W' o := ⟨h.os, h.tape, h.output, h.size, fun k hk _ => h.block k hk⟩
theorem arr_other {W W' : World} {D E : Nat} {vs : List Nat} (h : Arr W E vs) (hg : W.grownBy W' (some D)) (hne : E ≠ D) : Arr W' E vs := by
  obtain ⟨_, _, _, _, h5⟩ := hg
  exact (h5 E h.lt (fun e => by injection e with e; exact hne e)).trans h
theorem mid_at {A xs C : List Nat} {i : Nat} (hi : i < xs.length) (h : A.length + i < (A ++ xs ++ C).length) : (A ++ xs ++ C)[A.length + i] = xs[i] := by
  rw [List.getElem_append_left (by rw [List.length_append]; omega), List.getElem_append_right (by omega)]
  simp
theorem mid_set {A xs C : List Nat} {i v : Nat} (hi : i < xs.length) : (A ++ xs ++ C).set (A.length + i) v = A ++ xs.set i v ++ C := by
  rw [List.set_append_left _ _ (by rw [List.length_append]; omega), List.set_append_right _ _ (by omega)]
  simp
def Win (W : World) (D : Nat) (A xs C : List Nat) : Prop := Arr W D (A ++ xs ++ C)
theorem Win.cell {W : World} {D : Nat} {A xs C : List Nat} (h : Win W D A xs C) {i : Nat} (hi : i < xs.length) : W.cell? ⟨D, A.length + i, none⟩ = some (.int .u32 (xs[i] : Int)) := by
  have hl : A.length + i < (A ++ xs ++ C).length := by rw [List.length_append, List.length_append]; omega
  have := Arr.cell h (A.length + i) hl
  rwa [mid_at hi hl] at this
theorem Win.store {W : World} {D : Nat} {A xs C : List Nat} (h : Win W D A xs C) {i : Nat} (hi : i < xs.length) (v : Nat) : Win (W.setCell ⟨D, A.length + i, none⟩ (.int .u32 (v : Int))) D A (xs.set i v) C := by
  have := Arr.store h (A.length + i) v
  rwa [mid_set hi] at this
structure RedAt (W0 : World) (D : Nat) (A us C vs : List Nat) (q i p b : Nat) (wr : World) : Prop where
  arr : ∃ xs, Win wr D A xs C ∧ xs.length = us.length ∧ (∀ x ∈ xs, x < B32) ∧ xs.drop i = us.drop i ∧ val B32 (xs.take i) + q * val B32 (vs.take i) = val B32 (us.take i) + B32 ^ i * (p + b)
  old : W0.grownBy wr (some D)
  p1 : p ≤ 4294967295
  b1 : b ≤ 1
theorem drop_at {xs us : List Nat} {i : Nat} (h : xs.drop i = us.drop i) (hi : i < xs.length) (hu : i < us.length) : xs[i] = us[i] ∧ xs.drop (i + 1) = us.drop (i + 1) := by
  rw [List.drop_eq_getElem_cons hi, List.drop_eq_getElem_cons hu] at h
  exact List.cons.inj h
theorem red_val {xs us vs : List Nat} {q i p b v u x t : Nat} (hx : i < xs.length) (hu : i < us.length) (hv : val B32 (vs.take (i + 1)) = val B32 (vs.take i) + B32 ^ i * v) (hue : us[i] = u) (h : val B32 (xs.take i) + q * val B32 (vs.take i) = val B32 (us.take i) + B32 ^ i * (p + b)) (hs : x + v * q + p + b = u + B32 * t) :
    val B32 ((xs.set i x).take (i + 1)) + q * val B32 (vs.take (i + 1)) = val B32 (us.take (i + 1)) + B32 ^ (i + 1) * t := by
  rw [val_take_set hx, val_take_succ hu, hue, hv, Nat.pow_succ, Nat.mul_assoc]
  generalize B32 ^ i = P at *
  have e : P * x + q * (P * v) + P * (p + b) = P * u + P * (B32 * t) := by
    rw [← Nat.mul_add P u, ← hs, Nat.mul_add, Nat.mul_add, Nat.mul_add, Nat.mul_add]
    rw [show q * (P * v) = P * (v * q) by ac_rfl]
    omega
  rw [Nat.mul_add q]
  omega
theorem RedAt.step {W0 wr : World} {D : Nat} {A us C vs : List Nat} {q i p b u v : Nat} (h : RedAt W0 D A us C vs q i p b wr) (hD : D < W0.heap.size) (hi : i < vs.length) (hl : us.length = vs.length + 1) (hu : us[i]'(by omega) = u) (hv : vs[i] = v) (hu1 : u ≤ 4294967295) (hv1 : v ≤ 4294967295) (hq1 : q ≤ 4294967295) :
    RedAt W0 D A us C vs q (i + 1) ((p + v * q) / 4294967296) (if u < (p + v * q) % 4294967296 + b then 1 else 0) (wr.setCell ⟨D, A.length + i, none⟩ (.int .u32 (((u + 4294967296 - (p + v * q) % 4294967296 - b) % 4294967296 : Nat) : Int))) := by
  obtain ⟨⟨xs, h1, h2, h3, h4, h5⟩, h6, h7, h8⟩ := h
  have hix : i < xs.length := by omega
  obtain ⟨_, hd⟩ := drop_at h4 hix (by omega)
  refine ⟨⟨_, h1.store hix _, by simpa using h2, all_set h3 (by rw [b32]; omega), ?_, ?_⟩, grown_store h6 hD _, ?_, by split <;> omega⟩
  · rw [List.drop_set_of_lt (by omega)]; exact hd
  · refine red_val hix (by omega) (by rw [val_take_succ hi, hv]) hu h5 ?_
    have := red_step (B := B32) (u := u) (p := p) (b := b) (v := v) (q := q) (by decide) (by rw [b32]; omega) h8
    rw [b32] at this ⊢
    rw [this]
    exact congrArg (fun t => u + 4294967296 * t) (Nat.add_comm _ _)
  · have h9 : v * q ≤ 4294967295 * 4294967295 := Nat.mul_le_mul hv1 hq1
    omega
structure RedOut (W0 : World) (D : Nat) (A us C vs : List Nat) (q b : Nat) (wr : World) : Prop where
  arr : ∃ xs, Win wr D A xs C ∧ xs.length = us.length ∧ (∀ x ∈ xs, x < B32) ∧ val B32 xs + q * val B32 vs = val B32 us + B32 ^ us.length * b
  old : W0.grownBy wr (some D)
theorem RedAt.last {W0 wr : World} {D : Nat} {A us C vs : List Nat} {q n p b u : Nat} (h : RedAt W0 D A us C vs q n p b wr) (hD : D < W0.heap.size) (hn : n = vs.length) (hl : us.length = n + 1) (hu : us[n]'(by omega) = u) (hu1 : u ≤ 4294967295) :
    RedOut W0 D A us C vs q (if u < p + b then 1 else 0) (wr.setCell ⟨D, A.length + n, none⟩ (.int .u32 (((u + 4294967296 - p - b) % 4294967296 : Nat) : Int))) := by
  obtain ⟨⟨xs, h1, h2, h3, h4, h5⟩, h6, h7, h8⟩ := h
  have hix : n < xs.length := by omega
  refine ⟨⟨_, h1.store hix _, by simpa using h2, all_set h3 (by rw [b32]; omega), ?_⟩, grown_store h6 hD _⟩
  have hs := red_step (B := B32) (u := u) (p := p) (b := b) (v := 0) (q := q) (by decide) (by rw [b32]; omega) h8
  have hp : (p + 0 * q) % B32 = p := by rw [b32, Nat.zero_mul, Nat.add_zero, Nat.mod_eq_of_lt (by omega)]
  have hp2 : (p + 0 * q) / B32 = 0 := by rw [b32, Nat.zero_mul, Nat.add_zero]; omega
  rw [hp, hp2, Nat.add_zero] at hs
  have hv0 : val B32 (vs.take (n + 1)) = val B32 (vs.take n) + B32 ^ n * 0 := by rw [List.take_of_length_le (by omega), List.take_of_length_le (by omega)]; simp
  have hr := red_val (x := (u + 4294967296 - p - b) % 4294967296) hix (by omega) hv0 hu h5 (by rw [b32] at hs; exact hs)
  rw [List.take_of_length_le (by rw [List.length_set]; omega), List.take_of_length_le (by omega), List.take_of_length_le (by omega), ← hl] at hr
  exact hr
structure BackAt (W0 : World) (D : Nat) (A xs C vs : List Nat) (i c : Nat) (wr : World) : Prop where
  arr : ∃ ys, Win wr D A ys C ∧ ys.length = xs.length ∧ (∀ y ∈ ys, y < B32) ∧ ys.drop i = xs.drop i ∧ val B32 (ys.take i) + B32 ^ i * c = val B32 (xs.take i) + val B32 (vs.take i)
  old : W0.grownBy wr (some D)
  c1 : c ≤ 1
theorem back_val {ys xs vs : List Nat} {i c u v : Nat} (hy : i < ys.length) (hx : i < xs.length) (hv : val B32 (vs.take (i + 1)) = val B32 (vs.take i) + B32 ^ i * v) (hxe : xs[i] = u) (h : val B32 (ys.take i) + B32 ^ i * c = val B32 (xs.take i) + val B32 (vs.take i)) :
    val B32 ((ys.set i ((u + v + c) % 4294967296)).take (i + 1)) + B32 ^ (i + 1) * ((u + v + c) / 4294967296) = val B32 (xs.take (i + 1)) + val B32 (vs.take (i + 1)) := by
  rw [val_take_set hy, val_take_succ hx, hxe, hv, Nat.pow_succ, Nat.mul_assoc]
  have hb := b32
  generalize B32 ^ i = P at *
  have e : P * ((u + v + c) % 4294967296) + P * (B32 * ((u + v + c) / 4294967296)) = P * u + P * v + P * c := by
    rw [hb, ← Nat.mul_add, Nat.mod_add_div, Nat.mul_add, Nat.mul_add]
  omega
theorem BackAt.step {W0 wr wr' : World} {D : Nat} {A xs C vs : List Nat} {i c u v : Nat} (h : BackAt W0 D A xs C vs i c wr) (hw : Below wr.heap.size wr wr') (hD : D < W0.heap.size) (hi : i < vs.length) (hl : xs.length = vs.length + 1) (hu : xs[i]'(by omega) = u) (hv : vs[i] = v) (hu1 : u ≤ 4294967295) (hv1 : v ≤ 4294967295) :
    BackAt W0 D A xs C vs (i + 1) ((u + v + c) / 4294967296) (wr'.setCell ⟨D, A.length + i, none⟩ (.int .u32 (((u + v + c) % 4294967296 : Nat) : Int))) := by
  obtain ⟨⟨ys, h1, h2, h3, h4, h5⟩, h6, h7⟩ := h
  have hiy : i < ys.length := by omega
  obtain ⟨_, hd⟩ := drop_at h4 hiy (by omega)
  have h1' : Win wr' D A ys C := Arr.below h1 hw
  refine ⟨⟨_, h1'.store hiy _, by simpa using h2, all_set h3 (by rw [b32]; omega), ?_, back_val hiy (by omega) (by rw [val_take_succ hi, hv]) hu h5⟩, grown_store (grown_trans h6 (below_grown hw)) hD _, by omega⟩
  rw [List.drop_set_of_lt (by omega)]; exact hd
theorem BackAt.last {W0 wr : World} {D : Nat} {A xs C vs : List Nat} {n c u : Nat} (h : BackAt W0 D A xs C vs n c wr) (hD : D < W0.heap.size) (hn : n = vs.length) (hl : xs.length = n + 1) (hu : xs[n]'(by omega) = u) :
    ∃ ys, Win (wr.setCell ⟨D, A.length + n, none⟩ (.int .u32 (((u + c) % 4294967296 : Nat) : Int))) D A ys C ∧ ys.length = xs.length ∧ (∀ y ∈ ys, y < B32) ∧ val B32 ys + B32 ^ xs.length * ((u + c) / 4294967296) = val B32 xs + val B32 vs ∧ W0.grownBy (wr.setCell ⟨D, A.length + n, none⟩ (.int .u32 (((u + c) % 4294967296 : Nat) : Int))) (some D) := by
  obtain ⟨⟨ys, h1, h2, h3, h4, h5⟩, h6, h7⟩ := h
  have hiy : n < ys.length := by omega
  refine ⟨_, h1.store hiy _, by simpa using h2, all_set h3 (by rw [b32]; omega), ?_, grown_store h6 hD _⟩
  have hv0 : val B32 (vs.take (n + 1)) = val B32 (vs.take n) + B32 ^ n * 0 := by rw [List.take_of_length_le (by omega), List.take_of_length_le (by omega)]; simp
  have hr := back_val hiy (by omega) hv0 hu h5
  rw [Nat.add_zero] at hr
  rw [List.take_of_length_le (by rw [List.length_set]; omega), List.take_of_length_le (by omega), List.take_of_length_le (by omega), ← hl] at hr
  exact hr
set_option maxRecDepth 100000 in
set_option maxHeartbeats 4000000 in
theorem reduce_any (D E cE : Nat) (A us C vs : List Nat) (q : Nat) (w : World) (hD : Win w D A us C) (hE : Arr w E vs) (hne : E ≠ D) (hl : us.length = vs.length + 1) (hub : ∀ u ∈ us, u < B32) (hvb : ∀ v ∈ vs, v < B32) (hV : 0 < val B32 vs) (hq1 : q ≤ 4294967295)
    (h1 : val B32 us / val B32 vs ≤ q) (h2 : q ≤ val B32 us / val B32 vs + 1) (_hA : A.length ≤ 1000000) (hn : vs.length ≤ 1000000) :
    Calls Tryz.prog 94 #[.slice (some ⟨D, A.length, none⟩) (vs.length + 1) (vs.length + 1), .slice (some ⟨E, 0, none⟩) vs.length cE, .int .u32 (q : Int)] w fun e w' => e = .returned (.int .u32 ((val B32 us / val B32 vs : Nat) : Int)) ∧ (∃ us', us'.length = us.length ∧ (∀ u ∈ us', u < B32) ∧ val B32 us' = val B32 us % val B32 vs ∧ Win w' D A us' C) ∧ w.grownBy w' (some D) := by
  have HUB := hid hub
  have HVB := hid hvb
  have HE := hid hE
  have HNE := hid hne
  have HV := hid hV
  have HQ1 := hid h1
  have HQ2 := hid h2
  have hDl := hD.lt
  have hEl := hE.lt
  have HUL := hid (val_lt b32_2 hub)
  have HVL := hid (val_lt b32_2 hvb)
  have hat0 : RedAt w D A us C vs q 0 0 0 w := ⟨⟨us, hD, rfl, hub, rfl, by simp [val]⟩, grown_refl _ _, by omega, by omega⟩
  clear hub hvb hE hne hV h1 h2 hD
  obtain ⟨U, hU⟩ : ∃ U, val B32 us = U := ⟨_, rfl⟩
  obtain ⟨V, hV⟩ : ∃ V, val B32 vs = V := ⟨_, rfl⟩
  rw [hU, hV] at HQ1 HQ2 ⊢
  rw [hV] at HV HVL
  rw [hU] at HUL
  have HUE := hid hU
  have HVE := hid hV
  clear hU hV
  go_enter Tryz.func94, Tryz.ntmps94
  go_wp2_with fail
  go_loopw [8, 9, 16] (fun pv bv iv wr => ∃ i p b : Nat, i ≤ vs.length ∧ iv = .int .i64 (i : Int) ∧ pv = .int .u64 (p : Int) ∧ bv = .int .u32 (b : Int) ∧ RedAt w D A us C vs q i p b wr) (fun _ _ iv _ => vs.length - (intOf iv).toNat)
  case atStart => exact ⟨0, 0, 0, Nat.zero_le _, rfl, rfl, rfl, hat0⟩
  case round =>
    clear hat0
    obtain ⟨i, p, b, hi, rfl, rfl, rfl, hat⟩ := hrel
    generalize wr = W1 at hat ⊢
    have hp1 := hat.p1
    have hb1 := hat.b1
    obtain ⟨xs, hwin, hxl, hxb, hxd, _⟩ := hat.arr
    have hvs := arr_other HE.out hat.old HNE.out
    have hfr := hwin.free
    have hDl1 := hwin.lt
    by_cases hlt : i < vs.length
    · have hix : i < xs.length := by omega
      have hiu : i < us.length := by omega
      have cu := hwin.cell hix
      rw [(drop_at hxd hix hiu).1] at cu
      have cv := hvs.cell i hlt
      have hu1 : us[i] ≤ 4294967295 := by have := HUB.out _ (List.getElem_mem hiu); rw [b32] at this; omega
      have hv1 : vs[i] ≤ 4294967295 := by have := HVB.out _ (List.getElem_mem hlt); rw [b32] at this; omega
      obtain ⟨u, hu⟩ : ∃ u, us[i] = u := ⟨_, rfl⟩
      obtain ⟨v, hv⟩ : ∃ v, vs[i] = v := ⟨_, rfl⟩
      rw [hu] at cu hu1
      rw [hv] at cv hv1
      have HS := hid (hat.step hDl hlt hl hu hv hu1 hv1 hq1)
      have hvl := hvs.lt
      have h9 : v * q ≤ 4294967295 * 4294967295 := Nat.mul_le_mul hv1 hq1
      have hm0 : 0 ≤ (v : Int) * (q : Int) := Int.mul_nonneg (by omega) (by omega)
      have hm1 : (v : Int) * (q : Int) ≤ 18446744065119617025 := by
        have e1 : ((v * q : Nat) : Int) = (v : Int) * (q : Int) := Int.natCast_mul v q
        omega
      obtain ⟨t, ht, ht2⟩ : ∃ t : Nat, p + v * q = t ∧ (p : Int) + (v : Int) * (q : Int) = (t : Int) := ⟨_, rfl, by simp only [Int.natCast_add, Int.natCast_mul]⟩
      have htb : (t : Int) ≤ 18446744073709551615 := by omega
      rw [ht] at HS
      have HSB := hid (fun w1 => show Calls Tryz.prog 105 #[.int .u32 (u : Int), .int .u32 ((t : Int) % 4294967296), .int .u32 (b : Int)] w1 _ from sub32_any u (t % 4294967296) b w1 hu1 (by omega) hb1)
      clear hu hv ht h9 hat hxd hxb hxl
      go_upto_region 8 with (fail)
      clear ht2 hm0 hm1
      go_wp2_with (go_at_call 105; refine (HSB.out _).mono ?_; clear HSB; rintro e w2 ⟨rfl, rfl⟩)
      go_roundw
      case rel => exact ⟨i + 1, t / 4294967296, _, by omega, by go_num, rfl, rfl, HS.out⟩
      case measure => simp [intOf]; omega
    · obtain rfl : i = vs.length := by omega
      have hix : vs.length < xs.length := by omega
      have hiu : vs.length < us.length := by omega
      have cu := hwin.cell hix
      rw [(drop_at hxd hix hiu).1] at cu
      have hu1 : us[vs.length] ≤ 4294967295 := by have := HUB.out _ (List.getElem_mem hiu); rw [b32] at this; omega
      obtain ⟨u, hu⟩ : ∃ u, us[vs.length] = u := ⟨_, rfl⟩
      rw [hu] at cu hu1
      have HL := hid (hat.last hDl rfl hl hu hu1)
      have HSB := hid (fun w1 => sub32_any u p b w1 hu1 hp1 hb1)
      clear hu hat hxd hxb hxl
      by_cases hbor : u < p + b
      · rw [if_pos hbor] at HSB HL
        clear hbor
        obtain ⟨x, hx⟩ : ∃ x, (u + 4294967296 - p - b) % 4294967296 = x := ⟨_, rfl⟩
        rw [hx] at HSB HL
        clear hx
        go_upto_region 14 with (go_at_call 105; refine (HSB.out _).mono ?_; clear HSB; rintro e w2 ⟨rfl, rfl⟩)
        obtain ⟨⟨xs', g1, g2, g3, g4⟩, g5⟩ := HL.out
        generalize W1.setCell ⟨D, A.length + vs.length, none⟩ (.int .u32 (x : Int)) = W2 at g1 g5 ⊢
        have HX4 := hid g4
        have HX3 := hid g3
        have hvs2 := arr_other HE.out g5 HNE.out
        have hat1 : BackAt w D A xs' C vs 0 0 W2 := ⟨⟨xs', g1, rfl, g3, rfl, by simp [val]⟩, g5, by omega⟩
        have hxl' : xs'.length = vs.length + 1 := by omega
        clear cu hfr hvs g1 g3 g4 g5 hwin HL hvs2
        go_wp2_with fail
        go_loopw [11, 64] (fun cv iv wr => ∃ i c : Nat, i ≤ vs.length ∧ iv = .int .i64 (i : Int) ∧ cv = .int .u32 (c : Int) ∧ BackAt w D A xs' C vs i c wr) (fun _ iv _ => vs.length - (intOf iv).toNat)
        case atStart => exact ⟨0, 0, Nat.zero_le _, rfl, rfl, hat1⟩
        case round =>
          clear hat1
          obtain ⟨i, c, hi, rfl, rfl, hat⟩ := hrel
          generalize wr = W3 at hat ⊢
          have hc1 := hat.c1
          obtain ⟨ys, hwin, hyl, hyb, hyd, _⟩ := hat.arr
          have hvs := arr_other HE.out hat.old HNE.out
          have hfr := hwin.free
          have hDl1 := hwin.lt
          by_cases hlt : i < vs.length
          · have hiy : i < ys.length := by omega
            have hix : i < xs'.length := by omega
            have cu := hwin.cell hiy
            rw [(drop_at hyd hiy hix).1] at cu
            have cv := hvs.cell i hlt
            have hu1 : xs'[i] ≤ 4294967295 := by have := HX3.out _ (List.getElem_mem hix); rw [b32] at this; omega
            have hv1 : vs[i] ≤ 4294967295 := by have := HVB.out _ (List.getElem_mem hlt); rw [b32] at this; omega
            obtain ⟨u2, hu⟩ : ∃ u, xs'[i] = u := ⟨_, rfl⟩
            obtain ⟨v, hv⟩ : ∃ v, vs[i] = v := ⟨_, rfl⟩
            rw [hu] at cu hu1
            rw [hv] at cv hv1
            have HS := hid (fun w' (hb : Below W3.heap.size W3 w') => hat.step hb hDl hlt hxl' hu hv hu1 hv1)
            have hvl := hvs.lt
            have HAD := hid (fun w1 => add32_any u2 v c w1 hu1 hv1 hc1)
            have HW := hid hwin
            clear hu hv hat hyd hyb hyl
            obtain ⟨s1, hs1⟩ : ∃ s1, (u2 + v + c) % 4294967296 = s1 := ⟨_, rfl⟩
            obtain ⟨s2, hs2⟩ : ∃ s2, (u2 + v + c) / 4294967296 = s2 := ⟨_, rfl⟩
            rw [hs1, hs2] at HS HAD
            clear hs1 hs2
            have hi1 : (i : Int) < (vs.length : Int) + 1 := by omega
            have hi2 : (i : Int) < (vs.length : Int) := by omega
            go_upto_region 18 with (fail)
            refine wp_region_staged (fun w' => Below W3.heap.size W3 w') [0, 0, 0, 0, 0, 1, 0, 0, 0, 1, 0, 1, 0, 0, 0, 0, 2, 0] (by kernel_rfl) (by kernel_rfl) (by kernel_rfl) (by exact (Below.refl _ _).drew) ?_
            apply lexF rfl; (· intro _; go_simp; (try go_bits); exact ⟨rfl, rfl⟩); simp only [Act.put, List.setIfInBounds_toArray, List.set_cons_zero, List.set_cons_succ]
            apply lexF rfl; (· intro _; go_simp; (try go_bits); exact ⟨rfl, rfl⟩); simp only [Act.put, List.setIfInBounds_toArray, List.set_cons_zero, List.set_cons_succ]
            apply lexF rfl; (· intro _; go_simp; (try go_bits); exact ⟨rfl, rfl⟩); simp only [Act.put, List.setIfInBounds_toArray, List.set_cons_zero, List.set_cons_succ]
            apply lexF rfl; (· intro _; go_simp; (try go_bits); exact ⟨rfl, rfl⟩); simp only [Act.put, List.setIfInBounds_toArray, List.set_cons_zero, List.set_cons_succ]
            apply lexF rfl; (· intro _; go_simp; (try go_bits); exact ⟨rfl, rfl⟩); simp only [Act.put, List.setIfInBounds_toArray, List.set_cons_zero, List.set_cons_succ]
            apply lexH rfl; (· intro w' hw'; have hcc := cellsBelow hw'; go_simp; (try go_bits); exact ⟨rfl, hw'⟩); simp only [Act.put, List.setIfInBounds_toArray, List.set_cons_zero, List.set_cons_succ]
            apply lexF rfl; (· intro _; go_simp; (try go_bits); exact ⟨rfl, rfl⟩); simp only [Act.put, List.setIfInBounds_toArray, List.set_cons_zero, List.set_cons_succ]
            apply lexF rfl; (· intro _; go_simp; (try go_bits); exact ⟨rfl, rfl⟩); simp only [Act.put, List.setIfInBounds_toArray, List.set_cons_zero, List.set_cons_succ]
            apply lexF rfl; (· intro _; go_simp; (try go_bits); exact ⟨rfl, rfl⟩); simp only [Act.put, List.setIfInBounds_toArray, List.set_cons_zero, List.set_cons_succ]
            apply lexH rfl; (· intro w' hw'; have hcc := cellsBelow hw'; go_simp; (try go_bits); exact ⟨rfl, hw'⟩); simp only [Act.put, List.setIfInBounds_toArray, List.set_cons_zero, List.set_cons_succ]
            apply lexF rfl; (· intro _; go_simp; (try go_bits); exact ⟨rfl, rfl⟩); simp only [Act.put, List.setIfInBounds_toArray, List.set_cons_zero, List.set_cons_succ]
            apply lexH rfl
            · intro w' hw'; go_simp; (try go_bits); refine (HAD.out _).mono ?_; rintro e w5 ⟨rfl, rfl⟩; exact ⟨_, rfl, rfl, hw'⟩
            simp only [Act.put, List.setIfInBounds_toArray, List.set_cons_zero, List.set_cons_succ]
            apply lexF rfl; (· intro _; go_simp; (try go_bits); exact ⟨rfl, rfl⟩); simp only [Act.put, List.setIfInBounds_toArray, List.set_cons_zero, List.set_cons_succ]
            apply lexF rfl; (· intro _; go_simp; (try go_bits); exact ⟨rfl, rfl⟩); simp only [Act.put, List.setIfInBounds_toArray, List.set_cons_zero, List.set_cons_succ]
            apply lexF rfl; (· intro _; go_simp; (try go_bits); exact ⟨rfl, rfl⟩); simp only [Act.put, List.setIfInBounds_toArray, List.set_cons_zero, List.set_cons_succ]
            apply lexF rfl; (· intro _; go_simp; (try go_bits); exact ⟨rfl, rfl⟩); simp only [Act.put, List.setIfInBounds_toArray, List.set_cons_zero, List.set_cons_succ]
            apply lexS (fun w' => BackAt w D A xs' C vs (i + 1) s2 w') rfl
            · intro w' hw'
              have hwin' : Win w' D A ys C := Arr.below HW.out hw'
              have c0 := hwin'.cell hiy
              have f0 := hwin'.free
              go_simp
              exact ⟨rfl, HS.out w' hw'⟩
            simp only [Act.put]
            apply lexF rfl; (· intro _; go_simp; (try go_bits); exact ⟨rfl, rfl⟩); simp only [Act.put, List.setIfInBounds_toArray, List.set_cons_zero, List.set_cons_succ]
            refine lexEnd (fun W5 hw5 => ?_)
            go_wp2
            go_roundw
            case rel => exact ⟨i + 1, s2, by omega, by go_num, rfl, hw5⟩
            case measure => simp [intOf]; omega
          · obtain rfl : i = vs.length := by omega
            have hiy : vs.length < ys.length := by omega
            have hix : vs.length < xs'.length := by omega
            have cu := hwin.cell hiy
            rw [(drop_at hyd hiy hix).1] at cu
            have hu1 : xs'[vs.length] ≤ 4294967295 := by have := HX3.out _ (List.getElem_mem hix); rw [b32] at this; omega
            obtain ⟨u2, hu⟩ : ∃ u, xs'[vs.length] = u := ⟨_, rfl⟩
            rw [hu] at cu hu1
            have HLL := hid (hat.last hDl rfl hxl' hu)
            clear hu hat hyd hyb hyl
            have e2 : ((u2 : Int) + (c : Int)) % 4294967296 = (((u2 + c) % 4294967296 : Nat) : Int) := by omega
            obtain ⟨s1, hs1⟩ : ∃ s1, (u2 + c) % 4294967296 = s1 := ⟨_, rfl⟩
            rw [hs1] at e2 HLL
            obtain ⟨ys', k1, k2, k3, k4, k5⟩ := HLL.out
            have hg4 := HX4.out
            rw [HUE.out, HVE.out] at hg4
            rw [HVE.out] at k4
            have hX := val_lt b32_2 HX3.out
            have hY := val_lt b32_2 k3
            rw [k2] at hY
            have hlen : us.length = xs'.length := by omega
            rw [hlen] at hg4
            have g6 := red_back (c := (u2 + c) / 4294967296) hg4 hX hY (by
              have h5 := HVL.out
              rw [hxl', Nat.pow_succ]
              refine Nat.le_trans (Nat.le_of_lt h5) ?_
              exact Nat.le_mul_of_pos_right _ (by decide)) k4 HQ2.out HV.out
            have HG := hid g6
            have HK := hid k1
            have HK2 := hid k2
            have HK3 := hid k3
            have HK5 := hid k5
            have hq0 : 1 ≤ q := by rw [g6.1]; exact Nat.le_add_left 1 _
            clear hs1 HLL k1 k2 k3 k4 k5 g6 hg4 hX hY hlen
            go_upto_region 21 with (fail)
            go_wp2
            go_ret
            refine ⟨?_, ⟨ys', by rw [HK2.out]; omega, HK3.out, HG.out.2, HK.out⟩, HK5.out⟩
            have hqe := HG.out.1
            show Ending.returned (Value.int .u32 ((q : Int) - 1)) = Ending.returned (.int .u32 ((U / V : Nat) : Int))
            rw [hqe]
            congr 2
            omega
      · rw [if_neg hbor] at HSB HL
        clear hbor
        obtain ⟨x, hx⟩ : ∃ x, (u + 4294967296 - p - b) % 4294967296 = x := ⟨_, rfl⟩
        rw [hx] at HSB HL
        clear hx
        go_wp2_with (go_at_call 105; refine (HSB.out _).mono ?_; clear HSB; rintro e w2 ⟨rfl, rfl⟩)
        go_ret
        obtain ⟨⟨ys, g1, g2, g3, g4⟩, g5⟩ := HL.out
        rw [HUE.out, HVE.out] at g4
        have g6 := red_done (T := B32 ^ us.length) g4 HQ1.out HV.out
        exact ⟨by rw [← g6.1]; rfl, ⟨ys, g2, g3, g6.2, g1⟩, g5⟩
end Go.Proofs.YtjhgkojbpgakcaaGreatDoor
namespace Go.Proofs.YtjhgkojbpgakcaaGreatDoor
open Go.RowKit
theorem two_pow_32 {s : Nat} (hs : s ≤ 32) : (2 ^ s) ∣ B32 := ⟨2 ^ (32 - s), by rw [← Nat.pow_add, show s + (32 - s) = 32 by omega]; rfl⟩
structure ShlAt (W0 : World) (D : Nat) (ds : List Nat) (S L k low : Nat) (wr : World) : Prop where
  arr : ∃ xs, Arr wr D xs ∧ xs.length = L ∧ (∀ x ∈ xs, x < B32) ∧ val B32 (xs.take k) + B32 ^ k * low = val B32 (ds.take k) * S
  old : Below D W0 wr
  lo : low < S
theorem ShlAt.step {W0 wr : World} {D : Nat} {ds : List Nat} {s L k low x : Nat} (h : ShlAt W0 D ds (2 ^ s) L k low wr) (hs : s ≤ 32) (hk : k < ds.length) (hL : ds.length ≤ L) (hx : ds[k] = x) (hx1 : x ≤ 4294967295) :
    ShlAt W0 D ds (2 ^ s) L (k + 1) (x * 2 ^ s / 4294967296) (wr.setCell ⟨D, k, none⟩ (.int .u32 ((x * 2 ^ s % 4294967296 + low : Nat) : Int))) := by
  obtain ⟨⟨xs, h1, h2, h3, h4⟩, h5, h6⟩ := h
  have hp : 0 < 2 ^ s := Nat.pow_pos (by decide)
  obtain ⟨s1, s2, s3⟩ := shl_step (B := B32) (S := 2 ^ s) (x := x) (low := low) hp (two_pow_32 hs) (by decide) (by rw [b32]; omega) h6
  rw [b32] at s1 s2 s3
  refine ⟨⟨_, h1.store _ _, by simpa using h2, all_set h3 (by rw [b32]; exact s1), ?_⟩, h5.setCell (p := ⟨D, k, none⟩) (Nat.le_refl _) _, s2⟩
  rw [val_take_set (by omega), val_take_succ hk, hx, Nat.pow_succ, Nat.mul_assoc]
  have hb := b32
  generalize 2 ^ s = S at *
  generalize B32 ^ k = P at *
  have e : P * (x * S % 4294967296 + low) + P * (B32 * (x * S / 4294967296)) = P * (x * S + low) := by rw [hb, ← Nat.mul_add, s3]
  rw [Nat.add_mul, Nat.mul_assoc P x S]
  rw [Nat.mul_add P (x * S)] at e
  omega
theorem u32_or_shl (x s low : Nat) (hs : s ≤ 31) (_hx : x ≤ 4294967295) (hl : low < 2 ^ s) : bits BinOp.or IntKind.u32 ((x : Int) * ((2 ^ s : Nat) : Int) % 4294967296) (low : Int) = ((x * 2 ^ s % 4294967296 + low : Nat) : Int) := by
  have e1 : (x : Int) * ((2 ^ s : Nat) : Int) % 4294967296 = ((x * 2 ^ s % 4294967296 : Nat) : Int) := by
    rw [← Int.natCast_mul]; rfl
  have hlt : 2 ^ s ≤ 2 ^ 31 := Nat.pow_le_pow_right (by decide) hs
  rw [e1, u32_or_nat _ _ (by omega) (by have : 2 ^ 31 = 2147483648 := rfl; omega)]
  have e2 : x * 2 ^ s % 4294967296 = 2 ^ s * (x % 2 ^ (32 - s)) := by
    rw [show (4294967296 : Nat) = 2 ^ s * 2 ^ (32 - s) by rw [← Nat.pow_add, show s + (32 - s) = 32 by omega], Nat.mul_comm x, Nat.mul_mod_mul_left]
  rw [e2, ← Nat.two_pow_add_eq_or_of_lt hl]
set_option maxRecDepth 100000 in
set_option maxHeartbeats 2000000 in
theorem shl_any (P : Option Addr) (c s L : Nat) (ds : List Nat) (w : World) (hd : DigP w P ds) (h1 : ∀ d ∈ ds, d < B32) (hs : s ≤ 31) (hl : ds.length ≤ L) (hL : L ≤ 1000000) (hL1 : L ≤ ds.length + 1) (hfit : L = ds.length → val B32 ds * 2 ^ s < B32 ^ L) :
    Calls Tryz.prog 93 #[.slice P ds.length c, .int .i64 (s : Int), .int .i64 (L : Int)] w fun e w' => ∃ D xs, e = .returned (.slice (some ⟨D, 0, none⟩) L L) ∧ w.heap.size ≤ D ∧ Arr w' D xs ∧ xs.length = L ∧ (∀ x ∈ xs, x < B32) ∧ val B32 xs = val B32 ds * 2 ^ s ∧ Below w.heap.size w w' := by
  obtain ⟨i0, hi, hz0, hz1, hz2⟩ := info_parts infoU
  have H1 := hid h1
  have HD := hid hd
  have HF := hid hfit
  have HL1 := hid hL1
  have hp : 0 < 2 ^ s := Nat.pow_pos (by decide)
  clear h1 hd hfit hL1
  go_enter Tryz.func93, Tryz.ntmps93
  go_upto_region 2 with (at_make; go_loud (refine wpList_make_full _ rfl _ _ _ rfl w.heap.size 104 i0 _ 1 Tryz.underlying25 hi hz0 hz1 _ _ _ _ L rfl rfl (by simp) (by simp) (by rw [hz2]; omega) (by unfold maxLen; omega) (Nat.le_refl _) ?_; intro w2 hown hgr; have hb2 : Below w.heap.size w w2 := (Below.refl _ w).grown hgr (Nat.le_refl _) (by simp); have hA := arr_made hown; clear hown hgr))
  have hat0 : ShlAt w w.heap.size ds (2 ^ s) L 0 0 w2 := ⟨⟨_, hA, by simp, fun x hx => by rw [List.eq_of_mem_replicate hx, b32]; omega, by simp [val]⟩, hb2, hp⟩
  clear hA hb2
  go_wp2_with fail
  go_loopw [8, 15] (fun lv iv wr => ∃ k low : Nat, k ≤ ds.length ∧ iv = .int .i64 (k : Int) ∧ lv = .int .u32 (low : Int) ∧ ShlAt w w.heap.size ds (2 ^ s) L k low wr) (fun _ iv _ => ds.length - (intOf iv).toNat)
  case atStart => exact ⟨0, 0, Nat.zero_le _, rfl, rfl, hat0⟩
  case round =>
    clear hat0
    obtain ⟨k, low, hk, rfl, rfl, hat⟩ := hrel
    generalize wr = W1 at hat ⊢
    have hold := hat.old
    have hlo := hat.lo
    obtain ⟨xs, harr, hxl, hxb, hxv⟩ := hat.arr
    have hfr := harr.free
    have hDl := harr.lt
    by_cases hlt : k < ds.length
    · obtain ⟨g, rfl, hg⟩ := HD.out.at hlt
      have g0 := (hg.below hold).at0 k hlt
      have hgl := Nat.lt_of_lt_of_le hg.lt hold.size
      have hx1 : ds[k] ≤ 4294967295 := by have := H1.out _ (List.getElem_mem hlt); rw [b32] at this; omega
      obtain ⟨x, hx⟩ : ∃ x, ds[k] = x := ⟨_, rfl⟩
      rw [hx] at g0 hx1
      have HS := hid (hat.step (by omega) hlt hl hx hx1)
      have e2 := u32_or_shl x s low hs hx1 hlo
      have c0 := harr.cell k (by omega)
      obtain ⟨z, hz⟩ : ∃ z, xs[k]'(by omega) = z := ⟨_, rfl⟩
      rw [hz] at c0
      clear hz
      have e3 : (2 : Int) ^ s = ((2 ^ s : Nat) : Int) := by simp
      obtain ⟨S, hS⟩ : ∃ S, 2 ^ s = S := ⟨_, rfl⟩
      have HSE := hid hS
      have hS31 : S ≤ 2147483648 := by rw [← hS]; exact Nat.pow_le_pow_right (n := 2) (by decide) hs
      rw [hS] at HS e2 e3 hlo hp
      have hxs : x * S ≤ 4294967295 * 2147483648 := Nat.mul_le_mul hx1 hS31
      have hm1 : (x : Int) * (S : Int) ≤ 9223372034707292160 := by
        have e1 : ((x * S : Nat) : Int) = (x : Int) * (S : Int) := Int.natCast_mul x S
        omega
      have hm0 : 0 ≤ (x : Int) * (S : Int) := Int.mul_nonneg (by omega) (by omega)
      obtain ⟨T, hT⟩ : ∃ T, x * S % 4294967296 + low = T := ⟨_, rfl⟩
      rw [hT] at e2 HS
      have hlb1 : (x : Int) * (S : Int) / 4294967296 ≤ 2147483648 := by omega
      have hlb0 : 0 ≤ (x : Int) * (S : Int) / 4294967296 := by omega
      clear hx hS hat harr hxl hxb hxv hT hxs
      go_upto_region 7 with (fail)
      clear e2
      go_wp2
      go_roundw
      case rel =>
        refine ⟨k + 1, x * S / 4294967296, by omega, by go_num, ?_, by rw [HSE.out]; exact HS.out⟩
        show Value.int .u32 _ = Value.int .u32 _
        congr 1
      case measure => simp [intOf]; omega
    · obtain rfl : k = ds.length := by omega
      rw [List.take_length] at hxv
      by_cases hLL : ds.length < L
      · have hLi : (ds.length : Int) < (L : Int) := by omega
        have hst := harr.store ds.length low
        have c0 := harr.cell ds.length (by omega)
        obtain ⟨z, hz⟩ : ∃ z, xs[ds.length]'(by omega) = z := ⟨_, rfl⟩
        rw [hz] at c0
        have HVX := hid (show val B32 (xs.set ds.length low) = val B32 ds * 2 ^ s by
          have h4 := val_take_set (B := B32) (xs := xs) (k := ds.length) (v := low) (by omega)
          rw [List.take_of_length_le (by rw [List.length_set]; have := HL1.out; omega)] at h4
          rw [h4, hxv])
        have HLB := hid (show low < B32 by rw [b32]; have : 2 ^ s ≤ 2 ^ 31 := Nat.pow_le_pow_right (by decide) hs; omega)
        clear hz hat hxv
        go_wp2
        go_ret
        exact ⟨_, _, rfl, Nat.le_refl _, hst, by rw [List.length_set]; exact hxl, all_set hxb HLB.out, HVX.out, hold.setCell (p := ⟨w.heap.size, ds.length, none⟩) (Nat.le_refl _) _⟩
      · have hLe : L = ds.length := by omega
        have hLi : ¬ (ds.length : Int) < (L : Int) := by omega
        have HVX := hid (show val B32 xs = val B32 ds * 2 ^ s by
          have h5 := HF.out hLe
          rw [List.take_of_length_le (by omega)] at hxv
          rw [hLe] at h5
          rcases Nat.eq_zero_or_pos low with h0 | h0
          · subst h0; omega
          · have : B32 ^ ds.length * 1 ≤ B32 ^ ds.length * low := Nat.mul_le_mul_left _ h0
            omega)
        clear hxv hat hLe
        go_wp2
        go_ret
        first
          | exact ⟨_, rfl, Nat.le_refl _, xs, harr, hxl, hxb, HVX.out, hold⟩
          | exact ⟨_, xs, rfl, Nat.le_refl _, harr, hxl, hxb, HVX.out, hold⟩
end Go.Proofs.YtjhgkojbpgakcaaGreatDoor
namespace Go.Proofs.YtjhgkojbpgakcaaGreatDoor
open Go.RowKit
structure ShrAt (W0 : World) (D : Nat) (ds : List Nat) (S k : Nat) (wr : World) : Prop where
  arr : ∃ xs, Arr wr D xs ∧ xs.length = ds.length ∧ (∀ x ∈ xs, x < B32) ∧ val B32 (xs.drop k) = val B32 (ds.drop k) / S
  old : Below D W0 wr
theorem ShrAt.step {W0 wr : World} {D : Nat} {ds : List Nat} {s j x h : Nat} (ha : ShrAt W0 D ds (2 ^ s) (j + 1) wr) (hs : s ≤ 32) (hj : j < ds.length) (hx : ds[j] = x) (hx1 : x ≤ 4294967295) (hh : h = val B32 (ds.drop (j + 1)) % B32) :
    ShrAt W0 D ds (2 ^ s) j (wr.setCell ⟨D, j, none⟩ (.int .u32 (((h * 4294967296 + x) / 2 ^ s % 4294967296 : Nat) : Int))) := by
  obtain ⟨⟨xs, h1, h2, h3, h4⟩, h5⟩ := ha
  refine ⟨⟨_, h1.store _ _, by simpa using h2, all_set h3 (by rw [b32]; omega), ?_⟩, h5.setCell (p := ⟨D, j, none⟩) (Nat.le_refl _) _⟩
  rw [val_drop_set (by omega), val_drop hj, hx, h4, hh]
  have := shr_step (B := B32) (S := 2 ^ s) (d := x) (D := val B32 (ds.drop (j + 1))) (Nat.pow_pos (by decide)) (two_pow_32 hs) (by decide) (by rw [b32]; omega)
  rw [this, b32]
theorem high_next {ds : List Nat} {j : Nat} (hj : j < ds.length) (h1 : ∀ d ∈ ds, d < B32) : ds[j] = val B32 (ds.drop j) % B32 := by
  rw [val_drop hj, Nat.add_mul_mod_self_left, Nat.mod_eq_of_lt (h1 _ (List.getElem_mem hj))]
set_option maxRecDepth 100000 in
set_option maxHeartbeats 2000000 in
theorem shr_any (P : Option Addr) (c s : Nat) (ds : List Nat) (w : World) (hd : DigP w P ds) (h1 : ∀ d ∈ ds, d < B32) (hs : s ≤ 31) (hL : ds.length ≤ 1000000) :
    Calls Tryz.prog 95 #[.slice P ds.length c, .int .i64 (s : Int)] w fun e w' => ∃ D xs, e = .returned (.slice (some ⟨D, 0, none⟩) ds.length ds.length) ∧ Arr w' D xs ∧ xs.length = ds.length ∧ (∀ x ∈ xs, x < B32) ∧ val B32 xs = val B32 ds / 2 ^ s ∧ Below w.heap.size w w' := by
  obtain ⟨i0, hi, hz0, hz1, hz2⟩ := info_parts infoU
  have H1 := hid h1
  have HD := hid hd
  clear h1 hd
  go_enter Tryz.func95, Tryz.ntmps95
  go_upto_region 2 with (at_make; go_loud (refine wpList_make_full _ rfl _ _ _ rfl w.heap.size 104 i0 _ 1 Tryz.underlying25 hi hz0 hz1 _ _ _ _ ds.length rfl rfl (by simp) (by simp) (by rw [hz2]; omega) (by unfold maxLen; omega) (Nat.le_refl _) ?_; intro w2 hown hgr; have hb2 : Below w.heap.size w w2 := (Below.refl _ w).grown hgr (Nat.le_refl _) (by simp); have hA := arr_made hown; clear hown hgr))
  have hat0 : ShrAt w w.heap.size ds (2 ^ s) ds.length w2 := ⟨⟨_, hA, by simp, fun x hx => by rw [List.eq_of_mem_replicate hx, b32]; omega, by simp [val]⟩, hb2⟩
  clear hA hb2
  go_wp2_with fail
  go_loopw [6, 7] (fun hv iv wr => ∃ k h : Nat, k ≤ ds.length ∧ iv = .int .i64 ((k : Int) - 1) ∧ hv = .int .u32 (h : Int) ∧ h ≤ 4294967295 ∧ RowKit.Hid (h = val B32 (ds.drop k) % B32) ∧ ShrAt w w.heap.size ds (2 ^ s) k wr) (fun _ iv _ => (intOf iv + 1).toNat)
  case atStart => exact ⟨ds.length, 0, Nat.le_refl _, rfl, rfl, by omega, hid (by rw [List.drop_length]; rfl), hat0⟩
  case round =>
    clear hat0
    obtain ⟨k, h, hk, rfl, rfl, hh1, HH, hat⟩ := hrel
    generalize wr = W1 at hat ⊢
    have hold := hat.old
    by_cases hk0 : k = 0
    · subst hk0
      obtain ⟨xs, harr, hxl, hxb, hxv⟩ := hat.arr
      rw [List.drop_zero, List.drop_zero] at hxv
      clear hat
      go_wp2
      go_ret
      exact ⟨_, xs, rfl, harr, hxl, hxb, hxv, hold⟩
    · obtain ⟨j, rfl⟩ : ∃ j, k = j + 1 := ⟨k - 1, by omega⟩
      have hj : j < ds.length := by omega
      have ei : (((j + 1 : Nat) : Int) - 1) = (j : Int) := by omega
      rw [ei]
      clear ei
      obtain ⟨g, rfl, hg⟩ := HD.out.at hj
      have g0 := (hg.below hold).at0 j hj
      have hgl := Nat.lt_of_lt_of_le hg.lt hold.size
      have hne : g ≠ w.heap.size := by have := hg.lt; omega
      have hx1 : ds[j] ≤ 4294967295 := by have := H1.out _ (List.getElem_mem hj); rw [b32] at this; omega
      have HN := hid (high_next hj H1.out)
      obtain ⟨x, hx⟩ : ∃ x, ds[j] = x := ⟨_, rfl⟩
      rw [hx] at g0 hx1 HN
      have HS := hid (hat.step (by omega) hj hx hx1 HH.out)
      obtain ⟨xs, harr, hxl, _, _⟩ := hat.arr
      have c0 := harr.cell j (by omega)
      obtain ⟨z, hz⟩ : ∃ z, xs[j]'(by omega) = z := ⟨_, rfl⟩
      rw [hz] at c0
      clear hz
      have hfr := harr.free
      have hDl := harr.lt
      have q0 : 0 ≤ (j : Int) := by omega
      have e2 := div_or h x hh1 hx1
      have e3 : (2 : Int) ^ s = ((2 ^ s : Nat) : Int) := by simp
      obtain ⟨S, hS⟩ : ∃ S, 2 ^ s = S := ⟨_, rfl⟩
      have HSE := hid hS
      have hp : 0 < 2 ^ s := Nat.pow_pos (by decide)
      rw [hS] at HS e3 hp
      obtain ⟨t, ht⟩ : ∃ t, h * 4294967296 + x = t := ⟨_, rfl⟩
      rw [ht] at HS e2
      clear hx hS hat harr hxl ht
      go_upto_region 7 with (fail)
      clear e2
      go_upto_region 8 with (fail)
      obtain ⟨W6, hW6, hS6, g6, hgl6⟩ : ∃ W6, W6 = W1.setCell ⟨w.heap.size, j, none⟩ (.int .u32 ((t : Int) / (S : Int) % 4294967296)) ∧ ShrAt w w.heap.size ds S j W6 ∧ W6.cell? ⟨g, j, none⟩ = some (.int .u32 (x : Int)) ∧ g < W6.heap.size :=
        ⟨_, rfl, HS.out, (World.cell?_of_block (w := W1) (Below.heap_setCell _ _ _ _ hne)).trans g0, by simpa [World.setCell] using hgl⟩
      rw [← hW6]
      clear hW6 g0 hgl c0 hfr hDl
      go_wp2
      go_roundw
      case rel => exact ⟨j, x, by omega, by go_num, rfl, hx1, HN, by rw [HSE.out]; exact hS6⟩
      case measure => simp [intOf]
end Go.Proofs.YtjhgkojbpgakcaaGreatDoor
namespace Go.Proofs.YtjhgkojbpgakcaaGreatDoor
open Go.RowKit
theorem hasCell {base R : Nat} {w : World} {c : Value} {t : TypeId} (h : Has base R (.cells #[c] t) w) : w.cell? ⟨R, 0, none⟩ = some c := cell_box1 h.2
theorem hasFree {base R : Nat} {w : World} {c : Value} {t : TypeId} (h : Has base R (.cells #[c] t) w) : ∀ o, w.frozen? ⟨R, o, none⟩ = false := free_box1 h.2
theorem lt_two_bits : ∀ n : Nat, n < 2 ^ bitsN n := by
  intro n
  induction n using Nat.strongRecOn with
  | ind n ih =>
    by_cases h : n = 0
    · subst h; exact Nat.pow_pos (by decide)
    · rw [bitsN_pos h, Nat.pow_succ]
      have := ih (n / 2) (by omega)
      omega
theorem bits32_le : ∀ (k n : Nat), n < 2 ^ k → bitsN n ≤ k
  | 0, n, h => by
    have : n = 0 := by simpa using h
    subst this; rw [bitsN_zero]; exact Nat.le_refl _
  | k + 1, n, h => by
    by_cases h0 : n = 0
    · subst h0; rw [bitsN_zero]; omega
    · rw [bitsN_pos h0]
      have := bits32_le k (n / 2) (by rw [Nat.pow_succ] at h; omega)
      omega
theorem bitLen_eq {x : Nat} (h : x ≤ 4294967295) : Lib.bitLen x = bitsN x := bitLen_bits 64 x (by omega)
theorem shift_fits {es : List Nat} {n1 : Nat} (hl : es.length = n1 + 1) (h1 : ∀ d ∈ es, d < B32) (h0 : es[n1] ≠ 0) :
    ∃ s : Nat, 32 - ((Lib.bitLen es[n1] : Nat) : Int) = (s : Int) ∧ s ≤ 31 ∧ val B32 es * 2 ^ s < B32 ^ (n1 + 1) := by
  have ht := h1 _ (List.getElem_mem (show n1 < es.length by omega))
  have hb : Lib.bitLen es[n1] = bitsN es[n1] := bitLen_eq (by rw [b32] at ht; omega)
  have hle := bits32_le 32 es[n1] ht
  have hge : 1 ≤ bitsN es[n1] := by rw [bitsN_pos h0]; omega
  refine ⟨32 - bitsN es[n1], by rw [hb]; omega, by omega, ?_⟩
  have e := val_top (B := B32) hl
  have hlow := take_lt b32_2 h1 (k := n1) (by omega)
  have h2 := lt_two_bits es[n1]
  have h3 : val B32 es < B32 ^ n1 * 2 ^ bitsN es[n1] := by
    have : B32 ^ n1 * (es[n1] + 1) ≤ B32 ^ n1 * 2 ^ bitsN es[n1] := Nat.mul_le_mul_left _ h2
    rw [Nat.mul_add] at this
    omega
  have h4 : val B32 es * 2 ^ (32 - bitsN es[n1]) < B32 ^ n1 * 2 ^ bitsN es[n1] * 2 ^ (32 - bitsN es[n1]) := Nat.mul_lt_mul_of_pos_right h3 (Nat.pow_pos (by decide))
  rw [Nat.mul_assoc, ← Nat.pow_add, show bitsN es[n1] + (32 - bitsN es[n1]) = 32 by omega] at h4
  exact h4
theorem top_start {ys : List Nat} {A S V m n k : Nat} (hA : A < B32 ^ m) (hv : B32 ^ (n - 1) * S ≤ V) (hS : 0 < S) (hk : k + n = m + 1) (hn : 1 ≤ n) (hl : ys.length = m + 1) (hy : val B32 ys = A * S) : val B32 (ys.drop k) < V := by
  have h1 := val_take_drop (B := B32) ys k (by omega)
  have h2 : A * S < B32 ^ m * S := Nat.mul_lt_mul_of_pos_right hA hS
  have h3 : B32 ^ k * (B32 ^ (n - 1) * S) ≤ B32 ^ k * V := Nat.mul_le_mul_left _ hv
  rw [← Nat.mul_assoc, ← Nat.pow_add, show k + (n - 1) = m by omega] at h3
  have h4 : B32 ^ k * val B32 (ys.drop k) < B32 ^ k * V := by omega
  exact Nat.lt_of_mul_lt_mul_left h4
structure LongAt (w : World) (D E G m n V AS : Nat) (vs : List Nat) (k : Nat) (wr : World) : Prop where
  st : ∃ ys qs, Arr wr D ys ∧ ys.length = m + 1 ∧ (∀ y ∈ ys, y < B32) ∧ Arr wr G qs ∧ qs.length = m - n + 1 ∧ (∀ q ∈ qs, q < B32) ∧ val B32 (ys.drop k) < V ∧ val B32 (qs.drop k) * (B32 ^ k * V) + val B32 ys = AS
  v : Arr wr E vs
  b4 : wr.heap[w.heap.size]? = some (.cells #[.slice none 0 0] 27)
  b5 : wr.heap[w.heap.size + 1]? = some (.cells #[.slice none 0 0] 27)
  old : Below w.heap.size w wr
theorem LongAt.next {w wr w2 : World} {D E G m n V AS : Nat} {vs ys qs us' : List Nat} {j : Nat} (h : LongAt w D E G m n V AS vs (j + 1) wr) (hd : D ≠ E ∧ D ≠ G ∧ E ≠ G) (hb : w.heap.size + 1 < D ∧ w.heap.size + 1 < G) (hj : j + n ≤ m) (hys : ys.length = m + 1) (hyb : ∀ y ∈ ys, y < B32) (hqs : Arr wr G qs) (hql : qs.length = m - n + 1) (hqb : ∀ q ∈ qs, q < B32) (hlt : val B32 (ys.drop (j + 1)) < V) (hsum : val B32 (qs.drop (j + 1)) * (B32 ^ (j + 1) * V) + val B32 ys = AS) (hV : V < B32 ^ n) (hV0 : 0 < V)
    (hu : us'.length = n + 1) (hub : ∀ u ∈ us', u < B32) (hr : val B32 us' = val B32 ((ys.drop j).take (n + 1)) % V) (hw : Win w2 D (ys.take j) us' (ys.drop (j + n + 1))) (hg : wr.grownBy w2 (some D)) :
    LongAt w D E G m n V AS vs j (w2.setCell ⟨G, j, none⟩ (.int .u32 ((val B32 ((ys.drop j).take (n + 1)) / V : Nat) : Int))) := by
  obtain ⟨s1, s2, s3, s4, s5, s6⟩ := long_split b32_2 (ys := ys) (j := j) (n := n) (V := V) (by omega) hyb hlt hV
  obtain ⟨n1, n2⟩ := long_next (B := B32) s1 (by omega) s3 (by omega) hr hsum
  obtain ⟨_, g2, g3, g4, g5⟩ := hg
  have hG2 : Arr w2 G qs := arr_other hqs ⟨‹_›, g2, g3, g4, g5⟩ (fun e => hd.2.1 e.symm)
  have hE2 : Arr w2 E vs := arr_other h.v ⟨‹_›, g2, g3, g4, g5⟩ (fun e => hd.1 e.symm)
  have l4 := (Array.getElem?_eq_some_iff.1 h.b4).1
  have l5 := (Array.getElem?_eq_some_iff.1 h.b5).1
  refine ⟨⟨_, _, ?_, ?_, ?_, hG2.store j _, by simpa using hql, all_set hqb ?_, ?_, n1⟩, ?_, ?_, ?_, ?_⟩
  · unfold Arr; rw [setCell_far _ hd.2.1]; exact hw
  · rw [List.length_append, List.length_append, List.length_take, List.length_drop]; omega
  · intro y hy
    rcases List.mem_append.1 hy with hy | hy
    · rcases List.mem_append.1 hy with hy | hy
      · exact hyb y (List.mem_of_mem_take hy)
      · exact hub y hy
    · exact hyb y (List.mem_of_mem_drop hy)
  · rw [Nat.div_lt_iff_lt_mul hV0]; exact s5
  · rw [n2]; exact Nat.mod_lt _ hV0
  · unfold Arr; rw [setCell_far _ hd.2.2]; exact hE2
  · rw [setCell_far _ (by omega), g5 _ l4 (fun e => by injection e with e; omega)]; exact h.b4
  · rw [setCell_far _ (by omega), g5 _ l5 (fun e => by injection e with e; omega)]; exact h.b5
  · refine Below.setCell (p := ⟨G, j, none⟩) ?_ (by show _ ≤ G; omega) _
    exact h.old.trans ((grown_below ⟨‹_›, g2, g3, g4, g5⟩ (by have := Arr.lt hw; have h8 := h.old.size; obtain ⟨ys0, _, h9, _⟩ := h.st; exact Nat.le_of_lt h9.lt)).mono (by omega))
set_option maxRecDepth 100000 in
set_option maxHeartbeats 8000000 in
theorem long_core (P Q : Option Addr) (c c' : Nat) (ds es : List Nat) (w : World) (hd : DigP w P ds) (he : DigP w Q es) (h1 : ∀ d ∈ ds, d < B32) (h2 : ∀ d ∈ es, d < B32) (hn2 : 2 ≤ es.length) (hle : es.length ≤ ds.length) (hl : ds.length ≤ 100000) (ht : ∀ k (h : k < es.length), k + 1 = es.length → es[k] ≠ 0) :
    Calls Tryz.prog 68 #[.slice P ds.length c, .slice Q es.length c'] w fun e w' => ∃ x y, e = .returned (.tuple #[x, y]) ∧ NatV w' x (val B32 ds / val B32 es) ∧ NatV w' y (val B32 ds % val B32 es) ∧ Below w.heap.size w w' := by
  obtain ⟨i0, hi, hz0, hz1, hz2⟩ := info_parts infoU
  obtain ⟨n, hn⟩ : ∃ n, es.length = n := ⟨_, rfl⟩
  obtain ⟨n1, hn1⟩ : ∃ n1, n = n1 + 1 := ⟨n - 1, by omega⟩
  obtain ⟨n0, hn0⟩ : ∃ n0, n = n0 + 2 := ⟨n - 2, by omega⟩
  obtain ⟨m, hm⟩ : ∃ m, ds.length = m := ⟨_, rfl⟩
  have htop := ht n1 (by omega) (by omega)
  obtain ⟨s, hs, hs31, hfit⟩ := shift_fits (es := es) (n1 := n1) (by omega) h2 htop
  obtain ⟨g', rfl, he'⟩ := he.at (k := n1) (by omega)
  have htlt := h2 _ (List.getElem_mem (show n1 < es.length by omega))
  have HLZ := hid (fun (w1 : World) => Tryz.bits_LeadingZeros32 ((es[n1]'(by omega) : Nat) : Int) w1 (by omega) (by rw [b32] at htlt; omega))
  simp only [Int.toNat_natCast] at HLZ
  rw [hs] at HLZ
  have HSA := hid (fun w1 (hb : Below w.heap.size w w1) => shl_any P c s (m + 1) ds w1 (hd.below hb) h1 hs31 (by omega) (by omega) (by omega) (fun h => by omega))
  have HSB := hid (fun w1 (hb : Below w.heap.size w w1) => shl_any (some ⟨g', 0, none⟩) c' s n es w1 (he.below hb) h2 hs31 (by omega) (by omega) (by omega) (fun h => by rw [hn1]; exact hfit))
  rw [hm] at HSA
  rw [hn] at HSB
  obtain ⟨a, ha⟩ : ∃ a, val B32 ds = a := ⟨_, rfl⟩
  obtain ⟨b, hb⟩ : ∃ b, val B32 es = b := ⟨_, rfl⟩
  have hal : a < B32 ^ m := by rw [← ha, ← hm]; exact val_lt b32_2 h1
  have hbl : B32 ^ n1 ≤ b := by
    rw [← hb, val_top (B := B32) (show es.length = n1 + 1 by omega)]
    have : B32 ^ n1 * 1 ≤ B32 ^ n1 * es[n1] := Nat.mul_le_mul_left _ (Nat.pos_of_ne_zero htop)
    omega
  have hbu : b * 2 ^ s < B32 ^ n := by rw [← hb, hn1]; exact hfit
  rw [ha] at HSA ⊢
  rw [hb] at HSB ⊢
  have hSp : 0 < 2 ^ s := Nat.pow_pos (by decide)
  have he1 := he'.at0 n1 (by omega)
  have hgl := he'.lt
  obtain ⟨tp, htp⟩ : ∃ tp, es[n1]'(by omega) = tp := ⟨_, rfl⟩
  rw [htp] at he1 HLZ
  have hn1i : (n : Int) - 1 = (n1 : Int) := by omega
  rw [hn, hm]
  have HN := hid hn0
  have HN1 := hid hn1
  have hnm : n ≤ m := by omega
  have hm1 : m ≤ 100000 := by omega
  have hnp : 2 ≤ n := by omega
  have hn1n : (n1 : Int) < (n : Int) := by omega
  have hn1p : 0 ≤ (n1 : Int) := by omega
  obtain ⟨kk, hkk⟩ : ∃ kk, kk + n = m + 1 := ⟨m + 1 - n, by omega⟩
  have hmn : (m : Int) - (n : Int) + 1 = (kk : Int) := by omega
  have HA := hid (show True from trivial)
  clear hd he h1 h2 hn2 hle hl ht htop hs hfit he' htlt ha hb htp hn0 hn1 hn hm HA
  go_enter Tryz.func68, Tryz.ntmps68
  go_upto_region 1 with (fail)
  obtain ⟨W1, hW1, hsz1, k4, k5, hWb⟩ := box2_head (.slice none 0 0) (.slice none 0 0) 27 27 w
  rw [← hW1]
  have he2 : W1.cell? ⟨g', n1, none⟩ = some (.int .u32 (tp : Int)) := (hWb.cell (p := ⟨g', n1, none⟩) hgl).trans he1
  have hgl1 := Nat.lt_of_lt_of_le hgl hWb.size
  clear hW1 he1
  go_upto_region 2 with (go_at_call 92; refine (HLZ.out _).mono ?_; clear HLZ; rintro e w2 ⟨rfl, rfl⟩)
  clear he2 hgl1
  go_upto_region 3 with (go_at_call 93; refine (HSA.out _ hWb).mono ?_; clear HSA; rintro e W2 ⟨D, ys, rfl, hDg, hD, hyl, hyb, hyv, hw2⟩; have hb2 := hWb.trans (hw2.mono hWb.size); have k42 := (hw2.block _ (by omega)).trans k4; have k52 := (hw2.block _ (by omega)).trans k5)
  clear k4 k5 hw2
  have hDl := hD.lt
  go_upto_region 5 with (go_at_call 93; refine (HSB.out _ hb2).mono ?_; clear HSB; rintro e W3 ⟨E, vs, rfl, hEg, hE, hvl, hvb, hvv, hw3⟩; have hb3 := hb2.trans (hw3.mono hb2.size); have k43 := (hw3.block _ (by omega)).trans k42; have k53 := (hw3.block _ (by omega)).trans k52; have hD3 := hD.below hw3)
  clear k42 k52 hw3 hD hb2
  have hEl := hE.lt
  have hEne : D ≠ E := fun e => by subst e; omega
  have hD54 : w.heap.size + 1 < D := by omega
  have hVl : B32 ^ n1 ≤ b * 2 ^ s := Nat.le_trans hbl (Nat.le_mul_of_pos_right _ hSp)
  have hstart : ∀ ys : List Nat, ys.length = m + 1 → val B32 ys = a * 2 ^ s → val B32 (ys.drop kk) < b * 2 ^ s := fun ys hl hv =>
    top_start hal (show B32 ^ (n - 1) * 2 ^ s ≤ b * 2 ^ s from Nat.mul_le_mul_right _ (by rw [HN1.out, Nat.add_sub_cancel]; exact hbl)) hSp hkk (by omega) hl hv
  have hst := hstart ys hyl hyv
  have HFIN := hid (fun (q r : Nat) (h : q * (b * 2 ^ s) + r = a * 2 ^ s) (hr : r < b * 2 ^ s) => div_shifted hSp (show 0 < b from Nat.lt_of_lt_of_le (Nat.pow_pos (by decide)) hbl) h hr)
  obtain ⟨V, hV⟩ : ∃ V, b * 2 ^ s = V := ⟨_, rfl⟩
  obtain ⟨AS, hAS⟩ : ∃ AS, a * 2 ^ s = AS := ⟨_, rfl⟩
  rw [hV] at hbu hvv hVl hst HFIN
  rw [hAS] at hyv HFIN
  have HAS := hid hAS
  have hV0 : 0 < V := Nat.lt_of_lt_of_le (Nat.pow_pos (by decide)) hVl
  have hv1p : ∀ h : n1 < vs.length, 0 < vs[n1] := fun _ => by
    have h3 := val_top (B := B32) (show vs.length = n1 + 1 by omega)
    have h4 := take_lt b32_2 hvb (k := n1) (by omega)
    rw [hvv] at h3
    refine Nat.pos_of_ne_zero fun e => ?_
    rw [e] at h3
    omega
  have HVB := hid hvb
  have HVV := hid hvv
  have HBU := hid hbu
  have HV0 := hid hV0
  have HVP := hid hv1p
  have HSP := hid hSp
  clear hV hAS hal hbl hSp hstart hVl hvb hvv hbu hV0 hv1p
  go_upto_region 6 with (at_make; go_loud (refine wpList_make_full _ rfl _ _ _ rfl W3.heap.size 104 i0 _ 1 Tryz.underlying25 hi hz0 hz1 _ _ _ _ kk rfl rfl (by simp) (by simp) (by rw [hz2]; omega) (by unfold maxLen; omega) (Nat.le_refl _) ?_; intro w4 hown hgr; have hb34 : Below W3.heap.size W3 w4 := (Below.refl _ W3).grown hgr (Nat.le_refl _) (by simp); have hG := arr_made hown; clear hown hgr))
  have hs2 := hDl
  have hat0 : LongAt w D E W3.heap.size m n V AS vs kk w4 := by
    have hs3 : D < W3.heap.size := hD3.lt
    refine ⟨⟨ys, _, hD3.below hb34, hyl, hyb, hG, by rw [List.length_replicate]; omega, fun x hx => by rw [List.eq_of_mem_replicate hx, b32]; omega, hst, by rw [List.drop_of_length_le (by rw [List.length_replicate]; exact Nat.le_refl _)]; simp [val]; exact hyv⟩, hE.below hb34, (hb34.block _ (by omega)).trans k43, (hb34.block _ (by omega)).trans k53, hb3.trans (hb34.mono hb3.size)⟩
  have hDG : D ≠ W3.heap.size := fun e => by have := hD3.lt; omega
  have hEG : E ≠ W3.heap.size := fun e => by have := hE.lt; omega
  have hG54 : w.heap.size + 1 < W3.heap.size := by omega
  clear hD3 hE hyl hyb hyv hG hst hb34 k43 k53 hs2 hDl hEl hDg hEg hb3
  generalize W3.heap.size = G at hat0 hDG hEG hG54 ⊢
  go_wp2_with fail
  go_loopw [11] (fun iv wr => ∃ k : Nat, k ≤ kk ∧ iv = .int .i64 ((k : Int) - 1) ∧ LongAt w D E G m n V AS vs k wr) (fun iv _ => (intOf iv + 1).toNat)
  case atStart => exact ⟨kk, Nat.le_refl _, rfl, hat0⟩
  case round =>
    clear hat0
    obtain ⟨k, hk, rfl, hat⟩ := hrel
    generalize wr = W5 at hat ⊢
    by_cases hk0 : k = 0
    · subst hk0
      obtain ⟨ys, qs, hD, hyl, hyb, hGq, hql, hqb, hlt, hsum⟩ := hat.st
      rw [List.drop_zero] at hlt hsum
      rw [Nat.pow_zero, Nat.one_mul] at hsum
      obtain ⟨hq, hr⟩ := HFIN.out _ _ hsum hlt
      have htn : val B32 (ys.take n) = val B32 ys := by
        have h3 := val_take_drop (B := B32) ys n (by omega)
        rcases Nat.eq_zero_or_pos (val B32 (ys.drop n)) with h4 | h4
        · rw [h4] at h3; omega
        · have h5 : B32 ^ n * 1 ≤ B32 ^ n * val B32 (ys.drop n) := Nat.mul_le_mul_left _ h4
          have h6 := HBU.out
          omega
      have hqk : qs.length = kk := by omega
      have hK : KS w [fun w' => Arr w' G qs, fun w' => Arr w' D ys, Has 0 w.heap.size (.cells #[.slice none 0 0] 27), Has 0 (w.heap.size + 1) (.cells #[.slice none 0 0] 27)] W5 :=
        ((((KS.start w).step hat.old).add fun w' hb => Has.below ⟨Nat.zero_le _, hat.b5⟩ hb).add fun w' hb => Has.below ⟨Nat.zero_le _, hat.b4⟩ hb).add (fun w' hb => hD.below hb) |>.add fun w' hb => hGq.below hb
      have HT1 := hid (fun w' (h : Arr w' G qs) => trim_arr h hqb (by omega))
      rw [hq, hqk] at HT1
      have HSR := hid (fun w' (h : Arr w' D ys) => shr_any (some ⟨D, 0, none⟩) n s (ys.take n) w' (fun _ => ⟨D, rfl, h.dig.take n⟩) (fun d hd => hyb d (List.mem_of_mem_take hd)) hs31 (by rw [List.length_take]; omega))
      rw [htn, hr, Nat.mul_div_cancel _ HSP.out, show (ys.take n).length = n by rw [List.length_take]; omega] at HSR
      clear hat hD hyl hyb hGq hql hqb hlt hsum hq hr htn hqk
      have hnmi : (n : Int) ≤ (m : Int) + 1 := by omega
      go_upto_region 16 with (fail)
      refine wp_region_float (w) _ [0, 2, 0, 0, 0, 0, 0, 2, 2, 4, 4] (by kernel_rfl) (by kernel_rfl) (by kernel_rfl) (by kernel_rfl) (KS.drew hK) ?_
      apply lxF0 (wants0 rfl); (· intro w' h0; have hw' := h0.old; go_simp; (try go_bits); exact ⟨rfl, rfl⟩); simp only [Act.put, List.setIfInBounds_toArray, List.set_cons_zero, List.set_cons_succ]
      apply lxE0 (α := Option Addr × Nat) (fun q => .agg #[.slice q.1 (digs B32 (a / b)).length q.2]) (fun q => [fun w => NatV w (.agg #[.slice q.1 (digs B32 (a / b)).length q.2]) (a / b)]) (wants0 rfl)
      · intro w' h0 hK; go_simp; (try go_bits); refine (HT1.out w' (hK.get (F := fun w => Arr w G qs) (by repeat (first | exact List.mem_cons_self .. | apply List.mem_cons_of_mem)))).mono ?_; rintro e w5 ⟨p5, c5, rfl, hx, hb⟩; exact ⟨_, rfl, p5, c5, rfl, hb, fun w6 h6 => hx.below h6⟩
      rintro ⟨p4, c4⟩
      simp only [Act.put, List.setIfInBounds_toArray, List.set_cons_zero, List.set_cons_succ]
      apply lxF0 (wants0 rfl); (· intro w' h0; have hw' := h0.old; go_simp; (try go_bits); exact ⟨rfl, rfl⟩); simp only [Act.put, List.setIfInBounds_toArray, List.set_cons_zero, List.set_cons_succ]
      apply lxF0 (wants0 rfl); (· intro w' h0; have hw' := h0.old; go_simp; (try go_bits); exact ⟨rfl, rfl⟩); simp only [Act.put, List.setIfInBounds_toArray, List.set_cons_zero, List.set_cons_succ]
      apply lxF0 (wants0 rfl); (· intro w' h0; have hw' := h0.old; go_simp; (try go_bits); exact ⟨rfl, rfl⟩); simp only [Act.put, List.setIfInBounds_toArray, List.set_cons_zero, List.set_cons_succ]
      apply lxF0 (wants0 rfl); (· intro w' h0; have hw' := h0.old; go_simp; (try go_bits); exact ⟨rfl, rfl⟩); simp only [Act.put, List.setIfInBounds_toArray, List.set_cons_zero, List.set_cons_succ]
      apply lxF0 (wants0 rfl); (· intro w' h0; have hw' := h0.old; go_simp; (try go_bits); exact ⟨rfl, rfl⟩); simp only [Act.put, List.setIfInBounds_toArray, List.set_cons_zero, List.set_cons_succ]
      apply lxE0 (α := Nat) (fun q => .slice (some ⟨q, 0, none⟩) n n) (fun q => [fun w => ∃ xs, Arr w q xs ∧ xs.length = n ∧ (∀ x ∈ xs, x < B32) ∧ val B32 xs = a % b]) (wants0 rfl)
      · intro w' h0 hK; go_simp; (try go_bits); refine (HSR.out w' (hK.get (F := fun w => Arr w D ys) (by repeat (first | exact List.mem_cons_self .. | apply List.mem_cons_of_mem)))).mono ?_; rintro e w5 ⟨D5, xs5, rfl, hA5, hl5, hb5, hv5, hb⟩; exact ⟨_, rfl, D5, rfl, hb, fun w6 h6 => ⟨xs5, hA5.below h6, hl5, hb5, hv5⟩⟩
      rintro D6
      simp only [Act.put, List.setIfInBounds_toArray, List.set_cons_zero, List.set_cons_succ]
      apply lxE0 (α := Option Addr × Nat) (fun q => .agg #[.slice q.1 (digs B32 (a % b)).length q.2]) (fun q => [fun w => NatV w (.agg #[.slice q.1 (digs B32 (a % b)).length q.2]) (a % b)]) (wants0 rfl)
      · intro w' h0 hK; go_simp; (try go_bits); obtain ⟨xs6, hA6, hl6, hb6, hv6⟩ := hK.get (F := fun w => ∃ xs, Arr w D6 xs ∧ xs.length = n ∧ (∀ x ∈ xs, x < B32) ∧ val B32 xs = a % b) (by repeat (first | exact List.mem_cons_self .. | apply List.mem_cons_of_mem)); have ht6 := trim_arr hA6 hb6 (by omega); rw [hv6, hl6] at ht6; refine ht6.mono ?_; rintro e w5 ⟨p5, c5, rfl, hx, hb⟩; exact ⟨_, rfl, p5, c5, rfl, hb, fun w6 h6 => hx.below h6⟩
      rintro ⟨p6, c6⟩
      simp only [Act.put, List.setIfInBounds_toArray, List.set_cons_zero, List.set_cons_succ]
      apply lxS0 [Has 0 w.heap.size (.cells #[.slice p4 (digs B32 (a / b)).length c4] 27), Has 0 (w.heap.size + 1) (.cells #[.slice none 0 0] 27), fun w => NatV w (.agg #[.slice p4 (digs B32 (a / b)).length c4]) (a / b), fun w => NatV w (.agg #[.slice p6 (digs B32 (a % b)).length c6]) (a % b)] (wants0 rfl)
      · intro w' h0 hK; have h4 := hK.get (F := Has 0 w.heap.size (.cells #[.slice none 0 0] 27)) (by repeat (first | exact List.mem_cons_self .. | apply List.mem_cons_of_mem)); have h5 := hK.get (F := Has 0 (w.heap.size + 1) (.cells #[.slice none 0 0] 27)) (by repeat (first | exact List.mem_cons_self .. | apply List.mem_cons_of_mem)); have c4' := hasCell h4; have f4' := hasFree h4; have hN4 := hK.get (F := fun w => NatV w (.agg #[.slice p4 (digs B32 (a / b)).length c4]) (a / b)) (by repeat (first | exact List.mem_cons_self .. | apply List.mem_cons_of_mem)); have hN6 := hK.get (F := fun w => NatV w (.agg #[.slice p6 (digs B32 (a % b)).length c6]) (a % b)) (by repeat (first | exact List.mem_cons_self .. | apply List.mem_cons_of_mem)); go_simp; refine ⟨rfl, ⟨hK.old.setCell (p := ⟨w.heap.size, 0, none⟩) (Nat.le_refl _) _, fun _ h => absurd h List.not_mem_nil⟩, hK.old.setCell (p := ⟨w.heap.size, 0, none⟩) (Nat.le_refl _) _, fun F hF => ?_⟩; simp only [List.mem_cons, List.not_mem_nil, or_false] at hF; rcases hF with rfl | rfl | rfl | rfl; exact fun w' hb => Has.below ⟨Nat.zero_le _, box_store h4.2 _⟩ hb; exact fun w' hb => Has.below ⟨Nat.zero_le _, by rw [setCell_far _ (by omega)]; exact h5.2⟩ hb; exact fun w' hb => (hN4.store c4' _).below hb; exact fun w' hb => (hN6.store c4' _).below hb
      simp only [Act.put]
      apply lxS0 [Has 0 w.heap.size (.cells #[.slice p4 (digs B32 (a / b)).length c4] 27), Has 0 (w.heap.size + 1) (.cells #[.slice p6 (digs B32 (a % b)).length c6] 27), fun w => NatV w (.agg #[.slice p4 (digs B32 (a / b)).length c4]) (a / b), fun w => NatV w (.agg #[.slice p6 (digs B32 (a % b)).length c6]) (a % b)] (wants0 rfl)
      · intro w' h0 hK; have h4 := hK.get (F := Has 0 w.heap.size (.cells #[.slice p4 (digs B32 (a / b)).length c4] 27)) (by repeat (first | exact List.mem_cons_self .. | apply List.mem_cons_of_mem)); have h5 := hK.get (F := Has 0 (w.heap.size + 1) (.cells #[.slice none 0 0] 27)) (by repeat (first | exact List.mem_cons_self .. | apply List.mem_cons_of_mem)); have c4' := hasCell h5; have f4' := hasFree h5; have hN4 := hK.get (F := fun w => NatV w (.agg #[.slice p4 (digs B32 (a / b)).length c4]) (a / b)) (by repeat (first | exact List.mem_cons_self .. | apply List.mem_cons_of_mem)); have hN6 := hK.get (F := fun w => NatV w (.agg #[.slice p6 (digs B32 (a % b)).length c6]) (a % b)) (by repeat (first | exact List.mem_cons_self .. | apply List.mem_cons_of_mem)); go_simp; refine ⟨rfl, ⟨hK.old.setCell (p := ⟨w.heap.size + 1, 0, none⟩) (by show _ ≤ w.heap.size + 1; omega) _, fun _ h => absurd h List.not_mem_nil⟩, hK.old.setCell (p := ⟨w.heap.size + 1, 0, none⟩) (by show _ ≤ w.heap.size + 1; omega) _, fun F hF => ?_⟩; simp only [List.mem_cons, List.not_mem_nil, or_false] at hF; rcases hF with rfl | rfl | rfl | rfl; exact fun w' hb => Has.below ⟨Nat.zero_le _, by rw [setCell_far _ (by omega)]; exact h4.2⟩ hb; exact fun w' hb => Has.below ⟨Nat.zero_le _, box_store h5.2 _⟩ hb; exact fun w' hb => (hN4.store c4' _).below hb; exact fun w' hb => (hN6.store c4' _).below hb
      simp only [Act.put]
      refine lxEnd (fun W9 hK9 => ?_)
      have c2 := (hK9.get (F := Has 0 w.heap.size (.cells #[.slice p4 (digs B32 (a / b)).length c4] 27)) (by repeat (first | exact List.mem_cons_self .. | apply List.mem_cons_of_mem)))
      replace c2 := hasCell c2
      have c3 := (hK9.get (F := Has 0 (w.heap.size + 1) (.cells #[.slice p6 (digs B32 (a % b)).length c6] 27)) (by repeat (first | exact List.mem_cons_self .. | apply List.mem_cons_of_mem)))
      replace c3 := hasCell c3
      have hx := hK9.get (F := fun w => NatV w (.agg #[.slice p4 (digs B32 (a / b)).length c4]) (a / b)) (by repeat (first | exact List.mem_cons_self .. | apply List.mem_cons_of_mem))
      have hy := hK9.get (F := fun w => NatV w (.agg #[.slice p6 (digs B32 (a % b)).length c6]) (a % b)) (by repeat (first | exact List.mem_cons_self .. | apply List.mem_cons_of_mem))
      go_wp2
      exact bodyPost_ret (v := .tuple #[.agg #[.slice p4 (digs B32 (a / b)).length c4], .agg #[.slice p6 (digs B32 (a % b)).length c6]]) (by simp [results, Tryz.results68, go_sem, c2, c3]) rfl ⟨_, _, rfl, hx, hy, hK9.old⟩
    · obtain ⟨j, rfl⟩ : ∃ j, k = j + 1 := ⟨k - 1, by omega⟩
      have ei : (((j + 1 : Nat) : Int) - 1) = (j : Int) := by omega
      rw [ei]
      clear ei
      obtain ⟨ys, qs, hD, hyl, hyb, hGq, hql, hqb, hlt, hsum⟩ := hat.st
      have hjn : j + n ≤ m := by omega
      obtain ⟨s1, s2, s3, s4, s5, s6⟩ := long_split b32_2 (ys := ys) (j := j) (n := n) (V := V) (by omega) hyb hlt HBU.out
      have hE := hat.v
      have HNEXT := hid (fun (w2 : World) (us' : List Nat) hu hub hr hw hg => hat.next (w2 := w2) (us' := us') ⟨hEne, hDG, hEG⟩ ⟨hD54, hG54⟩ hjn hyl hyb hGq hql hqb hlt hsum HBU.out HV0.out hu hub hr hw hg)
      have hwin : Win W5 D (ys.take j) ((ys.drop j).take (n + 1)) (ys.drop (j + n + 1)) := by unfold Win; rw [← s1]; exact hD
      have htk : (ys.take j).length = j := by rw [List.length_take]; omega
      obtain ⟨us, hus⟩ : ∃ us, (ys.drop j).take (n + 1) = us := ⟨_, rfl⟩
      rw [hus] at s2 s4 s5 s6 hwin HNEXT
      have hn0e := HN.out
      have hn1e := HN1.out
      have hG1 := guess_pack (k := n0) b32_2 (vs := vs) (us := us) (by omega) (by omega) HVB.out s6 (by rw [HVV.out]; exact s5) (by have := HVP.out (by omega); simpa [show n1 = n0 + 1 by omega] using this)
      rw [HVV.out] at hG1
      obtain ⟨U, hU⟩ : ∃ U, val B32 us = U := ⟨_, rfl⟩
      rw [hU] at hG1 HNEXT
      have HUU := hid hU
      clear hU
      have c2 := hwin.cell (i := n0 + 2) (by omega)
      have c1 := hwin.cell (i := n0 + 1) (by omega)
      have c0 := hwin.cell (i := n0) (by omega)
      rw [htk] at c2 c1 c0
      have d1 := hE.cell (n0 + 1) (by omega)
      have d0 := hE.cell n0 (by omega)
      have q1 := HVB.out _ (List.getElem_mem (show n0 + 1 < vs.length by omega))
      have q0 := HVB.out _ (List.getElem_mem (show n0 < vs.length by omega))
      have p2 := s6 _ (List.getElem_mem (show n0 + 2 < us.length by omega))
      have p1 := s6 _ (List.getElem_mem (show n0 + 1 < us.length by omega))
      have p0 := s6 _ (List.getElem_mem (show n0 < us.length by omega))
      have hvp : vs[n0 + 1]'(by omega) ≠ 0 := by have := HVP.out (by omega); simp only [show n1 = n0 + 1 by omega] at this; omega
      obtain ⟨v1, hv1⟩ : ∃ v1, vs[n0 + 1]'(by omega) = v1 := ⟨_, rfl⟩
      obtain ⟨v2, hv2⟩ : ∃ v2, vs[n0]'(by omega) = v2 := ⟨_, rfl⟩
      obtain ⟨a2, ha2⟩ : ∃ a2, us[n0 + 2]'(by omega) = a2 := ⟨_, rfl⟩
      obtain ⟨a1, ha1⟩ : ∃ a1, us[n0 + 1]'(by omega) = a1 := ⟨_, rfl⟩
      obtain ⟨a0, ha0⟩ : ∃ a0, us[n0]'(by omega) = a0 := ⟨_, rfl⟩
      rw [hv1] at d1 q1 hvp hG1
      rw [hv2] at d0 q0 hG1
      rw [ha2] at c2 p2 hG1
      rw [ha1] at c1 p1 hG1
      rw [ha0] at c0 p0 hG1
      rw [b32] at q1 q0 p2 p1 p0 hG1
      have e2 := div_or a2 a1 (by omega) (by omega)
      obtain ⟨t, htt⟩ : ∃ t, a2 * 4294967296 + a1 = t := ⟨_, rfl⟩
      rw [htt] at e2 hG1
      have htb : t ≤ 18446744073709551615 := by omega
      obtain ⟨i2, hi2⟩ : ∃ i2, j + (n0 + 2) = i2 := ⟨_, rfl⟩
      obtain ⟨i1, hi1⟩ : ∃ i1, j + (n0 + 1) = i1 := ⟨_, rfl⟩
      obtain ⟨i00, hi00⟩ : ∃ i00, j + n0 = i00 := ⟨_, rfl⟩
      obtain ⟨m1, hm1'⟩ : ∃ m1, n0 + 1 = m1 := ⟨_, rfl⟩
      rw [hi2] at c2
      rw [hi1] at c1
      rw [hi00] at c0
      rw [hm1'] at d1
      have x2 : (j : Int) + (n : Int) = (i2 : Int) := by omega
      have x1 : (i2 : Int) - 1 = (i1 : Int) := by omega
      have x0 : (i2 : Int) - 2 = (i00 : Int) := by omega
      have y1 : (n : Int) - 1 = (m1 : Int) := by omega
      have y0 : (n : Int) - 2 = (n0 : Int) := by omega
      have z2 : (i2 : Int) < (m : Int) + 1 := by omega
      have z1 : (i1 : Int) < (m : Int) + 1 := by omega
      have z0 : (i00 : Int) < (m : Int) + 1 := by omega
      have w1' : (m1 : Int) < (n : Int) := by omega
      have w0' : (n0 : Int) < (n : Int) := by omega
      obtain ⟨UV, hUV⟩ : ∃ q, U / V = q := ⟨_, rfl⟩
      have HFIRST := hid hG1.first
      have HDEC := hid hG1.dec
      have HFINQ := hid hG1.fin
      have HTOP1 := hid hG1.top1
      rw [hUV] at HFIRST HDEC HFINQ HNEXT
      have HUV := hid hUV
      clear hUV
      have hDl := hwin.lt
      have hEl := hE.lt
      have HWIN := hid hwin
      have HE := hid hE
      have HS6 := hid s6
      have HS2 := hid s2
      have HJ := hid (show j < qs.length by omega)
      have HGQ := hid hGq
      have HOLD := hid hat.old
      have hsl : i2 + 1 - j = n + 1 := by omega
      have HTK := hid htk
      clear hat hD hyl hyb hGq hql hqb hlt hsum s1 s3 s4 s5 s6 s2 hwin hus hG1 hv1 hv2 ha2 ha1 ha0 htt hi2 hi1 hi00 hm1' hn0e hn1e hE htk hn1i hn1n hn1p
      go_upto_region 9 with (fail)
      refine wp_region_staged (fun w' => Below W5.heap.size W5 w') [0, 0, 0, 0, 0, 1, 0, 0, 0, 0, 0, 0, 0, 0, 1, 0, 0, 0] (by kernel_rfl) (by kernel_rfl) (by kernel_rfl) (by exact (Below.refl _ _).drew) ?_
      apply lexF rfl; (· intro _; go_simp; (try go_bits); exact ⟨rfl, rfl⟩); simp only [Act.put, List.setIfInBounds_toArray, List.set_cons_zero, List.set_cons_succ]
      apply lexF rfl; (· intro _; go_simp; (try go_bits); exact ⟨rfl, rfl⟩); simp only [Act.put, List.setIfInBounds_toArray, List.set_cons_zero, List.set_cons_succ]
      apply lexF rfl; (· intro _; go_simp; (try go_bits); exact ⟨rfl, rfl⟩); simp only [Act.put, List.setIfInBounds_toArray, List.set_cons_zero, List.set_cons_succ]
      apply lexF rfl; (· intro _; go_simp; (try go_bits); exact ⟨rfl, rfl⟩); simp only [Act.put, List.setIfInBounds_toArray, List.set_cons_zero, List.set_cons_succ]
      apply lexF rfl; (· intro _; go_simp; (try go_bits); exact ⟨rfl, rfl⟩); simp only [Act.put, List.setIfInBounds_toArray, List.set_cons_zero, List.set_cons_succ]
      apply lexH rfl; (· intro w' hw'; have hcc := cellsBelow hw'; go_simp; (try go_bits); exact ⟨rfl, hw'⟩); simp only [Act.put, List.setIfInBounds_toArray, List.set_cons_zero, List.set_cons_succ]
      apply lexF rfl; (· intro _; go_simp; (try go_bits); exact ⟨rfl, rfl⟩); simp only [Act.put, List.setIfInBounds_toArray, List.set_cons_zero, List.set_cons_succ]
      apply lexF rfl; (· intro _; go_simp; (try go_bits); exact ⟨rfl, rfl⟩); simp only [Act.put, List.setIfInBounds_toArray, List.set_cons_zero, List.set_cons_succ]
      apply lexF rfl; (· intro _; go_simp; (try go_bits); exact ⟨rfl, rfl⟩); simp only [Act.put, List.setIfInBounds_toArray, List.set_cons_zero, List.set_cons_succ]
      apply lexF rfl; (· intro _; go_simp; (try go_bits); exact ⟨rfl, rfl⟩); simp only [Act.put, List.setIfInBounds_toArray, List.set_cons_zero, List.set_cons_succ]
      apply lexF rfl; (· intro _; go_simp; (try go_bits); exact ⟨rfl, rfl⟩); simp only [Act.put, List.setIfInBounds_toArray, List.set_cons_zero, List.set_cons_succ]
      apply lexF rfl; (· intro _; go_simp; (try go_bits); exact ⟨rfl, rfl⟩); simp only [Act.put, List.setIfInBounds_toArray, List.set_cons_zero, List.set_cons_succ]
      apply lexF rfl; (· intro _; go_simp; (try go_bits); exact ⟨rfl, rfl⟩); simp only [Act.put, List.setIfInBounds_toArray, List.set_cons_zero, List.set_cons_succ]
      apply lexF rfl; (· intro _; go_simp; (try go_bits); exact ⟨rfl, rfl⟩); simp only [Act.put, List.setIfInBounds_toArray, List.set_cons_zero, List.set_cons_succ]
      apply lexH rfl; (· intro w' hw'; have hcc := cellsBelow hw'; go_simp; (try go_bits); exact ⟨rfl, hw'⟩); simp only [Act.put, List.setIfInBounds_toArray, List.set_cons_zero, List.set_cons_succ]
      apply lexF rfl; (· intro _; go_simp; (try go_bits); exact ⟨rfl, rfl⟩); simp only [Act.put, List.setIfInBounds_toArray, List.set_cons_zero, List.set_cons_succ]
      apply lexF rfl; (· intro _; go_simp; (try go_bits); exact ⟨rfl, rfl⟩); simp only [Act.put, List.setIfInBounds_toArray, List.set_cons_zero, List.set_cons_succ]
      apply lexF rfl; (· intro _; go_simp; (try go_bits); exact ⟨rfl, rfl⟩); simp only [Act.put, List.setIfInBounds_toArray, List.set_cons_zero, List.set_cons_succ]
      refine lexEnd (fun W6 hw6 => ?_)
      clear e2
      go_upto_region 10 with (fail)
      have hvi : ¬ v1 = 0 := hvp
      have hq1 : (t : Int) / (v1 : Int) ≤ 18446744073709551615 := by
        have e : (t : Int) / (v1 : Int) = ((t / v1 : Nat) : Int) := rfl
        have := Nat.div_le_self t v1
        rw [e]; omega
      have hq2 : 0 ≤ (t : Int) / (v1 : Int) := Int.natCast_nonneg (t / v1)
      have hr1 : (t : Int) % (v1 : Int) ≤ 4294967295 := by
        have e : (t : Int) % (v1 : Int) = ((t % v1 : Nat) : Int) := rfl
        have := Nat.mod_lt t (Nat.pos_of_ne_zero hvp)
        rw [e]; omega
      have hr2 : 0 ≤ (t : Int) % (v1 : Int) := Int.natCast_nonneg (t % v1)
      have HI0 := hid (show t / v1 * v1 + t % v1 = t ∧ UV ≤ t / v1 from ⟨by rw [Nat.mul_comm]; exact Nat.div_add_mod t v1, HFIRST.out⟩)
      have HR0 := hid (show t % v1 < 4294967296 by have := Nat.mod_lt t (Nat.pos_of_ne_zero hvp); omega)
      have HGG0 := hid (show t / v1 ≤ 18446744073709551615 by have := Nat.div_le_self t v1; omega)
      refine wp_region_staged (fun w' => Below W5.heap.size W5 w') [0, 0, 0, 0, 0, 1, 0, 0, 0, 0, 0, 0, 0, 1, 0, 0, 0, 0] (by kernel_rfl) (by kernel_rfl) (by kernel_rfl) (by exact hw6.drew) ?_
      apply lexF rfl; (· intro _; go_simp; (try go_bits); exact ⟨rfl, rfl⟩); simp only [Act.put, List.setIfInBounds_toArray, List.set_cons_zero, List.set_cons_succ]
      apply lexF rfl; (· intro _; go_simp; (try go_bits); exact ⟨rfl, rfl⟩); simp only [Act.put, List.setIfInBounds_toArray, List.set_cons_zero, List.set_cons_succ]
      apply lexF rfl; (· intro _; go_simp; (try go_bits); exact ⟨rfl, rfl⟩); simp only [Act.put, List.setIfInBounds_toArray, List.set_cons_zero, List.set_cons_succ]
      apply lexF rfl; (· intro _; go_simp; (try go_bits); exact ⟨rfl, rfl⟩); simp only [Act.put, List.setIfInBounds_toArray, List.set_cons_zero, List.set_cons_succ]
      apply lexF rfl; (· intro _; go_simp; (try go_bits); exact ⟨rfl, rfl⟩); simp only [Act.put, List.setIfInBounds_toArray, List.set_cons_zero, List.set_cons_succ]
      apply lexH rfl; (· intro w' hw'; have hcc := cellsBelow hw'; go_simp; (try go_bits); exact ⟨rfl, hw'⟩); simp only [Act.put, List.setIfInBounds_toArray, List.set_cons_zero, List.set_cons_succ]
      apply lexF rfl; (· intro _; go_simp; (try go_bits); exact ⟨rfl, rfl⟩); simp only [Act.put, List.setIfInBounds_toArray, List.set_cons_zero, List.set_cons_succ]
      apply lexF rfl; (· intro _; go_simp; (try go_bits); exact ⟨rfl, rfl⟩); simp only [Act.put, List.setIfInBounds_toArray, List.set_cons_zero, List.set_cons_succ]
      apply lexF rfl; (· intro _; go_simp; (try go_bits); exact ⟨rfl, rfl⟩); simp only [Act.put, List.setIfInBounds_toArray, List.set_cons_zero, List.set_cons_succ]
      apply lexF rfl; (· intro _; go_simp; (try go_bits); exact ⟨rfl, rfl⟩); simp only [Act.put, List.setIfInBounds_toArray, List.set_cons_zero, List.set_cons_succ]
      apply lexF rfl; (· intro _; go_simp; (try go_bits); exact ⟨rfl, rfl⟩); simp only [Act.put, List.setIfInBounds_toArray, List.set_cons_zero, List.set_cons_succ]
      apply lexF rfl; (· intro _; go_simp; (try go_bits); exact ⟨rfl, rfl⟩); simp only [Act.put, List.setIfInBounds_toArray, List.set_cons_zero, List.set_cons_succ]
      apply lexF rfl; (· intro _; go_simp; (try go_bits); exact ⟨rfl, rfl⟩); simp only [Act.put, List.setIfInBounds_toArray, List.set_cons_zero, List.set_cons_succ]
      apply lexH rfl; (· intro w' hw'; have hcc := cellsBelow hw'; go_simp; (try go_bits); exact ⟨rfl, hw'⟩); simp only [Act.put, List.setIfInBounds_toArray, List.set_cons_zero, List.set_cons_succ]
      apply lexF rfl; (· intro _; go_simp; (try go_bits); exact ⟨rfl, rfl⟩); simp only [Act.put, List.setIfInBounds_toArray, List.set_cons_zero, List.set_cons_succ]
      apply lexF rfl; (· intro _; go_simp; (try go_bits); exact ⟨rfl, rfl⟩); simp only [Act.put, List.setIfInBounds_toArray, List.set_cons_zero, List.set_cons_succ]
      apply lexF rfl; (· intro _; go_simp; (try go_bits); exact ⟨rfl, rfl⟩); simp only [Act.put, List.setIfInBounds_toArray, List.set_cons_zero, List.set_cons_succ]
      apply lexF rfl; (· intro _; go_simp; (try go_bits); exact ⟨rfl, rfl⟩); simp only [Act.put, List.setIfInBounds_toArray, List.set_cons_zero, List.set_cons_succ]
      refine lexEnd (fun W7 hw7 => ?_)
      clear hq1 hq2 hr1 hr2 c2 c1 hw6
      go_wp2_with fail
      go_loopw [13, 14] (fun gv rv wr => ∃ g r : Nat, gv = .int .u64 (g : Int) ∧ rv = .int .u64 (r : Int) ∧ RowKit.Hid (g * v1 + r = t ∧ UV ≤ g) ∧ r < 4294967296 ∧ g ≤ 18446744073709551615 ∧ Below W5.heap.size W5 wr) (fun gv _ _ => (intOf gv).toNat)
      case atStart => exact ⟨t / v1, t % v1, rfl, rfl, HI0, HR0.out, HGG0.out, hw7⟩
      case round =>
        clear hw7 HI0 HR0 HGG0
        obtain ⟨g, r, rfl, rfl, HI, hr, hg, hbw⟩ := hrel
        generalize wr = W8 at hbw ⊢
        go_upto_region 11 with (fail)
        refine wp_region_staged (fun w' => Below W5.heap.size W5 w') [0, 0, 0, 0, 0, 0, 0, 0, 1, 0, 0, 0, 0, 0, 0, 0, 0, 0, 0, 1, 0, 0, 0, 0] (by kernel_rfl) (by kernel_rfl) (by kernel_rfl) (by exact hbw.drew) ?_
        by_cases hgB : 4294967296 ≤ g
        · have hgi : (4294967296 : Int) ≤ (g : Int) := by omega
          apply lexF rfl; (· intro _; go_simp; (try go_bits); exact ⟨rfl, rfl⟩); simp only [Act.put, List.setIfInBounds_toArray, List.set_cons_zero, List.set_cons_succ]
          apply lexF rfl; (· intro _; go_simp; (try go_bits); exact ⟨rfl, rfl⟩); simp only [Act.put, List.setIfInBounds_toArray, List.set_cons_zero, List.set_cons_succ]
          apply lexF rfl; (· intro _; go_simp; (try go_bits); exact ⟨rfl, rfl⟩); simp only [Act.put, List.setIfInBounds_toArray, List.set_cons_zero, List.set_cons_succ]
          first | (apply lexN (j := 2) (d := 83) (b := false) rfl rfl rfl rfl; simp only [Act.put, List.setIfInBounds_toArray, List.set_cons_zero, List.set_cons_succ]) | (apply lexN' (j := 2) (d := 83) (b := false) rfl rfl rfl; simp only [Act.put, List.setIfInBounds_toArray, List.set_cons_zero, List.set_cons_succ]) | (apply lexFg (j := 2) (d := 83) (b := false) rfl rfl rfl rfl; (· intro _; go_simp; (try go_bits); exact ⟨rfl, rfl⟩); simp only [Act.put, List.setIfInBounds_toArray, List.set_cons_zero, List.set_cons_succ])
          first | (apply lexN (j := 2) (d := 83) (b := false) rfl rfl rfl rfl; simp only [Act.put, List.setIfInBounds_toArray, List.set_cons_zero, List.set_cons_succ]) | (apply lexN' (j := 2) (d := 83) (b := false) rfl rfl rfl; simp only [Act.put, List.setIfInBounds_toArray, List.set_cons_zero, List.set_cons_succ]) | (apply lexFg (j := 2) (d := 83) (b := false) rfl rfl rfl rfl; (· intro _; go_simp; (try go_bits); exact ⟨rfl, rfl⟩); simp only [Act.put, List.setIfInBounds_toArray, List.set_cons_zero, List.set_cons_succ])
          first | (apply lexN (j := 2) (d := 83) (b := false) rfl rfl rfl rfl; simp only [Act.put, List.setIfInBounds_toArray, List.set_cons_zero, List.set_cons_succ]) | (apply lexN' (j := 2) (d := 83) (b := false) rfl rfl rfl; simp only [Act.put, List.setIfInBounds_toArray, List.set_cons_zero, List.set_cons_succ]) | (apply lexFg (j := 2) (d := 83) (b := false) rfl rfl rfl rfl; (· intro _; go_simp; (try go_bits); exact ⟨rfl, rfl⟩); simp only [Act.put, List.setIfInBounds_toArray, List.set_cons_zero, List.set_cons_succ])
          first | (apply lexN (j := 2) (d := 83) (b := false) rfl rfl rfl rfl; simp only [Act.put, List.setIfInBounds_toArray, List.set_cons_zero, List.set_cons_succ]) | (apply lexN' (j := 2) (d := 83) (b := false) rfl rfl rfl; simp only [Act.put, List.setIfInBounds_toArray, List.set_cons_zero, List.set_cons_succ]) | (apply lexFg (j := 2) (d := 83) (b := false) rfl rfl rfl rfl; (· intro _; go_simp; (try go_bits); exact ⟨rfl, rfl⟩); simp only [Act.put, List.setIfInBounds_toArray, List.set_cons_zero, List.set_cons_succ])
          first | (apply lexN (j := 2) (d := 83) (b := false) rfl rfl rfl rfl; simp only [Act.put, List.setIfInBounds_toArray, List.set_cons_zero, List.set_cons_succ]) | (apply lexN' (j := 2) (d := 83) (b := false) rfl rfl rfl; simp only [Act.put, List.setIfInBounds_toArray, List.set_cons_zero, List.set_cons_succ]) | (apply lexFg (j := 2) (d := 83) (b := false) rfl rfl rfl rfl; (· intro _; go_simp; (try go_bits); exact ⟨rfl, rfl⟩); simp only [Act.put, List.setIfInBounds_toArray, List.set_cons_zero, List.set_cons_succ])
          first | (apply lexN (j := 2) (d := 83) (b := false) rfl rfl rfl rfl; simp only [Act.put, List.setIfInBounds_toArray, List.set_cons_zero, List.set_cons_succ]) | (apply lexN' (j := 2) (d := 83) (b := false) rfl rfl rfl; simp only [Act.put, List.setIfInBounds_toArray, List.set_cons_zero, List.set_cons_succ]) | (apply lexHg (j := 2) (d := 83) (b := false) rfl rfl rfl rfl; (· intro w' hw'; have hcc := cellsBelow hw'; go_simp; (try go_bits); exact ⟨rfl, hw'⟩); simp only [Act.put, List.setIfInBounds_toArray, List.set_cons_zero, List.set_cons_succ])
          first | (apply lexN (j := 2) (d := 83) (b := false) rfl rfl rfl rfl; simp only [Act.put, List.setIfInBounds_toArray, List.set_cons_zero, List.set_cons_succ]) | (apply lexN' (j := 2) (d := 83) (b := false) rfl rfl rfl; simp only [Act.put, List.setIfInBounds_toArray, List.set_cons_zero, List.set_cons_succ]) | (apply lexFg (j := 2) (d := 83) (b := false) rfl rfl rfl rfl; (· intro _; go_simp; (try go_bits); exact ⟨rfl, rfl⟩); simp only [Act.put, List.setIfInBounds_toArray, List.set_cons_zero, List.set_cons_succ])
          first | (apply lexN (j := 2) (d := 83) (b := false) rfl rfl rfl rfl; simp only [Act.put, List.setIfInBounds_toArray, List.set_cons_zero, List.set_cons_succ]) | (apply lexN' (j := 2) (d := 83) (b := false) rfl rfl rfl; simp only [Act.put, List.setIfInBounds_toArray, List.set_cons_zero, List.set_cons_succ]) | (apply lexFg (j := 2) (d := 83) (b := false) rfl rfl rfl rfl; (· intro _; go_simp; (try go_bits); exact ⟨rfl, rfl⟩); simp only [Act.put, List.setIfInBounds_toArray, List.set_cons_zero, List.set_cons_succ])
          first | (apply lexN (j := 2) (d := 83) (b := false) rfl rfl rfl rfl; simp only [Act.put, List.setIfInBounds_toArray, List.set_cons_zero, List.set_cons_succ]) | (apply lexN' (j := 2) (d := 83) (b := false) rfl rfl rfl; simp only [Act.put, List.setIfInBounds_toArray, List.set_cons_zero, List.set_cons_succ]) | (apply lexFg (j := 2) (d := 83) (b := false) rfl rfl rfl rfl; (· intro _; go_simp; (try go_bits); exact ⟨rfl, rfl⟩); simp only [Act.put, List.setIfInBounds_toArray, List.set_cons_zero, List.set_cons_succ])
          first | (apply lexN (j := 2) (d := 83) (b := false) rfl rfl rfl rfl; simp only [Act.put, List.setIfInBounds_toArray, List.set_cons_zero, List.set_cons_succ]) | (apply lexN' (j := 2) (d := 83) (b := false) rfl rfl rfl; simp only [Act.put, List.setIfInBounds_toArray, List.set_cons_zero, List.set_cons_succ]) | (apply lexFg (j := 2) (d := 83) (b := false) rfl rfl rfl rfl; (· intro _; go_simp; (try go_bits); exact ⟨rfl, rfl⟩); simp only [Act.put, List.setIfInBounds_toArray, List.set_cons_zero, List.set_cons_succ])
          first | (apply lexN (j := 2) (d := 83) (b := false) rfl rfl rfl rfl; simp only [Act.put, List.setIfInBounds_toArray, List.set_cons_zero, List.set_cons_succ]) | (apply lexN' (j := 2) (d := 83) (b := false) rfl rfl rfl; simp only [Act.put, List.setIfInBounds_toArray, List.set_cons_zero, List.set_cons_succ]) | (apply lexFg (j := 2) (d := 83) (b := false) rfl rfl rfl rfl; (· intro _; go_simp; (try go_bits); exact ⟨rfl, rfl⟩); simp only [Act.put, List.setIfInBounds_toArray, List.set_cons_zero, List.set_cons_succ])
          first | (apply lexN (j := 2) (d := 83) (b := false) rfl rfl rfl rfl; simp only [Act.put, List.setIfInBounds_toArray, List.set_cons_zero, List.set_cons_succ]) | (apply lexN' (j := 2) (d := 83) (b := false) rfl rfl rfl; simp only [Act.put, List.setIfInBounds_toArray, List.set_cons_zero, List.set_cons_succ]) | (apply lexFg (j := 2) (d := 83) (b := false) rfl rfl rfl rfl; (· intro _; go_simp; (try go_bits); exact ⟨rfl, rfl⟩); simp only [Act.put, List.setIfInBounds_toArray, List.set_cons_zero, List.set_cons_succ])
          first | (apply lexN (j := 2) (d := 83) (b := false) rfl rfl rfl rfl; simp only [Act.put, List.setIfInBounds_toArray, List.set_cons_zero, List.set_cons_succ]) | (apply lexN' (j := 2) (d := 83) (b := false) rfl rfl rfl; simp only [Act.put, List.setIfInBounds_toArray, List.set_cons_zero, List.set_cons_succ]) | (apply lexFg (j := 2) (d := 83) (b := false) rfl rfl rfl rfl; (· intro _; go_simp; (try go_bits); exact ⟨rfl, rfl⟩); simp only [Act.put, List.setIfInBounds_toArray, List.set_cons_zero, List.set_cons_succ])
          first | (apply lexN (j := 2) (d := 83) (b := false) rfl rfl rfl rfl; simp only [Act.put, List.setIfInBounds_toArray, List.set_cons_zero, List.set_cons_succ]) | (apply lexN' (j := 2) (d := 83) (b := false) rfl rfl rfl; simp only [Act.put, List.setIfInBounds_toArray, List.set_cons_zero, List.set_cons_succ]) | (apply lexFg (j := 2) (d := 83) (b := false) rfl rfl rfl rfl; (· intro _; go_simp; (try go_bits); exact ⟨rfl, rfl⟩); simp only [Act.put, List.setIfInBounds_toArray, List.set_cons_zero, List.set_cons_succ])
          first | (apply lexN (j := 2) (d := 83) (b := false) rfl rfl rfl rfl; simp only [Act.put, List.setIfInBounds_toArray, List.set_cons_zero, List.set_cons_succ]) | (apply lexN' (j := 2) (d := 83) (b := false) rfl rfl rfl; simp only [Act.put, List.setIfInBounds_toArray, List.set_cons_zero, List.set_cons_succ]) | (apply lexFg (j := 2) (d := 83) (b := false) rfl rfl rfl rfl; (· intro _; go_simp; (try go_bits); exact ⟨rfl, rfl⟩); simp only [Act.put, List.setIfInBounds_toArray, List.set_cons_zero, List.set_cons_succ])
          first | (apply lexN (j := 2) (d := 83) (b := false) rfl rfl rfl rfl; simp only [Act.put, List.setIfInBounds_toArray, List.set_cons_zero, List.set_cons_succ]) | (apply lexN' (j := 2) (d := 83) (b := false) rfl rfl rfl; simp only [Act.put, List.setIfInBounds_toArray, List.set_cons_zero, List.set_cons_succ]) | (apply lexFg (j := 2) (d := 83) (b := false) rfl rfl rfl rfl; (· intro _; go_simp; (try go_bits); exact ⟨rfl, rfl⟩); simp only [Act.put, List.setIfInBounds_toArray, List.set_cons_zero, List.set_cons_succ])
          first | (apply lexN (j := 2) (d := 83) (b := false) rfl rfl rfl rfl; simp only [Act.put, List.setIfInBounds_toArray, List.set_cons_zero, List.set_cons_succ]) | (apply lexN' (j := 2) (d := 83) (b := false) rfl rfl rfl; simp only [Act.put, List.setIfInBounds_toArray, List.set_cons_zero, List.set_cons_succ]) | (apply lexHg (j := 2) (d := 83) (b := false) rfl rfl rfl rfl; (· intro w' hw'; have hcc := cellsBelow hw'; go_simp; (try go_bits); exact ⟨rfl, hw'⟩); simp only [Act.put, List.setIfInBounds_toArray, List.set_cons_zero, List.set_cons_succ])
          first | (apply lexN (j := 2) (d := 83) (b := false) rfl rfl rfl rfl; simp only [Act.put, List.setIfInBounds_toArray, List.set_cons_zero, List.set_cons_succ]) | (apply lexN' (j := 2) (d := 83) (b := false) rfl rfl rfl; simp only [Act.put, List.setIfInBounds_toArray, List.set_cons_zero, List.set_cons_succ]) | (apply lexFg (j := 2) (d := 83) (b := false) rfl rfl rfl rfl; (· intro _; go_simp; (try go_bits); exact ⟨rfl, rfl⟩); simp only [Act.put, List.setIfInBounds_toArray, List.set_cons_zero, List.set_cons_succ])
          first | (apply lexN (j := 2) (d := 83) (b := false) rfl rfl rfl rfl; simp only [Act.put, List.setIfInBounds_toArray, List.set_cons_zero, List.set_cons_succ]) | (apply lexN' (j := 2) (d := 83) (b := false) rfl rfl rfl; simp only [Act.put, List.setIfInBounds_toArray, List.set_cons_zero, List.set_cons_succ]) | (apply lexFg (j := 2) (d := 83) (b := false) rfl rfl rfl rfl; (· intro _; go_simp; (try go_bits); exact ⟨rfl, rfl⟩); simp only [Act.put, List.setIfInBounds_toArray, List.set_cons_zero, List.set_cons_succ])
          first | (apply lexN (j := 2) (d := 83) (b := false) rfl rfl rfl rfl; simp only [Act.put, List.setIfInBounds_toArray, List.set_cons_zero, List.set_cons_succ]) | (apply lexN' (j := 2) (d := 83) (b := false) rfl rfl rfl; simp only [Act.put, List.setIfInBounds_toArray, List.set_cons_zero, List.set_cons_succ]) | (apply lexFg (j := 2) (d := 83) (b := false) rfl rfl rfl rfl; (· intro _; go_simp; (try go_bits); exact ⟨rfl, rfl⟩); simp only [Act.put, List.setIfInBounds_toArray, List.set_cons_zero, List.set_cons_succ])
          apply lexF rfl; (· intro _; go_simp; (try go_bits); exact ⟨rfl, rfl⟩); simp only [Act.put, List.setIfInBounds_toArray, List.set_cons_zero, List.set_cons_succ]
          refine lexEnd (fun W9 hwB => ?_)
          have hgt := HDEC.out g r HI.out.1 HI.out.2 (.inl hgB)
          obtain ⟨g1, rfl⟩ : ∃ g1, g = g1 + 1 := ⟨g - 1, by omega⟩
          have HI2 := hid (show g1 * v1 + (r + v1) = t ∧ UV ≤ g1 from ⟨by have := HI.out.1; rw [Nat.add_mul] at this; omega, by omega⟩)
          have hg1 : g1 ≤ 18446744073709551615 := by omega
          have eg : ((g1 + 1 : Nat) : Int) - 1 = (g1 : Int) := by omega
          have dB := (hwB.cell (p := ⟨E, m1, none⟩) hEl).trans d1
          have hlb := Nat.lt_of_lt_of_le hEl hwB.size
          clear hgt
          go_upto_region 14 with (fail)
          clear eg hlb dB
          obtain ⟨rr, hrr⟩ : ∃ rr, r + v1 = rr := ⟨_, rfl⟩
          by_cases hbr : 4294967296 ≤ rr
          · have hbi : (4294967296 : Int) ≤ (r : Int) + (v1 : Int) := by omega
            have HQ := hid (show UV ≤ g1 ∧ g1 ≤ UV + 1 ∧ g1 < 4294967296 from by
              have h3 := HI2.out
              rw [hrr] at h3
              have h5 := guess_break h3.1 HTOP1.out (by omega)
              exact ⟨h3.2, HFINQ.out g1 rr h3.1 h5 (test_break h5 (by omega) (by omega)), h5⟩)
            have hww := hwB
            clear hbr hrr
            go_upto_region 15 with (fail)
            have HRED := hid (reduce_any D E n (ys.take j) us (ys.drop (j + n + 1)) vs g1 W9 (Arr.below HWIN.out hww) (HE.out.below hww) hEne.symm (by rw [HS2.out, hvl]) HS6.out HVB.out (by rw [HVV.out]; exact HV0.out) (by have := HQ.out.2.2; omega) (by rw [HVV.out, HUU.out, HUV.out]; exact HQ.out.1) (by rw [HVV.out, HUU.out, HUV.out]; exact HQ.out.2.1) (by rw [HTK.out]; omega) (by omega))
            rw [HTK.out, hvl, HVV.out, HUU.out, HUV.out] at HRED
            have hsw : j ≤ i2 + 1 := by omega
            have hG8 := HGQ.out.below hww
            have hgB : (g1 : Int) ≤ 4294967295 := by have := HQ.out.2.2; omega
            go_wp2_with (go_at_call 94; refine HRED.out.mono ?_; clear HRED; rintro e W10 ⟨rfl, ⟨us', hu1, hu2, hu3, hw10⟩, hg10⟩; have hG10 := arr_other hG8 hg10 hDG.symm; have cG := hG10.cell j HJ.out; have fG := hG10.free; have lG := hG10.lt)
            go_roundw
            case rel => exact ⟨j, by omega, by go_num, HNEXT.out W10 us' (by rw [hu1]; exact HS2.out) hu2 hu3 hw10 (grown_trans (below_grown hww) hg10)⟩
            case measure => simp [intOf]
          · have hbi : ¬ (4294967296 : Int) ≤ (r : Int) + (v1 : Int) := by omega
            rw [hrr] at HI2
            have HRR := hid hrr
            clear hrr
            go_wp2
            go_roundw
            case rel => exact ⟨g1, rr, rfl, by rw [← HRR.out]; rfl, HI2, by omega, hg1, hwB⟩
            case measure => simp [intOf]
        · have hgi : ¬ (4294967296 : Int) ≤ (g : Int) := by omega
          have e3 := div_or r a0 (by omega) (by omega)
          obtain ⟨ra, hra⟩ : ∃ ra, r * 4294967296 + a0 = ra := ⟨_, rfl⟩
          rw [hra] at e3
          have hm0 : 0 ≤ (g : Int) * (v2 : Int) := Int.mul_nonneg (by omega) (by omega)
          have hmn' : g * v2 ≤ 4294967295 * 4294967295 := Nat.mul_le_mul (by omega) (by omega)
          obtain ⟨gv, hgv, hgv2⟩ : ∃ gv : Nat, g * v2 = gv ∧ (g : Int) * (v2 : Int) = (gv : Int) := ⟨_, rfl, by simp only [Int.natCast_mul]⟩
          rw [hgv] at hmn'
          have hgvb : (gv : Int) ≤ 18446744065119617025 := by omega
          by_cases hc : ra < gv
          · have HCD := hid (show r * 4294967296 + a0 < g * v2 by omega)
            have hci : (ra : Int) < (gv : Int) := by omega
            clear hra hgv hm0 hmn' hc
            apply lexF rfl; (· intro _; go_simp; (try go_bits); exact ⟨rfl, rfl⟩); simp only [Act.put, List.setIfInBounds_toArray, List.set_cons_zero, List.set_cons_succ]
            apply lexF rfl; (· intro _; go_simp; (try go_bits); exact ⟨rfl, rfl⟩); simp only [Act.put, List.setIfInBounds_toArray, List.set_cons_zero, List.set_cons_succ]
            apply lexF rfl; (· intro _; go_simp; (try go_bits); exact ⟨rfl, rfl⟩); simp only [Act.put, List.setIfInBounds_toArray, List.set_cons_zero, List.set_cons_succ]
            first | (apply lexN (j := 2) (d := 83) (b := false) rfl rfl rfl rfl; simp only [Act.put, List.setIfInBounds_toArray, List.set_cons_zero, List.set_cons_succ]) | (apply lexN' (j := 2) (d := 83) (b := false) rfl rfl rfl; simp only [Act.put, List.setIfInBounds_toArray, List.set_cons_zero, List.set_cons_succ]) | (apply lexFg (j := 2) (d := 83) (b := false) rfl rfl rfl rfl; (· intro _; go_simp; (try go_bits); exact ⟨rfl, rfl⟩); simp only [Act.put, List.setIfInBounds_toArray, List.set_cons_zero, List.set_cons_succ])
            first | (apply lexN (j := 2) (d := 83) (b := false) rfl rfl rfl rfl; simp only [Act.put, List.setIfInBounds_toArray, List.set_cons_zero, List.set_cons_succ]) | (apply lexN' (j := 2) (d := 83) (b := false) rfl rfl rfl; simp only [Act.put, List.setIfInBounds_toArray, List.set_cons_zero, List.set_cons_succ]) | (apply lexFg (j := 2) (d := 83) (b := false) rfl rfl rfl rfl; (· intro _; go_simp; (try go_bits); exact ⟨rfl, rfl⟩); simp only [Act.put, List.setIfInBounds_toArray, List.set_cons_zero, List.set_cons_succ])
            first | (apply lexN (j := 2) (d := 83) (b := false) rfl rfl rfl rfl; simp only [Act.put, List.setIfInBounds_toArray, List.set_cons_zero, List.set_cons_succ]) | (apply lexN' (j := 2) (d := 83) (b := false) rfl rfl rfl; simp only [Act.put, List.setIfInBounds_toArray, List.set_cons_zero, List.set_cons_succ]) | (apply lexFg (j := 2) (d := 83) (b := false) rfl rfl rfl rfl; (· intro _; go_simp; (try go_bits); exact ⟨rfl, rfl⟩); simp only [Act.put, List.setIfInBounds_toArray, List.set_cons_zero, List.set_cons_succ])
            first | (apply lexN (j := 2) (d := 83) (b := false) rfl rfl rfl rfl; simp only [Act.put, List.setIfInBounds_toArray, List.set_cons_zero, List.set_cons_succ]) | (apply lexN' (j := 2) (d := 83) (b := false) rfl rfl rfl; simp only [Act.put, List.setIfInBounds_toArray, List.set_cons_zero, List.set_cons_succ]) | (apply lexFg (j := 2) (d := 83) (b := false) rfl rfl rfl rfl; (· intro _; go_simp; (try go_bits); exact ⟨rfl, rfl⟩); simp only [Act.put, List.setIfInBounds_toArray, List.set_cons_zero, List.set_cons_succ])
            first | (apply lexN (j := 2) (d := 83) (b := false) rfl rfl rfl rfl; simp only [Act.put, List.setIfInBounds_toArray, List.set_cons_zero, List.set_cons_succ]) | (apply lexN' (j := 2) (d := 83) (b := false) rfl rfl rfl; simp only [Act.put, List.setIfInBounds_toArray, List.set_cons_zero, List.set_cons_succ]) | (apply lexFg (j := 2) (d := 83) (b := false) rfl rfl rfl rfl; (· intro _; go_simp; (try go_bits); exact ⟨rfl, rfl⟩); simp only [Act.put, List.setIfInBounds_toArray, List.set_cons_zero, List.set_cons_succ])
            first | (apply lexN (j := 2) (d := 83) (b := false) rfl rfl rfl rfl; simp only [Act.put, List.setIfInBounds_toArray, List.set_cons_zero, List.set_cons_succ]) | (apply lexN' (j := 2) (d := 83) (b := false) rfl rfl rfl; simp only [Act.put, List.setIfInBounds_toArray, List.set_cons_zero, List.set_cons_succ]) | (apply lexHg (j := 2) (d := 83) (b := false) rfl rfl rfl rfl; (· intro w' hw'; have hcc := cellsBelow hw'; go_simp; (try go_bits); exact ⟨rfl, hw'⟩); simp only [Act.put, List.setIfInBounds_toArray, List.set_cons_zero, List.set_cons_succ])
            first | (apply lexN (j := 2) (d := 83) (b := false) rfl rfl rfl rfl; simp only [Act.put, List.setIfInBounds_toArray, List.set_cons_zero, List.set_cons_succ]) | (apply lexN' (j := 2) (d := 83) (b := false) rfl rfl rfl; simp only [Act.put, List.setIfInBounds_toArray, List.set_cons_zero, List.set_cons_succ]) | (apply lexFg (j := 2) (d := 83) (b := false) rfl rfl rfl rfl; (· intro _; go_simp; (try go_bits); exact ⟨rfl, rfl⟩); simp only [Act.put, List.setIfInBounds_toArray, List.set_cons_zero, List.set_cons_succ])
            first | (apply lexN (j := 2) (d := 83) (b := false) rfl rfl rfl rfl; simp only [Act.put, List.setIfInBounds_toArray, List.set_cons_zero, List.set_cons_succ]) | (apply lexN' (j := 2) (d := 83) (b := false) rfl rfl rfl; simp only [Act.put, List.setIfInBounds_toArray, List.set_cons_zero, List.set_cons_succ]) | (apply lexFg (j := 2) (d := 83) (b := false) rfl rfl rfl rfl; (· intro _; go_simp; (try go_bits); exact ⟨rfl, rfl⟩); simp only [Act.put, List.setIfInBounds_toArray, List.set_cons_zero, List.set_cons_succ])
            first | (apply lexN (j := 2) (d := 83) (b := false) rfl rfl rfl rfl; simp only [Act.put, List.setIfInBounds_toArray, List.set_cons_zero, List.set_cons_succ]) | (apply lexN' (j := 2) (d := 83) (b := false) rfl rfl rfl; simp only [Act.put, List.setIfInBounds_toArray, List.set_cons_zero, List.set_cons_succ]) | (apply lexFg (j := 2) (d := 83) (b := false) rfl rfl rfl rfl; (· intro _; go_simp; (try go_bits); exact ⟨rfl, rfl⟩); simp only [Act.put, List.setIfInBounds_toArray, List.set_cons_zero, List.set_cons_succ])
            first | (apply lexN (j := 2) (d := 83) (b := false) rfl rfl rfl rfl; simp only [Act.put, List.setIfInBounds_toArray, List.set_cons_zero, List.set_cons_succ]) | (apply lexN' (j := 2) (d := 83) (b := false) rfl rfl rfl; simp only [Act.put, List.setIfInBounds_toArray, List.set_cons_zero, List.set_cons_succ]) | (apply lexFg (j := 2) (d := 83) (b := false) rfl rfl rfl rfl; (· intro _; go_simp; (try go_bits); exact ⟨rfl, rfl⟩); simp only [Act.put, List.setIfInBounds_toArray, List.set_cons_zero, List.set_cons_succ])
            first | (apply lexN (j := 2) (d := 83) (b := false) rfl rfl rfl rfl; simp only [Act.put, List.setIfInBounds_toArray, List.set_cons_zero, List.set_cons_succ]) | (apply lexN' (j := 2) (d := 83) (b := false) rfl rfl rfl; simp only [Act.put, List.setIfInBounds_toArray, List.set_cons_zero, List.set_cons_succ]) | (apply lexFg (j := 2) (d := 83) (b := false) rfl rfl rfl rfl; (· intro _; go_simp; (try go_bits); exact ⟨rfl, rfl⟩); simp only [Act.put, List.setIfInBounds_toArray, List.set_cons_zero, List.set_cons_succ])
            first | (apply lexN (j := 2) (d := 83) (b := false) rfl rfl rfl rfl; simp only [Act.put, List.setIfInBounds_toArray, List.set_cons_zero, List.set_cons_succ]) | (apply lexN' (j := 2) (d := 83) (b := false) rfl rfl rfl; simp only [Act.put, List.setIfInBounds_toArray, List.set_cons_zero, List.set_cons_succ]) | (apply lexFg (j := 2) (d := 83) (b := false) rfl rfl rfl rfl; (· intro _; go_simp; (try go_bits); exact ⟨rfl, rfl⟩); simp only [Act.put, List.setIfInBounds_toArray, List.set_cons_zero, List.set_cons_succ])
            first | (apply lexN (j := 2) (d := 83) (b := false) rfl rfl rfl rfl; simp only [Act.put, List.setIfInBounds_toArray, List.set_cons_zero, List.set_cons_succ]) | (apply lexN' (j := 2) (d := 83) (b := false) rfl rfl rfl; simp only [Act.put, List.setIfInBounds_toArray, List.set_cons_zero, List.set_cons_succ]) | (apply lexFg (j := 2) (d := 83) (b := false) rfl rfl rfl rfl; (· intro _; go_simp; (try go_bits); exact ⟨rfl, rfl⟩); simp only [Act.put, List.setIfInBounds_toArray, List.set_cons_zero, List.set_cons_succ])
            first | (apply lexN (j := 2) (d := 83) (b := false) rfl rfl rfl rfl; simp only [Act.put, List.setIfInBounds_toArray, List.set_cons_zero, List.set_cons_succ]) | (apply lexN' (j := 2) (d := 83) (b := false) rfl rfl rfl; simp only [Act.put, List.setIfInBounds_toArray, List.set_cons_zero, List.set_cons_succ]) | (apply lexFg (j := 2) (d := 83) (b := false) rfl rfl rfl rfl; (· intro _; go_simp; (try go_bits); exact ⟨rfl, rfl⟩); simp only [Act.put, List.setIfInBounds_toArray, List.set_cons_zero, List.set_cons_succ])
            first | (apply lexN (j := 2) (d := 83) (b := false) rfl rfl rfl rfl; simp only [Act.put, List.setIfInBounds_toArray, List.set_cons_zero, List.set_cons_succ]) | (apply lexN' (j := 2) (d := 83) (b := false) rfl rfl rfl; simp only [Act.put, List.setIfInBounds_toArray, List.set_cons_zero, List.set_cons_succ]) | (apply lexFg (j := 2) (d := 83) (b := false) rfl rfl rfl rfl; (· intro _; go_simp; (try go_bits); exact ⟨rfl, rfl⟩); simp only [Act.put, List.setIfInBounds_toArray, List.set_cons_zero, List.set_cons_succ])
            first | (apply lexN (j := 2) (d := 83) (b := false) rfl rfl rfl rfl; simp only [Act.put, List.setIfInBounds_toArray, List.set_cons_zero, List.set_cons_succ]) | (apply lexN' (j := 2) (d := 83) (b := false) rfl rfl rfl; simp only [Act.put, List.setIfInBounds_toArray, List.set_cons_zero, List.set_cons_succ]) | (apply lexFg (j := 2) (d := 83) (b := false) rfl rfl rfl rfl; (· intro _; go_simp; (try go_bits); exact ⟨rfl, rfl⟩); simp only [Act.put, List.setIfInBounds_toArray, List.set_cons_zero, List.set_cons_succ])
            first | (apply lexN (j := 2) (d := 83) (b := false) rfl rfl rfl rfl; simp only [Act.put, List.setIfInBounds_toArray, List.set_cons_zero, List.set_cons_succ]) | (apply lexN' (j := 2) (d := 83) (b := false) rfl rfl rfl; simp only [Act.put, List.setIfInBounds_toArray, List.set_cons_zero, List.set_cons_succ]) | (apply lexHg (j := 2) (d := 83) (b := false) rfl rfl rfl rfl; (· intro w' hw'; have hcc := cellsBelow hw'; go_simp; (try go_bits); exact ⟨rfl, hw'⟩); simp only [Act.put, List.setIfInBounds_toArray, List.set_cons_zero, List.set_cons_succ])
            first | (apply lexN (j := 2) (d := 83) (b := false) rfl rfl rfl rfl; simp only [Act.put, List.setIfInBounds_toArray, List.set_cons_zero, List.set_cons_succ]) | (apply lexN' (j := 2) (d := 83) (b := false) rfl rfl rfl; simp only [Act.put, List.setIfInBounds_toArray, List.set_cons_zero, List.set_cons_succ]) | (apply lexFg (j := 2) (d := 83) (b := false) rfl rfl rfl rfl; (· intro _; go_simp; (try go_bits); exact ⟨rfl, rfl⟩); simp only [Act.put, List.setIfInBounds_toArray, List.set_cons_zero, List.set_cons_succ])
            first | (apply lexN (j := 2) (d := 83) (b := false) rfl rfl rfl rfl; simp only [Act.put, List.setIfInBounds_toArray, List.set_cons_zero, List.set_cons_succ]) | (apply lexN' (j := 2) (d := 83) (b := false) rfl rfl rfl; simp only [Act.put, List.setIfInBounds_toArray, List.set_cons_zero, List.set_cons_succ]) | (apply lexFg (j := 2) (d := 83) (b := false) rfl rfl rfl rfl; (· intro _; go_simp; (try go_bits); exact ⟨rfl, rfl⟩); simp only [Act.put, List.setIfInBounds_toArray, List.set_cons_zero, List.set_cons_succ])
            first | (apply lexN (j := 2) (d := 83) (b := false) rfl rfl rfl rfl; simp only [Act.put, List.setIfInBounds_toArray, List.set_cons_zero, List.set_cons_succ]) | (apply lexN' (j := 2) (d := 83) (b := false) rfl rfl rfl; simp only [Act.put, List.setIfInBounds_toArray, List.set_cons_zero, List.set_cons_succ]) | (apply lexFg (j := 2) (d := 83) (b := false) rfl rfl rfl rfl; (· intro _; go_simp; (try go_bits); exact ⟨rfl, rfl⟩); simp only [Act.put, List.setIfInBounds_toArray, List.set_cons_zero, List.set_cons_succ])
            apply lexF rfl; (· intro _; go_simp; (try go_bits); exact ⟨rfl, rfl⟩); simp only [Act.put, List.setIfInBounds_toArray, List.set_cons_zero, List.set_cons_succ]
            refine lexEnd (fun W9 hwB => ?_)
            clear e3 hgv2
            have hgt := HDEC.out g r HI.out.1 HI.out.2 (.inr HCD.out)
            obtain ⟨g1, rfl⟩ : ∃ g1, g = g1 + 1 := ⟨g - 1, by omega⟩
            have HI2 := hid (show g1 * v1 + (r + v1) = t ∧ UV ≤ g1 from ⟨by have := HI.out.1; rw [Nat.add_mul] at this; omega, by omega⟩)
            have hg1 : g1 ≤ 18446744073709551615 := by omega
            have eg : ((g1 + 1 : Nat) : Int) - 1 = (g1 : Int) := by omega
            have dB := (hwB.cell (p := ⟨E, m1, none⟩) hEl).trans d1
            have hlb := Nat.lt_of_lt_of_le hEl hwB.size
            clear hgt
            go_upto_region 14 with (fail)
            clear eg hlb dB
            obtain ⟨rr, hrr⟩ : ∃ rr, r + v1 = rr := ⟨_, rfl⟩
            by_cases hbr : 4294967296 ≤ rr
            · have hbi : (4294967296 : Int) ≤ (r : Int) + (v1 : Int) := by omega
              have HQ := hid (show UV ≤ g1 ∧ g1 ≤ UV + 1 ∧ g1 < 4294967296 from by
                have h3 := HI2.out
                rw [hrr] at h3
                have h5 := guess_break h3.1 HTOP1.out (by omega)
                exact ⟨h3.2, HFINQ.out g1 rr h3.1 h5 (test_break h5 (by omega) (by omega)), h5⟩)
              have hww := hwB
              clear hbr hrr
              go_upto_region 15 with (fail)
              have HRED := hid (reduce_any D E n (ys.take j) us (ys.drop (j + n + 1)) vs g1 W9 (Arr.below HWIN.out hww) (HE.out.below hww) hEne.symm (by rw [HS2.out, hvl]) HS6.out HVB.out (by rw [HVV.out]; exact HV0.out) (by have := HQ.out.2.2; omega) (by rw [HVV.out, HUU.out, HUV.out]; exact HQ.out.1) (by rw [HVV.out, HUU.out, HUV.out]; exact HQ.out.2.1) (by rw [HTK.out]; omega) (by omega))
              rw [HTK.out, hvl, HVV.out, HUU.out, HUV.out] at HRED
              have hsw : j ≤ i2 + 1 := by omega
              have hG8 := HGQ.out.below hww
              have hgB : (g1 : Int) ≤ 4294967295 := by have := HQ.out.2.2; omega
              go_wp2_with (go_at_call 94; refine HRED.out.mono ?_; clear HRED; rintro e W10 ⟨rfl, ⟨us', hu1, hu2, hu3, hw10⟩, hg10⟩; have hG10 := arr_other hG8 hg10 hDG.symm; have cG := hG10.cell j HJ.out; have fG := hG10.free; have lG := hG10.lt)
              go_roundw
              case rel => exact ⟨j, by omega, by go_num, HNEXT.out W10 us' (by rw [hu1]; exact HS2.out) hu2 hu3 hw10 (grown_trans (below_grown hww) hg10)⟩
              case measure => simp [intOf]
            · have hbi : ¬ (4294967296 : Int) ≤ (r : Int) + (v1 : Int) := by omega
              rw [hrr] at HI2
              have HRR := hid hrr
              clear hrr
              go_wp2
              go_roundw
              case rel => exact ⟨g1, rr, rfl, by rw [← HRR.out]; rfl, HI2, by omega, hg1, hwB⟩
              case measure => simp [intOf]
          · have HQ := hid (show UV ≤ g ∧ g ≤ UV + 1 ∧ g < 4294967296 from ⟨HI.out.2, HFINQ.out g r HI.out.1 (by omega) (by omega), by omega⟩)
            have hci : ¬ (ra : Int) < (gv : Int) := by omega
            clear hra hgv hm0 hmn' hc
            apply lexF rfl; (· intro _; go_simp; (try go_bits); exact ⟨rfl, rfl⟩); simp only [Act.put, List.setIfInBounds_toArray, List.set_cons_zero, List.set_cons_succ]
            apply lexF rfl; (· intro _; go_simp; (try go_bits); exact ⟨rfl, rfl⟩); simp only [Act.put, List.setIfInBounds_toArray, List.set_cons_zero, List.set_cons_succ]
            apply lexF rfl; (· intro _; go_simp; (try go_bits); exact ⟨rfl, rfl⟩); simp only [Act.put, List.setIfInBounds_toArray, List.set_cons_zero, List.set_cons_succ]
            first | (apply lexN (j := 2) (d := 83) (b := false) rfl rfl rfl rfl; simp only [Act.put, List.setIfInBounds_toArray, List.set_cons_zero, List.set_cons_succ]) | (apply lexN' (j := 2) (d := 83) (b := false) rfl rfl rfl; simp only [Act.put, List.setIfInBounds_toArray, List.set_cons_zero, List.set_cons_succ]) | (apply lexFg (j := 2) (d := 83) (b := false) rfl rfl rfl rfl; (· intro _; go_simp; (try go_bits); exact ⟨rfl, rfl⟩); simp only [Act.put, List.setIfInBounds_toArray, List.set_cons_zero, List.set_cons_succ])
            first | (apply lexN (j := 2) (d := 83) (b := false) rfl rfl rfl rfl; simp only [Act.put, List.setIfInBounds_toArray, List.set_cons_zero, List.set_cons_succ]) | (apply lexN' (j := 2) (d := 83) (b := false) rfl rfl rfl; simp only [Act.put, List.setIfInBounds_toArray, List.set_cons_zero, List.set_cons_succ]) | (apply lexFg (j := 2) (d := 83) (b := false) rfl rfl rfl rfl; (· intro _; go_simp; (try go_bits); exact ⟨rfl, rfl⟩); simp only [Act.put, List.setIfInBounds_toArray, List.set_cons_zero, List.set_cons_succ])
            first | (apply lexN (j := 2) (d := 83) (b := false) rfl rfl rfl rfl; simp only [Act.put, List.setIfInBounds_toArray, List.set_cons_zero, List.set_cons_succ]) | (apply lexN' (j := 2) (d := 83) (b := false) rfl rfl rfl; simp only [Act.put, List.setIfInBounds_toArray, List.set_cons_zero, List.set_cons_succ]) | (apply lexFg (j := 2) (d := 83) (b := false) rfl rfl rfl rfl; (· intro _; go_simp; (try go_bits); exact ⟨rfl, rfl⟩); simp only [Act.put, List.setIfInBounds_toArray, List.set_cons_zero, List.set_cons_succ])
            first | (apply lexN (j := 2) (d := 83) (b := false) rfl rfl rfl rfl; simp only [Act.put, List.setIfInBounds_toArray, List.set_cons_zero, List.set_cons_succ]) | (apply lexN' (j := 2) (d := 83) (b := false) rfl rfl rfl; simp only [Act.put, List.setIfInBounds_toArray, List.set_cons_zero, List.set_cons_succ]) | (apply lexFg (j := 2) (d := 83) (b := false) rfl rfl rfl rfl; (· intro _; go_simp; (try go_bits); exact ⟨rfl, rfl⟩); simp only [Act.put, List.setIfInBounds_toArray, List.set_cons_zero, List.set_cons_succ])
            first | (apply lexN (j := 2) (d := 83) (b := false) rfl rfl rfl rfl; simp only [Act.put, List.setIfInBounds_toArray, List.set_cons_zero, List.set_cons_succ]) | (apply lexN' (j := 2) (d := 83) (b := false) rfl rfl rfl; simp only [Act.put, List.setIfInBounds_toArray, List.set_cons_zero, List.set_cons_succ]) | (apply lexFg (j := 2) (d := 83) (b := false) rfl rfl rfl rfl; (· intro _; go_simp; (try go_bits); exact ⟨rfl, rfl⟩); simp only [Act.put, List.setIfInBounds_toArray, List.set_cons_zero, List.set_cons_succ])
            first | (apply lexN (j := 2) (d := 83) (b := false) rfl rfl rfl rfl; simp only [Act.put, List.setIfInBounds_toArray, List.set_cons_zero, List.set_cons_succ]) | (apply lexN' (j := 2) (d := 83) (b := false) rfl rfl rfl; simp only [Act.put, List.setIfInBounds_toArray, List.set_cons_zero, List.set_cons_succ]) | (apply lexHg (j := 2) (d := 83) (b := false) rfl rfl rfl rfl; (· intro w' hw'; have hcc := cellsBelow hw'; go_simp; (try go_bits); exact ⟨rfl, hw'⟩); simp only [Act.put, List.setIfInBounds_toArray, List.set_cons_zero, List.set_cons_succ])
            first | (apply lexN (j := 2) (d := 83) (b := false) rfl rfl rfl rfl; simp only [Act.put, List.setIfInBounds_toArray, List.set_cons_zero, List.set_cons_succ]) | (apply lexN' (j := 2) (d := 83) (b := false) rfl rfl rfl; simp only [Act.put, List.setIfInBounds_toArray, List.set_cons_zero, List.set_cons_succ]) | (apply lexFg (j := 2) (d := 83) (b := false) rfl rfl rfl rfl; (· intro _; go_simp; (try go_bits); exact ⟨rfl, rfl⟩); simp only [Act.put, List.setIfInBounds_toArray, List.set_cons_zero, List.set_cons_succ])
            first | (apply lexN (j := 2) (d := 83) (b := false) rfl rfl rfl rfl; simp only [Act.put, List.setIfInBounds_toArray, List.set_cons_zero, List.set_cons_succ]) | (apply lexN' (j := 2) (d := 83) (b := false) rfl rfl rfl; simp only [Act.put, List.setIfInBounds_toArray, List.set_cons_zero, List.set_cons_succ]) | (apply lexFg (j := 2) (d := 83) (b := false) rfl rfl rfl rfl; (· intro _; go_simp; (try go_bits); exact ⟨rfl, rfl⟩); simp only [Act.put, List.setIfInBounds_toArray, List.set_cons_zero, List.set_cons_succ])
            first | (apply lexN (j := 2) (d := 83) (b := false) rfl rfl rfl rfl; simp only [Act.put, List.setIfInBounds_toArray, List.set_cons_zero, List.set_cons_succ]) | (apply lexN' (j := 2) (d := 83) (b := false) rfl rfl rfl; simp only [Act.put, List.setIfInBounds_toArray, List.set_cons_zero, List.set_cons_succ]) | (apply lexFg (j := 2) (d := 83) (b := false) rfl rfl rfl rfl; (· intro _; go_simp; (try go_bits); exact ⟨rfl, rfl⟩); simp only [Act.put, List.setIfInBounds_toArray, List.set_cons_zero, List.set_cons_succ])
            first | (apply lexN (j := 2) (d := 83) (b := false) rfl rfl rfl rfl; simp only [Act.put, List.setIfInBounds_toArray, List.set_cons_zero, List.set_cons_succ]) | (apply lexN' (j := 2) (d := 83) (b := false) rfl rfl rfl; simp only [Act.put, List.setIfInBounds_toArray, List.set_cons_zero, List.set_cons_succ]) | (apply lexFg (j := 2) (d := 83) (b := false) rfl rfl rfl rfl; (· intro _; go_simp; (try go_bits); exact ⟨rfl, rfl⟩); simp only [Act.put, List.setIfInBounds_toArray, List.set_cons_zero, List.set_cons_succ])
            first | (apply lexN (j := 2) (d := 83) (b := false) rfl rfl rfl rfl; simp only [Act.put, List.setIfInBounds_toArray, List.set_cons_zero, List.set_cons_succ]) | (apply lexN' (j := 2) (d := 83) (b := false) rfl rfl rfl; simp only [Act.put, List.setIfInBounds_toArray, List.set_cons_zero, List.set_cons_succ]) | (apply lexFg (j := 2) (d := 83) (b := false) rfl rfl rfl rfl; (· intro _; go_simp; (try go_bits); exact ⟨rfl, rfl⟩); simp only [Act.put, List.setIfInBounds_toArray, List.set_cons_zero, List.set_cons_succ])
            first | (apply lexN (j := 2) (d := 83) (b := false) rfl rfl rfl rfl; simp only [Act.put, List.setIfInBounds_toArray, List.set_cons_zero, List.set_cons_succ]) | (apply lexN' (j := 2) (d := 83) (b := false) rfl rfl rfl; simp only [Act.put, List.setIfInBounds_toArray, List.set_cons_zero, List.set_cons_succ]) | (apply lexFg (j := 2) (d := 83) (b := false) rfl rfl rfl rfl; (· intro _; go_simp; (try go_bits); exact ⟨rfl, rfl⟩); simp only [Act.put, List.setIfInBounds_toArray, List.set_cons_zero, List.set_cons_succ])
            first | (apply lexN (j := 2) (d := 83) (b := false) rfl rfl rfl rfl; simp only [Act.put, List.setIfInBounds_toArray, List.set_cons_zero, List.set_cons_succ]) | (apply lexN' (j := 2) (d := 83) (b := false) rfl rfl rfl; simp only [Act.put, List.setIfInBounds_toArray, List.set_cons_zero, List.set_cons_succ]) | (apply lexFg (j := 2) (d := 83) (b := false) rfl rfl rfl rfl; (· intro _; go_simp; (try go_bits); exact ⟨rfl, rfl⟩); simp only [Act.put, List.setIfInBounds_toArray, List.set_cons_zero, List.set_cons_succ])
            first | (apply lexN (j := 2) (d := 83) (b := false) rfl rfl rfl rfl; simp only [Act.put, List.setIfInBounds_toArray, List.set_cons_zero, List.set_cons_succ]) | (apply lexN' (j := 2) (d := 83) (b := false) rfl rfl rfl; simp only [Act.put, List.setIfInBounds_toArray, List.set_cons_zero, List.set_cons_succ]) | (apply lexFg (j := 2) (d := 83) (b := false) rfl rfl rfl rfl; (· intro _; go_simp; (try go_bits); exact ⟨rfl, rfl⟩); simp only [Act.put, List.setIfInBounds_toArray, List.set_cons_zero, List.set_cons_succ])
            first | (apply lexN (j := 2) (d := 83) (b := false) rfl rfl rfl rfl; simp only [Act.put, List.setIfInBounds_toArray, List.set_cons_zero, List.set_cons_succ]) | (apply lexN' (j := 2) (d := 83) (b := false) rfl rfl rfl; simp only [Act.put, List.setIfInBounds_toArray, List.set_cons_zero, List.set_cons_succ]) | (apply lexFg (j := 2) (d := 83) (b := false) rfl rfl rfl rfl; (· intro _; go_simp; (try go_bits); exact ⟨rfl, rfl⟩); simp only [Act.put, List.setIfInBounds_toArray, List.set_cons_zero, List.set_cons_succ])
            first | (apply lexN (j := 2) (d := 83) (b := false) rfl rfl rfl rfl; simp only [Act.put, List.setIfInBounds_toArray, List.set_cons_zero, List.set_cons_succ]) | (apply lexN' (j := 2) (d := 83) (b := false) rfl rfl rfl; simp only [Act.put, List.setIfInBounds_toArray, List.set_cons_zero, List.set_cons_succ]) | (apply lexFg (j := 2) (d := 83) (b := false) rfl rfl rfl rfl; (· intro _; go_simp; (try go_bits); exact ⟨rfl, rfl⟩); simp only [Act.put, List.setIfInBounds_toArray, List.set_cons_zero, List.set_cons_succ])
            first | (apply lexN (j := 2) (d := 83) (b := false) rfl rfl rfl rfl; simp only [Act.put, List.setIfInBounds_toArray, List.set_cons_zero, List.set_cons_succ]) | (apply lexN' (j := 2) (d := 83) (b := false) rfl rfl rfl; simp only [Act.put, List.setIfInBounds_toArray, List.set_cons_zero, List.set_cons_succ]) | (apply lexHg (j := 2) (d := 83) (b := false) rfl rfl rfl rfl; (· intro w' hw'; have hcc := cellsBelow hw'; go_simp; (try go_bits); exact ⟨rfl, hw'⟩); simp only [Act.put, List.setIfInBounds_toArray, List.set_cons_zero, List.set_cons_succ])
            first | (apply lexN (j := 2) (d := 83) (b := false) rfl rfl rfl rfl; simp only [Act.put, List.setIfInBounds_toArray, List.set_cons_zero, List.set_cons_succ]) | (apply lexN' (j := 2) (d := 83) (b := false) rfl rfl rfl; simp only [Act.put, List.setIfInBounds_toArray, List.set_cons_zero, List.set_cons_succ]) | (apply lexFg (j := 2) (d := 83) (b := false) rfl rfl rfl rfl; (· intro _; go_simp; (try go_bits); exact ⟨rfl, rfl⟩); simp only [Act.put, List.setIfInBounds_toArray, List.set_cons_zero, List.set_cons_succ])
            first | (apply lexN (j := 2) (d := 83) (b := false) rfl rfl rfl rfl; simp only [Act.put, List.setIfInBounds_toArray, List.set_cons_zero, List.set_cons_succ]) | (apply lexN' (j := 2) (d := 83) (b := false) rfl rfl rfl; simp only [Act.put, List.setIfInBounds_toArray, List.set_cons_zero, List.set_cons_succ]) | (apply lexFg (j := 2) (d := 83) (b := false) rfl rfl rfl rfl; (· intro _; go_simp; (try go_bits); exact ⟨rfl, rfl⟩); simp only [Act.put, List.setIfInBounds_toArray, List.set_cons_zero, List.set_cons_succ])
            first | (apply lexN (j := 2) (d := 83) (b := false) rfl rfl rfl rfl; simp only [Act.put, List.setIfInBounds_toArray, List.set_cons_zero, List.set_cons_succ]) | (apply lexN' (j := 2) (d := 83) (b := false) rfl rfl rfl; simp only [Act.put, List.setIfInBounds_toArray, List.set_cons_zero, List.set_cons_succ]) | (apply lexFg (j := 2) (d := 83) (b := false) rfl rfl rfl rfl; (· intro _; go_simp; (try go_bits); exact ⟨rfl, rfl⟩); simp only [Act.put, List.setIfInBounds_toArray, List.set_cons_zero, List.set_cons_succ])
            apply lexF rfl; (· intro _; go_simp; (try go_bits); exact ⟨rfl, rfl⟩); simp only [Act.put, List.setIfInBounds_toArray, List.set_cons_zero, List.set_cons_succ]
            refine lexEnd (fun W9 hww => ?_)
            clear e3 hgv2
            go_upto_region 15 with (fail)
            have HRED := hid (reduce_any D E n (ys.take j) us (ys.drop (j + n + 1)) vs g W9 (Arr.below HWIN.out hww) (HE.out.below hww) hEne.symm (by rw [HS2.out, hvl]) HS6.out HVB.out (by rw [HVV.out]; exact HV0.out) (by have := HQ.out.2.2; omega) (by rw [HVV.out, HUU.out, HUV.out]; exact HQ.out.1) (by rw [HVV.out, HUU.out, HUV.out]; exact HQ.out.2.1) (by rw [HTK.out]; omega) (by omega))
            rw [HTK.out, hvl, HVV.out, HUU.out, HUV.out] at HRED
            have hsw : j ≤ i2 + 1 := by omega
            have hG8 := HGQ.out.below hww
            have hgB : (g : Int) ≤ 4294967295 := by have := HQ.out.2.2; omega
            go_wp2_with (go_at_call 94; refine HRED.out.mono ?_; clear HRED; rintro e W10 ⟨rfl, ⟨us', hu1, hu2, hu3, hw10⟩, hg10⟩; have hG10 := arr_other hG8 hg10 hDG.symm; have cG := hG10.cell j HJ.out; have fG := hG10.free; have lG := hG10.lt)
            go_roundw
            case rel => exact ⟨j, by omega, by go_num, HNEXT.out W10 us' (by rw [hu1]; exact HS2.out) hu2 hu3 hw10 (grown_trans (below_grown hww) hg10)⟩
            case measure => simp [intOf]
end Go.Proofs.YtjhgkojbpgakcaaGreatDoor
namespace Go.Proofs.YtjhgkojbpgakcaaGreatDoor
open Go.RowKit
theorem has_set {base R : Nat} {w w' : World} {c : Value} {t : TypeId} (h : Has base R (.cells #[c] t) w) (u : Value) (hb : Below (w.setCell ⟨R, 0, none⟩ u).heap.size (w.setCell ⟨R, 0, none⟩ u) w') : Has 0 R (.cells #[u] t) w' :=
  Has.below ⟨Nat.zero_le _, box_store h.2 u⟩ hb
theorem has_far {base R R' : Nat} {w w' : World} {o : Obj} (h : Has base R o w) (hne : R ≠ R') (u : Value) (hb : Below (w.setCell ⟨R', 0, none⟩ u).heap.size (w.setCell ⟨R', 0, none⟩ u) w') : Has 0 R o w' :=
  Has.below ⟨Nat.zero_le _, by rw [setCell_far _ hne]; exact h.2⟩ hb
theorem nat_set {base R : Nat} {w w' : World} {v : Value} {n : Nat} {p : Option Addr} {l c : Nat} {t : TypeId} (h : NatV w v n) (hR : Has base R (.cells #[.slice p l c] t) w) (u : Value) (hb : Below (w.setCell ⟨R, 0, none⟩ u).heap.size (w.setCell ⟨R, 0, none⟩ u) w') : NatV w' v n :=
  (h.store (hasCell hR) u).below hb
theorem ks_set {V w : World} {R : Nat} {fs fs' : List (World → Prop)} (hK : KS V fs w) (hR : V.heap.size ≤ R) (u : Value) (h : ∀ F ∈ fs', ∀ w', Below (w.setCell ⟨R, 0, none⟩ u).heap.size (w.setCell ⟨R, 0, none⟩ u) w' → F w') : KS V fs' (w.setCell ⟨R, 0, none⟩ u) :=
  ⟨hK.old.setCell (p := ⟨R, 0, none⟩) hR _, h⟩
theorem all0 {P : (World → Prop) → Prop} : ∀ F ∈ ([] : List (World → Prop)), P F := fun _ h => absurd h List.not_mem_nil
theorem all1 {P : (World → Prop) → Prop} {F : World → Prop} {l : List (World → Prop)} (h : P F) (h' : ∀ F ∈ l, P F) : ∀ G ∈ F :: l, P G := fun G hG => by
  rcases List.mem_cons.1 hG with rfl | hG
  · exact h
  · exact h' G hG
theorem digs_small {m : Nat} (hm : m ≠ 0) (h : m < B32) : digs B32 m = [m] := digs_one hm h
set_option maxRecDepth 100000 in
set_option maxHeartbeats 4000000 in
theorem divmod_small (v u : Value) (n m : Nat) (w : World) (hv : NatV w v n) (hu : NatV w u m) (hm : m ≠ 0) (hm1 : m < 4294967296) (hn : 18446744073709551616 ≤ n) (hl : (digs B32 n).length ≤ 100000) :
    Calls Tryz.prog 53 #[v, u] w fun e w' => ∃ x y, e = .returned (.tuple #[x, y, .int .i64 0]) ∧ NatV w' x (n / m) ∧ NatV w' y (n % m) ∧ Below w.heap.size w w' := by
  have hln : (digs B32 n).length ≤ 100000 := hl
  have hdm := digs_small hm (by rw [b32]; exact hm1)
  have hlm : (digs B32 m).length = 1 := by rw [hdm]; rfl
  have HZ := hid (fun w1 (hb : Below w.heap.size w w1) => isZero_any u m w1 (hu.below hb))
  have HC := hid (fun w1 (hb : Below w.heap.size w w1) => cmp_any v u n m w1 (hv.below hb) (hu.below hb) (by omega) (by omega))
  have HU := hid (fun w1 (hb : Below w.heap.size w w1) => uint64_any v n w1 (hv.below hb))
  have HU' := hid (fun w1 (hb : Below w.heap.size w w1) => uint64_any u m w1 (hu.below hb))
  rw [show (m == 0) = false by simpa using hm] at HZ
  rw [show u64V n = .tuple #[.int .u64 0, .bool false] by unfold u64V; rw [if_neg (by omega), decide_eq_false (by omega)]] at HU
  rw [show u64V m = .tuple #[.int .u64 (m : Int), .bool true] by unfold u64V; rw [if_pos (by omega), decide_eq_true (by omega)]] at HU'
  have hcn : ¬ cmpN n m < 0 := by unfold cmpN; rw [if_neg (by omega)]; split <;> omega
  have HDS := hid (fun w1 (hb : Below w.heap.size w w1) => divs_any v n m w1 (hv.below hb) (by omega) (Nat.pos_of_ne_zero hm) (by omega))
  have HO2 := hid (fun w1 => of_any (n % m) w1 (by have := Nat.mod_lt n (Nat.pos_of_ne_zero hm); omega))
  have hrm : n % m ≤ 4294967295 := by have := Nat.mod_lt n (Nat.pos_of_ne_zero hm); omega
  obtain ⟨P, c, rfl, _⟩ := hv.digp
  obtain ⟨Q, c', rfl, hq⟩ := hu.digp
  obtain ⟨g, rfl, hg⟩ := hq.at (k := 0) (by omega)
  have hd0 := hg.at0 0 (by omega)
  have e0 : (digs B32 m)[0]'(by omega) = m := by simp only [hdm, List.getElem_cons_zero]
  rw [e0] at hd0
  have hgl := hg.lt
  rw [hlm] at HZ HC HU' ⊢
  obtain ⟨cm, hcm⟩ : ∃ cm, cmpN n m = cm := ⟨_, rfl⟩
  rw [hcm] at hcn HC
  obtain ⟨ln, hlne⟩ : ∃ ln, (digs B32 n).length = ln := ⟨_, rfl⟩
  rw [hlne] at HC HU HDS ⊢
  obtain ⟨q, hqe⟩ : ∃ q, n / m = q := ⟨_, rfl⟩
  obtain ⟨r, hre⟩ : ∃ r, n % m = r := ⟨_, rfl⟩
  rw [hqe] at HDS ⊢
  rw [hre] at HDS HO2 hrm ⊢
  clear hq hg hv hu hln hlm hdm hcm hlne hqe hre hl hn hm e0
  go_enter Tryz.func53, Tryz.ntmps53
  go_upto_region 1 with (fail)
  obtain ⟨W0, hW0, hB0⟩ := box4_head (.slice P ln c) (.slice (some ⟨g, 0, none⟩) 1 c') w
  rw [← hW0]
  clear hW0
  have a1 := cell_box1 hB0.k1
  go_upto_region 3 with (go_at_call 29; refine (HZ.out _ hB0.old).mono ?_; clear HZ; rintro e W1 ⟨rfl, hw1⟩; have hB1 := hB0.below hw1)
  clear hB0 hw1 a1
  have a0 := cell_box1 hB1.k0
  have a1 := cell_box1 hB1.k1
  go_upto_region 5 with (go_at_call 32; refine (HC.out _ hB1.old).mono ?_; clear HC; rintro e W2 ⟨rfl, hw2⟩; have hB2 := hB1.below hw2)
  clear hB1 hw2 a0 a1
  have a0 := cell_box1 hB2.k0
  go_upto_region 6 with (go_at_call 67; refine (HU.out _ hB2.old).mono ?_; clear HU; rintro e W3 ⟨rfl, hw3⟩; have hB3 := hB2.below hw3)
  clear hB2 hw3 a0
  have a1 := cell_box1 hB3.k1
  go_upto_region 9 with (go_at_call 67; refine (HU'.out _ hB3.old).mono ?_; clear HU'; rintro e W4 ⟨rfl, hw4⟩; have hB4 := hB3.below hw4)
  clear hB3 hw4 a1
  have a0 := cell_box1 hB4.k0
  have a1 := cell_box1 hB4.k1
  have d4 := (hB4.old.cell (p := ⟨g, 0, none⟩) hgl).trans hd0
  have hgl4 := Nat.lt_of_lt_of_le hgl hB4.old.size
  have sz4 := hB4.sz
  have b0 : w.heap.size < W4.heap.size := by omega
  have b1 : w.heap.size + 1 < W4.heap.size := by omega
  go_upto_region 10 with (fail)
  refine wp_region_float (W4) [] [0, 0, 0, 0, 0, 2, 0, 0, 0, 3, 4, 0] (by kernel_rfl) (by kernel_rfl) (by kernel_rfl) (by kernel_rfl) (KS.drew (KS.start W4)) ?_
  apply lxF0 (wants0 rfl); (· intro w' h0; have hw' := h0.old; have hcc := cellsBelow hw'; go_simp; (try go_bits); exact ⟨rfl, rfl⟩); simp only [Act.put, List.setIfInBounds_toArray, List.set_cons_zero, List.set_cons_succ]
  apply lxF0 (wants0 rfl); (· intro w' h0; have hw' := h0.old; have hcc := cellsBelow hw'; go_simp; (try go_bits); exact ⟨rfl, rfl⟩); simp only [Act.put, List.setIfInBounds_toArray, List.set_cons_zero, List.set_cons_succ]
  apply lxF0 (wants0 rfl); (· intro w' h0; have hw' := h0.old; have hcc := cellsBelow hw'; go_simp; (try go_bits); exact ⟨rfl, rfl⟩); simp only [Act.put, List.setIfInBounds_toArray, List.set_cons_zero, List.set_cons_succ]
  apply lxF0 (wants0 rfl); (· intro w' h0; have hw' := h0.old; have hcc := cellsBelow hw'; go_simp; (try go_bits); exact ⟨rfl, rfl⟩); simp only [Act.put, List.setIfInBounds_toArray, List.set_cons_zero, List.set_cons_succ]
  apply lxF0 (wants0 rfl); (· intro w' h0; have hw' := h0.old; have hcc := cellsBelow hw'; go_simp; (try go_bits); exact ⟨rfl, rfl⟩); simp only [Act.put, List.setIfInBounds_toArray, List.set_cons_zero, List.set_cons_succ]
  apply lxE0 (α := Option Addr × Nat) (fun x => .tuple #[.agg #[.slice x.1 (digs B32 q).length x.2], .int .u32 (r : Int)]) (fun x => [fun w => NatV w (.agg #[.slice x.1 (digs B32 q).length x.2]) q]) (wants0 rfl)
  · intro w' h0 hK; go_simp; (try go_bits); refine (HDS.out w' (hB4.old.trans (hK.old.mono hB4.old.size))).mono ?_; rintro e w5 ⟨x, rfl, hx, hb⟩; obtain ⟨p5, c5, rfl, _⟩ := hx.dig; exact ⟨_, rfl, p5, c5, rfl, hb, fun w6 h6 => hx.below h6⟩
  rintro ⟨p5, c5⟩
  simp only [Act.put, List.setIfInBounds_toArray, List.set_cons_zero, List.set_cons_succ]
  apply lxF0 (wants0 rfl); (· intro w' h0; have hw' := h0.old; have hcc := cellsBelow hw'; go_simp; (try go_bits); exact ⟨rfl, rfl⟩); simp only [Act.put, List.setIfInBounds_toArray, List.set_cons_zero, List.set_cons_succ]
  apply lxF0 (wants0 rfl); (· intro w' h0; have hw' := h0.old; have hcc := cellsBelow hw'; go_simp; (try go_bits); exact ⟨rfl, rfl⟩); simp only [Act.put, List.setIfInBounds_toArray, List.set_cons_zero, List.set_cons_succ]
  apply lxF0 (wants0 rfl); (· intro w' h0; have hw' := h0.old; have hcc := cellsBelow hw'; go_simp; (try go_bits); exact ⟨rfl, rfl⟩); simp only [Act.put, List.setIfInBounds_toArray, List.set_cons_zero, List.set_cons_succ]
  apply lxA0 (.cells #[.slice none 0 0] 27) (wants0 rfl)
  · intro w' h0; go_simp; rfl
  intro R11
  simp only [mkOf, Act.put, List.setIfInBounds_toArray, List.set_cons_zero, List.set_cons_succ]
  apply lxS0 [Has 0 R11 (.cells #[.slice p5 (digs B32 q).length c5] 27), fun w => NatV w (.agg #[.slice p5 (digs B32 q).length c5]) q] (wants0 rfl)
  · intro w' h0 hK; have hR := hK.get (F := Has W4.heap.size R11 (.cells #[.slice none 0 0] 27)) (by repeat (first | exact List.mem_cons_self .. | apply List.mem_cons_of_mem)); have hN := hK.get (F := fun w => NatV w (.agg #[.slice p5 (digs B32 q).length c5]) q) (by repeat (first | exact List.mem_cons_self .. | apply List.mem_cons_of_mem)); have c1 := hasCell hR; have f1 := hasFree hR; go_simp; exact ⟨rfl, ks_set h0 hR.1 _ all0, ks_set hK hR.1 _ (all1 (fun w2 hb => has_set hR _ hb) (all1 (fun w2 hb => nat_set hN hR _ hb) all0))⟩
  simp only [Act.put]
  apply lxF0 (wants0 rfl); (· intro w' h0; have hw' := h0.old; have hcc := cellsBelow hw'; go_simp; (try go_bits); exact ⟨rfl, rfl⟩); simp only [Act.put, List.setIfInBounds_toArray, List.set_cons_zero, List.set_cons_succ]
  refine lxEnd (fun W5 hK5 => ?_)
  have hB5 := hB4.below hK5.old
  have hK : KS w [Has 0 R11 (.cells #[.slice p5 (digs B32 q).length c5] 27), fun w => NatV w (.agg #[.slice p5 (digs B32 q).length c5]) q, Has 0 (w.heap.size + 1 + 1) (.cells #[.slice none 0 0] 27), Has 0 (w.heap.size + 1 + 1 + 1) (.cells #[.slice none 0 0] 27)] W5 :=
    ⟨hB5.old, all1 (hK5.all _ (by repeat (first | exact List.mem_cons_self .. | apply List.mem_cons_of_mem))) (all1 (hK5.all _ (by repeat (first | exact List.mem_cons_self .. | apply List.mem_cons_of_mem))) (all1 (fun w2 hb => Has.below ⟨Nat.zero_le _, hB5.k2⟩ hb) (all1 (fun w2 hb => Has.below ⟨Nat.zero_le _, hB5.k3⟩ hb) all0)))⟩
  go_upto_region 11 with (fail)
  refine wp_region_float (w) _ [1, 0, 0, 2, 4, 4, 0] (by kernel_rfl) (by kernel_rfl) (by kernel_rfl) (by kernel_rfl) (KS.drew hK) ?_
  apply lxR0 (wants0 rfl); (· intro w' h0 hK; have hw' := hK.old; have c11 := hasCell (hK.get (F := Has 0 R11 (.cells #[.slice p5 (digs B32 q).length c5] 27)) (by repeat (first | exact List.mem_cons_self .. | apply List.mem_cons_of_mem))); go_simp; (try go_bits); exact ⟨rfl, rfl⟩); simp only [Act.put, List.setIfInBounds_toArray, List.set_cons_zero, List.set_cons_succ]
  apply lxF0 (wants0 rfl); (· intro w' h0; have hw' := h0.old; go_simp; (try go_bits); exact ⟨rfl, rfl⟩); simp only [Act.put, List.setIfInBounds_toArray, List.set_cons_zero, List.set_cons_succ]
  apply lxF0 (wants0 rfl); (· intro w' h0; have hw' := h0.old; go_simp; (try go_bits); exact ⟨rfl, rfl⟩); simp only [Act.put, List.setIfInBounds_toArray, List.set_cons_zero, List.set_cons_succ]
  apply lxE0 (α := Option Addr × Nat) (fun x => .agg #[.slice x.1 (digs B32 r).length x.2]) (fun x => [fun w => NatV w (.agg #[.slice x.1 (digs B32 r).length x.2]) r]) (wants0 rfl)
  · intro w' h0 hK; go_simp; (try go_bits); refine (HO2.out w').mono ?_; rintro e w5 ⟨x, rfl, hx, hb⟩; obtain ⟨p6, c6, rfl, _⟩ := hx.dig; exact ⟨_, rfl, p6, c6, rfl, hb, fun w6 h6 => hx.below h6⟩
  rintro ⟨p6, c6⟩
  simp only [Act.put, List.setIfInBounds_toArray, List.set_cons_zero, List.set_cons_succ]
  apply lxS0 [Has 0 (w.heap.size + 1 + 1) (.cells #[.slice p5 (digs B32 q).length c5] 27), Has 0 (w.heap.size + 1 + 1 + 1) (.cells #[.slice none 0 0] 27), fun w => NatV w (.agg #[.slice p5 (digs B32 q).length c5]) q, fun w => NatV w (.agg #[.slice p6 (digs B32 r).length c6]) r] (wants0 rfl)
  · intro w' h0 hK; have hR := hK.get (F := Has 0 (w.heap.size + 1 + 1) (.cells #[.slice none 0 0] 27)) (by repeat (first | exact List.mem_cons_self .. | apply List.mem_cons_of_mem)); have hR' := hK.get (F := Has 0 (w.heap.size + 1 + 1 + 1) (.cells #[.slice none 0 0] 27)) (by repeat (first | exact List.mem_cons_self .. | apply List.mem_cons_of_mem)); have hN := hK.get (F := fun w => NatV w (.agg #[.slice p5 (digs B32 q).length c5]) q) (by repeat (first | exact List.mem_cons_self .. | apply List.mem_cons_of_mem)); have hN' := hK.get (F := fun w => NatV w (.agg #[.slice p6 (digs B32 r).length c6]) r) (by repeat (first | exact List.mem_cons_self .. | apply List.mem_cons_of_mem)); have c1 := hasCell hR; have f1 := hasFree hR; go_simp; exact ⟨rfl, ks_set h0 (by omega) _ all0, ks_set hK (by omega) _ (all1 (fun w2 hb => has_set hR _ hb) (all1 (fun w2 hb => has_far hR' (by omega) _ hb) (all1 (fun w2 hb => nat_set hN hR _ hb) (all1 (fun w2 hb => nat_set hN' hR _ hb) all0))))⟩
  simp only [Act.put]
  apply lxS0 [Has 0 (w.heap.size + 1 + 1) (.cells #[.slice p5 (digs B32 q).length c5] 27), Has 0 (w.heap.size + 1 + 1 + 1) (.cells #[.slice p6 (digs B32 r).length c6] 27), fun w => NatV w (.agg #[.slice p5 (digs B32 q).length c5]) q, fun w => NatV w (.agg #[.slice p6 (digs B32 r).length c6]) r] (wants0 rfl)
  · intro w' h0 hK; have hR := hK.get (F := Has 0 (w.heap.size + 1 + 1 + 1) (.cells #[.slice none 0 0] 27)) (by repeat (first | exact List.mem_cons_self .. | apply List.mem_cons_of_mem)); have hR' := hK.get (F := Has 0 (w.heap.size + 1 + 1) (.cells #[.slice p5 (digs B32 q).length c5] 27)) (by repeat (first | exact List.mem_cons_self .. | apply List.mem_cons_of_mem)); have hN := hK.get (F := fun w => NatV w (.agg #[.slice p5 (digs B32 q).length c5]) q) (by repeat (first | exact List.mem_cons_self .. | apply List.mem_cons_of_mem)); have hN' := hK.get (F := fun w => NatV w (.agg #[.slice p6 (digs B32 r).length c6]) r) (by repeat (first | exact List.mem_cons_self .. | apply List.mem_cons_of_mem)); have c1 := hasCell hR; have f1 := hasFree hR; go_simp; exact ⟨rfl, ks_set h0 (by omega) _ all0, ks_set hK (by omega) _ (all1 (fun w2 hb => has_far hR' (by omega) _ hb) (all1 (fun w2 hb => has_set hR _ hb) (all1 (fun w2 hb => nat_set hN hR _ hb) (all1 (fun w2 hb => nat_set hN' hR _ hb) all0))))⟩
  simp only [Act.put]
  apply lxF0 (wants0 rfl); (· intro w' h0; have hw' := h0.old; go_simp; (try go_bits); exact ⟨rfl, rfl⟩); simp only [Act.put, List.setIfInBounds_toArray, List.set_cons_zero, List.set_cons_succ]
  refine lxEnd (fun W9 hK9 => ?_)
  have k2 := hasCell (hK9.get (F := Has 0 (w.heap.size + 1 + 1) (.cells #[.slice p5 (digs B32 q).length c5] 27)) (by repeat (first | exact List.mem_cons_self .. | apply List.mem_cons_of_mem)))
  have k3 := hasCell (hK9.get (F := Has 0 (w.heap.size + 1 + 1 + 1) (.cells #[.slice p6 (digs B32 r).length c6] 27)) (by repeat (first | exact List.mem_cons_self .. | apply List.mem_cons_of_mem)))
  have hx := hK9.get (F := fun w => NatV w (.agg #[.slice p5 (digs B32 q).length c5]) q) (by repeat (first | exact List.mem_cons_self .. | apply List.mem_cons_of_mem))
  have hy := hK9.get (F := fun w => NatV w (.agg #[.slice p6 (digs B32 r).length c6]) r) (by repeat (first | exact List.mem_cons_self .. | apply List.mem_cons_of_mem))
  go_wp2
  exact bodyPost_ret (v := .tuple #[.agg #[.slice p5 (digs B32 q).length c5], .agg #[.slice p6 (digs B32 r).length c6], .int .i64 0]) (by simp [results, Tryz.results53, go_sem, k2, k3]) rfl ⟨_, _, rfl, hx, hy, hK9.old⟩
set_option maxRecDepth 100000 in
set_option maxHeartbeats 4000000 in
theorem divmod_long (v u : Value) (n m : Nat) (w : World) (hv : NatV w v n) (hu : NatV w u m) (hm1 : 4294967296 ≤ m) (hle : m ≤ n) (hn : 18446744073709551616 ≤ n) (hl : (digs B32 n).length ≤ 100000) :
    Calls Tryz.prog 53 #[v, u] w fun e w' => ∃ x y, e = .returned (.tuple #[x, y, .int .i64 0]) ∧ NatV w' x (n / m) ∧ NatV w' y (n % m) ∧ Below w.heap.size w w' := by
  have hm : m ≠ 0 := by omega
  have hlm : (digs B32 m).length ≤ (digs B32 n).length := digs_mono hle
  have hl2 : 2 ≤ (digs B32 m).length := digs_len_ge b32_2 1 m (by rw [b32]; omega)
  have HZ := hid (fun w1 (hb : Below w.heap.size w w1) => isZero_any u m w1 (hu.below hb))
  have HC := hid (fun w1 (hb : Below w.heap.size w w1) => cmp_any v u n m w1 (hv.below hb) (hu.below hb) (by omega) (by omega))
  have HU := hid (fun w1 (hb : Below w.heap.size w w1) => uint64_any v n w1 (hv.below hb))
  have HU' := hid (fun w1 (hb : Below w.heap.size w w1) => uint64_any u m w1 (hu.below hb))
  rw [show (m == 0) = false by simpa using hm] at HZ
  rw [show u64V n = .tuple #[.int .u64 0, .bool false] by unfold u64V; rw [if_neg (by omega), decide_eq_false (by omega)]] at HU
  have hcn : ¬ cmpN n m < 0 := by unfold cmpN; rw [if_neg (by omega)]; split <;> omega
  obtain ⟨P, c, rfl, hp⟩ := hv.digp
  obtain ⟨Q, c', rfl, hq⟩ := hu.digp
  have HDL := hid (fun w1 (hb : Below w.heap.size w w1) => long_core P Q c c' (digs B32 n) (digs B32 m) w1 (hp.below hb) (hq.below hb) (digs_lt b32_2 n) (digs_lt b32_2 m) hl2 hlm hl (fun k hk hk1 h0 => by
    have h3 := val_top (B := B32) (show (digs B32 m).length = k + 1 by omega)
    rw [val_digs b32_2, h0, Nat.mul_zero, Nat.add_zero] at h3
    have h4 := take_lt b32_2 (digs_lt b32_2 m) (k := k) (by omega)
    rw [← h3] at h4
    have := digs_len_le b32_2 k m h4
    omega))
  rw [val_digs b32_2, val_digs b32_2] at HDL
  unfold u64V at HU'
  obtain ⟨m64, hm64⟩ : ∃ m64 : Int, (if m < 18446744073709551616 then (m : Int) else 0) = m64 := ⟨_, rfl⟩
  obtain ⟨bm, hbm⟩ : ∃ bm, decide (m < 18446744073709551616) = bm := ⟨_, rfl⟩
  rw [hm64, hbm] at HU'
  obtain ⟨cm, hcm⟩ : ∃ cm, cmpN n m = cm := ⟨_, rfl⟩
  rw [hcm] at hcn HC
  obtain ⟨ln, hlne⟩ : ∃ ln, (digs B32 n).length = ln := ⟨_, rfl⟩
  obtain ⟨lm, hlme⟩ : ∃ lm, (digs B32 m).length = lm := ⟨_, rfl⟩
  rw [hlne, hlme] at HC HDL
  rw [hlne] at HU ⊢
  rw [hlme] at HZ HU' hl2 ⊢
  obtain ⟨q, hqe⟩ : ∃ q, n / m = q := ⟨_, rfl⟩
  obtain ⟨r, hre⟩ : ∃ r, n % m = r := ⟨_, rfl⟩
  rw [hqe, hre] at HDL ⊢
  have hl1 : ((lm : Int) == 1) = false := by rw [beq_eq_false_iff_ne]; omega
  clear hp hq hv hu hlm hcm hlne hlme hqe hre hl hn hm hm1 hle hm64 hbm
  go_enter Tryz.func53, Tryz.ntmps53
  go_upto_region 1 with (fail)
  obtain ⟨W0, hW0, hB0⟩ := box4_head (.slice P ln c) (.slice Q lm c') w
  rw [← hW0]
  clear hW0
  have a1 := cell_box1 hB0.k1
  go_upto_region 3 with (go_at_call 29; refine (HZ.out _ hB0.old).mono ?_; clear HZ; rintro e W1 ⟨rfl, hw1⟩; have hB1 := hB0.below hw1)
  clear hB0 hw1 a1
  have a0 := cell_box1 hB1.k0
  have a1 := cell_box1 hB1.k1
  go_upto_region 5 with (go_at_call 32; refine (HC.out _ hB1.old).mono ?_; clear HC; rintro e W2 ⟨rfl, hw2⟩; have hB2 := hB1.below hw2)
  clear hB1 hw2 a0 a1
  have a0 := cell_box1 hB2.k0
  go_upto_region 6 with (go_at_call 67; refine (HU.out _ hB2.old).mono ?_; clear HU; rintro e W3 ⟨rfl, hw3⟩; have hB3 := hB2.below hw3)
  clear hB2 hw3 a0
  have a1 := cell_box1 hB3.k1
  go_upto_region 9 with (go_at_call 67; refine (HU'.out _ hB3.old).mono ?_; clear HU'; rintro e W4 ⟨rfl, hw4⟩; have hB4 := hB3.below hw4)
  clear hB3 hw4 a1
  have a0 := cell_box1 hB4.k0
  have a1 := cell_box1 hB4.k1
  go_upto_region 13 with (go_at_call 68; refine (HDL.out _ hB4.old).mono ?_; clear HDL; rintro e W5 ⟨x, y, rfl, hx, hy, hw5⟩; have hB5 := hB4.below hw5; obtain ⟨p5, c5, rfl, _⟩ := hx.dig; obtain ⟨p6, c6, rfl, _⟩ := hy.dig)
  obtain ⟨V3, hVV, hK0, hK⟩ : ∃ VV, VV = (W5.alloc (.cells #[.slice p5 (digs B32 q).length c5] 27)).alloc (.cells #[.slice p6 (digs B32 r).length c6] 27) ∧ KS w [Has 0 W5.heap.size (.cells #[.slice p5 (digs B32 q).length c5] 27), Has 0 (W5.heap.size + 1) (.cells #[.slice p6 (digs B32 r).length c6] 27)] VV ∧ KS w [Has 0 (w.heap.size + 1 + 1) (.cells #[.slice none 0 0] 27), Has 0 (w.heap.size + 1 + 1 + 1) (.cells #[.slice none 0 0] 27), fun w => NatV w (.agg #[.slice p5 (digs B32 q).length c5]) q, fun w => NatV w (.agg #[.slice p6 (digs B32 r).length c6]) r] VV := by
    have g1 := (Below.refl W5.heap.size W5).alloc (Nat.le_refl _) (.cells #[.slice p5 (digs B32 q).length c5] 27)
    have g2 := g1.alloc (by simp) (.cells #[.slice p6 (digs B32 r).length c6] 27)
    have g3 := heap_new (W5.alloc (.cells #[.slice p5 (digs B32 q).length c5] 27)) (.cells #[.slice p6 (digs B32 r).length c6] 27)
    rw [World.size_alloc] at g3
    have g4 := (Below.heap_alloc (W5.alloc (.cells #[.slice p5 (digs B32 q).length c5] 27)) (.cells #[.slice p6 (digs B32 r).length c6] 27) W5.heap.size (by simp)).trans (heap_new W5 _)
    have hB6 := hB5.below g2
    exact ⟨_, rfl, ⟨hB6.old, all1 (fun w2 hb => Has.below ⟨Nat.zero_le _, g4⟩ hb) (all1 (fun w2 hb => Has.below ⟨Nat.zero_le _, g3⟩ hb) all0)⟩, ⟨hB6.old, all1 (fun w2 hb => Has.below ⟨Nat.zero_le _, hB6.k2⟩ hb) (all1 (fun w2 hb => Has.below ⟨Nat.zero_le _, hB6.k3⟩ hb) (all1 (fun w2 hb => (hx.below g2).below hb) (all1 (fun w2 hb => (hy.below g2).below hb) all0)))⟩⟩
  have hs5 := hB5.sz
  rw [← hVV]
  clear hVV hx hy hB4 hB5 hw5 a0 a1
  generalize W5.heap.size = R13 at hK0 hs5 ⊢
  refine wp_region_float0 (w) [_, _] _ [0, 0, 4, 4, 0] (by kernel_rfl) (by kernel_rfl) (by kernel_rfl) (by kernel_rfl) (KS.drew hK0) (KS.drew hK) ?_
  apply lxF0 (wants0 rfl); (· intro w' h0; have hw' := h0.old; have c13 := hasCell (h0.get (F := Has 0 R13 (.cells #[.slice p5 (digs B32 q).length c5] 27)) (by repeat (first | exact List.mem_cons_self .. | apply List.mem_cons_of_mem))); have c14 := hasCell (h0.get (F := Has 0 (R13 + 1) (.cells #[.slice p6 (digs B32 r).length c6] 27)) (by repeat (first | exact List.mem_cons_self .. | apply List.mem_cons_of_mem))); go_simp; (try go_bits); exact ⟨rfl, rfl⟩); simp only [Act.put, List.setIfInBounds_toArray, List.set_cons_zero, List.set_cons_succ]
  apply lxF0 (wants0 rfl); (· intro w' h0; have hw' := h0.old; have c13 := hasCell (h0.get (F := Has 0 R13 (.cells #[.slice p5 (digs B32 q).length c5] 27)) (by repeat (first | exact List.mem_cons_self .. | apply List.mem_cons_of_mem))); have c14 := hasCell (h0.get (F := Has 0 (R13 + 1) (.cells #[.slice p6 (digs B32 r).length c6] 27)) (by repeat (first | exact List.mem_cons_self .. | apply List.mem_cons_of_mem))); go_simp; (try go_bits); exact ⟨rfl, rfl⟩); simp only [Act.put, List.setIfInBounds_toArray, List.set_cons_zero, List.set_cons_succ]
  apply lxS0 [Has 0 (w.heap.size + 1 + 1) (.cells #[.slice p5 (digs B32 q).length c5] 27), Has 0 (w.heap.size + 1 + 1 + 1) (.cells #[.slice none 0 0] 27), fun w => NatV w (.agg #[.slice p5 (digs B32 q).length c5]) q, fun w => NatV w (.agg #[.slice p6 (digs B32 r).length c6]) r] (wants0 rfl)
  · intro w' h0 hK; have g13 := h0.get (F := Has 0 R13 (.cells #[.slice p5 (digs B32 q).length c5] 27)) (by repeat (first | exact List.mem_cons_self .. | apply List.mem_cons_of_mem)); have g14 := h0.get (F := Has 0 (R13 + 1) (.cells #[.slice p6 (digs B32 r).length c6] 27)) (by repeat (first | exact List.mem_cons_self .. | apply List.mem_cons_of_mem)); have hR := hK.get (F := Has 0 (w.heap.size + 1 + 1) (.cells #[.slice none 0 0] 27)) (by repeat (first | exact List.mem_cons_self .. | apply List.mem_cons_of_mem)); have hR' := hK.get (F := Has 0 (w.heap.size + 1 + 1 + 1) (.cells #[.slice none 0 0] 27)) (by repeat (first | exact List.mem_cons_self .. | apply List.mem_cons_of_mem)); have hN := hK.get (F := fun w => NatV w (.agg #[.slice p5 (digs B32 q).length c5]) q) (by repeat (first | exact List.mem_cons_self .. | apply List.mem_cons_of_mem)); have hN' := hK.get (F := fun w => NatV w (.agg #[.slice p6 (digs B32 r).length c6]) r) (by repeat (first | exact List.mem_cons_self .. | apply List.mem_cons_of_mem)); have c1 := hasCell hR; have f1 := hasFree hR; go_simp; exact ⟨rfl, ks_set h0 (by omega) _ (all1 (fun w2 hb => has_far g13 (by omega) _ hb) (all1 (fun w2 hb => has_far g14 (by omega) _ hb) all0)), ks_set hK (by omega) _ (all1 (fun w2 hb => has_set hR _ hb) (all1 (fun w2 hb => has_far hR' (by omega) _ hb) (all1 (fun w2 hb => nat_set hN hR _ hb) (all1 (fun w2 hb => nat_set hN' hR _ hb) all0))))⟩
  simp only [Act.put]
  apply lxS0 [Has 0 (w.heap.size + 1 + 1) (.cells #[.slice p5 (digs B32 q).length c5] 27), Has 0 (w.heap.size + 1 + 1 + 1) (.cells #[.slice p6 (digs B32 r).length c6] 27), fun w => NatV w (.agg #[.slice p5 (digs B32 q).length c5]) q, fun w => NatV w (.agg #[.slice p6 (digs B32 r).length c6]) r] (wants0 rfl)
  · intro w' h0 hK; have g13 := h0.get (F := Has 0 R13 (.cells #[.slice p5 (digs B32 q).length c5] 27)) (by repeat (first | exact List.mem_cons_self .. | apply List.mem_cons_of_mem)); have g14 := h0.get (F := Has 0 (R13 + 1) (.cells #[.slice p6 (digs B32 r).length c6] 27)) (by repeat (first | exact List.mem_cons_self .. | apply List.mem_cons_of_mem)); have hR := hK.get (F := Has 0 (w.heap.size + 1 + 1 + 1) (.cells #[.slice none 0 0] 27)) (by repeat (first | exact List.mem_cons_self .. | apply List.mem_cons_of_mem)); have hR' := hK.get (F := Has 0 (w.heap.size + 1 + 1) (.cells #[.slice p5 (digs B32 q).length c5] 27)) (by repeat (first | exact List.mem_cons_self .. | apply List.mem_cons_of_mem)); have hN := hK.get (F := fun w => NatV w (.agg #[.slice p5 (digs B32 q).length c5]) q) (by repeat (first | exact List.mem_cons_self .. | apply List.mem_cons_of_mem)); have hN' := hK.get (F := fun w => NatV w (.agg #[.slice p6 (digs B32 r).length c6]) r) (by repeat (first | exact List.mem_cons_self .. | apply List.mem_cons_of_mem)); have c1 := hasCell hR; have f1 := hasFree hR; go_simp; exact ⟨rfl, ks_set h0 (by omega) _ (all1 (fun w2 hb => has_far g13 (by omega) _ hb) (all1 (fun w2 hb => has_far g14 (by omega) _ hb) all0)), ks_set hK (by omega) _ (all1 (fun w2 hb => has_far hR' (by omega) _ hb) (all1 (fun w2 hb => has_set hR _ hb) (all1 (fun w2 hb => nat_set hN hR _ hb) (all1 (fun w2 hb => nat_set hN' hR _ hb) all0))))⟩
  simp only [Act.put]
  apply lxF0 (wants0 rfl); (· intro w' h0; have hw' := h0.old; have c13 := hasCell (h0.get (F := Has 0 R13 (.cells #[.slice p5 (digs B32 q).length c5] 27)) (by repeat (first | exact List.mem_cons_self .. | apply List.mem_cons_of_mem))); have c14 := hasCell (h0.get (F := Has 0 (R13 + 1) (.cells #[.slice p6 (digs B32 r).length c6] 27)) (by repeat (first | exact List.mem_cons_self .. | apply List.mem_cons_of_mem))); go_simp; (try go_bits); exact ⟨rfl, rfl⟩); simp only [Act.put, List.setIfInBounds_toArray, List.set_cons_zero, List.set_cons_succ]
  refine lxEnd (fun W9 hK9 => ?_)
  have k2 := hasCell (hK9.get (F := Has 0 (w.heap.size + 1 + 1) (.cells #[.slice p5 (digs B32 q).length c5] 27)) (by repeat (first | exact List.mem_cons_self .. | apply List.mem_cons_of_mem)))
  have k3 := hasCell (hK9.get (F := Has 0 (w.heap.size + 1 + 1 + 1) (.cells #[.slice p6 (digs B32 r).length c6] 27)) (by repeat (first | exact List.mem_cons_self .. | apply List.mem_cons_of_mem)))
  have hx := hK9.get (F := fun w => NatV w (.agg #[.slice p5 (digs B32 q).length c5]) q) (by repeat (first | exact List.mem_cons_self .. | apply List.mem_cons_of_mem))
  have hy := hK9.get (F := fun w => NatV w (.agg #[.slice p6 (digs B32 r).length c6]) r) (by repeat (first | exact List.mem_cons_self .. | apply List.mem_cons_of_mem))
  go_wp2
  exact bodyPost_ret (v := .tuple #[.agg #[.slice p5 (digs B32 q).length c5], .agg #[.slice p6 (digs B32 r).length c6], .int .i64 0]) (by simp [results, Tryz.results53, go_sem, k2, k3]) rfl ⟨_, _, rfl, hx, hy, hK9.old⟩
end Go.Proofs.YtjhgkojbpgakcaaGreatDoor
namespace Go.Proofs.YtjhgkojbpgakcaaGreatDoor
open Go.RowKit
theorem divmod_any (v u : Value) (n m : Nat) (w : World) (hv : NatV w v n) (hu : NatV w u m) (hm : m ≠ 0) (hl : (digs B32 n).length ≤ 100000) (hl2 : (digs B32 m).length ≤ 100000) :
    Calls Tryz.prog 53 #[v, u] w fun e w' => ∃ x y, e = .returned (.tuple #[x, y, .int .i64 0]) ∧ NatV w' x (n / m) ∧ NatV w' y (n % m) ∧ Below w.heap.size w w' := by
  by_cases h1 : n < m
  · exact divmod_lt v u n m w hv hu h1 (by omega) (by omega)
  · by_cases h2 : n < 18446744073709551616
    · exact divmod_64 v u n m w hv hu hm (by omega) h2
    · by_cases h3 : m < 4294967296
      · exact divmod_small v u n m w hv hu hm h3 (by omega) hl
      · exact divmod_long v u n m w hv hu (by omega) (by omega) (by omega) hl
end Go.Proofs.YtjhgkojbpgakcaaGreatDoor
