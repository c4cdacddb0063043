/- The laws NatProducts and NatSums. -/
import Derived.Test.YtepljhpamconbaaDoorNatT
import Derived.Test.YtepljhpamconbaaDoorNatRI
import Derived.Test.YtepljhpamconbaaDoorNatRJ
import Derived.Test.YtepljhpamconbaaDoorNatRK
import Derived.Test.YtepljhpamconbaaDoorFloat
namespace Go.Proofs.YtepljhpamconbaaDoor
open Go.RowKit
open Go.Lib (decDigits)

/-- A box that was just made. -/
theorem KS.box {V w : World} {fs : List (World → Prop)} (h : KS V fs w) (obj : Obj) : KS V (Has 0 w.heap.size obj :: fs) (w.alloc obj) :=
  (h.step ((Below.refl _ _).alloc (Nat.le_refl _) obj)).add fun _ hb => Has.below ⟨Nat.zero_le _, heap_new w obj⟩ hb
theorem Has.lt {base R : Nat} {obj : Obj} {w : World} (h : Has base R obj w) : R < w.heap.size := (Array.getElem?_eq_some_iff.1 h.2).1
theorem Has.cell {base R : Nat} {w : World} {c : Value} {t : TypeId} (h : Has base R (.cells #[c] t) w) : w.cell? ⟨R, 0, none⟩ = some c := cell_box1 h.2
theorem Has.free {base R : Nat} {w : World} {c : Value} {t : TypeId} (h : Has base R (.cells #[c] t) w) : ∀ o, w.frozen? ⟨R, o, none⟩ = false := free_box1 h.2
theorem is_yes (v u : Value) (n m : Nat) (w : World) (hv : NatV w v n) (hu : RefV w u m) (ht : Tab w) (h1 : Lim n) (h : n = m) :
    Calls Tryd.prog 16 #[v, u] w fun e w' => e = .returned (.bool true) ∧ Below w.heap.size w w' := by
  subst h
  have := is_any v u n n w hv hu ht h1 h1
  rwa [decide_eq_true rfl] at this
/-- Limits of sums and products. -/
def Lm (k n : Nat) : Prop := n < B32 ^ k
theorem Lm.lim {k n : Nat} (h : Lm k n) (hk : k ≤ 200) : Lim n := lim_of h hk
theorem Lm.add {a b n m : Nat} (h1 : Lm a n) (h2 : Lm b m) : Lm (max a b + 1) (n + m) := by
  unfold Lm at *
  have e1 : B32 ^ a ≤ B32 ^ (max a b) := Nat.pow_le_pow_right (by decide) (by omega)
  have e2 : B32 ^ b ≤ B32 ^ (max a b) := Nat.pow_le_pow_right (by decide) (by omega)
  rw [Nat.pow_succ, b32]
  rw [b32] at h1 h2 e1 e2
  omega
theorem Lm.mul {a b n m : Nat} (h1 : Lm a n) (h2 : Lm b m) : Lm (a + b) (n * m) := by
  unfold Lm at *
  rw [Nat.pow_add]
  exact Nat.mul_lt_mul'' h1 h2
theorem Lm.sub {a n m : Nat} (h1 : Lm a n) : Lm a (n - m) := Nat.lt_of_le_of_lt (Nat.sub_le _ _) h1
theorem rsub_any (v u : Value) (n m : Nat) (w : World) (hv : RefV w v n) (hu : RefV w u m) (h1 : (digs B6 n).length ≤ 900000) (h2 : (digs B6 m).length ≤ 900000) :
    Calls Tryd.prog 34 #[v, u] w fun e w' => ∃ x, e = .returned (.tuple #[x, .int .i64 (if n < m then 2 else 0)]) ∧ RefV w' x (n - m) ∧ Below w.heap.size w w' := by
  by_cases hlt : n < m
  · rw [if_pos hlt]
    refine (rsub_err v u n m w hv hu h1 h2 hlt).mono fun e w' ⟨h1, h2⟩ => ⟨_, h1, ?_, h2⟩
    rw [Nat.sub_eq_zero_of_le (by omega)]; exact .inl ⟨digs_zero, _, _, rfl⟩
  · rw [if_neg hlt]
    exact rsub_ok v u n m w hv hu h1 h2 (by omega)

set_option maxRecDepth 100000 in
set_option maxHeartbeats 4000000 in
theorem natProducts_walk (v u : Value) (ds es : List Nat) (w : World) (hv : InV w v ds) (hu : InV w u es) (hd : ∀ d ∈ ds, d < B32) (he : ∀ d ∈ es, d < B32) (ht : Tab w) :
    Calls Tryd.prog 5 #[v, u] w fun e w' => e = .returned (.bool true) ∧ Below w.heap.size w w' := by
  obtain ⟨p, c, rfl, _⟩ := hv.slice
  obtain ⟨q, c', rfl, _⟩ := hu.slice
  have HA := hid (awake_any w ht)
  have HS := hid (fun w1 => small_any p q ds.length es.length c c' w1)
  by_cases hl : ds.length ≤ 12 ∧ es.length ≤ 12
  · rw [decide_eq_true hl] at HS
    have hL : Lm 12 (val B32 ds) := Nat.lt_of_lt_of_le (val_lt b32_2 hd) (Nat.pow_le_pow_right (by decide) hl.1)
    have hM : Lm 12 (val B32 es) := Nat.lt_of_lt_of_le (val_lt b32_2 he) (Nat.pow_le_pow_right (by decide) hl.2)
    have HN1 := hid (fun w1 (hb : Below w.heap.size w w1) => number_any _ ds w1 (hv.below hb) hd hl.1)
    have HN2 := hid (fun w1 (hb : Below w.heap.size w w1) => number_any _ es w1 (hu.below hb) he hl.2)
    obtain ⟨n, hn⟩ : ∃ n, val B32 ds = n := ⟨_, rfl⟩
    obtain ⟨m, hm⟩ : ∃ m, val B32 es = m := ⟨_, rfl⟩
    rw [hn] at HN1 hL
    rw [hm] at HN2 hM
    have hK := (KS.start w).add (F := fun w => Tab w) fun w' hb => ht.below hb
    have HL1 := hid (hL.lim (by omega))
    have HL2 := hid (hM.lim (by omega))
    have HL3 := hid ((hL.mul hM).lim (by omega))
    clear hn hm hd he hv hu ht hL hM
    go_enter Tryd.func5, Tryd.ntmps5
    go_upto_region 5 with (first
      | (go_at_call 11; refine HA.out.mono ?_; clear HA; rintro e W1 ⟨rfl, hb1⟩; replace hK := hK.step hb1; clear hb1)
      | (go_at_call 12; refine (HS.out _).mono ?_; clear HS; rintro e W2 ⟨rfl, rfl⟩))
    go_upto_region 6 with (go_at_call 13; refine (HN1.out _ hK.old).mono ?_; clear HN1; rintro e W3 ⟨x, y1, rfl, hx, hy, hw⟩; obtain ⟨p1, c1, rfl, _⟩ := hx.dig; replace hK := ((hK.step hw).add (F := fun w => NatV w (.agg #[.slice p1 (digs B32 n).length c1]) n) fun w' h => hx.below h).add (F := fun w => RefV w y1 n) fun w' h => hy.below h; clear hx hy hw)
    obtain ⟨V1, hV1, hKV⟩ : ∃ V1, V1 = W3.alloc (.cells #[.slice p1 (digs B32 n).length c1] 26) ∧ KS w _ V1 := ⟨_, rfl, hK.box _⟩
    rw [← hV1]
    clear hV1 hK
    have hK := hKV
    clear hKV
    generalize W3.heap.size = R1 at hK ⊢
    go_upto_region 7 with (go_at_call 13; refine (HN2.out _ hK.old).mono ?_; clear HN2; rintro e W4 ⟨x, y2, rfl, hx, hy, hw⟩; obtain ⟨p2, c2, rfl, _⟩ := hx.dig; replace hK := ((hK.step hw).add (F := fun w => NatV w (.agg #[.slice p2 (digs B32 m).length c2]) m) fun w' h => hx.below h).add (F := fun w => RefV w y2 m) fun w' h => hy.below h; clear hx hy hw)
    obtain ⟨V2, hV2, hKV⟩ : ∃ V2, V2 = W4.alloc (.cells #[.slice p2 (digs B32 m).length c2] 26) ∧ KS w _ V2 := ⟨_, rfl, hK.box _⟩
    rw [← hV2]
    clear hV2 hK
    have hK := hKV
    clear hKV
    generalize W4.heap.size = R2 at hK ⊢
    have kA := hK.get (F := Has 0 R1 (.cells #[.slice p1 (digs B32 n).length c1] 26)) (by repeat (first | exact List.mem_cons_self .. | apply List.mem_cons_of_mem))
    have kB := hK.get (F := Has 0 R2 (.cells #[.slice p2 (digs B32 m).length c2] 26)) (by repeat (first | exact List.mem_cons_self .. | apply List.mem_cons_of_mem))
    have d0 := kA.cell
    have d1 := kB.cell
    have b0 := kA.lt
    have b1 := kB.lt
    refine wp_region_ftext (V2) _ [0, 0, 2, 0, 0, 2, 1, 0] hK.re ?_
    apply lxF0 (wants0 rfl); (· intro w' h0; have hw' := h0.old; have hcc := cellsBelow hw'; go_simp; (try go_bits); exact ⟨rfl, rfl⟩); simp only [Act.put, List.setIfInBounds_toArray, List.set_cons_zero, List.set_cons_succ]
    apply lxF0 (wants0 rfl); (· intro w' h0; have hw' := h0.old; have hcc := cellsBelow hw'; go_simp; (try go_bits); exact ⟨rfl, rfl⟩); simp only [Act.put, List.setIfInBounds_toArray, List.set_cons_zero, List.set_cons_succ]
    apply lxE0 (α := Value) (fun vv => vv) (fun vv => [fun w => NatV w vv (n * m)]) (wants0 rfl)
    · intro w' h0 hK; go_simp; (try go_bits); refine (mul_any _ _ n m w' (hK.get (F := fun w => NatV w _ n) (by repeat (first | exact List.mem_cons_self .. | apply List.mem_cons_of_mem))) (hK.get (F := fun w => NatV w _ m) (by repeat (first | exact List.mem_cons_self .. | apply List.mem_cons_of_mem))) (by have := HL1.out.d32; have := HL2.out.d32; omega)).mono ?_; rintro e w5 ⟨x, rfl, hx, hb⟩; exact ⟨_, rfl, hb, fun w6 h6 => hx.below h6⟩
    intro v27
    simp only [Act.put, List.setIfInBounds_toArray, List.set_cons_zero, List.set_cons_succ]
    apply lxF0 (wants0 rfl); (· intro w' h0; have hw' := h0.old; have hcc := cellsBelow hw'; go_simp; (try go_bits); exact ⟨rfl, rfl⟩); simp only [Act.put, List.setIfInBounds_toArray, List.set_cons_zero, List.set_cons_succ]
    apply lxF0 (wants0 rfl); (· intro w' h0; have hw' := h0.old; have hcc := cellsBelow hw'; go_simp; (try go_bits); exact ⟨rfl, rfl⟩); simp only [Act.put, List.setIfInBounds_toArray, List.set_cons_zero, List.set_cons_succ]
    apply lxE0 (α := Value) (fun vv => vv) (fun vv => [fun w => RefV w vv (n * m)]) (wants0 rfl)
    · intro w' h0 hK; go_simp; (try go_bits); refine (rmul_any _ _ n m w' (hK.get (F := fun w => RefV w _ n) (by repeat (first | exact List.mem_cons_self .. | apply List.mem_cons_of_mem))) (hK.get (F := fun w => RefV w _ m) (by repeat (first | exact List.mem_cons_self .. | apply List.mem_cons_of_mem))) (by have := HL1.out.d6; omega) (by have := HL2.out.d6; omega)).mono ?_; rintro e w5 ⟨x, rfl, hx, hb⟩; exact ⟨_, rfl, hb, fun w6 h6 => hx.below h6⟩
    intro v30
    simp only [Act.put, List.setIfInBounds_toArray, List.set_cons_zero, List.set_cons_succ]
    apply lxH0 (wants0 rfl)
    · intro w' h0 hK; go_simp; (try go_bits); refine (is_yes _ _ (n * m) (n * m) w' (hK.get (F := fun w => NatV w _ (n * m)) (by repeat (first | exact List.mem_cons_self .. | apply List.mem_cons_of_mem))) (hK.get (F := fun w => RefV w _ (n * m)) (by repeat (first | exact List.mem_cons_self .. | apply List.mem_cons_of_mem))) (hK.get (F := fun w => Tab w) (by repeat (first | exact List.mem_cons_self .. | apply List.mem_cons_of_mem))) HL3.out rfl).mono ?_; rintro e w5 ⟨rfl, hb⟩; exact ⟨_, rfl, rfl, hb⟩
    simp only [Act.put, List.setIfInBounds_toArray, List.set_cons_zero, List.set_cons_succ]
    apply lxF0 (wants0 rfl); (· intro w' h0; have hw' := h0.old; have hcc := cellsBelow hw'; go_simp; (try go_bits); exact ⟨rfl, rfl⟩); simp only [Act.put, List.setIfInBounds_toArray, List.set_cons_zero, List.set_cons_succ]
    refine lxEnd (fun W9 hK9 => ?_)
    go_wp2
    go_ret
    exact ⟨rfl, hK.old.trans (hK9.old.mono hK.old.size)⟩
  · rw [decide_eq_false hl] at HS
    go_enter Tryd.func5, Tryd.ntmps5
    go_wp2_with (first
      | (go_at_call 11; refine HA.out.mono ?_; clear HA; rintro e W1 ⟨rfl, hb1⟩)
      | (go_at_call 12; refine (HS.out _).mono ?_; clear HS; rintro e W2 ⟨rfl, rfl⟩))
    go_ret
    exact ⟨rfl, hb1⟩

theorem same_yes (v u : Value) (n m : Nat) (w : World) (hv : NatV w v n) (hu : NatV w u m) (ht : Tab w) (hl : Lim n) (h : n = m) :
    Calls Tryd.prog 37 #[v, u] w fun e w' => e = .returned (.bool true) ∧ Below w.heap.size w w' := by
  subst h
  have HC := hid (fun w1 (hb : Below w.heap.size w w1) => cmp_any v u n n w1 (hv.below hb) (hu.below hb) (by have := hl.d32; omega) (by have := hl.d32; omega))
  rw [cmpN_eq] at HC
  have HT := hid (fun w1 (hb : Below w.heap.size w w1) => text_any v n w1 (hv.below hb) (ht.below hb) (by have := hl.d32; omega))
  have HT' := hid (fun w1 (hb : Below w.heap.size w w1) => text_any u n w1 (hu.below hb) (ht.below hb) (by have := hl.d32; omega))
  obtain ⟨s, hs⟩ : ∃ s : ByteArray, (⟨(decDigits n).toArray⟩ : ByteArray) = s := ⟨_, rfl⟩
  rw [hs] at HT HT'
  obtain ⟨P, c, rfl, hp⟩ := hv.digp
  obtain ⟨Q, c', rfl, hq⟩ := hu.digp
  clear hp hq hv hu ht hl hs
  go_enter Tryd.func37, Tryd.ntmps37
  go_upto_region 1 with (fail)
  obtain ⟨W1, hW1, hsz, kA, kB, hWb⟩ := box2_head (.slice P (digs B32 n).length c) (.slice Q (digs B32 n).length c') 26 26 w
  rw [← hW1]
  have b1 : w.heap.size < W1.heap.size := by omega
  have b2 : w.heap.size + 1 < W1.heap.size := by omega
  have d0 := cell_box1 kA
  have d1 := cell_box1 kB
  clear hW1 hsz
  have hsub : ∀ w', Below W1.heap.size W1 w' → Below w.heap.size w w' := fun w' h => hWb.trans (h.mono hWb.size)
  refine wp_region_float (W1) [] [0, 0, 1, 0, 0, 0, 1, 0, 1, 0, 0, 0] (by kernel_rfl) (by kernel_rfl) (by kernel_rfl) (by kernel_rfl) (KS.drew (KS.start W1)) ?_
  apply lxF0 (wants0 rfl); (· intro w' h0; have hw' := h0.old; have hcc := cellsBelow hw'; go_simp; (try go_bits); exact ⟨rfl, rfl⟩); simp only [Act.put, List.setIfInBounds_toArray, List.set_cons_zero, List.set_cons_succ]
  apply lxF0 (wants0 rfl); (· intro w' h0; have hw' := h0.old; have hcc := cellsBelow hw'; go_simp; (try go_bits); exact ⟨rfl, rfl⟩); simp only [Act.put, List.setIfInBounds_toArray, List.set_cons_zero, List.set_cons_succ]
  apply lxH0 (wants0 rfl)
  · intro w' h0 hK; go_simp; (try go_bits); refine (HC.out w' (hsub _ hK.old)).mono ?_; rintro e w5 ⟨rfl, hb⟩; exact ⟨_, rfl, rfl, hb⟩
  simp only [Act.put, List.setIfInBounds_toArray, List.set_cons_zero, List.set_cons_succ]
  apply lxF0 (wants0 rfl); (· intro w' h0; have hw' := h0.old; have hcc := cellsBelow hw'; go_simp; (try go_bits); exact ⟨rfl, rfl⟩); simp only [Act.put, List.setIfInBounds_toArray, List.set_cons_zero, List.set_cons_succ]
  apply lxF0 (wants0 rfl); (· intro w' h0; have hw' := h0.old; have hcc := cellsBelow hw'; go_simp; (try go_bits); exact ⟨rfl, rfl⟩); simp only [Act.put, List.setIfInBounds_toArray, List.set_cons_zero, List.set_cons_succ]
  first | (apply lxN (j := 4) (d := 9) (b := true) rfl rfl rfl rfl; simp only [Act.put, List.setIfInBounds_toArray, List.set_cons_zero, List.set_cons_succ]) | (apply lxN' (j := 4) (d := 9) (b := true) rfl rfl rfl; simp only [Act.put, List.setIfInBounds_toArray, List.set_cons_zero, List.set_cons_succ]) | (apply lxF0 (wantsg (j := 4) (d := 9) (b := true) rfl rfl rfl rfl); (· intro w' h0; have hw' := h0.old; have hcc := cellsBelow hw'; go_simp; (try go_bits); exact ⟨rfl, rfl⟩); simp only [Act.put, List.setIfInBounds_toArray, List.set_cons_zero, List.set_cons_succ])
  apply lxH0 (wantsg (j := 4) (d := 9) (b := true) rfl rfl rfl rfl)
  · intro w' h0 hK; go_simp; (try go_bits); refine (HT.out w' (hsub _ hK.old)).mono ?_; rintro e w5 ⟨rfl, hb⟩; exact ⟨_, rfl, rfl, hb⟩
  simp only [Act.put, List.setIfInBounds_toArray, List.set_cons_zero, List.set_cons_succ]
  first | (apply lxN (j := 4) (d := 9) (b := true) rfl rfl rfl rfl; simp only [Act.put, List.setIfInBounds_toArray, List.set_cons_zero, List.set_cons_succ]) | (apply lxN' (j := 4) (d := 9) (b := true) rfl rfl rfl; simp only [Act.put, List.setIfInBounds_toArray, List.set_cons_zero, List.set_cons_succ]) | (apply lxF0 (wantsg (j := 4) (d := 9) (b := true) rfl rfl rfl rfl); (· intro w' h0; have hw' := h0.old; have hcc := cellsBelow hw'; go_simp; (try go_bits); exact ⟨rfl, rfl⟩); simp only [Act.put, List.setIfInBounds_toArray, List.set_cons_zero, List.set_cons_succ])
  apply lxH0 (wantsg (j := 4) (d := 9) (b := true) rfl rfl rfl rfl)
  · intro w' h0 hK; go_simp; (try go_bits); refine (HT'.out w' (hsub _ hK.old)).mono ?_; rintro e w5 ⟨rfl, hb⟩; exact ⟨_, rfl, rfl, hb⟩
  simp only [Act.put, List.setIfInBounds_toArray, List.set_cons_zero, List.set_cons_succ]
  first | (apply lxN (j := 4) (d := 9) (b := true) rfl rfl rfl rfl; simp only [Act.put, List.setIfInBounds_toArray, List.set_cons_zero, List.set_cons_succ]) | (apply lxN' (j := 4) (d := 9) (b := true) rfl rfl rfl; simp only [Act.put, List.setIfInBounds_toArray, List.set_cons_zero, List.set_cons_succ]) | (apply lxF0 (wantsg (j := 4) (d := 9) (b := true) rfl rfl rfl rfl); (· intro w' h0; have hw' := h0.old; have hcc := cellsBelow hw'; go_simp; (try go_bits); exact ⟨rfl, rfl⟩); simp only [Act.put, List.setIfInBounds_toArray, List.set_cons_zero, List.set_cons_succ])
  apply lxF0 (wants0 rfl); (· intro w' h0; have hw' := h0.old; have hcc := cellsBelow hw'; go_simp; (try go_bits); exact ⟨rfl, rfl⟩); simp only [Act.put, List.setIfInBounds_toArray, List.set_cons_zero, List.set_cons_succ]
  apply lxF0 (wants0 rfl); (· intro w' h0; have hw' := h0.old; have hcc := cellsBelow hw'; go_simp; (try go_bits); exact ⟨rfl, rfl⟩); simp only [Act.put, List.setIfInBounds_toArray, List.set_cons_zero, List.set_cons_succ]
  refine lxEnd (fun W9 hK9 => ?_)
  go_wp2
  go_ret
  exact ⟨rfl, hWb.trans (hK9.old.mono hWb.size)⟩

set_option maxRecDepth 100000 in
set_option maxHeartbeats 4000000 in
theorem natSums_walk (v u : Value) (ds es : List Nat) (w : World) (hv : InV w v ds) (hu : InV w u es) (hd : ∀ d ∈ ds, d < B32) (he : ∀ d ∈ es, d < B32) (ht : Tab w) :
    Calls Tryd.prog 9 #[v, u] w fun e w' => e = .returned (.bool true) ∧ Below w.heap.size w w' := by
  obtain ⟨p, c, rfl, _⟩ := hv.slice
  obtain ⟨q, c', rfl, _⟩ := hu.slice
  have HA := hid (awake_any w ht)
  have HS := hid (fun w1 => small_any p q ds.length es.length c c' w1)
  by_cases hl : ds.length ≤ 12 ∧ es.length ≤ 12
  · rw [decide_eq_true hl] at HS
    have hL : Lm 12 (val B32 ds) := Nat.lt_of_lt_of_le (val_lt b32_2 hd) (Nat.pow_le_pow_right (by decide) hl.1)
    have hM : Lm 12 (val B32 es) := Nat.lt_of_lt_of_le (val_lt b32_2 he) (Nat.pow_le_pow_right (by decide) hl.2)
    have HN1 := hid (fun w1 (hb : Below w.heap.size w w1) => number_any _ ds w1 (hv.below hb) hd hl.1)
    have HN2 := hid (fun w1 (hb : Below w.heap.size w w1) => number_any _ es w1 (hu.below hb) he hl.2)
    obtain ⟨n, hn⟩ : ∃ n, val B32 ds = n := ⟨_, rfl⟩
    obtain ⟨m, hm⟩ : ∃ m, val B32 es = m := ⟨_, rfl⟩
    rw [hn] at HN1 hL
    rw [hm] at HN2 hM
    have hK := (KS.start w).add (F := fun w => Tab w) fun w' hb => ht.below hb
    have HL1 := hid (hL.lim (by omega))
    have HL2 := hid (hM.lim (by omega))
    have HL3 := hid ((hL.add hM).lim (by omega))
    have HL4 := hid ((hL.sub (m := m)).lim (by omega))
    have HSB := hid (fun (v u : Value) (w1 : World) (h : NatV w1 v n) (h' : NatV w1 u m) => sub_any v u n m w1 h h' (by have := HL1.out.d32; omega) (by have := HL2.out.d32; omega))
    have HRS := hid (fun (v u : Value) (w1 : World) (h : RefV w1 v n) (h' : RefV w1 u m) => rsub_any v u n m w1 h h' (by have := HL1.out.d6; omega) (by have := HL2.out.d6; omega))
    obtain ⟨e0, he0⟩ : ∃ e0 : Int, (if n < m then 2 else 0) = e0 := ⟨_, rfl⟩
    rw [he0] at HSB HRS
    clear hn hm hd he hv hu ht hL hM he0
    go_enter Tryd.func9, Tryd.ntmps9
    go_upto_region 5 with (first
      | (go_at_call 11; refine HA.out.mono ?_; clear HA; rintro e W1 ⟨rfl, hb1⟩; replace hK := hK.step hb1; clear hb1)
      | (go_at_call 12; refine (HS.out _).mono ?_; clear HS; rintro e W2 ⟨rfl, rfl⟩))
    go_upto_region 6 with (go_at_call 13; refine (HN1.out _ hK.old).mono ?_; clear HN1; rintro e W3 ⟨x, y1, rfl, hx, hy, hw⟩; obtain ⟨p1, c1, rfl, _⟩ := hx.dig; replace hK := ((hK.step hw).add (F := fun w => NatV w (.agg #[.slice p1 (digs B32 n).length c1]) n) fun w' h => hx.below h).add (F := fun w => RefV w y1 n) fun w' h => hy.below h; clear hx hy hw)
    obtain ⟨V1, hV1, hKV⟩ : ∃ V1, V1 = W3.alloc (.cells #[.slice p1 (digs B32 n).length c1] 26) ∧ KS w _ V1 := ⟨_, rfl, hK.box _⟩
    rw [← hV1]
    clear hV1 hK
    have hK := hKV
    clear hKV
    generalize W3.heap.size = R1 at hK ⊢
    go_upto_region 7 with (go_at_call 13; refine (HN2.out _ hK.old).mono ?_; clear HN2; rintro e W4 ⟨x, y2, rfl, hx, hy, hw⟩; obtain ⟨p2, c2, rfl, _⟩ := hx.dig; replace hK := ((hK.step hw).add (F := fun w => NatV w (.agg #[.slice p2 (digs B32 m).length c2]) m) fun w' h => hx.below h).add (F := fun w => RefV w y2 m) fun w' h => hy.below h; clear hx hy hw)
    obtain ⟨V2, hV2, hKV⟩ : ∃ V2, V2 = W4.alloc (.cells #[.slice p2 (digs B32 m).length c2] 26) ∧ KS w _ V2 := ⟨_, rfl, hK.box _⟩
    rw [← hV2]
    clear hV2 hK
    have hK := hKV
    clear hKV
    generalize W4.heap.size = R2 at hK ⊢
    have kA := hK.get (F := Has 0 R1 (.cells #[.slice p1 (digs B32 n).length c1] 26)) (by repeat (first | exact List.mem_cons_self .. | apply List.mem_cons_of_mem))
    have kB := hK.get (F := Has 0 R2 (.cells #[.slice p2 (digs B32 m).length c2] 26)) (by repeat (first | exact List.mem_cons_self .. | apply List.mem_cons_of_mem))
    have d0 := kA.cell
    have d1 := kB.cell
    have b0 := kA.lt
    have b1 := kB.lt
    go_upto_region 8 with (go_at_call 33; refine (HSB.out _ _ _ (hK.get (F := fun w => NatV w _ n) (by repeat (first | exact List.mem_cons_self .. | apply List.mem_cons_of_mem))) (hK.get (F := fun w => NatV w _ m) (by repeat (first | exact List.mem_cons_self .. | apply List.mem_cons_of_mem)))).mono ?_; clear HSB; rintro e W5 ⟨x, rfl, hx, hw⟩; obtain ⟨p3, c3, rfl, _⟩ := hx.dig; replace hK := (hK.step hw).add (F := fun w => NatV w (.agg #[.slice p3 (digs B32 (n - m)).length c3]) (n - m)) fun w' h => hx.below h; clear hx hw)
    obtain ⟨V3, hVV, hKV⟩ : ∃ VV, VV = W5.alloc (.cells #[.slice p3 (digs B32 (n - m)).length c3] 26) ∧ KS w _ VV := ⟨_, rfl, hK.box _⟩
    rw [← hVV]
    clear hVV hK d0 d1 b0 b1 kA kB
    have hK := hKV
    clear hKV
    generalize W5.heap.size = R3 at hK ⊢
    go_upto_region 9 with (go_at_call 34; refine (HRS.out _ _ _ (hK.get (F := fun w => RefV w _ n) (by repeat (first | exact List.mem_cons_self .. | apply List.mem_cons_of_mem))) (hK.get (F := fun w => RefV w _ m) (by repeat (first | exact List.mem_cons_self .. | apply List.mem_cons_of_mem)))).mono ?_; clear HRS; rintro e V4 ⟨y3, rfl, hx, hw⟩; replace hK := (hK.step hw).add (F := fun w => RefV w y3 (n - m)) fun w' h => hx.below h; clear hx hw)
    have kA := hK.get (F := Has 0 R1 (.cells #[.slice p1 (digs B32 n).length c1] 26)) (by repeat (first | exact List.mem_cons_self .. | apply List.mem_cons_of_mem))
    have kB := hK.get (F := Has 0 R2 (.cells #[.slice p2 (digs B32 m).length c2] 26)) (by repeat (first | exact List.mem_cons_self .. | apply List.mem_cons_of_mem))
    have kC := hK.get (F := Has 0 R3 (.cells #[.slice p3 (digs B32 (n - m)).length c3] 26)) (by repeat (first | exact List.mem_cons_self .. | apply List.mem_cons_of_mem))
    have d0 := kA.cell
    have d1 := kB.cell
    have d2 := kC.cell
    have b0 := kA.lt
    have b1 := kB.lt
    have b2 := kC.lt
    refine wp_region_ftext (V4) _ [0, 0, 2, 0, 0, 2, 1, 0, 0, 0, 0, 0, 0, 0, 0, 1, 0, 0, 0, 0, 1, 0, 0, 1, 0, 0, 0] hK.re ?_
    apply lxF0 (wants0 rfl); (· intro w' h0; have hw' := h0.old; have hcc := cellsBelow hw'; go_simp; (try go_bits); exact ⟨rfl, rfl⟩); simp only [Act.put, List.setIfInBounds_toArray, List.set_cons_zero, List.set_cons_succ]
    apply lxF0 (wants0 rfl); (· intro w' h0; have hw' := h0.old; have hcc := cellsBelow hw'; go_simp; (try go_bits); exact ⟨rfl, rfl⟩); simp only [Act.put, List.setIfInBounds_toArray, List.set_cons_zero, List.set_cons_succ]
    apply lxE0 (α := Value) (fun vv => vv) (fun vv => [fun w => NatV w vv (n + m)]) (wants0 rfl)
    · intro w' h0 hK; go_simp; (try go_bits); refine (add_any _ _ n m w' (hK.get (F := fun w => NatV w _ n) (by repeat (first | exact List.mem_cons_self .. | apply List.mem_cons_of_mem))) (hK.get (F := fun w => NatV w _ m) (by repeat (first | exact List.mem_cons_self .. | apply List.mem_cons_of_mem))) (by have := HL1.out.d32; omega) (by have := HL2.out.d32; omega)).mono ?_; rintro e w5 ⟨x, rfl, hx, hb⟩; exact ⟨_, rfl, hb, fun w6 h6 => hx.below h6⟩
    intro v43
    simp only [Act.put, List.setIfInBounds_toArray, List.set_cons_zero, List.set_cons_succ]
    apply lxF0 (wants0 rfl); (· intro w' h0; have hw' := h0.old; have hcc := cellsBelow hw'; go_simp; (try go_bits); exact ⟨rfl, rfl⟩); simp only [Act.put, List.setIfInBounds_toArray, List.set_cons_zero, List.set_cons_succ]
    apply lxF0 (wants0 rfl); (· intro w' h0; have hw' := h0.old; have hcc := cellsBelow hw'; go_simp; (try go_bits); exact ⟨rfl, rfl⟩); simp only [Act.put, List.setIfInBounds_toArray, List.set_cons_zero, List.set_cons_succ]
    apply lxE0 (α := Value) (fun vv => vv) (fun vv => [fun w => RefV w vv (n + m)]) (wants0 rfl)
    · intro w' h0 hK; go_simp; (try go_bits); refine (radd_any _ _ n m w' (hK.get (F := fun w => RefV w _ n) (by repeat (first | exact List.mem_cons_self .. | apply List.mem_cons_of_mem))) (hK.get (F := fun w => RefV w _ m) (by repeat (first | exact List.mem_cons_self .. | apply List.mem_cons_of_mem))) (by have := HL1.out.d6; omega) (by have := HL2.out.d6; omega)).mono ?_; rintro e w5 ⟨x, rfl, hx, hb⟩; exact ⟨_, rfl, hb, fun w6 h6 => hx.below h6⟩
    intro v46
    simp only [Act.put, List.setIfInBounds_toArray, List.set_cons_zero, List.set_cons_succ]
    apply lxH0 (wants0 rfl)
    · intro w' h0 hK; go_simp; (try go_bits); refine (is_yes _ _ (n + m) (n + m) w' (hK.get (F := fun w => NatV w _ (n + m)) (by repeat (first | exact List.mem_cons_self .. | apply List.mem_cons_of_mem))) (hK.get (F := fun w => RefV w _ (n + m)) (by repeat (first | exact List.mem_cons_self .. | apply List.mem_cons_of_mem))) (hK.get (F := fun w => Tab w) (by repeat (first | exact List.mem_cons_self .. | apply List.mem_cons_of_mem))) HL3.out rfl).mono ?_; rintro e w5 ⟨rfl, hb⟩; exact ⟨_, rfl, rfl, hb⟩
    simp only [Act.put, List.setIfInBounds_toArray, List.set_cons_zero, List.set_cons_succ]
    apply lxF0 (wants0 rfl); (· intro w' h0; have hw' := h0.old; have hcc := cellsBelow hw'; go_simp; (try go_bits); exact ⟨rfl, rfl⟩); simp only [Act.put, List.setIfInBounds_toArray, List.set_cons_zero, List.set_cons_succ]
    first | (apply lxN (j := 7) (d := 48) (b := true) rfl rfl rfl rfl; simp only [Act.put, List.setIfInBounds_toArray, List.set_cons_zero, List.set_cons_succ]) | (apply lxN' (j := 7) (d := 48) (b := true) rfl rfl rfl; simp only [Act.put, List.setIfInBounds_toArray, List.set_cons_zero, List.set_cons_succ]) | (apply lxF0 (wantsg (j := 7) (d := 48) (b := true) rfl rfl rfl rfl); (· intro w' h0; have hw' := h0.old; have hcc := cellsBelow hw'; go_simp; (try go_bits); exact ⟨rfl, rfl⟩); simp only [Act.put, List.setIfInBounds_toArray, List.set_cons_zero, List.set_cons_succ])
    first | (apply lxN (j := 7) (d := 48) (b := true) rfl rfl rfl rfl; simp only [Act.put, List.setIfInBounds_toArray, List.set_cons_zero, List.set_cons_succ]) | (apply lxN' (j := 7) (d := 48) (b := true) rfl rfl rfl; simp only [Act.put, List.setIfInBounds_toArray, List.set_cons_zero, List.set_cons_succ]) | (apply lxF0 (wantsg (j := 7) (d := 48) (b := true) rfl rfl rfl rfl); (· intro w' h0; have hw' := h0.old; have hcc := cellsBelow hw'; go_simp; (try go_bits); exact ⟨rfl, rfl⟩); simp only [Act.put, List.setIfInBounds_toArray, List.set_cons_zero, List.set_cons_succ])
    first | (apply lxN (j := 7) (d := 48) (b := true) rfl rfl rfl rfl; simp only [Act.put, List.setIfInBounds_toArray, List.set_cons_zero, List.set_cons_succ]) | (apply lxN' (j := 7) (d := 48) (b := true) rfl rfl rfl; simp only [Act.put, List.setIfInBounds_toArray, List.set_cons_zero, List.set_cons_succ]) | (apply lxF0 (wantsg (j := 7) (d := 48) (b := true) rfl rfl rfl rfl); (· intro w' h0; have hw' := h0.old; have hcc := cellsBelow hw'; go_simp; (try go_bits); exact ⟨rfl, rfl⟩); simp only [Act.put, List.setIfInBounds_toArray, List.set_cons_zero, List.set_cons_succ])
    apply lxF0 (wants0 rfl); (· intro w' h0; have hw' := h0.old; have hcc := cellsBelow hw'; go_simp; (try go_bits); exact ⟨rfl, rfl⟩); simp only [Act.put, List.setIfInBounds_toArray, List.set_cons_zero, List.set_cons_succ]
    apply lxF0 (wants0 rfl); (· intro w' h0; have hw' := h0.old; have hcc := cellsBelow hw'; go_simp; (try go_bits); exact ⟨rfl, rfl⟩); simp only [Act.put, List.setIfInBounds_toArray, List.set_cons_zero, List.set_cons_succ]
    first | (apply lxN (j := 12) (d := 53) (b := true) rfl rfl rfl rfl; simp only [Act.put, List.setIfInBounds_toArray, List.set_cons_zero, List.set_cons_succ]) | (apply lxN' (j := 12) (d := 53) (b := true) rfl rfl rfl; simp only [Act.put, List.setIfInBounds_toArray, List.set_cons_zero, List.set_cons_succ]) | (apply lxF0 (wantsg (j := 12) (d := 53) (b := true) rfl rfl rfl rfl); (· intro w' h0; have hw' := h0.old; have hcc := cellsBelow hw'; go_simp; (try go_bits); exact ⟨rfl, rfl⟩); simp only [Act.put, List.setIfInBounds_toArray, List.set_cons_zero, List.set_cons_succ])
    first | (apply lxN (j := 12) (d := 53) (b := true) rfl rfl rfl rfl; simp only [Act.put, List.setIfInBounds_toArray, List.set_cons_zero, List.set_cons_succ]) | (apply lxN' (j := 12) (d := 53) (b := true) rfl rfl rfl; simp only [Act.put, List.setIfInBounds_toArray, List.set_cons_zero, List.set_cons_succ]) | (apply lxF0 (wantsg (j := 12) (d := 53) (b := true) rfl rfl rfl rfl); (· intro w' h0; have hw' := h0.old; have hcc := cellsBelow hw'; go_simp; (try go_bits); exact ⟨rfl, rfl⟩); simp only [Act.put, List.setIfInBounds_toArray, List.set_cons_zero, List.set_cons_succ])
    apply lxH0 (wantsg (j := 12) (d := 53) (b := true) rfl rfl rfl rfl)
    · intro w' h0 hK; go_simp; (try go_bits); refine (is_yes _ _ (n - m) (n - m) w' (hK.get (F := fun w => NatV w _ (n - m)) (by repeat (first | exact List.mem_cons_self .. | apply List.mem_cons_of_mem))) (hK.get (F := fun w => RefV w _ (n - m)) (by repeat (first | exact List.mem_cons_self .. | apply List.mem_cons_of_mem))) (hK.get (F := fun w => Tab w) (by repeat (first | exact List.mem_cons_self .. | apply List.mem_cons_of_mem))) HL4.out rfl).mono ?_; rintro e w5 ⟨rfl, hb⟩; exact ⟨_, rfl, rfl, hb⟩
    simp only [Act.put, List.setIfInBounds_toArray, List.set_cons_zero, List.set_cons_succ]
    apply lxF0 (wants0 rfl); (· intro w' h0; have hw' := h0.old; have hcc := cellsBelow hw'; go_simp; (try go_bits); exact ⟨rfl, rfl⟩); simp only [Act.put, List.setIfInBounds_toArray, List.set_cons_zero, List.set_cons_succ]
    apply lxF0 (wants0 rfl); (· intro w' h0; have hw' := h0.old; have hcc := cellsBelow hw'; go_simp; (try go_bits); exact ⟨rfl, rfl⟩); simp only [Act.put, List.setIfInBounds_toArray, List.set_cons_zero, List.set_cons_succ]
    first | (apply lxN (j := 17) (d := 58) (b := true) rfl rfl rfl rfl; simp only [Act.put, List.setIfInBounds_toArray, List.set_cons_zero, List.set_cons_succ]) | (apply lxN' (j := 17) (d := 58) (b := true) rfl rfl rfl; simp only [Act.put, List.setIfInBounds_toArray, List.set_cons_zero, List.set_cons_succ]) | (apply lxF0 (wantsg (j := 17) (d := 58) (b := true) rfl rfl rfl rfl); (· intro w' h0; have hw' := h0.old; have hcc := cellsBelow hw'; go_simp; (try go_bits); exact ⟨rfl, rfl⟩); simp only [Act.put, List.setIfInBounds_toArray, List.set_cons_zero, List.set_cons_succ])
    first | (apply lxN (j := 17) (d := 58) (b := true) rfl rfl rfl rfl; simp only [Act.put, List.setIfInBounds_toArray, List.set_cons_zero, List.set_cons_succ]) | (apply lxN' (j := 17) (d := 58) (b := true) rfl rfl rfl; simp only [Act.put, List.setIfInBounds_toArray, List.set_cons_zero, List.set_cons_succ]) | (apply lxF0 (wantsg (j := 17) (d := 58) (b := true) rfl rfl rfl rfl); (· intro w' h0; have hw' := h0.old; have hcc := cellsBelow hw'; go_simp; (try go_bits); exact ⟨rfl, rfl⟩); simp only [Act.put, List.setIfInBounds_toArray, List.set_cons_zero, List.set_cons_succ])
    apply lxH0 (wantsg (j := 17) (d := 58) (b := true) rfl rfl rfl rfl)
    · intro w' h0 hK; go_simp; (try go_bits); refine (cmp_any _ _ n m w' (hK.get (F := fun w => NatV w _ n) (by repeat (first | exact List.mem_cons_self .. | apply List.mem_cons_of_mem))) (hK.get (F := fun w => NatV w _ m) (by repeat (first | exact List.mem_cons_self .. | apply List.mem_cons_of_mem))) (by have := HL1.out.d32; omega) (by have := HL2.out.d32; omega)).mono ?_; rintro e w5 ⟨rfl, hb⟩; exact ⟨_, rfl, rfl, hb⟩
    simp only [Act.put, List.setIfInBounds_toArray, List.set_cons_zero, List.set_cons_succ]
    first | (apply lxN (j := 17) (d := 58) (b := true) rfl rfl rfl rfl; simp only [Act.put, List.setIfInBounds_toArray, List.set_cons_zero, List.set_cons_succ]) | (apply lxN' (j := 17) (d := 58) (b := true) rfl rfl rfl; simp only [Act.put, List.setIfInBounds_toArray, List.set_cons_zero, List.set_cons_succ]) | (apply lxF0 (wantsg (j := 17) (d := 58) (b := true) rfl rfl rfl rfl); (· intro w' h0; have hw' := h0.old; have hcc := cellsBelow hw'; go_simp; (try go_bits); exact ⟨rfl, rfl⟩); simp only [Act.put, List.setIfInBounds_toArray, List.set_cons_zero, List.set_cons_succ])
    first | (apply lxN (j := 17) (d := 58) (b := true) rfl rfl rfl rfl; simp only [Act.put, List.setIfInBounds_toArray, List.set_cons_zero, List.set_cons_succ]) | (apply lxN' (j := 17) (d := 58) (b := true) rfl rfl rfl; simp only [Act.put, List.setIfInBounds_toArray, List.set_cons_zero, List.set_cons_succ]) | (apply lxF0 (wantsg (j := 17) (d := 58) (b := true) rfl rfl rfl rfl); (· intro w' h0; have hw' := h0.old; have hcc := cellsBelow hw'; go_simp; (try go_bits); exact ⟨rfl, rfl⟩); simp only [Act.put, List.setIfInBounds_toArray, List.set_cons_zero, List.set_cons_succ])
    apply lxH0 (wantsg (j := 17) (d := 58) (b := true) rfl rfl rfl rfl)
    · intro w' h0 hK; go_simp; (try go_bits); refine (rcmp_any _ _ n m w' (hK.get (F := fun w => RefV w _ n) (by repeat (first | exact List.mem_cons_self .. | apply List.mem_cons_of_mem))) (hK.get (F := fun w => RefV w _ m) (by repeat (first | exact List.mem_cons_self .. | apply List.mem_cons_of_mem))) (by have := HL1.out.d6; omega) (by have := HL2.out.d6; omega)).mono ?_; rintro e w5 ⟨rfl, hb⟩; exact ⟨_, rfl, rfl, hb⟩
    simp only [Act.put, List.setIfInBounds_toArray, List.set_cons_zero, List.set_cons_succ]
    first | (apply lxN (j := 17) (d := 58) (b := true) rfl rfl rfl rfl; simp only [Act.put, List.setIfInBounds_toArray, List.set_cons_zero, List.set_cons_succ]) | (apply lxN' (j := 17) (d := 58) (b := true) rfl rfl rfl; simp only [Act.put, List.setIfInBounds_toArray, List.set_cons_zero, List.set_cons_succ]) | (apply lxF0 (wantsg (j := 17) (d := 58) (b := true) rfl rfl rfl rfl); (· intro w' h0; have hw' := h0.old; have hcc := cellsBelow hw'; go_simp; (try go_bits); exact ⟨rfl, rfl⟩); simp only [Act.put, List.setIfInBounds_toArray, List.set_cons_zero, List.set_cons_succ])
    apply lxF0 (wants0 rfl); (· intro w' h0; have hw' := h0.old; have hcc := cellsBelow hw'; go_simp; (try go_bits); exact ⟨rfl, rfl⟩); simp only [Act.put, List.setIfInBounds_toArray, List.set_cons_zero, List.set_cons_succ]
    apply lxF0 (wants0 rfl); (· intro w' h0; have hw' := h0.old; have hcc := cellsBelow hw'; go_simp; (try go_bits); exact ⟨rfl, rfl⟩); simp only [Act.put, List.setIfInBounds_toArray, List.set_cons_zero, List.set_cons_succ]
    refine lxEnd (fun W9 hK9 => ?_)
    go_wp2
    go_ret
    exact ⟨rfl, hK.old.trans (hK9.old.mono hK.old.size)⟩
  · rw [decide_eq_false hl] at HS
    go_enter Tryd.func9, Tryd.ntmps9
    go_wp2_with (first
      | (go_at_call 11; refine HA.out.mono ?_; clear HA; rintro e W1 ⟨rfl, hb1⟩)
      | (go_at_call 12; refine (HS.out _).mono ?_; clear HS; rintro e W2 ⟨rfl, rfl⟩))
    go_ret
    exact ⟨rfl, hb1⟩

end Go.Proofs.YtepljhpamconbaaDoor
