/- DivMod and GCD of whatever numbers. -/
import Derived.Test.YtepljhpamconbaaDoorNatOD
import Derived.Test.YtepljhpamconbaaDoorNatN
namespace Go.Proofs.YtepljhpamconbaaDoor
open Go.RowKit

theorem has_set {base R : Nat} {w w' : World} {c : Value} {t : TypeId} (h : Has base R (.cells #[c] t) w) (u : Value) (hb : Below (w.setCell ⟨R, 0, none⟩ u).heap.size (w.setCell ⟨R, 0, none⟩ u) w') : Has 0 R (.cells #[u] t) w' :=
  Has.below ⟨Nat.zero_le _, box_store h.2 u⟩ hb
theorem has_far {base R R' : Nat} {w w' : World} {o : Obj} (h : Has base R o w) (hne : R ≠ R') (u : Value) (hb : Below (w.setCell ⟨R', 0, none⟩ u).heap.size (w.setCell ⟨R', 0, none⟩ u) w') : Has 0 R o w' :=
  Has.below ⟨Nat.zero_le _, by rw [setCell_far _ hne]; exact h.2⟩ hb
theorem nat_set {base R : Nat} {w w' : World} {v : Value} {n : Nat} {p : Option Addr} {l c : Nat} {t : TypeId} (h : NatV w v n) (hR : Has base R (.cells #[.slice p l c] t) w) (u : Value) (hb : Below (w.setCell ⟨R, 0, none⟩ u).heap.size (w.setCell ⟨R, 0, none⟩ u) w') : NatV w' v n :=
  (h.store (hasCell hR) u).below hb
theorem ks_set {V w : World} {R : Nat} {fs fs' : List (World → Prop)} (hK : KS V fs w) (hR : V.heap.size ≤ R) (u : Value) (h : ∀ F ∈ fs', ∀ w', Below (w.setCell ⟨R, 0, none⟩ u).heap.size (w.setCell ⟨R, 0, none⟩ u) w' → F w') : KS V fs' (w.setCell ⟨R, 0, none⟩ u) :=
  ⟨hK.old.setCell (p := ⟨R, 0, none⟩) hR _, h⟩
theorem all0 {P : (World → Prop) → Prop} : ∀ F ∈ ([] : List (World → Prop)), P F := fun _ h => absurd h List.not_mem_nil
theorem all1 {P : (World → Prop) → Prop} {F : World → Prop} {l : List (World → Prop)} (h : P F) (h' : ∀ F ∈ l, P F) : ∀ G ∈ F :: l, P G := fun G hG => by
  rcases List.mem_cons.1 hG with rfl | hG
  · exact h
  · exact h' G hG
/-- The digit of a number below the base. -/
theorem digs_small {m : Nat} (hm : m ≠ 0) (h : m < B32) : digs B32 m = [m] := digs_one hm h

set_option maxRecDepth 100000 in
set_option maxHeartbeats 4000000 in
theorem divmod_small (v u : Value) (n m : Nat) (w : World) (hv : NatV w v n) (hu : NatV w u m) (hm : m ≠ 0) (hm1 : m < 4294967296) (hn : 18446744073709551616 ≤ n) (hl : (digs B32 n).length ≤ 100000) :
    Calls Tryd.prog 22 #[v, u] w fun e w' => ∃ x y, e = .returned (.tuple #[x, y, .int .i64 0]) ∧ NatV w' x (n / m) ∧ NatV w' y (n % m) ∧ Below w.heap.size w w' := by
  have hln : (digs B32 n).length ≤ 100000 := hl
  have hdm := digs_small hm (by rw [b32]; exact hm1)
  have hlm : (digs B32 m).length = 1 := by rw [hdm]; rfl
  have HZ := hid (fun w1 (hb : Below w.heap.size w w1) => isZero_any u m w1 (hu.below hb))
  have HC := hid (fun w1 (hb : Below w.heap.size w w1) => cmp_any v u n m w1 (hv.below hb) (hu.below hb) (by omega) (by omega))
  have HU := hid (fun w1 (hb : Below w.heap.size w w1) => uint64_any v n w1 (hv.below hb))
  have HU' := hid (fun w1 (hb : Below w.heap.size w w1) => uint64_any u m w1 (hu.below hb))
  rw [show (m == 0) = false by simpa using hm] at HZ
  rw [show u64V n = .tuple #[.int .u64 0, .bool false] by unfold u64V; rw [if_neg (by omega), decide_eq_false (by omega)]] at HU
  rw [show u64V m = .tuple #[.int .u64 (m : Int), .bool true] by unfold u64V; rw [if_pos (by omega), decide_eq_true (by omega)]] at HU'
  have hcn : ¬ cmpN n m < 0 := by unfold cmpN; rw [if_neg (by omega)]; split <;> omega
  have HDS := hid (fun w1 (hb : Below w.heap.size w w1) => divs_any v n m w1 (hv.below hb) (by omega) (Nat.pos_of_ne_zero hm) (by omega))
  have HO2 := hid (fun w1 => of_any (n % m) w1 (by have := Nat.mod_lt n (Nat.pos_of_ne_zero hm); omega))
  have hrm : n % m ≤ 4294967295 := by have := Nat.mod_lt n (Nat.pos_of_ne_zero hm); omega
  obtain ⟨P, c, rfl, _⟩ := hv.digp
  obtain ⟨Q, c', rfl, hq⟩ := hu.digp
  obtain ⟨g, rfl, hg⟩ := hq.at (k := 0) (by omega)
  have hd0 := hg.at0 0 (by omega)
  have e0 : (digs B32 m)[0]'(by omega) = m := by simp only [hdm, List.getElem_cons_zero]
  rw [e0] at hd0
  have hgl := hg.lt
  rw [hlm] at HZ HC HU' ⊢
  obtain ⟨cm, hcm⟩ : ∃ cm, cmpN n m = cm := ⟨_, rfl⟩
  rw [hcm] at hcn HC
  obtain ⟨ln, hlne⟩ : ∃ ln, (digs B32 n).length = ln := ⟨_, rfl⟩
  rw [hlne] at HC HU HDS ⊢
  obtain ⟨q, hqe⟩ : ∃ q, n / m = q := ⟨_, rfl⟩
  obtain ⟨r, hre⟩ : ∃ r, n % m = r := ⟨_, rfl⟩
  rw [hqe] at HDS ⊢
  rw [hre] at HDS HO2 hrm ⊢
  clear hq hg hv hu hln hlm hdm hcm hlne hqe hre hl hn hm e0
  go_enter Tryd.func22, Tryd.ntmps22
  go_upto_region 1 with (fail)
  obtain ⟨W0, hW0, hB0⟩ := box4_head (.slice P ln c) (.slice (some ⟨g, 0, none⟩) 1 c') w
  rw [← hW0]
  clear hW0
  have a1 := cell_box1 hB0.k1
  go_upto_region 3 with (go_at_call 18; refine (HZ.out _ hB0.old).mono ?_; clear HZ; rintro e W1 ⟨rfl, hw1⟩; have hB1 := hB0.below hw1)
  clear hB0 hw1 a1
  have a0 := cell_box1 hB1.k0
  have a1 := cell_box1 hB1.k1
  go_upto_region 5 with (go_at_call 17; refine (HC.out _ hB1.old).mono ?_; clear HC; rintro e W2 ⟨rfl, hw2⟩; have hB2 := hB1.below hw2)
  clear hB1 hw2 a0 a1
  have a0 := cell_box1 hB2.k0
  go_upto_region 6 with (go_at_call 26; refine (HU.out _ hB2.old).mono ?_; clear HU; rintro e W3 ⟨rfl, hw3⟩; have hB3 := hB2.below hw3)
  clear hB2 hw3 a0
  have a1 := cell_box1 hB3.k1
  go_upto_region 9 with (go_at_call 26; refine (HU'.out _ hB3.old).mono ?_; clear HU'; rintro e W4 ⟨rfl, hw4⟩; have hB4 := hB3.below hw4)
  clear hB3 hw4 a1
  have a0 := cell_box1 hB4.k0
  have a1 := cell_box1 hB4.k1
  have d4 := (hB4.old.cell (p := ⟨g, 0, none⟩) hgl).trans hd0
  have hgl4 := Nat.lt_of_lt_of_le hgl hB4.old.size
  have sz4 := hB4.sz
  have b0 : w.heap.size < W4.heap.size := by omega
  have b1 : w.heap.size + 1 < W4.heap.size := by omega
  go_upto_region 10 with (fail)
  refine wp_region_float (W4) [] [0, 0, 0, 0, 0, 2, 0, 0, 0, 3, 4, 0] (by kernel_rfl) (by kernel_rfl) (by kernel_rfl) (by kernel_rfl) (KS.drew (KS.start W4)) ?_
  apply lxF0 (wants0 rfl); (· intro w' h0; have hw' := h0.old; have hcc := cellsBelow hw'; go_simp; (try go_bits); exact ⟨rfl, rfl⟩); simp only [Act.put, List.setIfInBounds_toArray, List.set_cons_zero, List.set_cons_succ]
  apply lxF0 (wants0 rfl); (· intro w' h0; have hw' := h0.old; have hcc := cellsBelow hw'; go_simp; (try go_bits); exact ⟨rfl, rfl⟩); simp only [Act.put, List.setIfInBounds_toArray, List.set_cons_zero, List.set_cons_succ]
  apply lxF0 (wants0 rfl); (· intro w' h0; have hw' := h0.old; have hcc := cellsBelow hw'; go_simp; (try go_bits); exact ⟨rfl, rfl⟩); simp only [Act.put, List.setIfInBounds_toArray, List.set_cons_zero, List.set_cons_succ]
  apply lxF0 (wants0 rfl); (· intro w' h0; have hw' := h0.old; have hcc := cellsBelow hw'; go_simp; (try go_bits); exact ⟨rfl, rfl⟩); simp only [Act.put, List.setIfInBounds_toArray, List.set_cons_zero, List.set_cons_succ]
  apply lxF0 (wants0 rfl); (· intro w' h0; have hw' := h0.old; have hcc := cellsBelow hw'; go_simp; (try go_bits); exact ⟨rfl, rfl⟩); simp only [Act.put, List.setIfInBounds_toArray, List.set_cons_zero, List.set_cons_succ]
  apply lxE0 (α := Option Addr × Nat) (fun x => .tuple #[.agg #[.slice x.1 (digs B32 q).length x.2], .int .u32 (r : Int)]) (fun x => [fun w => NatV w (.agg #[.slice x.1 (digs B32 q).length x.2]) q]) (wants0 rfl)
  · intro w' h0 hK; go_simp; (try go_bits); refine (HDS.out w' (hB4.old.trans (hK.old.mono hB4.old.size))).mono ?_; rintro e w5 ⟨x, rfl, hx, hb⟩; obtain ⟨p5, c5, rfl, _⟩ := hx.dig; exact ⟨_, rfl, p5, c5, rfl, hb, fun w6 h6 => hx.below h6⟩
  rintro ⟨p5, c5⟩
  simp only [Act.put, List.setIfInBounds_toArray, List.set_cons_zero, List.set_cons_succ]
  apply lxF0 (wants0 rfl); (· intro w' h0; have hw' := h0.old; have hcc := cellsBelow hw'; go_simp; (try go_bits); exact ⟨rfl, rfl⟩); simp only [Act.put, List.setIfInBounds_toArray, List.set_cons_zero, List.set_cons_succ]
  apply lxF0 (wants0 rfl); (· intro w' h0; have hw' := h0.old; have hcc := cellsBelow hw'; go_simp; (try go_bits); exact ⟨rfl, rfl⟩); simp only [Act.put, List.setIfInBounds_toArray, List.set_cons_zero, List.set_cons_succ]
  apply lxF0 (wants0 rfl); (· intro w' h0; have hw' := h0.old; have hcc := cellsBelow hw'; go_simp; (try go_bits); exact ⟨rfl, rfl⟩); simp only [Act.put, List.setIfInBounds_toArray, List.set_cons_zero, List.set_cons_succ]
  apply lxA0 (.cells #[.slice none 0 0] 26) (wants0 rfl)
  · intro w' h0; go_simp; rfl
  intro R11
  simp only [mkOf, Act.put, List.setIfInBounds_toArray, List.set_cons_zero, List.set_cons_succ]
  apply lxS0 [Has 0 R11 (.cells #[.slice p5 (digs B32 q).length c5] 26), fun w => NatV w (.agg #[.slice p5 (digs B32 q).length c5]) q] (wants0 rfl)
  · intro w' h0 hK; have hR := hK.get (F := Has W4.heap.size R11 (.cells #[.slice none 0 0] 26)) (by repeat (first | exact List.mem_cons_self .. | apply List.mem_cons_of_mem)); have hN := hK.get (F := fun w => NatV w (.agg #[.slice p5 (digs B32 q).length c5]) q) (by repeat (first | exact List.mem_cons_self .. | apply List.mem_cons_of_mem)); have c1 := hasCell hR; have f1 := hasFree hR; go_simp; exact ⟨rfl, ks_set h0 hR.1 _ all0, ks_set hK hR.1 _ (all1 (fun w2 hb => has_set hR _ hb) (all1 (fun w2 hb => nat_set hN hR _ hb) all0))⟩
  simp only [Act.put]
  apply lxF0 (wants0 rfl); (· intro w' h0; have hw' := h0.old; have hcc := cellsBelow hw'; go_simp; (try go_bits); exact ⟨rfl, rfl⟩); simp only [Act.put, List.setIfInBounds_toArray, List.set_cons_zero, List.set_cons_succ]
  refine lxEnd (fun W5 hK5 => ?_)
  have hB5 := hB4.below hK5.old
  have hK : KS w [Has 0 R11 (.cells #[.slice p5 (digs B32 q).length c5] 26), fun w => NatV w (.agg #[.slice p5 (digs B32 q).length c5]) q, Has 0 (w.heap.size + 1 + 1) (.cells #[.slice none 0 0] 26), Has 0 (w.heap.size + 1 + 1 + 1) (.cells #[.slice none 0 0] 26)] W5 :=
    ⟨hB5.old, all1 (hK5.all _ (by repeat (first | exact List.mem_cons_self .. | apply List.mem_cons_of_mem))) (all1 (hK5.all _ (by repeat (first | exact List.mem_cons_self .. | apply List.mem_cons_of_mem))) (all1 (fun w2 hb => Has.below ⟨Nat.zero_le _, hB5.k2⟩ hb) (all1 (fun w2 hb => Has.below ⟨Nat.zero_le _, hB5.k3⟩ hb) all0)))⟩
  go_upto_region 11 with (fail)
  refine wp_region_float (w) _ [1, 0, 0, 2, 4, 4, 0] (by kernel_rfl) (by kernel_rfl) (by kernel_rfl) (by kernel_rfl) (KS.drew hK) ?_
  apply lxR0 (wants0 rfl); (· intro w' h0 hK; have hw' := hK.old; have c11 := hasCell (hK.get (F := Has 0 R11 (.cells #[.slice p5 (digs B32 q).length c5] 26)) (by repeat (first | exact List.mem_cons_self .. | apply List.mem_cons_of_mem))); go_simp; (try go_bits); exact ⟨rfl, rfl⟩); simp only [Act.put, List.setIfInBounds_toArray, List.set_cons_zero, List.set_cons_succ]
  apply lxF0 (wants0 rfl); (· intro w' h0; have hw' := h0.old; go_simp; (try go_bits); exact ⟨rfl, rfl⟩); simp only [Act.put, List.setIfInBounds_toArray, List.set_cons_zero, List.set_cons_succ]
  apply lxF0 (wants0 rfl); (· intro w' h0; have hw' := h0.old; go_simp; (try go_bits); exact ⟨rfl, rfl⟩); simp only [Act.put, List.setIfInBounds_toArray, List.set_cons_zero, List.set_cons_succ]
  apply lxE0 (α := Option Addr × Nat) (fun x => .agg #[.slice x.1 (digs B32 r).length x.2]) (fun x => [fun w => NatV w (.agg #[.slice x.1 (digs B32 r).length x.2]) r]) (wants0 rfl)
  · intro w' h0 hK; go_simp; (try go_bits); refine (HO2.out w').mono ?_; rintro e w5 ⟨x, rfl, hx, hb⟩; obtain ⟨p6, c6, rfl, _⟩ := hx.dig; exact ⟨_, rfl, p6, c6, rfl, hb, fun w6 h6 => hx.below h6⟩
  rintro ⟨p6, c6⟩
  simp only [Act.put, List.setIfInBounds_toArray, List.set_cons_zero, List.set_cons_succ]
  apply lxS0 [Has 0 (w.heap.size + 1 + 1) (.cells #[.slice p5 (digs B32 q).length c5] 26), Has 0 (w.heap.size + 1 + 1 + 1) (.cells #[.slice none 0 0] 26), fun w => NatV w (.agg #[.slice p5 (digs B32 q).length c5]) q, fun w => NatV w (.agg #[.slice p6 (digs B32 r).length c6]) r] (wants0 rfl)
  · intro w' h0 hK; have hR := hK.get (F := Has 0 (w.heap.size + 1 + 1) (.cells #[.slice none 0 0] 26)) (by repeat (first | exact List.mem_cons_self .. | apply List.mem_cons_of_mem)); have hR' := hK.get (F := Has 0 (w.heap.size + 1 + 1 + 1) (.cells #[.slice none 0 0] 26)) (by repeat (first | exact List.mem_cons_self .. | apply List.mem_cons_of_mem)); have hN := hK.get (F := fun w => NatV w (.agg #[.slice p5 (digs B32 q).length c5]) q) (by repeat (first | exact List.mem_cons_self .. | apply List.mem_cons_of_mem)); have hN' := hK.get (F := fun w => NatV w (.agg #[.slice p6 (digs B32 r).length c6]) r) (by repeat (first | exact List.mem_cons_self .. | apply List.mem_cons_of_mem)); have c1 := hasCell hR; have f1 := hasFree hR; go_simp; exact ⟨rfl, ks_set h0 (by omega) _ all0, ks_set hK (by omega) _ (all1 (fun w2 hb => has_set hR _ hb) (all1 (fun w2 hb => has_far hR' (by omega) _ hb) (all1 (fun w2 hb => nat_set hN hR _ hb) (all1 (fun w2 hb => nat_set hN' hR _ hb) all0))))⟩
  simp only [Act.put]
  apply lxS0 [Has 0 (w.heap.size + 1 + 1) (.cells #[.slice p5 (digs B32 q).length c5] 26), Has 0 (w.heap.size + 1 + 1 + 1) (.cells #[.slice p6 (digs B32 r).length c6] 26), fun w => NatV w (.agg #[.slice p5 (digs B32 q).length c5]) q, fun w => NatV w (.agg #[.slice p6 (digs B32 r).length c6]) r] (wants0 rfl)
  · intro w' h0 hK; have hR := hK.get (F := Has 0 (w.heap.size + 1 + 1 + 1) (.cells #[.slice none 0 0] 26)) (by repeat (first | exact List.mem_cons_self .. | apply List.mem_cons_of_mem)); have hR' := hK.get (F := Has 0 (w.heap.size + 1 + 1) (.cells #[.slice p5 (digs B32 q).length c5] 26)) (by repeat (first | exact List.mem_cons_self .. | apply List.mem_cons_of_mem)); have hN := hK.get (F := fun w => NatV w (.agg #[.slice p5 (digs B32 q).length c5]) q) (by repeat (first | exact List.mem_cons_self .. | apply List.mem_cons_of_mem)); have hN' := hK.get (F := fun w => NatV w (.agg #[.slice p6 (digs B32 r).length c6]) r) (by repeat (first | exact List.mem_cons_self .. | apply List.mem_cons_of_mem)); have c1 := hasCell hR; have f1 := hasFree hR; go_simp; exact ⟨rfl, ks_set h0 (by omega) _ all0, ks_set hK (by omega) _ (all1 (fun w2 hb => has_far hR' (by omega) _ hb) (all1 (fun w2 hb => has_set hR _ hb) (all1 (fun w2 hb => nat_set hN hR _ hb) (all1 (fun w2 hb => nat_set hN' hR _ hb) all0))))⟩
  simp only [Act.put]
  apply lxF0 (wants0 rfl); (· intro w' h0; have hw' := h0.old; go_simp; (try go_bits); exact ⟨rfl, rfl⟩); simp only [Act.put, List.setIfInBounds_toArray, List.set_cons_zero, List.set_cons_succ]
  refine lxEnd (fun W9 hK9 => ?_)
  have k2 := hasCell (hK9.get (F := Has 0 (w.heap.size + 1 + 1) (.cells #[.slice p5 (digs B32 q).length c5] 26)) (by repeat (first | exact List.mem_cons_self .. | apply List.mem_cons_of_mem)))
  have k3 := hasCell (hK9.get (F := Has 0 (w.heap.size + 1 + 1 + 1) (.cells #[.slice p6 (digs B32 r).length c6] 26)) (by repeat (first | exact List.mem_cons_self .. | apply List.mem_cons_of_mem)))
  have hx := hK9.get (F := fun w => NatV w (.agg #[.slice p5 (digs B32 q).length c5]) q) (by repeat (first | exact List.mem_cons_self .. | apply List.mem_cons_of_mem))
  have hy := hK9.get (F := fun w => NatV w (.agg #[.slice p6 (digs B32 r).length c6]) r) (by repeat (first | exact List.mem_cons_self .. | apply List.mem_cons_of_mem))
  go_wp2
  exact bodyPost_ret (v := .tuple #[.agg #[.slice p5 (digs B32 q).length c5], .agg #[.slice p6 (digs B32 r).length c6], .int .i64 0]) (by simp [results, Tryd.results22, go_sem, k2, k3]) rfl ⟨_, _, rfl, hx, hy, hK9.old⟩

set_option maxRecDepth 100000 in
set_option maxHeartbeats 4000000 in
theorem divmod_long (v u : Value) (n m : Nat) (w : World) (hv : NatV w v n) (hu : NatV w u m) (hm1 : 4294967296 ≤ m) (hle : m ≤ n) (hn : 18446744073709551616 ≤ n) (hl : (digs B32 n).length ≤ 100000) :
    Calls Tryd.prog 22 #[v, u] w fun e w' => ∃ x y, e = .returned (.tuple #[x, y, .int .i64 0]) ∧ NatV w' x (n / m) ∧ NatV w' y (n % m) ∧ Below w.heap.size w w' := by
  have hm : m ≠ 0 := by omega
  have hlm : (digs B32 m).length ≤ (digs B32 n).length := digs_mono hle
  have hl2 : 2 ≤ (digs B32 m).length := digs_len_ge b32_2 1 m (by rw [b32]; omega)
  have HZ := hid (fun w1 (hb : Below w.heap.size w w1) => isZero_any u m w1 (hu.below hb))
  have HC := hid (fun w1 (hb : Below w.heap.size w w1) => cmp_any v u n m w1 (hv.below hb) (hu.below hb) (by omega) (by omega))
  have HU := hid (fun w1 (hb : Below w.heap.size w w1) => uint64_any v n w1 (hv.below hb))
  have HU' := hid (fun w1 (hb : Below w.heap.size w w1) => uint64_any u m w1 (hu.below hb))
  rw [show (m == 0) = false by simpa using hm] at HZ
  rw [show u64V n = .tuple #[.int .u64 0, .bool false] by unfold u64V; rw [if_neg (by omega), decide_eq_false (by omega)]] at HU
  have hcn : ¬ cmpN n m < 0 := by unfold cmpN; rw [if_neg (by omega)]; split <;> omega
  obtain ⟨P, c, rfl, hp⟩ := hv.digp
  obtain ⟨Q, c', rfl, hq⟩ := hu.digp
  have HDL := hid (fun w1 (hb : Below w.heap.size w w1) => long_core P Q c c' (digs B32 n) (digs B32 m) w1 (hp.below hb) (hq.below hb) (digs_lt b32_2 n) (digs_lt b32_2 m) hl2 hlm hl (fun k hk hk1 h0 => by
    have h3 := val_top (B := B32) (show (digs B32 m).length = k + 1 by omega)
    rw [val_digs b32_2, h0, Nat.mul_zero, Nat.add_zero] at h3
    have h4 := take_lt b32_2 (digs_lt b32_2 m) (k := k) (by omega)
    rw [← h3] at h4
    have := digs_len_le b32_2 k m h4
    omega))
  rw [val_digs b32_2, val_digs b32_2] at HDL
  unfold u64V at HU'
  obtain ⟨m64, hm64⟩ : ∃ m64 : Int, (if m < 18446744073709551616 then (m : Int) else 0) = m64 := ⟨_, rfl⟩
  obtain ⟨bm, hbm⟩ : ∃ bm, decide (m < 18446744073709551616) = bm := ⟨_, rfl⟩
  rw [hm64, hbm] at HU'
  obtain ⟨cm, hcm⟩ : ∃ cm, cmpN n m = cm := ⟨_, rfl⟩
  rw [hcm] at hcn HC
  obtain ⟨ln, hlne⟩ : ∃ ln, (digs B32 n).length = ln := ⟨_, rfl⟩
  obtain ⟨lm, hlme⟩ : ∃ lm, (digs B32 m).length = lm := ⟨_, rfl⟩
  rw [hlne, hlme] at HC HDL
  rw [hlne] at HU ⊢
  rw [hlme] at HZ HU' hl2 ⊢
  obtain ⟨q, hqe⟩ : ∃ q, n / m = q := ⟨_, rfl⟩
  obtain ⟨r, hre⟩ : ∃ r, n % m = r := ⟨_, rfl⟩
  rw [hqe, hre] at HDL ⊢
  have hl1 : ((lm : Int) == 1) = false := by rw [beq_eq_false_iff_ne]; omega
  clear hp hq hv hu hlm hcm hlne hlme hqe hre hl hn hm hm1 hle hm64 hbm
  go_enter Tryd.func22, Tryd.ntmps22
  go_upto_region 1 with (fail)
  obtain ⟨W0, hW0, hB0⟩ := box4_head (.slice P ln c) (.slice Q lm c') w
  rw [← hW0]
  clear hW0
  have a1 := cell_box1 hB0.k1
  go_upto_region 3 with (go_at_call 18; refine (HZ.out _ hB0.old).mono ?_; clear HZ; rintro e W1 ⟨rfl, hw1⟩; have hB1 := hB0.below hw1)
  clear hB0 hw1 a1
  have a0 := cell_box1 hB1.k0
  have a1 := cell_box1 hB1.k1
  go_upto_region 5 with (go_at_call 17; refine (HC.out _ hB1.old).mono ?_; clear HC; rintro e W2 ⟨rfl, hw2⟩; have hB2 := hB1.below hw2)
  clear hB1 hw2 a0 a1
  have a0 := cell_box1 hB2.k0
  go_upto_region 6 with (go_at_call 26; refine (HU.out _ hB2.old).mono ?_; clear HU; rintro e W3 ⟨rfl, hw3⟩; have hB3 := hB2.below hw3)
  clear hB2 hw3 a0
  have a1 := cell_box1 hB3.k1
  go_upto_region 9 with (go_at_call 26; refine (HU'.out _ hB3.old).mono ?_; clear HU'; rintro e W4 ⟨rfl, hw4⟩; have hB4 := hB3.below hw4)
  clear hB3 hw4 a1
  have a0 := cell_box1 hB4.k0
  have a1 := cell_box1 hB4.k1
  go_upto_region 13 with (go_at_call 49; refine (HDL.out _ hB4.old).mono ?_; clear HDL; rintro e W5 ⟨x, y, rfl, hx, hy, hw5⟩; have hB5 := hB4.below hw5; obtain ⟨p5, c5, rfl, _⟩ := hx.dig; obtain ⟨p6, c6, rfl, _⟩ := hy.dig)
  obtain ⟨V3, hVV, hK0, hK⟩ : ∃ VV, VV = (W5.alloc (.cells #[.slice p5 (digs B32 q).length c5] 26)).alloc (.cells #[.slice p6 (digs B32 r).length c6] 26) ∧ KS w [Has 0 W5.heap.size (.cells #[.slice p5 (digs B32 q).length c5] 26), Has 0 (W5.heap.size + 1) (.cells #[.slice p6 (digs B32 r).length c6] 26)] VV ∧ KS w [Has 0 (w.heap.size + 1 + 1) (.cells #[.slice none 0 0] 26), Has 0 (w.heap.size + 1 + 1 + 1) (.cells #[.slice none 0 0] 26), fun w => NatV w (.agg #[.slice p5 (digs B32 q).length c5]) q, fun w => NatV w (.agg #[.slice p6 (digs B32 r).length c6]) r] VV := by
    have g1 := (Below.refl W5.heap.size W5).alloc (Nat.le_refl _) (.cells #[.slice p5 (digs B32 q).length c5] 26)
    have g2 := g1.alloc (by simp) (.cells #[.slice p6 (digs B32 r).length c6] 26)
    have g3 := heap_new (W5.alloc (.cells #[.slice p5 (digs B32 q).length c5] 26)) (.cells #[.slice p6 (digs B32 r).length c6] 26)
    rw [World.size_alloc] at g3
    have g4 := (Below.heap_alloc (W5.alloc (.cells #[.slice p5 (digs B32 q).length c5] 26)) (.cells #[.slice p6 (digs B32 r).length c6] 26) W5.heap.size (by simp)).trans (heap_new W5 _)
    have hB6 := hB5.below g2
    exact ⟨_, rfl, ⟨hB6.old, all1 (fun w2 hb => Has.below ⟨Nat.zero_le _, g4⟩ hb) (all1 (fun w2 hb => Has.below ⟨Nat.zero_le _, g3⟩ hb) all0)⟩, ⟨hB6.old, all1 (fun w2 hb => Has.below ⟨Nat.zero_le _, hB6.k2⟩ hb) (all1 (fun w2 hb => Has.below ⟨Nat.zero_le _, hB6.k3⟩ hb) (all1 (fun w2 hb => (hx.below g2).below hb) (all1 (fun w2 hb => (hy.below g2).below hb) all0)))⟩⟩
  have hs5 := hB5.sz
  rw [← hVV]
  clear hVV hx hy hB4 hB5 hw5 a0 a1
  generalize W5.heap.size = R13 at hK0 hs5 ⊢
  refine wp_region_float0 (w) [_, _] _ [0, 0, 4, 4, 0] (by kernel_rfl) (by kernel_rfl) (by kernel_rfl) (by kernel_rfl) (KS.drew hK0) (KS.drew hK) ?_
  apply lxF0 (wants0 rfl); (· intro w' h0; have hw' := h0.old; have c13 := hasCell (h0.get (F := Has 0 R13 (.cells #[.slice p5 (digs B32 q).length c5] 26)) (by repeat (first | exact List.mem_cons_self .. | apply List.mem_cons_of_mem))); have c14 := hasCell (h0.get (F := Has 0 (R13 + 1) (.cells #[.slice p6 (digs B32 r).length c6] 26)) (by repeat (first | exact List.mem_cons_self .. | apply List.mem_cons_of_mem))); go_simp; (try go_bits); exact ⟨rfl, rfl⟩); simp only [Act.put, List.setIfInBounds_toArray, List.set_cons_zero, List.set_cons_succ]
  apply lxF0 (wants0 rfl); (· intro w' h0; have hw' := h0.old; have c13 := hasCell (h0.get (F := Has 0 R13 (.cells #[.slice p5 (digs B32 q).length c5] 26)) (by repeat (first | exact List.mem_cons_self .. | apply List.mem_cons_of_mem))); have c14 := hasCell (h0.get (F := Has 0 (R13 + 1) (.cells #[.slice p6 (digs B32 r).length c6] 26)) (by repeat (first | exact List.mem_cons_self .. | apply List.mem_cons_of_mem))); go_simp; (try go_bits); exact ⟨rfl, rfl⟩); simp only [Act.put, List.setIfInBounds_toArray, List.set_cons_zero, List.set_cons_succ]
  apply lxS0 [Has 0 (w.heap.size + 1 + 1) (.cells #[.slice p5 (digs B32 q).length c5] 26), Has 0 (w.heap.size + 1 + 1 + 1) (.cells #[.slice none 0 0] 26), fun w => NatV w (.agg #[.slice p5 (digs B32 q).length c5]) q, fun w => NatV w (.agg #[.slice p6 (digs B32 r).length c6]) r] (wants0 rfl)
  · intro w' h0 hK; have g13 := h0.get (F := Has 0 R13 (.cells #[.slice p5 (digs B32 q).length c5] 26)) (by repeat (first | exact List.mem_cons_self .. | apply List.mem_cons_of_mem)); have g14 := h0.get (F := Has 0 (R13 + 1) (.cells #[.slice p6 (digs B32 r).length c6] 26)) (by repeat (first | exact List.mem_cons_self .. | apply List.mem_cons_of_mem)); have hR := hK.get (F := Has 0 (w.heap.size + 1 + 1) (.cells #[.slice none 0 0] 26)) (by repeat (first | exact List.mem_cons_self .. | apply List.mem_cons_of_mem)); have hR' := hK.get (F := Has 0 (w.heap.size + 1 + 1 + 1) (.cells #[.slice none 0 0] 26)) (by repeat (first | exact List.mem_cons_self .. | apply List.mem_cons_of_mem)); have hN := hK.get (F := fun w => NatV w (.agg #[.slice p5 (digs B32 q).length c5]) q) (by repeat (first | exact List.mem_cons_self .. | apply List.mem_cons_of_mem)); have hN' := hK.get (F := fun w => NatV w (.agg #[.slice p6 (digs B32 r).length c6]) r) (by repeat (first | exact List.mem_cons_self .. | apply List.mem_cons_of_mem)); have c1 := hasCell hR; have f1 := hasFree hR; go_simp; exact ⟨rfl, ks_set h0 (by omega) _ (all1 (fun w2 hb => has_far g13 (by omega) _ hb) (all1 (fun w2 hb => has_far g14 (by omega) _ hb) all0)), ks_set hK (by omega) _ (all1 (fun w2 hb => has_set hR _ hb) (all1 (fun w2 hb => has_far hR' (by omega) _ hb) (all1 (fun w2 hb => nat_set hN hR _ hb) (all1 (fun w2 hb => nat_set hN' hR _ hb) all0))))⟩
  simp only [Act.put]
  apply lxS0 [Has 0 (w.heap.size + 1 + 1) (.cells #[.slice p5 (digs B32 q).length c5] 26), Has 0 (w.heap.size + 1 + 1 + 1) (.cells #[.slice p6 (digs B32 r).length c6] 26), fun w => NatV w (.agg #[.slice p5 (digs B32 q).length c5]) q, fun w => NatV w (.agg #[.slice p6 (digs B32 r).length c6]) r] (wants0 rfl)
  · intro w' h0 hK; have g13 := h0.get (F := Has 0 R13 (.cells #[.slice p5 (digs B32 q).length c5] 26)) (by repeat (first | exact List.mem_cons_self .. | apply List.mem_cons_of_mem)); have g14 := h0.get (F := Has 0 (R13 + 1) (.cells #[.slice p6 (digs B32 r).length c6] 26)) (by repeat (first | exact List.mem_cons_self .. | apply List.mem_cons_of_mem)); have hR := hK.get (F := Has 0 (w.heap.size + 1 + 1 + 1) (.cells #[.slice none 0 0] 26)) (by repeat (first | exact List.mem_cons_self .. | apply List.mem_cons_of_mem)); have hR' := hK.get (F := Has 0 (w.heap.size + 1 + 1) (.cells #[.slice p5 (digs B32 q).length c5] 26)) (by repeat (first | exact List.mem_cons_self .. | apply List.mem_cons_of_mem)); have hN := hK.get (F := fun w => NatV w (.agg #[.slice p5 (digs B32 q).length c5]) q) (by repeat (first | exact List.mem_cons_self .. | apply List.mem_cons_of_mem)); have hN' := hK.get (F := fun w => NatV w (.agg #[.slice p6 (digs B32 r).length c6]) r) (by repeat (first | exact List.mem_cons_self .. | apply List.mem_cons_of_mem)); have c1 := hasCell hR; have f1 := hasFree hR; go_simp; exact ⟨rfl, ks_set h0 (by omega) _ (all1 (fun w2 hb => has_far g13 (by omega) _ hb) (all1 (fun w2 hb => has_far g14 (by omega) _ hb) all0)), ks_set hK (by omega) _ (all1 (fun w2 hb => has_far hR' (by omega) _ hb) (all1 (fun w2 hb => has_set hR _ hb) (all1 (fun w2 hb => nat_set hN hR _ hb) (all1 (fun w2 hb => nat_set hN' hR _ hb) all0))))⟩
  simp only [Act.put]
  apply lxF0 (wants0 rfl); (· intro w' h0; have hw' := h0.old; have c13 := hasCell (h0.get (F := Has 0 R13 (.cells #[.slice p5 (digs B32 q).length c5] 26)) (by repeat (first | exact List.mem_cons_self .. | apply List.mem_cons_of_mem))); have c14 := hasCell (h0.get (F := Has 0 (R13 + 1) (.cells #[.slice p6 (digs B32 r).length c6] 26)) (by repeat (first | exact List.mem_cons_self .. | apply List.mem_cons_of_mem))); go_simp; (try go_bits); exact ⟨rfl, rfl⟩); simp only [Act.put, List.setIfInBounds_toArray, List.set_cons_zero, List.set_cons_succ]
  refine lxEnd (fun W9 hK9 => ?_)
  have k2 := hasCell (hK9.get (F := Has 0 (w.heap.size + 1 + 1) (.cells #[.slice p5 (digs B32 q).length c5] 26)) (by repeat (first | exact List.mem_cons_self .. | apply List.mem_cons_of_mem)))
  have k3 := hasCell (hK9.get (F := Has 0 (w.heap.size + 1 + 1 + 1) (.cells #[.slice p6 (digs B32 r).length c6] 26)) (by repeat (first | exact List.mem_cons_self .. | apply List.mem_cons_of_mem)))
  have hx := hK9.get (F := fun w => NatV w (.agg #[.slice p5 (digs B32 q).length c5]) q) (by repeat (first | exact List.mem_cons_self .. | apply List.mem_cons_of_mem))
  have hy := hK9.get (F := fun w => NatV w (.agg #[.slice p6 (digs B32 r).length c6]) r) (by repeat (first | exact List.mem_cons_self .. | apply List.mem_cons_of_mem))
  go_wp2
  exact bodyPost_ret (v := .tuple #[.agg #[.slice p5 (digs B32 q).length c5], .agg #[.slice p6 (digs B32 r).length c6], .int .i64 0]) (by simp [results, Tryd.results22, go_sem, k2, k3]) rfl ⟨_, _, rfl, hx, hy, hK9.old⟩
end Go.Proofs.YtepljhpamconbaaDoor
