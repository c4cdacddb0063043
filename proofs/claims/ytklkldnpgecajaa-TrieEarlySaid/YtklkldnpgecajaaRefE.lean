/- The reference's table of routes: Remove of a route that is there. -/
import Derived.Test.YtklkldnpgecajaaRefD
namespace Go.Proofs.Ytklkldnpgecajaa
open Go.RowKit Go.Shelf

theorem del_at {a n : Nat} : ∀ {l : List Rt} (i k : Nat), l.Pairwise Rt.lt → fndI a (n : Int) i l = ((i + k : Nat) : Int) → k < l.length → l.take k ++ l.drop (k + 1) = delL a n l
  | [], _, _, _, _, h => by cases h
  | x :: l, i, k, hs, hf, hk => by
    obtain ⟨a1, a2⟩ := List.pairwise_cons.1 hs
    unfold fndI at hf
    by_cases h : x.a = a ∧ (x.n : Int) = (n : Int)
    · rw [if_pos h] at hf
      obtain rfl : k = 0 := by omega
      have hx : x.is a n := ⟨h.1, by omega⟩
      have hno : ∀ y ∈ l, ¬ y.is a n := fun y hy e => by
        have := a1 y hy
        unfold Rt.is at hx e
        unfold Rt.lt at this
        omega
      simp only [List.take_zero, List.nil_append, Nat.zero_add, List.drop_succ_cons, List.drop_zero, delL, List.filter_cons]
      rw [if_neg (by simp [hx])]
      exact (List.filter_eq_self.2 fun y hy => by simp [hno y hy]).symm
    · rw [if_neg h] at hf
      have hx : ¬ x.is a n := fun e => h ⟨e.1, by have := e.2; omega⟩
      cases k with
      | zero =>
        exfalso
        rcases fnd_get a (n : Int) l (i + 1) with h1 | ⟨j, _, h1, _⟩ <;> omega
      | succ k =>
        have := del_at (i + 1) k a2 (by rw [hf]; omega) (by simpa using hk)
        simp only [List.take_succ_cons, List.drop_succ_cons, List.cons_append, delL, List.filter_cons]
        rw [if_pos (by simp [hx])]
        rw [this]; rfl

/-- The cells of a table from some place on. -/
theorem tab_cells {W : World} {g : Nat} {L : List Rt} (h : TabIn W g L) (i j : Nat) (u : Value) : ((L.drop i).flatMap Rt.cells)[j]? = some u → W.cell? ((⟨g, i * 3, none⟩ : Addr).add j) = some u := by
  intro hu
  have he : (⟨g, i * 3, none⟩ : Addr).add j = ⟨g, i * 3 + j, none⟩ := by unfold Addr.add; split <;> simp_all
  rw [he]
  have hj : j < (L.drop i).length * 3 := by
    have := (List.getElem?_eq_some_iff.1 hu).1
    rwa [rtcells_len] at this
  have hlen : (L.drop i).length = L.length - i := List.length_drop
  have hk : i + j / 3 < L.length := by omega
  have := flat_get (L.drop i) (j / 3) (by omega) (j % 3) (Nat.mod_lt _ (by omega))
  rw [show j / 3 * 3 + j % 3 = j by omega, hu] at this
  simp only [List.getElem_drop] at this
  have h0 := h.at0 _ hk
  have h1 := h.at1 _ hk
  have h2 := h.at2 _ hk
  have hm : j % 3 = 0 ∨ j % 3 = 1 ∨ j % 3 = 2 := by omega
  rcases hm with e | e | e
  · rw [e] at this; simp [Rt.cells] at this; rw [this, ← h0]; congr 2; omega
  · rw [e] at this; simp [Rt.cells] at this; rw [this, ← h1]; congr 2; omega
  · rw [e] at this; simp [Rt.cells] at this; rw [this, ← h2]; congr 2; omega
theorem tab_take {W : World} {g : Nat} {L : List Rt} (h : TabIn W g L) (k j : Nat) (u : Value) (hu : ((L.take k).flatMap Rt.cells)[j]? = some u) : W.cell? ((⟨g, 0, none⟩ : Addr).add j) = some u := by
  have := tab_cells h 0 j u
  simp only [List.drop_zero, Nat.zero_mul] at this
  refine this ?_
  have he : L.flatMap Rt.cells = (L.take k).flatMap Rt.cells ++ (L.drop k).flatMap Rt.cells := by rw [← List.flatMap_append, List.take_append_drop]
  rw [he, List.getElem?_append_left (List.getElem?_eq_some_iff.1 hu).1]
  exact hu

set_option maxRecDepth 100000 in
set_option maxHeartbeats 1000000 in
theorem rrem_good (g c : Nat) (L : List Rt) (a n k : Nat) (w : World) (hT : TabIn w g L) (hc : L.length ≤ 1000000) (hcap : L.length ≤ c) (hcm : c ≤ 9223372036854775807) (ha : W32 a) (hv : vld a (n : Int) = true) (hn : fndI a (n : Int) 0 L = (k : Int)) (hk : k < L.length) :
    Calls Try.prog 46 #[.slice (some ⟨g, 0, none⟩) L.length c, .agg #[.int .u32 (a : Int), .int .i64 (n : Int)]] w fun e w' =>
      ∃ v', e = .returned (.tuple #[v', .int .i64 0]) ∧ RowL w' w.heap.size v' (L.take k ++ L.drop (k + 1)) ∧ Below w.heap.size w w' := by
  obtain ⟨i0, hi, hz0, hz1, hz2⟩ := info_parts infoR
  have HV := hid (fun w1 => rvalid_any a n w1 ha)
  have HF := hid (fun w1 hT => find_some g c L a n w1 hT hc)
  rw [hv] at HV
  rw [hn] at HF
  clear hv hn
  go_enter Try.func46, Try.ntmps46
  go_wp2_with fail
  obtain ⟨W1, hW1, hsz, kB, hWb⟩ := box_head a n w
  have hT1 := hT.below hWb
  rw [← hW1]
  have hB1 : w.heap.size < W1.heap.size := by omega
  clear hW1 hsz hT
  have d0 := cell_of_pfx kB
  go_upto_region 6 with (first
    | (go_at_call 27; refine (HV.out _).mono ?_; clear HV; rintro e w2 ⟨rfl, hw2⟩; have hcc := cellsBelow hw2)
    | (go_at_call 39; refine (HF.out _ (hT1.below hw2)).mono ?_; clear HF; rintro e w3 ⟨rfl, hw3⟩))
  have hw13 := hw2.trans (hw3.mono hw2.size)
  clear hcc hw3 hw2 d0
  have hT3 := hT1.below hw13
  clear hT1
  refine wp_region_staged (fun w' => Below w3.heap.size w3 w') [2, 0, 0, 0, 2, 0, 0, 0, 0, 2, 0, 0] (by kernel_rfl) (by kernel_rfl) (by kernel_rfl) (by exact (Below.refl _ _).drew) ?_
  apply lexE (α := Nat) (fun x => .slice (some ⟨x, 0, none⟩) 0 0) (fun x w' => RowL w' w3.heap.size (.slice (some ⟨x, 0, none⟩) 0 0) [] ∧ Below w3.heap.size w3 w') rfl
  · intro w' hw'
    go_simp
    exact ⟨_, rfl, World.ownsRow_made _ #[] 0 hw'.size (by simp [maxLen]) (by simp), hw'.alloc hw'.size _⟩
  intro x
  simp only [Act.put, List.setIfInBounds_toArray, List.set_cons_zero, List.set_cons_succ]
  have q0 : (0 : Int) ≤ (k : Int) := by omega
  have q1 : (k : Int) ≤ (c : Int) := by omega
  have q2 : (k : Int) + 1 ≤ (L.length : Int) := by omega
  have q3 : (0 : Int) ≤ (k : Int) + 1 := by omega
  have q4 : (L.length : Int) ≤ (c : Int) := by omega
  have htl : (L.take k).length = k := by rw [List.length_take]; omega
  have hdl : (L.drop (k + 1)).length = L.length - (k + 1) := List.length_drop
  apply lexF rfl; (· intro _; go_simp; (try go_bits); exact ⟨rfl, rfl⟩); simp only [Act.put, List.setIfInBounds_toArray, List.set_cons_zero, List.set_cons_succ]
  apply lexF rfl; (· intro _; go_simp; (try go_bits); exact ⟨rfl, rfl⟩); simp only [Act.put, List.setIfInBounds_toArray, List.set_cons_zero, List.set_cons_succ]
  apply lexF rfl; (· intro _; go_simp; (try go_bits); exact ⟨rfl, rfl⟩); simp only [Act.put, List.setIfInBounds_toArray, List.set_cons_zero, List.set_cons_succ]
  apply lexE (α := Value) (fun v => v) (fun v w' => RowL w' w3.heap.size v (L.take k) ∧ Below w3.heap.size w3 w') rfl
  · rintro w' ⟨hr', hw'⟩
    refine does_append _ _ 26 rfl w3.heap.size 37 i0 _ 3 24 Try.underlying26 hi hz0 hz1 hz2 rfl (by decide) _ _ _ rfl hr' ⟨g, 0, none⟩ k c ((L.take k).flatMap Rt.cells) ?_ (by rw [rtcells_len, htl]) (fun j u hu => ?_) rt_one (by simp [maxLen]; omega) (by simp; omega) hw'.size ?_
    · rfl
    · exact tab_take (hT3.below hw') k j u hu
    · intro v' w'' h1 h2
      refine ⟨v', rfl, ?_, hw'.grown h2 hw'.size fun k hk => (hr'.lt k hk).1⟩
      unfold RowL
      simpa [htl] using h1
  intro v1
  simp only [Act.put, List.setIfInBounds_toArray, List.set_cons_zero, List.set_cons_succ]
  obtain ⟨ad, hif, hcells⟩ : ∃ ad, (if c = k + 1 then some (⟨g, 0, none⟩ : Addr) else some ⟨g, (k + 1) * 3, none⟩) = some ad ∧ ∀ w', Below w3.heap.size w3 w' → ∀ j u, ((L.drop (k + 1)).flatMap Rt.cells)[j]? = some u → w'.cell? (ad.add j) = some u := by
    by_cases h : c = k + 1
    · refine ⟨_, if_pos h, fun w' _ j u hu => ?_⟩
      rw [List.drop_eq_nil_of_le (by omega)] at hu
      cases hu
    · exact ⟨_, if_neg h, fun w' hw' j u hu => tab_cells (hT3.below hw') (k + 1) j u hu⟩
  have HIF := hid hif
  clear hif
  apply lexF rfl; (· intro _; go_simp; (try go_bits); exact ⟨rfl, rfl⟩); simp only [Act.put, List.setIfInBounds_toArray, List.set_cons_zero, List.set_cons_succ]
  apply lexF rfl; (· intro _; go_simp; (try go_bits); exact ⟨rfl, rfl⟩); simp only [Act.put, List.setIfInBounds_toArray, List.set_cons_zero, List.set_cons_succ]
  apply lexF rfl; (· intro _; go_simp; (try go_bits); exact ⟨rfl, rfl⟩); simp only [Act.put, List.setIfInBounds_toArray, List.set_cons_zero, List.set_cons_succ]
  apply lexF rfl; (· intro _; go_simp; (try go_bits); exact ⟨rfl, rfl⟩); simp only [Act.put, List.setIfInBounds_toArray, List.set_cons_zero, List.set_cons_succ]
  rw [HIF.out]
  apply lexE (α := Value) (fun v => v) (fun v w' => RowL w' w3.heap.size v (L.take k ++ L.drop (k + 1)) ∧ Below w3.heap.size w3 w') rfl
  · rintro w' ⟨hr', hw'⟩
    refine does_append _ _ 26 rfl w3.heap.size 37 i0 _ 3 24 Try.underlying26 hi hz0 hz1 hz2 rfl (by decide) _ _ _ rfl hr' ad (L.length - (k + 1)) (c - (k + 1)) ((L.drop (k + 1)).flatMap Rt.cells) rfl (by rw [rtcells_len, hdl]) (fun j u hu => hcells w' hw' j u hu) rt_one (by simp [maxLen]; omega) (by simp; omega) hw'.size ?_
    intro v' w'' h1 h2
    refine ⟨v', rfl, ?_, hw'.grown h2 hw'.size fun k hk => (hr'.lt k hk).1⟩
    unfold RowL
    simpa [htl, hdl] using h1
  intro v2
  simp only [Act.put, List.setIfInBounds_toArray, List.set_cons_zero, List.set_cons_succ]
  apply lexF rfl; (· intro _; go_simp; (try go_bits); exact ⟨rfl, rfl⟩); simp only [Act.put, List.setIfInBounds_toArray, List.set_cons_zero, List.set_cons_succ]
  apply lexF rfl; (· intro _; go_simp; (try go_bits); exact ⟨rfl, rfl⟩); simp only [Act.put, List.setIfInBounds_toArray, List.set_cons_zero, List.set_cons_succ]
  refine lexEnd (fun w4 hw4 => ?_)
  go_wp2
  go_ret2
  have := hw13.size
  exact ⟨v2, rfl, row_mono hw4.1 (by omega), hWb.trans ((hw13.trans (hw4.2.mono hw13.size)).mono (by omega))⟩

end Go.Proofs.Ytklkldnpgecajaa
