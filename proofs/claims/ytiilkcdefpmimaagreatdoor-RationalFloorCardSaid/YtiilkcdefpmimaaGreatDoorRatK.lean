/- Helpers of the laws of rational numbers: brief. -/
import Derived.Test.YtiilkcdefpmimaaGreatDoorRatJ
namespace Go.Proofs.YtiilkcdefpmimaaGreatDoor
open Go.RowKit
open Go.Lib (decDigits)
structure NC where
  b : Value
  p : Option Addr
  l : Nat
  c : Nat
  q : Option Addr
  m : Nat
  d : Nat
def NC.cells (x : NC) : List Value := [x.b, .slice x.p x.l x.c, .slice x.q x.m x.d]
theorem nc_at : ∀ (L : List NC) (k : Nat) (h : k < L.length), (L.flatMap NC.cells)[3 * k + 1]? = some (.slice L[k].p L[k].l L[k].c) ∧ (L.flatMap NC.cells)[3 * k + 2]? = some (.slice L[k].q L[k].m L[k].d)
  | x :: L, 0, _ => ⟨rfl, rfl⟩
  | x :: L, k + 1, h => by
    have := nc_at L k (by simpa using h)
    rw [List.flatMap_cons, show 3 * (k + 1) + 1 = 3 * k + 1 + 3 by omega, show 3 * (k + 1) + 2 = 3 * k + 2 + 3 by omega]
    exact this
set_option maxRecDepth 100000 in
theorem brief_any (R : Nat) (L : List NC) (w : World) {base : Nat} (h : Has base R (.cells (L.flatMap NC.cells).toArray 43) w) (hl : L.length ≤ 1000) :
    Calls Tryz.prog 16 #[.slice (some ⟨R, 0, none⟩) L.length L.length] w fun e w' => e = .returned (.bool (decide (∀ x ∈ L, x.l ≤ 8 ∧ x.m ≤ 8))) ∧ Below w.heap.size w w' := by
  refine Calls.hide (fun Q0 hQ0 => ?_)
  go_enter Tryz.func16, Tryz.ntmps16
  go_wp2_with fail
  go_loopw [3] (fun i wr => ∃ k : Nat, k ≤ L.length ∧ i = .int .i64 k ∧ RowKit.Hid (∀ j (h : j < L.length), j < k → L[j].l ≤ 8 ∧ L[j].m ≤ 8) ∧ RowKit.Hid (wr = w)) (fun i _ => L.length - (intOf i).toNat)
  case atStart => exact ⟨0, Nat.zero_le _, rfl, hid (fun j _ h => absurd h (by omega)), hid rfl⟩
  case round =>
    obtain ⟨k, hk, rfl, HD, HW⟩ := hrel
    have hw := HW.out.symm
    subst hw
    clear HW
    by_cases hlt : k < L.length
    · have c1 := h.at (k * 3 + 1) (by rw [Nat.mul_comm]; exact (nc_at L k hlt).1)
      have c2 := h.at (k * 3 + 2) (by rw [Nat.mul_comm]; exact (nc_at L k hlt).2)
      obtain ⟨x, hx⟩ : ∃ x, L[k] = x := ⟨_, rfl⟩
      rw [hx] at c1 c2
      have HX := hid hx
      clear hx
      by_cases h1 : x.l ≤ 8
      · by_cases h2 : x.m ≤ 8
        · have HD' := hid (show ∀ j (h : j < L.length), j < k + 1 → L[j].l ≤ 8 ∧ L[j].m ≤ 8 from fun j h hj => by
            by_cases e : j = k
            · subst e; rw [HX.out]; exact ⟨h1, h2⟩
            · exact HD.out j h (by omega))
          go_wp2
          go_roundw
          case rel => exact ⟨k + 1, by omega, by go_num, HD', hid (by trivial)⟩
          case measure => simp [intOf]; omega
        · go_wp2
          (try go_ret)
          show Q0 (.returned (.bool false)) _
          obtain rfl := hQ0.out
          refine ⟨?_, Below.refl _ _⟩
          rw [decide_eq_false fun hh => h2 (by have := hh L[k] (List.getElem_mem _); rw [HX.out] at this; exact this.2)]
      · go_wp2
        (try go_ret)
        show Q0 (.returned (.bool false)) _
        obtain rfl := hQ0.out
        refine ⟨?_, Below.refl _ _⟩
        rw [decide_eq_false fun hh => h1 (by have := hh L[k] (List.getElem_mem _); rw [HX.out] at this; exact this.1)]
    · obtain rfl : k = L.length := by omega
      go_wp2
      (try go_ret)
      show Q0 (.returned (.bool true)) _
      obtain rfl := hQ0.out
      refine ⟨?_, Below.refl _ _⟩
      rw [decide_eq_true fun x hx => ?_]
      obtain ⟨j, hj, rfl⟩ := List.getElem_of_mem hx
      exact HD.out j hj hj
theorem conv_zeros (W : World) (D L : Nat) (h : ArrB W D (List.replicate L 48)) : (convert 91 9 (.slice (some ⟨D, 0, none⟩) L L)).run Tryz.prog W = .ok (.string ⟨(List.replicate L (48 : UInt8)).toArray⟩) W := by
  have := run_convert_bytes_back W 91 9 5 ⟨D, 0, none⟩ L (List.replicate L 48) Tryz.underlying91 Tryz.underlying5 Tryz.underlying9 (fun j hj => by
    rw [add_at, h.cell j (by simpa using hj)]
    simp)
  simpa using this
theorem fillz_step {k L : Nat} (hk : k < L) : (List.replicate k 48 ++ List.replicate (L - k) 0).set k 48 = List.replicate (k + 1) 48 ++ List.replicate (L - (k + 1)) 0 := by
  rw [show L - k = (L - (k + 1)) + 1 by omega, List.replicate_succ, List.set_append_right _ _ (by simp)]
  simp [List.replicate_succ']
set_option maxRecDepth 100000 in
theorem zeros_any (L : Nat) (w : World) (hL2 : L ≤ 2000) :
    Calls Tryz.prog 15 #[.int .i64 (L : Int)] w fun e w' => e = .returned (.string ⟨(List.replicate L (48 : UInt8)).toArray⟩) ∧ Below w.heap.size w w' := by
  obtain ⟨i0, hi, hz0, hz1, hz2⟩ := info_parts infoB
  refine Calls.hide (fun Q0 hQ0 => ?_)
  go_enter Tryz.func15, Tryz.ntmps15
  go_upto_region 2 with (at_make; go_loud (refine wpList_make_full _ rfl _ _ _ rfl w.heap.size 5 i0 _ 1 Tryz.underlying91 hi hz0 hz1 _ _ _ _ L rfl rfl (by simp) (by simp) (by rw [hz2]; omega) (by unfold maxLen; omega) (Nat.le_refl _) ?_; intro w2 hown hgr; have hb2 : Below w.heap.size w w2 := (Below.refl _ w).grown hgr (Nat.le_refl _) (by simp); have hA := arb_made hown; clear hown hgr))
  go_wp2_with fail
  go_loopw [4] (fun iv wr => ∃ k : Nat, k ≤ L ∧ iv = .int .i64 (k : Int) ∧ ArrB wr w.heap.size (List.replicate k 48 ++ List.replicate (L - k) 0) ∧ Below w.heap.size w wr) (fun iv _ => L - (intOf iv).toNat)
  case atStart => exact ⟨0, Nat.zero_le _, rfl, by simpa using hA, hb2⟩
  case round =>
    clear hA hb2
    obtain ⟨k, hk, rfl, harr, hold⟩ := hrel
    generalize wr = W5 at harr hold ⊢
    by_cases hlt : k < L
    · have hst := harr.store k 48
      rw [fillz_step hlt] at hst
      have c0 := harr.cell k (by simp; omega)
      have hfr := harr.free
      have hDl := harr.lt
      go_wp2
      go_roundw
      case rel => exact ⟨k + 1, by omega, by go_num, hst, hold.setCell (p := ⟨w.heap.size, k, none⟩) (Nat.le_refl _) _⟩
      case measure => simp [intOf]; omega
    · obtain rfl : k = L := by omega
      rw [Nat.sub_self, List.replicate_zero, List.append_nil] at harr
      have hcv := conv_zeros W5 w.heap.size k harr
      obtain ⟨T, hT⟩ : ∃ T : ByteArray, ⟨(List.replicate k (48 : UInt8)).toArray⟩ = T := ⟨_, rfl⟩
      rw [hT] at hcv
      have HTT := hid hT
      clear hT
      go_wp2
      (try go_ret)
      show Q0 (.returned (.string T)) _
      obtain rfl := hQ0.out
      exact ⟨by rw [HTT.out], hold⟩
end Go.Proofs.YtiilkcdefpmimaaGreatDoor
