/- Helpers of the laws of rational numbers: brief. -/
import Derived.Test.YtiilkcdefpmimaaGreatDoorRatJ
namespace Go.Proofs.YtiilkcdefpmimaaGreatDoor
open Go.RowKit
open Go.Lib (decDigits)
structure NC where
  b : Value
  p : Option Addr
  l : Nat
  c : Nat
  q : Option Addr
  m : Nat
  d : Nat
def NC.cells (x : NC) : List Value := [x.b, .slice x.p x.l x.c, .slice x.q x.m x.d]
theorem nc_at : ∀ (L : List NC) (k : Nat) (h : k < L.length), (L.flatMap NC.cells)[3 * k + 1]? = some (.slice L[k].p L[k].l L[k].c) ∧ (L.flatMap NC.cells)[3 * k + 2]? = some (.slice L[k].q L[k].m L[k].d)
  | x :: L, 0, _ => ⟨rfl, rfl⟩
  | x :: L, k + 1, h => by
    have := nc_at L k (by simpa using h)
    rw [List.flatMap_cons, show 3 * (k + 1) + 1 = 3 * k + 1 + 3 by omega, show 3 * (k + 1) + 2 = 3 * k + 2 + 3 by omega]
    exact this
set_option maxRecDepth 100000 in
theorem brief_any (R : Nat) (L : List NC) (w : World) {base : Nat} (h : Has base R (.cells (L.flatMap NC.cells).toArray 43) w) (hl : L.length ≤ 1000) :
    Calls Tryz.prog 16 #[.slice (some ⟨R, 0, none⟩) L.length L.length] w fun e w' => e = .returned (.bool (decide (∀ x ∈ L, x.l ≤ 8 ∧ x.m ≤ 8))) ∧ Below w.heap.size w w' := by
  refine Calls.hide (fun Q0 hQ0 => ?_)
  go_enter Tryz.func16, Tryz.ntmps16
  go_wp2_with fail
  go_loopw [3] (fun i wr => ∃ k : Nat, k ≤ L.length ∧ i = .int .i64 k ∧ RowKit.Hid (∀ j (h : j < L.length), j < k → L[j].l ≤ 8 ∧ L[j].m ≤ 8) ∧ RowKit.Hid (wr = w)) (fun i _ => L.length - (intOf i).toNat)
  case atStart => exact ⟨0, Nat.zero_le _, rfl, hid (fun j _ h => absurd h (by omega)), hid rfl⟩
  case round =>
    obtain ⟨k, hk, rfl, HD, HW⟩ := hrel
    have hw := HW.out.symm
    subst hw
    clear HW
    by_cases hlt : k < L.length
    · have c1 := h.at (k * 3 + 1) (by rw [Nat.mul_comm]; exact (nc_at L k hlt).1)
      have c2 := h.at (k * 3 + 2) (by rw [Nat.mul_comm]; exact (nc_at L k hlt).2)
      obtain ⟨x, hx⟩ : ∃ x, L[k] = x := ⟨_, rfl⟩
      rw [hx] at c1 c2
      have HX := hid hx
      clear hx
      by_cases h1 : x.l ≤ 8
      · by_cases h2 : x.m ≤ 8
        · have HD' := hid (show ∀ j (h : j < L.length), j < k + 1 → L[j].l ≤ 8 ∧ L[j].m ≤ 8 from fun j h hj => by
            by_cases e : j = k
            · subst e; rw [HX.out]; exact ⟨h1, h2⟩
            · exact HD.out j h (by omega))
          go_wp2
          go_roundw
          case rel => exact ⟨k + 1, by omega, by go_num, HD', hid (by trivial)⟩
          case measure => simp [intOf]; omega
        · go_wp2
          (try go_ret)
          show Q0 (.returned (.bool false)) _
          obtain rfl := hQ0.out
          refine ⟨?_, Below.refl _ _⟩
          rw [decide_eq_false fun hh => h2 (by have := hh L[k] (List.getElem_mem _); rw [HX.out] at this; exact this.2)]
      · go_wp2
        (try go_ret)
        show Q0 (.returned (.bool false)) _
        obtain rfl := hQ0.out
        refine ⟨?_, Below.refl _ _⟩
        rw [decide_eq_false fun hh => h1 (by have := hh L[k] (List.getElem_mem _); rw [HX.out] at this; exact this.1)]
    · obtain rfl : k = L.length := by omega
      go_wp2
      (try go_ret)
      show Q0 (.returned (.bool true)) _
      obtain rfl := hQ0.out
      refine ⟨?_, Below.refl _ _⟩
      rw [decide_eq_true fun x hx => ?_]
      obtain ⟨j, hj, rfl⟩ := List.getElem_of_mem hx
      exact HD.out j hj hj
end Go.Proofs.YtiilkcdefpmimaaGreatDoor
