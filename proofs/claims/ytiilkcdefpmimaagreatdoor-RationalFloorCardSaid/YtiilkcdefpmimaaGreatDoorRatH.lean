/- The reference's cut of a text at its first slash. -/
import Derived.Test.YtiilkcdefpmimaaGreatDoorRatG
import Derived.Laws.Strings3
namespace Go.Proofs.YtiilkcdefpmimaaGreatDoor
open Go.RowKit
open Go.Lib (decDigits)
theorem cut_first {l : List UInt8} {k : Nat} (hk : k < l.length) (h : ∀ j (h : j < l.length), j < k → l[j] ≠ 47) (hc : l[k] = 47) : cutA l = l.take k ∧ cutB l = some (l.drop (k + 1)) := by
  have e : l = l.take k ++ 47 :: l.drop (k + 1) := by
    rw [← hc, ← List.drop_eq_getElem_cons hk, List.take_append_drop]
  have h1 : ∀ c ∈ l.take k, c ≠ 47 := fun c hc => by
    obtain ⟨j, hj, rfl⟩ := List.getElem_of_mem hc
    rw [List.length_take] at hj
    rw [List.getElem_take]
    exact h j (by omega) (by omega)
  have h2 := cut_at (l := l.take k) (m := l.drop (k + 1)) h1
  rw [← e] at h2
  exact h2
theorem ext_take (s : ByteArray) (k : Nat) : s.extract 0 k = ⟨(s.data.toList.take k).toArray⟩ := by
  apply ByteArray.ext
  apply Array.toList_inj.1
  simp [ByteArray.data_extract]
theorem ext_drop (s : ByteArray) (k : Nat) : s.extract k s.size = ⟨(s.data.toList.drop k).toArray⟩ := by
  apply ByteArray.ext
  apply Array.toList_inj.1
  rw [ByteArray.data_extract, Array.toList_extract, List.extract_eq_take_drop]
  exact List.take_of_length_le (by rw [List.length_drop]; exact Nat.le_refl _)
set_option maxRecDepth 100000 in
theorem rcut_any (s : ByteArray) (w : World) (hs : s.size ≤ 1000000) :
    Calls Tryz.prog 54 #[.string s] w fun e w' => e = .returned (.tuple #[.string ⟨(cutA s.data.toList).toArray⟩, .string ⟨((cutB s.data.toList).getD []).toArray⟩, .bool (cutB s.data.toList).isSome]) ∧ Below w.heap.size w w' := by
  refine Calls.hide (fun Q0 hQ0 => ?_)
  go_enter Tryz.func54, Tryz.ntmps54
  go_wp2_with fail
  go_loopw [5] (fun i wr => ∃ k : Nat, k ≤ s.size ∧ i = .int .i64 k ∧ RowKit.Hid (∀ j (h : j < s.data.toList.length), j < k → s.data.toList[j] ≠ 47) ∧ RowKit.Hid (Below w.heap.size w wr)) (fun i _ => s.size - (intOf i).toNat)
  case atStart => exact ⟨0, Nat.zero_le _, rfl, hid (fun j _ h => absurd h (by omega)), hid (Below.refl _ _)⟩
  case round =>
    obtain ⟨k, hk, rfl, HD, HW⟩ := hrel
    by_cases hlt : k < s.size
    · have hl : k < s.data.toList.length := by rw [str_len]; exact hlt
      by_cases hc : s[k].toNat = 47
      · have HC := hid (show s.data.toList[k] = 47 by rw [← str_at s k hlt]; exact UInt8.toNat_inj.1 hc)
        have hc' : ((s[k].toNat : Int) == 47) = true := by simp [hc]
        clear hc
        go_wp2
        have hk2 : wrap64 ((k : Int) + 1) = (k : Int) + 1 := by unfold wrap64; omega
        refine wp_region_float (wr) _ [0, 0, 0, 0, 0, 0, 0, 0, 0, 0] (by kernel_rfl) (by kernel_rfl) (by kernel_rfl) (by kernel_rfl) (KS.drew (KS.start wr)) ?_
        apply lxF0 (wants0 rfl); (· intro w' h0; have hw' := h0.old; go_simp; (try go_bits); exact ⟨rfl, rfl⟩); simp only [Act.put, List.setIfInBounds_toArray, List.set_cons_zero, List.set_cons_succ]
        apply lxF0 (wants0 rfl); (· intro w' h0; have hw' := h0.old; go_simp; (try go_bits); exact ⟨rfl, rfl⟩); simp only [Act.put, List.setIfInBounds_toArray, List.set_cons_zero, List.set_cons_succ]
        apply lxF0 (wants0 rfl); (· intro w' h0; have hw' := h0.old; go_simp; (try go_bits); exact ⟨rfl, rfl⟩); simp only [Act.put, List.setIfInBounds_toArray, List.set_cons_zero, List.set_cons_succ]
        apply lxF0 (wants0 rfl); (· intro w' h0; have hw' := h0.old; go_simp; (try go_bits); exact ⟨rfl, rfl⟩); simp only [Act.put, List.setIfInBounds_toArray, List.set_cons_zero, List.set_cons_succ]
        apply lxF0 (wants0 rfl); (· intro w' h0; have hw' := h0.old; go_simp; (try go_bits); exact ⟨rfl, rfl⟩); simp only [Act.put, List.setIfInBounds_toArray, List.set_cons_zero, List.set_cons_succ]
        apply lxF0 (wants0 rfl); (· intro w' h0; have hw' := h0.old; go_simp; (try go_bits); exact ⟨rfl, rfl⟩); simp only [Act.put, List.setIfInBounds_toArray, List.set_cons_zero, List.set_cons_succ]
        apply lxF0 (wants0 rfl); (· intro w' h0; go_simp; (try go_bits); rw [if_pos (by omega)]; exact ⟨rfl, rfl⟩); simp only [Act.put, List.setIfInBounds_toArray, List.set_cons_zero, List.set_cons_succ]
        apply lxF0 (wants0 rfl); (· intro w' h0; have hw' := h0.old; go_simp; (try go_bits); exact ⟨rfl, rfl⟩); simp only [Act.put, List.setIfInBounds_toArray, List.set_cons_zero, List.set_cons_succ]
        apply lxF0 (wants0 rfl); (· intro w' h0; have hw' := h0.old; go_simp; (try go_bits); exact ⟨rfl, rfl⟩); simp only [Act.put, List.setIfInBounds_toArray, List.set_cons_zero, List.set_cons_succ]
        apply lxF0 (wants0 rfl); (· intro w' h0; have hw' := h0.old; go_simp; (try go_bits); exact ⟨rfl, rfl⟩); simp only [Act.put, List.setIfInBounds_toArray, List.set_cons_zero, List.set_cons_succ]
        refine lxEnd (fun W9 hK => ?_)
        have HB := HW.out.trans (hK.old.mono HW.out.size)
        go_wp2
        have hcut := cut_first hl HD.out HC.out
        exact bodyPost_ret (v := .tuple #[.string (s.extract 0 k), .string (s.extract (k + 1) s.size), .bool true]) (by simp [results, Tryz.results54, go_sem]) rfl (by
          obtain rfl := hQ0.out
          refine ⟨?_, HB⟩
          rw [hcut.1, hcut.2, ext_take, ext_drop]
          rfl)
      · have hc' : ((s[k].toNat : Int) == 47) = false := by simp; omega
        have HD' := hid (show ∀ j (h : j < s.data.toList.length), j < k + 1 → s.data.toList[j] ≠ 47 from fun j h hj => by
          by_cases e : j = k
          · subst e
            rw [← str_at s j hlt]
            exact fun e => hc (by rw [e]; rfl)
          · exact HD.out j h (by omega))
        clear hc
        go_wp2
        go_roundw
        case rel => exact ⟨k + 1, by omega, by go_num, HD', HW⟩
        case measure => simp [intOf]; omega
    · obtain rfl : k = s.size := by omega
      have hcut := cut_none (l := s.data.toList) (fun c hc => by
        obtain ⟨j, hj, rfl⟩ := List.getElem_of_mem hc
        exact HD.out j hj (by rw [str_len] at hj; exact hj))
      go_wp2
      exact bodyPost_ret (v := .tuple #[.string s, .string ⟨#[]⟩, .bool false]) (by simp [results, Tryz.results54, go_sem]) rfl (by
        obtain rfl := hQ0.out
        refine ⟨?_, HW.out⟩
        rw [hcut.1, hcut.2]
        rfl)
end Go.Proofs.YtiilkcdefpmimaaGreatDoor
