/- The law's helpers: small, number, is, same. -/
import Derived.Test.YtepljhpamconbaaDoorNatRF
namespace Go.Proofs.YtepljhpamconbaaDoor
open Go.RowKit
open Go.Lib (decDigits)

/-- What bounds a number's texts. -/
def Lim (n : Nat) : Prop := n < B32 ^ 200
theorem Lim.d32 {n : Nat} (h : Lim n) : (digs B32 n).length ≤ 200 := digs_len_le b32_2 _ _ h
theorem Lim.d6 {n : Nat} (h : Lim n) : (digs B6 n).length ≤ 400 := digs6_len (L := 200) h
theorem Lim.dec {n : Nat} (h : Lim n) : (decDigits n).length ≤ 3601 := dec_len (L := 200) h
theorem lim_of {n L : Nat} (h : n < B32 ^ L) (hL : L ≤ 200) : Lim n := Nat.lt_of_lt_of_le h (Nat.pow_le_pow_right (by decide) hL)
theorem dec_head (n : Nat) : (decDigits n).length = 1 ∨ (decDigits n).head? ≠ some 48 := by
  induction n using Nat.strongRecOn with
  | ind n ih =>
    by_cases h : n < 10
    · rw [dec_small h]; exact .inl rfl
    · refine .inr ?_
      rw [dec_big h]
      have hne := dec_ne (n / 10)
      have hh : (decDigits (n / 10) ++ [chr (n % 10)]).head? = (decDigits (n / 10)).head? := by
        cases hd : decDigits (n / 10) with
        | nil => exact absurd hd hne
        | cons x l => rfl
      rw [hh]
      rcases ih (n / 10) (by omega) with h1 | h1
      · have h2 : n / 10 < 10 := Nat.lt_of_not_le fun h3 => by
          rw [dec_big (by omega), List.length_append, List.length_singleton] at h1
          have := List.length_pos_iff.2 (dec_ne (n / 10 / 10)); omega
        rw [dec_small h2, List.head?_cons]
        intro h3
        injection h3 with h3
        have h4 := congrArg UInt8.toNat h3
        rw [chr_nat h2] at h4
        have : (48 : UInt8).toNat = 48 := rfl
        omega
      · exact h1
theorem parse_dec {n : Nat} (h : (decDigits n).length ≤ 1000) : parseErr (decDigits n) = 0 ∧ parseVal (decDigits n) = n := by
  have h1 := parse_good (dec_ne n) (dec_head n) (dec_digs n)
  rw [if_neg (by omega)] at h1
  refine ⟨h1, ?_⟩
  unfold parseVal; rw [if_pos h1, valT_dec]
theorem dec_size (n : Nat) : (⟨(decDigits n).toArray⟩ : ByteArray).size = (decDigits n).length := by
  show (decDigits n).toArray.size = _
  rw [List.size_toArray]
/-- A text of a number reads as the number. -/
theorem parse_back (n : Nat) (w : World) (h : (decDigits n).length ≤ 1000) :
    Calls Tryd.prog 14 #[.string ⟨(decDigits n).toArray⟩] w fun e w' => ∃ v, e = .returned (.tuple #[v, .int .i64 0]) ∧ NatV w' v n ∧ Below w.heap.size w w' := by
  have := parse_any ⟨(decDigits n).toArray⟩ w (by rw [dec_size]; omega)
  simp only [List.toList_toArray, (parse_dec h).1, (parse_dec h).2] at this
  exact this

set_option maxHeartbeats 1000000 in
theorem small_any (p q : Option Addr) (l m c d : Nat) (w : World) :
    Calls Tryd.prog 12 #[.slice p l c, .slice q m d] w fun e w' => e = .returned (.bool (decide (l ≤ 12 ∧ m ≤ 12))) ∧ w = w' := by
  by_cases h1 : l ≤ 12
  · have q1 : (l : Int) ≤ 12 := by omega
    by_cases h2 : m ≤ 12
    · have q2 : (m : Int) ≤ 12 := by omega
      rw [decide_eq_true ⟨h1, h2⟩]
      go_enter Tryd.func12, Tryd.ntmps12
      go_wp2
      go_ret
      exact ⟨rfl, rfl⟩
    · have q2 : ¬ (m : Int) ≤ 12 := by omega
      rw [decide_eq_false (fun h => h2 h.2)]
      go_enter Tryd.func12, Tryd.ntmps12
      go_wp2
      go_ret
      exact ⟨rfl, rfl⟩
  · have q1 : ¬ (l : Int) ≤ 12 := by omega
    rw [decide_eq_false (fun h => h1 h.1)]
    go_enter Tryd.func12, Tryd.ntmps12
    go_wp2
    go_ret
    exact ⟨rfl, rfl⟩

set_option maxRecDepth 100000 in
set_option maxHeartbeats 2000000 in
theorem is_any (v u : Value) (n m : Nat) (w : World) (hv : NatV w v n) (hu : RefV w u m) (ht : Tab w) (h1 : Lim n) (h2 : Lim m) :
    Calls Tryd.prog 16 #[v, u] w fun e w' => e = .returned (.bool (decide (n = m))) ∧ Below w.heap.size w w' := by
  have HT := hid (fun w1 (hb : Below w.heap.size w w1) => text_any v n w1 (hv.below hb) (ht.below hb) (by have := h1.d32; omega))
  have HR := hid (fun w1 (hb : Below w.heap.size w w1) => rtext_any u m w1 (hu.below hb) (by have := h2.d6; omega) (by have := h2.dec; omega))
  obtain ⟨P, c, rfl, hp⟩ := hv.digp
  have hd : (decDigits n = decDigits m) ↔ n = m := ⟨dec_inj, fun h => by rw [h]⟩
  obtain ⟨s1, hs1⟩ : ∃ s1 : ByteArray, (⟨(decDigits n).toArray⟩ : ByteArray) = s1 := ⟨_, rfl⟩
  obtain ⟨s2, hs2⟩ : ∃ s2 : ByteArray, (⟨(decDigits m).toArray⟩ : ByteArray) = s2 := ⟨_, rfl⟩
  have HE := hid (show decide (n = m) = (s1.toList == s2.toList) by
    rw [str_list, str_list, ← hs1, ← hs2]
    by_cases h : n = m
    · subst h; simp
    · rw [decide_eq_false h]
      symm
      rw [beq_eq_false_iff_ne]
      exact fun e => h (hd.1 e))
  rw [hs1] at HT
  rw [hs2] at HR
  clear hs1 hs2 hp hv hu ht h1 h2 hd
  go_enter Tryd.func16, Tryd.ntmps16
  go_upto_region 1 with (fail)
  obtain ⟨W1, hW1, hsz, kA, hWb⟩ := box1_head (.slice P (digs B32 n).length c) 26 w
  rw [← hW1]
  have b1 : w.heap.size < W1.heap.size := by omega
  have a0 := cell_box1 kA
  clear hW1 hsz
  go_wp2_with (first | (go_at_call 15; refine (HT.out _ hWb).mono ?_; clear HT; rintro e W2 ⟨rfl, hw2⟩; have hb2 := hWb.trans (hw2.mono hWb.size)) | (go_at_call 39; refine (HR.out _ hb2).mono ?_; clear HR; rintro e W3 ⟨rfl, hw3⟩; have hb3 := hb2.trans (hw3.mono hb2.size)))
  go_ret
  exact ⟨by rw [HE.out]; rfl, hb3⟩

/-- A store into a box of a number leaves the reference's groups. -/
theorem GV.box {W : World} {v : Value} {xs : List Nat} {R : Nat} {p : Option Addr} {l c : Nat} {t : TypeId} (h : GV W v xs) (hR : W.heap[R]? = some (.cells #[.slice p l c] t)) (u : Value) : GV (W.setCell ⟨R, 0, none⟩ u) v xs := by
  by_cases hn : xs = []
  · subst hn
    obtain ⟨p, c, rfl, _⟩ := h.slice
    exact .inl ⟨rfl, _, _, rfl⟩
  · refine h.imp id fun ⟨g, c, e, t, hc⟩ => ⟨g, c, e, ⟨by simpa [World.setCell] using t.lt, fun k hk => ?_⟩, hc⟩
    have hne : g ≠ R := fun e => by
      subst e
      have := t.at0 0 (List.length_pos_iff.2 hn)
      rw [cell_box1 hR] at this
      cases this
    rw [← t.at0 k hk]
    exact World.cell?_of_block (w := W) (Below.heap_setCell _ _ _ _ hne)
theorem RefV.box {W : World} {v : Value} {n : Nat} {R : Nat} {p : Option Addr} {l c : Nat} {t : TypeId} (h : RefV W v n) (hR : W.heap[R]? = some (.cells #[.slice p l c] t)) (u : Value) : RefV (W.setCell ⟨R, 0, none⟩ u) v n := GV.box h hR u
set_option maxRecDepth 100000 in
set_option maxHeartbeats 2000000 in
theorem number_any (v : Value) (ds : List Nat) (w : World) (hv : InV w v ds) (hd : ∀ d ∈ ds, d < B32) (hl : ds.length ≤ 12) :
    Calls Tryd.prog 13 #[v] w fun e w' => ∃ x y, e = .returned (.tuple #[x, y]) ∧ NatV w' x (val B32 ds) ∧ RefV w' y (val B32 ds) ∧ Below w.heap.size w w' := by
  have hlim := val_lt b32_2 hd
  have hL : Lim (val B32 ds) := lim_of hlim (by omega)
  have HM := hid (fun w1 (hb : Below w.heap.size w w1) => make_any v ds w1 (hv.below hb) hd (by omega))
  have HR := hid (fun (u : Value) (w1 : World) (h : RefV w1 u (val B32 ds)) => rtext_any u _ w1 h (by have := hL.d6; omega) (by have := hL.dec; omega))
  have HP := hid (fun w1 => parse_back (val B32 ds) w1 (by have := dec_len hlim; omega))
  obtain ⟨n, hn⟩ : ∃ n, val B32 ds = n := ⟨_, rfl⟩
  rw [hn] at HM HR HP ⊢
  clear hn hlim hL hv hd
  go_enter Tryd.func13, Tryd.ntmps13
  go_upto_region 1 with (fail)
  obtain ⟨W1, hW1, hsz, kA, hWb⟩ := box1_head (.slice none 0 0) 26 w
  rw [← hW1]
  have b1 : w.heap.size < W1.heap.size := by omega
  clear hW1 hsz
  go_upto_region 2 with (go_at_call 38; refine (HM.out _ hWb).mono ?_; clear HM; rintro e W2 ⟨y, rfl, hy, hw2⟩; have hb2 := hWb.trans (hw2.mono hWb.size); have kA2 := (hw2.block _ b1).trans kA; have s2 := hw2.size; have HR1 := hid (HR.out y W2 hy); clear HR)
  go_upto_region 3 with (first | (go_at_call 39; refine HR1.out.mono ?_; clear HR1; rintro e W3 ⟨rfl, hw3⟩; have hb3 := hb2.trans (hw3.mono hb2.size); have kA3 := (hw3.block _ (by omega)).trans kA2; have s3 := hw3.size; have hy3 := hy.below hw3) | (go_at_call 14; refine (HP.out _).mono ?_; clear HP; rintro e W4 ⟨x, rfl, hx, hw4⟩; have hb4 := hb3.trans (hw4.mono hb3.size); have kA4 := (hw4.block _ (by omega)).trans kA3; have s4 := hw4.size; have hy4 := hy3.below hw4; obtain ⟨p, c4, rfl, _⟩ := hx.dig))
  obtain ⟨W5, hW5, hs5, kB5, hb5⟩ := box1_head (.slice p (digs B32 n).length c4) 26 W4
  rw [← hW5]
  have kA5 := (hb5.block _ (by omega)).trans kA4
  have hx5 := hx.below hb5
  have hy5 := hy4.below hb5
  have d0 := cell_box1 kB5
  have d1 := cell_box1 kA5
  have f1 := free_box1 kA5
  clear hW5
  have hc3 := res_store kA5 (.slice p (digs B32 n).length c4)
  have hx6 := hx5.store d1 (.slice p (digs B32 n).length c4)
  have hy6 := hy5.box kA5 (.slice p (digs B32 n).length c4)
  go_wp2
  refine bodyPost_ret (v := .tuple #[.agg #[.slice p (digs B32 n).length c4], y]) (by simp [results, Tryd.results13, go_sem, hc3]) rfl ⟨_, _, rfl, hx6, hy6, ?_⟩
  exact (hb4.trans (hb5.mono hb4.size)).setCell (p := ⟨w.heap.size, 0, none⟩) (Nat.le_refl _) _

end Go.Proofs.YtepljhpamconbaaDoor
