/- divideLong. -/
import Derived.Test.YtepljhpamconbaaDoorNatOC
import Derived.Test.YtepljhpamconbaaDoorKnuthB
import Derived.Test.YtepljhpamconbaaDoorFloat
namespace Go.Proofs.YtepljhpamconbaaDoor
open Go.RowKit

theorem hasCell {base R : Nat} {w : World} {c : Value} {t : TypeId} (h : Has base R (.cells #[c] t) w) : w.cell? ⟨R, 0, none⟩ = some c := cell_box1 h.2
theorem hasFree {base R : Nat} {w : World} {c : Value} {t : TypeId} (h : Has base R (.cells #[c] t) w) : ∀ o, w.frozen? ⟨R, o, none⟩ = false := free_box1 h.2
theorem lt_two_bits : ∀ n : Nat, n < 2 ^ bitsN n := by
  intro n
  induction n using Nat.strongRecOn with
  | ind n ih =>
    by_cases h : n = 0
    · subst h; exact Nat.pow_pos (by decide)
    · rw [bitsN_pos h, Nat.pow_succ]
      have := ih (n / 2) (by omega)
      omega
theorem bits32_le : ∀ (k n : Nat), n < 2 ^ k → bitsN n ≤ k
  | 0, n, h => by
    have : n = 0 := by simpa using h
    subst this; rw [bitsN_zero]; exact Nat.le_refl _
  | k + 1, n, h => by
    by_cases h0 : n = 0
    · subst h0; rw [bitsN_zero]; omega
    · rw [bitsN_pos h0]
      have := bits32_le k (n / 2) (by rw [Nat.pow_succ] at h; omega)
      omega
theorem bitLen_eq {x : Nat} (h : x ≤ 4294967295) : Lib.bitLen x = bitsN x := bitLen_bits 64 x (by omega)
/-- How far the divisor is shifted. -/
theorem shift_fits {es : List Nat} {n1 : Nat} (hl : es.length = n1 + 1) (h1 : ∀ d ∈ es, d < B32) (h0 : es[n1] ≠ 0) :
    ∃ s : Nat, 32 - ((Lib.bitLen es[n1] : Nat) : Int) = (s : Int) ∧ s ≤ 31 ∧ val B32 es * 2 ^ s < B32 ^ (n1 + 1) := by
  have ht := h1 _ (List.getElem_mem (show n1 < es.length by omega))
  have hb : Lib.bitLen es[n1] = bitsN es[n1] := bitLen_eq (by rw [b32] at ht; omega)
  have hle := bits32_le 32 es[n1] ht
  have hge : 1 ≤ bitsN es[n1] := by rw [bitsN_pos h0]; omega
  refine ⟨32 - bitsN es[n1], by rw [hb]; omega, by omega, ?_⟩
  have e := val_top (B := B32) hl
  have hlow := take_lt b32_2 h1 (k := n1) (by omega)
  have h2 := lt_two_bits es[n1]
  have h3 : val B32 es < B32 ^ n1 * 2 ^ bitsN es[n1] := by
    have : B32 ^ n1 * (es[n1] + 1) ≤ B32 ^ n1 * 2 ^ bitsN es[n1] := Nat.mul_le_mul_left _ h2
    rw [Nat.mul_add] at this
    omega
  have h4 : val B32 es * 2 ^ (32 - bitsN es[n1]) < B32 ^ n1 * 2 ^ bitsN es[n1] * 2 ^ (32 - bitsN es[n1]) := Nat.mul_lt_mul_of_pos_right h3 (Nat.pow_pos (by decide))
  rw [Nat.mul_assoc, ← Nat.pow_add, show bitsN es[n1] + (32 - bitsN es[n1]) = 32 by omega] at h4
  exact h4
theorem top_start {ys : List Nat} {A S V m n k : Nat} (hA : A < B32 ^ m) (hv : B32 ^ (n - 1) * S ≤ V) (hS : 0 < S) (hk : k + n = m + 1) (hn : 1 ≤ n) (hl : ys.length = m + 1) (hy : val B32 ys = A * S) : val B32 (ys.drop k) < V := by
  have h1 := val_take_drop (B := B32) ys k (by omega)
  have h2 : A * S < B32 ^ m * S := Nat.mul_lt_mul_of_pos_right hA hS
  have h3 : B32 ^ k * (B32 ^ (n - 1) * S) ≤ B32 ^ k * V := Nat.mul_le_mul_left _ hv
  rw [← Nat.mul_assoc, ← Nat.pow_add, show k + (n - 1) = m by omega] at h3
  have h4 : B32 ^ k * val B32 (ys.drop k) < B32 ^ k * V := by omega
  exact Nat.lt_of_mul_lt_mul_left h4

/-- The state of divideLong's loop: the places from k on are done. -/
structure LongAt (w : World) (D E G m n V AS : Nat) (vs : List Nat) (k : Nat) (wr : World) : Prop where
  st : ∃ ys qs, Arr wr D ys ∧ ys.length = m + 1 ∧ (∀ y ∈ ys, y < B32) ∧ Arr wr G qs ∧ qs.length = m - n + 1 ∧ (∀ q ∈ qs, q < B32) ∧ val B32 (ys.drop k) < V ∧ val B32 (qs.drop k) * (B32 ^ k * V) + val B32 ys = AS
  v : Arr wr E vs
  b4 : wr.heap[w.heap.size]? = some (.cells #[.slice none 0 0] 26)
  b5 : wr.heap[w.heap.size + 1]? = some (.cells #[.slice none 0 0] 26)
  old : Below w.heap.size w wr
theorem LongAt.next {w wr w2 : World} {D E G m n V AS : Nat} {vs ys qs us' : List Nat} {j : Nat} (h : LongAt w D E G m n V AS vs (j + 1) wr) (hd : D ≠ E ∧ D ≠ G ∧ E ≠ G) (hb : w.heap.size + 1 < D ∧ w.heap.size + 1 < G) (hj : j + n ≤ m) (hys : ys.length = m + 1) (hyb : ∀ y ∈ ys, y < B32) (hqs : Arr wr G qs) (hql : qs.length = m - n + 1) (hqb : ∀ q ∈ qs, q < B32) (hlt : val B32 (ys.drop (j + 1)) < V) (hsum : val B32 (qs.drop (j + 1)) * (B32 ^ (j + 1) * V) + val B32 ys = AS) (hV : V < B32 ^ n) (hV0 : 0 < V)
    (hu : us'.length = n + 1) (hub : ∀ u ∈ us', u < B32) (hr : val B32 us' = val B32 ((ys.drop j).take (n + 1)) % V) (hw : Win w2 D (ys.take j) us' (ys.drop (j + n + 1))) (hg : wr.grownBy w2 (some D)) :
    LongAt w D E G m n V AS vs j (w2.setCell ⟨G, j, none⟩ (.int .u32 ((val B32 ((ys.drop j).take (n + 1)) / V : Nat) : Int))) := by
  obtain ⟨s1, s2, s3, s4, s5, s6⟩ := long_split b32_2 (ys := ys) (j := j) (n := n) (V := V) (by omega) hyb hlt hV
  obtain ⟨n1, n2⟩ := long_next (B := B32) s1 (by omega) s3 (by omega) hr hsum
  obtain ⟨_, g2, g3, g4, g5⟩ := hg
  have hG2 : Arr w2 G qs := arr_other hqs ⟨‹_›, g2, g3, g4, g5⟩ (fun e => hd.2.1 e.symm)
  have hE2 : Arr w2 E vs := arr_other h.v ⟨‹_›, g2, g3, g4, g5⟩ (fun e => hd.1 e.symm)
  have l4 := (Array.getElem?_eq_some_iff.1 h.b4).1
  have l5 := (Array.getElem?_eq_some_iff.1 h.b5).1
  refine ⟨⟨_, _, ?_, ?_, ?_, hG2.store j _, by simpa using hql, all_set hqb ?_, ?_, n1⟩, ?_, ?_, ?_, ?_⟩
  · unfold Arr; rw [setCell_far _ hd.2.1]; exact hw
  · rw [List.length_append, List.length_append, List.length_take, List.length_drop]; omega
  · intro y hy
    rcases List.mem_append.1 hy with hy | hy
    · rcases List.mem_append.1 hy with hy | hy
      · exact hyb y (List.mem_of_mem_take hy)
      · exact hub y hy
    · exact hyb y (List.mem_of_mem_drop hy)
  · rw [Nat.div_lt_iff_lt_mul hV0]; exact s5
  · rw [n2]; exact Nat.mod_lt _ hV0
  · unfold Arr; rw [setCell_far _ hd.2.2]; exact hE2
  · rw [setCell_far _ (by omega), g5 _ l4 (fun e => by injection e with e; omega)]; exact h.b4
  · rw [setCell_far _ (by omega), g5 _ l5 (fun e => by injection e with e; omega)]; exact h.b5
  · refine Below.setCell (p := ⟨G, j, none⟩) ?_ (by show _ ≤ G; omega) _
    exact h.old.trans ((grown_below ⟨‹_›, g2, g3, g4, g5⟩ (by have := Arr.lt hw; have h8 := h.old.size; obtain ⟨ys0, _, h9, _⟩ := h.st; exact Nat.le_of_lt h9.lt)).mono (by omega))

set_option maxRecDepth 100000 in
set_option maxHeartbeats 8000000 in
theorem long_core (P Q : Option Addr) (c c' : Nat) (ds es : List Nat) (w : World) (hd : DigP w P ds) (he : DigP w Q es) (h1 : ∀ d ∈ ds, d < B32) (h2 : ∀ d ∈ es, d < B32) (hn2 : 2 ≤ es.length) (hle : es.length ≤ ds.length) (hl : ds.length ≤ 100000) (ht : ∀ k (h : k < es.length), k + 1 = es.length → es[k] ≠ 0) :
    Calls Tryd.prog 49 #[.slice P ds.length c, .slice Q es.length c'] w fun e w' => ∃ x y, e = .returned (.tuple #[x, y]) ∧ NatV w' x (val B32 ds / val B32 es) ∧ NatV w' y (val B32 ds % val B32 es) ∧ Below w.heap.size w w' := by
  obtain ⟨i0, hi, hz0, hz1, hz2⟩ := info_parts infoU
  obtain ⟨n, hn⟩ : ∃ n, es.length = n := ⟨_, rfl⟩
  obtain ⟨n1, hn1⟩ : ∃ n1, n = n1 + 1 := ⟨n - 1, by omega⟩
  obtain ⟨n0, hn0⟩ : ∃ n0, n = n0 + 2 := ⟨n - 2, by omega⟩
  obtain ⟨m, hm⟩ : ∃ m, ds.length = m := ⟨_, rfl⟩
  have htop := ht n1 (by omega) (by omega)
  obtain ⟨s, hs, hs31, hfit⟩ := shift_fits (es := es) (n1 := n1) (by omega) h2 htop
  obtain ⟨g', rfl, he'⟩ := he.at (k := n1) (by omega)
  have htlt := h2 _ (List.getElem_mem (show n1 < es.length by omega))
  have HLZ := hid (fun (w1 : World) => Tryd.bits_LeadingZeros32 ((es[n1]'(by omega) : Nat) : Int) w1 (by omega) (by rw [b32] at htlt; omega))
  simp only [Int.toNat_natCast] at HLZ
  rw [hs] at HLZ
  have HSA := hid (fun w1 (hb : Below w.heap.size w w1) => shl_any P c s (m + 1) ds w1 (hd.below hb) h1 hs31 (by omega) (by omega) (by omega) (fun h => by omega))
  have HSB := hid (fun w1 (hb : Below w.heap.size w w1) => shl_any (some ⟨g', 0, none⟩) c' s n es w1 (he.below hb) h2 hs31 (by omega) (by omega) (by omega) (fun h => by rw [hn1]; exact hfit))
  rw [hm] at HSA
  rw [hn] at HSB
  obtain ⟨a, ha⟩ : ∃ a, val B32 ds = a := ⟨_, rfl⟩
  obtain ⟨b, hb⟩ : ∃ b, val B32 es = b := ⟨_, rfl⟩
  have hal : a < B32 ^ m := by rw [← ha, ← hm]; exact val_lt b32_2 h1
  have hbl : B32 ^ n1 ≤ b := by
    rw [← hb, val_top (B := B32) (show es.length = n1 + 1 by omega)]
    have : B32 ^ n1 * 1 ≤ B32 ^ n1 * es[n1] := Nat.mul_le_mul_left _ (Nat.pos_of_ne_zero htop)
    omega
  have hbu : b * 2 ^ s < B32 ^ n := by rw [← hb, hn1]; exact hfit
  rw [ha] at HSA ⊢
  rw [hb] at HSB ⊢
  have hSp : 0 < 2 ^ s := Nat.pow_pos (by decide)
  have he1 := he'.at0 n1 (by omega)
  have hgl := he'.lt
  obtain ⟨tp, htp⟩ : ∃ tp, es[n1]'(by omega) = tp := ⟨_, rfl⟩
  rw [htp] at he1 HLZ
  have hn1i : (n : Int) - 1 = (n1 : Int) := by omega
  rw [hn, hm]
  have HN := hid hn0
  have HN1 := hid hn1
  have hnm : n ≤ m := by omega
  have hm1 : m ≤ 100000 := by omega
  have hnp : 2 ≤ n := by omega
  have hn1n : (n1 : Int) < (n : Int) := by omega
  have hn1p : 0 ≤ (n1 : Int) := by omega
  obtain ⟨kk, hkk⟩ : ∃ kk, kk + n = m + 1 := ⟨m + 1 - n, by omega⟩
  have hmn : (m : Int) - (n : Int) + 1 = (kk : Int) := by omega
  have HA := hid (show True from trivial)
  clear hd he h1 h2 hn2 hle hl ht htop hs hfit he' htlt ha hb htp hn0 hn1 hn hm HA
  go_enter Tryd.func49, Tryd.ntmps49
  go_upto_region 1 with (fail)
  obtain ⟨W1, hW1, hsz1, k4, k5, hWb⟩ := box2_head (.slice none 0 0) (.slice none 0 0) 26 26 w
  rw [← hW1]
  have he2 : W1.cell? ⟨g', n1, none⟩ = some (.int .u32 (tp : Int)) := (hWb.cell (p := ⟨g', n1, none⟩) hgl).trans he1
  have hgl1 := Nat.lt_of_lt_of_le hgl hWb.size
  clear hW1 he1
  go_upto_region 2 with (go_at_call 62; refine (HLZ.out _).mono ?_; clear HLZ; rintro e w2 ⟨rfl, rfl⟩)
  clear he2 hgl1
  go_upto_region 3 with (go_at_call 63; refine (HSA.out _ hWb).mono ?_; clear HSA; rintro e W2 ⟨D, ys, rfl, hDg, hD, hyl, hyb, hyv, hw2⟩; have hb2 := hWb.trans (hw2.mono hWb.size); have k42 := (hw2.block _ (by omega)).trans k4; have k52 := (hw2.block _ (by omega)).trans k5)
  clear k4 k5 hw2
  have hDl := hD.lt
  go_upto_region 5 with (go_at_call 63; refine (HSB.out _ hb2).mono ?_; clear HSB; rintro e W3 ⟨E, vs, rfl, hEg, hE, hvl, hvb, hvv, hw3⟩; have hb3 := hb2.trans (hw3.mono hb2.size); have k43 := (hw3.block _ (by omega)).trans k42; have k53 := (hw3.block _ (by omega)).trans k52; have hD3 := hD.below hw3)
  clear k42 k52 hw3 hD hb2
  have hEl := hE.lt
  have hEne : D ≠ E := fun e => by subst e; omega
  have hD54 : w.heap.size + 1 < D := by omega
  have hVl : B32 ^ n1 ≤ b * 2 ^ s := Nat.le_trans hbl (Nat.le_mul_of_pos_right _ hSp)
  have hstart : ∀ ys : List Nat, ys.length = m + 1 → val B32 ys = a * 2 ^ s → val B32 (ys.drop kk) < b * 2 ^ s := fun ys hl hv =>
    top_start hal (show B32 ^ (n - 1) * 2 ^ s ≤ b * 2 ^ s from Nat.mul_le_mul_right _ (by rw [HN1.out, Nat.add_sub_cancel]; exact hbl)) hSp hkk (by omega) hl hv
  have hst := hstart ys hyl hyv
  have HFIN := hid (fun (q r : Nat) (h : q * (b * 2 ^ s) + r = a * 2 ^ s) (hr : r < b * 2 ^ s) => div_shifted hSp (show 0 < b from Nat.lt_of_lt_of_le (Nat.pow_pos (by decide)) hbl) h hr)
  obtain ⟨V, hV⟩ : ∃ V, b * 2 ^ s = V := ⟨_, rfl⟩
  obtain ⟨AS, hAS⟩ : ∃ AS, a * 2 ^ s = AS := ⟨_, rfl⟩
  rw [hV] at hbu hvv hVl hst HFIN
  rw [hAS] at hyv HFIN
  have HAS := hid hAS
  have hV0 : 0 < V := Nat.lt_of_lt_of_le (Nat.pow_pos (by decide)) hVl
  have hv1p : ∀ h : n1 < vs.length, 0 < vs[n1] := fun _ => by
    have h3 := val_top (B := B32) (show vs.length = n1 + 1 by omega)
    have h4 := take_lt b32_2 hvb (k := n1) (by omega)
    rw [hvv] at h3
    refine Nat.pos_of_ne_zero fun e => ?_
    rw [e] at h3
    omega
  have HVB := hid hvb
  have HVV := hid hvv
  have HBU := hid hbu
  have HV0 := hid hV0
  have HVP := hid hv1p
  have HSP := hid hSp
  clear hV hAS hal hbl hSp hstart hVl hvb hvv hbu hV0 hv1p
  go_upto_region 6 with (at_make; go_loud (refine wpList_make_full _ rfl _ _ _ rfl W3.heap.size 69 i0 _ 1 Tryd.underlying22 hi hz0 hz1 _ _ _ _ kk rfl rfl (by simp) (by simp) (by rw [hz2]; omega) (by unfold maxLen; omega) (Nat.le_refl _) ?_; intro w4 hown hgr; have hb34 : Below W3.heap.size W3 w4 := (Below.refl _ W3).grown hgr (Nat.le_refl _) (by simp); have hG := arr_made hown; clear hown hgr))
  have hs2 := hDl
  have hat0 : LongAt w D E W3.heap.size m n V AS vs kk w4 := by
    have hs3 : D < W3.heap.size := hD3.lt
    refine ⟨⟨ys, _, hD3.below hb34, hyl, hyb, hG, by rw [List.length_replicate]; omega, fun x hx => by rw [List.eq_of_mem_replicate hx, b32]; omega, hst, by rw [List.drop_of_length_le (by rw [List.length_replicate]; exact Nat.le_refl _)]; simp [val]; exact hyv⟩, hE.below hb34, (hb34.block _ (by omega)).trans k43, (hb34.block _ (by omega)).trans k53, hb3.trans (hb34.mono hb3.size)⟩
  have hDG : D ≠ W3.heap.size := fun e => by have := hD3.lt; omega
  have hEG : E ≠ W3.heap.size := fun e => by have := hE.lt; omega
  have hG54 : w.heap.size + 1 < W3.heap.size := by omega
  clear hD3 hE hyl hyb hyv hG hst hb34 k43 k53 hs2 hDl hEl hDg hEg hb3
  generalize W3.heap.size = G at hat0 hDG hEG hG54 ⊢
  go_wp2_with fail
  go_loopw [11] (fun iv wr => ∃ k : Nat, k ≤ kk ∧ iv = .int .i64 ((k : Int) - 1) ∧ LongAt w D E G m n V AS vs k wr) (fun iv _ => (intOf iv + 1).toNat)
  case atStart => exact ⟨kk, Nat.le_refl _, rfl, hat0⟩
  case round =>
    clear hat0
    obtain ⟨k, hk, rfl, hat⟩ := hrel
    generalize wr = W5 at hat ⊢
    by_cases hk0 : k = 0
    · subst hk0
      obtain ⟨ys, qs, hD, hyl, hyb, hGq, hql, hqb, hlt, hsum⟩ := hat.st
      rw [List.drop_zero] at hlt hsum
      rw [Nat.pow_zero, Nat.one_mul] at hsum
      obtain ⟨hq, hr⟩ := HFIN.out _ _ hsum hlt
      have htn : val B32 (ys.take n) = val B32 ys := by
        have h3 := val_take_drop (B := B32) ys n (by omega)
        rcases Nat.eq_zero_or_pos (val B32 (ys.drop n)) with h4 | h4
        · rw [h4] at h3; omega
        · have h5 : B32 ^ n * 1 ≤ B32 ^ n * val B32 (ys.drop n) := Nat.mul_le_mul_left _ h4
          have h6 := HBU.out
          omega
      have hqk : qs.length = kk := by omega
      have hK : KS w [fun w' => Arr w' G qs, fun w' => Arr w' D ys, Has 0 w.heap.size (.cells #[.slice none 0 0] 26), Has 0 (w.heap.size + 1) (.cells #[.slice none 0 0] 26)] W5 :=
        ((((KS.start w).step hat.old).add fun w' hb => Has.below ⟨Nat.zero_le _, hat.b5⟩ hb).add fun w' hb => Has.below ⟨Nat.zero_le _, hat.b4⟩ hb).add (fun w' hb => hD.below hb) |>.add fun w' hb => hGq.below hb
      have HT1 := hid (fun w' (h : Arr w' G qs) => trim_arr h hqb (by omega))
      rw [hq, hqk] at HT1
      have HSR := hid (fun w' (h : Arr w' D ys) => shr_any (some ⟨D, 0, none⟩) n s (ys.take n) w' (fun _ => ⟨D, rfl, h.dig.take n⟩) (fun d hd => hyb d (List.mem_of_mem_take hd)) hs31 (by rw [List.length_take]; omega))
      rw [htn, hr, Nat.mul_div_cancel _ HSP.out, show (ys.take n).length = n by rw [List.length_take]; omega] at HSR
      clear hat hD hyl hyb hGq hql hqb hlt hsum hq hr htn hqk
      have hnmi : (n : Int) ≤ (m : Int) + 1 := by omega
      go_upto_region 16 with (fail)
      refine wp_region_float (w) _ [0, 2, 0, 0, 0, 0, 0, 2, 2, 4, 4] (by kernel_rfl) (by kernel_rfl) (by kernel_rfl) (by kernel_rfl) (KS.drew hK) ?_
      apply lxF0 (wants0 rfl); (· intro w' h0; have hw' := h0.old; go_simp; (try go_bits); exact ⟨rfl, rfl⟩); simp only [Act.put, List.setIfInBounds_toArray, List.set_cons_zero, List.set_cons_succ]
      apply lxE0 (α := Option Addr × Nat) (fun q => .agg #[.slice q.1 (digs B32 (a / b)).length q.2]) (fun q => [fun w => NatV w (.agg #[.slice q.1 (digs B32 (a / b)).length q.2]) (a / b)]) (wants0 rfl)
      · intro w' h0 hK; go_simp; (try go_bits); refine (HT1.out w' (hK.get (F := fun w => Arr w G qs) (by repeat (first | exact List.mem_cons_self .. | apply List.mem_cons_of_mem)))).mono ?_; rintro e w5 ⟨p5, c5, rfl, hx, hb⟩; exact ⟨_, rfl, p5, c5, rfl, hb, fun w6 h6 => hx.below h6⟩
      rintro ⟨p4, c4⟩
      simp only [Act.put, List.setIfInBounds_toArray, List.set_cons_zero, List.set_cons_succ]
      apply lxF0 (wants0 rfl); (· intro w' h0; have hw' := h0.old; go_simp; (try go_bits); exact ⟨rfl, rfl⟩); simp only [Act.put, List.setIfInBounds_toArray, List.set_cons_zero, List.set_cons_succ]
      apply lxF0 (wants0 rfl); (· intro w' h0; have hw' := h0.old; go_simp; (try go_bits); exact ⟨rfl, rfl⟩); simp only [Act.put, List.setIfInBounds_toArray, List.set_cons_zero, List.set_cons_succ]
      apply lxF0 (wants0 rfl); (· intro w' h0; have hw' := h0.old; go_simp; (try go_bits); exact ⟨rfl, rfl⟩); simp only [Act.put, List.setIfInBounds_toArray, List.set_cons_zero, List.set_cons_succ]
      apply lxF0 (wants0 rfl); (· intro w' h0; have hw' := h0.old; go_simp; (try go_bits); exact ⟨rfl, rfl⟩); simp only [Act.put, List.setIfInBounds_toArray, List.set_cons_zero, List.set_cons_succ]
      apply lxF0 (wants0 rfl); (· intro w' h0; have hw' := h0.old; go_simp; (try go_bits); exact ⟨rfl, rfl⟩); simp only [Act.put, List.setIfInBounds_toArray, List.set_cons_zero, List.set_cons_succ]
      apply lxE0 (α := Nat) (fun q => .slice (some ⟨q, 0, none⟩) n n) (fun q => [fun w => ∃ xs, Arr w q xs ∧ xs.length = n ∧ (∀ x ∈ xs, x < B32) ∧ val B32 xs = a % b]) (wants0 rfl)
      · intro w' h0 hK; go_simp; (try go_bits); refine (HSR.out w' (hK.get (F := fun w => Arr w D ys) (by repeat (first | exact List.mem_cons_self .. | apply List.mem_cons_of_mem)))).mono ?_; rintro e w5 ⟨D5, xs5, rfl, hA5, hl5, hb5, hv5, hb⟩; exact ⟨_, rfl, D5, rfl, hb, fun w6 h6 => ⟨xs5, hA5.below h6, hl5, hb5, hv5⟩⟩
      rintro D6
      simp only [Act.put, List.setIfInBounds_toArray, List.set_cons_zero, List.set_cons_succ]
      apply lxE0 (α := Option Addr × Nat) (fun q => .agg #[.slice q.1 (digs B32 (a % b)).length q.2]) (fun q => [fun w => NatV w (.agg #[.slice q.1 (digs B32 (a % b)).length q.2]) (a % b)]) (wants0 rfl)
      · intro w' h0 hK; go_simp; (try go_bits); obtain ⟨xs6, hA6, hl6, hb6, hv6⟩ := hK.get (F := fun w => ∃ xs, Arr w D6 xs ∧ xs.length = n ∧ (∀ x ∈ xs, x < B32) ∧ val B32 xs = a % b) (by repeat (first | exact List.mem_cons_self .. | apply List.mem_cons_of_mem)); have ht6 := trim_arr hA6 hb6 (by omega); rw [hv6, hl6] at ht6; refine ht6.mono ?_; rintro e w5 ⟨p5, c5, rfl, hx, hb⟩; exact ⟨_, rfl, p5, c5, rfl, hb, fun w6 h6 => hx.below h6⟩
      rintro ⟨p6, c6⟩
      simp only [Act.put, List.setIfInBounds_toArray, List.set_cons_zero, List.set_cons_succ]
      apply lxS0 [Has 0 w.heap.size (.cells #[.slice p4 (digs B32 (a / b)).length c4] 26), Has 0 (w.heap.size + 1) (.cells #[.slice none 0 0] 26), fun w => NatV w (.agg #[.slice p4 (digs B32 (a / b)).length c4]) (a / b), fun w => NatV w (.agg #[.slice p6 (digs B32 (a % b)).length c6]) (a % b)] (wants0 rfl)
      · intro w' h0 hK; have h4 := hK.get (F := Has 0 w.heap.size (.cells #[.slice none 0 0] 26)) (by repeat (first | exact List.mem_cons_self .. | apply List.mem_cons_of_mem)); have h5 := hK.get (F := Has 0 (w.heap.size + 1) (.cells #[.slice none 0 0] 26)) (by repeat (first | exact List.mem_cons_self .. | apply List.mem_cons_of_mem)); have c4' := hasCell h4; have f4' := hasFree h4; have hN4 := hK.get (F := fun w => NatV w (.agg #[.slice p4 (digs B32 (a / b)).length c4]) (a / b)) (by repeat (first | exact List.mem_cons_self .. | apply List.mem_cons_of_mem)); have hN6 := hK.get (F := fun w => NatV w (.agg #[.slice p6 (digs B32 (a % b)).length c6]) (a % b)) (by repeat (first | exact List.mem_cons_self .. | apply List.mem_cons_of_mem)); go_simp; refine ⟨rfl, ⟨hK.old.setCell (p := ⟨w.heap.size, 0, none⟩) (Nat.le_refl _) _, fun _ h => absurd h List.not_mem_nil⟩, hK.old.setCell (p := ⟨w.heap.size, 0, none⟩) (Nat.le_refl _) _, fun F hF => ?_⟩; simp only [List.mem_cons, List.not_mem_nil, or_false] at hF; rcases hF with rfl | rfl | rfl | rfl; exact fun w' hb => Has.below ⟨Nat.zero_le _, box_store h4.2 _⟩ hb; exact fun w' hb => Has.below ⟨Nat.zero_le _, by rw [setCell_far _ (by omega)]; exact h5.2⟩ hb; exact fun w' hb => (hN4.store c4' _).below hb; exact fun w' hb => (hN6.store c4' _).below hb
      simp only [Act.put]
      apply lxS0 [Has 0 w.heap.size (.cells #[.slice p4 (digs B32 (a / b)).length c4] 26), Has 0 (w.heap.size + 1) (.cells #[.slice p6 (digs B32 (a % b)).length c6] 26), fun w => NatV w (.agg #[.slice p4 (digs B32 (a / b)).length c4]) (a / b), fun w => NatV w (.agg #[.slice p6 (digs B32 (a % b)).length c6]) (a % b)] (wants0 rfl)
      · intro w' h0 hK; have h4 := hK.get (F := Has 0 w.heap.size (.cells #[.slice p4 (digs B32 (a / b)).length c4] 26)) (by repeat (first | exact List.mem_cons_self .. | apply List.mem_cons_of_mem)); have h5 := hK.get (F := Has 0 (w.heap.size + 1) (.cells #[.slice none 0 0] 26)) (by repeat (first | exact List.mem_cons_self .. | apply List.mem_cons_of_mem)); have c4' := hasCell h5; have f4' := hasFree h5; have hN4 := hK.get (F := fun w => NatV w (.agg #[.slice p4 (digs B32 (a / b)).length c4]) (a / b)) (by repeat (first | exact List.mem_cons_self .. | apply List.mem_cons_of_mem)); have hN6 := hK.get (F := fun w => NatV w (.agg #[.slice p6 (digs B32 (a % b)).length c6]) (a % b)) (by repeat (first | exact List.mem_cons_self .. | apply List.mem_cons_of_mem)); go_simp; refine ⟨rfl, ⟨hK.old.setCell (p := ⟨w.heap.size + 1, 0, none⟩) (by show _ ≤ w.heap.size + 1; omega) _, fun _ h => absurd h List.not_mem_nil⟩, hK.old.setCell (p := ⟨w.heap.size + 1, 0, none⟩) (by show _ ≤ w.heap.size + 1; omega) _, fun F hF => ?_⟩; simp only [List.mem_cons, List.not_mem_nil, or_false] at hF; rcases hF with rfl | rfl | rfl | rfl; exact fun w' hb => Has.below ⟨Nat.zero_le _, by rw [setCell_far _ (by omega)]; exact h4.2⟩ hb; exact fun w' hb => Has.below ⟨Nat.zero_le _, box_store h5.2 _⟩ hb; exact fun w' hb => (hN4.store c4' _).below hb; exact fun w' hb => (hN6.store c4' _).below hb
      simp only [Act.put]
      refine lxEnd (fun W9 hK9 => ?_)
      have c2 := (hK9.get (F := Has 0 w.heap.size (.cells #[.slice p4 (digs B32 (a / b)).length c4] 26)) (by repeat (first | exact List.mem_cons_self .. | apply List.mem_cons_of_mem)))
      replace c2 := hasCell c2
      have c3 := (hK9.get (F := Has 0 (w.heap.size + 1) (.cells #[.slice p6 (digs B32 (a % b)).length c6] 26)) (by repeat (first | exact List.mem_cons_self .. | apply List.mem_cons_of_mem)))
      replace c3 := hasCell c3
      have hx := hK9.get (F := fun w => NatV w (.agg #[.slice p4 (digs B32 (a / b)).length c4]) (a / b)) (by repeat (first | exact List.mem_cons_self .. | apply List.mem_cons_of_mem))
      have hy := hK9.get (F := fun w => NatV w (.agg #[.slice p6 (digs B32 (a % b)).length c6]) (a % b)) (by repeat (first | exact List.mem_cons_self .. | apply List.mem_cons_of_mem))
      go_wp2
      exact bodyPost_ret (v := .tuple #[.agg #[.slice p4 (digs B32 (a / b)).length c4], .agg #[.slice p6 (digs B32 (a % b)).length c6]]) (by simp [results, Tryd.results49, go_sem, c2, c3]) rfl ⟨_, _, rfl, hx, hy, hK9.old⟩
    · obtain ⟨j, rfl⟩ : ∃ j, k = j + 1 := ⟨k - 1, by omega⟩
      have ei : (((j + 1 : Nat) : Int) - 1) = (j : Int) := by omega
      rw [ei]
      clear ei
      obtain ⟨ys, qs, hD, hyl, hyb, hGq, hql, hqb, hlt, hsum⟩ := hat.st
      have hjn : j + n ≤ m := by omega
      obtain ⟨s1, s2, s3, s4, s5, s6⟩ := long_split b32_2 (ys := ys) (j := j) (n := n) (V := V) (by omega) hyb hlt HBU.out
      have hE := hat.v
      have HNEXT := hid (fun (w2 : World) (us' : List Nat) hu hub hr hw hg => hat.next (w2 := w2) (us' := us') ⟨hEne, hDG, hEG⟩ ⟨hD54, hG54⟩ hjn hyl hyb hGq hql hqb hlt hsum HBU.out HV0.out hu hub hr hw hg)
      have hwin : Win W5 D (ys.take j) ((ys.drop j).take (n + 1)) (ys.drop (j + n + 1)) := by unfold Win; rw [← s1]; exact hD
      have htk : (ys.take j).length = j := by rw [List.length_take]; omega
      obtain ⟨us, hus⟩ : ∃ us, (ys.drop j).take (n + 1) = us := ⟨_, rfl⟩
      rw [hus] at s2 s4 s5 s6 hwin HNEXT
      have hn0e := HN.out
      have hn1e := HN1.out
      have hG1 := guess_pack (k := n0) b32_2 (vs := vs) (us := us) (by omega) (by omega) HVB.out s6 (by rw [HVV.out]; exact s5) (by have := HVP.out (by omega); simpa [show n1 = n0 + 1 by omega] using this)
      rw [HVV.out] at hG1
      obtain ⟨U, hU⟩ : ∃ U, val B32 us = U := ⟨_, rfl⟩
      rw [hU] at hG1 HNEXT
      have HUU := hid hU
      clear hU
      have c2 := hwin.cell (i := n0 + 2) (by omega)
      have c1 := hwin.cell (i := n0 + 1) (by omega)
      have c0 := hwin.cell (i := n0) (by omega)
      rw [htk] at c2 c1 c0
      have d1 := hE.cell (n0 + 1) (by omega)
      have d0 := hE.cell n0 (by omega)
      have q1 := HVB.out _ (List.getElem_mem (show n0 + 1 < vs.length by omega))
      have q0 := HVB.out _ (List.getElem_mem (show n0 < vs.length by omega))
      have p2 := s6 _ (List.getElem_mem (show n0 + 2 < us.length by omega))
      have p1 := s6 _ (List.getElem_mem (show n0 + 1 < us.length by omega))
      have p0 := s6 _ (List.getElem_mem (show n0 < us.length by omega))
      have hvp : vs[n0 + 1]'(by omega) ≠ 0 := by have := HVP.out (by omega); simp only [show n1 = n0 + 1 by omega] at this; omega
      obtain ⟨v1, hv1⟩ : ∃ v1, vs[n0 + 1]'(by omega) = v1 := ⟨_, rfl⟩
      obtain ⟨v2, hv2⟩ : ∃ v2, vs[n0]'(by omega) = v2 := ⟨_, rfl⟩
      obtain ⟨a2, ha2⟩ : ∃ a2, us[n0 + 2]'(by omega) = a2 := ⟨_, rfl⟩
      obtain ⟨a1, ha1⟩ : ∃ a1, us[n0 + 1]'(by omega) = a1 := ⟨_, rfl⟩
      obtain ⟨a0, ha0⟩ : ∃ a0, us[n0]'(by omega) = a0 := ⟨_, rfl⟩
      rw [hv1] at d1 q1 hvp hG1
      rw [hv2] at d0 q0 hG1
      rw [ha2] at c2 p2 hG1
      rw [ha1] at c1 p1 hG1
      rw [ha0] at c0 p0 hG1
      rw [b32] at q1 q0 p2 p1 p0 hG1
      have e2 := div_or a2 a1 (by omega) (by omega)
      obtain ⟨t, htt⟩ : ∃ t, a2 * 4294967296 + a1 = t := ⟨_, rfl⟩
      rw [htt] at e2 hG1
      have htb : t ≤ 18446744073709551615 := by omega
      obtain ⟨i2, hi2⟩ : ∃ i2, j + (n0 + 2) = i2 := ⟨_, rfl⟩
      obtain ⟨i1, hi1⟩ : ∃ i1, j + (n0 + 1) = i1 := ⟨_, rfl⟩
      obtain ⟨i00, hi00⟩ : ∃ i00, j + n0 = i00 := ⟨_, rfl⟩
      obtain ⟨m1, hm1'⟩ : ∃ m1, n0 + 1 = m1 := ⟨_, rfl⟩
      rw [hi2] at c2
      rw [hi1] at c1
      rw [hi00] at c0
      rw [hm1'] at d1
      have x2 : (j : Int) + (n : Int) = (i2 : Int) := by omega
      have x1 : (i2 : Int) - 1 = (i1 : Int) := by omega
      have x0 : (i2 : Int) - 2 = (i00 : Int) := by omega
      have y1 : (n : Int) - 1 = (m1 : Int) := by omega
      have y0 : (n : Int) - 2 = (n0 : Int) := by omega
      have z2 : (i2 : Int) < (m : Int) + 1 := by omega
      have z1 : (i1 : Int) < (m : Int) + 1 := by omega
      have z0 : (i00 : Int) < (m : Int) + 1 := by omega
      have w1' : (m1 : Int) < (n : Int) := by omega
      have w0' : (n0 : Int) < (n : Int) := by omega
      obtain ⟨UV, hUV⟩ : ∃ q, U / V = q := ⟨_, rfl⟩
      have HFIRST := hid hG1.first
      have HDEC := hid hG1.dec
      have HFINQ := hid hG1.fin
      have HTOP1 := hid hG1.top1
      rw [hUV] at HFIRST HDEC HFINQ HNEXT
      have HUV := hid hUV
      clear hUV
      have hDl := hwin.lt
      have hEl := hE.lt
      have HWIN := hid hwin
      have HE := hid hE
      have HS6 := hid s6
      have HS2 := hid s2
      have HJ := hid (show j < qs.length by omega)
      have HGQ := hid hGq
      have HOLD := hid hat.old
      have hsl : i2 + 1 - j = n + 1 := by omega
      have HTK := hid htk
      clear hat hD hyl hyb hGq hql hqb hlt hsum s1 s3 s4 s5 s6 s2 hwin hus hG1 hv1 hv2 ha2 ha1 ha0 htt hi2 hi1 hi00 hm1' hn0e hn1e hE htk hn1i hn1n hn1p
      go_upto_region 9 with (fail)
      refine wp_region_staged (fun w' => Below W5.heap.size W5 w') [0, 0, 0, 0, 0, 1, 0, 0, 0, 0, 0, 0, 0, 0, 1, 0, 0, 0] (by kernel_rfl) (by kernel_rfl) (by kernel_rfl) (by exact (Below.refl _ _).drew) ?_
      apply lexF rfl; (· intro _; go_simp; (try go_bits); exact ⟨rfl, rfl⟩); simp only [Act.put, List.setIfInBounds_toArray, List.set_cons_zero, List.set_cons_succ]
      apply lexF rfl; (· intro _; go_simp; (try go_bits); exact ⟨rfl, rfl⟩); simp only [Act.put, List.setIfInBounds_toArray, List.set_cons_zero, List.set_cons_succ]
      apply lexF rfl; (· intro _; go_simp; (try go_bits); exact ⟨rfl, rfl⟩); simp only [Act.put, List.setIfInBounds_toArray, List.set_cons_zero, List.set_cons_succ]
      apply lexF rfl; (· intro _; go_simp; (try go_bits); exact ⟨rfl, rfl⟩); simp only [Act.put, List.setIfInBounds_toArray, List.set_cons_zero, List.set_cons_succ]
      apply lexF rfl; (· intro _; go_simp; (try go_bits); exact ⟨rfl, rfl⟩); simp only [Act.put, List.setIfInBounds_toArray, List.set_cons_zero, List.set_cons_succ]
      apply lexH rfl; (· intro w' hw'; have hcc := cellsBelow hw'; go_simp; (try go_bits); exact ⟨rfl, hw'⟩); simp only [Act.put, List.setIfInBounds_toArray, List.set_cons_zero, List.set_cons_succ]
      apply lexF rfl; (· intro _; go_simp; (try go_bits); exact ⟨rfl, rfl⟩); simp only [Act.put, List.setIfInBounds_toArray, List.set_cons_zero, List.set_cons_succ]
      apply lexF rfl; (· intro _; go_simp; (try go_bits); exact ⟨rfl, rfl⟩); simp only [Act.put, List.setIfInBounds_toArray, List.set_cons_zero, List.set_cons_succ]
      apply lexF rfl; (· intro _; go_simp; (try go_bits); exact ⟨rfl, rfl⟩); simp only [Act.put, List.setIfInBounds_toArray, List.set_cons_zero, List.set_cons_succ]
      apply lexF rfl; (· intro _; go_simp; (try go_bits); exact ⟨rfl, rfl⟩); simp only [Act.put, List.setIfInBounds_toArray, List.set_cons_zero, List.set_cons_succ]
      apply lexF rfl; (· intro _; go_simp; (try go_bits); exact ⟨rfl, rfl⟩); simp only [Act.put, List.setIfInBounds_toArray, List.set_cons_zero, List.set_cons_succ]
      apply lexF rfl; (· intro _; go_simp; (try go_bits); exact ⟨rfl, rfl⟩); simp only [Act.put, List.setIfInBounds_toArray, List.set_cons_zero, List.set_cons_succ]
      apply lexF rfl; (· intro _; go_simp; (try go_bits); exact ⟨rfl, rfl⟩); simp only [Act.put, List.setIfInBounds_toArray, List.set_cons_zero, List.set_cons_succ]
      apply lexF rfl; (· intro _; go_simp; (try go_bits); exact ⟨rfl, rfl⟩); simp only [Act.put, List.setIfInBounds_toArray, List.set_cons_zero, List.set_cons_succ]
      apply lexH rfl; (· intro w' hw'; have hcc := cellsBelow hw'; go_simp; (try go_bits); exact ⟨rfl, hw'⟩); simp only [Act.put, List.setIfInBounds_toArray, List.set_cons_zero, List.set_cons_succ]
      apply lexF rfl; (· intro _; go_simp; (try go_bits); exact ⟨rfl, rfl⟩); simp only [Act.put, List.setIfInBounds_toArray, List.set_cons_zero, List.set_cons_succ]
      apply lexF rfl; (· intro _; go_simp; (try go_bits); exact ⟨rfl, rfl⟩); simp only [Act.put, List.setIfInBounds_toArray, List.set_cons_zero, List.set_cons_succ]
      apply lexF rfl; (· intro _; go_simp; (try go_bits); exact ⟨rfl, rfl⟩); simp only [Act.put, List.setIfInBounds_toArray, List.set_cons_zero, List.set_cons_succ]
      refine lexEnd (fun W6 hw6 => ?_)
      clear e2
      go_upto_region 10 with (fail)
      have hvi : ¬ v1 = 0 := hvp
      have hq1 : (t : Int) / (v1 : Int) ≤ 18446744073709551615 := by
        have e : (t : Int) / (v1 : Int) = ((t / v1 : Nat) : Int) := rfl
        have := Nat.div_le_self t v1
        rw [e]; omega
      have hq2 : 0 ≤ (t : Int) / (v1 : Int) := Int.natCast_nonneg (t / v1)
      have hr1 : (t : Int) % (v1 : Int) ≤ 4294967295 := by
        have e : (t : Int) % (v1 : Int) = ((t % v1 : Nat) : Int) := rfl
        have := Nat.mod_lt t (Nat.pos_of_ne_zero hvp)
        rw [e]; omega
      have hr2 : 0 ≤ (t : Int) % (v1 : Int) := Int.natCast_nonneg (t % v1)
      have HI0 := hid (show t / v1 * v1 + t % v1 = t ∧ UV ≤ t / v1 from ⟨by rw [Nat.mul_comm]; exact Nat.div_add_mod t v1, HFIRST.out⟩)
      have HR0 := hid (show t % v1 < 4294967296 by have := Nat.mod_lt t (Nat.pos_of_ne_zero hvp); omega)
      have HGG0 := hid (show t / v1 ≤ 18446744073709551615 by have := Nat.div_le_self t v1; omega)
      refine wp_region_staged (fun w' => Below W5.heap.size W5 w') [0, 0, 0, 0, 0, 1, 0, 0, 0, 0, 0, 0, 0, 1, 0, 0, 0, 0] (by kernel_rfl) (by kernel_rfl) (by kernel_rfl) (by exact hw6.drew) ?_
      apply lexF rfl; (· intro _; go_simp; (try go_bits); exact ⟨rfl, rfl⟩); simp only [Act.put, List.setIfInBounds_toArray, List.set_cons_zero, List.set_cons_succ]
      apply lexF rfl; (· intro _; go_simp; (try go_bits); exact ⟨rfl, rfl⟩); simp only [Act.put, List.setIfInBounds_toArray, List.set_cons_zero, List.set_cons_succ]
      apply lexF rfl; (· intro _; go_simp; (try go_bits); exact ⟨rfl, rfl⟩); simp only [Act.put, List.setIfInBounds_toArray, List.set_cons_zero, List.set_cons_succ]
      apply lexF rfl; (· intro _; go_simp; (try go_bits); exact ⟨rfl, rfl⟩); simp only [Act.put, List.setIfInBounds_toArray, List.set_cons_zero, List.set_cons_succ]
      apply lexF rfl; (· intro _; go_simp; (try go_bits); exact ⟨rfl, rfl⟩); simp only [Act.put, List.setIfInBounds_toArray, List.set_cons_zero, List.set_cons_succ]
      apply lexH rfl; (· intro w' hw'; have hcc := cellsBelow hw'; go_simp; (try go_bits); exact ⟨rfl, hw'⟩); simp only [Act.put, List.setIfInBounds_toArray, List.set_cons_zero, List.set_cons_succ]
      apply lexF rfl; (· intro _; go_simp; (try go_bits); exact ⟨rfl, rfl⟩); simp only [Act.put, List.setIfInBounds_toArray, List.set_cons_zero, List.set_cons_succ]
      apply lexF rfl; (· intro _; go_simp; (try go_bits); exact ⟨rfl, rfl⟩); simp only [Act.put, List.setIfInBounds_toArray, List.set_cons_zero, List.set_cons_succ]
      apply lexF rfl; (· intro _; go_simp; (try go_bits); exact ⟨rfl, rfl⟩); simp only [Act.put, List.setIfInBounds_toArray, List.set_cons_zero, List.set_cons_succ]
      apply lexF rfl; (· intro _; go_simp; (try go_bits); exact ⟨rfl, rfl⟩); simp only [Act.put, List.setIfInBounds_toArray, List.set_cons_zero, List.set_cons_succ]
      apply lexF rfl; (· intro _; go_simp; (try go_bits); exact ⟨rfl, rfl⟩); simp only [Act.put, List.setIfInBounds_toArray, List.set_cons_zero, List.set_cons_succ]
      apply lexF rfl; (· intro _; go_simp; (try go_bits); exact ⟨rfl, rfl⟩); simp only [Act.put, List.setIfInBounds_toArray, List.set_cons_zero, List.set_cons_succ]
      apply lexF rfl; (· intro _; go_simp; (try go_bits); exact ⟨rfl, rfl⟩); simp only [Act.put, List.setIfInBounds_toArray, List.set_cons_zero, List.set_cons_succ]
      apply lexH rfl; (· intro w' hw'; have hcc := cellsBelow hw'; go_simp; (try go_bits); exact ⟨rfl, hw'⟩); simp only [Act.put, List.setIfInBounds_toArray, List.set_cons_zero, List.set_cons_succ]
      apply lexF rfl; (· intro _; go_simp; (try go_bits); exact ⟨rfl, rfl⟩); simp only [Act.put, List.setIfInBounds_toArray, List.set_cons_zero, List.set_cons_succ]
      apply lexF rfl; (· intro _; go_simp; (try go_bits); exact ⟨rfl, rfl⟩); simp only [Act.put, List.setIfInBounds_toArray, List.set_cons_zero, List.set_cons_succ]
      apply lexF rfl; (· intro _; go_simp; (try go_bits); exact ⟨rfl, rfl⟩); simp only [Act.put, List.setIfInBounds_toArray, List.set_cons_zero, List.set_cons_succ]
      apply lexF rfl; (· intro _; go_simp; (try go_bits); exact ⟨rfl, rfl⟩); simp only [Act.put, List.setIfInBounds_toArray, List.set_cons_zero, List.set_cons_succ]
      refine lexEnd (fun W7 hw7 => ?_)
      clear hq1 hq2 hr1 hr2 c2 c1 hw6
      go_wp2_with fail
      go_loopw [13, 14] (fun gv rv wr => ∃ g r : Nat, gv = .int .u64 (g : Int) ∧ rv = .int .u64 (r : Int) ∧ RowKit.Hid (g * v1 + r = t ∧ UV ≤ g) ∧ r < 4294967296 ∧ g ≤ 18446744073709551615 ∧ Below W5.heap.size W5 wr) (fun gv _ _ => (intOf gv).toNat)
      case atStart => exact ⟨t / v1, t % v1, rfl, rfl, HI0, HR0.out, HGG0.out, hw7⟩
      case round =>
        clear hw7 HI0 HR0 HGG0
        obtain ⟨g, r, rfl, rfl, HI, hr, hg, hbw⟩ := hrel
        generalize wr = W8 at hbw ⊢
        go_upto_region 11 with (fail)
        refine wp_region_staged (fun w' => Below W5.heap.size W5 w') [0, 0, 0, 0, 0, 0, 0, 0, 1, 0, 0, 0, 0, 0, 0, 0, 0, 0, 0, 1, 0, 0, 0, 0] (by kernel_rfl) (by kernel_rfl) (by kernel_rfl) (by exact hbw.drew) ?_
        by_cases hgB : 4294967296 ≤ g
        · have hgi : (4294967296 : Int) ≤ (g : Int) := by omega
          apply lexF rfl; (· intro _; go_simp; (try go_bits); exact ⟨rfl, rfl⟩); simp only [Act.put, List.setIfInBounds_toArray, List.set_cons_zero, List.set_cons_succ]
          apply lexF rfl; (· intro _; go_simp; (try go_bits); exact ⟨rfl, rfl⟩); simp only [Act.put, List.setIfInBounds_toArray, List.set_cons_zero, List.set_cons_succ]
          apply lexF rfl; (· intro _; go_simp; (try go_bits); exact ⟨rfl, rfl⟩); simp only [Act.put, List.setIfInBounds_toArray, List.set_cons_zero, List.set_cons_succ]
          first | (apply lexN (j := 2) (d := 83) (b := false) rfl rfl rfl rfl; simp only [Act.put, List.setIfInBounds_toArray, List.set_cons_zero, List.set_cons_succ]) | (apply lexN' (j := 2) (d := 83) (b := false) rfl rfl rfl; simp only [Act.put, List.setIfInBounds_toArray, List.set_cons_zero, List.set_cons_succ]) | (apply lexFg (j := 2) (d := 83) (b := false) rfl rfl rfl rfl; (· intro _; go_simp; (try go_bits); exact ⟨rfl, rfl⟩); simp only [Act.put, List.setIfInBounds_toArray, List.set_cons_zero, List.set_cons_succ])
          first | (apply lexN (j := 2) (d := 83) (b := false) rfl rfl rfl rfl; simp only [Act.put, List.setIfInBounds_toArray, List.set_cons_zero, List.set_cons_succ]) | (apply lexN' (j := 2) (d := 83) (b := false) rfl rfl rfl; simp only [Act.put, List.setIfInBounds_toArray, List.set_cons_zero, List.set_cons_succ]) | (apply lexFg (j := 2) (d := 83) (b := false) rfl rfl rfl rfl; (· intro _; go_simp; (try go_bits); exact ⟨rfl, rfl⟩); simp only [Act.put, List.setIfInBounds_toArray, List.set_cons_zero, List.set_cons_succ])
          first | (apply lexN (j := 2) (d := 83) (b := false) rfl rfl rfl rfl; simp only [Act.put, List.setIfInBounds_toArray, List.set_cons_zero, List.set_cons_succ]) | (apply lexN' (j := 2) (d := 83) (b := false) rfl rfl rfl; simp only [Act.put, List.setIfInBounds_toArray, List.set_cons_zero, List.set_cons_succ]) | (apply lexFg (j := 2) (d := 83) (b := false) rfl rfl rfl rfl; (· intro _; go_simp; (try go_bits); exact ⟨rfl, rfl⟩); simp only [Act.put, List.setIfInBounds_toArray, List.set_cons_zero, List.set_cons_succ])
          first | (apply lexN (j := 2) (d := 83) (b := false) rfl rfl rfl rfl; simp only [Act.put, List.setIfInBounds_toArray, List.set_cons_zero, List.set_cons_succ]) | (apply lexN' (j := 2) (d := 83) (b := false) rfl rfl rfl; simp only [Act.put, List.setIfInBounds_toArray, List.set_cons_zero, List.set_cons_succ]) | (apply lexFg (j := 2) (d := 83) (b := false) rfl rfl rfl rfl; (· intro _; go_simp; (try go_bits); exact ⟨rfl, rfl⟩); simp only [Act.put, List.setIfInBounds_toArray, List.set_cons_zero, List.set_cons_succ])
          first | (apply lexN (j := 2) (d := 83) (b := false) rfl rfl rfl rfl; simp only [Act.put, List.setIfInBounds_toArray, List.set_cons_zero, List.set_cons_succ]) | (apply lexN' (j := 2) (d := 83) (b := false) rfl rfl rfl; simp only [Act.put, List.setIfInBounds_toArray, List.set_cons_zero, List.set_cons_succ]) | (apply lexFg (j := 2) (d := 83) (b := false) rfl rfl rfl rfl; (· intro _; go_simp; (try go_bits); exact ⟨rfl, rfl⟩); simp only [Act.put, List.setIfInBounds_toArray, List.set_cons_zero, List.set_cons_succ])
          first | (apply lexN (j := 2) (d := 83) (b := false) rfl rfl rfl rfl; simp only [Act.put, List.setIfInBounds_toArray, List.set_cons_zero, List.set_cons_succ]) | (apply lexN' (j := 2) (d := 83) (b := false) rfl rfl rfl; simp only [Act.put, List.setIfInBounds_toArray, List.set_cons_zero, List.set_cons_succ]) | (apply lexHg (j := 2) (d := 83) (b := false) rfl rfl rfl rfl; (· intro w' hw'; have hcc := cellsBelow hw'; go_simp; (try go_bits); exact ⟨rfl, hw'⟩); simp only [Act.put, List.setIfInBounds_toArray, List.set_cons_zero, List.set_cons_succ])
          first | (apply lexN (j := 2) (d := 83) (b := false) rfl rfl rfl rfl; simp only [Act.put, List.setIfInBounds_toArray, List.set_cons_zero, List.set_cons_succ]) | (apply lexN' (j := 2) (d := 83) (b := false) rfl rfl rfl; simp only [Act.put, List.setIfInBounds_toArray, List.set_cons_zero, List.set_cons_succ]) | (apply lexFg (j := 2) (d := 83) (b := false) rfl rfl rfl rfl; (· intro _; go_simp; (try go_bits); exact ⟨rfl, rfl⟩); simp only [Act.put, List.setIfInBounds_toArray, List.set_cons_zero, List.set_cons_succ])
          first | (apply lexN (j := 2) (d := 83) (b := false) rfl rfl rfl rfl; simp only [Act.put, List.setIfInBounds_toArray, List.set_cons_zero, List.set_cons_succ]) | (apply lexN' (j := 2) (d := 83) (b := false) rfl rfl rfl; simp only [Act.put, List.setIfInBounds_toArray, List.set_cons_zero, List.set_cons_succ]) | (apply lexFg (j := 2) (d := 83) (b := false) rfl rfl rfl rfl; (· intro _; go_simp; (try go_bits); exact ⟨rfl, rfl⟩); simp only [Act.put, List.setIfInBounds_toArray, List.set_cons_zero, List.set_cons_succ])
          first | (apply lexN (j := 2) (d := 83) (b := false) rfl rfl rfl rfl; simp only [Act.put, List.setIfInBounds_toArray, List.set_cons_zero, List.set_cons_succ]) | (apply lexN' (j := 2) (d := 83) (b := false) rfl rfl rfl; simp only [Act.put, List.setIfInBounds_toArray, List.set_cons_zero, List.set_cons_succ]) | (apply lexFg (j := 2) (d := 83) (b := false) rfl rfl rfl rfl; (· intro _; go_simp; (try go_bits); exact ⟨rfl, rfl⟩); simp only [Act.put, List.setIfInBounds_toArray, List.set_cons_zero, List.set_cons_succ])
          first | (apply lexN (j := 2) (d := 83) (b := false) rfl rfl rfl rfl; simp only [Act.put, List.setIfInBounds_toArray, List.set_cons_zero, List.set_cons_succ]) | (apply lexN' (j := 2) (d := 83) (b := false) rfl rfl rfl; simp only [Act.put, List.setIfInBounds_toArray, List.set_cons_zero, List.set_cons_succ]) | (apply lexFg (j := 2) (d := 83) (b := false) rfl rfl rfl rfl; (· intro _; go_simp; (try go_bits); exact ⟨rfl, rfl⟩); simp only [Act.put, List.setIfInBounds_toArray, List.set_cons_zero, List.set_cons_succ])
          first | (apply lexN (j := 2) (d := 83) (b := false) rfl rfl rfl rfl; simp only [Act.put, List.setIfInBounds_toArray, List.set_cons_zero, List.set_cons_succ]) | (apply lexN' (j := 2) (d := 83) (b := false) rfl rfl rfl; simp only [Act.put, List.setIfInBounds_toArray, List.set_cons_zero, List.set_cons_succ]) | (apply lexFg (j := 2) (d := 83) (b := false) rfl rfl rfl rfl; (· intro _; go_simp; (try go_bits); exact ⟨rfl, rfl⟩); simp only [Act.put, List.setIfInBounds_toArray, List.set_cons_zero, List.set_cons_succ])
          first | (apply lexN (j := 2) (d := 83) (b := false) rfl rfl rfl rfl; simp only [Act.put, List.setIfInBounds_toArray, List.set_cons_zero, List.set_cons_succ]) | (apply lexN' (j := 2) (d := 83) (b := false) rfl rfl rfl; simp only [Act.put, List.setIfInBounds_toArray, List.set_cons_zero, List.set_cons_succ]) | (apply lexFg (j := 2) (d := 83) (b := false) rfl rfl rfl rfl; (· intro _; go_simp; (try go_bits); exact ⟨rfl, rfl⟩); simp only [Act.put, List.setIfInBounds_toArray, List.set_cons_zero, List.set_cons_succ])
          first | (apply lexN (j := 2) (d := 83) (b := false) rfl rfl rfl rfl; simp only [Act.put, List.setIfInBounds_toArray, List.set_cons_zero, List.set_cons_succ]) | (apply lexN' (j := 2) (d := 83) (b := false) rfl rfl rfl; simp only [Act.put, List.setIfInBounds_toArray, List.set_cons_zero, List.set_cons_succ]) | (apply lexFg (j := 2) (d := 83) (b := false) rfl rfl rfl rfl; (· intro _; go_simp; (try go_bits); exact ⟨rfl, rfl⟩); simp only [Act.put, List.setIfInBounds_toArray, List.set_cons_zero, List.set_cons_succ])
          first | (apply lexN (j := 2) (d := 83) (b := false) rfl rfl rfl rfl; simp only [Act.put, List.setIfInBounds_toArray, List.set_cons_zero, List.set_cons_succ]) | (apply lexN' (j := 2) (d := 83) (b := false) rfl rfl rfl; simp only [Act.put, List.setIfInBounds_toArray, List.set_cons_zero, List.set_cons_succ]) | (apply lexFg (j := 2) (d := 83) (b := false) rfl rfl rfl rfl; (· intro _; go_simp; (try go_bits); exact ⟨rfl, rfl⟩); simp only [Act.put, List.setIfInBounds_toArray, List.set_cons_zero, List.set_cons_succ])
          first | (apply lexN (j := 2) (d := 83) (b := false) rfl rfl rfl rfl; simp only [Act.put, List.setIfInBounds_toArray, List.set_cons_zero, List.set_cons_succ]) | (apply lexN' (j := 2) (d := 83) (b := false) rfl rfl rfl; simp only [Act.put, List.setIfInBounds_toArray, List.set_cons_zero, List.set_cons_succ]) | (apply lexFg (j := 2) (d := 83) (b := false) rfl rfl rfl rfl; (· intro _; go_simp; (try go_bits); exact ⟨rfl, rfl⟩); simp only [Act.put, List.setIfInBounds_toArray, List.set_cons_zero, List.set_cons_succ])
          first | (apply lexN (j := 2) (d := 83) (b := false) rfl rfl rfl rfl; simp only [Act.put, List.setIfInBounds_toArray, List.set_cons_zero, List.set_cons_succ]) | (apply lexN' (j := 2) (d := 83) (b := false) rfl rfl rfl; simp only [Act.put, List.setIfInBounds_toArray, List.set_cons_zero, List.set_cons_succ]) | (apply lexFg (j := 2) (d := 83) (b := false) rfl rfl rfl rfl; (· intro _; go_simp; (try go_bits); exact ⟨rfl, rfl⟩); simp only [Act.put, List.setIfInBounds_toArray, List.set_cons_zero, List.set_cons_succ])
          first | (apply lexN (j := 2) (d := 83) (b := false) rfl rfl rfl rfl; simp only [Act.put, List.setIfInBounds_toArray, List.set_cons_zero, List.set_cons_succ]) | (apply lexN' (j := 2) (d := 83) (b := false) rfl rfl rfl; simp only [Act.put, List.setIfInBounds_toArray, List.set_cons_zero, List.set_cons_succ]) | (apply lexHg (j := 2) (d := 83) (b := false) rfl rfl rfl rfl; (· intro w' hw'; have hcc := cellsBelow hw'; go_simp; (try go_bits); exact ⟨rfl, hw'⟩); simp only [Act.put, List.setIfInBounds_toArray, List.set_cons_zero, List.set_cons_succ])
          first | (apply lexN (j := 2) (d := 83) (b := false) rfl rfl rfl rfl; simp only [Act.put, List.setIfInBounds_toArray, List.set_cons_zero, List.set_cons_succ]) | (apply lexN' (j := 2) (d := 83) (b := false) rfl rfl rfl; simp only [Act.put, List.setIfInBounds_toArray, List.set_cons_zero, List.set_cons_succ]) | (apply lexFg (j := 2) (d := 83) (b := false) rfl rfl rfl rfl; (· intro _; go_simp; (try go_bits); exact ⟨rfl, rfl⟩); simp only [Act.put, List.setIfInBounds_toArray, List.set_cons_zero, List.set_cons_succ])
          first | (apply lexN (j := 2) (d := 83) (b := false) rfl rfl rfl rfl; simp only [Act.put, List.setIfInBounds_toArray, List.set_cons_zero, List.set_cons_succ]) | (apply lexN' (j := 2) (d := 83) (b := false) rfl rfl rfl; simp only [Act.put, List.setIfInBounds_toArray, List.set_cons_zero, List.set_cons_succ]) | (apply lexFg (j := 2) (d := 83) (b := false) rfl rfl rfl rfl; (· intro _; go_simp; (try go_bits); exact ⟨rfl, rfl⟩); simp only [Act.put, List.setIfInBounds_toArray, List.set_cons_zero, List.set_cons_succ])
          first | (apply lexN (j := 2) (d := 83) (b := false) rfl rfl rfl rfl; simp only [Act.put, List.setIfInBounds_toArray, List.set_cons_zero, List.set_cons_succ]) | (apply lexN' (j := 2) (d := 83) (b := false) rfl rfl rfl; simp only [Act.put, List.setIfInBounds_toArray, List.set_cons_zero, List.set_cons_succ]) | (apply lexFg (j := 2) (d := 83) (b := false) rfl rfl rfl rfl; (· intro _; go_simp; (try go_bits); exact ⟨rfl, rfl⟩); simp only [Act.put, List.setIfInBounds_toArray, List.set_cons_zero, List.set_cons_succ])
          apply lexF rfl; (· intro _; go_simp; (try go_bits); exact ⟨rfl, rfl⟩); simp only [Act.put, List.setIfInBounds_toArray, List.set_cons_zero, List.set_cons_succ]
          refine lexEnd (fun W9 hwB => ?_)
          have hgt := HDEC.out g r HI.out.1 HI.out.2 (.inl hgB)
          obtain ⟨g1, rfl⟩ : ∃ g1, g = g1 + 1 := ⟨g - 1, by omega⟩
          have HI2 := hid (show g1 * v1 + (r + v1) = t ∧ UV ≤ g1 from ⟨by have := HI.out.1; rw [Nat.add_mul] at this; omega, by omega⟩)
          have hg1 : g1 ≤ 18446744073709551615 := by omega
          have eg : ((g1 + 1 : Nat) : Int) - 1 = (g1 : Int) := by omega
          have dB := (hwB.cell (p := ⟨E, m1, none⟩) hEl).trans d1
          have hlb := Nat.lt_of_lt_of_le hEl hwB.size
          clear hgt
          go_upto_region 14 with (fail)
          clear eg hlb dB
          obtain ⟨rr, hrr⟩ : ∃ rr, r + v1 = rr := ⟨_, rfl⟩
          by_cases hbr : 4294967296 ≤ rr
          · have hbi : (4294967296 : Int) ≤ (r : Int) + (v1 : Int) := by omega
            have HQ := hid (show UV ≤ g1 ∧ g1 ≤ UV + 1 ∧ g1 < 4294967296 from by
              have h3 := HI2.out
              rw [hrr] at h3
              have h5 := guess_break h3.1 HTOP1.out (by omega)
              exact ⟨h3.2, HFINQ.out g1 rr h3.1 h5 (test_break h5 (by omega) (by omega)), h5⟩)
            have hww := hwB
            clear hbr hrr
            go_upto_region 15 with (fail)
            have HRED := hid (reduce_any D E n (ys.take j) us (ys.drop (j + n + 1)) vs g1 W9 (Arr.below HWIN.out hww) (HE.out.below hww) hEne.symm (by rw [HS2.out, hvl]) HS6.out HVB.out (by rw [HVV.out]; exact HV0.out) (by have := HQ.out.2.2; omega) (by rw [HVV.out, HUU.out, HUV.out]; exact HQ.out.1) (by rw [HVV.out, HUU.out, HUV.out]; exact HQ.out.2.1) (by rw [HTK.out]; omega) (by omega))
            rw [HTK.out, hvl, HVV.out, HUU.out, HUV.out] at HRED
            have hsw : j ≤ i2 + 1 := by omega
            have hG8 := HGQ.out.below hww
            have hgB : (g1 : Int) ≤ 4294967295 := by have := HQ.out.2.2; omega
            go_wp2_with (go_at_call 64; refine HRED.out.mono ?_; clear HRED; rintro e W10 ⟨rfl, ⟨us', hu1, hu2, hu3, hw10⟩, hg10⟩; have hG10 := arr_other hG8 hg10 hDG.symm; have cG := hG10.cell j HJ.out; have fG := hG10.free; have lG := hG10.lt)
            go_roundw
            case rel => exact ⟨j, by omega, by go_num, HNEXT.out W10 us' (by rw [hu1]; exact HS2.out) hu2 hu3 hw10 (grown_trans (below_grown hww) hg10)⟩
            case measure => simp [intOf]
          · have hbi : ¬ (4294967296 : Int) ≤ (r : Int) + (v1 : Int) := by omega
            rw [hrr] at HI2
            have HRR := hid hrr
            clear hrr
            go_wp2
            go_roundw
            case rel => exact ⟨g1, rr, rfl, by rw [← HRR.out]; rfl, HI2, by omega, hg1, hwB⟩
            case measure => simp [intOf]
        · have hgi : ¬ (4294967296 : Int) ≤ (g : Int) := by omega
          have e3 := div_or r a0 (by omega) (by omega)
          obtain ⟨ra, hra⟩ : ∃ ra, r * 4294967296 + a0 = ra := ⟨_, rfl⟩
          rw [hra] at e3
          have hm0 : 0 ≤ (g : Int) * (v2 : Int) := Int.mul_nonneg (by omega) (by omega)
          have hmn' : g * v2 ≤ 4294967295 * 4294967295 := Nat.mul_le_mul (by omega) (by omega)
          obtain ⟨gv, hgv, hgv2⟩ : ∃ gv : Nat, g * v2 = gv ∧ (g : Int) * (v2 : Int) = (gv : Int) := ⟨_, rfl, by simp only [Int.natCast_mul]⟩
          rw [hgv] at hmn'
          have hgvb : (gv : Int) ≤ 18446744065119617025 := by omega
          by_cases hc : ra < gv
          · have HCD := hid (show r * 4294967296 + a0 < g * v2 by omega)
            have hci : (ra : Int) < (gv : Int) := by omega
            clear hra hgv hm0 hmn' hc
            apply lexF rfl; (· intro _; go_simp; (try go_bits); exact ⟨rfl, rfl⟩); simp only [Act.put, List.setIfInBounds_toArray, List.set_cons_zero, List.set_cons_succ]
            apply lexF rfl; (· intro _; go_simp; (try go_bits); exact ⟨rfl, rfl⟩); simp only [Act.put, List.setIfInBounds_toArray, List.set_cons_zero, List.set_cons_succ]
            apply lexF rfl; (· intro _; go_simp; (try go_bits); exact ⟨rfl, rfl⟩); simp only [Act.put, List.setIfInBounds_toArray, List.set_cons_zero, List.set_cons_succ]
            first | (apply lexN (j := 2) (d := 83) (b := false) rfl rfl rfl rfl; simp only [Act.put, List.setIfInBounds_toArray, List.set_cons_zero, List.set_cons_succ]) | (apply lexN' (j := 2) (d := 83) (b := false) rfl rfl rfl; simp only [Act.put, List.setIfInBounds_toArray, List.set_cons_zero, List.set_cons_succ]) | (apply lexFg (j := 2) (d := 83) (b := false) rfl rfl rfl rfl; (· intro _; go_simp; (try go_bits); exact ⟨rfl, rfl⟩); simp only [Act.put, List.setIfInBounds_toArray, List.set_cons_zero, List.set_cons_succ])
            first | (apply lexN (j := 2) (d := 83) (b := false) rfl rfl rfl rfl; simp only [Act.put, List.setIfInBounds_toArray, List.set_cons_zero, List.set_cons_succ]) | (apply lexN' (j := 2) (d := 83) (b := false) rfl rfl rfl; simp only [Act.put, List.setIfInBounds_toArray, List.set_cons_zero, List.set_cons_succ]) | (apply lexFg (j := 2) (d := 83) (b := false) rfl rfl rfl rfl; (· intro _; go_simp; (try go_bits); exact ⟨rfl, rfl⟩); simp only [Act.put, List.setIfInBounds_toArray, List.set_cons_zero, List.set_cons_succ])
            first | (apply lexN (j := 2) (d := 83) (b := false) rfl rfl rfl rfl; simp only [Act.put, List.setIfInBounds_toArray, List.set_cons_zero, List.set_cons_succ]) | (apply lexN' (j := 2) (d := 83) (b := false) rfl rfl rfl; simp only [Act.put, List.setIfInBounds_toArray, List.set_cons_zero, List.set_cons_succ]) | (apply lexFg (j := 2) (d := 83) (b := false) rfl rfl rfl rfl; (· intro _; go_simp; (try go_bits); exact ⟨rfl, rfl⟩); simp only [Act.put, List.setIfInBounds_toArray, List.set_cons_zero, List.set_cons_succ])
            first | (apply lexN (j := 2) (d := 83) (b := false) rfl rfl rfl rfl; simp only [Act.put, List.setIfInBounds_toArray, List.set_cons_zero, List.set_cons_succ]) | (apply lexN' (j := 2) (d := 83) (b := false) rfl rfl rfl; simp only [Act.put, List.setIfInBounds_toArray, List.set_cons_zero, List.set_cons_succ]) | (apply lexFg (j := 2) (d := 83) (b := false) rfl rfl rfl rfl; (· intro _; go_simp; (try go_bits); exact ⟨rfl, rfl⟩); simp only [Act.put, List.setIfInBounds_toArray, List.set_cons_zero, List.set_cons_succ])
            first | (apply lexN (j := 2) (d := 83) (b := false) rfl rfl rfl rfl; simp only [Act.put, List.setIfInBounds_toArray, List.set_cons_zero, List.set_cons_succ]) | (apply lexN' (j := 2) (d := 83) (b := false) rfl rfl rfl; simp only [Act.put, List.setIfInBounds_toArray, List.set_cons_zero, List.set_cons_succ]) | (apply lexFg (j := 2) (d := 83) (b := false) rfl rfl rfl rfl; (· intro _; go_simp; (try go_bits); exact ⟨rfl, rfl⟩); simp only [Act.put, List.setIfInBounds_toArray, List.set_cons_zero, List.set_cons_succ])
            first | (apply lexN (j := 2) (d := 83) (b := false) rfl rfl rfl rfl; simp only [Act.put, List.setIfInBounds_toArray, List.set_cons_zero, List.set_cons_succ]) | (apply lexN' (j := 2) (d := 83) (b := false) rfl rfl rfl; simp only [Act.put, List.setIfInBounds_toArray, List.set_cons_zero, List.set_cons_succ]) | (apply lexHg (j := 2) (d := 83) (b := false) rfl rfl rfl rfl; (· intro w' hw'; have hcc := cellsBelow hw'; go_simp; (try go_bits); exact ⟨rfl, hw'⟩); simp only [Act.put, List.setIfInBounds_toArray, List.set_cons_zero, List.set_cons_succ])
            first | (apply lexN (j := 2) (d := 83) (b := false) rfl rfl rfl rfl; simp only [Act.put, List.setIfInBounds_toArray, List.set_cons_zero, List.set_cons_succ]) | (apply lexN' (j := 2) (d := 83) (b := false) rfl rfl rfl; simp only [Act.put, List.setIfInBounds_toArray, List.set_cons_zero, List.set_cons_succ]) | (apply lexFg (j := 2) (d := 83) (b := false) rfl rfl rfl rfl; (· intro _; go_simp; (try go_bits); exact ⟨rfl, rfl⟩); simp only [Act.put, List.setIfInBounds_toArray, List.set_cons_zero, List.set_cons_succ])
            first | (apply lexN (j := 2) (d := 83) (b := false) rfl rfl rfl rfl; simp only [Act.put, List.setIfInBounds_toArray, List.set_cons_zero, List.set_cons_succ]) | (apply lexN' (j := 2) (d := 83) (b := false) rfl rfl rfl; simp only [Act.put, List.setIfInBounds_toArray, List.set_cons_zero, List.set_cons_succ]) | (apply lexFg (j := 2) (d := 83) (b := false) rfl rfl rfl rfl; (· intro _; go_simp; (try go_bits); exact ⟨rfl, rfl⟩); simp only [Act.put, List.setIfInBounds_toArray, List.set_cons_zero, List.set_cons_succ])
            first | (apply lexN (j := 2) (d := 83) (b := false) rfl rfl rfl rfl; simp only [Act.put, List.setIfInBounds_toArray, List.set_cons_zero, List.set_cons_succ]) | (apply lexN' (j := 2) (d := 83) (b := false) rfl rfl rfl; simp only [Act.put, List.setIfInBounds_toArray, List.set_cons_zero, List.set_cons_succ]) | (apply lexFg (j := 2) (d := 83) (b := false) rfl rfl rfl rfl; (· intro _; go_simp; (try go_bits); exact ⟨rfl, rfl⟩); simp only [Act.put, List.setIfInBounds_toArray, List.set_cons_zero, List.set_cons_succ])
            first | (apply lexN (j := 2) (d := 83) (b := false) rfl rfl rfl rfl; simp only [Act.put, List.setIfInBounds_toArray, List.set_cons_zero, List.set_cons_succ]) | (apply lexN' (j := 2) (d := 83) (b := false) rfl rfl rfl; simp only [Act.put, List.setIfInBounds_toArray, List.set_cons_zero, List.set_cons_succ]) | (apply lexFg (j := 2) (d := 83) (b := false) rfl rfl rfl rfl; (· intro _; go_simp; (try go_bits); exact ⟨rfl, rfl⟩); simp only [Act.put, List.setIfInBounds_toArray, List.set_cons_zero, List.set_cons_succ])
            first | (apply lexN (j := 2) (d := 83) (b := false) rfl rfl rfl rfl; simp only [Act.put, List.setIfInBounds_toArray, List.set_cons_zero, List.set_cons_succ]) | (apply lexN' (j := 2) (d := 83) (b := false) rfl rfl rfl; simp only [Act.put, List.setIfInBounds_toArray, List.set_cons_zero, List.set_cons_succ]) | (apply lexFg (j := 2) (d := 83) (b := false) rfl rfl rfl rfl; (· intro _; go_simp; (try go_bits); exact ⟨rfl, rfl⟩); simp only [Act.put, List.setIfInBounds_toArray, List.set_cons_zero, List.set_cons_succ])
            first | (apply lexN (j := 2) (d := 83) (b := false) rfl rfl rfl rfl; simp only [Act.put, List.setIfInBounds_toArray, List.set_cons_zero, List.set_cons_succ]) | (apply lexN' (j := 2) (d := 83) (b := false) rfl rfl rfl; simp only [Act.put, List.setIfInBounds_toArray, List.set_cons_zero, List.set_cons_succ]) | (apply lexFg (j := 2) (d := 83) (b := false) rfl rfl rfl rfl; (· intro _; go_simp; (try go_bits); exact ⟨rfl, rfl⟩); simp only [Act.put, List.setIfInBounds_toArray, List.set_cons_zero, List.set_cons_succ])
            first | (apply lexN (j := 2) (d := 83) (b := false) rfl rfl rfl rfl; simp only [Act.put, List.setIfInBounds_toArray, List.set_cons_zero, List.set_cons_succ]) | (apply lexN' (j := 2) (d := 83) (b := false) rfl rfl rfl; simp only [Act.put, List.setIfInBounds_toArray, List.set_cons_zero, List.set_cons_succ]) | (apply lexFg (j := 2) (d := 83) (b := false) rfl rfl rfl rfl; (· intro _; go_simp; (try go_bits); exact ⟨rfl, rfl⟩); simp only [Act.put, List.setIfInBounds_toArray, List.set_cons_zero, List.set_cons_succ])
            first | (apply lexN (j := 2) (d := 83) (b := false) rfl rfl rfl rfl; simp only [Act.put, List.setIfInBounds_toArray, List.set_cons_zero, List.set_cons_succ]) | (apply lexN' (j := 2) (d := 83) (b := false) rfl rfl rfl; simp only [Act.put, List.setIfInBounds_toArray, List.set_cons_zero, List.set_cons_succ]) | (apply lexFg (j := 2) (d := 83) (b := false) rfl rfl rfl rfl; (· intro _; go_simp; (try go_bits); exact ⟨rfl, rfl⟩); simp only [Act.put, List.setIfInBounds_toArray, List.set_cons_zero, List.set_cons_succ])
            first | (apply lexN (j := 2) (d := 83) (b := false) rfl rfl rfl rfl; simp only [Act.put, List.setIfInBounds_toArray, List.set_cons_zero, List.set_cons_succ]) | (apply lexN' (j := 2) (d := 83) (b := false) rfl rfl rfl; simp only [Act.put, List.setIfInBounds_toArray, List.set_cons_zero, List.set_cons_succ]) | (apply lexFg (j := 2) (d := 83) (b := false) rfl rfl rfl rfl; (· intro _; go_simp; (try go_bits); exact ⟨rfl, rfl⟩); simp only [Act.put, List.setIfInBounds_toArray, List.set_cons_zero, List.set_cons_succ])
            first | (apply lexN (j := 2) (d := 83) (b := false) rfl rfl rfl rfl; simp only [Act.put, List.setIfInBounds_toArray, List.set_cons_zero, List.set_cons_succ]) | (apply lexN' (j := 2) (d := 83) (b := false) rfl rfl rfl; simp only [Act.put, List.setIfInBounds_toArray, List.set_cons_zero, List.set_cons_succ]) | (apply lexFg (j := 2) (d := 83) (b := false) rfl rfl rfl rfl; (· intro _; go_simp; (try go_bits); exact ⟨rfl, rfl⟩); simp only [Act.put, List.setIfInBounds_toArray, List.set_cons_zero, List.set_cons_succ])
            first | (apply lexN (j := 2) (d := 83) (b := false) rfl rfl rfl rfl; simp only [Act.put, List.setIfInBounds_toArray, List.set_cons_zero, List.set_cons_succ]) | (apply lexN' (j := 2) (d := 83) (b := false) rfl rfl rfl; simp only [Act.put, List.setIfInBounds_toArray, List.set_cons_zero, List.set_cons_succ]) | (apply lexHg (j := 2) (d := 83) (b := false) rfl rfl rfl rfl; (· intro w' hw'; have hcc := cellsBelow hw'; go_simp; (try go_bits); exact ⟨rfl, hw'⟩); simp only [Act.put, List.setIfInBounds_toArray, List.set_cons_zero, List.set_cons_succ])
            first | (apply lexN (j := 2) (d := 83) (b := false) rfl rfl rfl rfl; simp only [Act.put, List.setIfInBounds_toArray, List.set_cons_zero, List.set_cons_succ]) | (apply lexN' (j := 2) (d := 83) (b := false) rfl rfl rfl; simp only [Act.put, List.setIfInBounds_toArray, List.set_cons_zero, List.set_cons_succ]) | (apply lexFg (j := 2) (d := 83) (b := false) rfl rfl rfl rfl; (· intro _; go_simp; (try go_bits); exact ⟨rfl, rfl⟩); simp only [Act.put, List.setIfInBounds_toArray, List.set_cons_zero, List.set_cons_succ])
            first | (apply lexN (j := 2) (d := 83) (b := false) rfl rfl rfl rfl; simp only [Act.put, List.setIfInBounds_toArray, List.set_cons_zero, List.set_cons_succ]) | (apply lexN' (j := 2) (d := 83) (b := false) rfl rfl rfl; simp only [Act.put, List.setIfInBounds_toArray, List.set_cons_zero, List.set_cons_succ]) | (apply lexFg (j := 2) (d := 83) (b := false) rfl rfl rfl rfl; (· intro _; go_simp; (try go_bits); exact ⟨rfl, rfl⟩); simp only [Act.put, List.setIfInBounds_toArray, List.set_cons_zero, List.set_cons_succ])
            first | (apply lexN (j := 2) (d := 83) (b := false) rfl rfl rfl rfl; simp only [Act.put, List.setIfInBounds_toArray, List.set_cons_zero, List.set_cons_succ]) | (apply lexN' (j := 2) (d := 83) (b := false) rfl rfl rfl; simp only [Act.put, List.setIfInBounds_toArray, List.set_cons_zero, List.set_cons_succ]) | (apply lexFg (j := 2) (d := 83) (b := false) rfl rfl rfl rfl; (· intro _; go_simp; (try go_bits); exact ⟨rfl, rfl⟩); simp only [Act.put, List.setIfInBounds_toArray, List.set_cons_zero, List.set_cons_succ])
            apply lexF rfl; (· intro _; go_simp; (try go_bits); exact ⟨rfl, rfl⟩); simp only [Act.put, List.setIfInBounds_toArray, List.set_cons_zero, List.set_cons_succ]
            refine lexEnd (fun W9 hwB => ?_)
            clear e3 hgv2
            have hgt := HDEC.out g r HI.out.1 HI.out.2 (.inr HCD.out)
            obtain ⟨g1, rfl⟩ : ∃ g1, g = g1 + 1 := ⟨g - 1, by omega⟩
            have HI2 := hid (show g1 * v1 + (r + v1) = t ∧ UV ≤ g1 from ⟨by have := HI.out.1; rw [Nat.add_mul] at this; omega, by omega⟩)
            have hg1 : g1 ≤ 18446744073709551615 := by omega
            have eg : ((g1 + 1 : Nat) : Int) - 1 = (g1 : Int) := by omega
            have dB := (hwB.cell (p := ⟨E, m1, none⟩) hEl).trans d1
            have hlb := Nat.lt_of_lt_of_le hEl hwB.size
            clear hgt
            go_upto_region 14 with (fail)
            clear eg hlb dB
            obtain ⟨rr, hrr⟩ : ∃ rr, r + v1 = rr := ⟨_, rfl⟩
            by_cases hbr : 4294967296 ≤ rr
            · have hbi : (4294967296 : Int) ≤ (r : Int) + (v1 : Int) := by omega
              have HQ := hid (show UV ≤ g1 ∧ g1 ≤ UV + 1 ∧ g1 < 4294967296 from by
                have h3 := HI2.out
                rw [hrr] at h3
                have h5 := guess_break h3.1 HTOP1.out (by omega)
                exact ⟨h3.2, HFINQ.out g1 rr h3.1 h5 (test_break h5 (by omega) (by omega)), h5⟩)
              have hww := hwB
              clear hbr hrr
              go_upto_region 15 with (fail)
              have HRED := hid (reduce_any D E n (ys.take j) us (ys.drop (j + n + 1)) vs g1 W9 (Arr.below HWIN.out hww) (HE.out.below hww) hEne.symm (by rw [HS2.out, hvl]) HS6.out HVB.out (by rw [HVV.out]; exact HV0.out) (by have := HQ.out.2.2; omega) (by rw [HVV.out, HUU.out, HUV.out]; exact HQ.out.1) (by rw [HVV.out, HUU.out, HUV.out]; exact HQ.out.2.1) (by rw [HTK.out]; omega) (by omega))
              rw [HTK.out, hvl, HVV.out, HUU.out, HUV.out] at HRED
              have hsw : j ≤ i2 + 1 := by omega
              have hG8 := HGQ.out.below hww
              have hgB : (g1 : Int) ≤ 4294967295 := by have := HQ.out.2.2; omega
              go_wp2_with (go_at_call 64; refine HRED.out.mono ?_; clear HRED; rintro e W10 ⟨rfl, ⟨us', hu1, hu2, hu3, hw10⟩, hg10⟩; have hG10 := arr_other hG8 hg10 hDG.symm; have cG := hG10.cell j HJ.out; have fG := hG10.free; have lG := hG10.lt)
              go_roundw
              case rel => exact ⟨j, by omega, by go_num, HNEXT.out W10 us' (by rw [hu1]; exact HS2.out) hu2 hu3 hw10 (grown_trans (below_grown hww) hg10)⟩
              case measure => simp [intOf]
            · have hbi : ¬ (4294967296 : Int) ≤ (r : Int) + (v1 : Int) := by omega
              rw [hrr] at HI2
              have HRR := hid hrr
              clear hrr
              go_wp2
              go_roundw
              case rel => exact ⟨g1, rr, rfl, by rw [← HRR.out]; rfl, HI2, by omega, hg1, hwB⟩
              case measure => simp [intOf]
          · have HQ := hid (show UV ≤ g ∧ g ≤ UV + 1 ∧ g < 4294967296 from ⟨HI.out.2, HFINQ.out g r HI.out.1 (by omega) (by omega), by omega⟩)
            have hci : ¬ (ra : Int) < (gv : Int) := by omega
            clear hra hgv hm0 hmn' hc
            apply lexF rfl; (· intro _; go_simp; (try go_bits); exact ⟨rfl, rfl⟩); simp only [Act.put, List.setIfInBounds_toArray, List.set_cons_zero, List.set_cons_succ]
            apply lexF rfl; (· intro _; go_simp; (try go_bits); exact ⟨rfl, rfl⟩); simp only [Act.put, List.setIfInBounds_toArray, List.set_cons_zero, List.set_cons_succ]
            apply lexF rfl; (· intro _; go_simp; (try go_bits); exact ⟨rfl, rfl⟩); simp only [Act.put, List.setIfInBounds_toArray, List.set_cons_zero, List.set_cons_succ]
            first | (apply lexN (j := 2) (d := 83) (b := false) rfl rfl rfl rfl; simp only [Act.put, List.setIfInBounds_toArray, List.set_cons_zero, List.set_cons_succ]) | (apply lexN' (j := 2) (d := 83) (b := false) rfl rfl rfl; simp only [Act.put, List.setIfInBounds_toArray, List.set_cons_zero, List.set_cons_succ]) | (apply lexFg (j := 2) (d := 83) (b := false) rfl rfl rfl rfl; (· intro _; go_simp; (try go_bits); exact ⟨rfl, rfl⟩); simp only [Act.put, List.setIfInBounds_toArray, List.set_cons_zero, List.set_cons_succ])
            first | (apply lexN (j := 2) (d := 83) (b := false) rfl rfl rfl rfl; simp only [Act.put, List.setIfInBounds_toArray, List.set_cons_zero, List.set_cons_succ]) | (apply lexN' (j := 2) (d := 83) (b := false) rfl rfl rfl; simp only [Act.put, List.setIfInBounds_toArray, List.set_cons_zero, List.set_cons_succ]) | (apply lexFg (j := 2) (d := 83) (b := false) rfl rfl rfl rfl; (· intro _; go_simp; (try go_bits); exact ⟨rfl, rfl⟩); simp only [Act.put, List.setIfInBounds_toArray, List.set_cons_zero, List.set_cons_succ])
            first | (apply lexN (j := 2) (d := 83) (b := false) rfl rfl rfl rfl; simp only [Act.put, List.setIfInBounds_toArray, List.set_cons_zero, List.set_cons_succ]) | (apply lexN' (j := 2) (d := 83) (b := false) rfl rfl rfl; simp only [Act.put, List.setIfInBounds_toArray, List.set_cons_zero, List.set_cons_succ]) | (apply lexFg (j := 2) (d := 83) (b := false) rfl rfl rfl rfl; (· intro _; go_simp; (try go_bits); exact ⟨rfl, rfl⟩); simp only [Act.put, List.setIfInBounds_toArray, List.set_cons_zero, List.set_cons_succ])
            first | (apply lexN (j := 2) (d := 83) (b := false) rfl rfl rfl rfl; simp only [Act.put, List.setIfInBounds_toArray, List.set_cons_zero, List.set_cons_succ]) | (apply lexN' (j := 2) (d := 83) (b := false) rfl rfl rfl; simp only [Act.put, List.setIfInBounds_toArray, List.set_cons_zero, List.set_cons_succ]) | (apply lexFg (j := 2) (d := 83) (b := false) rfl rfl rfl rfl; (· intro _; go_simp; (try go_bits); exact ⟨rfl, rfl⟩); simp only [Act.put, List.setIfInBounds_toArray, List.set_cons_zero, List.set_cons_succ])
            first | (apply lexN (j := 2) (d := 83) (b := false) rfl rfl rfl rfl; simp only [Act.put, List.setIfInBounds_toArray, List.set_cons_zero, List.set_cons_succ]) | (apply lexN' (j := 2) (d := 83) (b := false) rfl rfl rfl; simp only [Act.put, List.setIfInBounds_toArray, List.set_cons_zero, List.set_cons_succ]) | (apply lexFg (j := 2) (d := 83) (b := false) rfl rfl rfl rfl; (· intro _; go_simp; (try go_bits); exact ⟨rfl, rfl⟩); simp only [Act.put, List.setIfInBounds_toArray, List.set_cons_zero, List.set_cons_succ])
            first | (apply lexN (j := 2) (d := 83) (b := false) rfl rfl rfl rfl; simp only [Act.put, List.setIfInBounds_toArray, List.set_cons_zero, List.set_cons_succ]) | (apply lexN' (j := 2) (d := 83) (b := false) rfl rfl rfl; simp only [Act.put, List.setIfInBounds_toArray, List.set_cons_zero, List.set_cons_succ]) | (apply lexHg (j := 2) (d := 83) (b := false) rfl rfl rfl rfl; (· intro w' hw'; have hcc := cellsBelow hw'; go_simp; (try go_bits); exact ⟨rfl, hw'⟩); simp only [Act.put, List.setIfInBounds_toArray, List.set_cons_zero, List.set_cons_succ])
            first | (apply lexN (j := 2) (d := 83) (b := false) rfl rfl rfl rfl; simp only [Act.put, List.setIfInBounds_toArray, List.set_cons_zero, List.set_cons_succ]) | (apply lexN' (j := 2) (d := 83) (b := false) rfl rfl rfl; simp only [Act.put, List.setIfInBounds_toArray, List.set_cons_zero, List.set_cons_succ]) | (apply lexFg (j := 2) (d := 83) (b := false) rfl rfl rfl rfl; (· intro _; go_simp; (try go_bits); exact ⟨rfl, rfl⟩); simp only [Act.put, List.setIfInBounds_toArray, List.set_cons_zero, List.set_cons_succ])
            first | (apply lexN (j := 2) (d := 83) (b := false) rfl rfl rfl rfl; simp only [Act.put, List.setIfInBounds_toArray, List.set_cons_zero, List.set_cons_succ]) | (apply lexN' (j := 2) (d := 83) (b := false) rfl rfl rfl; simp only [Act.put, List.setIfInBounds_toArray, List.set_cons_zero, List.set_cons_succ]) | (apply lexFg (j := 2) (d := 83) (b := false) rfl rfl rfl rfl; (· intro _; go_simp; (try go_bits); exact ⟨rfl, rfl⟩); simp only [Act.put, List.setIfInBounds_toArray, List.set_cons_zero, List.set_cons_succ])
            first | (apply lexN (j := 2) (d := 83) (b := false) rfl rfl rfl rfl; simp only [Act.put, List.setIfInBounds_toArray, List.set_cons_zero, List.set_cons_succ]) | (apply lexN' (j := 2) (d := 83) (b := false) rfl rfl rfl; simp only [Act.put, List.setIfInBounds_toArray, List.set_cons_zero, List.set_cons_succ]) | (apply lexFg (j := 2) (d := 83) (b := false) rfl rfl rfl rfl; (· intro _; go_simp; (try go_bits); exact ⟨rfl, rfl⟩); simp only [Act.put, List.setIfInBounds_toArray, List.set_cons_zero, List.set_cons_succ])
            first | (apply lexN (j := 2) (d := 83) (b := false) rfl rfl rfl rfl; simp only [Act.put, List.setIfInBounds_toArray, List.set_cons_zero, List.set_cons_succ]) | (apply lexN' (j := 2) (d := 83) (b := false) rfl rfl rfl; simp only [Act.put, List.setIfInBounds_toArray, List.set_cons_zero, List.set_cons_succ]) | (apply lexFg (j := 2) (d := 83) (b := false) rfl rfl rfl rfl; (· intro _; go_simp; (try go_bits); exact ⟨rfl, rfl⟩); simp only [Act.put, List.setIfInBounds_toArray, List.set_cons_zero, List.set_cons_succ])
            first | (apply lexN (j := 2) (d := 83) (b := false) rfl rfl rfl rfl; simp only [Act.put, List.setIfInBounds_toArray, List.set_cons_zero, List.set_cons_succ]) | (apply lexN' (j := 2) (d := 83) (b := false) rfl rfl rfl; simp only [Act.put, List.setIfInBounds_toArray, List.set_cons_zero, List.set_cons_succ]) | (apply lexFg (j := 2) (d := 83) (b := false) rfl rfl rfl rfl; (· intro _; go_simp; (try go_bits); exact ⟨rfl, rfl⟩); simp only [Act.put, List.setIfInBounds_toArray, List.set_cons_zero, List.set_cons_succ])
            first | (apply lexN (j := 2) (d := 83) (b := false) rfl rfl rfl rfl; simp only [Act.put, List.setIfInBounds_toArray, List.set_cons_zero, List.set_cons_succ]) | (apply lexN' (j := 2) (d := 83) (b := false) rfl rfl rfl; simp only [Act.put, List.setIfInBounds_toArray, List.set_cons_zero, List.set_cons_succ]) | (apply lexFg (j := 2) (d := 83) (b := false) rfl rfl rfl rfl; (· intro _; go_simp; (try go_bits); exact ⟨rfl, rfl⟩); simp only [Act.put, List.setIfInBounds_toArray, List.set_cons_zero, List.set_cons_succ])
            first | (apply lexN (j := 2) (d := 83) (b := false) rfl rfl rfl rfl; simp only [Act.put, List.setIfInBounds_toArray, List.set_cons_zero, List.set_cons_succ]) | (apply lexN' (j := 2) (d := 83) (b := false) rfl rfl rfl; simp only [Act.put, List.setIfInBounds_toArray, List.set_cons_zero, List.set_cons_succ]) | (apply lexFg (j := 2) (d := 83) (b := false) rfl rfl rfl rfl; (· intro _; go_simp; (try go_bits); exact ⟨rfl, rfl⟩); simp only [Act.put, List.setIfInBounds_toArray, List.set_cons_zero, List.set_cons_succ])
            first | (apply lexN (j := 2) (d := 83) (b := false) rfl rfl rfl rfl; simp only [Act.put, List.setIfInBounds_toArray, List.set_cons_zero, List.set_cons_succ]) | (apply lexN' (j := 2) (d := 83) (b := false) rfl rfl rfl; simp only [Act.put, List.setIfInBounds_toArray, List.set_cons_zero, List.set_cons_succ]) | (apply lexFg (j := 2) (d := 83) (b := false) rfl rfl rfl rfl; (· intro _; go_simp; (try go_bits); exact ⟨rfl, rfl⟩); simp only [Act.put, List.setIfInBounds_toArray, List.set_cons_zero, List.set_cons_succ])
            first | (apply lexN (j := 2) (d := 83) (b := false) rfl rfl rfl rfl; simp only [Act.put, List.setIfInBounds_toArray, List.set_cons_zero, List.set_cons_succ]) | (apply lexN' (j := 2) (d := 83) (b := false) rfl rfl rfl; simp only [Act.put, List.setIfInBounds_toArray, List.set_cons_zero, List.set_cons_succ]) | (apply lexFg (j := 2) (d := 83) (b := false) rfl rfl rfl rfl; (· intro _; go_simp; (try go_bits); exact ⟨rfl, rfl⟩); simp only [Act.put, List.setIfInBounds_toArray, List.set_cons_zero, List.set_cons_succ])
            first | (apply lexN (j := 2) (d := 83) (b := false) rfl rfl rfl rfl; simp only [Act.put, List.setIfInBounds_toArray, List.set_cons_zero, List.set_cons_succ]) | (apply lexN' (j := 2) (d := 83) (b := false) rfl rfl rfl; simp only [Act.put, List.setIfInBounds_toArray, List.set_cons_zero, List.set_cons_succ]) | (apply lexFg (j := 2) (d := 83) (b := false) rfl rfl rfl rfl; (· intro _; go_simp; (try go_bits); exact ⟨rfl, rfl⟩); simp only [Act.put, List.setIfInBounds_toArray, List.set_cons_zero, List.set_cons_succ])
            first | (apply lexN (j := 2) (d := 83) (b := false) rfl rfl rfl rfl; simp only [Act.put, List.setIfInBounds_toArray, List.set_cons_zero, List.set_cons_succ]) | (apply lexN' (j := 2) (d := 83) (b := false) rfl rfl rfl; simp only [Act.put, List.setIfInBounds_toArray, List.set_cons_zero, List.set_cons_succ]) | (apply lexHg (j := 2) (d := 83) (b := false) rfl rfl rfl rfl; (· intro w' hw'; have hcc := cellsBelow hw'; go_simp; (try go_bits); exact ⟨rfl, hw'⟩); simp only [Act.put, List.setIfInBounds_toArray, List.set_cons_zero, List.set_cons_succ])
            first | (apply lexN (j := 2) (d := 83) (b := false) rfl rfl rfl rfl; simp only [Act.put, List.setIfInBounds_toArray, List.set_cons_zero, List.set_cons_succ]) | (apply lexN' (j := 2) (d := 83) (b := false) rfl rfl rfl; simp only [Act.put, List.setIfInBounds_toArray, List.set_cons_zero, List.set_cons_succ]) | (apply lexFg (j := 2) (d := 83) (b := false) rfl rfl rfl rfl; (· intro _; go_simp; (try go_bits); exact ⟨rfl, rfl⟩); simp only [Act.put, List.setIfInBounds_toArray, List.set_cons_zero, List.set_cons_succ])
            first | (apply lexN (j := 2) (d := 83) (b := false) rfl rfl rfl rfl; simp only [Act.put, List.setIfInBounds_toArray, List.set_cons_zero, List.set_cons_succ]) | (apply lexN' (j := 2) (d := 83) (b := false) rfl rfl rfl; simp only [Act.put, List.setIfInBounds_toArray, List.set_cons_zero, List.set_cons_succ]) | (apply lexFg (j := 2) (d := 83) (b := false) rfl rfl rfl rfl; (· intro _; go_simp; (try go_bits); exact ⟨rfl, rfl⟩); simp only [Act.put, List.setIfInBounds_toArray, List.set_cons_zero, List.set_cons_succ])
            first | (apply lexN (j := 2) (d := 83) (b := false) rfl rfl rfl rfl; simp only [Act.put, List.setIfInBounds_toArray, List.set_cons_zero, List.set_cons_succ]) | (apply lexN' (j := 2) (d := 83) (b := false) rfl rfl rfl; simp only [Act.put, List.setIfInBounds_toArray, List.set_cons_zero, List.set_cons_succ]) | (apply lexFg (j := 2) (d := 83) (b := false) rfl rfl rfl rfl; (· intro _; go_simp; (try go_bits); exact ⟨rfl, rfl⟩); simp only [Act.put, List.setIfInBounds_toArray, List.set_cons_zero, List.set_cons_succ])
            apply lexF rfl; (· intro _; go_simp; (try go_bits); exact ⟨rfl, rfl⟩); simp only [Act.put, List.setIfInBounds_toArray, List.set_cons_zero, List.set_cons_succ]
            refine lexEnd (fun W9 hww => ?_)
            clear e3 hgv2
            go_upto_region 15 with (fail)
            have HRED := hid (reduce_any D E n (ys.take j) us (ys.drop (j + n + 1)) vs g W9 (Arr.below HWIN.out hww) (HE.out.below hww) hEne.symm (by rw [HS2.out, hvl]) HS6.out HVB.out (by rw [HVV.out]; exact HV0.out) (by have := HQ.out.2.2; omega) (by rw [HVV.out, HUU.out, HUV.out]; exact HQ.out.1) (by rw [HVV.out, HUU.out, HUV.out]; exact HQ.out.2.1) (by rw [HTK.out]; omega) (by omega))
            rw [HTK.out, hvl, HVV.out, HUU.out, HUV.out] at HRED
            have hsw : j ≤ i2 + 1 := by omega
            have hG8 := HGQ.out.below hww
            have hgB : (g : Int) ≤ 4294967295 := by have := HQ.out.2.2; omega
            go_wp2_with (go_at_call 64; refine HRED.out.mono ?_; clear HRED; rintro e W10 ⟨rfl, ⟨us', hu1, hu2, hu3, hw10⟩, hg10⟩; have hG10 := arr_other hG8 hg10 hDG.symm; have cG := hG10.cell j HJ.out; have fG := hG10.free; have lG := hG10.lt)
            go_roundw
            case rel => exact ⟨j, by omega, by go_num, HNEXT.out W10 us' (by rw [hu1]; exact HS2.out) hu2 hu3 hw10 (grown_trans (below_grown hww) hg10)⟩
            case measure => simp [intOf]
end Go.Proofs.YtepljhpamconbaaDoor
