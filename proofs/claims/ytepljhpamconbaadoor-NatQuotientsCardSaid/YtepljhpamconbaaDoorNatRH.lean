/- The reference: Parse. -/
import Derived.Test.YtepljhpamconbaaDoorNatRG
import Derived.Laws.Strings3
namespace Go.Proofs.YtepljhpamconbaaDoor
open Go.RowKit
open Go.Lib (decDigits)

theorem RefV.zero (W : World) : RefV W (.slice none 0 0) 0 := .inl ⟨digs_zero, _, _, rfl⟩

set_option maxRecDepth 100000 in
set_option maxHeartbeats 2000000 in
theorem rparse_two (s : ByteArray) (w : World) (hs : 2 ≤ s.size) (hl : s.size ≤ 1000000) (h0 : ((s[0].toNat : Int) == 48) = false) (hh : s.data.toList.head? ≠ some 48) :
    Calls Tryd.prog 19 #[.string s] w fun e w' => ∃ v, e = .returned (.tuple #[v, .int .i64 (parseErr s.data.toList)]) ∧ RefV w' v (parseVal s.data.toList) ∧ Below w.heap.size w w' := by
  have hne : s.data.toList ≠ [] := fun e => by have := str_len s; rw [e] at this; simp at this; omega
  have he : ((s.size : Int) == 0) = false := by rw [beq_eq_false_iff_ne]; omega
  have hgt : (1 : Int) < (s.size : Int) := by omega
  have HP := hid (parse_good hne (.inr hh))
  obtain ⟨i0, hi, hz0, hz1, hz2⟩ := info_parts infoI
  obtain ⟨pe, hpe⟩ : ∃ pe, parseErr s.data.toList = pe := ⟨_, rfl⟩
  obtain ⟨pv, hpv⟩ : ∃ pv, parseVal s.data.toList = pv := ⟨_, rfl⟩
  have HPE := hid hpe
  have HPV := hid hpv
  rw [hpe, hpv]
  clear hpe hpv hne hh
  go_enter Tryd.func19, Tryd.ntmps19
  go_upto_region 3 with (fail)
  clear he
  go_wp2_with fail
  go_loopw [4] (fun i wr => ∃ k : Nat, k ≤ s.size ∧ i = .int .i64 k ∧ RowKit.Hid (∀ j (h : j < s.size), j < k → isDig s[j] = true) ∧ RowKit.Hid (wr = w)) (fun i _ => s.size - (intOf i).toNat)
  case atStart => exact ⟨0, Nat.zero_le _, rfl, hid (fun j _ h => absurd h (by omega)), hid rfl⟩
  case round =>
    obtain ⟨k, hk, rfl, HD, HWW⟩ := hrel
    have hWW := HWW.out.symm
    subst hWW
    clear HWW
    by_cases hlt : k < s.size
    · by_cases hdg : isDig s[k] = true
      · obtain ⟨q1, q2⟩ := (isDig_iff _).1 hdg
        have q3 : ¬ ((s[k].toNat : Int) < 48) := by omega
        have q4 : ¬ (57 < (s[k].toNat : Int)) := by omega
        have HD' := hid (show ∀ j (h : j < s.size), j < k + 1 → isDig s[j] = true from fun j h hj => by
          by_cases e : j = k
          · subst e; exact hdg
          · exact HD.out j h (by omega))
        clear hdg q1 q2
        go_wp2
        go_roundw
        case rel => exact ⟨k + 1, by omega, by go_num, HD', hid (by trivial)⟩
        case measure => simp [intOf]; omega
      · have hbad : parseErr s.data.toList = 3 := parse_syn (.inr (.inr ⟨s[k], by rw [str_at]; exact List.getElem_mem _, by simpa using hdg⟩))
        rw [HPE.out] at hbad
        have hval : pv = 0 := by rw [← HPV.out]; exact parseVal_err (by rw [HPE.out, hbad]; decide)
        subst hbad hval
        have q : ¬ (48 ≤ s[k].toNat ∧ s[k].toNat ≤ 57) := fun h' => hdg ((isDig_iff s[k]).2 h')
        clear hdg
        by_cases q3 : (s[k].toNat : Int) < 48
        · clear q
          go_wp2
          go_ret2
          exact ⟨_, rfl, RefV.zero _, Below.refl _ _⟩
        · have q4 : 57 < (s[k].toNat : Int) := by omega
          clear q
          go_wp2
          go_ret2
          exact ⟨_, rfl, RefV.zero _, Below.refl _ _⟩
    · obtain rfl : k = s.size := by omega
      have HDD := hid (show ∀ c ∈ s.data.toList, isDig c = true from fun c hc => by
        obtain ⟨j, hj, rfl⟩ := List.getElem_of_mem hc
        have hj' : j < s.size := by rw [str_len] at hj; exact hj
        rw [← str_at s j hj']; exact HD.out j hj' hj')
      have HPP := hid (HP.out HDD.out)
      clear HD HP
      by_cases hbig : 1000 < s.size
      · have hbad : parseErr s.data.toList = 6 := by rw [HPP.out, str_len, if_pos hbig]
        rw [HPE.out] at hbad
        have hval : pv = 0 := by rw [← HPV.out]; exact parseVal_err (by rw [HPE.out, hbad]; decide)
        subst hbad hval
        have q : (1000 : Int) < (s.size : Int) := by omega
        go_wp2
        go_ret2
        exact ⟨_, rfl, RefV.zero _, Below.refl _ _⟩
      · have hgood : parseErr s.data.toList = 0 := by rw [HPP.out, str_len, if_neg hbig]
        have hpv : pv = valT s.data.toList := by rw [← HPV.out]; unfold parseVal; rw [if_pos hgood]
        rw [HPE.out] at hgood
        subst hgood hpv
        have q : ¬ (1000 : Int) < (s.size : Int) := by omega
        go_upto_region 11 with (fail)
        go_loopw [0, 5] (fun sv dv wl => ∃ (t : ByteArray) (os : List Nat) (k : Nat), sv = .string t ∧ k ≤ s.size ∧ RowKit.Hid (t.data.toList = s.data.toList.take k) ∧ RowI wl w.heap.size dv os ∧ RowKit.Hid (∀ d ∈ os, d < B6) ∧ os.length + k ≤ s.size + 1 * os.length ∧ RowKit.Hid (os.length ≤ 1000 ∧ (k = 0 ∨ 6 * os.length + k = s.size) ∧ val B6 os + B6 ^ os.length * valT (s.data.toList.take k) = valT s.data.toList) ∧ Below w.heap.size w wl) (fun sv _ _ => strLen sv)
        case atStart => exact ⟨s, [], s.size, rfl, Nat.le_refl _, hid (by rw [← str_len, List.take_length]), RowI.nil _ _, hid (fun d h => absurd h (List.not_mem_nil)), by simp, hid ⟨by simp, .inr (by simp), by rw [← str_len, List.take_length]; simp [val]⟩, Below.refl _ _⟩
        case round =>
          obtain ⟨t, os, k, rfl, hk, HTL, hrow, HOB, _, HVL, hbl⟩ := hrel
          generalize wr = W3 at hrow hbl ⊢
          generalize u5 = dv at hrow ⊢
          have HTS := hid (show t.size = k by rw [← str_len t, HTL.out, List.length_take, str_len]; omega)
          obtain ⟨hol, hok, hov⟩ := HVL.out
          by_cases hk0 : k = 0
          · subst hk0
            have hts : t.size = 0 := HTS.out
            have HT := hid (without_any dv os W3 hrow.gv (by omega))
            have hve : val B6 os = valT s.data.toList := by rw [← hov]; simp [valT]
            rw [← digs_val b6_2 HOB.out, hve] at HT
            have hti : ¬ (0 : Int) < (t.size : Int) := by omega
            clear hve hov
            obtain ⟨po, co, rfl⟩ := row_slice hrow
            go_wp2_with (go_at_call 47; refine HT.out.mono ?_; clear HT; rintro e w4 ⟨v', rfl, hv', hw4⟩)
            go_ret2
            exact ⟨_, rfl, hv', hbl.trans (hw4.mono hbl.size)⟩
          · obtain ⟨f, hf, hfk, hf6, hf0⟩ : ∃ f : Nat, max 0 ((t.size : Int) - 6) = (f : Int) ∧ f < k ∧ k ≤ f + 6 ∧ (f = 0 ∨ f + 6 = k) := by
              have := HTS.out
              by_cases h6 : 6 ≤ k
              · exact ⟨k - 6, by omega, by omega, by omega, .inr (by omega)⟩
              · exact ⟨0, by omega, by omega, by omega, .inl rfl⟩
            have HTD := hid (show ∀ c ∈ t.data.toList, isDig c = true from fun c hc => HDD.out c (by rw [HTL.out] at hc; exact List.mem_of_mem_take hc))
            have htp : (0 : Int) < (t.size : Int) := by have := HTS.out; omega
            go_upto_region 13 with (fail)
            clear hf htp
            go_wp2_with fail
            go_loopw [7, 8] (fun gv iv wi => ∃ j : Nat, f ≤ j ∧ j ≤ k ∧ iv = .int .i64 (j : Int) ∧ gv = .int .i64 ((valT ((t.data.toList.drop f).take (j - f)) : Nat) : Int) ∧ RowKit.Hid (wi = W3)) (fun _ iv _ => k - (intOf iv).toNat)
            case atStart => exact ⟨f, Nat.le_refl _, by omega, rfl, by rw [Nat.sub_self]; rfl, hid rfl⟩
            case round =>
              obtain ⟨j, hfj, hjk, rfl, rfl, HW⟩ := hrel
              have hww := HW.out
              subst hww
              clear HW
              have htk := HTS.out
              obtain ⟨i, hi0⟩ : ∃ i, j - f = i := ⟨_, rfl⟩
              have HJ := hid (show f + i = j by omega)
              have hi6 : i ≤ 6 := by omega
              rw [hi0]
              have hpl := valT_lt i ((t.data.toList.drop f).take i) (by rw [List.length_take, List.length_drop, str_len]; omega) (fun c hc => HTD.out c (List.mem_of_mem_drop (List.mem_of_mem_take hc)))
              by_cases hil : j < k
              · have hit : j < t.size := by omega
                have hdg := (isDig_iff _).1 (HTD.out _ (List.getElem_mem (h := by rw [str_len]; exact hit) (l := t.data.toList) (n := j)))
                rw [← str_at t j hit] at hdg
                have HV2 := hid (show valT ((t.data.toList.drop f).take (j + 1 - f)) = valT ((t.data.toList.drop f).take i) * 10 + (t[j].toNat - 48) by
                  have e := HJ.out
                  subst e
                  rw [show f + i + 1 - f = i + 1 by omega, List.take_succ_eq_append_getElem (by rw [List.length_drop, str_len]; omega), valT_snoc, List.getElem_drop, str_at t (f + i) hit])
                have hp8 : 10 ^ i ≤ 10 ^ 5 := Nat.pow_le_pow_right (by decide) (by omega)
                obtain ⟨G, hG⟩ : ∃ G, valT ((t.data.toList.drop f).take i) = G := ⟨_, rfl⟩
                rw [hG] at hpl HV2 ⊢
                obtain ⟨c, hc⟩ : ∃ c, t[j].toNat = c := ⟨_, rfl⟩
                rw [hc] at hdg HV2
                have hG5 : G < 100000 := Nat.lt_of_lt_of_le hpl hp8
                have hti : (j : Int) < (t.size : Int) := by omega
                obtain ⟨G', hG'⟩ : ∃ G', valT ((t.data.toList.drop f).take (j + 1 - f)) = G' := ⟨_, rfl⟩
                rw [hG'] at HV2
                have HG' := hid hG'
                have e2 : (10 : Int) * (G : Int) + ((c : Int) - 48) = (G' : Int) := by rw [HV2.out]; omega
                clear hG hp8 hpl hi0 hG'
                go_wp2
                go_roundw
                case rel => exact ⟨j + 1, by omega, by omega, by go_num, by rw [HG'.out], hid (by trivial)⟩
                case measure => simp [intOf]; omega
              · obtain rfl : j = k := by omega
                have HG6 := hid (show valT ((t.data.toList.drop f).take i) < B6 from by
                  have hp8 : 10 ^ i ≤ 10 ^ 6 := Nat.pow_le_pow_right (by decide) hi6
                  exact Nat.lt_of_lt_of_le hpl hp8)
                have HVN := hid (show valT (s.data.toList.take j) = valT (s.data.toList.take f) * 10 ^ i + valT ((t.data.toList.drop f).take i) by
                  have e := HJ.out
                  rw [← e, List.take_add, valT_append, HTL.out, List.length_take, List.length_drop, str_len, Nat.min_eq_left (by omega), List.drop_take, List.take_take, Nat.min_eq_left (by omega)])
                obtain ⟨G, hG⟩ : ∃ G, valT ((t.data.toList.drop f).take i) = G := ⟨_, rfl⟩
                rw [hG] at HG6 HVN ⊢
                have hGb := HG6.out
                rw [b6] at hGb
                have HNV := hid (show val B6 (os ++ [G]) + B6 ^ (os ++ [G]).length * valT (s.data.toList.take f) = valT s.data.toList by
                  rw [val_snoc, List.length_append, List.length_singleton, ← hov, HVN.out, Nat.pow_succ, Nat.mul_assoc, Nat.add_assoc, ← Nat.mul_add]
                  rcases hf0 with h0 | h6
                  · subst h0; simp [valT]
                  · rw [show i = 6 by omega, b6, Nat.add_comm G, Nat.mul_comm 1000000])
                have hjt : j = t.size := by omega
                have HTE := hid (show (t.extract 0 f).data.toList = s.data.toList.take f by
                  rw [ByteArray.data_extract, Array.toList_extract, List.extract_eq_take_drop, List.drop_zero, Nat.sub_zero, HTL.out, List.take_take, Nat.min_eq_left (by omega)])
                obtain ⟨t', ht'⟩ : ∃ t', t.extract 0 f = t' := ⟨_, rfl⟩
                rw [ht'] at HTE
                have htf : f ≤ t.size := by omega
                have HF := hid hf0
                have HOK := hid hok
                clear hG hov hf0 hok hpl hi0
                have hti : ¬ (j : Int) < (t.size : Int) := by omega
                have HJT := hid hjt
                clear hjt htk
                go_upto_region 18 with (fail)
                go_wp2_with (at_builtin; go_loud (refine wpList_append_own _ rfl _ _ 27 rfl w.heap.size 3 i0 _ 1 8 Tryd.underlying27 hi hz0 hz1 hz2 rfl (by decide) _ _ _ rfl (hrow.alloc _) ⟨wr.heap.size, 0, none⟩ 1 1 [iCell G] rfl rfl (cells1_new wr _ _) (one_i _) (by simp [maxLen]; omega) (by omega) (by have := hbl.size; simp; omega) ?_; intro v' w7 hown' hgrow _; have hb7 := row1_step hbl hrow (Nat.le_refl _) hbl.size hgrow; have hr7 := RowI.push hown' rfl))
                go_roundw
                case rel => exact ⟨t', os ++ [G], f, by rw [← ht'], by omega, HTE, hr7, hid (fun d hd => by
                  rcases List.mem_append.1 hd with h1 | h1
                  · exact HOB.out d h1
                  · simp only [List.mem_cons, List.not_mem_nil, or_false] at h1; rw [h1]; exact HG6.out), by rw [List.length_append, List.length_singleton]; omega, hid ⟨by rw [List.length_append, List.length_singleton]; have := HOK.out; rcases this with h | h <;> omega, by rw [List.length_append, List.length_singleton]; exact HF.out.imp id (fun h => by rcases HOK.out with h' | h' <;> omega), HNV.out⟩, hb7⟩
                case measure =>
                  show strLen (.string t') < strLen (.string t)
                  show t'.size < t.size
                  have h3 : t'.size = f := by rw [← str_len, HTE.out, List.length_take, str_len]; omega
                  have := HTS.out
                  omega

set_option maxRecDepth 100000 in
set_option maxHeartbeats 2000000 in
theorem rparse_one (s : ByteArray) (w : World) (hs : s.size = 1) :
    Calls Tryd.prog 19 #[.string s] w fun e w' => ∃ v, e = .returned (.tuple #[v, .int .i64 (parseErr s.data.toList)]) ∧ RefV w' v (parseVal s.data.toList) ∧ Below w.heap.size w w' := by
  have hne : s.data.toList ≠ [] := fun e => by have := str_len s; rw [e] at this; simp at this; omega
  have he : ((s.size : Int) == 0) = false := by rw [beq_eq_false_iff_ne]; omega
  have HP := hid (parse_good hne (.inl (by rw [str_len]; exact hs)))
  have hl : s.size ≤ 1000000 := by omega
  have hs1 : ¬ (1 : Int) < (s.size : Int) := by omega
  have HSZ := hid hs
  obtain ⟨i0, hi, hz0, hz1, hz2⟩ := info_parts infoI
  obtain ⟨pe, hpe⟩ : ∃ pe, parseErr s.data.toList = pe := ⟨_, rfl⟩
  obtain ⟨pv, hpv⟩ : ∃ pv, parseVal s.data.toList = pv := ⟨_, rfl⟩
  have HPE := hid hpe
  have HPV := hid hpv
  rw [hpe, hpv]
  clear hpe hpv hne hs
  go_enter Tryd.func19, Tryd.ntmps19
  go_upto_region 3 with (fail)
  clear hs1
  clear he
  go_wp2_with fail
  go_loopw [4] (fun i wr => ∃ k : Nat, k ≤ s.size ∧ i = .int .i64 k ∧ RowKit.Hid (∀ j (h : j < s.size), j < k → isDig s[j] = true) ∧ RowKit.Hid (wr = w)) (fun i _ => s.size - (intOf i).toNat)
  case atStart => exact ⟨0, Nat.zero_le _, rfl, hid (fun j _ h => absurd h (by omega)), hid rfl⟩
  case round =>
    obtain ⟨k, hk, rfl, HD, HWW⟩ := hrel
    have hWW := HWW.out.symm
    subst hWW
    clear HWW
    by_cases hlt : k < s.size
    · by_cases hdg : isDig s[k] = true
      · obtain ⟨q1, q2⟩ := (isDig_iff _).1 hdg
        have q3 : ¬ ((s[k].toNat : Int) < 48) := by omega
        have q4 : ¬ (57 < (s[k].toNat : Int)) := by omega
        have HD' := hid (show ∀ j (h : j < s.size), j < k + 1 → isDig s[j] = true from fun j h hj => by
          by_cases e : j = k
          · subst e; exact hdg
          · exact HD.out j h (by omega))
        clear hdg q1 q2
        go_wp2
        go_roundw
        case rel => exact ⟨k + 1, by omega, by go_num, HD', hid (by trivial)⟩
        case measure => simp [intOf]; omega
      · have hbad : parseErr s.data.toList = 3 := parse_syn (.inr (.inr ⟨s[k], by rw [str_at]; exact List.getElem_mem _, by simpa using hdg⟩))
        rw [HPE.out] at hbad
        have hval : pv = 0 := by rw [← HPV.out]; exact parseVal_err (by rw [HPE.out, hbad]; decide)
        subst hbad hval
        have q : ¬ (48 ≤ s[k].toNat ∧ s[k].toNat ≤ 57) := fun h' => hdg ((isDig_iff s[k]).2 h')
        clear hdg
        by_cases q3 : (s[k].toNat : Int) < 48
        · clear q
          go_wp2
          go_ret2
          exact ⟨_, rfl, RefV.zero _, Below.refl _ _⟩
        · have q4 : 57 < (s[k].toNat : Int) := by omega
          clear q
          go_wp2
          go_ret2
          exact ⟨_, rfl, RefV.zero _, Below.refl _ _⟩
    · obtain rfl : k = s.size := by omega
      have HDD := hid (show ∀ c ∈ s.data.toList, isDig c = true from fun c hc => by
        obtain ⟨j, hj, rfl⟩ := List.getElem_of_mem hc
        have hj' : j < s.size := by rw [str_len] at hj; exact hj
        rw [← str_at s j hj']; exact HD.out j hj' hj')
      have HPP := hid (HP.out HDD.out)
      clear HD HP
      by_cases hbig : 1000 < s.size
      · have hbad : parseErr s.data.toList = 6 := by rw [HPP.out, str_len, if_pos hbig]
        rw [HPE.out] at hbad
        have hval : pv = 0 := by rw [← HPV.out]; exact parseVal_err (by rw [HPE.out, hbad]; decide)
        subst hbad hval
        have q : (1000 : Int) < (s.size : Int) := by omega
        go_wp2
        go_ret2
        exact ⟨_, rfl, RefV.zero _, Below.refl _ _⟩
      · have hgood : parseErr s.data.toList = 0 := by rw [HPP.out, str_len, if_neg hbig]
        have hpv : pv = valT s.data.toList := by rw [← HPV.out]; unfold parseVal; rw [if_pos hgood]
        rw [HPE.out] at hgood
        subst hgood hpv
        have q : ¬ (1000 : Int) < (s.size : Int) := by omega
        go_upto_region 11 with (fail)
        go_loopw [0, 5] (fun sv dv wl => ∃ (t : ByteArray) (os : List Nat) (k : Nat), sv = .string t ∧ k ≤ s.size ∧ RowKit.Hid (t.data.toList = s.data.toList.take k) ∧ RowI wl w.heap.size dv os ∧ RowKit.Hid (∀ d ∈ os, d < B6) ∧ os.length + k ≤ s.size + 1 * os.length ∧ RowKit.Hid (os.length ≤ 1000 ∧ (k = 0 ∨ 6 * os.length + k = s.size) ∧ val B6 os + B6 ^ os.length * valT (s.data.toList.take k) = valT s.data.toList) ∧ Below w.heap.size w wl) (fun sv _ _ => strLen sv)
        case atStart => exact ⟨s, [], s.size, rfl, Nat.le_refl _, hid (by rw [← str_len, List.take_length]), RowI.nil _ _, hid (fun d h => absurd h (List.not_mem_nil)), by simp, hid ⟨by simp, .inr (by simp), by rw [← str_len, List.take_length]; simp [val]⟩, Below.refl _ _⟩
        case round =>
          obtain ⟨t, os, k, rfl, hk, HTL, hrow, HOB, _, HVL, hbl⟩ := hrel
          generalize wr = W3 at hrow hbl ⊢
          generalize u5 = dv at hrow ⊢
          have HTS := hid (show t.size = k by rw [← str_len t, HTL.out, List.length_take, str_len]; omega)
          obtain ⟨hol, hok, hov⟩ := HVL.out
          by_cases hk0 : k = 0
          · subst hk0
            have hts : t.size = 0 := HTS.out
            have HT := hid (without_any dv os W3 hrow.gv (by omega))
            have hve : val B6 os = valT s.data.toList := by rw [← hov]; simp [valT]
            rw [← digs_val b6_2 HOB.out, hve] at HT
            have hti : ¬ (0 : Int) < (t.size : Int) := by omega
            clear hve hov
            obtain ⟨po, co, rfl⟩ := row_slice hrow
            go_wp2_with (go_at_call 47; refine HT.out.mono ?_; clear HT; rintro e w4 ⟨v', rfl, hv', hw4⟩)
            go_ret2
            exact ⟨_, rfl, hv', hbl.trans (hw4.mono hbl.size)⟩
          · obtain ⟨f, hf, hfk, hf6, hf0⟩ : ∃ f : Nat, max 0 ((t.size : Int) - 6) = (f : Int) ∧ f < k ∧ k ≤ f + 6 ∧ (f = 0 ∨ f + 6 = k) := by
              have := HTS.out
              by_cases h6 : 6 ≤ k
              · exact ⟨k - 6, by omega, by omega, by omega, .inr (by omega)⟩
              · exact ⟨0, by omega, by omega, by omega, .inl rfl⟩
            have HTD := hid (show ∀ c ∈ t.data.toList, isDig c = true from fun c hc => HDD.out c (by rw [HTL.out] at hc; exact List.mem_of_mem_take hc))
            have htp : (0 : Int) < (t.size : Int) := by have := HTS.out; omega
            go_upto_region 13 with (fail)
            clear hf htp
            go_wp2_with fail
            go_loopw [7, 8] (fun gv iv wi => ∃ j : Nat, f ≤ j ∧ j ≤ k ∧ iv = .int .i64 (j : Int) ∧ gv = .int .i64 ((valT ((t.data.toList.drop f).take (j - f)) : Nat) : Int) ∧ RowKit.Hid (wi = W3)) (fun _ iv _ => k - (intOf iv).toNat)
            case atStart => exact ⟨f, Nat.le_refl _, by omega, rfl, by rw [Nat.sub_self]; rfl, hid rfl⟩
            case round =>
              obtain ⟨j, hfj, hjk, rfl, rfl, HW⟩ := hrel
              have hww := HW.out
              subst hww
              clear HW
              have htk := HTS.out
              obtain ⟨i, hi0⟩ : ∃ i, j - f = i := ⟨_, rfl⟩
              have HJ := hid (show f + i = j by omega)
              have hi6 : i ≤ 6 := by omega
              rw [hi0]
              have hpl := valT_lt i ((t.data.toList.drop f).take i) (by rw [List.length_take, List.length_drop, str_len]; omega) (fun c hc => HTD.out c (List.mem_of_mem_drop (List.mem_of_mem_take hc)))
              by_cases hil : j < k
              · have hit : j < t.size := by omega
                have hdg := (isDig_iff _).1 (HTD.out _ (List.getElem_mem (h := by rw [str_len]; exact hit) (l := t.data.toList) (n := j)))
                rw [← str_at t j hit] at hdg
                have HV2 := hid (show valT ((t.data.toList.drop f).take (j + 1 - f)) = valT ((t.data.toList.drop f).take i) * 10 + (t[j].toNat - 48) by
                  have e := HJ.out
                  subst e
                  rw [show f + i + 1 - f = i + 1 by omega, List.take_succ_eq_append_getElem (by rw [List.length_drop, str_len]; omega), valT_snoc, List.getElem_drop, str_at t (f + i) hit])
                have hp8 : 10 ^ i ≤ 10 ^ 5 := Nat.pow_le_pow_right (by decide) (by omega)
                obtain ⟨G, hG⟩ : ∃ G, valT ((t.data.toList.drop f).take i) = G := ⟨_, rfl⟩
                rw [hG] at hpl HV2 ⊢
                obtain ⟨c, hc⟩ : ∃ c, t[j].toNat = c := ⟨_, rfl⟩
                rw [hc] at hdg HV2
                have hG5 : G < 100000 := Nat.lt_of_lt_of_le hpl hp8
                have hti : (j : Int) < (t.size : Int) := by omega
                obtain ⟨G', hG'⟩ : ∃ G', valT ((t.data.toList.drop f).take (j + 1 - f)) = G' := ⟨_, rfl⟩
                rw [hG'] at HV2
                have HG' := hid hG'
                have e2 : (10 : Int) * (G : Int) + ((c : Int) - 48) = (G' : Int) := by rw [HV2.out]; omega
                clear hG hp8 hpl hi0 hG'
                go_wp2
                go_roundw
                case rel => exact ⟨j + 1, by omega, by omega, by go_num, by rw [HG'.out], hid (by trivial)⟩
                case measure => simp [intOf]; omega
              · obtain rfl : j = k := by omega
                have HG6 := hid (show valT ((t.data.toList.drop f).take i) < B6 from by
                  have hp8 : 10 ^ i ≤ 10 ^ 6 := Nat.pow_le_pow_right (by decide) hi6
                  exact Nat.lt_of_lt_of_le hpl hp8)
                have HVN := hid (show valT (s.data.toList.take j) = valT (s.data.toList.take f) * 10 ^ i + valT ((t.data.toList.drop f).take i) by
                  have e := HJ.out
                  rw [← e, List.take_add, valT_append, HTL.out, List.length_take, List.length_drop, str_len, Nat.min_eq_left (by omega), List.drop_take, List.take_take, Nat.min_eq_left (by omega)])
                obtain ⟨G, hG⟩ : ∃ G, valT ((t.data.toList.drop f).take i) = G := ⟨_, rfl⟩
                rw [hG] at HG6 HVN ⊢
                have hGb := HG6.out
                rw [b6] at hGb
                have HNV := hid (show val B6 (os ++ [G]) + B6 ^ (os ++ [G]).length * valT (s.data.toList.take f) = valT s.data.toList by
                  rw [val_snoc, List.length_append, List.length_singleton, ← hov, HVN.out, Nat.pow_succ, Nat.mul_assoc, Nat.add_assoc, ← Nat.mul_add]
                  rcases hf0 with h0 | h6
                  · subst h0; simp [valT]
                  · rw [show i = 6 by omega, b6, Nat.add_comm G, Nat.mul_comm 1000000])
                have hjt : j = t.size := by omega
                have HTE := hid (show (t.extract 0 f).data.toList = s.data.toList.take f by
                  rw [ByteArray.data_extract, Array.toList_extract, List.extract_eq_take_drop, List.drop_zero, Nat.sub_zero, HTL.out, List.take_take, Nat.min_eq_left (by omega)])
                obtain ⟨t', ht'⟩ : ∃ t', t.extract 0 f = t' := ⟨_, rfl⟩
                rw [ht'] at HTE
                have htf : f ≤ t.size := by omega
                have HF := hid hf0
                have HOK := hid hok
                clear hG hov hf0 hok hpl hi0
                have hti : ¬ (j : Int) < (t.size : Int) := by omega
                have HJT := hid hjt
                clear hjt htk
                go_upto_region 18 with (fail)
                go_wp2_with (at_builtin; go_loud (refine wpList_append_own _ rfl _ _ 27 rfl w.heap.size 3 i0 _ 1 8 Tryd.underlying27 hi hz0 hz1 hz2 rfl (by decide) _ _ _ rfl (hrow.alloc _) ⟨wr.heap.size, 0, none⟩ 1 1 [iCell G] rfl rfl (cells1_new wr _ _) (one_i _) (by simp [maxLen]; omega) (by omega) (by have := hbl.size; simp; omega) ?_; intro v' w7 hown' hgrow _; have hb7 := row1_step hbl hrow (Nat.le_refl _) hbl.size hgrow; have hr7 := RowI.push hown' rfl))
                go_roundw
                case rel => exact ⟨t', os ++ [G], f, by rw [← ht'], by omega, HTE, hr7, hid (fun d hd => by
                  rcases List.mem_append.1 hd with h1 | h1
                  · exact HOB.out d h1
                  · simp only [List.mem_cons, List.not_mem_nil, or_false] at h1; rw [h1]; exact HG6.out), by rw [List.length_append, List.length_singleton]; omega, hid ⟨by rw [List.length_append, List.length_singleton]; have := HOK.out; rcases this with h | h <;> omega, by rw [List.length_append, List.length_singleton]; exact HF.out.imp id (fun h => by rcases HOK.out with h' | h' <;> omega), HNV.out⟩, hb7⟩
                case measure =>
                  show strLen (.string t') < strLen (.string t)
                  show t'.size < t.size
                  have h3 : t'.size = f := by rw [← str_len, HTE.out, List.length_take, str_len]; omega
                  have := HTS.out
                  omega

set_option maxHeartbeats 1000000 in
theorem rparse_nil (s : ByteArray) (w : World) (hs : s.size = 0) :
    Calls Tryd.prog 19 #[.string s] w fun e w' => ∃ v, e = .returned (.tuple #[v, .int .i64 (parseErr s.data.toList)]) ∧ RefV w' v (parseVal s.data.toList) ∧ Below w.heap.size w w' := by
  have hn : s.data.toList = [] := List.eq_nil_of_length_eq_zero (by rw [str_len]; exact hs)
  have he : ((s.size : Int) == 0) = true := by rw [beq_iff_eq]; omega
  have hbad : parseErr s.data.toList = 3 := parse_syn (.inl hn)
  have hval : parseVal s.data.toList = 0 := parseVal_err (by rw [hbad]; decide)
  rw [hbad, hval]
  clear hbad hval hs hn
  go_enter Tryd.func19, Tryd.ntmps19
  go_wp2
  go_ret2
  exact ⟨_, rfl, RefV.zero _, Below.refl _ _⟩

set_option maxHeartbeats 1000000 in
theorem rparse_zero (s : ByteArray) (w : World) (hs : 2 ≤ s.size) (h0 : ((s[0].toNat : Int) == 48) = true) (hh : s.data.toList.head? = some 48) :
    Calls Tryd.prog 19 #[.string s] w fun e w' => ∃ v, e = .returned (.tuple #[v, .int .i64 (parseErr s.data.toList)]) ∧ RefV w' v (parseVal s.data.toList) ∧ Below w.heap.size w w' := by
  have hne : s.data.toList ≠ [] := fun e => by have := str_len s; rw [e] at this; simp at this; omega
  have he : ((s.size : Int) == 0) = false := by rw [beq_eq_false_iff_ne]; omega
  have hgt : (1 : Int) < (s.size : Int) := by omega
  have hbad : parseErr s.data.toList = 3 := parse_syn (.inr (.inl ⟨by rw [str_len]; omega, hh⟩))
  have hval : parseVal s.data.toList = 0 := parseVal_err (by rw [hbad]; decide)
  rw [hbad, hval]
  clear hbad hval
  go_enter Tryd.func19, Tryd.ntmps19
  go_wp2
  go_ret2
  exact ⟨_, rfl, RefV.zero _, Below.refl _ _⟩

theorem rparse_any (s : ByteArray) (w : World) (hl : s.size ≤ 1000000) :
    Calls Tryd.prog 19 #[.string s] w fun e w' => ∃ v, e = .returned (.tuple #[v, .int .i64 (parseErr s.data.toList)]) ∧ RefV w' v (parseVal s.data.toList) ∧ Below w.heap.size w w' := by
  by_cases h0 : s.size = 0
  · exact rparse_nil s w h0
  · by_cases h1 : s.size = 1
    · exact rparse_one s w h1
    · have h2 : 2 ≤ s.size := by omega
      have e : s.data.toList.head? = some s[0] := by
        rw [List.head?_eq_getElem?, List.getElem?_eq_getElem (by rw [str_len]; omega), str_at]
      by_cases hc : s[0] = 48
      · exact rparse_zero s w h2 (by rw [hc]; rfl) (by rw [e, hc])
      · refine rparse_two s w h2 hl ?_ (by rw [e]; simpa using hc)
        rw [beq_eq_false_iff_ne]
        intro h
        exact hc (UInt8.toNat_inj.1 (by show s[0].toNat = 48; omega))

end Go.Proofs.YtepljhpamconbaaDoor
