/- Parse. -/
import Derived.Test.YtepljhpamconbaaDoorNatK
import Derived.Lib.Strings
namespace Go.Proofs.YtepljhpamconbaaDoor
open Go.RowKit
open Go.Lib (decDigits)

/-- The error that a text gives: 3 is syntax, 6 is the limit. -/
def parseErr (l : List UInt8) : Int := if l = [] ∨ (1 < l.length ∧ l.head? = some 48) ∨ (∃ c ∈ l, isDig c = false) then 3 else if 1000 < l.length then 6 else 0
def parseVal (l : List UInt8) : Nat := if parseErr l = 0 then valT l else 0
theorem parse_syn {l : List UInt8} (h : l = [] ∨ (1 < l.length ∧ l.head? = some 48) ∨ (∃ c ∈ l, isDig c = false)) : parseErr l = 3 := if_pos h
theorem parseVal_err {l : List UInt8} (h : parseErr l ≠ 0) : parseVal l = 0 := if_neg h
theorem parse_good {l : List UInt8} (h : l ≠ []) (h1 : l.length = 1 ∨ l.head? ≠ some 48) (h2 : ∀ c ∈ l, isDig c = true) : parseErr l = if 1000 < l.length then 6 else 0 := by
  refine if_neg ?_
  rintro (h' | ⟨h', h''⟩ | ⟨c, h', h''⟩)
  · exact h h'
  · rcases h1 with h1 | h1
    · omega
    · exact h1 h''
  · rw [h2 c h'] at h''; cases h''
theorem str_list (s : ByteArray) : s.toList = s.data.toList := ByteArray.toList_eq s
theorem isDig_iff (c : UInt8) : isDig c = true ↔ 48 ≤ c.toNat ∧ c.toNat ≤ 57 := by unfold isDig; simp
def strLen : Value → Nat
  | .string s => s.size
  | _ => 0
theorem str_len (s : ByteArray) : s.data.toList.length = s.size := by rw [Array.length_toList]; rfl
theorem valT_lt : ∀ (n : Nat) (l : List UInt8), l.length = n → (∀ c ∈ l, isDig c = true) → valT l < 10 ^ n
  | 0, l, h, _ => by rw [List.eq_nil_of_length_eq_zero h]; decide
  | n + 1, l, h, hd => by
    have hn : l ≠ [] := fun e => by subst e; cases h
    obtain ⟨m, c, rfl⟩ : ∃ m c, l = m ++ [c] := ⟨l.dropLast, l.getLast hn, (List.dropLast_concat_getLast hn).symm⟩
    have ih := valT_lt n m (by simpa using h) (fun x hx => hd x (by simp [hx]))
    have hc := (isDig_iff c).1 (hd c (by simp))
    rw [valT_snoc, Nat.pow_succ]; omega
theorem extract_tail (t : ByteArray) (n : Nat) : (t.extract n t.size).data.toList = t.data.toList.drop n := by
  rw [Lib.extract_data, List.take_of_length_le (by rw [List.length_drop, str_len]; exact Nat.le_refl _)]
theorem str_at (s : ByteArray) (i : Nat) (h : i < s.size) : s[i] = s.data.toList[i]'(by rw [str_len]; exact h) := by
  show s.data[i] = _
  rw [Array.getElem_toList]

set_option maxRecDepth 100000 in
set_option maxHeartbeats 2000000 in
theorem parse_two (s : ByteArray) (w : World) (hs : 2 ≤ s.size) (hl : s.size ≤ 1000000) (h0 : ((s[0].toNat : Int) == 48) = false) (hh : s.data.toList.head? ≠ some 48) :
    Calls Tryd.prog 14 #[.string s] w fun e w' => ∃ v, e = .returned (.tuple #[v, .int .i64 (parseErr s.data.toList)]) ∧ NatV w' v (parseVal s.data.toList) ∧ Below w.heap.size w w' := by
  have hne : s.data.toList ≠ [] := fun e => by have := str_len s; rw [e] at this; simp at this; omega
  have he : s.toList.isEmpty = false := by rw [str_list]; simpa using hne
  have HP := hid (parse_good hne (.inr hh))
  obtain ⟨pe, hpe⟩ : ∃ pe, parseErr s.data.toList = pe := ⟨_, rfl⟩
  obtain ⟨pv, hpv⟩ : ∃ pv, parseVal s.data.toList = pv := ⟨_, rfl⟩
  have HPE := hid hpe
  have HPV := hid hpv
  rw [hpe, hpv]
  clear hpe hpv hne hh
  go_enter Tryd.func14, Tryd.ntmps14
  go_upto_region 3 with (fail)
  obtain ⟨W1, hW1, hsz1, kR, hWb⟩ := box1_head (.slice none 0 0) 26 w
  rw [← hW1]
  have b1 : w.heap.size < W1.heap.size := by omega
  clear hW1 hsz1
  have cR := cell_box1 kR
  have fR := free_box1 kR
  clear he
  go_wp2
  go_loopw [25] (fun i wr => ∃ k : Nat, k ≤ s.size ∧ i = .int .i64 k ∧ RowKit.Hid (∀ j (h : j < s.size), j < k → isDig s[j] = true) ∧ wr = W1) (fun i _ => s.size - (intOf i).toNat)
  case atStart => exact ⟨0, Nat.zero_le _, rfl, hid (fun j _ h => absurd h (by omega)), rfl⟩
  case round =>
    obtain ⟨k, hk, rfl, HD, hWW⟩ := hrel
    replace hWW := hWW.symm
    subst hWW
    by_cases hlt : k < s.size
    · by_cases hdg : isDig s[k] = true
      · obtain ⟨q1, q2⟩ := (isDig_iff _).1 hdg
        have q3 : ¬ ((s[k].toNat : Int) < 48) := by omega
        have q4 : ¬ (57 < (s[k].toNat : Int)) := by omega
        have HD' := hid (show ∀ j (h : j < s.size), j < k + 1 → isDig s[j] = true from fun j h hj => by
          by_cases e : j = k
          · subst e; exact hdg
          · exact HD.out j h (by omega))
        clear hdg q1 q2
        go_wp2
        go_roundw
        case rel => exact ⟨k + 1, by omega, by go_num, HD', by trivial⟩
        case measure => simp [intOf]; omega
      · have hbad : parseErr s.data.toList = 3 := parse_syn (.inr (.inr ⟨s[k], by rw [str_at]; exact List.getElem_mem _, by simpa using hdg⟩))
        rw [HPE.out] at hbad
        have hval : pv = 0 := by rw [← HPV.out]; exact parseVal_err (by rw [HPE.out, hbad]; decide)
        subst hbad hval
        have q : ¬ (48 ≤ s[k].toNat ∧ s[k].toNat ≤ 57) := fun h' => hdg ((isDig_iff s[k]).2 h')
        clear hdg
        by_cases q3 : (s[k].toNat : Int) < 48
        · clear q
          go_wp2
          have hc3 := res_store kR (.slice none 0 0)
          exact bodyPost_ret (v := .tuple #[.agg #[.slice none 0 0], .int .i64 3]) (by simp [results, Tryd.results14, go_sem, hc3]) rfl ⟨_, rfl, NatV.zero _, hWb.setCell (p := ⟨w.heap.size, 0, none⟩) (Nat.le_refl _) _⟩
        · have q4 : 57 < (s[k].toNat : Int) := by omega
          clear q
          go_wp2
          have hc3 := res_store kR (.slice none 0 0)
          exact bodyPost_ret (v := .tuple #[.agg #[.slice none 0 0], .int .i64 3]) (by simp [results, Tryd.results14, go_sem, hc3]) rfl ⟨_, rfl, NatV.zero _, hWb.setCell (p := ⟨w.heap.size, 0, none⟩) (Nat.le_refl _) _⟩
    · obtain rfl : k = s.size := by omega
      have HDD := hid (show ∀ c ∈ s.data.toList, isDig c = true from fun c hc => by
        obtain ⟨j, hj, rfl⟩ := List.getElem_of_mem hc
        have hj' : j < s.size := by rw [str_len] at hj; exact hj
        rw [← str_at s j hj']; exact HD.out j hj' hj')
      have HPP := hid (HP.out HDD.out)
      clear HD HP
      by_cases hbig : 1000 < s.size
      · have hbad : parseErr s.data.toList = 6 := by rw [HPP.out, str_len, if_pos hbig]
        rw [HPE.out] at hbad
        have hval : pv = 0 := by rw [← HPV.out]; exact parseVal_err (by rw [HPE.out, hbad]; decide)
        subst hbad hval
        have q : (1000 : Int) < (s.size : Int) := by omega
        go_wp2
        have hc3 := res_store kR (.slice none 0 0)
        exact bodyPost_ret (v := .tuple #[.agg #[.slice none 0 0], .int .i64 6]) (by simp [results, Tryd.results14, go_sem, hc3]) rfl ⟨_, rfl, NatV.zero _, hWb.setCell (p := ⟨w.heap.size, 0, none⟩) (Nat.le_refl _) _⟩
      · have hgood : parseErr s.data.toList = 0 := by rw [HPP.out, str_len, if_neg hbig]
        have hpv : pv = valT s.data.toList := by rw [← HPV.out]; unfold parseVal; rw [if_pos hgood]
        rw [HPE.out] at hgood
        subst hgood hpv
        have q : ¬ (1000 : Int) < (s.size : Int) := by omega
        go_upto_region 12 with (fail)
        go_loopw [0, 5] (fun sv dv wl => ∃ (t : ByteArray) (ds : List Nat) (k : Nat), sv = .string t ∧ k ≤ s.size ∧ RowKit.Hid (t.data.toList = s.data.toList.drop k) ∧ RowU wl (w.heap.size + 1) dv ds ∧ RowKit.Hid (∀ d ∈ ds, d < B32) ∧ ds.length ≤ k ∧ RowKit.Hid (val B32 ds = valT (s.data.toList.take k)) ∧ Below (w.heap.size + 1) W1 wl) (fun sv _ _ => strLen sv)
        case atStart => exact ⟨s, [], 0, rfl, Nat.zero_le _, hid rfl, ⟨rfl, .inl ⟨rfl, rfl⟩⟩, hid (fun d h => absurd h (List.not_mem_nil)), Nat.le_refl _, hid (by simp [valT, val]), Below.refl _ _⟩
        case round =>
          obtain ⟨t, ds, k, rfl, hk, HTL, hrow, HDL, hdl, HVL, hbl⟩ := hrel
          generalize wr = W3 at hrow hbl ⊢
          generalize u5 = dv at hrow ⊢
          have HTS := hid (show t.size = s.size - k by rw [← str_len t, HTL.out, List.length_drop, str_len])
          by_cases ht0 : k = s.size
          · have hte : t.toList.isEmpty = true := by
              rw [str_list]
              have : t.data.toList = [] := List.eq_nil_of_length_eq_zero (by rw [str_len, HTS.out]; omega)
              rw [this]; rfl
            have hb1 := hbl.size
            have HT := hid (fun (w1 : World) (hb : Below W3.heap.size W3 w1) => trim_any dv ds w1 ((hrow.digv).below hb) HDL.out (by omega))
            rw [HVL.out, ht0, List.take_of_length_le (by rw [str_len]; exact Nat.le_refl _)] at HT
            have kR3 := (hbl.block _ (by omega)).trans kR
            go_wp2_with (go_at_call 41; refine (HT.out _ (Below.refl _ _)).mono ?_; clear HT; rintro e w4 ⟨v, rfl, hv, hw4⟩; obtain ⟨p, c3, rfl, _⟩ := hv.dig; have kR4 := (hw4.block _ (Nat.lt_of_lt_of_le b1 hb1)).trans kR3; have cR4 := cell_box1 kR4; have fR4 := free_box1 kR4)
            have hc3 := res_store kR4 (.slice p (digs B32 (valT s.data.toList)).length c3)
            refine bodyPost_ret (v := .tuple #[.agg #[.slice p (digs B32 (valT s.data.toList)).length c3], .int .i64 0]) (by simp [results, Tryd.results14, go_sem, hc3]) rfl ⟨_, rfl, hv.store cR4 _, ?_⟩
            exact (hWb.trans ((hbl.mono (by omega)).trans (hw4.mono (by omega)))).setCell (p := ⟨w.heap.size, 0, none⟩) (Nat.le_refl _) _
          · have hte : t.toList.isEmpty = false := by
              rw [str_list]
              have : t.data.toList ≠ [] := fun e => by have := str_len t; rw [e, HTS.out] at this; simp at this; omega
              simpa using this
            obtain ⟨n, hn, hn9, hnt, hn1⟩ : ∃ n : Nat, min 9 (t.size : Int) = (n : Int) ∧ n ≤ 9 ∧ n ≤ t.size ∧ 1 ≤ n := by
              have := HTS.out
              by_cases h9 : 9 ≤ t.size
              · exact ⟨9, by omega, by omega, h9, by omega⟩
              · exact ⟨t.size, by omega, by omega, Nat.le_refl _, by omega⟩
            have HTD := hid (show ∀ c ∈ t.data.toList, isDig c = true from fun c hc => HDD.out c (by rw [HTL.out] at hc; exact List.mem_of_mem_drop hc))
            go_upto_region 16 with (fail)
            clear hn
            go_loopw [7, 8, 50] (fun sc pt iv wi => ∃ i : Nat, i ≤ n ∧ iv = .int .i64 i ∧ sc = .int .u64 ((10 ^ i : Nat) : Int) ∧ pt = .int .u64 ((valT (t.data.toList.take i) : Nat) : Int) ∧ RowKit.Hid (wi = W3)) (fun _ _ iv _ => n - (intOf iv).toNat)
            case atStart => exact ⟨0, Nat.zero_le _, rfl, rfl, rfl, hid rfl⟩
            case round =>
              obtain ⟨i, hin, rfl, rfl, rfl, HW⟩ := hrel
              have hww := HW.out
              subst hww
              clear HW
              by_cases hil : i < n
              · have hit : i < t.size := by omega
                have hdg := (isDig_iff _).1 (HTD.out _ (List.getElem_mem (h := by rw [str_len]; exact hit) (l := t.data.toList) (n := i)))
                rw [← str_at t i hit] at hdg
                have HV2 := hid (show valT (t.data.toList.take (i + 1)) = valT (t.data.toList.take i) * 10 + (t[i].toNat - 48) by
                  rw [List.take_succ_eq_append_getElem (by rw [str_len]; exact hit), valT_snoc, str_at t i hit])
                have hpl := valT_lt i (t.data.toList.take i) (by rw [List.length_take, str_len]; omega) (fun c hc => HTD.out c (List.mem_of_mem_take hc))
                have hp8 : 10 ^ i ≤ 10 ^ 8 := Nat.pow_le_pow_right (by decide) (by omega)
                have HP2 := hid (show 10 ^ (i + 1) = 10 ^ i * 10 from Nat.pow_succ ..)
                obtain ⟨S, hS⟩ : ∃ S, 10 ^ i = S := ⟨_, rfl⟩
                obtain ⟨P, hP⟩ : ∃ P, valT (t.data.toList.take i) = P := ⟨_, rfl⟩
                rw [hS] at hp8 hpl HP2 ⊢
                rw [hP] at hpl HV2 ⊢
                obtain ⟨c, hc⟩ : ∃ c, t[i].toNat = c := ⟨_, rfl⟩
                rw [hc] at hdg HV2
                have hp8' : S ≤ 100000000 := hp8
                have hii : (i : Int) < (n : Int) := by omega
                clear hS hP hp8
                go_upto_region 20 with (fail)
                have e1 : (S : Int) * 10 = ((10 ^ (i + 1) : Nat) : Int) := by rw [HP2.out]; omega
                have e2 : (P : Int) * 10 + ((c : Int) - 48) = ((valT (t.data.toList.take (i + 1)) : Nat) : Int) := by rw [HV2.out]; omega
                rw [e1, e2]
                clear e1 e2
                go_wp2
                go_roundw
                case rel => exact ⟨i + 1, by omega, by go_num, rfl, rfl, hid (by trivial)⟩
                case measure => simp [intOf]; omega
              · obtain rfl : i = n := by omega
                have hpl := valT_lt i (t.data.toList.take i) (by rw [List.length_take, str_len]; omega) (fun c hc => HTD.out c (List.mem_of_mem_take hc))
                have hp8 : 10 ^ i ≤ 10 ^ 9 := Nat.pow_le_pow_right (by decide) (by omega)
                have HVN := hid (show valT (s.data.toList.take (k + i)) = valT (s.data.toList.take k) * 10 ^ i + valT (t.data.toList.take i) by
                  rw [List.take_add, valT_append, ← HTL.out, List.length_take, str_len, Nat.min_eq_left hnt])
                have HTN := hid (show (t.extract i t.size).data.toList = s.data.toList.drop (k + i) by rw [extract_tail, HTL.out, List.drop_drop])
                have htn : (t.extract i t.size).size = t.size - i := by rw [← str_len, extract_tail, List.length_drop, str_len]
                have HE := hid (fun (w1 : World) (h1 : RowU w1 (w.heap.size + 1) dv ds) (h2 : w.heap.size + 1 ≤ w1.heap.size) => extend_any dv ds (10 ^ i) (valT (t.data.toList.take i)) _ w1 h1 HDL.out (by omega) hp8 (Nat.lt_of_lt_of_le hpl hp8) h2)
                obtain ⟨t', ht'⟩ : ∃ t', t.extract i t.size = t' := ⟨_, rfl⟩
                rw [ht'] at HTN htn
                have hk' : k + i ≤ s.size := by have := HTS.out; omega
                have HTT := hid htn
                have hb1 := hbl.size
                clear hpl hp8 htn
                go_wp2_with (go_at_call 40; refine (HE.out _ hrow (by omega)).mono ?_; clear HE; rintro e w4 ⟨v', es, rfl, hrow4, hes, hev, hel, hb4⟩; have HEL := hid hes; have HEV := hid hev; clear hes hev)
                go_roundw
                case rel => exact ⟨t', es, k + i, rfl, hk', HTN, hrow4, HEL, by omega, hid (by rw [HEV.out, HVL.out, HVN.out]), hbl.trans hb4⟩
                case measure =>
                  show strLen (.string t') < strLen (.string t)
                  have := HTT.out
                  show t'.size < t.size
                  omega

set_option maxRecDepth 100000 in
set_option maxHeartbeats 2000000 in
theorem parse_one (s : ByteArray) (w : World) (hs : s.size = 1) :
    Calls Tryd.prog 14 #[.string s] w fun e w' => ∃ v, e = .returned (.tuple #[v, .int .i64 (parseErr s.data.toList)]) ∧ NatV w' v (parseVal s.data.toList) ∧ Below w.heap.size w w' := by
  have hne : s.data.toList ≠ [] := fun e => by have := str_len s; rw [e] at this; simp at this; omega
  have he : s.toList.isEmpty = false := by rw [str_list]; simpa using hne
  have HP := hid (parse_good hne (.inl (by rw [str_len]; exact hs)))
  have hl : s.size ≤ 1000000 := by omega
  have hs1 : ¬ (1 : Int) < (s.size : Int) := by omega
  have HSZ := hid hs
  obtain ⟨pe, hpe⟩ : ∃ pe, parseErr s.data.toList = pe := ⟨_, rfl⟩
  obtain ⟨pv, hpv⟩ : ∃ pv, parseVal s.data.toList = pv := ⟨_, rfl⟩
  have HPE := hid hpe
  have HPV := hid hpv
  rw [hpe, hpv]
  clear hpe hpv hne hs
  go_enter Tryd.func14, Tryd.ntmps14
  go_upto_region 3 with (fail)
  clear hs1
  obtain ⟨W1, hW1, hsz1, kR, hWb⟩ := box1_head (.slice none 0 0) 26 w
  rw [← hW1]
  have b1 : w.heap.size < W1.heap.size := by omega
  clear hW1 hsz1
  have cR := cell_box1 kR
  have fR := free_box1 kR
  clear he
  go_wp2
  go_loopw [25] (fun i wr => ∃ k : Nat, k ≤ s.size ∧ i = .int .i64 k ∧ RowKit.Hid (∀ j (h : j < s.size), j < k → isDig s[j] = true) ∧ wr = W1) (fun i _ => s.size - (intOf i).toNat)
  case atStart => exact ⟨0, Nat.zero_le _, rfl, hid (fun j _ h => absurd h (by omega)), rfl⟩
  case round =>
    obtain ⟨k, hk, rfl, HD, hWW⟩ := hrel
    replace hWW := hWW.symm
    subst hWW
    by_cases hlt : k < s.size
    · by_cases hdg : isDig s[k] = true
      · obtain ⟨q1, q2⟩ := (isDig_iff _).1 hdg
        have q3 : ¬ ((s[k].toNat : Int) < 48) := by omega
        have q4 : ¬ (57 < (s[k].toNat : Int)) := by omega
        have HD' := hid (show ∀ j (h : j < s.size), j < k + 1 → isDig s[j] = true from fun j h hj => by
          by_cases e : j = k
          · subst e; exact hdg
          · exact HD.out j h (by omega))
        clear hdg q1 q2
        go_wp2
        go_roundw
        case rel => exact ⟨k + 1, by omega, by go_num, HD', by trivial⟩
        case measure => simp [intOf]; omega
      · have hbad : parseErr s.data.toList = 3 := parse_syn (.inr (.inr ⟨s[k], by rw [str_at]; exact List.getElem_mem _, by simpa using hdg⟩))
        rw [HPE.out] at hbad
        have hval : pv = 0 := by rw [← HPV.out]; exact parseVal_err (by rw [HPE.out, hbad]; decide)
        subst hbad hval
        have q : ¬ (48 ≤ s[k].toNat ∧ s[k].toNat ≤ 57) := fun h' => hdg ((isDig_iff s[k]).2 h')
        clear hdg
        by_cases q3 : (s[k].toNat : Int) < 48
        · clear q
          go_wp2
          have hc3 := res_store kR (.slice none 0 0)
          exact bodyPost_ret (v := .tuple #[.agg #[.slice none 0 0], .int .i64 3]) (by simp [results, Tryd.results14, go_sem, hc3]) rfl ⟨_, rfl, NatV.zero _, hWb.setCell (p := ⟨w.heap.size, 0, none⟩) (Nat.le_refl _) _⟩
        · have q4 : 57 < (s[k].toNat : Int) := by omega
          clear q
          go_wp2
          have hc3 := res_store kR (.slice none 0 0)
          exact bodyPost_ret (v := .tuple #[.agg #[.slice none 0 0], .int .i64 3]) (by simp [results, Tryd.results14, go_sem, hc3]) rfl ⟨_, rfl, NatV.zero _, hWb.setCell (p := ⟨w.heap.size, 0, none⟩) (Nat.le_refl _) _⟩
    · obtain rfl : k = s.size := by omega
      have HDD := hid (show ∀ c ∈ s.data.toList, isDig c = true from fun c hc => by
        obtain ⟨j, hj, rfl⟩ := List.getElem_of_mem hc
        have hj' : j < s.size := by rw [str_len] at hj; exact hj
        rw [← str_at s j hj']; exact HD.out j hj' hj')
      have HPP := hid (HP.out HDD.out)
      clear HD HP
      by_cases hbig : 1000 < s.size
      · have hbad : parseErr s.data.toList = 6 := by rw [HPP.out, str_len, if_pos hbig]
        rw [HPE.out] at hbad
        have hval : pv = 0 := by rw [← HPV.out]; exact parseVal_err (by rw [HPE.out, hbad]; decide)
        subst hbad hval
        have q : (1000 : Int) < (s.size : Int) := by omega
        go_wp2
        have hc3 := res_store kR (.slice none 0 0)
        exact bodyPost_ret (v := .tuple #[.agg #[.slice none 0 0], .int .i64 6]) (by simp [results, Tryd.results14, go_sem, hc3]) rfl ⟨_, rfl, NatV.zero _, hWb.setCell (p := ⟨w.heap.size, 0, none⟩) (Nat.le_refl _) _⟩
      · have hgood : parseErr s.data.toList = 0 := by rw [HPP.out, str_len, if_neg hbig]
        have hpv : pv = valT s.data.toList := by rw [← HPV.out]; unfold parseVal; rw [if_pos hgood]
        rw [HPE.out] at hgood
        subst hgood hpv
        have q : ¬ (1000 : Int) < (s.size : Int) := by omega
        go_upto_region 12 with (fail)
        go_loopw [0, 5] (fun sv dv wl => ∃ (t : ByteArray) (ds : List Nat) (k : Nat), sv = .string t ∧ k ≤ s.size ∧ RowKit.Hid (t.data.toList = s.data.toList.drop k) ∧ RowU wl (w.heap.size + 1) dv ds ∧ RowKit.Hid (∀ d ∈ ds, d < B32) ∧ ds.length ≤ k ∧ RowKit.Hid (val B32 ds = valT (s.data.toList.take k)) ∧ Below (w.heap.size + 1) W1 wl) (fun sv _ _ => strLen sv)
        case atStart => exact ⟨s, [], 0, rfl, Nat.zero_le _, hid rfl, ⟨rfl, .inl ⟨rfl, rfl⟩⟩, hid (fun d h => absurd h (List.not_mem_nil)), Nat.le_refl _, hid (by simp [valT, val]), Below.refl _ _⟩
        case round =>
          obtain ⟨t, ds, k, rfl, hk, HTL, hrow, HDL, hdl, HVL, hbl⟩ := hrel
          generalize wr = W3 at hrow hbl ⊢
          generalize u5 = dv at hrow ⊢
          have HTS := hid (show t.size = s.size - k by rw [← str_len t, HTL.out, List.length_drop, str_len])
          by_cases ht0 : k = s.size
          · have hte : t.toList.isEmpty = true := by
              rw [str_list]
              have : t.data.toList = [] := List.eq_nil_of_length_eq_zero (by rw [str_len, HTS.out]; omega)
              rw [this]; rfl
            have hb1 := hbl.size
            have HT := hid (fun (w1 : World) (hb : Below W3.heap.size W3 w1) => trim_any dv ds w1 ((hrow.digv).below hb) HDL.out (by omega))
            rw [HVL.out, ht0, List.take_of_length_le (by rw [str_len]; exact Nat.le_refl _)] at HT
            have kR3 := (hbl.block _ (by omega)).trans kR
            go_wp2_with (go_at_call 41; refine (HT.out _ (Below.refl _ _)).mono ?_; clear HT; rintro e w4 ⟨v, rfl, hv, hw4⟩; obtain ⟨p, c3, rfl, _⟩ := hv.dig; have kR4 := (hw4.block _ (Nat.lt_of_lt_of_le b1 hb1)).trans kR3; have cR4 := cell_box1 kR4; have fR4 := free_box1 kR4)
            have hc3 := res_store kR4 (.slice p (digs B32 (valT s.data.toList)).length c3)
            refine bodyPost_ret (v := .tuple #[.agg #[.slice p (digs B32 (valT s.data.toList)).length c3], .int .i64 0]) (by simp [results, Tryd.results14, go_sem, hc3]) rfl ⟨_, rfl, hv.store cR4 _, ?_⟩
            exact (hWb.trans ((hbl.mono (by omega)).trans (hw4.mono (by omega)))).setCell (p := ⟨w.heap.size, 0, none⟩) (Nat.le_refl _) _
          · have hte : t.toList.isEmpty = false := by
              rw [str_list]
              have : t.data.toList ≠ [] := fun e => by have := str_len t; rw [e, HTS.out] at this; simp at this; omega
              simpa using this
            obtain ⟨n, hn, hn9, hnt, hn1⟩ : ∃ n : Nat, min 9 (t.size : Int) = (n : Int) ∧ n ≤ 9 ∧ n ≤ t.size ∧ 1 ≤ n := by
              have := HTS.out
              by_cases h9 : 9 ≤ t.size
              · exact ⟨9, by omega, by omega, h9, by omega⟩
              · exact ⟨t.size, by omega, by omega, Nat.le_refl _, by omega⟩
            have HTD := hid (show ∀ c ∈ t.data.toList, isDig c = true from fun c hc => HDD.out c (by rw [HTL.out] at hc; exact List.mem_of_mem_drop hc))
            go_upto_region 16 with (fail)
            clear hn
            go_loopw [7, 8, 50] (fun sc pt iv wi => ∃ i : Nat, i ≤ n ∧ iv = .int .i64 i ∧ sc = .int .u64 ((10 ^ i : Nat) : Int) ∧ pt = .int .u64 ((valT (t.data.toList.take i) : Nat) : Int) ∧ RowKit.Hid (wi = W3)) (fun _ _ iv _ => n - (intOf iv).toNat)
            case atStart => exact ⟨0, Nat.zero_le _, rfl, rfl, rfl, hid rfl⟩
            case round =>
              obtain ⟨i, hin, rfl, rfl, rfl, HW⟩ := hrel
              have hww := HW.out
              subst hww
              clear HW
              by_cases hil : i < n
              · have hit : i < t.size := by omega
                have hdg := (isDig_iff _).1 (HTD.out _ (List.getElem_mem (h := by rw [str_len]; exact hit) (l := t.data.toList) (n := i)))
                rw [← str_at t i hit] at hdg
                have HV2 := hid (show valT (t.data.toList.take (i + 1)) = valT (t.data.toList.take i) * 10 + (t[i].toNat - 48) by
                  rw [List.take_succ_eq_append_getElem (by rw [str_len]; exact hit), valT_snoc, str_at t i hit])
                have hpl := valT_lt i (t.data.toList.take i) (by rw [List.length_take, str_len]; omega) (fun c hc => HTD.out c (List.mem_of_mem_take hc))
                have hp8 : 10 ^ i ≤ 10 ^ 8 := Nat.pow_le_pow_right (by decide) (by omega)
                have HP2 := hid (show 10 ^ (i + 1) = 10 ^ i * 10 from Nat.pow_succ ..)
                obtain ⟨S, hS⟩ : ∃ S, 10 ^ i = S := ⟨_, rfl⟩
                obtain ⟨P, hP⟩ : ∃ P, valT (t.data.toList.take i) = P := ⟨_, rfl⟩
                rw [hS] at hp8 hpl HP2 ⊢
                rw [hP] at hpl HV2 ⊢
                obtain ⟨c, hc⟩ : ∃ c, t[i].toNat = c := ⟨_, rfl⟩
                rw [hc] at hdg HV2
                have hp8' : S ≤ 100000000 := hp8
                have hii : (i : Int) < (n : Int) := by omega
                clear hS hP hp8
                go_upto_region 20 with (fail)
                have e1 : (S : Int) * 10 = ((10 ^ (i + 1) : Nat) : Int) := by rw [HP2.out]; omega
                have e2 : (P : Int) * 10 + ((c : Int) - 48) = ((valT (t.data.toList.take (i + 1)) : Nat) : Int) := by rw [HV2.out]; omega
                rw [e1, e2]
                clear e1 e2
                go_wp2
                go_roundw
                case rel => exact ⟨i + 1, by omega, by go_num, rfl, rfl, hid (by trivial)⟩
                case measure => simp [intOf]; omega
              · obtain rfl : i = n := by omega
                have hpl := valT_lt i (t.data.toList.take i) (by rw [List.length_take, str_len]; omega) (fun c hc => HTD.out c (List.mem_of_mem_take hc))
                have hp8 : 10 ^ i ≤ 10 ^ 9 := Nat.pow_le_pow_right (by decide) (by omega)
                have HVN := hid (show valT (s.data.toList.take (k + i)) = valT (s.data.toList.take k) * 10 ^ i + valT (t.data.toList.take i) by
                  rw [List.take_add, valT_append, ← HTL.out, List.length_take, str_len, Nat.min_eq_left hnt])
                have HTN := hid (show (t.extract i t.size).data.toList = s.data.toList.drop (k + i) by rw [extract_tail, HTL.out, List.drop_drop])
                have htn : (t.extract i t.size).size = t.size - i := by rw [← str_len, extract_tail, List.length_drop, str_len]
                have HE := hid (fun (w1 : World) (h1 : RowU w1 (w.heap.size + 1) dv ds) (h2 : w.heap.size + 1 ≤ w1.heap.size) => extend_any dv ds (10 ^ i) (valT (t.data.toList.take i)) _ w1 h1 HDL.out (by omega) hp8 (Nat.lt_of_lt_of_le hpl hp8) h2)
                obtain ⟨t', ht'⟩ : ∃ t', t.extract i t.size = t' := ⟨_, rfl⟩
                rw [ht'] at HTN htn
                have hk' : k + i ≤ s.size := by have := HTS.out; omega
                have HTT := hid htn
                have hb1 := hbl.size
                clear hpl hp8 htn
                go_wp2_with (go_at_call 40; refine (HE.out _ hrow (by omega)).mono ?_; clear HE; rintro e w4 ⟨v', es, rfl, hrow4, hes, hev, hel, hb4⟩; have HEL := hid hes; have HEV := hid hev; clear hes hev)
                go_roundw
                case rel => exact ⟨t', es, k + i, rfl, hk', HTN, hrow4, HEL, by omega, hid (by rw [HEV.out, HVL.out, HVN.out]), hbl.trans hb4⟩
                case measure =>
                  show strLen (.string t') < strLen (.string t)
                  have := HTT.out
                  show t'.size < t.size
                  omega

set_option maxHeartbeats 1000000 in
theorem parse_nil (s : ByteArray) (w : World) (hs : s.size = 0) :
    Calls Tryd.prog 14 #[.string s] w fun e w' => ∃ v, e = .returned (.tuple #[v, .int .i64 (parseErr s.data.toList)]) ∧ NatV w' v (parseVal s.data.toList) ∧ Below w.heap.size w w' := by
  have hn : s.data.toList = [] := List.eq_nil_of_length_eq_zero (by rw [str_len]; exact hs)
  have he : s.toList.isEmpty = true := by rw [str_list, hn]; rfl
  have hbad : parseErr s.data.toList = 3 := parse_syn (.inl hn)
  have hval : parseVal s.data.toList = 0 := parseVal_err (by rw [hbad]; decide)
  rw [hbad, hval]
  clear hbad hval
  go_enter Tryd.func14, Tryd.ntmps14
  go_upto_region 2 with (fail)
  obtain ⟨W1, hW1, hsz1, kR, hWb⟩ := box1_head (.slice none 0 0) 26 w
  rw [← hW1]
  clear hW1 hsz1
  have cR := cell_box1 kR
  have fR := free_box1 kR
  go_wp2
  have hc3 := res_store kR (.slice none 0 0)
  exact bodyPost_ret (v := .tuple #[.agg #[.slice none 0 0], .int .i64 3]) (by simp [results, Tryd.results14, go_sem, hc3]) rfl ⟨_, rfl, NatV.zero _, hWb.setCell (p := ⟨w.heap.size, 0, none⟩) (Nat.le_refl _) _⟩

set_option maxHeartbeats 1000000 in
theorem parse_zero (s : ByteArray) (w : World) (hs : 2 ≤ s.size) (h0 : ((s[0].toNat : Int) == 48) = true) (hh : s.data.toList.head? = some 48) :
    Calls Tryd.prog 14 #[.string s] w fun e w' => ∃ v, e = .returned (.tuple #[v, .int .i64 (parseErr s.data.toList)]) ∧ NatV w' v (parseVal s.data.toList) ∧ Below w.heap.size w w' := by
  have hne : s.data.toList ≠ [] := fun e => by have := str_len s; rw [e] at this; simp at this; omega
  have he : s.toList.isEmpty = false := by rw [str_list]; simpa using hne
  have hbad : parseErr s.data.toList = 3 := parse_syn (.inr (.inl ⟨by rw [str_len]; omega, hh⟩))
  have hval : parseVal s.data.toList = 0 := parseVal_err (by rw [hbad]; decide)
  rw [hbad, hval]
  clear hbad hval
  go_enter Tryd.func14, Tryd.ntmps14
  go_upto_region 2 with (fail)
  obtain ⟨W1, hW1, hsz1, kR, hWb⟩ := box1_head (.slice none 0 0) 26 w
  rw [← hW1]
  clear hW1 hsz1
  have cR := cell_box1 kR
  have fR := free_box1 kR
  go_wp2
  have hc3 := res_store kR (.slice none 0 0)
  exact bodyPost_ret (v := .tuple #[.agg #[.slice none 0 0], .int .i64 3]) (by simp [results, Tryd.results14, go_sem, hc3]) rfl ⟨_, rfl, NatV.zero _, hWb.setCell (p := ⟨w.heap.size, 0, none⟩) (Nat.le_refl _) _⟩

theorem parse_any (s : ByteArray) (w : World) (hl : s.size ≤ 1000000) :
    Calls Tryd.prog 14 #[.string s] w fun e w' => ∃ v, e = .returned (.tuple #[v, .int .i64 (parseErr s.data.toList)]) ∧ NatV w' v (parseVal s.data.toList) ∧ Below w.heap.size w w' := by
  by_cases h0 : s.size = 0
  · exact parse_nil s w h0
  · by_cases h1 : s.size = 1
    · exact parse_one s w h1
    · have h2 : 2 ≤ s.size := by omega
      have e : s.data.toList.head? = some s[0] := by
        rw [List.head?_eq_getElem?, List.getElem?_eq_getElem (by rw [str_len]; omega), str_at]
      by_cases hc : s[0] = 48
      · exact parse_zero s w h2 (by rw [hc]; rfl) (by rw [e, hc])
      · refine parse_two s w h2 hl ?_ (by rw [e]; simpa using hc)
        rw [beq_eq_false_iff_ne]
        intro h
        exact hc (UInt8.toNat_inj.1 (by show s[0].toNat = 48; omega))

end Go.Proofs.YtepljhpamconbaaDoor
