/- Rational numbers and their texts. -/
import Derived.Test.YtcdbgincfdejkaaGreatDoorTz
import Derived.Test.YtcdbgincfdejkaaGreatDoorRatF
import Derived.Test.YtcdbgincfdejkaaGreatDoorShelf
namespace Go.Proofs.YtcdbgincfdejkaaGreatDoor
open Go.RowKit
open Go.Lib (decDigits)
def Bas (w : World) : Prop := Tab w ∧ ∃ m, w.cell? ⟨1, 0, none⟩ = some (.int .i64 m)
theorem Bas.below {w w' : World} (h : Bas w) (hb : Below w.heap.size w w') : Bas w' := by
  obtain ⟨h1, m, hm⟩ := h
  refine ⟨h1.below hb, m, ?_⟩
  rw [← hm]
  refine hb.cell (p := ⟨_, 0, none⟩) ?_
  show _ < _
  refine Nat.lt_of_not_le fun hle => ?_
  simp [World.cell?, Array.getElem?_eq_none hle] at hm
theorem ntext_q (v : Value) (n : Nat) (w : World) (hv : NatV w v n) (hB : Bas w) (hl : (digs B32 n).length ≤ 100000) :
    Calls Tryz.prog 93 #[v] w fun e w' => e = .returned (.string ⟨(decDigits n).toArray⟩) ∧ Below w.heap.size w w' := text_any v n w hv hB.1 hl
theorem nparse_q (l : List UInt8) (w : World) (hl : l.length ≤ 1000000) :
    Calls Tryz.prog 114 #[.string ⟨l.toArray⟩] w fun e w' => ∃ v, e = .returned (.tuple #[v, .int .i64 (parseErr l)]) ∧ NatV w' v (parseVal l) ∧ Below w.heap.size w w' := parse_any ⟨l.toArray⟩ w (by simpa [ByteArray.size] using hl)
theorem trim_minus (l : List UInt8) : Lib.trimPrefix l [45] = noMinus l ∧ Lib.hasPrefix l [45] = isMinus l := by
  cases l with
  | nil => exact ⟨rfl, rfl⟩
  | cons c l =>
    by_cases h : c = 45
    · subst h
      exact ⟨by simp [Lib.trimPrefix, Lib.hasPrefix, noMinus], by simp [Lib.hasPrefix, isMinus]⟩
    · have h1 : ¬ 45 = c := fun e => h e.symm
      exact ⟨by simp [Lib.trimPrefix, Lib.hasPrefix, noMinus, h, h1], by simp [Lib.hasPrefix, isMinus, List.isPrefixOf]; rw [Bool.eq_iff_iff, beq_iff_eq, beq_iff_eq]; exact eq_comm⟩
theorem cutp_q (l : List UInt8) (w : World) :
    Calls Tryz.prog 112 #[.string ⟨l.toArray⟩, .string ⟨#[45]⟩] w fun e w' => e = .returned (.tuple #[.string ⟨(noMinus l).toArray⟩, .bool (isMinus l)]) ∧ Below w.heap.size w w' := by
  refine (Tryz.strings_CutPrefix ⟨l.toArray⟩ ⟨#[45]⟩ w).mono ?_
  rintro e w' ⟨rfl, rfl⟩
  refine ⟨?_, Below.refl _ _⟩
  show Ending.returned (.tuple #[.string ⟨(Lib.trimPrefix l [45]).toArray⟩, .bool (Lib.hasPrefix l [45])]) = _
  rw [(trim_minus l).1, (trim_minus l).2]
theorem textQ_eq {x : Rat} {b0 b1 : Bool} (h0 : isN x = b0) (h1 : (den0 x == 0) = b1) : textQ x = (if b0 then [45] else []) ++ (decDigits x.num.natAbs ++ (if b1 then [] else 47 :: decDigits (den0 x))) := by
  subst h0
  subst h1
  unfold textQ
  congr 2
  by_cases h : x.den = 1
  · rw [if_pos h, (den0_zero x).2 h]; rfl
  · have e : den0 x ≠ 0 := fun e => h ((den0_zero x).1 e)
    rw [if_neg h, if_neg (by simpa using e)]
    unfold den0
    rw [if_neg h]
set_option maxRecDepth 100000 in
theorem qtext_q (v0 : Value) (x : Rat) (w : World) (h0 : RatV w v0 x) (hB0 : Bas w) {k : Nat} (hx : LmQ k x) (hk : k ≤ 10000) :
    Calls Tryz.prog 44 #[v0] w fun e w' => e = .returned (.string ⟨(textQ x).toArray⟩) ∧ Below w.heap.size w w' := by
  have h0_0 := h0; obtain ⟨p_h0, l_h0, c_h0, q_h0, m_h0, d_h0, rfl, h0_1, h0_2⟩ := h0
  have hK := (((KS.start w).aN h0_2).aN h0_1).aQ h0_0
  obtain ⟨b0, hb0⟩ : ∃ b, RowKit.Hid (isN x = b) := ⟨_, hid rfl⟩
  rw [show isN x = b0 from hb0.out] at hK ⊢
  have e1 := dec_len hx.n
  have e2 := dec_len hx.d
  have e0 : (decDigits (den0 x)).length ≤ 18 * k + 1 := dec_len hx.d0
  have e3 := hx.n.len
  have e4 := hx.d0.len
  refine Calls.hide (fun Q0 hQ0 => ?_)
  go_enter Tryz.func44, Tryz.ntmps44
  go_upto_region 0 with (fail)
  refine wp_region_tx w hK ?_
  clear hK
  refine tA (.cells #[.bool b0, .slice p_h0 l_h0 c_h0, .slice q_h0 m_h0 d_h0] 55) (fun R1 q_R1 => ?_)
  clear q_R1
  refine tF ?_
  refine txEnd (fun W2 hK => ?_)
  go_upto_region 1 with (fail)
  refine wp_region_tx w hK ?_
  clear hK
  refine tF ?_
  refine tL m0 ?_
  refine tH (fun w' hK => ntext_q (.agg #[.slice p_h0 l_h0 c_h0]) x.num.natAbs w' (hK.get m2) (hB0.below hK.old) (by omega)) ?_
  refine tF ?_
  refine txEnd (fun W3 hK => ?_)
  go_upto_region 2 with (fail)
  refine wp_region_tx w hK ?_
  clear hK
  refine tF ?_
  refine tL m0 ?_
  refine txEnd (fun W4 hK => ?_)
  cases b0
  · --
   go_upto_region 4 with (fail)
   refine wp_region_tx w hK ?_
   clear hK
   refine tF ?_
   refine tL m0 ?_
   obtain ⟨b1, hb1⟩ : ∃ b : Bool, RowKit.Hid (((den0 x) == 0) = b) := ⟨_, hid rfl⟩
   refine tH (fun w' hK => isZero_any (.agg #[.slice q_h0 m_h0 d_h0]) (den0 x) w' (hK.get m3)) ?_ (v := .bool b1) (hv := (by rw [hb1.out]))
   refine tF ?_
   refine txEnd (fun W5 hK => ?_)
   cases b1
   · --
    go_upto_region 5 with (fail)
    refine wp_region_tx w hK ?_
    clear hK
    iterate 2 (refine tF ?_)
    refine tL m0 ?_
    refine tH (fun w' hK => ntext_q (.agg #[.slice q_h0 m_h0 d_h0]) (den0 x) w' (hK.get m3) (hB0.below hK.old) (by omega)) ?_
    apply txF (v := .string ⟨((([47] : List UInt8)) ++ (decDigits (den0 x))).toArray⟩) (wants0 rfl); (· intro w' hK; go_simp; (try go_bits); rw [if_neg (by omega)]; exact ⟨congrArg Value.string (str_add _ _), rfl⟩); simp only [Act.put, pA, pB, pC]
    apply txF (v := .string ⟨((decDigits x.num.natAbs) ++ ((([47] : List UInt8)) ++ (decDigits (den0 x)))).toArray⟩) (wants0 rfl); (· intro w' hK; go_simp; (try go_bits); rw [if_neg (by omega)]; exact ⟨congrArg Value.string (str_add _ _), rfl⟩); simp only [Act.put, pA, pB, pC]
    refine tF ?_
    refine txEnd (fun W6 hK => ?_)
    go_wp2
    try go_ret
    show Q0 (.returned (.string ⟨((decDigits x.num.natAbs) ++ ((([47] : List UInt8)) ++ (decDigits (den0 x)))).toArray⟩)) _
    exact (by obtain rfl := hQ0.out; exact ⟨(by rw [textQ_eq hb0.out hb1.out]; simp), hK.old⟩)
   · --
    go_wp2
    try go_ret
    show Q0 (.returned (.string ⟨(decDigits x.num.natAbs).toArray⟩)) _
    exact (by obtain rfl := hQ0.out; exact ⟨(by rw [textQ_eq hb0.out hb1.out]; simp), hK.old⟩)
  · --
   go_upto_region 3 with (fail)
   refine wp_region_tx w hK ?_
   clear hK
   refine tF ?_
   apply txF (v := .string ⟨((([45] : List UInt8)) ++ (decDigits x.num.natAbs)).toArray⟩) (wants0 rfl); (· intro w' hK; go_simp; (try go_bits); rw [if_neg (by omega)]; exact ⟨congrArg Value.string (str_add _ _), rfl⟩); simp only [Act.put, pA, pB, pC]
   refine tF ?_
   refine txEnd (fun W7 hK => ?_)
   go_upto_region 4 with (fail)
   refine wp_region_tx w hK ?_
   clear hK
   refine tF ?_
   refine tL m0 ?_
   obtain ⟨b1, hb1⟩ : ∃ b : Bool, RowKit.Hid (((den0 x) == 0) = b) := ⟨_, hid rfl⟩
   refine tH (fun w' hK => isZero_any (.agg #[.slice q_h0 m_h0 d_h0]) (den0 x) w' (hK.get m3)) ?_ (v := .bool b1) (hv := (by rw [hb1.out]))
   refine tF ?_
   refine txEnd (fun W8 hK => ?_)
   cases b1
   · --
    go_upto_region 5 with (fail)
    refine wp_region_tx w hK ?_
    clear hK
    iterate 2 (refine tF ?_)
    refine tL m0 ?_
    refine tH (fun w' hK => ntext_q (.agg #[.slice q_h0 m_h0 d_h0]) (den0 x) w' (hK.get m3) (hB0.below hK.old) (by omega)) ?_
    apply txF (v := .string ⟨((([47] : List UInt8)) ++ (decDigits (den0 x))).toArray⟩) (wants0 rfl); (· intro w' hK; go_simp; (try go_bits); rw [if_neg (by omega)]; exact ⟨congrArg Value.string (str_add _ _), rfl⟩); simp only [Act.put, pA, pB, pC]
    apply txF (v := .string ⟨(((([45] : List UInt8)) ++ (decDigits x.num.natAbs)) ++ ((([47] : List UInt8)) ++ (decDigits (den0 x)))).toArray⟩) (wants0 rfl); (· intro w' hK; go_simp; (try go_bits); rw [if_neg (by omega)]; exact ⟨congrArg Value.string (str_add _ _), rfl⟩); simp only [Act.put, pA, pB, pC]
    refine tF ?_
    refine txEnd (fun W9 hK => ?_)
    go_wp2
    try go_ret
    show Q0 (.returned (.string ⟨(((([45] : List UInt8)) ++ (decDigits x.num.natAbs)) ++ ((([47] : List UInt8)) ++ (decDigits (den0 x)))).toArray⟩)) _
    exact (by obtain rfl := hQ0.out; exact ⟨(by rw [textQ_eq hb0.out hb1.out]; simp), hK.old⟩)
   · --
    go_wp2
    try go_ret
    show Q0 (.returned (.string ⟨((([45] : List UInt8)) ++ (decDigits x.num.natAbs)).toArray⟩)) _
    exact (by obtain rfl := hQ0.out; exact ⟨(by rw [textQ_eq hb0.out hb1.out]; simp), hK.old⟩)
theorem textQ_eq2 {x : Rat} {b0 b1 : Bool} (h0 : isN x = b0) (h1 : decide (0 < ((digs B6 (den0 x)).length : Int)) = b1) : textQ x = (if b0 then [45] else []) ++ (decDigits x.num.natAbs ++ (if b1 then 47 :: decDigits (den0 x) else [])) := by
  have h2 := len6_lt h1
  rw [textQ_eq h0 rfl]
  cases b1 with
  | false => rw [h2.2 rfl]; rfl
  | true =>
    have : den0 x ≠ 0 := fun e => by have := h2.1 e; cases this
    rw [show (den0 x == 0) = false by simp [this]]; rfl
theorem idx47 : ∀ l : List UInt8, (Lib.index l [47] = -1 ∧ cutB l = none ∧ cutA l = l) ∨ ∃ k : Nat, Lib.index l [47] = (k : Int) ∧ cutA l = l.take k ∧ cutB l = some (l.drop (k + 1))
  | [] => .inl ⟨rfl, rfl, rfl⟩
  | c :: l => by
    by_cases h : c = 47
    · subst h
      exact .inr ⟨0, by simp [Lib.index, List.isPrefixOf], by simp [cutA], by simp [cutB]⟩
    · have h1 : List.isPrefixOf [47] (c :: l) = false := by
        simp only [List.isPrefixOf, Bool.and_true]
        exact beq_false_of_ne fun e => h e.symm
      have h2 : Lib.index (c :: l) [47] = if Lib.index l [47] == -1 then -1 else Lib.index l [47] + 1 := by
        rw [Lib.index, h1]; rfl
      rcases idx47 l with ⟨e1, e2, e3⟩ | ⟨k, e1, e2, e3⟩
      · exact .inl ⟨by rw [h2, e1]; rfl, by simp [cutB, h, e2], by simp [cutA, h, e3]⟩
      · refine .inr ⟨k + 1, ?_, by simp [cutA, h, e2], by simp [cutB, h, e3]⟩
        rw [h2, e1, if_neg (by simp)]
        omega
theorem cut_eq (l : List UInt8) : Lib.cut l [47] = (cutA l, (cutB l).getD [], (cutB l).isSome) := by
  unfold Lib.cut
  rcases idx47 l with ⟨e1, e2, e3⟩ | ⟨k, e1, e2, e3⟩
  · rw [e1, e2, e3]; rfl
  · rw [e1, e2, e3, if_pos (by omega)]
    simp
theorem below_drewN (w : World) (n : Nat) : Below w.heap.size w (w.drewN n) := ⟨rfl, rfl, rfl, by simp, fun i hi => by simp only [World.heap_drewN]⟩
theorem cut_q (l : List UInt8) (w : World) (hB : Bas w) (hl : l.length < 4294967281) :
    Calls Tryz.prog 113 #[.string ⟨l.toArray⟩, .string ⟨#[47]⟩] w fun e w' => e = .returned (.tuple #[.string ⟨(cutA l).toArray⟩, .string ⟨((cutB l).getD []).toArray⟩, .bool (cutB l).isSome]) ∧ Below w.heap.size w w' := by
  obtain ⟨_, m, hm⟩ := hB
  refine (Tryz.strings_Cut ⟨l.toArray⟩ ⟨#[47]⟩ m w (by simpa [ByteArray.size] using hl) hm).mono ?_
  rintro e w' ⟨rfl, n, rfl⟩
  refine ⟨?_, below_drewN w n⟩
  show Ending.returned (.tuple #[.string ⟨(Lib.cut l [47]).1.toArray⟩, .string ⟨(Lib.cut l [47]).2.1.toArray⟩, .bool (Lib.cut l [47]).2.2]) = _
  rw [cut_eq]
theorem sec_t {l : List UInt8} (h : (cutB (noMinus l)).isSome = true) : (cutB (noMinus l)).getD [] = secQ l := by
  unfold secQ
  cases e : cutB (noMinus l) with
  | none => rw [e] at h; cases h
  | some m => rfl
theorem sec_f {l : List UInt8} (h : (cutB (noMinus l)).isSome = false) : [49] = secQ l := by
  unfold secQ
  cases e : cutB (noMinus l) with
  | none => rfl
  | some m => rw [e] at h; cases h
theorem err_3 {l m : List UInt8} {z1 z2 : Int} (hm : m = secQ l) (h1 : parseErr (cutA (noMinus l)) = z1) (h2 : parseErr m = z2) (h : (z1 == 3) = true ∨ (z2 == 3) = true) : errQ l = 3 ∧ valQ l = 0 := by
  subst hm
  have e : errQ l = 3 := by
    unfold errQ firQ
    rw [h1, h2, if_pos (by simpa using h)]
  exact ⟨e, by unfold valQ; rw [if_neg (by rw [e]; decide)]⟩
theorem err_6 {l m : List UInt8} {z1 z2 : Int} (hm : m = secQ l) (h1 : parseErr (cutA (noMinus l)) = z1) (h2 : parseErr m = z2) (h3 : (z1 == 3) = false) (h4 : (z2 == 3) = false) (h : (z1 != 0) = true ∨ (z2 != 0) = true) : errQ l = 6 ∧ valQ l = 0 := by
  subst hm
  have e : errQ l = 6 := by
    unfold errQ firQ
    rw [h1, h2, if_neg (by simp at h3 h4; omega), if_pos (by simpa using h)]
  exact ⟨e, by unfold valQ; rw [if_neg (by rw [e]; decide)]⟩
theorem err_0 {l m : List UInt8} {z1 z2 z : Int} (hm : m = secQ l) (h1 : parseErr (cutA (noMinus l)) = z1) (h2 : parseErr m = z2) (h5 : (z1 != 0) = false) (h6 : (z2 != 0) = false) (hz : (if parseVal m = 0 then (10 : Int) else 0) = z) : errQ l = z ∧ ofS (isMinus l) (parseVal (cutA (noMinus l))) (parseVal m) = valQ l := by
  subst hm
  have h7 : z1 = 0 := by simpa using h5
  have h8 : z2 = 0 := by simpa using h6
  subst h7
  subst h8
  have e : errQ l = z := by
    rw [← hz]
    unfold errQ firQ
    rw [h1, h2, if_neg (by decide), if_neg (by decide)]
  refine ⟨e, ?_⟩
  unfold valQ
  rw [e, ← hz]
  by_cases h : parseVal (secQ l) = 0
  · rw [if_pos h, if_neg (by decide), h, ofS_d0]
  · rw [if_neg h, if_pos rfl]; rfl
theorem pv_len (l : List UInt8) : (digs B32 (parseVal l)).length ≤ l.length := digs_len_le b32_2 _ _ (Nat.lt_of_lt_of_le (parseVal_lt (Nat.le_refl _)) (Nat.pow_le_pow_left (by decide) _))
theorem secB_len (l : List UInt8) : ((cutB (noMinus l)).getD []).length ≤ l.length := by
  cases e : cutB (noMinus l) with
  | none => exact Nat.zero_le _
  | some m => exact Nat.le_trans (cutB_len _ m e) (noMinus_len l)
set_option maxRecDepth 100000 in
theorem rtext_q (v0 : Value) (x : Rat) (w : World) (h0 : RefR w v0 x) {k : Nat} (hx : LmQ k x) (hk : k ≤ 10000) :
    Calls Tryz.prog 45 #[v0] w fun e w' => e = .returned (.string ⟨(textQ x).toArray⟩) ∧ Below w.heap.size w w' := by
  have h0_0 := h0; obtain ⟨p_h0, c_h0, q_h0, d_h0, rfl, h0_1, h0_2⟩ := h0.slr
  have hK := (((KS.start w).aF h0_2).aF h0_1).aR h0_0
  obtain ⟨b0, hb0⟩ : ∃ b, RowKit.Hid (isN x = b) := ⟨_, hid rfl⟩
  rw [show isN x = b0 from hb0.out] at hK ⊢
  have e1 := dec_len hx.n
  have e2 := dec_len hx.d
  have e0 : (decDigits (den0 x)).length ≤ 18 * k + 1 := dec_len hx.d0
  have e3 := hx.n.len
  have e4 := hx.d0.len
  have e5 : (decDigits (numQ x)).length ≤ 18 * k + 1 := e1
  have e6 : (digs B6 (numQ x)).length ≤ 2 * k := hx.n.len6
  have e7 : (digs B6 (den0 x)).length ≤ 2 * k := hx.d0.len6
  refine Calls.hide (fun Q0 hQ0 => ?_)
  go_enter Tryz.func45, Tryz.ntmps45
  go_upto_region 0 with (fail)
  refine wp_region_tx w hK ?_
  clear hK
  refine tA (.cells #[.bool b0, .slice p_h0 (digs B6 (numQ x)).length c_h0, .slice q_h0 (digs B6 (den0 x)).length d_h0] 41) (fun R1 q_R1 => ?_)
  clear q_R1
  refine tF ?_
  refine txEnd (fun W2 hK => ?_)
  go_upto_region 1 with (fail)
  refine wp_region_tx w hK ?_
  clear hK
  refine tF ?_
  refine tL m0 ?_
  refine tH (fun w' hK => rtext_any (.slice p_h0 (digs B6 (numQ x)).length c_h0) (numQ x) w' (hK.get m2) (by omega) (by omega)) ?_
  refine tF ?_
  refine txEnd (fun W3 hK => ?_)
  go_upto_region 2 with (fail)
  refine wp_region_tx w hK ?_
  clear hK
  refine tF ?_
  refine tL m0 ?_
  refine txEnd (fun W4 hK => ?_)
  cases b0
  · --
   go_upto_region 4 with (fail)
   refine wp_region_tx w hK ?_
   clear hK
   refine tF ?_
   refine tL m0 ?_
   refine tF ?_
   refine tB (decide (0 < (((digs B6 (den0 x)).length : Int)))) (fun b1 hb1 => ?_)
   refine txEnd (fun W5 hK => ?_)
   cases b1
   · --
    go_wp2
    try go_ret
    show Q0 (.returned (.string ⟨(decDigits (numQ x)).toArray⟩)) _
    exact (by obtain rfl := hQ0.out; exact ⟨(by rw [textQ_eq2 hb0.out hb1.out]; simp [numQ]), hK.old⟩)
   · --
    go_upto_region 5 with (fail)
    refine wp_region_tx w hK ?_
    clear hK
    iterate 2 (refine tF ?_)
    refine tL m0 ?_
    refine tH (fun w' hK => rtext_any (.slice q_h0 (digs B6 (den0 x)).length d_h0) (den0 x) w' (hK.get m3) (by omega) (by omega)) ?_
    apply txF (v := .string ⟨((([47] : List UInt8)) ++ (decDigits (den0 x))).toArray⟩) (wants0 rfl); (· intro w' hK; go_simp; (try go_bits); rw [if_neg (by omega)]; exact ⟨congrArg Value.string (str_add _ _), rfl⟩); simp only [Act.put, pA, pB, pC]
    apply txF (v := .string ⟨((decDigits (numQ x)) ++ ((([47] : List UInt8)) ++ (decDigits (den0 x)))).toArray⟩) (wants0 rfl); (· intro w' hK; go_simp; (try go_bits); rw [if_neg (by omega)]; exact ⟨congrArg Value.string (str_add _ _), rfl⟩); simp only [Act.put, pA, pB, pC]
    refine tF ?_
    refine txEnd (fun W6 hK => ?_)
    go_wp2
    try go_ret
    show Q0 (.returned (.string ⟨((decDigits (numQ x)) ++ ((([47] : List UInt8)) ++ (decDigits (den0 x)))).toArray⟩)) _
    exact (by obtain rfl := hQ0.out; exact ⟨(by rw [textQ_eq2 hb0.out hb1.out]; simp [numQ]), hK.old⟩)
  · --
   go_upto_region 3 with (fail)
   refine wp_region_tx w hK ?_
   clear hK
   refine tF ?_
   apply txF (v := .string ⟨((([45] : List UInt8)) ++ (decDigits (numQ x))).toArray⟩) (wants0 rfl); (· intro w' hK; go_simp; (try go_bits); rw [if_neg (by omega)]; exact ⟨congrArg Value.string (str_add _ _), rfl⟩); simp only [Act.put, pA, pB, pC]
   refine tF ?_
   refine txEnd (fun W7 hK => ?_)
   go_upto_region 4 with (fail)
   refine wp_region_tx w hK ?_
   clear hK
   refine tF ?_
   refine tL m0 ?_
   refine tF ?_
   refine tB (decide (0 < (((digs B6 (den0 x)).length : Int)))) (fun b1 hb1 => ?_)
   refine txEnd (fun W8 hK => ?_)
   cases b1
   · --
    go_wp2
    try go_ret
    show Q0 (.returned (.string ⟨((([45] : List UInt8)) ++ (decDigits (numQ x))).toArray⟩)) _
    exact (by obtain rfl := hQ0.out; exact ⟨(by rw [textQ_eq2 hb0.out hb1.out]; simp [numQ]), hK.old⟩)
   · --
    go_upto_region 5 with (fail)
    refine wp_region_tx w hK ?_
    clear hK
    iterate 2 (refine tF ?_)
    refine tL m0 ?_
    refine tH (fun w' hK => rtext_any (.slice q_h0 (digs B6 (den0 x)).length d_h0) (den0 x) w' (hK.get m3) (by omega) (by omega)) ?_
    apply txF (v := .string ⟨((([47] : List UInt8)) ++ (decDigits (den0 x))).toArray⟩) (wants0 rfl); (· intro w' hK; go_simp; (try go_bits); rw [if_neg (by omega)]; exact ⟨congrArg Value.string (str_add _ _), rfl⟩); simp only [Act.put, pA, pB, pC]
    apply txF (v := .string ⟨(((([45] : List UInt8)) ++ (decDigits (numQ x))) ++ ((([47] : List UInt8)) ++ (decDigits (den0 x)))).toArray⟩) (wants0 rfl); (· intro w' hK; go_simp; (try go_bits); rw [if_neg (by omega)]; exact ⟨congrArg Value.string (str_add _ _), rfl⟩); simp only [Act.put, pA, pB, pC]
    refine tF ?_
    refine txEnd (fun W9 hK => ?_)
    go_wp2
    try go_ret
    show Q0 (.returned (.string ⟨(((([45] : List UInt8)) ++ (decDigits (numQ x))) ++ ((([47] : List UInt8)) ++ (decDigits (den0 x)))).toArray⟩)) _
    exact (by obtain rfl := hQ0.out; exact ⟨(by rw [textQ_eq2 hb0.out hb1.out]; simp [numQ]), hK.old⟩)
set_option maxRecDepth 100000 in
theorem qparse_q  (l : List UInt8) (w : World)  (hB0 : Bas w) (hl : l.length ≤ 10000) :
    Calls Tryz.prog 75 #[.string ⟨l.toArray⟩] w fun e w' => ∃ y0, e = .returned (.tuple #[y0, .int .i64 (errQ l)]) ∧ RatV w' y0 (valQ l) ∧ Below w.heap.size w w' := by
  have hK := (KS.start w)
  have e1 := noMinus_len l
  have e2 := cutA_len (noMinus l)
  have e3 := secB_len l
  have e4 := pv_len (cutA (noMinus l))
  have e5 := pv_len ((cutB (noMinus l)).getD [])
  have e6 : (digs B32 (parseVal ([49] : List UInt8))).length ≤ 1 := pv_len _
  have e7 : ([49] : List UInt8).length = 1 := rfl
  refine Calls.hide (fun Q0 hQ0 => ?_)
  go_enter Tryz.func75, Tryz.ntmps75
  go_upto_region 0 with (fail)
  refine wp_region_tx w hK ?_
  clear hK
  refine tA (.cells #[.bool false, .slice none 0 0, .slice none 0 0] 55) (fun R1 q_R1 => ?_)
  clear q_R1
  refine tF ?_
  refine txEnd (fun W2 hK => ?_)
  go_upto_region 1 with (fail)
  refine wp_region_tx w hK ?_
  clear hK
  refine tF ?_
  obtain ⟨b1, hb1⟩ : ∃ b : Bool, RowKit.Hid ((isMinus l) = b) := ⟨_, hid rfl⟩
  refine tH (fun w' hK => cutp_q  l w') ?_ (v := .tuple #[.string ⟨(noMinus l).toArray⟩, .bool b1]) (hv := (by rw [hb1.out]))
  iterate 3 (refine tF ?_)
  iterate 2 (refine tF ?_)
  refine txEnd (fun W3 hK => ?_)
  go_upto_region 2 with (fail)
  refine wp_region_tx w hK ?_
  clear hK
  refine tF ?_
  obtain ⟨b2, hb2⟩ : ∃ b : Bool, RowKit.Hid ((cutB (noMinus l)).isSome = b) := ⟨_, hid rfl⟩
  refine tH (fun w' hK => cut_q  (noMinus l) w' (hB0.below hK.old) (by omega)) ?_ (v := .tuple #[.string ⟨(cutA (noMinus l)).toArray⟩, .string ⟨((cutB (noMinus l)).getD []).toArray⟩, .bool b2]) (hv := (by rw [hb2.out]))
  iterate 7 (refine tF ?_)
  refine txEnd (fun W4 hK => ?_)
  cases b2
  · --
   go_upto_region 5 with (fail)
   refine wp_region_tx w hK ?_
   clear hK
   refine tF ?_
   obtain ⟨z1, hz1⟩ : ∃ b : Int, RowKit.Hid ((parseErr (cutA (noMinus l))) = b) := ⟨_, hid rfl⟩
   refine tEN (fun w' hK => nparse_q  (cutA (noMinus l)) w'  (by omega)) (fun sv5 => ?_) (g := fun y => .tuple #[y, .int .i64 z1]) (hv := fun _ => (by rw [hz1.out]))
   iterate 3 (refine tF ?_)
   refine tA (.cells #[.slice none 0 0] 53) (fun R6 q_R6 => ?_)
   have o_R1_R6 : R1 < R6 := q_R6 _ _ _ m1
   clear q_R6
   refine tS m0 0 [.slice sv5.p sv5.l sv5.c] (fun w' hK _ ni => kP [.slice sv5.p sv5.l sv5.c] (kM ni (kL o_R1_R6 kZ))) ?_
   refine tF ?_
   refine txEnd (fun W7 hK => ?_)
   go_upto_region 6 with (fail)
   refine wp_region_tx w hK ?_
   clear hK
   refine tF ?_
   obtain ⟨z2, hz2⟩ : ∃ b : Int, RowKit.Hid ((parseErr (([49] : List UInt8))) = b) := ⟨_, hid rfl⟩
   refine tEN (fun w' hK => nparse_q  (([49] : List UInt8)) w'  (by omega)) (fun sv8 => ?_) (g := fun y => .tuple #[y, .int .i64 z2]) (hv := fun _ => (by rw [hz2.out]))
   iterate 3 (refine tF ?_)
   refine tA (.cells #[.slice none 0 0] 53) (fun R9 q_R9 => ?_)
   have o_R1_R9 : R1 < R9 := q_R9 _ _ _ m3
   have o_R6_R9 : R6 < R9 := q_R9 _ _ _ m1
   clear q_R9
   refine tS m0 0 [.slice sv8.p sv8.l sv8.c] (fun w' hK _ ni => kP [.slice sv8.p sv8.l sv8.c] (kM ni (kL o_R6_R9 (kM ni (kL o_R1_R9 kZ))))) ?_
   refine tF ?_
   refine txEnd (fun W10 hK => ?_)
   go_upto_region 7 with (fail)
   refine wp_region_tx w hK ?_
   clear hK
   refine tF ?_
   refine tB (z1 == 3) (fun b3 hb3 => ?_)
   refine tF ?_
   cases b3
   · --
    refine tF ?_
    refine tB (z2 == 3) (fun b4 hb4 => ?_)
    refine tF ?_
    refine txEnd (fun W11 hK => ?_)
    cases b4
    · --
     go_upto_region 9 with (fail)
     refine wp_region_tx w hK ?_
     clear hK
     refine tF ?_
     refine tB (z1 != 0) (fun b5 hb5 => ?_)
     refine tF ?_
     cases b5
     · --
      refine tF ?_
      refine tB (z2 != 0) (fun b6 hb6 => ?_)
      refine tF ?_
      refine txEnd (fun W12 hK => ?_)
      cases b6
      · --
       go_upto_region 11 with (fail)
       refine wp_region_tx w hK ?_
       clear hK
       refine tF ?_
       refine tL m2 ?_
       refine tL m0 ?_
       obtain ⟨z3, hz3⟩ : ∃ b : Int, RowKit.Hid ((errD (parseVal (([49] : List UInt8)))) = b) := ⟨_, hid rfl⟩
       refine tEQ (fun w' hK => qmake_any (.agg #[.slice sv5.p sv5.l sv5.c]) (.agg #[.slice sv8.p sv8.l sv8.c]) b1 (parseVal (cutA (noMinus l))) (parseVal (([49] : List UInt8))) w' (hK.get m3) (hK.get m1) (by omega) (by omega)) (fun sv13 => ?_) (g := fun y => .tuple #[y, .int .i64 z3]) (hv := fun _ => (by rw [hz3.out]))
       iterate 2 (refine tF ?_)
       refine tS m7 0 [.bool (isN (ofS b1 (parseVal (cutA (noMinus l))) (parseVal (([49] : List UInt8))))), .slice sv13.a.p sv13.a.l sv13.a.c, .slice sv13.b.p sv13.b.l sv13.b.c] (fun w' hK _ ni => kQ ni (kM ni (kM ni (kG o_R1_R9 (kM ni (kG o_R1_R6 (kM ni (kP [.bool (isN (ofS b1 (parseVal (cutA (noMinus l))) (parseVal (([49] : List UInt8))))), .slice sv13.a.p sv13.a.l sv13.a.c, .slice sv13.b.p sv13.b.l sv13.b.c] kZ)))))))) ?_
       refine tF ?_
       refine txEnd (fun W14 hK => ?_)
       have k_R1 := (hK.get m7); have ⟨c_R1_0, c_R1_1, c_R1_2⟩ := k_R1.c3
       go_wp2
       exact bodyPost_ret (v := .tuple #[.agg #[.bool (isN (ofS b1 (parseVal (cutA (noMinus l))) (parseVal (([49] : List UInt8))))), .slice sv13.a.p sv13.a.l sv13.a.c, .slice sv13.b.p sv13.b.l sv13.b.c], .int .i64 z3]) (by simp [results, Tryz.results75, go_sem, c_R1_0, c_R1_1, c_R1_2]) rfl ((by obtain rfl := hQ0.out; exact ⟨.agg #[.bool (isN (ofS b1 (parseVal (cutA (noMinus l))) (parseVal (([49] : List UInt8))))), .slice sv13.a.p sv13.a.l sv13.a.c, .slice sv13.b.p sv13.b.l sv13.b.c], (by rw [(err_0 (sec_f hb2.out) hz1.out hz2.out hb5.out hb6.out hz3.out).1]), (Eq.mp (congrArg (RatV _ _) (show ofS b1 (parseVal (cutA (noMinus l))) (parseVal (([49] : List UInt8))) = valQ l from (by rw [← hb1.out]; exact (err_0 (sec_f hb2.out) hz1.out hz2.out hb5.out hb6.out hz3.out).2))) (hK.get m0)), hK.old⟩))
      · --
       go_upto_region 10 with (fail)
       refine wp_region_tx w hK ?_
       clear hK
       refine tF ?_
       refine tS m4 0 [.bool false, .slice none 0 0, .slice none 0 0] (fun w' hK _ ni => kG o_R1_R9 (kM ni (kG o_R1_R6 (kM ni (kP [.bool false, .slice none 0 0, .slice none 0 0] kZ))))) ?_
       refine tF ?_
       refine txEnd (fun W15 hK => ?_)
       have k_R1 := (hK.get m4); have ⟨c_R1_0, c_R1_1, c_R1_2⟩ := k_R1.c3
       go_wp2
       exact bodyPost_ret (v := .tuple #[.agg #[.bool false, .slice none 0 0, .slice none 0 0], .int .i64 6]) (by simp [results, Tryz.results75, go_sem, c_R1_0, c_R1_1, c_R1_2]) rfl ((by obtain rfl := hQ0.out; exact ⟨.agg #[.bool false, .slice none 0 0, .slice none 0 0], (by rw [(err_6 (sec_f hb2.out) hz1.out hz2.out hb3.out hb4.out (.inr hb6.out)).1]), (by rw [(err_6 (sec_f hb2.out) hz1.out hz2.out hb3.out hb4.out (.inr hb6.out)).2]; exact RatV.zero _), hK.old⟩))
     · --
      iterate 2 (refine tN ?_)
      refine tF ?_
      refine txEnd (fun W16 hK => ?_)
      go_upto_region 10 with (fail)
      refine wp_region_tx w hK ?_
      clear hK
      refine tF ?_
      refine tS m4 0 [.bool false, .slice none 0 0, .slice none 0 0] (fun w' hK _ ni => kG o_R1_R9 (kM ni (kG o_R1_R6 (kM ni (kP [.bool false, .slice none 0 0, .slice none 0 0] kZ))))) ?_
      refine tF ?_
      refine txEnd (fun W17 hK => ?_)
      have k_R1 := (hK.get m4); have ⟨c_R1_0, c_R1_1, c_R1_2⟩ := k_R1.c3
      go_wp2
      exact bodyPost_ret (v := .tuple #[.agg #[.bool false, .slice none 0 0, .slice none 0 0], .int .i64 6]) (by simp [results, Tryz.results75, go_sem, c_R1_0, c_R1_1, c_R1_2]) rfl ((by obtain rfl := hQ0.out; exact ⟨.agg #[.bool false, .slice none 0 0, .slice none 0 0], (by rw [(err_6 (sec_f hb2.out) hz1.out hz2.out hb3.out hb4.out (.inl hb5.out)).1]), (by rw [(err_6 (sec_f hb2.out) hz1.out hz2.out hb3.out hb4.out (.inl hb5.out)).2]; exact RatV.zero _), hK.old⟩))
    · --
     go_upto_region 8 with (fail)
     refine wp_region_tx w hK ?_
     clear hK
     refine tF ?_
     refine tS m4 0 [.bool false, .slice none 0 0, .slice none 0 0] (fun w' hK _ ni => kG o_R1_R9 (kM ni (kG o_R1_R6 (kM ni (kP [.bool false, .slice none 0 0, .slice none 0 0] kZ))))) ?_
     refine tF ?_
     refine txEnd (fun W18 hK => ?_)
     have k_R1 := (hK.get m4); have ⟨c_R1_0, c_R1_1, c_R1_2⟩ := k_R1.c3
     go_wp2
     exact bodyPost_ret (v := .tuple #[.agg #[.bool false, .slice none 0 0, .slice none 0 0], .int .i64 3]) (by simp [results, Tryz.results75, go_sem, c_R1_0, c_R1_1, c_R1_2]) rfl ((by obtain rfl := hQ0.out; exact ⟨.agg #[.bool false, .slice none 0 0, .slice none 0 0], (by rw [(err_3 (sec_f hb2.out) hz1.out hz2.out (.inr hb4.out)).1]), (by rw [(err_3 (sec_f hb2.out) hz1.out hz2.out (.inr hb4.out)).2]; exact RatV.zero _), hK.old⟩))
   · --
    iterate 2 (refine tN ?_)
    refine tF ?_
    refine txEnd (fun W19 hK => ?_)
    go_upto_region 8 with (fail)
    refine wp_region_tx w hK ?_
    clear hK
    refine tF ?_
    refine tS m4 0 [.bool false, .slice none 0 0, .slice none 0 0] (fun w' hK _ ni => kG o_R1_R9 (kM ni (kG o_R1_R6 (kM ni (kP [.bool false, .slice none 0 0, .slice none 0 0] kZ))))) ?_
    refine tF ?_
    refine txEnd (fun W20 hK => ?_)
    have k_R1 := (hK.get m4); have ⟨c_R1_0, c_R1_1, c_R1_2⟩ := k_R1.c3
    go_wp2
    exact bodyPost_ret (v := .tuple #[.agg #[.bool false, .slice none 0 0, .slice none 0 0], .int .i64 3]) (by simp [results, Tryz.results75, go_sem, c_R1_0, c_R1_1, c_R1_2]) rfl ((by obtain rfl := hQ0.out; exact ⟨.agg #[.bool false, .slice none 0 0, .slice none 0 0], (by rw [(err_3 (sec_f hb2.out) hz1.out hz2.out (.inl hb3.out)).1]), (by rw [(err_3 (sec_f hb2.out) hz1.out hz2.out (.inl hb3.out)).2]; exact RatV.zero _), hK.old⟩))
  · --
   go_upto_region 5 with (fail)
   refine wp_region_tx w hK ?_
   clear hK
   refine tF ?_
   obtain ⟨z1, hz1⟩ : ∃ b : Int, RowKit.Hid ((parseErr (cutA (noMinus l))) = b) := ⟨_, hid rfl⟩
   refine tEN (fun w' hK => nparse_q  (cutA (noMinus l)) w'  (by omega)) (fun sv21 => ?_) (g := fun y => .tuple #[y, .int .i64 z1]) (hv := fun _ => (by rw [hz1.out]))
   iterate 3 (refine tF ?_)
   refine tA (.cells #[.slice none 0 0] 53) (fun R22 q_R22 => ?_)
   have o_R1_R22 : R1 < R22 := q_R22 _ _ _ m1
   clear q_R22
   refine tS m0 0 [.slice sv21.p sv21.l sv21.c] (fun w' hK _ ni => kP [.slice sv21.p sv21.l sv21.c] (kM ni (kL o_R1_R22 kZ))) ?_
   refine tF ?_
   refine txEnd (fun W23 hK => ?_)
   go_upto_region 6 with (fail)
   refine wp_region_tx w hK ?_
   clear hK
   refine tF ?_
   obtain ⟨z2, hz2⟩ : ∃ b : Int, RowKit.Hid ((parseErr ((cutB (noMinus l)).getD [])) = b) := ⟨_, hid rfl⟩
   refine tEN (fun w' hK => nparse_q  ((cutB (noMinus l)).getD []) w'  (by omega)) (fun sv24 => ?_) (g := fun y => .tuple #[y, .int .i64 z2]) (hv := fun _ => (by rw [hz2.out]))
   iterate 3 (refine tF ?_)
   refine tA (.cells #[.slice none 0 0] 53) (fun R25 q_R25 => ?_)
   have o_R1_R25 : R1 < R25 := q_R25 _ _ _ m3
   have o_R22_R25 : R22 < R25 := q_R25 _ _ _ m1
   clear q_R25
   refine tS m0 0 [.slice sv24.p sv24.l sv24.c] (fun w' hK _ ni => kP [.slice sv24.p sv24.l sv24.c] (kM ni (kL o_R22_R25 (kM ni (kL o_R1_R25 kZ))))) ?_
   refine tF ?_
   refine txEnd (fun W26 hK => ?_)
   go_upto_region 7 with (fail)
   refine wp_region_tx w hK ?_
   clear hK
   refine tF ?_
   refine tB (z1 == 3) (fun b3 hb3 => ?_)
   refine tF ?_
   cases b3
   · --
    refine tF ?_
    refine tB (z2 == 3) (fun b4 hb4 => ?_)
    refine tF ?_
    refine txEnd (fun W27 hK => ?_)
    cases b4
    · --
     go_upto_region 9 with (fail)
     refine wp_region_tx w hK ?_
     clear hK
     refine tF ?_
     refine tB (z1 != 0) (fun b5 hb5 => ?_)
     refine tF ?_
     cases b5
     · --
      refine tF ?_
      refine tB (z2 != 0) (fun b6 hb6 => ?_)
      refine tF ?_
      refine txEnd (fun W28 hK => ?_)
      cases b6
      · --
       go_upto_region 11 with (fail)
       refine wp_region_tx w hK ?_
       clear hK
       refine tF ?_
       refine tL m2 ?_
       refine tL m0 ?_
       obtain ⟨z3, hz3⟩ : ∃ b : Int, RowKit.Hid ((errD (parseVal ((cutB (noMinus l)).getD []))) = b) := ⟨_, hid rfl⟩
       refine tEQ (fun w' hK => qmake_any (.agg #[.slice sv21.p sv21.l sv21.c]) (.agg #[.slice sv24.p sv24.l sv24.c]) b1 (parseVal (cutA (noMinus l))) (parseVal ((cutB (noMinus l)).getD [])) w' (hK.get m3) (hK.get m1) (by omega) (by omega)) (fun sv29 => ?_) (g := fun y => .tuple #[y, .int .i64 z3]) (hv := fun _ => (by rw [hz3.out]))
       iterate 2 (refine tF ?_)
       refine tS m7 0 [.bool (isN (ofS b1 (parseVal (cutA (noMinus l))) (parseVal ((cutB (noMinus l)).getD [])))), .slice sv29.a.p sv29.a.l sv29.a.c, .slice sv29.b.p sv29.b.l sv29.b.c] (fun w' hK _ ni => kQ ni (kM ni (kM ni (kG o_R1_R25 (kM ni (kG o_R1_R22 (kM ni (kP [.bool (isN (ofS b1 (parseVal (cutA (noMinus l))) (parseVal ((cutB (noMinus l)).getD [])))), .slice sv29.a.p sv29.a.l sv29.a.c, .slice sv29.b.p sv29.b.l sv29.b.c] kZ)))))))) ?_
       refine tF ?_
       refine txEnd (fun W30 hK => ?_)
       have k_R1 := (hK.get m7); have ⟨c_R1_0, c_R1_1, c_R1_2⟩ := k_R1.c3
       go_wp2
       exact bodyPost_ret (v := .tuple #[.agg #[.bool (isN (ofS b1 (parseVal (cutA (noMinus l))) (parseVal ((cutB (noMinus l)).getD [])))), .slice sv29.a.p sv29.a.l sv29.a.c, .slice sv29.b.p sv29.b.l sv29.b.c], .int .i64 z3]) (by simp [results, Tryz.results75, go_sem, c_R1_0, c_R1_1, c_R1_2]) rfl ((by obtain rfl := hQ0.out; exact ⟨.agg #[.bool (isN (ofS b1 (parseVal (cutA (noMinus l))) (parseVal ((cutB (noMinus l)).getD [])))), .slice sv29.a.p sv29.a.l sv29.a.c, .slice sv29.b.p sv29.b.l sv29.b.c], (by rw [(err_0 (sec_t hb2.out) hz1.out hz2.out hb5.out hb6.out hz3.out).1]), (Eq.mp (congrArg (RatV _ _) (show ofS b1 (parseVal (cutA (noMinus l))) (parseVal ((cutB (noMinus l)).getD [])) = valQ l from (by rw [← hb1.out]; exact (err_0 (sec_t hb2.out) hz1.out hz2.out hb5.out hb6.out hz3.out).2))) (hK.get m0)), hK.old⟩))
      · --
       go_upto_region 10 with (fail)
       refine wp_region_tx w hK ?_
       clear hK
       refine tF ?_
       refine tS m4 0 [.bool false, .slice none 0 0, .slice none 0 0] (fun w' hK _ ni => kG o_R1_R25 (kM ni (kG o_R1_R22 (kM ni (kP [.bool false, .slice none 0 0, .slice none 0 0] kZ))))) ?_
       refine tF ?_
       refine txEnd (fun W31 hK => ?_)
       have k_R1 := (hK.get m4); have ⟨c_R1_0, c_R1_1, c_R1_2⟩ := k_R1.c3
       go_wp2
       exact bodyPost_ret (v := .tuple #[.agg #[.bool false, .slice none 0 0, .slice none 0 0], .int .i64 6]) (by simp [results, Tryz.results75, go_sem, c_R1_0, c_R1_1, c_R1_2]) rfl ((by obtain rfl := hQ0.out; exact ⟨.agg #[.bool false, .slice none 0 0, .slice none 0 0], (by rw [(err_6 (sec_t hb2.out) hz1.out hz2.out hb3.out hb4.out (.inr hb6.out)).1]), (by rw [(err_6 (sec_t hb2.out) hz1.out hz2.out hb3.out hb4.out (.inr hb6.out)).2]; exact RatV.zero _), hK.old⟩))
     · --
      iterate 2 (refine tN ?_)
      refine tF ?_
      refine txEnd (fun W32 hK => ?_)
      go_upto_region 10 with (fail)
      refine wp_region_tx w hK ?_
      clear hK
      refine tF ?_
      refine tS m4 0 [.bool false, .slice none 0 0, .slice none 0 0] (fun w' hK _ ni => kG o_R1_R25 (kM ni (kG o_R1_R22 (kM ni (kP [.bool false, .slice none 0 0, .slice none 0 0] kZ))))) ?_
      refine tF ?_
      refine txEnd (fun W33 hK => ?_)
      have k_R1 := (hK.get m4); have ⟨c_R1_0, c_R1_1, c_R1_2⟩ := k_R1.c3
      go_wp2
      exact bodyPost_ret (v := .tuple #[.agg #[.bool false, .slice none 0 0, .slice none 0 0], .int .i64 6]) (by simp [results, Tryz.results75, go_sem, c_R1_0, c_R1_1, c_R1_2]) rfl ((by obtain rfl := hQ0.out; exact ⟨.agg #[.bool false, .slice none 0 0, .slice none 0 0], (by rw [(err_6 (sec_t hb2.out) hz1.out hz2.out hb3.out hb4.out (.inl hb5.out)).1]), (by rw [(err_6 (sec_t hb2.out) hz1.out hz2.out hb3.out hb4.out (.inl hb5.out)).2]; exact RatV.zero _), hK.old⟩))
    · --
     go_upto_region 8 with (fail)
     refine wp_region_tx w hK ?_
     clear hK
     refine tF ?_
     refine tS m4 0 [.bool false, .slice none 0 0, .slice none 0 0] (fun w' hK _ ni => kG o_R1_R25 (kM ni (kG o_R1_R22 (kM ni (kP [.bool false, .slice none 0 0, .slice none 0 0] kZ))))) ?_
     refine tF ?_
     refine txEnd (fun W34 hK => ?_)
     have k_R1 := (hK.get m4); have ⟨c_R1_0, c_R1_1, c_R1_2⟩ := k_R1.c3
     go_wp2
     exact bodyPost_ret (v := .tuple #[.agg #[.bool false, .slice none 0 0, .slice none 0 0], .int .i64 3]) (by simp [results, Tryz.results75, go_sem, c_R1_0, c_R1_1, c_R1_2]) rfl ((by obtain rfl := hQ0.out; exact ⟨.agg #[.bool false, .slice none 0 0, .slice none 0 0], (by rw [(err_3 (sec_t hb2.out) hz1.out hz2.out (.inr hb4.out)).1]), (by rw [(err_3 (sec_t hb2.out) hz1.out hz2.out (.inr hb4.out)).2]; exact RatV.zero _), hK.old⟩))
   · --
    iterate 2 (refine tN ?_)
    refine tF ?_
    refine txEnd (fun W35 hK => ?_)
    go_upto_region 8 with (fail)
    refine wp_region_tx w hK ?_
    clear hK
    refine tF ?_
    refine tS m4 0 [.bool false, .slice none 0 0, .slice none 0 0] (fun w' hK _ ni => kG o_R1_R25 (kM ni (kG o_R1_R22 (kM ni (kP [.bool false, .slice none 0 0, .slice none 0 0] kZ))))) ?_
    refine tF ?_
    refine txEnd (fun W36 hK => ?_)
    have k_R1 := (hK.get m4); have ⟨c_R1_0, c_R1_1, c_R1_2⟩ := k_R1.c3
    go_wp2
    exact bodyPost_ret (v := .tuple #[.agg #[.bool false, .slice none 0 0, .slice none 0 0], .int .i64 3]) (by simp [results, Tryz.results75, go_sem, c_R1_0, c_R1_1, c_R1_2]) rfl ((by obtain rfl := hQ0.out; exact ⟨.agg #[.bool false, .slice none 0 0, .slice none 0 0], (by rw [(err_3 (sec_t hb2.out) hz1.out hz2.out (.inl hb3.out)).1]), (by rw [(err_3 (sec_t hb2.out) hz1.out hz2.out (.inl hb3.out)).2]; exact RatV.zero _), hK.old⟩))
end Go.Proofs.YtcdbgincfdejkaaGreatDoor
