/- Rational numbers and their texts. -/
import Derived.Test.YtiilkcdefpmimaaGreatDoorRatF
import Derived.Test.YtiilkcdefpmimaaGreatDoorShelf
namespace Go.Proofs.YtiilkcdefpmimaaGreatDoor
open Go.RowKit
open Go.Lib (decDigits)
def Bas (w : World) : Prop := Tab w ∧ ∃ m, w.cell? ⟨1, 0, none⟩ = some (.int .i64 m)
theorem Bas.below {w w' : World} (h : Bas w) (hb : Below w.heap.size w w') : Bas w' := by
  obtain ⟨h1, m, hm⟩ := h
  refine ⟨h1.below hb, m, ?_⟩
  rw [← hm]
  refine hb.cell (p := ⟨_, 0, none⟩) ?_
  show _ < _
  refine Nat.lt_of_not_le fun hle => ?_
  simp [World.cell?, Array.getElem?_eq_none hle] at hm
theorem ntext_q (v : Value) (n : Nat) (w : World) (hv : NatV w v n) (hB : Bas w) (hl : (digs B32 n).length ≤ 100000) :
    Calls Tryz.prog 22 #[v] w fun e w' => e = .returned (.string ⟨(decDigits n).toArray⟩) ∧ Below w.heap.size w w' := text_any v n w hv hB.1 hl
theorem nparse_q (l : List UInt8) (w : World) (hl : l.length ≤ 1000000) :
    Calls Tryz.prog 53 #[.string ⟨l.toArray⟩] w fun e w' => ∃ v, e = .returned (.tuple #[v, .int .i64 (parseErr l)]) ∧ NatV w' v (parseVal l) ∧ Below w.heap.size w w' := parse_any ⟨l.toArray⟩ w (by simpa [ByteArray.size] using hl)
theorem trim_minus (l : List UInt8) : Lib.trimPrefix l [45] = noMinus l ∧ Lib.hasPrefix l [45] = isMinus l := by
  cases l with
  | nil => exact ⟨rfl, rfl⟩
  | cons c l =>
    by_cases h : c = 45
    · subst h
      exact ⟨by simp [Lib.trimPrefix, Lib.hasPrefix, noMinus], by simp [Lib.hasPrefix, isMinus]⟩
    · have h1 : ¬ 45 = c := fun e => h e.symm
      exact ⟨by simp [Lib.trimPrefix, Lib.hasPrefix, noMinus, h, h1], by simp [Lib.hasPrefix, isMinus, List.isPrefixOf]; rw [Bool.eq_iff_iff, beq_iff_eq, beq_iff_eq]; exact eq_comm⟩
theorem cutp_q (l : List UInt8) (w : World) :
    Calls Tryz.prog 51 #[.string ⟨l.toArray⟩, .string ⟨#[45]⟩] w fun e w' => e = .returned (.tuple #[.string ⟨(noMinus l).toArray⟩, .bool (isMinus l)]) ∧ Below w.heap.size w w' := by
  refine (Tryz.strings_CutPrefix ⟨l.toArray⟩ ⟨#[45]⟩ w).mono ?_
  rintro e w' ⟨rfl, rfl⟩
  refine ⟨?_, Below.refl _ _⟩
  show Ending.returned (.tuple #[.string ⟨(Lib.trimPrefix l [45]).toArray⟩, .bool (Lib.hasPrefix l [45])]) = _
  rw [(trim_minus l).1, (trim_minus l).2]
theorem textQ_eq {x : Rat} {b0 b1 : Bool} (h0 : isN x = b0) (h1 : (den0 x == 0) = b1) : textQ x = (if b0 then [45] else []) ++ (decDigits x.num.natAbs ++ (if b1 then [] else 47 :: decDigits (den0 x))) := by
  subst h0
  subst h1
  unfold textQ
  congr 2
  by_cases h : x.den = 1
  · rw [if_pos h, (den0_zero x).2 h]; rfl
  · have e : den0 x ≠ 0 := fun e => h ((den0_zero x).1 e)
    rw [if_neg h, if_neg (by simpa using e)]
    unfold den0
    rw [if_neg h]
set_option maxRecDepth 100000 in
theorem qtext_q (v0 : Value) (x : Rat) (w : World) (h0 : RatV w v0 x) (hB0 : Bas w) {k : Nat} (hx : LmQ k x) (hk : k ≤ 10000) :
    Calls Tryz.prog 24 #[v0] w fun e w' => e = .returned (.string ⟨(textQ x).toArray⟩) ∧ Below w.heap.size w w' := by
  have h0_0 := h0; obtain ⟨p_h0, l_h0, c_h0, q_h0, m_h0, d_h0, rfl, h0_1, h0_2⟩ := h0
  have hK : KS w [fun w => RatV w (.agg #[.bool (isN x), .slice p_h0 l_h0 c_h0, .slice q_h0 m_h0 d_h0]) x, fun w => NatV w (.agg #[.slice p_h0 l_h0 c_h0]) x.num.natAbs, fun w => NatV w (.agg #[.slice q_h0 m_h0 d_h0]) (den0 x)] w := (KS.add (KS.add (KS.add (KS.start w) (fun w' hb => h0_2.below hb)) (fun w' hb => h0_1.below hb)) (fun w' hb => h0_0.below hb))
  obtain ⟨b0, hb0⟩ : ∃ b, RowKit.Hid (isN x = b) := ⟨_, hid rfl⟩
  rw [show isN x = b0 from hb0.out] at hK ⊢
  have e1 := dec_len hx.n
  have e2 := dec_len hx.d
  have e0 : (decDigits (den0 x)).length ≤ 18 * k + 1 := dec_len hx.d0
  have e3 := hx.n.len
  have e4 := hx.d0.len
  refine Calls.hide (fun Q0 hQ0 => ?_)
  go_enter Tryz.func24, Tryz.ntmps24
  go_upto_region 0 with (fail)
  refine wp_region_tx w hK ?_
  clear hK
  apply txA (.cells #[.bool b0, .slice p_h0 l_h0 c_h0, .slice q_h0 m_h0 d_h0] 29) (wants0 rfl)
  · intro w' hK; go_simp; rfl
  intro R1 q_R1
  clear q_R1
  simp only [mkOf, Act.put, pA, pB, pC]
  apply txF (wants0 rfl); (· intro w' hK; go_simp; (try go_bits); exact ⟨rfl, rfl⟩); simp only [Act.put, pA, pB, pC]
  refine txEnd (fun W2 hK => ?_)
  go_upto_region 1 with (fail)
  refine wp_region_tx w hK ?_
  clear hK
  apply txF (wants0 rfl); (· intro w' hK; go_simp; (try go_bits); exact ⟨rfl, rfl⟩); simp only [Act.put, pA, pB, pC]
  apply txF (wants0 rfl); (· intro w' hK; have k_R1 := (hK.get m0); have c_R1_1 := k_R1.at 1 rfl; go_simp; (try go_bits); exact ⟨rfl, rfl⟩); simp only [Act.put, pA, pB, pC]
  apply txH (v := .string ⟨(decDigits x.num.natAbs).toArray⟩) (wants0 rfl)
  · intro v1 hv1 w' hK; go_simp; (try go_bits); refine (ntext_q (.agg #[.slice p_h0 l_h0 c_h0]) x.num.natAbs w' (hK.get m2) (hB0.below hK.old) (by omega)).mono ?_; rintro e w5 ⟨rfl, hb⟩; obtain rfl := hv1.out; exact ⟨_, rfl, rfl, hb⟩
  simp only [Act.put, pA, pB, pC]
  apply txF (wants0 rfl); (· intro w' hK; go_simp; (try go_bits); exact ⟨rfl, rfl⟩); simp only [Act.put, pA, pB, pC]
  refine txEnd (fun W3 hK => ?_)
  go_upto_region 2 with (fail)
  refine wp_region_tx w hK ?_
  clear hK
  apply txF (wants0 rfl); (· intro w' hK; go_simp; (try go_bits); exact ⟨rfl, rfl⟩); simp only [Act.put, pA, pB, pC]
  apply txF (wants0 rfl); (· intro w' hK; have k_R1 := (hK.get m0); have c_R1_0 := k_R1.at 0 rfl; go_simp; (try go_bits); exact ⟨rfl, rfl⟩); simp only [Act.put, pA, pB, pC]
  refine txEnd (fun W4 hK => ?_)
  cases b0
  · --
   go_upto_region 4 with (fail)
   refine wp_region_tx w hK ?_
   clear hK
   apply txF (wants0 rfl); (· intro w' hK; go_simp; (try go_bits); exact ⟨rfl, rfl⟩); simp only [Act.put, pA, pB, pC]
   apply txF (wants0 rfl); (· intro w' hK; have k_R1 := (hK.get m0); have c_R1_2 := k_R1.at 2 rfl; go_simp; (try go_bits); exact ⟨rfl, rfl⟩); simp only [Act.put, pA, pB, pC]
   obtain ⟨b1, hb1⟩ : ∃ b : Bool, RowKit.Hid (((den0 x) == 0) = b) := ⟨_, hid rfl⟩
   apply txH (v := .bool b1) (wants0 rfl)
   · intro v1 hv1 w' hK; go_simp; (try go_bits); refine (isZero_any (.agg #[.slice q_h0 m_h0 d_h0]) (den0 x) w' (hK.get m3) ).mono ?_; rintro e w5 ⟨rfl, hb⟩; obtain rfl := hv1.out; exact ⟨_, rfl, (by rw [hb1.out]), hb⟩
   simp only [Act.put, pA, pB, pC]
   apply txF (wants0 rfl); (· intro w' hK; go_simp; (try go_bits); exact ⟨rfl, rfl⟩); simp only [Act.put, pA, pB, pC]
   refine txEnd (fun W5 hK => ?_)
   cases b1
   · --
    go_upto_region 5 with (fail)
    refine wp_region_tx w hK ?_
    clear hK
    iterate 2 (apply txF (wants0 rfl); (· intro w' hK; go_simp; (try go_bits); exact ⟨rfl, rfl⟩); simp only [Act.put, pA, pB, pC])
    apply txF (wants0 rfl); (· intro w' hK; have k_R1 := (hK.get m0); have c_R1_2 := k_R1.at 2 rfl; go_simp; (try go_bits); exact ⟨rfl, rfl⟩); simp only [Act.put, pA, pB, pC]
    apply txH (v := .string ⟨(decDigits (den0 x)).toArray⟩) (wants0 rfl)
    · intro v1 hv1 w' hK; go_simp; (try go_bits); refine (ntext_q (.agg #[.slice q_h0 m_h0 d_h0]) (den0 x) w' (hK.get m3) (hB0.below hK.old) (by omega)).mono ?_; rintro e w5 ⟨rfl, hb⟩; obtain rfl := hv1.out; exact ⟨_, rfl, rfl, hb⟩
    simp only [Act.put, pA, pB, pC]
    apply txF (v := .string ⟨((([47] : List UInt8)) ++ (decDigits (den0 x))).toArray⟩) (wants0 rfl); (· intro w' hK; go_simp; (try go_bits); rw [if_neg (by omega)]; exact ⟨congrArg Value.string (str_add _ _), rfl⟩); simp only [Act.put, pA, pB, pC]
    apply txF (v := .string ⟨((decDigits x.num.natAbs) ++ ((([47] : List UInt8)) ++ (decDigits (den0 x)))).toArray⟩) (wants0 rfl); (· intro w' hK; go_simp; (try go_bits); rw [if_neg (by omega)]; exact ⟨congrArg Value.string (str_add _ _), rfl⟩); simp only [Act.put, pA, pB, pC]
    apply txF (wants0 rfl); (· intro w' hK; go_simp; (try go_bits); exact ⟨rfl, rfl⟩); simp only [Act.put, pA, pB, pC]
    refine txEnd (fun W6 hK => ?_)
    go_wp2
    try go_ret
    show Q0 (.returned (.string ⟨((decDigits x.num.natAbs) ++ ((([47] : List UInt8)) ++ (decDigits (den0 x)))).toArray⟩)) _
    exact (by obtain rfl := hQ0.out; exact ⟨(by rw [textQ_eq hb0.out hb1.out]; simp), hK.old⟩)
   · --
    go_wp2
    try go_ret
    show Q0 (.returned (.string ⟨(decDigits x.num.natAbs).toArray⟩)) _
    exact (by obtain rfl := hQ0.out; exact ⟨(by rw [textQ_eq hb0.out hb1.out]; simp), hK.old⟩)
  · --
   go_upto_region 3 with (fail)
   refine wp_region_tx w hK ?_
   clear hK
   apply txF (wants0 rfl); (· intro w' hK; go_simp; (try go_bits); exact ⟨rfl, rfl⟩); simp only [Act.put, pA, pB, pC]
   apply txF (v := .string ⟨((([45] : List UInt8)) ++ (decDigits x.num.natAbs)).toArray⟩) (wants0 rfl); (· intro w' hK; go_simp; (try go_bits); rw [if_neg (by omega)]; exact ⟨congrArg Value.string (str_add _ _), rfl⟩); simp only [Act.put, pA, pB, pC]
   apply txF (wants0 rfl); (· intro w' hK; go_simp; (try go_bits); exact ⟨rfl, rfl⟩); simp only [Act.put, pA, pB, pC]
   refine txEnd (fun W7 hK => ?_)
   go_upto_region 4 with (fail)
   refine wp_region_tx w hK ?_
   clear hK
   apply txF (wants0 rfl); (· intro w' hK; go_simp; (try go_bits); exact ⟨rfl, rfl⟩); simp only [Act.put, pA, pB, pC]
   apply txF (wants0 rfl); (· intro w' hK; have k_R1 := (hK.get m0); have c_R1_2 := k_R1.at 2 rfl; go_simp; (try go_bits); exact ⟨rfl, rfl⟩); simp only [Act.put, pA, pB, pC]
   obtain ⟨b1, hb1⟩ : ∃ b : Bool, RowKit.Hid (((den0 x) == 0) = b) := ⟨_, hid rfl⟩
   apply txH (v := .bool b1) (wants0 rfl)
   · intro v1 hv1 w' hK; go_simp; (try go_bits); refine (isZero_any (.agg #[.slice q_h0 m_h0 d_h0]) (den0 x) w' (hK.get m3) ).mono ?_; rintro e w5 ⟨rfl, hb⟩; obtain rfl := hv1.out; exact ⟨_, rfl, (by rw [hb1.out]), hb⟩
   simp only [Act.put, pA, pB, pC]
   apply txF (wants0 rfl); (· intro w' hK; go_simp; (try go_bits); exact ⟨rfl, rfl⟩); simp only [Act.put, pA, pB, pC]
   refine txEnd (fun W8 hK => ?_)
   cases b1
   · --
    go_upto_region 5 with (fail)
    refine wp_region_tx w hK ?_
    clear hK
    iterate 2 (apply txF (wants0 rfl); (· intro w' hK; go_simp; (try go_bits); exact ⟨rfl, rfl⟩); simp only [Act.put, pA, pB, pC])
    apply txF (wants0 rfl); (· intro w' hK; have k_R1 := (hK.get m0); have c_R1_2 := k_R1.at 2 rfl; go_simp; (try go_bits); exact ⟨rfl, rfl⟩); simp only [Act.put, pA, pB, pC]
    apply txH (v := .string ⟨(decDigits (den0 x)).toArray⟩) (wants0 rfl)
    · intro v1 hv1 w' hK; go_simp; (try go_bits); refine (ntext_q (.agg #[.slice q_h0 m_h0 d_h0]) (den0 x) w' (hK.get m3) (hB0.below hK.old) (by omega)).mono ?_; rintro e w5 ⟨rfl, hb⟩; obtain rfl := hv1.out; exact ⟨_, rfl, rfl, hb⟩
    simp only [Act.put, pA, pB, pC]
    apply txF (v := .string ⟨((([47] : List UInt8)) ++ (decDigits (den0 x))).toArray⟩) (wants0 rfl); (· intro w' hK; go_simp; (try go_bits); rw [if_neg (by omega)]; exact ⟨congrArg Value.string (str_add _ _), rfl⟩); simp only [Act.put, pA, pB, pC]
    apply txF (v := .string ⟨(((([45] : List UInt8)) ++ (decDigits x.num.natAbs)) ++ ((([47] : List UInt8)) ++ (decDigits (den0 x)))).toArray⟩) (wants0 rfl); (· intro w' hK; go_simp; (try go_bits); rw [if_neg (by omega)]; exact ⟨congrArg Value.string (str_add _ _), rfl⟩); simp only [Act.put, pA, pB, pC]
    apply txF (wants0 rfl); (· intro w' hK; go_simp; (try go_bits); exact ⟨rfl, rfl⟩); simp only [Act.put, pA, pB, pC]
    refine txEnd (fun W9 hK => ?_)
    go_wp2
    try go_ret
    show Q0 (.returned (.string ⟨(((([45] : List UInt8)) ++ (decDigits x.num.natAbs)) ++ ((([47] : List UInt8)) ++ (decDigits (den0 x)))).toArray⟩)) _
    exact (by obtain rfl := hQ0.out; exact ⟨(by rw [textQ_eq hb0.out hb1.out]; simp), hK.old⟩)
   · --
    go_wp2
    try go_ret
    show Q0 (.returned (.string ⟨((([45] : List UInt8)) ++ (decDigits x.num.natAbs)).toArray⟩)) _
    exact (by obtain rfl := hQ0.out; exact ⟨(by rw [textQ_eq hb0.out hb1.out]; simp), hK.old⟩)
theorem textQ_eq2 {x : Rat} {b0 b1 : Bool} (h0 : isN x = b0) (h1 : decide (0 < ((digs B6 (den0 x)).length : Int)) = b1) : textQ x = (if b0 then [45] else []) ++ (decDigits x.num.natAbs ++ (if b1 then 47 :: decDigits (den0 x) else [])) := by
  have h2 := len6_lt h1
  rw [textQ_eq h0 rfl]
  cases b1 with
  | false => rw [h2.2 rfl]; rfl
  | true =>
    have : den0 x ≠ 0 := fun e => by have := h2.1 e; cases this
    rw [show (den0 x == 0) = false by simp [this]]; rfl
theorem idx47 : ∀ l : List UInt8, (Lib.index l [47] = -1 ∧ cutB l = none ∧ cutA l = l) ∨ ∃ k : Nat, Lib.index l [47] = (k : Int) ∧ cutA l = l.take k ∧ cutB l = some (l.drop (k + 1))
  | [] => .inl ⟨rfl, rfl, rfl⟩
  | c :: l => by
    by_cases h : c = 47
    · subst h
      exact .inr ⟨0, by simp [Lib.index, List.isPrefixOf], by simp [cutA], by simp [cutB]⟩
    · have h1 : List.isPrefixOf [47] (c :: l) = false := by
        simp only [List.isPrefixOf, Bool.and_true]
        exact beq_false_of_ne fun e => h e.symm
      have h2 : Lib.index (c :: l) [47] = if Lib.index l [47] == -1 then -1 else Lib.index l [47] + 1 := by
        rw [Lib.index, h1]; rfl
      rcases idx47 l with ⟨e1, e2, e3⟩ | ⟨k, e1, e2, e3⟩
      · exact .inl ⟨by rw [h2, e1]; rfl, by simp [cutB, h, e2], by simp [cutA, h, e3]⟩
      · refine .inr ⟨k + 1, ?_, by simp [cutA, h, e2], by simp [cutB, h, e3]⟩
        rw [h2, e1, if_neg (by simp)]
        omega
theorem cut_eq (l : List UInt8) : Lib.cut l [47] = (cutA l, (cutB l).getD [], (cutB l).isSome) := by
  unfold Lib.cut
  rcases idx47 l with ⟨e1, e2, e3⟩ | ⟨k, e1, e2, e3⟩
  · rw [e1, e2, e3]; rfl
  · rw [e1, e2, e3, if_pos (by omega)]
    simp
theorem below_drewN (w : World) (n : Nat) : Below w.heap.size w (w.drewN n) := ⟨rfl, rfl, rfl, by simp, fun i hi => by simp only [World.heap_drewN]⟩
theorem cut_q (l : List UInt8) (w : World) (hB : Bas w) (hl : l.length < 4294967281) :
    Calls Tryz.prog 52 #[.string ⟨l.toArray⟩, .string ⟨#[47]⟩] w fun e w' => e = .returned (.tuple #[.string ⟨(cutA l).toArray⟩, .string ⟨((cutB l).getD []).toArray⟩, .bool (cutB l).isSome]) ∧ Below w.heap.size w w' := by
  obtain ⟨_, m, hm⟩ := hB
  refine (Tryz.strings_Cut ⟨l.toArray⟩ ⟨#[47]⟩ m w (by simpa [ByteArray.size] using hl) hm).mono ?_
  rintro e w' ⟨rfl, n, rfl⟩
  refine ⟨?_, below_drewN w n⟩
  show Ending.returned (.tuple #[.string ⟨(Lib.cut l [47]).1.toArray⟩, .string ⟨(Lib.cut l [47]).2.1.toArray⟩, .bool (Lib.cut l [47]).2.2]) = _
  rw [cut_eq]
theorem sec_t {l : List UInt8} (h : (cutB (noMinus l)).isSome = true) : (cutB (noMinus l)).getD [] = secQ l := by
  unfold secQ
  cases e : cutB (noMinus l) with
  | none => rw [e] at h; cases h
  | some m => rfl
theorem sec_f {l : List UInt8} (h : (cutB (noMinus l)).isSome = false) : [49] = secQ l := by
  unfold secQ
  cases e : cutB (noMinus l) with
  | none => rfl
  | some m => rw [e] at h; cases h
theorem err_3 {l m : List UInt8} {z1 z2 : Int} (hm : m = secQ l) (h1 : parseErr (cutA (noMinus l)) = z1) (h2 : parseErr m = z2) (h : (z1 == 3) = true ∨ (z2 == 3) = true) : errQ l = 3 ∧ valQ l = 0 := by
  subst hm
  have e : errQ l = 3 := by
    unfold errQ firQ
    rw [h1, h2, if_pos (by simpa using h)]
  exact ⟨e, by unfold valQ; rw [if_neg (by rw [e]; decide)]⟩
theorem err_6 {l m : List UInt8} {z1 z2 : Int} (hm : m = secQ l) (h1 : parseErr (cutA (noMinus l)) = z1) (h2 : parseErr m = z2) (h3 : (z1 == 3) = false) (h4 : (z2 == 3) = false) (h : (z1 != 0) = true ∨ (z2 != 0) = true) : errQ l = 6 ∧ valQ l = 0 := by
  subst hm
  have e : errQ l = 6 := by
    unfold errQ firQ
    rw [h1, h2, if_neg (by simp at h3 h4; omega), if_pos (by simpa using h)]
  exact ⟨e, by unfold valQ; rw [if_neg (by rw [e]; decide)]⟩
theorem err_0 {l m : List UInt8} {z1 z2 z : Int} (hm : m = secQ l) (h1 : parseErr (cutA (noMinus l)) = z1) (h2 : parseErr m = z2) (h5 : (z1 != 0) = false) (h6 : (z2 != 0) = false) (hz : (if parseVal m = 0 then (10 : Int) else 0) = z) : errQ l = z ∧ ofS (isMinus l) (parseVal (cutA (noMinus l))) (parseVal m) = valQ l := by
  subst hm
  have h7 : z1 = 0 := by simpa using h5
  have h8 : z2 = 0 := by simpa using h6
  subst h7
  subst h8
  have e : errQ l = z := by
    rw [← hz]
    unfold errQ firQ
    rw [h1, h2, if_neg (by decide), if_neg (by decide)]
  refine ⟨e, ?_⟩
  unfold valQ
  rw [e, ← hz]
  by_cases h : parseVal (secQ l) = 0
  · rw [if_pos h, if_neg (by decide), h, ofS_d0]
  · rw [if_neg h, if_pos rfl]; rfl
theorem pv_len (l : List UInt8) : (digs B32 (parseVal l)).length ≤ l.length := digs_len_le b32_2 _ _ (Nat.lt_of_lt_of_le (parseVal_lt (Nat.le_refl _)) (Nat.pow_le_pow_left (by decide) _))
theorem secB_len (l : List UInt8) : ((cutB (noMinus l)).getD []).length ≤ l.length := by
  cases e : cutB (noMinus l) with
  | none => exact Nat.zero_le _
  | some m => exact Nat.le_trans (cutB_len _ m e) (noMinus_len l)
set_option maxRecDepth 100000 in
theorem rtext_q (v0 : Value) (x : Rat) (w : World) (h0 : RefR w v0 x) {k : Nat} (hx : LmQ k x) (hk : k ≤ 10000) :
    Calls Tryz.prog 57 #[v0] w fun e w' => e = .returned (.string ⟨(textQ x).toArray⟩) ∧ Below w.heap.size w w' := by
  have h0_0 := h0; obtain ⟨p_h0, c_h0, q_h0, d_h0, rfl, h0_1, h0_2⟩ := h0.slr
  have hK : KS w [fun w => RefR w (.agg #[.bool (isN x), .slice p_h0 (digs B6 (numQ x)).length c_h0, .slice q_h0 (digs B6 (den0 x)).length d_h0]) x, fun w => RefV w (.slice p_h0 (digs B6 (numQ x)).length c_h0) (numQ x), fun w => RefV w (.slice q_h0 (digs B6 (den0 x)).length d_h0) (den0 x)] w := (KS.add (KS.add (KS.add (KS.start w) (fun w' hb => h0_2.below hb)) (fun w' hb => h0_1.below hb)) (fun w' hb => h0_0.below hb))
  obtain ⟨b0, hb0⟩ : ∃ b, RowKit.Hid (isN x = b) := ⟨_, hid rfl⟩
  rw [show isN x = b0 from hb0.out] at hK ⊢
  have e1 := dec_len hx.n
  have e2 := dec_len hx.d
  have e0 : (decDigits (den0 x)).length ≤ 18 * k + 1 := dec_len hx.d0
  have e3 := hx.n.len
  have e4 := hx.d0.len
  have e5 : (decDigits (numQ x)).length ≤ 18 * k + 1 := e1
  have e6 : (digs B6 (numQ x)).length ≤ 2 * k := hx.n.len6
  have e7 : (digs B6 (den0 x)).length ≤ 2 * k := hx.d0.len6
  refine Calls.hide (fun Q0 hQ0 => ?_)
  go_enter Tryz.func57, Tryz.ntmps57
  go_upto_region 0 with (fail)
  refine wp_region_tx w hK ?_
  clear hK
  apply txA (.cells #[.bool b0, .slice p_h0 (digs B6 (numQ x)).length c_h0, .slice q_h0 (digs B6 (den0 x)).length d_h0] 36) (wants0 rfl)
  · intro w' hK; go_simp; rfl
  intro R1 q_R1
  clear q_R1
  simp only [mkOf, Act.put, pA, pB, pC]
  apply txF (wants0 rfl); (· intro w' hK; go_simp; (try go_bits); exact ⟨rfl, rfl⟩); simp only [Act.put, pA, pB, pC]
  refine txEnd (fun W2 hK => ?_)
  go_upto_region 1 with (fail)
  refine wp_region_tx w hK ?_
  clear hK
  apply txF (wants0 rfl); (· intro w' hK; go_simp; (try go_bits); exact ⟨rfl, rfl⟩); simp only [Act.put, pA, pB, pC]
  apply txF (wants0 rfl); (· intro w' hK; have k_R1 := (hK.get m0); have c_R1_1 := k_R1.at 1 rfl; go_simp; (try go_bits); exact ⟨rfl, rfl⟩); simp only [Act.put, pA, pB, pC]
  apply txH (v := .string ⟨(decDigits (numQ x)).toArray⟩) (wants0 rfl)
  · intro v1 hv1 w' hK; go_simp; (try go_bits); refine (rtext_any (.slice p_h0 (digs B6 (numQ x)).length c_h0) (numQ x) w' (hK.get m2) (by omega) (by omega)).mono ?_; rintro e w5 ⟨rfl, hb⟩; obtain rfl := hv1.out; exact ⟨_, rfl, rfl, hb⟩
  simp only [Act.put, pA, pB, pC]
  apply txF (wants0 rfl); (· intro w' hK; go_simp; (try go_bits); exact ⟨rfl, rfl⟩); simp only [Act.put, pA, pB, pC]
  refine txEnd (fun W3 hK => ?_)
  go_upto_region 2 with (fail)
  refine wp_region_tx w hK ?_
  clear hK
  apply txF (wants0 rfl); (· intro w' hK; go_simp; (try go_bits); exact ⟨rfl, rfl⟩); simp only [Act.put, pA, pB, pC]
  apply txF (wants0 rfl); (· intro w' hK; have k_R1 := (hK.get m0); have c_R1_0 := k_R1.at 0 rfl; go_simp; (try go_bits); exact ⟨rfl, rfl⟩); simp only [Act.put, pA, pB, pC]
  refine txEnd (fun W4 hK => ?_)
  cases b0
  · --
   go_upto_region 4 with (fail)
   refine wp_region_tx w hK ?_
   clear hK
   apply txF (wants0 rfl); (· intro w' hK; go_simp; (try go_bits); exact ⟨rfl, rfl⟩); simp only [Act.put, pA, pB, pC]
   apply txF (wants0 rfl); (· intro w' hK; have k_R1 := (hK.get m0); have c_R1_2 := k_R1.at 2 rfl; go_simp; (try go_bits); exact ⟨rfl, rfl⟩); simp only [Act.put, pA, pB, pC]
   apply txF (wants0 rfl); (· intro w' hK; go_simp; (try go_bits); exact ⟨rfl, rfl⟩); simp only [Act.put, pA, pB, pC]
   obtain ⟨b1, hb1⟩ : ∃ b : Bool, RowKit.Hid (decide (0 < (((digs B6 (den0 x)).length : Int))) = b) := ⟨_, hid rfl⟩
   apply txB b1 (wants0 rfl); (· intro w' hK; go_simp; (try go_bits); exact ⟨by have q := hb1.out; subst q; first | rfl | simp, rfl⟩); simp only [Act.put, pA, pB, pC]
   refine txEnd (fun W5 hK => ?_)
   cases b1
   · --
    go_wp2
    try go_ret
    show Q0 (.returned (.string ⟨(decDigits (numQ x)).toArray⟩)) _
    exact (by obtain rfl := hQ0.out; exact ⟨(by rw [textQ_eq2 hb0.out hb1.out]; simp [numQ]), hK.old⟩)
   · --
    go_upto_region 5 with (fail)
    refine wp_region_tx w hK ?_
    clear hK
    iterate 2 (apply txF (wants0 rfl); (· intro w' hK; go_simp; (try go_bits); exact ⟨rfl, rfl⟩); simp only [Act.put, pA, pB, pC])
    apply txF (wants0 rfl); (· intro w' hK; have k_R1 := (hK.get m0); have c_R1_2 := k_R1.at 2 rfl; go_simp; (try go_bits); exact ⟨rfl, rfl⟩); simp only [Act.put, pA, pB, pC]
    apply txH (v := .string ⟨(decDigits (den0 x)).toArray⟩) (wants0 rfl)
    · intro v1 hv1 w' hK; go_simp; (try go_bits); refine (rtext_any (.slice q_h0 (digs B6 (den0 x)).length d_h0) (den0 x) w' (hK.get m3) (by omega) (by omega)).mono ?_; rintro e w5 ⟨rfl, hb⟩; obtain rfl := hv1.out; exact ⟨_, rfl, rfl, hb⟩
    simp only [Act.put, pA, pB, pC]
    apply txF (v := .string ⟨((([47] : List UInt8)) ++ (decDigits (den0 x))).toArray⟩) (wants0 rfl); (· intro w' hK; go_simp; (try go_bits); rw [if_neg (by omega)]; exact ⟨congrArg Value.string (str_add _ _), rfl⟩); simp only [Act.put, pA, pB, pC]
    apply txF (v := .string ⟨((decDigits (numQ x)) ++ ((([47] : List UInt8)) ++ (decDigits (den0 x)))).toArray⟩) (wants0 rfl); (· intro w' hK; go_simp; (try go_bits); rw [if_neg (by omega)]; exact ⟨congrArg Value.string (str_add _ _), rfl⟩); simp only [Act.put, pA, pB, pC]
    apply txF (wants0 rfl); (· intro w' hK; go_simp; (try go_bits); exact ⟨rfl, rfl⟩); simp only [Act.put, pA, pB, pC]
    refine txEnd (fun W6 hK => ?_)
    go_wp2
    try go_ret
    show Q0 (.returned (.string ⟨((decDigits (numQ x)) ++ ((([47] : List UInt8)) ++ (decDigits (den0 x)))).toArray⟩)) _
    exact (by obtain rfl := hQ0.out; exact ⟨(by rw [textQ_eq2 hb0.out hb1.out]; simp [numQ]), hK.old⟩)
  · --
   go_upto_region 3 with (fail)
   refine wp_region_tx w hK ?_
   clear hK
   apply txF (wants0 rfl); (· intro w' hK; go_simp; (try go_bits); exact ⟨rfl, rfl⟩); simp only [Act.put, pA, pB, pC]
   apply txF (v := .string ⟨((([45] : List UInt8)) ++ (decDigits (numQ x))).toArray⟩) (wants0 rfl); (· intro w' hK; go_simp; (try go_bits); rw [if_neg (by omega)]; exact ⟨congrArg Value.string (str_add _ _), rfl⟩); simp only [Act.put, pA, pB, pC]
   apply txF (wants0 rfl); (· intro w' hK; go_simp; (try go_bits); exact ⟨rfl, rfl⟩); simp only [Act.put, pA, pB, pC]
   refine txEnd (fun W7 hK => ?_)
   go_upto_region 4 with (fail)
   refine wp_region_tx w hK ?_
   clear hK
   apply txF (wants0 rfl); (· intro w' hK; go_simp; (try go_bits); exact ⟨rfl, rfl⟩); simp only [Act.put, pA, pB, pC]
   apply txF (wants0 rfl); (· intro w' hK; have k_R1 := (hK.get m0); have c_R1_2 := k_R1.at 2 rfl; go_simp; (try go_bits); exact ⟨rfl, rfl⟩); simp only [Act.put, pA, pB, pC]
   apply txF (wants0 rfl); (· intro w' hK; go_simp; (try go_bits); exact ⟨rfl, rfl⟩); simp only [Act.put, pA, pB, pC]
   obtain ⟨b1, hb1⟩ : ∃ b : Bool, RowKit.Hid (decide (0 < (((digs B6 (den0 x)).length : Int))) = b) := ⟨_, hid rfl⟩
   apply txB b1 (wants0 rfl); (· intro w' hK; go_simp; (try go_bits); exact ⟨by have q := hb1.out; subst q; first | rfl | simp, rfl⟩); simp only [Act.put, pA, pB, pC]
   refine txEnd (fun W8 hK => ?_)
   cases b1
   · --
    go_wp2
    try go_ret
    show Q0 (.returned (.string ⟨((([45] : List UInt8)) ++ (decDigits (numQ x))).toArray⟩)) _
    exact (by obtain rfl := hQ0.out; exact ⟨(by rw [textQ_eq2 hb0.out hb1.out]; simp [numQ]), hK.old⟩)
   · --
    go_upto_region 5 with (fail)
    refine wp_region_tx w hK ?_
    clear hK
    iterate 2 (apply txF (wants0 rfl); (· intro w' hK; go_simp; (try go_bits); exact ⟨rfl, rfl⟩); simp only [Act.put, pA, pB, pC])
    apply txF (wants0 rfl); (· intro w' hK; have k_R1 := (hK.get m0); have c_R1_2 := k_R1.at 2 rfl; go_simp; (try go_bits); exact ⟨rfl, rfl⟩); simp only [Act.put, pA, pB, pC]
    apply txH (v := .string ⟨(decDigits (den0 x)).toArray⟩) (wants0 rfl)
    · intro v1 hv1 w' hK; go_simp; (try go_bits); refine (rtext_any (.slice q_h0 (digs B6 (den0 x)).length d_h0) (den0 x) w' (hK.get m3) (by omega) (by omega)).mono ?_; rintro e w5 ⟨rfl, hb⟩; obtain rfl := hv1.out; exact ⟨_, rfl, rfl, hb⟩
    simp only [Act.put, pA, pB, pC]
    apply txF (v := .string ⟨((([47] : List UInt8)) ++ (decDigits (den0 x))).toArray⟩) (wants0 rfl); (· intro w' hK; go_simp; (try go_bits); rw [if_neg (by omega)]; exact ⟨congrArg Value.string (str_add _ _), rfl⟩); simp only [Act.put, pA, pB, pC]
    apply txF (v := .string ⟨(((([45] : List UInt8)) ++ (decDigits (numQ x))) ++ ((([47] : List UInt8)) ++ (decDigits (den0 x)))).toArray⟩) (wants0 rfl); (· intro w' hK; go_simp; (try go_bits); rw [if_neg (by omega)]; exact ⟨congrArg Value.string (str_add _ _), rfl⟩); simp only [Act.put, pA, pB, pC]
    apply txF (wants0 rfl); (· intro w' hK; go_simp; (try go_bits); exact ⟨rfl, rfl⟩); simp only [Act.put, pA, pB, pC]
    refine txEnd (fun W9 hK => ?_)
    go_wp2
    try go_ret
    show Q0 (.returned (.string ⟨(((([45] : List UInt8)) ++ (decDigits (numQ x))) ++ ((([47] : List UInt8)) ++ (decDigits (den0 x)))).toArray⟩)) _
    exact (by obtain rfl := hQ0.out; exact ⟨(by rw [textQ_eq2 hb0.out hb1.out]; simp [numQ]), hK.old⟩)
set_option maxRecDepth 100000 in
theorem qparse_q  (l : List UInt8) (w : World)  (hB0 : Bas w) (hl : l.length ≤ 10000) :
    Calls Tryz.prog 12 #[.string ⟨l.toArray⟩] w fun e w' => ∃ y0, e = .returned (.tuple #[y0, .int .i64 (errQ l)]) ∧ RatV w' y0 (valQ l) ∧ Below w.heap.size w w' := by
  have hK : KS w [] w := (KS.start w)
  have e1 := noMinus_len l
  have e2 := cutA_len (noMinus l)
  have e3 := secB_len l
  have e4 := pv_len (cutA (noMinus l))
  have e5 := pv_len ((cutB (noMinus l)).getD [])
  have e6 : (digs B32 (parseVal ([49] : List UInt8))).length ≤ 1 := pv_len _
  have e7 : ([49] : List UInt8).length = 1 := rfl
  refine Calls.hide (fun Q0 hQ0 => ?_)
  go_enter Tryz.func12, Tryz.ntmps12
  go_upto_region 0 with (fail)
  refine wp_region_tx w hK ?_
  clear hK
  apply txA (.cells #[.bool false, .slice none 0 0, .slice none 0 0] 29) (wants0 rfl)
  · intro w' hK; go_simp; rfl
  intro R1 q_R1
  clear q_R1
  simp only [mkOf, Act.put, pA, pB, pC]
  apply txF (wants0 rfl); (· intro w' hK; go_simp; (try go_bits); exact ⟨rfl, rfl⟩); simp only [Act.put, pA, pB, pC]
  refine txEnd (fun W2 hK => ?_)
  go_upto_region 1 with (fail)
  refine wp_region_tx w hK ?_
  clear hK
  apply txF (wants0 rfl); (· intro w' hK; go_simp; (try go_bits); exact ⟨rfl, rfl⟩); simp only [Act.put, pA, pB, pC]
  obtain ⟨b1, hb1⟩ : ∃ b : Bool, RowKit.Hid ((isMinus l) = b) := ⟨_, hid rfl⟩
  apply txH (v := .tuple #[.string ⟨(noMinus l).toArray⟩, .bool b1]) (wants0 rfl)
  · intro v1 hv1 w' hK; go_simp; (try go_bits); refine (cutp_q  l w'  ).mono ?_; rintro e w5 ⟨rfl, hb⟩; obtain rfl := hv1.out; exact ⟨_, rfl, (by rw [hb1.out]), hb⟩
  simp only [Act.put, pA, pB, pC]
  iterate 3 (apply txF (wants0 rfl); (· intro w' hK; go_simp; (try go_bits); exact ⟨rfl, rfl⟩); simp only [Act.put, pA, pB, pC])
  apply txF (wants0 rfl); (· intro w' hK; go_simp; (try go_bits); exact ⟨rfl, rfl⟩); simp only [Act.put, pA, pB]
  apply txF (wants0 rfl); (· intro w' hK; go_simp; (try go_bits); exact ⟨rfl, rfl⟩); simp only [Act.put, pA, pB, pC]
  refine txEnd (fun W3 hK => ?_)
  go_upto_region 2 with (fail)
  refine wp_region_tx w hK ?_
  clear hK
  apply txF (wants0 rfl); (· intro w' hK; go_simp; (try go_bits); exact ⟨rfl, rfl⟩); simp only [Act.put, pA, pB, pC]
  obtain ⟨b2, hb2⟩ : ∃ b : Bool, RowKit.Hid ((cutB (noMinus l)).isSome = b) := ⟨_, hid rfl⟩
  apply txH (v := .tuple #[.string ⟨(cutA (noMinus l)).toArray⟩, .string ⟨((cutB (noMinus l)).getD []).toArray⟩, .bool b2]) (wants0 rfl)
  · intro v1 hv1 w' hK; go_simp; (try go_bits); refine (cut_q  (noMinus l) w' (hB0.below hK.old) (by omega)).mono ?_; rintro e w5 ⟨rfl, hb⟩; obtain rfl := hv1.out; exact ⟨_, rfl, (by rw [hb2.out]), hb⟩
  simp only [Act.put, pA, pB, pC]
  iterate 7 (apply txF (wants0 rfl); (· intro w' hK; go_simp; (try go_bits); exact ⟨rfl, rfl⟩); simp only [Act.put, pA, pB, pC])
  refine txEnd (fun W4 hK => ?_)
  cases b2
  · --
   go_upto_region 5 with (fail)
   refine wp_region_tx w hK ?_
   clear hK
   apply txF (wants0 rfl); (· intro w' hK; go_simp; (try go_bits); exact ⟨rfl, rfl⟩); simp only [Act.put, pA, pB, pC]
   obtain ⟨z1, hz1⟩ : ∃ b : Int, RowKit.Hid ((parseErr (cutA (noMinus l))) = b) := ⟨_, hid rfl⟩
   apply txE (α := Sl) (fun sv => .tuple #[.agg #[.slice sv.p sv.l sv.c], .int .i64 z1]) (fun sv => [fun w => NatV w (.agg #[.slice sv.p sv.l sv.c]) (parseVal (cutA (noMinus l)))]) (wants0 rfl)
   · intro f1 l1 hl1 w' hK; go_simp; (try go_bits); refine (nparse_q  (cutA (noMinus l)) w'  (by omega)).mono ?_; rintro e w5 ⟨y0, rfl, u0, hb⟩; obtain ⟨rfl, rfl⟩ := hl1.out; obtain ⟨p_u0, c_u0, rfl, _⟩ := u0.digp; exact ⟨_, rfl, (⟨p_u0, _, c_u0⟩ : Sl), (by rw [hz1.out]), hb, .cons (fun w2 h2 => u0.below h2) (Lasts.nil _)⟩
   intro sv5
   simp only [Act.put, pA, pB, pC, pD, pE]
   iterate 3 (apply txF (wants0 rfl); (· intro w' hK; go_simp; (try go_bits); exact ⟨rfl, rfl⟩); simp only [Act.put, pA, pB, pC])
   apply txA (.cells #[.slice none 0 0] 27) (wants0 rfl)
   · intro w' hK; go_simp; rfl
   intro R6 q_R6
   have o_R1_R6 : R1 < R6 := q_R6 _ _ _ m1
   clear q_R6
   simp only [mkOf, Act.put, pA, pB, pC]
   apply txU 0 (Has w.heap.size R6 (.cells #[.slice sv5.p sv5.l sv5.c] 27)) (wants0 rfl)
   · intro l1 hl1 w' hK; have k_R6 := (hK.get m0); have c_R6_0 := k_R6.at 0 rfl; have f_R6 := k_R6.fz; have ni := noInt_of k_R6 nofun; go_simp; obtain rfl := hl1.out; exact ⟨rfl, ks_put (R := R6) hK k_R6.1 0 [.slice sv5.p sv5.l sv5.c] (al1 (fun _ => has_put k_R6 _ _) (al1 (spN ni (hK.get m1)) (al1 (spL o_R1_R6 (hK.get m2)) aN)))⟩
   simp only [Act.put, pB]
   apply txF (wants0 rfl); (· intro w' hK; go_simp; (try go_bits); exact ⟨rfl, rfl⟩); simp only [Act.put, pA, pB, pC]
   refine txEnd (fun W7 hK => ?_)
   go_upto_region 6 with (fail)
   refine wp_region_tx w hK ?_
   clear hK
   apply txF (wants0 rfl); (· intro w' hK; go_simp; (try go_bits); exact ⟨rfl, rfl⟩); simp only [Act.put, pA, pB, pC]
   obtain ⟨z2, hz2⟩ : ∃ b : Int, RowKit.Hid ((parseErr (([49] : List UInt8))) = b) := ⟨_, hid rfl⟩
   apply txE (α := Sl) (fun sv => .tuple #[.agg #[.slice sv.p sv.l sv.c], .int .i64 z2]) (fun sv => [fun w => NatV w (.agg #[.slice sv.p sv.l sv.c]) (parseVal (([49] : List UInt8)))]) (wants0 rfl)
   · intro f1 l1 hl1 w' hK; go_simp; (try go_bits); refine (nparse_q  (([49] : List UInt8)) w'  (by omega)).mono ?_; rintro e w5 ⟨y0, rfl, u0, hb⟩; obtain ⟨rfl, rfl⟩ := hl1.out; obtain ⟨p_u0, c_u0, rfl, _⟩ := u0.digp; exact ⟨_, rfl, (⟨p_u0, _, c_u0⟩ : Sl), (by rw [hz2.out]), hb, .cons (fun w2 h2 => u0.below h2) (Lasts.nil _)⟩
   intro sv8
   simp only [Act.put, pA, pB, pC, pD, pE]
   iterate 3 (apply txF (wants0 rfl); (· intro w' hK; go_simp; (try go_bits); exact ⟨rfl, rfl⟩); simp only [Act.put, pA, pB, pC])
   apply txA (.cells #[.slice none 0 0] 27) (wants0 rfl)
   · intro w' hK; go_simp; rfl
   intro R9 q_R9
   have o_R1_R9 : R1 < R9 := q_R9 _ _ _ m3
   have o_R6_R9 : R6 < R9 := q_R9 _ _ _ m1
   clear q_R9
   simp only [mkOf, Act.put, pA, pB, pC]
   apply txU 0 (Has w.heap.size R9 (.cells #[.slice sv8.p sv8.l sv8.c] 27)) (wants0 rfl)
   · intro l1 hl1 w' hK; have k_R9 := (hK.get m0); have c_R9_0 := k_R9.at 0 rfl; have f_R9 := k_R9.fz; have ni := noInt_of k_R9 nofun; go_simp; obtain rfl := hl1.out; exact ⟨rfl, ks_put (R := R9) hK k_R9.1 0 [.slice sv8.p sv8.l sv8.c] (al1 (fun _ => has_put k_R9 _ _) (al1 (spN ni (hK.get m1)) (al1 (spL o_R6_R9 (hK.get m2)) (al1 (spN ni (hK.get m3)) (al1 (spL o_R1_R9 (hK.get m4)) aN)))))⟩
   simp only [Act.put, pB]
   apply txF (wants0 rfl); (· intro w' hK; go_simp; (try go_bits); exact ⟨rfl, rfl⟩); simp only [Act.put, pA, pB, pC]
   refine txEnd (fun W10 hK => ?_)
   go_upto_region 7 with (fail)
   refine wp_region_tx w hK ?_
   clear hK
   apply txF (wants0 rfl); (· intro w' hK; go_simp; (try go_bits); exact ⟨rfl, rfl⟩); simp only [Act.put, pA, pB, pC]
   obtain ⟨b3, hb3⟩ : ∃ b : Bool, RowKit.Hid ((z1 == 3) = b) := ⟨_, hid rfl⟩
   apply txB b3 (wants0 rfl); (· intro w' hK; go_simp; (try go_bits); exact ⟨by have q := hb3.out; subst q; first | rfl | simp, rfl⟩); simp only [Act.put, pA, pB, pC]
   apply txF (wants0 rfl); (· intro w' hK; go_simp; (try go_bits); exact ⟨rfl, rfl⟩); simp only [Act.put, pA, pB, pC]
   cases b3
   · --
    apply txF (wantsg (j := 2) (d := 37) (b := false) rfl rfl rfl rfl); (· intro w' hK; go_simp; (try go_bits); exact ⟨rfl, rfl⟩); simp only [Act.put, pA, pB, pC]
    obtain ⟨b4, hb4⟩ : ∃ b : Bool, RowKit.Hid ((z2 == 3) = b) := ⟨_, hid rfl⟩
    apply txB b4 (wantsg (j := 2) (d := 37) (b := false) rfl rfl rfl rfl); (· intro w' hK; go_simp; (try go_bits); exact ⟨by have q := hb4.out; subst q; first | rfl | simp, rfl⟩); simp only [Act.put, pA, pB, pC]
    apply txF (wants0 rfl); (· intro w' hK; go_simp; (try go_bits); exact ⟨rfl, rfl⟩); simp only [Act.put, pA, pB, pC]
    refine txEnd (fun W11 hK => ?_)
    cases b4
    · --
     go_upto_region 9 with (fail)
     refine wp_region_tx w hK ?_
     clear hK
     apply txF (wants0 rfl); (· intro w' hK; go_simp; (try go_bits); exact ⟨rfl, rfl⟩); simp only [Act.put, pA, pB, pC]
     obtain ⟨b5, hb5⟩ : ∃ b : Bool, RowKit.Hid ((z1 != 0) = b) := ⟨_, hid rfl⟩
     apply txB b5 (wants0 rfl); (· intro w' hK; go_simp; (try go_bits); exact ⟨by have q := hb5.out; subst q; first | rfl | simp, rfl⟩); simp only [Act.put, pA, pB, pC]
     apply txF (wants0 rfl); (· intro w' hK; go_simp; (try go_bits); exact ⟨rfl, rfl⟩); simp only [Act.put, pA, pB, pC]
     cases b5
     · --
      apply txF (wantsg (j := 2) (d := 44) (b := false) rfl rfl rfl rfl); (· intro w' hK; go_simp; (try go_bits); exact ⟨rfl, rfl⟩); simp only [Act.put, pA, pB, pC]
      obtain ⟨b6, hb6⟩ : ∃ b : Bool, RowKit.Hid ((z2 != 0) = b) := ⟨_, hid rfl⟩
      apply txB b6 (wantsg (j := 2) (d := 44) (b := false) rfl rfl rfl rfl); (· intro w' hK; go_simp; (try go_bits); exact ⟨by have q := hb6.out; subst q; first | rfl | simp, rfl⟩); simp only [Act.put, pA, pB, pC]
      apply txF (wants0 rfl); (· intro w' hK; go_simp; (try go_bits); exact ⟨rfl, rfl⟩); simp only [Act.put, pA, pB, pC]
      refine txEnd (fun W12 hK => ?_)
      cases b6
      · --
       go_upto_region 11 with (fail)
       refine wp_region_tx w hK ?_
       clear hK
       apply txF (wants0 rfl); (· intro w' hK; go_simp; (try go_bits); exact ⟨rfl, rfl⟩); simp only [Act.put, pA, pB, pC]
       apply txF (wants0 rfl); (· intro w' hK; have k_R6 := (hK.get m2); have c_R6_0 := k_R6.at 0 rfl; go_simp; (try go_bits); exact ⟨rfl, rfl⟩); simp only [Act.put, pA, pB, pC]
       apply txF (wants0 rfl); (· intro w' hK; have k_R9 := (hK.get m0); have c_R9_0 := k_R9.at 0 rfl; go_simp; (try go_bits); exact ⟨rfl, rfl⟩); simp only [Act.put, pA, pB, pC]
       obtain ⟨z3, hz3⟩ : ∃ b : Int, RowKit.Hid ((errD (parseVal (([49] : List UInt8)))) = b) := ⟨_, hid rfl⟩
       apply txE (α := Duo Sl Sl) (fun sv => .tuple #[.agg #[.bool (isN (ofS b1 (parseVal (cutA (noMinus l))) (parseVal (([49] : List UInt8))))), .slice sv.a.p sv.a.l sv.a.c, .slice sv.b.p sv.b.l sv.b.c], .int .i64 z3]) (fun sv => [fun w => RatV w (.agg #[.bool (isN (ofS b1 (parseVal (cutA (noMinus l))) (parseVal (([49] : List UInt8))))), .slice sv.a.p sv.a.l sv.a.c, .slice sv.b.p sv.b.l sv.b.c]) (ofS b1 (parseVal (cutA (noMinus l))) (parseVal (([49] : List UInt8)))), fun w => NatV w (.agg #[.slice sv.a.p sv.a.l sv.a.c]) ((ofS b1 (parseVal (cutA (noMinus l))) (parseVal (([49] : List UInt8)))).num.natAbs), fun w => NatV w (.agg #[.slice sv.b.p sv.b.l sv.b.c]) (den0 (ofS b1 (parseVal (cutA (noMinus l))) (parseVal (([49] : List UInt8)))))]) (wants0 rfl)
       · intro f1 l1 hl1 w' hK; go_simp; (try go_bits); refine (qmake_any (.agg #[.slice sv5.p sv5.l sv5.c]) (.agg #[.slice sv8.p sv8.l sv8.c]) b1 (parseVal (cutA (noMinus l))) (parseVal (([49] : List UInt8))) w' (hK.get m3) (hK.get m1) (by omega) (by omega)).mono ?_; rintro e w5 ⟨y0, rfl, u0, hb⟩; obtain ⟨rfl, rfl⟩ := hl1.out; have u0_0 := u0; obtain ⟨p_u0, l_u0, c_u0, q_u0, m_u0, d_u0, rfl, u0_1, u0_2⟩ := u0; exact ⟨_, rfl, (⟨⟨p_u0, l_u0, c_u0⟩, ⟨q_u0, m_u0, d_u0⟩⟩ : Duo Sl Sl), (by rw [hz3.out]), hb, .cons (fun w2 h2 => u0_0.below h2) (.cons (fun w2 h2 => u0_1.below h2) (.cons (fun w2 h2 => u0_2.below h2) (Lasts.nil _)))⟩
       intro sv13
       simp only [Act.put, pA, pB, pC, pD, pE]
       iterate 2 (apply txF (wants0 rfl); (· intro w' hK; go_simp; (try go_bits); exact ⟨rfl, rfl⟩); simp only [Act.put, pA, pB, pC])
       apply txU 7 (Has w.heap.size R1 (.cells #[.bool (isN (ofS b1 (parseVal (cutA (noMinus l))) (parseVal (([49] : List UInt8))))), .slice sv13.a.p sv13.a.l sv13.a.c, .slice sv13.b.p sv13.b.l sv13.b.c] 29)) (wants0 rfl)
       · intro l1 hl1 w' hK; have k_R1 := (hK.get m7); have ⟨c_R1_0, c_R1_1, c_R1_2⟩ := k_R1.c3; have f_R1 := k_R1.fz; have ni := noInt_of k_R1 nofun; go_simp; obtain rfl := hl1.out; exact ⟨rfl, ks_put (R := R1) hK k_R1.1 0 [.bool (isN (ofS b1 (parseVal (cutA (noMinus l))) (parseVal (([49] : List UInt8))))), .slice sv13.a.p sv13.a.l sv13.a.c, .slice sv13.b.p sv13.b.l sv13.b.c] (al1 (spQ ni (hK.get m0)) (al1 (spN ni (hK.get m1)) (al1 (spN ni (hK.get m2)) (al1 (spG o_R1_R9 (hK.get m3)) (al1 (spN ni (hK.get m4)) (al1 (spG o_R1_R6 (hK.get m5)) (al1 (spN ni (hK.get m6)) (al1 (fun _ => has_put k_R1 _ _) aN))))))))⟩
       simp only [Act.put, pB, pC]
       apply txF (wants0 rfl); (· intro w' hK; go_simp; (try go_bits); exact ⟨rfl, rfl⟩); simp only [Act.put, pA, pB, pC]
       refine txEnd (fun W14 hK => ?_)
       have k_R1 := (hK.get m7); have ⟨c_R1_0, c_R1_1, c_R1_2⟩ := k_R1.c3
       go_wp2
       exact bodyPost_ret (v := .tuple #[.agg #[.bool (isN (ofS b1 (parseVal (cutA (noMinus l))) (parseVal (([49] : List UInt8))))), .slice sv13.a.p sv13.a.l sv13.a.c, .slice sv13.b.p sv13.b.l sv13.b.c], .int .i64 z3]) (by simp [results, Tryz.results12, go_sem, c_R1_0, c_R1_1, c_R1_2]) rfl ((by obtain rfl := hQ0.out; exact ⟨.agg #[.bool (isN (ofS b1 (parseVal (cutA (noMinus l))) (parseVal (([49] : List UInt8))))), .slice sv13.a.p sv13.a.l sv13.a.c, .slice sv13.b.p sv13.b.l sv13.b.c], (by rw [(err_0 (sec_f hb2.out) hz1.out hz2.out hb5.out hb6.out hz3.out).1]), (Eq.mp (congrArg (RatV _ _) (show ofS b1 (parseVal (cutA (noMinus l))) (parseVal (([49] : List UInt8))) = valQ l from (by rw [← hb1.out]; exact (err_0 (sec_f hb2.out) hz1.out hz2.out hb5.out hb6.out hz3.out).2))) (hK.get m0)), hK.old⟩))
      · --
       go_upto_region 10 with (fail)
       refine wp_region_tx w hK ?_
       clear hK
       apply txF (wants0 rfl); (· intro w' hK; go_simp; (try go_bits); exact ⟨rfl, rfl⟩); simp only [Act.put, pA, pB, pC]
       apply txU 4 (Has w.heap.size R1 (.cells #[.bool false, .slice none 0 0, .slice none 0 0] 29)) (wants0 rfl)
       · intro l1 hl1 w' hK; have k_R1 := (hK.get m4); have ⟨c_R1_0, c_R1_1, c_R1_2⟩ := k_R1.c3; have f_R1 := k_R1.fz; have ni := noInt_of k_R1 nofun; go_simp; obtain rfl := hl1.out; exact ⟨rfl, ks_put (R := R1) hK k_R1.1 0 [.bool false, .slice none 0 0, .slice none 0 0] (al1 (spG o_R1_R9 (hK.get m0)) (al1 (spN ni (hK.get m1)) (al1 (spG o_R1_R6 (hK.get m2)) (al1 (spN ni (hK.get m3)) (al1 (fun _ => has_put k_R1 _ _) aN)))))⟩
       simp only [Act.put, pB, pC]
       apply txF (wants0 rfl); (· intro w' hK; go_simp; (try go_bits); exact ⟨rfl, rfl⟩); simp only [Act.put, pA, pB, pC]
       refine txEnd (fun W15 hK => ?_)
       have k_R1 := (hK.get m4); have ⟨c_R1_0, c_R1_1, c_R1_2⟩ := k_R1.c3
       go_wp2
       exact bodyPost_ret (v := .tuple #[.agg #[.bool false, .slice none 0 0, .slice none 0 0], .int .i64 6]) (by simp [results, Tryz.results12, go_sem, c_R1_0, c_R1_1, c_R1_2]) rfl ((by obtain rfl := hQ0.out; exact ⟨.agg #[.bool false, .slice none 0 0, .slice none 0 0], (by rw [(err_6 (sec_f hb2.out) hz1.out hz2.out hb3.out hb4.out (.inr hb6.out)).1]), (by rw [(err_6 (sec_f hb2.out) hz1.out hz2.out hb3.out hb4.out (.inr hb6.out)).2]; exact RatV.zero _), hK.old⟩))
     · --
      iterate 2 (apply txN (j := 2) (d := 44) (b := false) rfl rfl rfl rfl; simp only [Act.put, pA, pB, pC])
      apply txF (wants0 rfl); (· intro w' hK; go_simp; (try go_bits); exact ⟨rfl, rfl⟩); simp only [Act.put, pA, pB, pC]
      refine txEnd (fun W16 hK => ?_)
      go_upto_region 10 with (fail)
      refine wp_region_tx w hK ?_
      clear hK
      apply txF (wants0 rfl); (· intro w' hK; go_simp; (try go_bits); exact ⟨rfl, rfl⟩); simp only [Act.put, pA, pB, pC]
      apply txU 4 (Has w.heap.size R1 (.cells #[.bool false, .slice none 0 0, .slice none 0 0] 29)) (wants0 rfl)
      · intro l1 hl1 w' hK; have k_R1 := (hK.get m4); have ⟨c_R1_0, c_R1_1, c_R1_2⟩ := k_R1.c3; have f_R1 := k_R1.fz; have ni := noInt_of k_R1 nofun; go_simp; obtain rfl := hl1.out; exact ⟨rfl, ks_put (R := R1) hK k_R1.1 0 [.bool false, .slice none 0 0, .slice none 0 0] (al1 (spG o_R1_R9 (hK.get m0)) (al1 (spN ni (hK.get m1)) (al1 (spG o_R1_R6 (hK.get m2)) (al1 (spN ni (hK.get m3)) (al1 (fun _ => has_put k_R1 _ _) aN)))))⟩
      simp only [Act.put, pB, pC]
      apply txF (wants0 rfl); (· intro w' hK; go_simp; (try go_bits); exact ⟨rfl, rfl⟩); simp only [Act.put, pA, pB, pC]
      refine txEnd (fun W17 hK => ?_)
      have k_R1 := (hK.get m4); have ⟨c_R1_0, c_R1_1, c_R1_2⟩ := k_R1.c3
      go_wp2
      exact bodyPost_ret (v := .tuple #[.agg #[.bool false, .slice none 0 0, .slice none 0 0], .int .i64 6]) (by simp [results, Tryz.results12, go_sem, c_R1_0, c_R1_1, c_R1_2]) rfl ((by obtain rfl := hQ0.out; exact ⟨.agg #[.bool false, .slice none 0 0, .slice none 0 0], (by rw [(err_6 (sec_f hb2.out) hz1.out hz2.out hb3.out hb4.out (.inl hb5.out)).1]), (by rw [(err_6 (sec_f hb2.out) hz1.out hz2.out hb3.out hb4.out (.inl hb5.out)).2]; exact RatV.zero _), hK.old⟩))
    · --
     go_upto_region 8 with (fail)
     refine wp_region_tx w hK ?_
     clear hK
     apply txF (wants0 rfl); (· intro w' hK; go_simp; (try go_bits); exact ⟨rfl, rfl⟩); simp only [Act.put, pA, pB, pC]
     apply txU 4 (Has w.heap.size R1 (.cells #[.bool false, .slice none 0 0, .slice none 0 0] 29)) (wants0 rfl)
     · intro l1 hl1 w' hK; have k_R1 := (hK.get m4); have ⟨c_R1_0, c_R1_1, c_R1_2⟩ := k_R1.c3; have f_R1 := k_R1.fz; have ni := noInt_of k_R1 nofun; go_simp; obtain rfl := hl1.out; exact ⟨rfl, ks_put (R := R1) hK k_R1.1 0 [.bool false, .slice none 0 0, .slice none 0 0] (al1 (spG o_R1_R9 (hK.get m0)) (al1 (spN ni (hK.get m1)) (al1 (spG o_R1_R6 (hK.get m2)) (al1 (spN ni (hK.get m3)) (al1 (fun _ => has_put k_R1 _ _) aN)))))⟩
     simp only [Act.put, pB, pC]
     apply txF (wants0 rfl); (· intro w' hK; go_simp; (try go_bits); exact ⟨rfl, rfl⟩); simp only [Act.put, pA, pB, pC]
     refine txEnd (fun W18 hK => ?_)
     have k_R1 := (hK.get m4); have ⟨c_R1_0, c_R1_1, c_R1_2⟩ := k_R1.c3
     go_wp2
     exact bodyPost_ret (v := .tuple #[.agg #[.bool false, .slice none 0 0, .slice none 0 0], .int .i64 3]) (by simp [results, Tryz.results12, go_sem, c_R1_0, c_R1_1, c_R1_2]) rfl ((by obtain rfl := hQ0.out; exact ⟨.agg #[.bool false, .slice none 0 0, .slice none 0 0], (by rw [(err_3 (sec_f hb2.out) hz1.out hz2.out (.inr hb4.out)).1]), (by rw [(err_3 (sec_f hb2.out) hz1.out hz2.out (.inr hb4.out)).2]; exact RatV.zero _), hK.old⟩))
   · --
    iterate 2 (apply txN (j := 2) (d := 37) (b := false) rfl rfl rfl rfl; simp only [Act.put, pA, pB, pC])
    apply txF (wants0 rfl); (· intro w' hK; go_simp; (try go_bits); exact ⟨rfl, rfl⟩); simp only [Act.put, pA, pB, pC]
    refine txEnd (fun W19 hK => ?_)
    go_upto_region 8 with (fail)
    refine wp_region_tx w hK ?_
    clear hK
    apply txF (wants0 rfl); (· intro w' hK; go_simp; (try go_bits); exact ⟨rfl, rfl⟩); simp only [Act.put, pA, pB, pC]
    apply txU 4 (Has w.heap.size R1 (.cells #[.bool false, .slice none 0 0, .slice none 0 0] 29)) (wants0 rfl)
    · intro l1 hl1 w' hK; have k_R1 := (hK.get m4); have ⟨c_R1_0, c_R1_1, c_R1_2⟩ := k_R1.c3; have f_R1 := k_R1.fz; have ni := noInt_of k_R1 nofun; go_simp; obtain rfl := hl1.out; exact ⟨rfl, ks_put (R := R1) hK k_R1.1 0 [.bool false, .slice none 0 0, .slice none 0 0] (al1 (spG o_R1_R9 (hK.get m0)) (al1 (spN ni (hK.get m1)) (al1 (spG o_R1_R6 (hK.get m2)) (al1 (spN ni (hK.get m3)) (al1 (fun _ => has_put k_R1 _ _) aN)))))⟩
    simp only [Act.put, pB, pC]
    apply txF (wants0 rfl); (· intro w' hK; go_simp; (try go_bits); exact ⟨rfl, rfl⟩); simp only [Act.put, pA, pB, pC]
    refine txEnd (fun W20 hK => ?_)
    have k_R1 := (hK.get m4); have ⟨c_R1_0, c_R1_1, c_R1_2⟩ := k_R1.c3
    go_wp2
    exact bodyPost_ret (v := .tuple #[.agg #[.bool false, .slice none 0 0, .slice none 0 0], .int .i64 3]) (by simp [results, Tryz.results12, go_sem, c_R1_0, c_R1_1, c_R1_2]) rfl ((by obtain rfl := hQ0.out; exact ⟨.agg #[.bool false, .slice none 0 0, .slice none 0 0], (by rw [(err_3 (sec_f hb2.out) hz1.out hz2.out (.inl hb3.out)).1]), (by rw [(err_3 (sec_f hb2.out) hz1.out hz2.out (.inl hb3.out)).2]; exact RatV.zero _), hK.old⟩))
  · --
   go_upto_region 5 with (fail)
   refine wp_region_tx w hK ?_
   clear hK
   apply txF (wants0 rfl); (· intro w' hK; go_simp; (try go_bits); exact ⟨rfl, rfl⟩); simp only [Act.put, pA, pB, pC]
   obtain ⟨z1, hz1⟩ : ∃ b : Int, RowKit.Hid ((parseErr (cutA (noMinus l))) = b) := ⟨_, hid rfl⟩
   apply txE (α := Sl) (fun sv => .tuple #[.agg #[.slice sv.p sv.l sv.c], .int .i64 z1]) (fun sv => [fun w => NatV w (.agg #[.slice sv.p sv.l sv.c]) (parseVal (cutA (noMinus l)))]) (wants0 rfl)
   · intro f1 l1 hl1 w' hK; go_simp; (try go_bits); refine (nparse_q  (cutA (noMinus l)) w'  (by omega)).mono ?_; rintro e w5 ⟨y0, rfl, u0, hb⟩; obtain ⟨rfl, rfl⟩ := hl1.out; obtain ⟨p_u0, c_u0, rfl, _⟩ := u0.digp; exact ⟨_, rfl, (⟨p_u0, _, c_u0⟩ : Sl), (by rw [hz1.out]), hb, .cons (fun w2 h2 => u0.below h2) (Lasts.nil _)⟩
   intro sv21
   simp only [Act.put, pA, pB, pC, pD, pE]
   iterate 3 (apply txF (wants0 rfl); (· intro w' hK; go_simp; (try go_bits); exact ⟨rfl, rfl⟩); simp only [Act.put, pA, pB, pC])
   apply txA (.cells #[.slice none 0 0] 27) (wants0 rfl)
   · intro w' hK; go_simp; rfl
   intro R22 q_R22
   have o_R1_R22 : R1 < R22 := q_R22 _ _ _ m1
   clear q_R22
   simp only [mkOf, Act.put, pA, pB, pC]
   apply txU 0 (Has w.heap.size R22 (.cells #[.slice sv21.p sv21.l sv21.c] 27)) (wants0 rfl)
   · intro l1 hl1 w' hK; have k_R22 := (hK.get m0); have c_R22_0 := k_R22.at 0 rfl; have f_R22 := k_R22.fz; have ni := noInt_of k_R22 nofun; go_simp; obtain rfl := hl1.out; exact ⟨rfl, ks_put (R := R22) hK k_R22.1 0 [.slice sv21.p sv21.l sv21.c] (al1 (fun _ => has_put k_R22 _ _) (al1 (spN ni (hK.get m1)) (al1 (spL o_R1_R22 (hK.get m2)) aN)))⟩
   simp only [Act.put, pB]
   apply txF (wants0 rfl); (· intro w' hK; go_simp; (try go_bits); exact ⟨rfl, rfl⟩); simp only [Act.put, pA, pB, pC]
   refine txEnd (fun W23 hK => ?_)
   go_upto_region 6 with (fail)
   refine wp_region_tx w hK ?_
   clear hK
   apply txF (wants0 rfl); (· intro w' hK; go_simp; (try go_bits); exact ⟨rfl, rfl⟩); simp only [Act.put, pA, pB, pC]
   obtain ⟨z2, hz2⟩ : ∃ b : Int, RowKit.Hid ((parseErr ((cutB (noMinus l)).getD [])) = b) := ⟨_, hid rfl⟩
   apply txE (α := Sl) (fun sv => .tuple #[.agg #[.slice sv.p sv.l sv.c], .int .i64 z2]) (fun sv => [fun w => NatV w (.agg #[.slice sv.p sv.l sv.c]) (parseVal ((cutB (noMinus l)).getD []))]) (wants0 rfl)
   · intro f1 l1 hl1 w' hK; go_simp; (try go_bits); refine (nparse_q  ((cutB (noMinus l)).getD []) w'  (by omega)).mono ?_; rintro e w5 ⟨y0, rfl, u0, hb⟩; obtain ⟨rfl, rfl⟩ := hl1.out; obtain ⟨p_u0, c_u0, rfl, _⟩ := u0.digp; exact ⟨_, rfl, (⟨p_u0, _, c_u0⟩ : Sl), (by rw [hz2.out]), hb, .cons (fun w2 h2 => u0.below h2) (Lasts.nil _)⟩
   intro sv24
   simp only [Act.put, pA, pB, pC, pD, pE]
   iterate 3 (apply txF (wants0 rfl); (· intro w' hK; go_simp; (try go_bits); exact ⟨rfl, rfl⟩); simp only [Act.put, pA, pB, pC])
   apply txA (.cells #[.slice none 0 0] 27) (wants0 rfl)
   · intro w' hK; go_simp; rfl
   intro R25 q_R25
   have o_R1_R25 : R1 < R25 := q_R25 _ _ _ m3
   have o_R22_R25 : R22 < R25 := q_R25 _ _ _ m1
   clear q_R25
   simp only [mkOf, Act.put, pA, pB, pC]
   apply txU 0 (Has w.heap.size R25 (.cells #[.slice sv24.p sv24.l sv24.c] 27)) (wants0 rfl)
   · intro l1 hl1 w' hK; have k_R25 := (hK.get m0); have c_R25_0 := k_R25.at 0 rfl; have f_R25 := k_R25.fz; have ni := noInt_of k_R25 nofun; go_simp; obtain rfl := hl1.out; exact ⟨rfl, ks_put (R := R25) hK k_R25.1 0 [.slice sv24.p sv24.l sv24.c] (al1 (fun _ => has_put k_R25 _ _) (al1 (spN ni (hK.get m1)) (al1 (spL o_R22_R25 (hK.get m2)) (al1 (spN ni (hK.get m3)) (al1 (spL o_R1_R25 (hK.get m4)) aN)))))⟩
   simp only [Act.put, pB]
   apply txF (wants0 rfl); (· intro w' hK; go_simp; (try go_bits); exact ⟨rfl, rfl⟩); simp only [Act.put, pA, pB, pC]
   refine txEnd (fun W26 hK => ?_)
   go_upto_region 7 with (fail)
   refine wp_region_tx w hK ?_
   clear hK
   apply txF (wants0 rfl); (· intro w' hK; go_simp; (try go_bits); exact ⟨rfl, rfl⟩); simp only [Act.put, pA, pB, pC]
   obtain ⟨b3, hb3⟩ : ∃ b : Bool, RowKit.Hid ((z1 == 3) = b) := ⟨_, hid rfl⟩
   apply txB b3 (wants0 rfl); (· intro w' hK; go_simp; (try go_bits); exact ⟨by have q := hb3.out; subst q; first | rfl | simp, rfl⟩); simp only [Act.put, pA, pB, pC]
   apply txF (wants0 rfl); (· intro w' hK; go_simp; (try go_bits); exact ⟨rfl, rfl⟩); simp only [Act.put, pA, pB, pC]
   cases b3
   · --
    apply txF (wantsg (j := 2) (d := 37) (b := false) rfl rfl rfl rfl); (· intro w' hK; go_simp; (try go_bits); exact ⟨rfl, rfl⟩); simp only [Act.put, pA, pB, pC]
    obtain ⟨b4, hb4⟩ : ∃ b : Bool, RowKit.Hid ((z2 == 3) = b) := ⟨_, hid rfl⟩
    apply txB b4 (wantsg (j := 2) (d := 37) (b := false) rfl rfl rfl rfl); (· intro w' hK; go_simp; (try go_bits); exact ⟨by have q := hb4.out; subst q; first | rfl | simp, rfl⟩); simp only [Act.put, pA, pB, pC]
    apply txF (wants0 rfl); (· intro w' hK; go_simp; (try go_bits); exact ⟨rfl, rfl⟩); simp only [Act.put, pA, pB, pC]
    refine txEnd (fun W27 hK => ?_)
    cases b4
    · --
     go_upto_region 9 with (fail)
     refine wp_region_tx w hK ?_
     clear hK
     apply txF (wants0 rfl); (· intro w' hK; go_simp; (try go_bits); exact ⟨rfl, rfl⟩); simp only [Act.put, pA, pB, pC]
     obtain ⟨b5, hb5⟩ : ∃ b : Bool, RowKit.Hid ((z1 != 0) = b) := ⟨_, hid rfl⟩
     apply txB b5 (wants0 rfl); (· intro w' hK; go_simp; (try go_bits); exact ⟨by have q := hb5.out; subst q; first | rfl | simp, rfl⟩); simp only [Act.put, pA, pB, pC]
     apply txF (wants0 rfl); (· intro w' hK; go_simp; (try go_bits); exact ⟨rfl, rfl⟩); simp only [Act.put, pA, pB, pC]
     cases b5
     · --
      apply txF (wantsg (j := 2) (d := 44) (b := false) rfl rfl rfl rfl); (· intro w' hK; go_simp; (try go_bits); exact ⟨rfl, rfl⟩); simp only [Act.put, pA, pB, pC]
      obtain ⟨b6, hb6⟩ : ∃ b : Bool, RowKit.Hid ((z2 != 0) = b) := ⟨_, hid rfl⟩
      apply txB b6 (wantsg (j := 2) (d := 44) (b := false) rfl rfl rfl rfl); (· intro w' hK; go_simp; (try go_bits); exact ⟨by have q := hb6.out; subst q; first | rfl | simp, rfl⟩); simp only [Act.put, pA, pB, pC]
      apply txF (wants0 rfl); (· intro w' hK; go_simp; (try go_bits); exact ⟨rfl, rfl⟩); simp only [Act.put, pA, pB, pC]
      refine txEnd (fun W28 hK => ?_)
      cases b6
      · --
       go_upto_region 11 with (fail)
       refine wp_region_tx w hK ?_
       clear hK
       apply txF (wants0 rfl); (· intro w' hK; go_simp; (try go_bits); exact ⟨rfl, rfl⟩); simp only [Act.put, pA, pB, pC]
       apply txF (wants0 rfl); (· intro w' hK; have k_R22 := (hK.get m2); have c_R22_0 := k_R22.at 0 rfl; go_simp; (try go_bits); exact ⟨rfl, rfl⟩); simp only [Act.put, pA, pB, pC]
       apply txF (wants0 rfl); (· intro w' hK; have k_R25 := (hK.get m0); have c_R25_0 := k_R25.at 0 rfl; go_simp; (try go_bits); exact ⟨rfl, rfl⟩); simp only [Act.put, pA, pB, pC]
       obtain ⟨z3, hz3⟩ : ∃ b : Int, RowKit.Hid ((errD (parseVal ((cutB (noMinus l)).getD []))) = b) := ⟨_, hid rfl⟩
       apply txE (α := Duo Sl Sl) (fun sv => .tuple #[.agg #[.bool (isN (ofS b1 (parseVal (cutA (noMinus l))) (parseVal ((cutB (noMinus l)).getD [])))), .slice sv.a.p sv.a.l sv.a.c, .slice sv.b.p sv.b.l sv.b.c], .int .i64 z3]) (fun sv => [fun w => RatV w (.agg #[.bool (isN (ofS b1 (parseVal (cutA (noMinus l))) (parseVal ((cutB (noMinus l)).getD [])))), .slice sv.a.p sv.a.l sv.a.c, .slice sv.b.p sv.b.l sv.b.c]) (ofS b1 (parseVal (cutA (noMinus l))) (parseVal ((cutB (noMinus l)).getD []))), fun w => NatV w (.agg #[.slice sv.a.p sv.a.l sv.a.c]) ((ofS b1 (parseVal (cutA (noMinus l))) (parseVal ((cutB (noMinus l)).getD []))).num.natAbs), fun w => NatV w (.agg #[.slice sv.b.p sv.b.l sv.b.c]) (den0 (ofS b1 (parseVal (cutA (noMinus l))) (parseVal ((cutB (noMinus l)).getD []))))]) (wants0 rfl)
       · intro f1 l1 hl1 w' hK; go_simp; (try go_bits); refine (qmake_any (.agg #[.slice sv21.p sv21.l sv21.c]) (.agg #[.slice sv24.p sv24.l sv24.c]) b1 (parseVal (cutA (noMinus l))) (parseVal ((cutB (noMinus l)).getD [])) w' (hK.get m3) (hK.get m1) (by omega) (by omega)).mono ?_; rintro e w5 ⟨y0, rfl, u0, hb⟩; obtain ⟨rfl, rfl⟩ := hl1.out; have u0_0 := u0; obtain ⟨p_u0, l_u0, c_u0, q_u0, m_u0, d_u0, rfl, u0_1, u0_2⟩ := u0; exact ⟨_, rfl, (⟨⟨p_u0, l_u0, c_u0⟩, ⟨q_u0, m_u0, d_u0⟩⟩ : Duo Sl Sl), (by rw [hz3.out]), hb, .cons (fun w2 h2 => u0_0.below h2) (.cons (fun w2 h2 => u0_1.below h2) (.cons (fun w2 h2 => u0_2.below h2) (Lasts.nil _)))⟩
       intro sv29
       simp only [Act.put, pA, pB, pC, pD, pE]
       iterate 2 (apply txF (wants0 rfl); (· intro w' hK; go_simp; (try go_bits); exact ⟨rfl, rfl⟩); simp only [Act.put, pA, pB, pC])
       apply txU 7 (Has w.heap.size R1 (.cells #[.bool (isN (ofS b1 (parseVal (cutA (noMinus l))) (parseVal ((cutB (noMinus l)).getD [])))), .slice sv29.a.p sv29.a.l sv29.a.c, .slice sv29.b.p sv29.b.l sv29.b.c] 29)) (wants0 rfl)
       · intro l1 hl1 w' hK; have k_R1 := (hK.get m7); have ⟨c_R1_0, c_R1_1, c_R1_2⟩ := k_R1.c3; have f_R1 := k_R1.fz; have ni := noInt_of k_R1 nofun; go_simp; obtain rfl := hl1.out; exact ⟨rfl, ks_put (R := R1) hK k_R1.1 0 [.bool (isN (ofS b1 (parseVal (cutA (noMinus l))) (parseVal ((cutB (noMinus l)).getD [])))), .slice sv29.a.p sv29.a.l sv29.a.c, .slice sv29.b.p sv29.b.l sv29.b.c] (al1 (spQ ni (hK.get m0)) (al1 (spN ni (hK.get m1)) (al1 (spN ni (hK.get m2)) (al1 (spG o_R1_R25 (hK.get m3)) (al1 (spN ni (hK.get m4)) (al1 (spG o_R1_R22 (hK.get m5)) (al1 (spN ni (hK.get m6)) (al1 (fun _ => has_put k_R1 _ _) aN))))))))⟩
       simp only [Act.put, pB, pC]
       apply txF (wants0 rfl); (· intro w' hK; go_simp; (try go_bits); exact ⟨rfl, rfl⟩); simp only [Act.put, pA, pB, pC]
       refine txEnd (fun W30 hK => ?_)
       have k_R1 := (hK.get m7); have ⟨c_R1_0, c_R1_1, c_R1_2⟩ := k_R1.c3
       go_wp2
       exact bodyPost_ret (v := .tuple #[.agg #[.bool (isN (ofS b1 (parseVal (cutA (noMinus l))) (parseVal ((cutB (noMinus l)).getD [])))), .slice sv29.a.p sv29.a.l sv29.a.c, .slice sv29.b.p sv29.b.l sv29.b.c], .int .i64 z3]) (by simp [results, Tryz.results12, go_sem, c_R1_0, c_R1_1, c_R1_2]) rfl ((by obtain rfl := hQ0.out; exact ⟨.agg #[.bool (isN (ofS b1 (parseVal (cutA (noMinus l))) (parseVal ((cutB (noMinus l)).getD [])))), .slice sv29.a.p sv29.a.l sv29.a.c, .slice sv29.b.p sv29.b.l sv29.b.c], (by rw [(err_0 (sec_t hb2.out) hz1.out hz2.out hb5.out hb6.out hz3.out).1]), (Eq.mp (congrArg (RatV _ _) (show ofS b1 (parseVal (cutA (noMinus l))) (parseVal ((cutB (noMinus l)).getD [])) = valQ l from (by rw [← hb1.out]; exact (err_0 (sec_t hb2.out) hz1.out hz2.out hb5.out hb6.out hz3.out).2))) (hK.get m0)), hK.old⟩))
      · --
       go_upto_region 10 with (fail)
       refine wp_region_tx w hK ?_
       clear hK
       apply txF (wants0 rfl); (· intro w' hK; go_simp; (try go_bits); exact ⟨rfl, rfl⟩); simp only [Act.put, pA, pB, pC]
       apply txU 4 (Has w.heap.size R1 (.cells #[.bool false, .slice none 0 0, .slice none 0 0] 29)) (wants0 rfl)
       · intro l1 hl1 w' hK; have k_R1 := (hK.get m4); have ⟨c_R1_0, c_R1_1, c_R1_2⟩ := k_R1.c3; have f_R1 := k_R1.fz; have ni := noInt_of k_R1 nofun; go_simp; obtain rfl := hl1.out; exact ⟨rfl, ks_put (R := R1) hK k_R1.1 0 [.bool false, .slice none 0 0, .slice none 0 0] (al1 (spG o_R1_R25 (hK.get m0)) (al1 (spN ni (hK.get m1)) (al1 (spG o_R1_R22 (hK.get m2)) (al1 (spN ni (hK.get m3)) (al1 (fun _ => has_put k_R1 _ _) aN)))))⟩
       simp only [Act.put, pB, pC]
       apply txF (wants0 rfl); (· intro w' hK; go_simp; (try go_bits); exact ⟨rfl, rfl⟩); simp only [Act.put, pA, pB, pC]
       refine txEnd (fun W31 hK => ?_)
       have k_R1 := (hK.get m4); have ⟨c_R1_0, c_R1_1, c_R1_2⟩ := k_R1.c3
       go_wp2
       exact bodyPost_ret (v := .tuple #[.agg #[.bool false, .slice none 0 0, .slice none 0 0], .int .i64 6]) (by simp [results, Tryz.results12, go_sem, c_R1_0, c_R1_1, c_R1_2]) rfl ((by obtain rfl := hQ0.out; exact ⟨.agg #[.bool false, .slice none 0 0, .slice none 0 0], (by rw [(err_6 (sec_t hb2.out) hz1.out hz2.out hb3.out hb4.out (.inr hb6.out)).1]), (by rw [(err_6 (sec_t hb2.out) hz1.out hz2.out hb3.out hb4.out (.inr hb6.out)).2]; exact RatV.zero _), hK.old⟩))
     · --
      iterate 2 (apply txN (j := 2) (d := 44) (b := false) rfl rfl rfl rfl; simp only [Act.put, pA, pB, pC])
      apply txF (wants0 rfl); (· intro w' hK; go_simp; (try go_bits); exact ⟨rfl, rfl⟩); simp only [Act.put, pA, pB, pC]
      refine txEnd (fun W32 hK => ?_)
      go_upto_region 10 with (fail)
      refine wp_region_tx w hK ?_
      clear hK
      apply txF (wants0 rfl); (· intro w' hK; go_simp; (try go_bits); exact ⟨rfl, rfl⟩); simp only [Act.put, pA, pB, pC]
      apply txU 4 (Has w.heap.size R1 (.cells #[.bool false, .slice none 0 0, .slice none 0 0] 29)) (wants0 rfl)
      · intro l1 hl1 w' hK; have k_R1 := (hK.get m4); have ⟨c_R1_0, c_R1_1, c_R1_2⟩ := k_R1.c3; have f_R1 := k_R1.fz; have ni := noInt_of k_R1 nofun; go_simp; obtain rfl := hl1.out; exact ⟨rfl, ks_put (R := R1) hK k_R1.1 0 [.bool false, .slice none 0 0, .slice none 0 0] (al1 (spG o_R1_R25 (hK.get m0)) (al1 (spN ni (hK.get m1)) (al1 (spG o_R1_R22 (hK.get m2)) (al1 (spN ni (hK.get m3)) (al1 (fun _ => has_put k_R1 _ _) aN)))))⟩
      simp only [Act.put, pB, pC]
      apply txF (wants0 rfl); (· intro w' hK; go_simp; (try go_bits); exact ⟨rfl, rfl⟩); simp only [Act.put, pA, pB, pC]
      refine txEnd (fun W33 hK => ?_)
      have k_R1 := (hK.get m4); have ⟨c_R1_0, c_R1_1, c_R1_2⟩ := k_R1.c3
      go_wp2
      exact bodyPost_ret (v := .tuple #[.agg #[.bool false, .slice none 0 0, .slice none 0 0], .int .i64 6]) (by simp [results, Tryz.results12, go_sem, c_R1_0, c_R1_1, c_R1_2]) rfl ((by obtain rfl := hQ0.out; exact ⟨.agg #[.bool false, .slice none 0 0, .slice none 0 0], (by rw [(err_6 (sec_t hb2.out) hz1.out hz2.out hb3.out hb4.out (.inl hb5.out)).1]), (by rw [(err_6 (sec_t hb2.out) hz1.out hz2.out hb3.out hb4.out (.inl hb5.out)).2]; exact RatV.zero _), hK.old⟩))
    · --
     go_upto_region 8 with (fail)
     refine wp_region_tx w hK ?_
     clear hK
     apply txF (wants0 rfl); (· intro w' hK; go_simp; (try go_bits); exact ⟨rfl, rfl⟩); simp only [Act.put, pA, pB, pC]
     apply txU 4 (Has w.heap.size R1 (.cells #[.bool false, .slice none 0 0, .slice none 0 0] 29)) (wants0 rfl)
     · intro l1 hl1 w' hK; have k_R1 := (hK.get m4); have ⟨c_R1_0, c_R1_1, c_R1_2⟩ := k_R1.c3; have f_R1 := k_R1.fz; have ni := noInt_of k_R1 nofun; go_simp; obtain rfl := hl1.out; exact ⟨rfl, ks_put (R := R1) hK k_R1.1 0 [.bool false, .slice none 0 0, .slice none 0 0] (al1 (spG o_R1_R25 (hK.get m0)) (al1 (spN ni (hK.get m1)) (al1 (spG o_R1_R22 (hK.get m2)) (al1 (spN ni (hK.get m3)) (al1 (fun _ => has_put k_R1 _ _) aN)))))⟩
     simp only [Act.put, pB, pC]
     apply txF (wants0 rfl); (· intro w' hK; go_simp; (try go_bits); exact ⟨rfl, rfl⟩); simp only [Act.put, pA, pB, pC]
     refine txEnd (fun W34 hK => ?_)
     have k_R1 := (hK.get m4); have ⟨c_R1_0, c_R1_1, c_R1_2⟩ := k_R1.c3
     go_wp2
     exact bodyPost_ret (v := .tuple #[.agg #[.bool false, .slice none 0 0, .slice none 0 0], .int .i64 3]) (by simp [results, Tryz.results12, go_sem, c_R1_0, c_R1_1, c_R1_2]) rfl ((by obtain rfl := hQ0.out; exact ⟨.agg #[.bool false, .slice none 0 0, .slice none 0 0], (by rw [(err_3 (sec_t hb2.out) hz1.out hz2.out (.inr hb4.out)).1]), (by rw [(err_3 (sec_t hb2.out) hz1.out hz2.out (.inr hb4.out)).2]; exact RatV.zero _), hK.old⟩))
   · --
    iterate 2 (apply txN (j := 2) (d := 37) (b := false) rfl rfl rfl rfl; simp only [Act.put, pA, pB, pC])
    apply txF (wants0 rfl); (· intro w' hK; go_simp; (try go_bits); exact ⟨rfl, rfl⟩); simp only [Act.put, pA, pB, pC]
    refine txEnd (fun W35 hK => ?_)
    go_upto_region 8 with (fail)
    refine wp_region_tx w hK ?_
    clear hK
    apply txF (wants0 rfl); (· intro w' hK; go_simp; (try go_bits); exact ⟨rfl, rfl⟩); simp only [Act.put, pA, pB, pC]
    apply txU 4 (Has w.heap.size R1 (.cells #[.bool false, .slice none 0 0, .slice none 0 0] 29)) (wants0 rfl)
    · intro l1 hl1 w' hK; have k_R1 := (hK.get m4); have ⟨c_R1_0, c_R1_1, c_R1_2⟩ := k_R1.c3; have f_R1 := k_R1.fz; have ni := noInt_of k_R1 nofun; go_simp; obtain rfl := hl1.out; exact ⟨rfl, ks_put (R := R1) hK k_R1.1 0 [.bool false, .slice none 0 0, .slice none 0 0] (al1 (spG o_R1_R25 (hK.get m0)) (al1 (spN ni (hK.get m1)) (al1 (spG o_R1_R22 (hK.get m2)) (al1 (spN ni (hK.get m3)) (al1 (fun _ => has_put k_R1 _ _) aN)))))⟩
    simp only [Act.put, pB, pC]
    apply txF (wants0 rfl); (· intro w' hK; go_simp; (try go_bits); exact ⟨rfl, rfl⟩); simp only [Act.put, pA, pB, pC]
    refine txEnd (fun W36 hK => ?_)
    have k_R1 := (hK.get m4); have ⟨c_R1_0, c_R1_1, c_R1_2⟩ := k_R1.c3
    go_wp2
    exact bodyPost_ret (v := .tuple #[.agg #[.bool false, .slice none 0 0, .slice none 0 0], .int .i64 3]) (by simp [results, Tryz.results12, go_sem, c_R1_0, c_R1_1, c_R1_2]) rfl ((by obtain rfl := hQ0.out; exact ⟨.agg #[.bool false, .slice none 0 0, .slice none 0 0], (by rw [(err_3 (sec_t hb2.out) hz1.out hz2.out (.inl hb3.out)).1]), (by rw [(err_3 (sec_t hb2.out) hz1.out hz2.out (.inl hb3.out)).2]; exact RatV.zero _), hK.old⟩))
end Go.Proofs.YtiilkcdefpmimaaGreatDoor
