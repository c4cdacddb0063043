/- Demands: the law of Scale. -/
import Derived.Test.YtjhgkojbpgakcaaGreatDoorDnB
import Derived.Test.YtjhgkojbpgakcaaGreatDoorDemW
import Derived.Test.YtjhgkojbpgakcaaGreatDoorDemB
namespace Go.Proofs.YtjhgkojbpgakcaaGreatDoor
open Go.RowKit
open Go.Lib (decDigits)
theorem qof_nz (n d : Int) (w : World) (n0 : -9223372036854775808 ≤ n) (n1 : n ≤ 9223372036854775807) (d0 : -9223372036854775808 ≤ d) (d1 : d ≤ 9223372036854775807) (h : d ≠ 0) :
    Calls Tryz.prog 5 #[.int .i64 n, .int .i64 d] w fun e w' => ∃ y0, e = .returned (.tuple #[y0, .int .i64 0]) ∧ RatV w' y0 (((n : Int) : Rat) / ((d : Int) : Rat)) ∧ Below w.heap.size w w' := by
  have q := qof_any n d w n0 n1 d0 d1
  rwa [if_neg h] at q
theorem scl_lm {f : Rat} {xs : List Dm} (hf : LmQ 4 f) (hr : ∀ d ∈ xs, -9223372036854775808 ≤ d.a ∧ d.a ≤ 9223372036854775807) : ∀ x ∈ sclL f xs, LmQ 60 x := fun x hx => by
  obtain ⟨d, hd, rfl⟩ := List.mem_map.1 hx
  exact ((LmQ.int (hr d hd).1 (hr d hd).2).mul hf).up (by decide)
theorem scl_sum_any (f : Rat) : ∀ xs : List Dm, sumQ (sclL f xs) = f * ((sumD cntA xs : Int) : Rat)
  | [] => by show (0 : Rat) = f * ((0 : Int) : Rat); rw [show ((0 : Int) : Rat) = 0 from rfl, Rat.mul_zero]
  | d :: xs => by
    show sumQ (((d.a : Int) : Rat) * f :: sclL f xs) = _
    rw [sumQ_cons, scl_sum_any f xs, sumD, show cntA d = true from rfl, if_pos rfl, Rat.intCast_add, Rat.mul_add, Rat.mul_comm f ((d.a : Int) : Rat)]
theorem scl_sum {f : Rat} {xs : List Dm} (h : vldD 64 xs = true) : sumQ (sclL f xs) = f * ((totD cntA xs : Int) : Rat) := by rw [totD_t h]; exact scl_sum_any f xs
theorem tot_bd {xs : List Dm} (h : vldD 64 xs = true) : 0 ≤ totD cntA xs ∧ totD cntA xs ≤ 67108864 := by
  rw [totD_t h]
  have := sumD_bt cntA h xs.length
  rwa [List.take_length] at this
theorem sgQ_self (x : Rat) : sgQ (x - x) = 0 := sgQ_zero.2 (Rat.sub_self ..)
theorem scl_sum_lm {f : Rat} {xs : List Dm} (hl : xs.length ≤ 80) (hx : ∀ x ∈ sclL f xs, LmQ 60 x) : LmQ 6000 (sumQ (sclL f xs)) := (sumQ_lm _ hx).up (by rw [scl_len]; omega)
theorem SS.unC {V w : World} {l : List Ft} {t : TypeId} {g n c j : Nat} {xs : List Rat} {x : Duo Sl Sl} {q : Rat} (k : SS V (rC t g n c xs j x q :: l) w) : SS V (rO ratK t (some ⟨g, 0, none⟩) n c xs :: l) w := by
  refine ⟨k.old, fun f hf => ?_, fun f hf => ?_, ?_⟩
  · rcases List.mem_cons.1 hf with rfl | hf
    · exact (k.has _ (List.mem_cons_self ..)).1
    · exact k.has f (List.mem_cons_of_mem _ hf)
  · rcases List.mem_cons.1 hf with rfl | hf
    · exact k.lo (rC t g n c xs j x q) (List.mem_cons_self ..)
    · exact k.lo f (List.mem_cons_of_mem _ hf)
  · have h1 := List.pairwise_cons.1 k.ap
    exact .cons h1.1 h1.2
set_option maxRecDepth 100000 in
theorem copied_S (w : World) {p_h0 : Option Addr} {n_h0 c_h0 : Nat} {xs : List Dm} (hh0 : SlV demK w (.slice p_h0 n_h0 c_h0) xs) (hl : xs.length ≤ 1000) :
    Calls Tryz.prog 7 #[.slice p_h0 n_h0 c_h0] w fun e w' => ∃ s : Sl, e = .returned (.slice s.p s.l s.c) ∧ SS w [rO demK 53 s.p s.l s.c xs] w' := by
  have hK := SS.start w
  refine Calls.hide (fun Q0 hQ0 => ?_)
  go_enter Tryz.func7, Tryz.ntmps7
  go_upto_region 1 with (fail)
  refine wp_region_T [3, 0, 5, 0] hK ?_
  clear hK
  refine eA0 (K := demK) (t := 53) (fun g1 => ?_)
  refine e0 ?_
  refine eAppE 1 rfl 0 rfl infoDm (fun w k => hh0.below k.old) (by omega) (fun x2 => ?_)
  obtain ⟨p2, n2, c2⟩ := x2; dsimp only
  refine e0 ?_
  refine sxEnd (fun W3 hK => ?_)
  go_wp2
  try go_ret
  show Q0 (.returned (.slice p2 n2 c2)) _
  exact (by obtain rfl := hQ0.out; exact ⟨⟨p2, n2, c2⟩, rfl, hK⟩)
set_option maxRecDepth 100000 in
set_option maxHeartbeats 2000000 in
theorem demandScale_any (w : World) {p_h0 : Option Addr} {n_h0 c_h0 : Nat} {xs : List Dm} (hh0 : SlV demK w (.slice p_h0 n_h0 c_h0) xs) (nm : Int) (dn : Int) (hr : ∀ d ∈ xs, -9223372036854775808 ≤ d.a ∧ d.a ≤ 9223372036854775807) (hTb : Tab w) (n0 : -2147483648 ≤ nm) (n1 : nm ≤ 2147483647) (d0 : -32768 ≤ dn) (d1 : dn ≤ 32767) :
    Calls Tryz.prog 3 #[.slice p_h0 n_h0 c_h0, .int .i32 nm, .int .i16 dn] w fun e w' => e = .returned (.bool true) ∧ Below w.heap.size w w' := by
  have hK := SS.start w
  have nx1 := Nat.le_of_eq hh0.one0; have nx2 := Nat.le_of_eq hh0.one0.symm
  have hfl := hid (show LmQ 4 (((nm : Int) : Rat) / ((dn : Int) : Rat)) from LmQ.quo (LmQ.int (by omega) (by omega)) (LmQ.int (by omega) (by omega)))
  have hsl := hid (scl_lm hfl.out hr)
  refine Calls.hide (fun Q0 hQ0 => ?_)
  go_enter Tryz.func3, Tryz.ntmps3
  go_upto_region 1 with (fail)
  refine wp_region_T [1, 0] hK ?_
  clear hK
  refine eQ (fun w k => awake_any w (hTb.below k.old)) ?_
  refine e0 ?_
  refine sxEnd (fun W1 hK => ?_)
  go_upto_region 3 with (fail)
  refine wp_region_T [0, 0, 0, 0, 0, 0, 0] hK ?_
  clear hK
  iterate 2 refine e0 ?_
  refine eB (decide (80 < ((n_h0 : Int)))) (fun b1 hb1 => ?_)
  refine e0 ?_
  cases b1
  · --
   have q_b1 : ((n_h0 : Int)) ≤ 80 := Int.not_lt.1 (of_decide_eq_false hb1.out)
   refine e0 ?_
   refine eB (dn == 0) (fun b2 hb2 => ?_)
   refine e0 ?_
   refine sxEnd (fun W2 hK => ?_)
   cases b2
   · --
    have hd0 := hid (show dn ≠ 0 from by have q := hb2.out; simpa using q)
    go_upto_region 5 with (fail)
    refine wp_region_T [0, 0, 0, 0, 2, 0, 0, 0, 3, 4, 0] hK ?_
    clear hK
    refine e0 ?_
    refine eV (.int .i64 nm) (fun w' => by go_simp; (try go_bits); first | exact ⟨rfl, rfl⟩ | (refine ⟨congrArg _ ?_, rfl⟩; omega) | exact ⟨congrArg _ (by simp), rfl⟩ | go_num) ?_
    refine e0 ?_
    refine eV (.int .i64 dn) (fun w' => by go_simp; (try go_bits); first | exact ⟨rfl, rfl⟩ | (refine ⟨congrArg _ ?_, rfl⟩; omega) | exact ⟨congrArg _ (by simp), rfl⟩ | go_num) ?_
    refine eC (fun w k => rat2_S (qof_nz nm dn w (by omega) (by omega) (by omega) (by omega) hd0.out)) (fun x3 => ?_)
    obtain ⟨⟨p4, l4, c4⟩, ⟨q4, u4, d4⟩⟩ := x3; dsimp only
    iterate 3 refine e0 ?_
    refine eA (.cells #[.bool false, .slice none 0 0, .slice none 0 0] 29) (fun R5 => ?_)
    refine eP 0 0 [.bool (isN (((nm : Int) : Rat) / ((dn : Int) : Rat))), .slice p4 l4 c4, .slice q4 u4 d4] ?_ (hq := .inr ⟨rfl, trivial⟩)
    refine e0 ?_
    refine sxEnd (fun W6 hK => ?_)
    go_upto_region 6 with (fail)
    refine wp_region_S _ [0, 2, 0, 2, 0] hK ?_ (List.Sublist.refl _)
    clear hK
    refine e0 ?_
    refine eC (fun w k => copied_S w (hh0.below k.old) (by omega)) (fun x7 => ?_)
    obtain ⟨p8, n8, c8⟩ := x7; dsimp only
    refine eL0 m0 ?_
    refine eC (fun w k => scale_any w (k.slv m0) (k.q m2) hfl.out hr (by omega)) (fun x9 => ?_)
    obtain ⟨p10, n10, c10⟩ := x9; dsimp only
    refine e0 ?_
    refine sxEnd (fun W11 hK => ?_)
    go_upto_region 7 with (fail)
    refine wp_region_T [0, 0, 0, 0, 0, 2, 2, 0] hK ?_
    clear hK
    iterate 2 refine e0 ?_
    refine eV (.int .i64 nm) (fun w' => by go_simp; (try go_bits); first | exact ⟨rfl, rfl⟩ | (refine ⟨congrArg _ ?_, rfl⟩; omega) | exact ⟨congrArg _ (by simp), rfl⟩ | go_num) ?_
    refine e0 ?_
    refine eV (.int .i64 dn) (fun w' => by go_simp; (try go_bits); first | exact ⟨rfl, rfl⟩ | (refine ⟨congrArg _ ?_, rfl⟩; omega) | exact ⟨congrArg _ (by simp), rfl⟩ | go_num) ?_
    refine eC (fun w k => ref_S (rof_q nm dn w (by omega) (by omega) (by omega) (by omega))) (fun x12 => ?_)
    obtain ⟨⟨p13, l13, c13⟩, ⟨q13, u13, d13⟩⟩ := x12; dsimp only
    refine eC (fun w k => rscale_any w (hh0.below k.old) (k.rq m0) hfl.out hr (by omega)) (fun x14 => ?_)
    obtain ⟨p15, n15, c15⟩ := x14; dsimp only
    refine e0 ?_
    refine sxEnd (fun W16 hK => ?_)
    have hl1 := hid ((hK.len m2).trans (scl_len _ _)); have hl2 := hid ((hK.len m0).trans (scl_len _ _))
    go_upto_region 8 with (fail)
    refine wp_region_T [0, 0, 0, 0, 0, 0, 0, 0, 0] hK ?_
    clear hK
    iterate 7 refine e0 ?_
    refine eB (((n10 : Int)) != ((n15 : Int))) (fun b3 hb3 => ?_)
    refine e0 ?_
    refine sxEnd (fun W17 hK => ?_)
    cases b3
    · --
     have hn1 := Nat.le_of_eq hl1.out; have hn2 := Nat.le_of_eq hl1.out.symm; have hn3 := Nat.le_of_eq hl2.out; have hn4 := Nat.le_of_eq hl2.out.symm
     go_wp2_with fail
     go_loopw [11] (fun s11 wl => ∃ (m : Nat), s11 = .int .i64 (m : Int) ∧ (m ≤ n10) ∧ SS w ([rO ratK 29 p10 n10 c10 (sclL (((nm : Int) : Rat) / ((dn : Int) : Rat)) xs), rO refK 41 p15 n15 c15 (sclL (((nm : Int) : Rat) / ((dn : Int) : Rat)) xs), bx R5 (.cells #[.bool (isN (((nm : Int) : Rat) / ((dn : Int) : Rat))), .slice p4 l4 c4, .slice q4 u4 d4] 29), qF (.agg #[.bool (isN (((nm : Int) : Rat) / ((dn : Int) : Rat))), .slice p4 l4 c4, .slice q4 u4 d4]) (((nm : Int) : Rat) / ((dn : Int) : Rat))]) wl) (fun s11 _ => n10 - (intOf s11).toNat)
     case atStart => exact ⟨0, rfl, (by omega), (hK.subl (sK2 (sC2 (sK2 (sC2 (List.Sublist.refl _)))))).up3.up3.up2.up3⟩
     case round =>
      clear hK
      obtain ⟨m, rfl, hm0, hK⟩ := hrel
      generalize wr = W18 at hK ⊢
      go_upto_region 11 with (fail)
      refine wp_region_T [0, 0, 0, 0] hK ?_
      clear hK
      iterate 3 refine e0 ?_
      refine eB (decide (((m : Int)) < ((n10 : Int)))) (fun b4 hb4 => ?_)
      refine sxEnd (fun W19 hK => ?_)
      cases b4
      · --
       have q_b4 : ((n10 : Int)) ≤ ((m : Int)) := Int.not_lt.1 (of_decide_eq_false hb4.out)
       go_upto_region 15 with (fail)
       refine wp_region_S _ [0, 1, 0, 0, 0, 2, 0, 0, 1, 2, 2, 1, 0, 0, 0] hK ?_ (List.Sublist.refl _)
       clear hK
       refine e0 ?_
       obtain ⟨b5, hb5⟩ : ∃ z9 : Bool, RowKit.Hid (vldD 64 xs = z9) := ⟨_, hid rfl⟩
       refine eQ (v := .bool b5) (fun w k => rvalid_any _ 64 xs w (hh0.below k.old) (by omega)) ?_ (hv := by rw [hb5.out])
       iterate 2 refine e0 ?_
       cases b5
       · --
        iterate 9 refine eN ?_
        iterate 2 refine e0 ?_
        refine sxEnd (fun W20 hK => ?_)
        go_wp2
        try go_ret
        show Q0 (.returned (.bool true)) _
        exact (by obtain rfl := hQ0.out; exact ⟨rfl, hK.old⟩)
       · --
        have hv9 := hid hb5.out
        have ht9 := tot_bd hb5.out
        refine e0 ?_
        refine eC (fun w k => qsum_any w (k.slv m0) (by rw [scl_len]; omega) hsl.out) (fun x21 => ?_)
        obtain ⟨⟨p22, l22, c22⟩, ⟨q22, u22, d22⟩⟩ := x21; dsimp only
        refine eL0 m2 ?_
        refine e0 ?_
        refine eQ (fun w k => total_any _ xs w (hh0.below k.old) (by omega)) ?_
        refine eC (fun w k => rat_S (qint_any (totD cntA xs) w (by omega) (by omega))) (fun x23 => ?_)
        obtain ⟨⟨p24, l24, c24⟩, ⟨q24, u24, d24⟩⟩ := x23; dsimp only
        refine eC (fun w k => rat_S (qmul_any _ _ _ _ w (k.q m5) (k.q m0) hfl.out (LmQ.up (LmQ.int (by omega) (by omega)) (by decide : 2 ≤ 4)) (by decide))) (fun x25 => ?_)
        obtain ⟨⟨p26, l26, c26⟩, ⟨q26, u26, d26⟩⟩ := x25; dsimp only
        obtain ⟨z1, hz1⟩ : ∃ z9 : Int, RowKit.Hid (sgQ ((sumQ (sclL (((nm : Int) : Rat) / ((dn : Int) : Rat)) xs)) - ((((nm : Int) : Rat) / ((dn : Int) : Rat)) * (((totD cntA xs) : Int) : Rat))) = z9) := ⟨_, hid rfl⟩
        refine eQ (v := .int .i64 z1) (fun w k => qcmp_any _ _ _ _ w (k.q m2) (k.q m0) (scl_sum_lm (by omega) hsl.out) ((hfl.out.mul (LmQ.int (by omega) (by omega))).up (by decide)) (by decide)) ?_ (hv := by rw [hz1.out])
        refine eB (z1 == 0) (fun b6 hb6 => ?_)
        iterate 2 refine e0 ?_
        refine sxEnd (fun W27 hK => ?_)
        go_wp2
        try go_ret
        show Q0 (.returned (.bool b6)) _
        exact (by obtain rfl := hQ0.out; obtain rfl : b6 = true := (by rw [← hb6.out, ← hz1.out, scl_sum hv9.out]; simp [sgQ_self]); exact ⟨rfl, hK.old⟩)
      · --
       have q_b4 : ((m : Int)) < ((n10 : Int)) := of_decide_eq_true hb4.out
       have i28 : m < n10 := (by omega)
       obtain ⟨g28, rfl⟩ := hK.pt m0 i28
       have l28 : m < (sclL (((nm : Int) : Rat) / ((dn : Int) : Rat)) xs).length := Nat.lt_of_lt_of_eq i28 (hK.len m0)
       obtain ⟨x, ex⟩ : ∃ z0, RowKit.Hid ((sclL (((nm : Int) : Rat) / ((dn : Int) : Rat)) xs)[m]? = some z0) := ⟨_, hid (List.getElem?_eq_getElem l28)⟩
       have i29 : m < n15 := (by omega)
       obtain ⟨g29, rfl⟩ := hK.pt m1 i29
       have l29 : m < (sclL (((nm : Int) : Rat) / ((dn : Int) : Rat)) xs).length := Nat.lt_of_lt_of_eq i29 (hK.len m1)
       obtain ⟨y, ey⟩ : ∃ z0, RowKit.Hid ((sclL (((nm : Int) : Rat) / ((dn : Int) : Rat)) xs)[m]? = some z0) := ⟨_, hid (List.getElem?_eq_getElem l29)⟩
       obtain rfl : x = y := Option.some.inj (ex.out.symm.trans ey.out)
       obtain ⟨⟨⟨p30, l30, c30⟩, ⟨q30, u30, d30⟩⟩, hK⟩ := hK.toC ex.out
       go_upto_region 13 with (fail)
       refine wp_region_S _ [0, 0, 0, 0, 1, 0, 0, 0, 2, 1, 0] hK ?_ (List.Sublist.refl _)
       clear hK
       iterate 3 refine e0 ?_
       refine eRm0 (F := (rC 29 g28 n10 c10 (sclL (((nm : Int) : Rat) / ((dn : Int) : Rat)) xs) m ⟨⟨p30, l30, c30⟩, ⟨q30, u30, d30⟩⟩ x).F) (fun w k => k.get m0) (h1 := by intro w' k; obtain ⟨_, _, c0, c1, c2⟩ := k; (try simp at c0 c1 c2); go_simp; (try go_bits); exact ⟨rfl, rfl⟩) ?_
       refine eQ (fun w k => qtext_q _ _ w (k.q m1) ⟨hTb.below k.old, trivial⟩ (hsl.out _ (List.mem_of_getElem? ex.out)) (by decide)) ?_
       iterate 3 refine e0 ?_
       refine eRr m2 ex.out (fun x31 => ?_)
       obtain ⟨⟨p31, l31, c31⟩, ⟨q31, u31, d31⟩⟩ := x31; dsimp only
       refine eQ (fun w k => rtext_q _ _ w (k.rq m0) (hsl.out _ (List.mem_of_getElem? ex.out)) (by decide)) ?_
       refine eV (.bool false) (fun w' => by go_simp; (try go_bits); first | exact ⟨rfl, rfl⟩ | exact ⟨congrArg Value.bool (by simp), rfl⟩) ?_
       refine sxEnd (fun W32 hK => ?_)
       replace hK := hK.up1
       replace hK := hK.unC
       go_upto_region 12 with (fail)
       refine wp_region_T [0, 0, 0] hK ?_
       clear hK
       iterate 3 refine e0 ?_
       refine sxEnd (fun W33 hK => ?_)
       (try go_wp2)
       go_roundw
       case rel => exact ⟨m + 1, (by first | rfl | go_num), (by omega), (hK.subl (sK2 (sC2 (sC2 (List.Sublist.refl _)))))⟩
       case measure => simp [intOf] <;> omega
    · --
     go_wp2
     try go_ret
     show Q0 (.returned (.bool false)) _
     exact (by obtain rfl := hQ0.out; exact absurd hb3.out (by have q1 := hl1.out; have q2 := hl2.out; rw [q1, q2]; simp))
   · --
    go_wp2
    try go_ret
    show Q0 (.returned (.bool true)) _
    exact (by obtain rfl := hQ0.out; exact ⟨rfl, hK.old⟩)
  · --
   have q_b1 : 80 < ((n_h0 : Int)) := of_decide_eq_true hb1.out
   iterate 2 refine eN ?_
   refine e0 ?_
   refine sxEnd (fun W34 hK => ?_)
   go_wp2
   try go_ret
   show Q0 (.returned (.bool true)) _
   exact (by obtain rfl := hQ0.out; exact ⟨rfl, hK.old⟩)
end Go.Proofs.YtjhgkojbpgakcaaGreatDoor
