/- Demands: the reference's Parse. -/
import Derived.Test.YtjhgkojbpgakcaaDoorDmA
namespace Go.Proofs.YtjhgkojbpgakcaaDoor
open Go.RowKit
open Go.Lib (decDigits)
def prsL (s : List UInt8) : List Dm := (prsR s).getD []
def prsE (s : List UInt8) : Int := if (prsR s).isSome = true then 0 else 3
section
variable {s y : List UInt8} {xs : List Dm} {ps : List (List UInt8)} {m : Nat}
theorem txl_nil (x : List UInt8) : x.isEmpty = decide (x = []) := by cases x <;> rfl
theorem prs_no (h : prsR s = none) : prsL s = [] ∧ prsE s = 3 := by unfold prsL prsE; rw [h]; exact ⟨rfl, rfl⟩
theorem prs_yes (h : prsR s = some xs) : prsL s = xs ∧ prsE s = 0 := by unfold prsL prsE; rw [h]; exact ⟨rfl, rfl⟩
theorem lines_none (h : linesR (pieces 10 s) = none) : prsR s = none := by unfold prsR; rw [h]
theorem lines_some (h : linesR (pieces 10 s) = some xs) : prsR s = if vldD 64 xs = true then some xs else none := by unfold prsR; rw [h]
theorem linesR_end : ∀ {qs : List (List UInt8)} {xs : List Dm}, qs.map lineR = xs.map some → linesR (qs ++ [[]]) = some xs
  | [], [], _ => rfl
  | [], _ :: _, h => by cases h
  | _ :: _, [], h => by cases h
  | q :: qs, x :: xs, h => by
    rw [List.map_cons, List.map_cons] at h
    injection h with h1 h2
    have ih := linesR_end h2
    cases qs with
    | nil => show (match lineR q, linesR [[]] with | some x, some l => some (x :: l) | _, _ => none) = _; rw [h1]; rw [show linesR [[]] = some xs from ih]
    | cons q' qs => show (match lineR q, linesR (q' :: qs ++ [[]]) with | some x, some l => some (x :: l) | _, _ => none) = _; rw [h1, ih]
theorem linesR_last : ∀ {ps : List (List UInt8)} {y : List UInt8}, ps[ps.length - 1]? = some y → y ≠ [] → linesR ps = none
  | [], _, h, _ => by cases h
  | [a], y, h, hy => by cases h; exact if_neg hy
  | a :: b :: r, y, h, hy => by
    have e : (a :: b :: r).length - 1 = (b :: r).length - 1 + 1 := by simp
    rw [e, List.getElem?_cons_succ] at h
    have ih := linesR_last h hy
    rw [linesR, ih]
    cases lineR a <;> rfl
theorem linesR_bad : ∀ {ps : List (List UInt8)} {j : Nat} {y : List UInt8}, j + 1 < ps.length → ps[j]? = some y → lineR y = none → linesR ps = none
  | [], _, _, h, _, _ => absurd h (Nat.not_lt_zero _)
  | [_], j, _, h, _, _ => by simp at h
  | a :: b :: r, 0, y, _, hy, h => by cases hy; rw [linesR, h]
  | a :: b :: r, j + 1, y, hj, hy, h => by
    rw [List.getElem?_cons_succ] at hy
    have ih := linesR_bad (ps := b :: r) (j := j) (by simp at hj ⊢; omega) hy h
    rw [linesR, ih]
    cases lineR a <;> rfl
theorem lines_step (h : (ps.take m).map lineR = xs.map some) (hy : ps[m]? = some y) {x : Dm} (hx : lineR y = some x) : (ps.take (m + 1)).map lineR = (xs ++ [x]).map some := by
  rw [List.take_add_one, hy, List.map_append, List.map_append, h]
  simp [hx]
theorem lines_end (h : (ps.take m).map lineR = xs.map some) (hm : m + 1 = ps.length) {z : List UInt8} (hz : ps[ps.length - 1]? = some z) (he : z = []) : linesR ps = some xs := by
  have e : ps = ps.take m ++ [[]] := by
    conv => lhs; rw [← List.take_length (l := ps), ← hm, List.take_add_one, show ps[m]? = some [] from by rw [← he, ← hz, ← hm]; rfl]
    rfl
  rw [e]
  exact linesR_end h
theorem lineR_n5 (h : (pieces 32 y).length ≠ 5) : lineR y = none := by
  unfold lineR
  split
  · rename_i e; rw [e] at h; exact absurd rfl h
  · rfl
theorem lineR_5 {w0 w1 w2 w3 w4 : List UInt8} (hl : (pieces 32 y).length = 5) (h0 : (pieces 32 y)[0]? = some w0) (h1 : (pieces 32 y)[1]? = some w1) (h2 : (pieces 32 y)[2]? = some w2) (h3 : (pieces 32 y)[3]? = some w3) (h4 : (pieces 32 y)[4]? = some w4) (hw : w0 = dmB) : lineR y = some ⟨numB w1, numB w2, numB w3, numB w4⟩ := by
  unfold lineR
  match e : pieces 32 y, hl, h0, h1, h2, h3, h4 with
  | [a0, a1, a2, a3, a4], _, h0, h1, h2, h3, h4 => cases h0; cases h1; cases h2; cases h3; cases h4; exact if_pos hw
theorem lineR_w0 {w0 : List UInt8} (h0 : (pieces 32 y)[0]? = some w0) (hw : w0 ≠ dmB) : lineR y = none := by
  unfold lineR
  split
  · rename_i e; rw [e] at h0; cases h0; exact if_neg hw
  · rfl
theorem map_len (h : (ps.take m).map lineR = xs.map some) (hm : m ≤ ps.length) : xs.length = m := by
  have := congrArg List.length h
  rw [List.length_map, List.length_map, List.length_take] at this
  omega
end
set_option maxRecDepth 100000 in
set_option maxHeartbeats 2000000 in
theorem rparse_any (w : World) (l : List UInt8) (hl : l.length ≤ 90000) :
    Calls Tryd.prog 11 #[.string ⟨l.toArray⟩] w fun e w' => ∃ s9 : Sl, e = .returned (.tuple #[.slice s9.p s9.l s9.c, .int .i64 (prsE l)]) ∧ SS w [rO demK 33 s9.p s9.l s9.c (prsL l)] w' := by
  have hK := SS.start w
  refine Calls.hide (fun Q0 hQ0 => ?_)
  go_enter Tryd.func11, Tryd.ntmps11
  go_upto_region 1 with (fail)
  refine wp_region_T [0, 2, 0] hK ?_
  clear hK
  refine e0 ?_
  refine eC (fun w k => split_any w l 10 (by omega)) (fun x1 => ?_)
  obtain ⟨p2, n2, c2⟩ := x1; dsimp only
  refine e0 ?_
  refine sxEnd (fun W3 hK => ?_)
  have hpc := count_le 10 l; have hpp := pieces_pos 10 l; have hnl := hid (hK.len m0); have hn1 := Nat.le_of_eq hnl.out; have hn2 := Nat.le_of_eq hnl.out.symm; obtain ⟨j9, hj9⟩ : ∃ j : Nat, RowKit.Hid ((pieces 10 l).length - 1 = j) := ⟨_, hid rfl⟩; have hj6 : j9 + 1 ≤ (pieces 10 l).length := (by have q := hj9.out; omega); have hj7 : (pieces 10 l).length ≤ j9 + 1 := (by have q := hj9.out; omega)
  have i4 : j9 < n2 := (by omega)
  obtain ⟨g4, rfl⟩ := hK.pt m0 i4
  have l4 : j9 < (pieces 10 l).length := Nat.lt_of_lt_of_eq i4 (hK.len m0)
  obtain ⟨z, ez⟩ : ∃ z0, RowKit.Hid ((pieces 10 l)[j9]? = some z0) := ⟨_, hid (List.getElem?_eq_getElem l4)⟩
  have hz9 : RowKit.Hid ((pieces 10 l)[(pieces 10 l).length - 1]? = some z) := hid (by rw [hj9.out]; exact ez.out)
  go_upto_region 2 with (fail)
  refine wp_region_T [0, 0, 0, 0, 0, 1, 0] hK ?_
  clear hK
  iterate 3 refine e0 ?_
  refine eV (.int .i64 (j9 : Int)) (fun w' => by go_simp; (try go_bits); first | exact ⟨rfl, rfl⟩ | (refine ⟨congrArg _ ?_, rfl⟩; omega) | go_num) ?_
  refine e0 ?_
  refine eR (fun w k => (k.own m0).str ez.out) ?_
  obtain ⟨b1, hb1⟩ : ∃ z9 : Bool, RowKit.Hid ((!decide (z = ([] : List UInt8))) = z9) := ⟨_, hid rfl⟩
  refine eV (.bool b1) (fun w' => by go_simp; (try go_bits); exact ⟨congrArg Value.bool (by rw [← hb1.out]; simp [txl_nil, txl_eq]), rfl⟩) ?_
  refine sxEnd (fun W5 hK => ?_)
  cases b1
  · --
   have hze : RowKit.Hid (z = []) := hid (by have q := hb1.out; simpa using q)
   replace hK := hK.fact (rO demK 33 none 0 0 ([] : List Dm)) OwV.nil (fun _ h => by cases h)
   go_wp2_with fail
   go_loopw [5, 6] (fun s5 s6 wl => ∃ (p : Option Addr) (n : Nat) (kc : Nat) (m : Nat) (xs : List Dm), s5 = .slice p n kc ∧ s6 = .int .i64 (m : Int) ∧ (m ≤ j9) ∧ RowKit.Hid (((pieces 10 l).take m).map lineR = xs.map some) ∧ SS w ([rO demK 33 p n kc xs, rO strK 9 (some ⟨g4, 0, none⟩) n2 c2 (pieces 10 l)]) wl) (fun s5 s6 _ => j9 - (intOf s6).toNat)
   case atStart => exact ⟨none, 0, 0, 0, [], rfl, rfl, (by omega), hid rfl, hK⟩
   case round =>
    clear hK
    obtain ⟨p, n, kc, m, xs, rfl, rfl, hm0, h_l, hK⟩ := hrel
    generalize wr = W6 at hK ⊢
    go_upto_region 6 with (fail)
    refine wp_region_T [0, 0, 0, 0, 0] hK ?_
    clear hK
    iterate 3 refine e0 ?_
    refine eV (.int .i64 (j9 : Int)) (fun w' => by go_simp; (try go_bits); first | exact ⟨rfl, rfl⟩ | (refine ⟨congrArg _ ?_, rfl⟩; omega) | go_num) ?_
    refine eB (decide (((m : Int)) < ((j9 : Int)))) (fun b2 hb2 => ?_)
    refine sxEnd (fun W7 hK => ?_)
    cases b2
    · --
     have q_b2 : ((j9 : Int)) ≤ ((m : Int)) := Int.not_lt.1 (of_decide_eq_false hb2.out)
     have hxl := map_len h_l.out (by omega); have hxl1 := Nat.le_of_eq hxl; clear hxl
     go_upto_region 12 with (fail)
     refine wp_region_T [0, 1, 0] hK ?_
     clear hK
     refine e0 ?_
     obtain ⟨b3, hb3⟩ : ∃ z9 : Bool, RowKit.Hid (vldD 64 xs = z9) := ⟨_, hid rfl⟩
     refine eQ (v := .bool b3) (fun w k => rvalid_any _ 64 xs w (k.slv m0) (by omega)) ?_ (hv := by rw [hb3.out])
     refine e0 ?_
     refine sxEnd (fun W8 hK => ?_)
     cases b3
     · --
      replace hK := hK.fact (rO demK 33 none 0 0 ([] : List Dm)) OwV.nil (fun _ h => by cases h)
      replace hK := hK.subl (sK2 (sC2 (sC2 sZ2)))
      go_wp2
      try go_ret
      show Q0 (.returned (.tuple #[.slice none 0 0, .int .i64 3])) _
      exact (by obtain rfl := hQ0.out; have hp := prs_no ((lines_some (lines_end h_l.out (by omega) hz9.out hze.out)).trans (by rw [hb3.out]; rfl)); rw [hp.1, hp.2]; exact ⟨⟨none, 0, 0⟩, rfl, hK⟩)
     · --
      replace hK := hK.subl (sK2 (sC2 sZ2))
      go_wp2
      try go_ret
      show Q0 (.returned (.tuple #[.slice p n kc, .int .i64 0])) _
      exact (by obtain rfl := hQ0.out; have hp := prs_yes ((lines_some (lines_end h_l.out (by omega) hz9.out hze.out)).trans (by rw [hb3.out]; rfl)); rw [hp.1, hp.2]; exact ⟨⟨p, n, kc⟩, rfl, hK⟩)
    · --
     have q_b2 : ((m : Int)) < ((j9 : Int)) := of_decide_eq_true hb2.out
     have i9 : m < n2 := (by omega)
     have l9 : m < (pieces 10 l).length := Nat.lt_of_lt_of_eq i9 (hK.len m1)
     obtain ⟨y, ey⟩ : ∃ z0, RowKit.Hid ((pieces 10 l)[m]? = some z0) := ⟨_, hid (List.getElem?_eq_getElem l9)⟩
     have hyl := pieces_mem_len (List.mem_of_getElem? ey.out); have hxl := map_len h_l.out (by omega); have hxl1 := Nat.le_of_eq hxl; clear hxl
     go_upto_region 8 with (fail)
     refine wp_region_T [0, 0, 0, 1, 2, 0] hK ?_
     clear hK
     iterate 3 refine e0 ?_
     refine eR (fun w k => (k.own m1).str ey.out) ?_
     refine eC (fun w k => split_any w y 32 (by omega)) (fun x10 => ?_)
     obtain ⟨p11, n11, c11⟩ := x10; dsimp only
     refine e0 ?_
     refine sxEnd (fun W12 hK => ?_)
     have hwc := count_le 32 y; have hwp := pieces_pos 32 y; have hwl := hid (hK.len m0); have hw1 := Nat.le_of_eq hwl.out; have hw2 := Nat.le_of_eq hwl.out.symm
     have i13 : 0 < n11 := (by omega)
     obtain ⟨g13, rfl⟩ := hK.pt m0 i13
     have l13 : 0 < (pieces 32 y).length := Nat.lt_of_lt_of_eq i13 (hK.len m0)
     obtain ⟨w0, ew0⟩ : ∃ z0, RowKit.Hid ((pieces 32 y)[0]? = some z0) := ⟨_, hid (List.getElem?_eq_getElem l13)⟩
     go_upto_region 9 with (fail)
     refine wp_region_T [0, 0, 0, 0, 0, 0, 1, 0, 0] hK ?_
     clear hK
     iterate 2 refine e0 ?_
     refine eB (((n11 : Int)) != 5) (fun b3 hb3 => ?_)
     refine e0 ?_
     cases b3
     · --
      iterate 2 refine e0 ?_
      refine eR (fun w k => (k.own m0).str ew0.out) ?_
      obtain ⟨b4, hb4⟩ : ∃ z9 : Bool, RowKit.Hid ((!decide (w0 = ([100, 101, 109, 97, 110, 100] : List UInt8))) = z9) := ⟨_, hid rfl⟩
      refine eV (.bool b4) (fun w' => by go_simp; (try go_bits); exact ⟨congrArg Value.bool (by rw [← hb4.out]; simp [txl_nil, txl_eq]), rfl⟩) ?_
      refine e0 ?_
      refine sxEnd (fun W14 hK => ?_)
      cases b4
      · --
       have hw5 : (pieces 32 y).length = 5 := (by have q := hb3.out; simp at q; omega); replace hw5 := hid hw5; have hw6 := Nat.le_of_eq hw5.out; have hw7 := Nat.le_of_eq hw5.out.symm; have hwd : RowKit.Hid (w0 = dmB) := hid (by have q := hb4.out; simpa [dmB] using q)
       have i15 : 1 < n11 := (by omega)
       have l15 : 1 < (pieces 32 y).length := Nat.lt_of_lt_of_eq i15 (hK.len m0)
       obtain ⟨w1, ew1⟩ : ∃ z0, RowKit.Hid ((pieces 32 y)[1]? = some z0) := ⟨_, hid (List.getElem?_eq_getElem l15)⟩
       have hw1l := pieces_mem_len (List.mem_of_getElem? ew1.out)
       have i16 : 2 < n11 := (by omega)
       have l16 : 2 < (pieces 32 y).length := Nat.lt_of_lt_of_eq i16 (hK.len m0)
       obtain ⟨w2, ew2⟩ : ∃ z0, RowKit.Hid ((pieces 32 y)[2]? = some z0) := ⟨_, hid (List.getElem?_eq_getElem l16)⟩
       have hw2l := pieces_mem_len (List.mem_of_getElem? ew2.out)
       have i17 : 3 < n11 := (by omega)
       have l17 : 3 < (pieces 32 y).length := Nat.lt_of_lt_of_eq i17 (hK.len m0)
       obtain ⟨w3, ew3⟩ : ∃ z0, RowKit.Hid ((pieces 32 y)[3]? = some z0) := ⟨_, hid (List.getElem?_eq_getElem l17)⟩
       have hw3l := pieces_mem_len (List.mem_of_getElem? ew3.out)
       have i18 : 4 < n11 := (by omega)
       have l18 : 4 < (pieces 32 y).length := Nat.lt_of_lt_of_eq i18 (hK.len m0)
       obtain ⟨w4, ew4⟩ : ∃ z0, RowKit.Hid ((pieces 32 y)[4]? = some z0) := ⟨_, hid (List.getElem?_eq_getElem l18)⟩
       have hw4l := pieces_mem_len (List.mem_of_getElem? ew4.out)
       have hlr := hid (lineR_5 hw5.out ew0.out ew1.out ew2.out ew3.out ew4.out hwd.out)
       go_upto_region 11 with (fail)
       refine wp_region_S _ [0, 0, 0, 0, 1, 0, 0, 0, 1, 0, 0, 0, 1, 0, 0, 0, 1, 0, 3, 5, 0] hK ?_ (sK2 (sC2 (List.Sublist.refl _)))
       clear hK
       iterate 3 refine e0 ?_
       refine eR0 (fun w k => (k.own m0).str ew1.out) ?_
       refine eQ (fun w k => num_any w w1 (by omega)) ?_
       iterate 2 refine e0 ?_
       refine eR0 (fun w k => (k.own m0).str ew2.out) ?_
       refine eQ (fun w k => num_any w w2 (by omega)) ?_
       iterate 2 refine e0 ?_
       refine eR0 (fun w k => (k.own m0).str ew3.out) ?_
       refine eQ (fun w k => num_any w w3 (by omega)) ?_
       iterate 2 refine e0 ?_
       refine eR0 (fun w k => (k.own m0).str ew4.out) ?_
       refine eQ (fun w k => num_any w w4 (by omega)) ?_
       refine e0 ?_
       refine eA (.cells #[.int .i64 (numB w1), .int .i64 (numB w2), .int .i64 (numB w3), .int .i64 (numB w4)] 33) (fun R19 => ?_)
       refine eApp 2 demK_free rfl infoDm (fun w k => k.one1 (K := demK) (x := ⟨(numB w1), (numB w2), (numB w3), (numB w4)⟩) m0 rfl) (by simp; omega) (fun x20 => ?_) (hs := fun _ => (sC2 (sK2 (sC2 (List.Sublist.refl _)))))
       obtain ⟨p20, n20, c20⟩ := x20; dsimp only
       refine e0 ?_
       refine sxEnd (fun W21 hK => ?_)
       (try go_wp2)
       go_roundw
       case rel => exact ⟨p20, n20, c20, m + 1, xs ++ [⟨(numB w1), (numB w2), (numB w3), (numB w4)⟩], (by first | rfl | go_num), (by first | rfl | go_num), (by omega), hid (lines_step h_l.out ey.out hlr.out), (hK.subl (sC2 (sC2 (List.Sublist.refl _))))⟩
       case measure => simp [intOf] <;> omega
      · --
       replace hK := hK.fact (rO demK 33 none 0 0 ([] : List Dm)) OwV.nil (fun _ h => by cases h)
       replace hK := hK.subl (sK2 (sC2 (sC2 (sC2 sZ2))))
       go_wp2
       try go_ret
       show Q0 (.returned (.tuple #[.slice none 0 0, .int .i64 3])) _
       exact (by obtain rfl := hQ0.out; have hp := prs_no (lines_none (linesR_bad (by omega) ey.out (lineR_w0 ew0.out (by have q := hb4.out; simpa [dmB] using q)))); rw [hp.1, hp.2]; exact ⟨⟨none, 0, 0⟩, rfl, hK⟩)
     · --
      iterate 4 refine eN ?_
      refine e0 ?_
      refine sxEnd (fun W22 hK => ?_)
      replace hK := hK.fact (rO demK 33 none 0 0 ([] : List Dm)) OwV.nil (fun _ h => by cases h)
      replace hK := hK.subl (sK2 (sC2 (sC2 (sC2 sZ2))))
      go_wp2
      try go_ret
      show Q0 (.returned (.tuple #[.slice none 0 0, .int .i64 3])) _
      exact (by obtain rfl := hQ0.out; have hp := prs_no (lines_none (linesR_bad (by omega) ey.out (lineR_n5 (by have q := hb3.out; simp at q; omega)))); rw [hp.1, hp.2]; exact ⟨⟨none, 0, 0⟩, rfl, hK⟩)
  · --
   replace hK := hK.fact (rO demK 33 none 0 0 ([] : List Dm)) OwV.nil (fun _ h => by cases h)
   replace hK := hK.subl (sK2 (sC2 sZ2))
   go_wp2
   try go_ret
   show Q0 (.returned (.tuple #[.slice none 0 0, .int .i64 3])) _
   exact (by obtain rfl := hQ0.out; have hp := prs_no (lines_none (linesR_last hz9.out (by have q := hb1.out; simpa using q))); rw [hp.1, hp.2]; exact ⟨⟨none, 0, 0⟩, rfl, hK⟩)
end Go.Proofs.YtjhgkojbpgakcaaDoor
