/- Demands: the laws of the text and of its reading. -/
import Derived.Test.YtjhgkojbpgakcaaDoorDmH
import Derived.Test.YtjhgkojbpgakcaaDoorDemX
import Derived.Test.YtjhgkojbpgakcaaDoorDemV
import Derived.Test.YtjhgkojbpgakcaaDoorDemB
namespace Go.Proofs.YtjhgkojbpgakcaaDoor
open Go.RowKit
open Go.Lib (decDigits)
theorem BasR.of {w w' : World} (h : BasR w) (hb : Below w.heap.size w w') : BasR w' := h.below hb
theorem textD_len (xs : List Dm) : (textD xs).length ≤ 5824 := by
  unfold textD
  split
  · rename_i h
    have := lns_bd h xs.length
    rwa [List.take_length] at this
  · simp
theorem prs_text {xs : List Dm} (h : vldD 64 xs = true) : prsL (textD xs) = xs ∧ prsE (textD xs) = 0 := prs_yes (prsR_text h)
theorem prs_back {s : List UInt8} (h : prsE s = 0) : textD (prsL s) = s := by
  cases e : prsR s with
  | none => rw [(prs_no e).2] at h; cases h
  | some xs =>
    rw [(prs_yes e).1]
    obtain ⟨hv, rfl⟩ := prsR_iff.1 e
    exact textD_t hv
theorem prsL_len (s : List UInt8) : (prsL s).length ≤ 100000 := by
  cases e : prsR s with
  | none => rw [(prs_no e).1]; simp
  | some xs =>
    rw [(prs_yes e).1]
    obtain ⟨hv, _⟩ := prsR_iff.1 e
    have := (vldD_iff.1 hv).2.2.1
    omega
set_option maxRecDepth 100000 in
set_option maxHeartbeats 400000 in
theorem demandText_any (w : World) {p_h0 : Option Addr} {n_h0 c_h0 : Nat} {xs : List Dm} (hh0 : SlV demK w (.slice p_h0 n_h0 c_h0) xs) (hBs : BasR w) (hTb : Tab w) :
    Calls Tryd.prog 3 #[.slice p_h0 n_h0 c_h0] w fun e w' => e = .returned (.bool true) ∧ Below w.heap.size w w' := by
  have hK := SS.start w
  have nx1 := Nat.le_of_eq hh0.one0; have nx2 := Nat.le_of_eq hh0.one0.symm
  refine Calls.hide (fun Q0 hQ0 => ?_)
  go_enter Tryd.func3, Tryd.ntmps3
  go_upto_region 1 with (fail)
  refine wp_region_T [1, 0] hK ?_
  clear hK
  refine eQ (fun w k => awake_any w (hTb.below k.old)) ?_
  refine e0 ?_
  refine sxEnd (fun W1 hK => ?_)
  go_upto_region 3 with (fail)
  refine wp_region_T [0, 0, 0] hK ?_
  clear hK
  iterate 2 refine e0 ?_
  refine eB (decide (80 < ((n_h0 : Int)))) (fun b1 hb1 => ?_)
  refine sxEnd (fun W2 hK => ?_)
  cases b1
  · --
   have q_b1 : ((n_h0 : Int)) ≤ 80 := Int.not_lt.1 (of_decide_eq_false hb1.out)
   have hx9 := textD_len xs; have hy9 := prsL_len (textD xs)
   go_upto_region 5 with (fail)
   refine wp_region_T [0, 1, 0] hK ?_
   clear hK
   refine e0 ?_
   refine eQ (fun w k => text_any _ xs w (hh0.below k.old) (hTb.below k.old) (by omega)) ?_
   refine e0 ?_
   refine sxEnd (fun W3 hK => ?_)
   go_upto_region 6 with (fail)
   refine wp_region_T [0, 0, 1, 0] hK ?_
   clear hK
   iterate 2 refine e0 ?_
   refine eQ (fun w k => rtext_any _ xs w (hh0.below k.old) (by omega)) ?_
   refine eV (.bool false) (fun w' => by go_simp; (try go_bits); first | exact ⟨rfl, rfl⟩ | exact ⟨congrArg Value.bool (by simp), rfl⟩) ?_
   refine sxEnd (fun W4 hK => ?_)
   go_upto_region 8 with (fail)
   refine wp_region_T [0, 2, 0, 0, 0, 0, 0] hK ?_
   clear hK
   refine e0 ?_
   refine eC (fun w k => parse_any w (textD xs) (Nat.le_trans (textD_len xs) (by decide)) (hBs.below k.old) (hTb.below k.old)) (fun x5 => ?_)
   obtain ⟨p6, n6, c6⟩ := x5; dsimp only
   iterate 5 refine e0 ?_
   refine sxEnd (fun W7 hK => ?_)
   go_upto_region 9 with (fail)
   refine wp_region_T [0, 1, 0, 0, 0, 0, 0, 0, 0, 1, 0, 0, 0] hK ?_
   clear hK
   refine e0 ?_
   obtain ⟨b2, hb2⟩ : ∃ z9 : Bool, RowKit.Hid (vldD 64 xs = z9) := ⟨_, hid rfl⟩
   refine eQ (v := .bool b2) (fun w k => rvalid_any _ 64 xs w (hh0.below k.old) (by omega)) ?_ (hv := by rw [hb2.out])
   iterate 2 refine e0 ?_
   cases b2
   · --
    iterate 3 refine eN ?_
    iterate 3 refine eU ?_
    refine eN ?_
    iterate 2 refine e0 ?_
    refine sxEnd (fun W8 hK => ?_)
    go_wp2
    try go_ret
    show Q0 (.returned (.bool true)) _
    exact (by obtain rfl := hQ0.out; exact ⟨rfl, hK.old⟩)
   · --
    have hp9 := prs_text hb2.out
    refine e0 ?_
    refine eB (((prsE (textD xs))) == 0) (fun b3 hb3 => ?_)
    refine e0 ?_
    cases b3
    · --
     iterate 3 refine eN ?_
     iterate 3 refine e0 ?_
     refine sxEnd (fun W9 hK => ?_)
     go_wp2
     try go_ret
     show Q0 (.returned (.bool false)) _
     exact (by obtain rfl := hQ0.out; exact absurd hp9.2 (by have q := hb3.out; simpa using q))
    · --
     iterate 2 refine e0 ?_
     obtain ⟨b4, hb4⟩ : ∃ z9 : Bool, RowKit.Hid (decide (prsL (textD xs) = xs) = z9) := ⟨_, hid rfl⟩
     refine eQ (v := .bool b4) (fun w k => same_any _ _ (prsL (textD xs)) xs w (k.slv m0) (hh0.below k.old) (by omega) (by omega)) ?_ (hv := by rw [hb4.out])
     iterate 3 refine e0 ?_
     refine sxEnd (fun W10 hK => ?_)
     go_wp2
     try go_ret
     show Q0 (.returned (.bool b4)) _
     exact (by obtain rfl := hQ0.out; obtain rfl : b4 = true := (by rw [← hb4.out, hp9.1]; simp); exact ⟨rfl, hK.old⟩)
  · --
   have q_b1 : 80 < ((n_h0 : Int)) := of_decide_eq_true hb1.out
   go_wp2
   try go_ret
   show Q0 (.returned (.bool true)) _
   exact (by obtain rfl := hQ0.out; exact ⟨rfl, hK.old⟩)
set_option maxRecDepth 100000 in
set_option maxHeartbeats 400000 in
theorem demandParse_any (w : World) (l : List UInt8) (hBs : BasR w) (hTb : Tab w) :
    Calls Tryd.prog 4 #[.string ⟨l.toArray⟩] w fun e w' => e = .returned (.bool true) ∧ Below w.heap.size w w' := by
  have hK := SS.start w
  refine Calls.hide (fun Q0 hQ0 => ?_)
  go_enter Tryd.func4, Tryd.ntmps4
  go_upto_region 1 with (fail)
  refine wp_region_T [1, 0] hK ?_
  clear hK
  refine eQ (fun w k => awake_any w (hTb.below k.old)) ?_
  refine e0 ?_
  refine sxEnd (fun W1 hK => ?_)
  go_upto_region 3 with (fail)
  refine wp_region_T [0, 0, 0] hK ?_
  clear hK
  iterate 2 refine e0 ?_
  refine eB (decide (600 < ((l.length : Int)))) (fun b1 hb1 => ?_)
  refine sxEnd (fun W2 hK => ?_)
  cases b1
  · --
   have q_b1 : ((l.length : Int)) ≤ 600 := Int.not_lt.1 (of_decide_eq_false hb1.out)
   have hy9 := prsL_len l
   go_upto_region 5 with (fail)
   refine wp_region_T [0, 2, 0, 0, 0, 0, 0] hK ?_
   clear hK
   refine e0 ?_
   refine eC (fun w k => parse_any w l (by omega) (hBs.below k.old) (hTb.below k.old)) (fun x3 => ?_)
   obtain ⟨p4, n4, c4⟩ := x3; dsimp only
   iterate 5 refine e0 ?_
   refine sxEnd (fun W5 hK => ?_)
   go_upto_region 6 with (fail)
   refine wp_region_T [0, 2, 0, 0, 0, 0, 0] hK ?_
   clear hK
   refine e0 ?_
   refine eC (fun w k => rparse_any w l (by omega)) (fun x6 => ?_)
   obtain ⟨p7, n7, c7⟩ := x6; dsimp only
   iterate 5 refine e0 ?_
   refine sxEnd (fun W8 hK => ?_)
   go_upto_region 7 with (fail)
   refine wp_region_T [0, 0, 0, 0, 0, 0, 1, 0, 0, 0, 0, 0, 0, 1, 0, 0, 0, 0, 0] hK ?_
   clear hK
   iterate 2 refine e0 ?_
   refine eV (.bool true) (fun w' => by go_simp; (try go_bits); first | exact ⟨rfl, rfl⟩ | exact ⟨congrArg Value.bool (by simp), rfl⟩) ?_
   iterate 3 refine e0 ?_
   obtain ⟨b2, hb2⟩ : ∃ z9 : Bool, RowKit.Hid (decide (prsL l = prsL l) = z9) := ⟨_, hid rfl⟩
   refine eQ (v := .bool b2) (fun w k => same_any _ _ (prsL l) (prsL l) w (k.slv m1) (k.slv m0) (by omega) (by omega)) ?_ (hv := by rw [hb2.out])
   iterate 2 refine e0 ?_
   cases b2
   · --
    iterate 3 refine eN ?_
    iterate 4 refine eU ?_
    refine eN ?_
    iterate 2 refine e0 ?_
    refine sxEnd (fun W9 hK => ?_)
    go_wp2
    try go_ret
    show Q0 (.returned (.bool false)) _
    exact (by obtain rfl := hQ0.out; exact absurd hb2.out (by simp))
   · --
    refine e0 ?_
    refine eB (((prsE l)) != 0) (fun b3 hb3 => ?_)
    refine e0 ?_
    cases b3
    · --
     refine e0 ?_
     refine eQ (fun w k => text_any _ (prsL l) w (k.slv m1) (hTb.below k.old) (by omega)) ?_
     refine e0 ?_
     obtain ⟨b4, hb4⟩ : ∃ z9 : Bool, RowKit.Hid ((decide (textD (prsL l) = l)) = z9) := ⟨_, hid rfl⟩
     refine eV (.bool b4) (fun w' => by go_simp; (try go_bits); exact ⟨congrArg Value.bool (by rw [← hb4.out]; simp [txl_nil, txl_eq]), rfl⟩) ?_
     iterate 3 refine e0 ?_
     refine sxEnd (fun W10 hK => ?_)
     go_wp2
     try go_ret
     show Q0 (.returned (.bool b4)) _
     exact (by obtain rfl := hQ0.out; obtain rfl : b4 = true := (by rw [← hb4.out, prs_back (by have q := hb3.out; simpa using q)]; simp); exact ⟨rfl, hK.old⟩)
    · --
     iterate 4 refine eN ?_
     iterate 3 refine e0 ?_
     refine sxEnd (fun W11 hK => ?_)
     go_wp2
     try go_ret
     show Q0 (.returned (.bool true)) _
     exact (by obtain rfl := hQ0.out; exact ⟨rfl, hK.old⟩)
  · --
   have q_b1 : 600 < ((l.length : Int)) := of_decide_eq_true hb1.out
   go_wp2
   try go_ret
   show Q0 (.returned (.bool true)) _
   exact (by obtain rfl := hQ0.out; exact ⟨rfl, hK.old⟩)
end Go.Proofs.YtjhgkojbpgakcaaDoor
