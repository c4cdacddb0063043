/- What a node assumes to have failed. -/
import Derived.Test.YtmcfomainmppdaaGreatDoorFWqB
import Derived.LoopN
namespace Go.Proofs.YtmcfomainmppdaaGreatDoor
open Go.RowKit
open Go.Lib (decDigits)
theorem from_ok (w : World) {v_t : Value} {t : TopD} (ht : TopV w v_t t) {p_d : Option Addr} {n_d c_d : Nat} {down : List Bool} (hd : SlV boolK w (.slice p_d n_d c_d) down) (d : Nat) (hl : t.links.length ≤ 100000) (hc : chkD t down [(d : Int)] = 0) :
    Calls Tryz.prog 129 #[v_t, .slice p_d n_d c_d, .int .i64 (d : Int)] w fun e w' => ∃ x : Sl, e = .returned (.tuple #[.slice x.p x.l x.c, .int .i64 0]) ∧ SS w [rO intK 3 x.p x.l x.c (frmD t down d), cF (IsFrm t down d (frmD t down d))] w' := by
  refine (from_any w ht hd (d : Int) hl).mono ?_
  rintro e w' ⟨x, rfl, h⟩
  rw [hc]
  rw [frmR_ok hc] at h
  have h2 : SS w (cF (chkD t down [(d : Int)] = 0 → IsFrm t down (d : Int).toNat (frmD t down (d : Int).toNat)) :: [rO intK 3 x.p x.l x.c (frmD t down d)]) w' := h.up1
  exact ⟨x, rfl, ((h.subl (sK2 (sC2 sZ2))).fact (cF (IsFrm t down d (frmD t down d))) (h.get m1 hc)).up1⟩
def asmV (l1 h1 : Nat) (F : List Int) (d1 : Nat) : CmpD := if d1 ≠ h1 ∧ 0 ≤ atD F d1 then ⟨2, (h1 : Int)⟩ else ⟨1, (l1 : Int)⟩
theorem asmV_t {l1 h1 d1 : Nat} {F : List Int} (h : (decide (d1 ≠ h1) && decide (0 ≤ atD F d1)) = true) : asmV l1 h1 F d1 = ⟨2, (h1 : Int)⟩ := by
  rw [Bool.and_eq_true, decide_eq_true_eq, decide_eq_true_eq] at h
  exact if_pos h
theorem asmV_f {l1 h1 d1 : Nat} {F : List Int} (h : (decide (d1 ≠ h1) && decide (0 ≤ atD F d1)) = false) : asmV l1 h1 F d1 = ⟨1, (l1 : Int)⟩ := by
  refine if_neg fun q => ?_
  rw [decide_eq_true q.1, decide_eq_true q.2] at h
  cases h
set_option maxRecDepth 100000 in
theorem reach1_any (w : World) {t : TopD} {p_t : Option Addr} {n_t c_t : Nat} {q_t : Option Addr} {m_t d_t : Nat} (ht : TopV w (.agg #[.int .i64 t.nodes, .slice p_t n_t c_t, .slice q_t m_t d_t]) t) {n1 Rt Rn : Nat} (hbt : Has 0 Rt (.cells #[.int .i64 t.nodes, .slice p_t n_t c_t, .slice q_t m_t d_t] 25) w)(hbn : Has 0 Rn (.cells #[.int .i64 (n1 : Int)] 3) w) {c : CmpD} (hl : t.links.length ≤ 100000) (ht2 : topOk t = true) (hwc : winB t c = true) (hn1 : n1 < nN t) :
    Calls Tryz.prog 128 #[.agg #[.int .i64 c.k, .int .i64 c.n], .pointer (some ⟨Rt, 0, none⟩), .pointer (some ⟨Rn, 0, none⟩)] w fun e w' => ∃ x : Sl, e = .returned (.slice x.p x.l x.c) ∧ SS w [rO intK 3 x.p x.l x.c (frmD t (mskD t c) n1), cF (IsFrm t (mskD t c) n1 (frmD t (mskD t c) n1))] w' := by
  have hK := SS.start w
  refine Calls.hide (fun Q0 hQ0 => ?_)
  go_enter Tryz.func128, Tryz.ntmps128
  go_upto_region 0 with (fail)
  refine wp_region_T [3, 0] hK ?_
  clear hK
  refine eA (.cells #[.int .i64 c.k, .int .i64 c.n] 44) (fun R1 => ?_)
  refine e0 ?_
  refine sxEnd (fun W2 hK => ?_)
  go_upto_region 1 with (fail)
  refine wp_region_T [0, 1, 2, 0, 0, 0, 0, 0] hK ?_
  clear hK
  refine eX0 (fun w k => hbt.below k.old) ?_
  refine eL m0 ?_
  refine eC (fun w k => mask_any w (ht.below k.old) (c := c) hl ht2 hwc) (fun x3 => ?_)
  obtain ⟨p4, n4, c4⟩ := x3; dsimp only
  iterate 5 refine e0 ?_
  refine sxEnd (fun W5 hK => ?_)
  go_upto_region 2 with (fail)
  refine wp_region_T [0, 0, 0, 2, 0, 0, 0, 0, 0] hK ?_
  clear hK
  refine eX0 (fun w k => hbt.below k.old) ?_
  refine e0 ?_
  refine eX0 (fun w k => hbn.below k.old) ?_
  refine eC (fun w k => from_ok w (ht.below k.old) (k.slv m0) n1 hl (chk_of ht2 (.inr mskD_len) hn1)) (fun x6 => ?_)
  obtain ⟨p7, n7, c7⟩ := x6; dsimp only
  iterate 5 refine e0 ?_
  refine sxEnd (fun W8 hK => ?_)
  replace hK := hK.subl (sK2 (sK2 (sC2 (sC2 sZ2))))
  go_wp2
  try go_ret
  show Q0 (.returned (.slice p7 n7 c7)) _
  exact (by obtain rfl := hQ0.out; exact ⟨⟨p7, n7, c7⟩, rfl, hK⟩)
set_option maxRecDepth 100000 in
theorem rule2_any (w : World) (d1 : Nat) {R7 : Nat} {R11 : Nat} (h7 : Has 0 R7 (.cells #[.int .i64 3, .int .i64 0] 44) w) :
    Calls Tryz.prog 130 #[.int .i64 (d1 : Int), .pointer (some ⟨R7, 0, none⟩), .pointer (some ⟨R11, 0, none⟩)] w fun e w' => e = .returned (.tuple #[.agg #[.int .i64 3, .int .i64 0], .bool false]) ∧ Below w.heap.size w w' := by
  have hK := SS.start w
  refine Calls.hide (fun Q0 hQ0 => ?_)
  go_enter Tryz.func130, Tryz.ntmps130
  go_upto_region 0 with (fail)
  refine wp_region_T [3, 0] hK ?_
  clear hK
  refine eA (.cells #[.int .i64 0, .int .i64 0] 44) (fun R1 => ?_)
  refine e0 ?_
  refine sxEnd (fun W2 hK => ?_)
  go_upto_region 1 with (fail)
  refine wp_region_S _ [0, 0, 0, 0, 0, 0, 0, 0, 0, 0, 0, 4, 0] hK ?_ (sC2 sZ2)
  clear hK
  refine eX0 (fun w k => h7.below k.old) ?_
  refine e0 ?_
  refine eX0 (fun w k => h7.below k.old) ?_
  refine eV (.bool false) (fun w' => by go_simp; (try go_bits); exact ⟨rfl, rfl⟩) ?_
  refine e0 ?_
  iterate 5 refine eN ?_
  refine e0 ?_
  refine eP 0 0 [.int .i64 3, .int .i64 0] ?_ (hs := (sC2 sZ2))
  refine e0 ?_
  refine sxEnd (fun W3 hK => ?_)
  have ⟨c90, c91⟩ := (hK.box m0).c2
  go_wp2
  exact bodyPost_ret (v := .tuple #[.agg #[.int .i64 3, .int .i64 0], .bool false]) (by simp [results, Tryz.results130, go_sem, c90, c91]) rfl (by obtain rfl := hQ0.out; exact ⟨rfl, hK.old⟩)
set_option maxRecDepth 100000 in
theorem rule3_any (w : World) (d1 : Nat) {R8 : Nat} {R6 : Nat} {R12 : Nat} {h1 : Nat} {p_F : Option Addr} {n_F c_F : Nat} {F : List Int} (h8 : Has 0 R8 (.cells #[.int .i64 2, .int .i64 (h1 : Int)] 44) w)(h6 : Has 0 R6 (.cells #[.int .i64 (h1 : Int)] 3) w)(h12 : Has 0 R12 (.cells #[.slice p_F n_F c_F] 29) w)(hF : SlV intK w (.slice p_F n_F c_F) F) (hFl : d1 < F.length) :
    Calls Tryz.prog 131 #[.int .i64 (d1 : Int), .pointer (some ⟨R8, 0, none⟩), .pointer (some ⟨R6, 0, none⟩), .pointer (some ⟨R12, 0, none⟩)] w fun e w' => e = .returned (.tuple #[.agg #[.int .i64 2, .int .i64 (h1 : Int)], .bool (decide (d1 ≠ h1) && decide (0 ≤ atD F d1))]) ∧ Below w.heap.size w w' := by
  have hK := SS.start w
  refine Calls.hide (fun Q0 hQ0 => ?_)
  go_enter Tryz.func131, Tryz.ntmps131
  go_upto_region 0 with (fail)
  refine wp_region_T [3, 0] hK ?_
  clear hK
  refine eA (.cells #[.int .i64 0, .int .i64 0] 44) (fun R1 => ?_)
  refine e0 ?_
  refine sxEnd (fun W2 hK => ?_)
  have i3 : d1 < n_F := (by have q := hF.one0; omega)
  obtain ⟨g3, o3, rfl⟩ := hF.pt i3
  have l3 : d1 < F.length := Nat.lt_of_lt_of_eq i3 (hF.one0)
  obtain ⟨D, eD⟩ : ∃ z0, RowKit.Hid (F[d1]? = some z0) := ⟨_, hid (List.getElem?_eq_getElem l3)⟩
  go_upto_region 1 with (fail)
  refine wp_region_S _ [0, 0, 0, 0, 0, 0, 0, 0, 0, 0, 0, 4, 0] hK ?_ (sC2 sZ2)
  clear hK
  refine eX0 (fun w k => h8.below k.old) ?_
  refine e0 ?_
  refine eX0 (fun w k => h6.below k.old) ?_
  refine eB (((d1 : Int)) != ((h1 : Int))) (fun b1 hb1 => ?_)
  refine e0 ?_
  cases b1
  · --
   iterate 5 refine eN ?_
   refine e0 ?_
   refine eP 0 0 [.int .i64 2, .int .i64 (h1 : Int)] ?_ (hs := (sC2 sZ2))
   refine e0 ?_
   refine sxEnd (fun W4 hK => ?_)
   have ⟨c90, c91⟩ := (hK.box m0).c2
   go_wp2
   exact bodyPost_ret (v := .tuple #[.agg #[.int .i64 2, .int .i64 (h1 : Int)], .bool false]) (by simp [results, Tryz.results131, go_sem, c90, c91]) rfl (by obtain rfl := hQ0.out; exact ⟨congrArg (fun z => Ending.returned (.tuple #[.agg #[.int .i64 2, .int .i64 (h1 : Int)], .bool z])) (show _ = (decide (d1 ≠ h1) && decide (0 ≤ atD F d1)) from by have q := hb1.out; rw [decide_eq_false (by simp at q; omega), Bool.false_and]), hK.old⟩)
  · --
   refine eX0 (fun w k => h12.below k.old) ?_
   iterate 2 refine e0 ?_
   refine eR0 (fun w k => (hF.below k.old).int eD.out) ?_
   refine eB (decide (0 ≤ D)) (fun b2 hb2 => ?_)
   refine e0 ?_
   refine eP 0 0 [.int .i64 2, .int .i64 (h1 : Int)] ?_ (hs := (sC2 sZ2))
   refine e0 ?_
   refine sxEnd (fun W5 hK => ?_)
   have ⟨c90, c91⟩ := (hK.box m0).c2
   go_wp2
   exact bodyPost_ret (v := .tuple #[.agg #[.int .i64 2, .int .i64 (h1 : Int)], .bool b2]) (by simp [results, Tryz.results131, go_sem, c90, c91]) rfl (by obtain rfl := hQ0.out; exact ⟨congrArg (fun z => Ending.returned (.tuple #[.agg #[.int .i64 2, .int .i64 (h1 : Int)], .bool z])) (show _ = (decide (d1 ≠ h1) && decide (0 ≤ atD F d1)) from by have q := hb1.out; rw [decide_eq_true (by simp at q; omega), Bool.true_and, atD_of eD.out]; exact hb2.out.symm), hK.old⟩)
set_option maxRecDepth 100000 in
set_option maxHeartbeats 400000 in
theorem assume4_any (w : World) (d1 : Nat) {R13 : Nat} {R9 : Nat} {Rr R7 R11 R8 R6 R12 l1 h1 : Nat} {p_F : Option Addr} {n_F c_F : Nat} {F : List Int} (h13 : Has 0 R13 (.cells #[.slice (some ⟨Rr, 0, none⟩) 2 2] 176) w)(hr : Has 0 Rr (.cells #[.func (.func 130) #[] #[.pointer (some ⟨R7, 0, none⟩), .pointer (some ⟨R11, 0, none⟩)], .func (.func 131) #[] #[.pointer (some ⟨R8, 0, none⟩), .pointer (some ⟨R6, 0, none⟩), .pointer (some ⟨R12, 0, none⟩)]] 175) w)(h9 : Has 0 R9 (.cells #[.int .i64 1, .int .i64 (l1 : Int)] 44) w)(h7 : Has 0 R7 (.cells #[.int .i64 3, .int .i64 0] 44) w)(h8 : Has 0 R8 (.cells #[.int .i64 2, .int .i64 (h1 : Int)] 44) w)(h6 : Has 0 R6 (.cells #[.int .i64 (h1 : Int)] 3) w)(h12 : Has 0 R12 (.cells #[.slice p_F n_F c_F] 29) w)(hF : SlV intK w (.slice p_F n_F c_F) F) (hFl : d1 < F.length) :
    Calls Tryz.prog 132 #[.int .i64 (d1 : Int), .pointer (some ⟨R13, 0, none⟩), .pointer (some ⟨R9, 0, none⟩)] w fun e w' => e = .returned (.agg #[.int .i64 (asmV l1 h1 F d1).k, .int .i64 (asmV l1 h1 F d1).n]) ∧ Below w.heap.size w w' := by
  have hK := SS.start w
  refine Calls.hide (fun Q0 hQ0 => ?_)
  go_enter Tryz.func132, Tryz.ntmps132
  go_upto_region 0 with (fail)
  refine wp_region_T [3] hK ?_
  clear hK
  refine eA (.cells #[.int .i64 0, .int .i64 0] 44) (fun R1 => ?_)
  refine sxEnd (fun W2 hK => ?_)
  go_upto_region 1 with (fail)
  refine wp_region_T [0, 0, 0] hK ?_
  clear hK
  refine eX0 (fun w k => h13.below k.old) ?_
  iterate 2 refine e0 ?_
  refine sxEnd (fun W3 hK => ?_)
  go_wp2_with fail
  refine wp_loop_rounds 3 ?_
  simp only [Code.rounds]
  go_upto_region 2 with (fail)
  refine wp_region_T [0] hK ?_
  clear hK
  refine eV (.bool true) (fun w' => by go_simp; (try go_bits); exact ⟨rfl, rfl⟩) ?_
  refine sxEnd (fun W4 hK => ?_)
  go_upto_region 3 with (fail)
  refine wp_region_T [0, 0, 0] hK ?_
  clear hK
  refine e0 ?_
  refine eX0 (fun w k => hr.below k.old) ?_
  refine e0 ?_
  refine sxEnd (fun W5 hK => ?_)
  go_upto_region 4 with (fail)
  refine wp_region_T [0, 0, 1, 0, 0, 0, 3, 4, 0] hK ?_
  clear hK
  iterate 2 refine e0 ?_
  refine eQ (fun w k => rule2_any w d1 (h7.below k.old)) ?_
  iterate 3 refine e0 ?_
  refine eA (.cells #[.int .i64 0, .int .i64 0] 44) (fun R6 => ?_)
  refine eP 0 0 [.int .i64 3, .int .i64 0] ?_
  refine e0 ?_
  refine sxEnd (fun W7 hK => ?_)
  go_upto_region 7 with (fail)
  refine wp_region_T [0, 0] hK ?_
  clear hK
  refine eV (.int .i64 1) (fun w' => by go_simp; (try go_bits); exact ⟨rfl, rfl⟩) ?_
  refine e0 ?_
  refine sxEnd (fun W8 hK => ?_)
  go_upto_region 2 with (fail)
  refine wp_region_T [0] hK ?_
  clear hK
  refine eV (.bool true) (fun w' => by go_simp; (try go_bits); exact ⟨rfl, rfl⟩) ?_
  refine sxEnd (fun W9 hK => ?_)
  go_upto_region 3 with (fail)
  refine wp_region_T [0, 0, 0] hK ?_
  clear hK
  refine e0 ?_
  refine eX0 (fun w k => hr.below k.old) ?_
  refine e0 ?_
  refine sxEnd (fun W10 hK => ?_)
  go_upto_region 4 with (fail)
  refine wp_region_T [0, 0, 1, 0, 0, 0, 3, 4, 0] hK ?_
  clear hK
  iterate 2 refine e0 ?_
  obtain ⟨b1, hb1⟩ : ∃ z9 : Bool, RowKit.Hid ((decide (d1 ≠ h1) && decide (0 ≤ atD F d1)) = z9) := ⟨_, hid rfl⟩
  refine eQ (v := .tuple #[.agg #[.int .i64 2, .int .i64 (h1 : Int)], .bool b1]) (fun w k => rule3_any w d1 (h8.below k.old) (h6.below k.old) (h12.below k.old) (hF.below k.old) hFl) ?_ (hv := by rw [hb1.out])
  iterate 3 refine e0 ?_
  refine eA (.cells #[.int .i64 0, .int .i64 0] 44) (fun R11 => ?_)
  refine eP 0 0 [.int .i64 2, .int .i64 (h1 : Int)] ?_
  refine e0 ?_
  refine sxEnd (fun W12 hK => ?_)
  cases b1
  · --
   go_upto_region 7 with (fail)
   refine wp_region_T [0, 0] hK ?_
   clear hK
   refine eV (.int .i64 2) (fun w' => by go_simp; (try go_bits); exact ⟨rfl, rfl⟩) ?_
   refine e0 ?_
   refine sxEnd (fun W13 hK => ?_)
   go_upto_region 2 with (fail)
   refine wp_region_T [0] hK ?_
   clear hK
   refine eV (.bool false) (fun w' => by go_simp; (try go_bits); exact ⟨rfl, rfl⟩) ?_
   refine sxEnd (fun W14 hK => ?_)
   go_upto_region 8 with (fail)
   refine wp_region_T [0, 4] hK ?_
   clear hK
   refine eX0 (fun w k => h9.below k.old) ?_
   refine eP 2 0 [.int .i64 1, .int .i64 (l1 : Int)] ?_
   refine sxEnd (fun W15 hK => ?_)
   have ⟨c90, c91⟩ := (hK.box m2).c2
   go_wp2
   exact bodyPost_ret (v := .agg #[.int .i64 1, .int .i64 (l1 : Int)]) (by simp [results, Tryz.results132, go_sem, c90, c91]) rfl (by obtain rfl := hQ0.out; rw [asmV_f hb1.out]; exact ⟨rfl, hK.old⟩)
  · --
   go_upto_region 6 with (fail)
   refine wp_region_T [1, 4] hK ?_
   clear hK
   refine eL m0 ?_
   refine eP 2 0 [.int .i64 2, .int .i64 (h1 : Int)] ?_
   refine sxEnd (fun W16 hK => ?_)
   have ⟨c90, c91⟩ := (hK.box m2).c2
   go_wp2
   exact bodyPost_ret (v := .agg #[.int .i64 2, .int .i64 (h1 : Int)]) (by simp [results, Tryz.results132, go_sem, c90, c91]) rfl (by obtain rfl := hQ0.out; rw [asmV_t hb1.out]; exact ⟨rfl, hK.old⟩)
end Go.Proofs.YtmcfomainmppdaaGreatDoor
