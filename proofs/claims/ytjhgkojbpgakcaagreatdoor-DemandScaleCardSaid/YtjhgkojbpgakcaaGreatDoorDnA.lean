/- Demands: Scale of the program and of the reference. -/
import Derived.Test.YtjhgkojbpgakcaaGreatDoorDnK
import Derived.Test.YtjhgkojbpgakcaaGreatDoorDemK
namespace Go.Proofs.YtjhgkojbpgakcaaGreatDoor
open Go.RowKit
open Go.Lib (decDigits)
theorem SlV.dmc {w : World} {g o n c i : Nat} {xs : List Dm} {x : Dm} (h : SlV demK w (.slice (some ⟨g, o, none⟩) n c) xs) (hx : xs[i]? = some x) (j : Nat) {u : Value} (hu : (dmC x)[j]? = some u) : w.cell? ⟨g, o + i * 4 + j, none⟩ = some u := h.cel (f := dmC) (fun e => e) hx j hu
theorem SlV.dmc0 {w : World} {g o n c i : Nat} {xs : List Dm} {x : Dm} (h : SlV demK w (.slice (some ⟨g, o, none⟩) n c) xs) (hx : xs[i]? = some x) {u : Value} (hu : (dmC x)[0]? = some u) : w.cell? ⟨g, o + i * 4, none⟩ = some u := h.dmc hx 0 hu
def sclL (f : Rat) (xs : List Dm) : List Rat := xs.map fun d => ((d.a : Int) : Rat) * f
theorem scl_len (f : Rat) (xs : List Dm) : (sclL f xs).length = xs.length := by simp [sclL]
theorem take_len {α : Type} {l : List α} {m : Nat} (h : m ≤ l.length) : (l.take m).length = m := by rw [List.length_take]; omega
theorem scl_snoc {f : Rat} {xs : List Dm} {m : Nat} {x : Dm} (h : xs[m]? = some x) : sclL f (xs.take m) ++ [((x.a : Int) : Rat) * f] = sclL f (xs.take (m + 1)) := by
  rw [List.take_add_one, h]; unfold sclL; simp
set_option maxRecDepth 100000 in
set_option maxHeartbeats 400000 in
theorem scale_any (w : World) {f : Rat} {p_h0 : Option Addr} {n_h0 c_h0 : Nat} {xs : List Dm} (hh0 : SlV demK w (.slice p_h0 n_h0 c_h0) xs) {pf qf : Option Addr} {lf cf uf df : Nat} (hf : RatV w (.agg #[.bool (isN f), .slice pf lf cf, .slice qf uf df]) f) (hfl : LmQ 4 f) (hr : ∀ d ∈ xs, -9223372036854775808 ≤ d.a ∧ d.a ≤ 9223372036854775807) (hn : xs.length ≤ 100000) :
    Calls Tryz.prog 6 #[.slice p_h0 n_h0 c_h0, .agg #[.bool (isN f), .slice pf lf cf, .slice qf uf df]] w fun e w' => ∃ s : Sl, e = .returned (.slice s.p s.l s.c) ∧ SS w [rO ratK 29 s.p s.l s.c (sclL f xs)] w' := by
  have hK := SS.start w
  have nx1 := Nat.le_of_eq hh0.one0; have nx2 := Nat.le_of_eq hh0.one0.symm
  refine Calls.hide (fun Q0 hQ0 => ?_)
  go_enter Tryz.func6, Tryz.ntmps6
  go_upto_region 0 with (fail)
  refine wp_region_T [3, 0] hK ?_
  clear hK
  refine eA (.cells #[.bool (isN f), .slice pf lf cf, .slice qf uf df] 29) (fun R1 => ?_)
  refine e0 ?_
  refine sxEnd (fun W2 hK => ?_)
  replace hK := hK.fact (rO ratK 29 none 0 0 (sclL f (xs.take 0))) OwV.nil (fun _ h => by cases h)
  go_wp2_with fail
  go_loopw [5, 10] (fun s5 s10 wl => ∃ (m : Nat) (p : Option Addr) (n : Nat) (c : Nat), s5 = .slice p n c ∧ s10 = .int .i64 (m : Int) ∧ (m ≤ xs.length) ∧ RowKit.Hid (sclL f (xs.take m) = [] → p = none) ∧ SS w ([rO ratK 29 p n c (sclL f (xs.take m)), bx R1 (.cells #[.bool (isN f), .slice pf lf cf, .slice qf uf df] 29)]) wl) (fun s5 s10 _ => n_h0 - (intOf s10).toNat)
  case atStart => exact ⟨0, none, 0, 0, rfl, rfl, (by omega), hid (fun _ => rfl), hK⟩
  case round =>
   clear hK
   obtain ⟨m, p, n, c, rfl, rfl, hm0, h_e, hK⟩ := hrel
   generalize wr = W3 at hK ⊢
   go_upto_region 3 with (fail)
   refine wp_region_T [0] hK ?_
   clear hK
   refine eB (decide (((m : Int)) < ((n_h0 : Int)))) (fun b1 hb1 => ?_)
   refine sxEnd (fun W4 hK => ?_)
   cases b1
   · --
    have q_b1 : ((n_h0 : Int)) ≤ ((m : Int)) := Int.not_lt.1 (of_decide_eq_false hb1.out)
    have hme : m = xs.length := (by omega); rw [hme, List.take_length] at hK; clear hme
    replace hK := hK.subl (sK2 (sC2 sZ2))
    go_wp2
    try go_ret
    show Q0 (.returned (.slice p n c)) _
    exact (by obtain rfl := hQ0.out; exact ⟨⟨p, n, c⟩, rfl, hK⟩)
   · --
    have q_b1 : ((m : Int)) < ((n_h0 : Int)) := of_decide_eq_true hb1.out
    have i5 : m < n_h0 := (by omega)
    obtain ⟨g5, o5, rfl⟩ := hh0.pt i5
    have l5 : m < xs.length := Nat.lt_of_lt_of_eq i5 (hh0.one0)
    obtain ⟨x, ex⟩ : ∃ z0, RowKit.Hid (xs[m]? = some z0) := ⟨_, hid (List.getElem?_eq_getElem l5)⟩
    have ⟨lo9, hi9⟩ := hr x (List.mem_of_getElem? ex.out)
    go_upto_region 4 with (fail)
    refine wp_region_T [0, 0, 3, 4] hK ?_
    clear hK
    refine e0 ?_
    refine eRm0 (F := fun w => SlV demK w (.slice (some ⟨g5, o5, none⟩) n_h0 c_h0) xs) (fun w k => hh0.below k.old) (h1 := by intro w' k; have c0 := (k).dmc0 ex.out rfl; have c1 := (k).dmc ex.out 1 rfl; have c2 := (k).dmc ex.out 2 rfl; have c3 := (k).dmc ex.out 3 rfl; go_simp; (try go_bits); exact ⟨rfl, rfl⟩) ?_
    refine eA (.cells #[.int .i64 0, .int .i64 0, .int .i64 0, .int .i64 0] 53) (fun R6 => ?_)
    refine eP 0 0 [.int .i64 x.s, .int .i64 x.d, .int .i64 x.a, .int .i64 x.p] ?_ (hq := .inr ⟨rfl, rfl, trivial⟩)
    refine sxEnd (fun W7 hK => ?_)
    go_upto_region 5 with (fail)
    refine wp_region_S _ [0, 0, 0, 2, 0, 2, 3, 5, 0] hK ?_ (sK2 (sC2 (List.Sublist.refl _)))
    clear hK
    iterate 2 refine e0 ?_
    refine eL0 m0 ?_
    refine eC (fun w k => rat_S (qint_any x.a w (by omega) (by omega))) (fun x8 => ?_)
    obtain ⟨⟨p9, l9, c9⟩, ⟨q9, u9, d9⟩⟩ := x8; dsimp only
    refine eL0 m1 ?_
    refine eC (fun w k => rat_S (qmul_any _ _ _ _ w (k.q m0) (hf.below k.old) ((LmQ.int lo9 hi9).up (by decide : 2 ≤ 4)) hfl (by decide))) (fun x10 => ?_)
    obtain ⟨⟨p11, l11, c11⟩, ⟨q11, u11, d11⟩⟩ := x10; dsimp only
    refine eA (.cells #[.bool (isN (((x.a : Int) : Rat) * f)), .slice p11 l11 c11, .slice q11 u11 d11] 29) (fun R12 => ?_)
    refine eAppK 2 ratK_hd rfl 4 h_e.out rfl infoQ (fun w k => k.one1 (K := ratK) (x := ((x.a : Int) : Rat) * f) m0 ⟨_, _, _, rfl, k.q m1⟩) (by rw [scl_len, take_len (by omega)]; simp; omega) (fun x13 => ?_) (hs := fun _ => (sC2 (sC2 (sC2 (sK2 (sC2 (List.Sublist.refl _)))))))
    obtain ⟨p13, n13, c13⟩ := x13; dsimp only
    refine e0 ?_
    refine sxEnd (fun W14 hK => ?_)
    rw [show (sclL f (xs.take m)) ++ [((x.a : Int) : Rat) * f] = sclL f (xs.take (m + 1)) from (scl_snoc ex.out)] at hK
    (try go_wp2)
    go_roundw
    case rel => exact ⟨m + 1, p13, n13, c13, (by first | rfl | go_num), (by first | rfl | go_num), (by omega), hid (fun e => absurd (congrArg List.length e) (by rw [scl_len, take_len (by omega)]; simp)), (hK.subl (sC2 (sC2 (sC2 (sC2 (List.Sublist.refl _))))))⟩
    case measure => simp [intOf] <;> omega
set_option maxRecDepth 100000 in
set_option maxHeartbeats 400000 in
theorem rscale_any (w : World) {f : Rat} {p_h0 : Option Addr} {n_h0 c_h0 : Nat} {xs : List Dm} (hh0 : SlV demK w (.slice p_h0 n_h0 c_h0) xs) {pf qf : Option Addr} {lf cf uf df : Nat} (hf : RefR w (.agg #[.bool (isN f), .slice pf lf cf, .slice qf uf df]) f) (hfl : LmQ 4 f) (hr : ∀ d ∈ xs, -9223372036854775808 ≤ d.a ∧ d.a ≤ 9223372036854775807) (hn : xs.length ≤ 100000) :
    Calls Tryz.prog 8 #[.slice p_h0 n_h0 c_h0, .agg #[.bool (isN f), .slice pf lf cf, .slice qf uf df]] w fun e w' => ∃ s : Sl, e = .returned (.slice s.p s.l s.c) ∧ SS w [rO refK 41 s.p s.l s.c (sclL f xs)] w' := by
  have hK := SS.start w
  have nx1 := Nat.le_of_eq hh0.one0; have nx2 := Nat.le_of_eq hh0.one0.symm
  refine Calls.hide (fun Q0 hQ0 => ?_)
  go_enter Tryz.func8, Tryz.ntmps8
  go_upto_region 0 with (fail)
  refine wp_region_T [3, 0] hK ?_
  clear hK
  refine eA (.cells #[.bool (isN f), .slice pf lf cf, .slice qf uf df] 41) (fun R1 => ?_)
  refine e0 ?_
  refine sxEnd (fun W2 hK => ?_)
  replace hK := hK.fact (rO refK 41 none 0 0 (sclL f (xs.take 0))) OwV.nil (fun _ h => by cases h)
  go_wp2_with fail
  go_loopw [5, 6] (fun s5 s6 wl => ∃ (m : Nat) (p : Option Addr) (n : Nat) (c : Nat), s5 = .slice p n c ∧ s6 = .int .i64 (m : Int) ∧ (m ≤ xs.length) ∧ RowKit.Hid (sclL f (xs.take m) = [] → p = none) ∧ SS w ([rO refK 41 p n c (sclL f (xs.take m)), bx R1 (.cells #[.bool (isN f), .slice pf lf cf, .slice qf uf df] 41)]) wl) (fun s5 s6 _ => n_h0 - (intOf s6).toNat)
  case atStart => exact ⟨0, none, 0, 0, rfl, rfl, (by omega), hid (fun _ => rfl), hK⟩
  case round =>
   clear hK
   obtain ⟨m, p, n, c, rfl, rfl, hm0, h_e, hK⟩ := hrel
   generalize wr = W3 at hK ⊢
   go_upto_region 3 with (fail)
   refine wp_region_T [0, 0, 0, 0] hK ?_
   clear hK
   iterate 3 refine e0 ?_
   refine eB (decide (((m : Int)) < ((n_h0 : Int)))) (fun b1 hb1 => ?_)
   refine sxEnd (fun W4 hK => ?_)
   cases b1
   · --
    have q_b1 : ((n_h0 : Int)) ≤ ((m : Int)) := Int.not_lt.1 (of_decide_eq_false hb1.out)
    have hme : m = xs.length := (by omega); rw [hme, List.take_length] at hK; clear hme
    replace hK := hK.subl (sK2 (sC2 sZ2))
    go_wp2
    try go_ret
    show Q0 (.returned (.slice p n c)) _
    exact (by obtain rfl := hQ0.out; exact ⟨⟨p, n, c⟩, rfl, hK⟩)
   · --
    have q_b1 : ((m : Int)) < ((n_h0 : Int)) := of_decide_eq_true hb1.out
    have i5 : m < n_h0 := (by omega)
    obtain ⟨g5, o5, rfl⟩ := hh0.pt i5
    have l5 : m < xs.length := Nat.lt_of_lt_of_eq i5 (hh0.one0)
    obtain ⟨x, ex⟩ : ∃ z0, RowKit.Hid (xs[m]? = some z0) := ⟨_, hid (List.getElem?_eq_getElem l5)⟩
    have ⟨lo9, hi9⟩ := hr x (List.mem_of_getElem? ex.out)
    go_upto_region 5 with (fail)
    refine wp_region_S _ [0, 0, 0, 0, 0, 0, 2, 0, 2, 3, 5, 0] hK ?_ (sC2 (List.Sublist.refl _))
    clear hK
    iterate 5 refine e0 ?_
    refine eR0 (fun w k => (hh0.below k.old).dmc ex.out 2 rfl) ?_
    refine eC (fun w k => ref_S (rint_q x.a w (by omega) (by omega))) (fun x6 => ?_)
    obtain ⟨⟨p7, l7, c7⟩, ⟨q7, u7, d7⟩⟩ := x6; dsimp only
    refine eL0 m0 ?_
    refine eC (fun w k => ref_S (rmul_q _ _ _ _ w (k.rq m0) (hf.below k.old) ((LmQ.int lo9 hi9).up (by decide : 2 ≤ 4)) hfl (by first | decide | omega))) (fun x8 => ?_)
    obtain ⟨⟨p9, l9, c9⟩, ⟨q9, u9, d9⟩⟩ := x8; dsimp only
    refine eA (.cells #[.bool (isN (((x.a : Int) : Rat) * f)), .slice p9 l9 c9, .slice q9 u9 d9] 41) (fun R10 => ?_)
    refine eAppK 2 refK_hd rfl 3 h_e.out rfl infoR (fun w k => k.one1 (K := refK) (x := ((x.a : Int) : Rat) * f) m0 ⟨_, _, _, rfl, k.rq m1⟩) (by rw [scl_len, take_len (by omega)]; simp; omega) (fun x11 => ?_) (hs := fun _ => (sC2 (sC2 (sC2 (sC2 (List.Sublist.refl _))))))
    obtain ⟨p11, n11, c11⟩ := x11; dsimp only
    refine e0 ?_
    refine sxEnd (fun W12 hK => ?_)
    rw [show (sclL f (xs.take m)) ++ [((x.a : Int) : Rat) * f] = sclL f (xs.take (m + 1)) from (scl_snoc ex.out)] at hK
    (try go_wp2)
    go_roundw
    case rel => exact ⟨m + 1, p11, n11, c11, (by first | rfl | go_num), (by first | rfl | go_num), (by omega), hid (fun e => absurd (congrArg List.length e) (by rw [scl_len, take_len (by omega)]; simp)), (hK.subl (sC2 (sC2 (sC2 (List.Sublist.refl _)))))⟩
    case measure => simp [intOf] <;> omega
end Go.Proofs.YtjhgkojbpgakcaaGreatDoor
