/- The sum of a list of rational numbers. -/
import Derived.Test.YtjhgkojbpgakcaaGreatDoorDnA
namespace Go.Proofs.YtjhgkojbpgakcaaGreatDoor
open Go.RowKit
open Go.Lib (decDigits)
set_option maxRecDepth 100000 in
theorem qclone_any (w : World) {p_h0 : Option Addr} {n_h0 c_h0 : Nat} {xs : List Rat} (hh0 : SlV ratK w (.slice p_h0 n_h0 c_h0) xs) (hl : xs.length ≤ 1000) (hne : 0 < n_h0) :
    Calls Tryz.prog 34 #[.slice p_h0 n_h0 c_h0] w fun e w' => ∃ s : Sl, e = .returned (.slice s.p s.l s.c) ∧ SS w [rO ratK 29 s.p s.l s.c xs] w' := by
  have hK := SS.start w
  have i1 : 0 < n_h0 := hne
  obtain ⟨g1, o1, rfl⟩ := hh0.pt i1
  have l1 : 0 < xs.length := Nat.lt_of_lt_of_eq i1 (hh0.one0)
  obtain ⟨x, ex⟩ : ∃ z0, RowKit.Hid (xs[0]? = some z0) := ⟨_, hid (List.getElem?_eq_getElem l1)⟩
  refine Calls.hide (fun Q0 hQ0 => ?_)
  go_enter Tryz.func34, Tryz.ntmps34
  go_upto_region 1 with (fail)
  refine wp_region_T [0, 0] hK ?_
  clear hK
  refine e0 ?_
  refine eV (.bool false) (fun w' => by go_simp; (try go_bits); exact ⟨rfl, rfl⟩) ?_
  refine sxEnd (fun W2 hK => ?_)
  go_upto_region 3 with (fail)
  refine wp_region_T [3, 0, 5, 0] hK ?_
  clear hK
  refine eA0 (K := ratK) (t := 29) (fun g3 => ?_)
  refine e0 ?_
  refine eAppE 2 rfl 0 rfl infoQ (fun w k => hh0.below k.old) (by omega) (fun x4 => ?_)
  obtain ⟨p4, n4, c4⟩ := x4; dsimp only
  refine e0 ?_
  refine sxEnd (fun W5 hK => ?_)
  go_wp2
  try go_ret
  show Q0 (.returned (.slice p4 n4 c4)) _
  exact (by obtain rfl := hQ0.out; exact ⟨⟨p4, n4, c4⟩, rfl, hK⟩)
set_option maxRecDepth 100000 in
set_option maxHeartbeats 2000000 in
theorem qsum_any (w : World) {p_h0 : Option Addr} {n_h0 c_h0 : Nat} {xs : List Rat} (hh0 : SlV ratK w (.slice p_h0 n_h0 c_h0) xs) (hl : xs.length ≤ 100) (hx : ∀ x ∈ xs, LmQ 60 x) :
    Calls Tryz.prog 14 #[.slice p_h0 n_h0 c_h0] w fun e w' => ∃ x : Duo Sl Sl, e = .returned (.agg #[.bool (isN (sumQ xs)), .slice x.a.p x.a.l x.a.c, .slice x.b.p x.b.l x.b.c]) ∧ SS w [qF (.agg #[.bool (isN (sumQ xs)), .slice x.a.p x.a.l x.a.c, .slice x.b.p x.b.l x.b.c]) (sumQ xs)] w' := by
  have hK := SS.start w
  have nx1 := Nat.le_of_eq hh0.one0; have nx2 := Nat.le_of_eq hh0.one0.symm
  refine Calls.hide (fun Q0 hQ0 => ?_)
  go_enter Tryz.func14, Tryz.ntmps14
  go_upto_region 0 with (fail)
  refine wp_region_T [3] hK ?_
  clear hK
  refine eA (.cells #[.bool false, .slice none 0 0, .slice none 0 0] 29) (fun R1 => ?_)
  refine sxEnd (fun W2 hK => ?_)
  go_upto_region 1 with (fail)
  refine wp_region_T [0, 0, 0] hK ?_
  clear hK
  iterate 2 refine e0 ?_
  refine eB (((n_h0 : Int)) == 0) (fun b1 hb1 => ?_)
  refine sxEnd (fun W3 hK => ?_)
  cases b1
  · --
   have hne : 1 ≤ n_h0 := by have q := hb1.out; simp at q; omega
   go_upto_region 3 with (fail)
   refine wp_region_T [0, 2, 0] hK ?_
   clear hK
   refine e0 ?_
   refine eC (fun w k => qclone_any w (hh0.below k.old) (by omega) (by omega)) (fun x4 => ?_)
   obtain ⟨p5, n5, c5⟩ := x4; dsimp only
   refine e0 ?_
   refine sxEnd (fun W6 hK => ?_)
   go_wp2_with fail
   go_loopw [3] (fun s3 wl => ∃ (ys : List Rat) (p : Option Addr) (n : Nat) (c : Nat), s3 = .slice p n c ∧ RowKit.Hid (Seg xs ys) ∧ (1 ≤ ys.length) ∧ (ys.length ≤ 100) ∧ (n ≤ ys.length) ∧ (ys.length ≤ n) ∧ SS w ([rO ratK 29 p n c ys, bx R1 (.cells #[.bool false, .slice none 0 0, .slice none 0 0] 29)]) wl) (fun s3 _ => sliceLen s3)
   case atStart => exact ⟨xs, p5, n5, c5, rfl, hid (Seg.start xs), (by omega), (by omega), (by have q := hK.len m0; omega), (by have q := hK.len m0; omega), hK⟩
   case round =>
    clear hK
    obtain ⟨ys, p, n, c, rfl, h_s, hy, hn, hn1, hn2, hK⟩ := hrel
    generalize wr = W7 at hK ⊢
    go_upto_region 4 with (fail)
    refine wp_region_T [0, 0, 0] hK ?_
    clear hK
    iterate 2 refine e0 ?_
    refine eB (decide (1 < ((n : Int)))) (fun b2 hb2 => ?_)
    refine sxEnd (fun W8 hK => ?_)
    cases b2
    · --
     have q_b2 : ((n : Int)) ≤ 1 := Int.not_lt.1 (of_decide_eq_false hb2.out)
     have i9 : 0 < n := (by omega)
     obtain ⟨g9, rfl⟩ := hK.pt m0 i9
     have l9 : 0 < ys.length := Nat.lt_of_lt_of_eq i9 (hK.len m0)
     obtain ⟨x15, ex15⟩ : ∃ z0, RowKit.Hid (ys[0]? = some z0) := ⟨_, hid (List.getElem?_eq_getElem l9)⟩
     go_upto_region 15 with (fail)
     refine wp_region_T [0, 0, 2, 4] hK ?_
     clear hK
     iterate 2 refine e0 ?_
     refine eRq m0 ex15.out (fun x10 => ?_)
     obtain ⟨⟨p10, l10, c10⟩, ⟨q10, u10, d10⟩⟩ := x10; dsimp only
     refine eP 2 0 [.bool (isN (x15)), .slice p10 l10 c10, .slice q10 u10 d10] ?_ (hq := .inr ⟨rfl, rfl, trivial⟩)
     refine sxEnd (fun W11 hK => ?_)
     have ⟨c90, c91, c92⟩ := (hK.box m2).c3
     have e15 : x15 = sumQ xs := h_s.out.first (by omega) ex15.out
     replace hK := hK.subl (sK2 (sC2 (sC2 sZ2)))
     clear hb1
     go_wp2
     exact bodyPost_ret (v := .agg #[.bool (isN (x15)), .slice p10 l10 c10, .slice q10 u10 d10]) (by simp [results, Tryz.results14, go_sem, c90, c91, c92]) rfl (by obtain rfl := hQ0.out; rw [← e15]; exact ⟨⟨⟨p10, l10, c10⟩, ⟨q10, u10, d10⟩⟩, rfl, hK⟩)
    · --
     have q_b2 : 1 < ((n : Int)) := of_decide_eq_true hb2.out
     have hs := h_s; clear h_s
     obtain ⟨m, hm⟩ : ∃ m, RowKit.Hid (n / 2 = m) := ⟨_, hid rfl⟩
     have hm1 : 2 * m ≤ n := by have q := hm.out; omega
     have hm2 : n ≤ 2 * m + 1 := by have q := hm.out; omega
     have i12 : 0 < n := (by omega)
     obtain ⟨g12, rfl⟩ := hK.pt m0 i12
     have l12 : 0 < ys.length := Nat.lt_of_lt_of_eq i12 (hK.len m0)
     obtain ⟨x0, ex0⟩ : ∃ z0, RowKit.Hid (ys[0]? = some z0) := ⟨_, hid (List.getElem?_eq_getElem l12)⟩
     go_upto_region 5 with (fail)
     refine wp_region_T [0, 0, 0, 0] hK ?_
     clear hK
     iterate 2 refine e0 ?_
     refine eV (.int .i64 (m : Int)) (fun w' => by go_simp; (try go_bits); refine ⟨congrArg _ ?_, rfl⟩; have q := hm.out; omega) ?_
     refine e0 ?_
     refine sxEnd (fun W13 hK => ?_)
     go_wp2_with fail
     go_loopw [19] (fun s19 wl => ∃ (i : Nat) (zs : List Rat), s19 = .int .i64 (i : Int) ∧ (i ≤ m) ∧ RowKit.Hid (Half (· + ·) ys zs i) ∧ SS w ([rO ratK 29 (some ⟨g12, 0, none⟩) n c zs, bx R1 (.cells #[.bool false, .slice none 0 0, .slice none 0 0] 29)]) wl) (fun s19 _ => m - (intOf s19).toNat)
     case atStart => exact ⟨0, ys, rfl, (by omega), hid (Half.start _ ys), hK⟩
     case round =>
      clear hK
      obtain ⟨i, zs, rfl, hi, h_h, hK⟩ := hrel
      generalize wr = W14 at hK ⊢
      go_upto_region 7 with (fail)
      refine wp_region_T [0] hK ?_
      clear hK
      refine eB (decide (((i : Int)) < ((m : Int)))) (fun b3 hb3 => ?_)
      refine sxEnd (fun W15 hK => ?_)
      cases b3
      · --
       have q_b3 : ((m : Int)) ≤ ((i : Int)) := Int.not_lt.1 (of_decide_eq_false hb3.out)
       have hh := h_h; clear h_h
       have hzl := hid hh.out.len
       obtain rfl : i = m := by omega
       obtain ⟨r9, hr9⟩ : ∃ r, RowKit.Hid (n % 2 = r) := ⟨_, hid rfl⟩
       go_upto_region 11 with (fail)
       refine wp_region_T [0, 0, 0, 0] hK ?_
       clear hK
       iterate 2 refine e0 ?_
       refine eV (.int .i64 (r9 : Int)) (fun w' => by go_simp; (try go_bits); refine ⟨congrArg _ ?_, rfl⟩; have q := hr9.out; omega) ?_
       refine eB (((r9 : Int)) == 1) (fun b4 hb4 => ?_)
       refine sxEnd (fun W16 hK => ?_)
       cases b4
       · --
        have hodd := hid (show ys.length = 2 * i from by have q := hb4.out; have q2 := hr9.out; simp at q; omega)
        have hc2 : n ≤ c ∧ c ≤ 9223372036854775807 := by have q := hK.cap m0; have q2 := hzl.out; (try simp at q); omega
        have iz1 : (0 : Int) ≤ (i : Int) := by omega
        have iy1 : (i : Int) ≤ (c : Int) := by have q := hodd.out; omega
        go_upto_region 14 with (fail)
        refine wp_region_T [0, 0, 0, 0] hK ?_
        clear hK
        iterate 2 refine e0 ?_
        refine eV (.slice (some ⟨g12, 0, none⟩) i c) (fun w' => by go_simp; (try go_bits); exact ⟨rfl, rfl⟩) ?_
        refine e0 ?_
        refine sxEnd (fun W17 hK => ?_)
        replace hK := hK.cut (m := i) (by have q := hzl.out; simp; omega)
        rw [show (zs).take i = pairL (· + ·) ys from (hh.out.even hodd.out)] at hK
        (try go_wp2)
        go_roundw
        case rel => exact ⟨pairL (· + ·) ys, (some ⟨g12, 0, none⟩), i, c, (by first | rfl | go_num), hid (hs.out.pair), (by rw [pairL_len]; omega), (by rw [pairL_len]; omega), (by rw [pairL_len]; have q := hodd.out; omega), (by rw [pairL_len]; have q := hodd.out; omega), hK⟩
        case measure => have q := hodd.out; simp [sliceLen] <;> omega
       · --
        have hodd := hid (show ys.length = 2 * i + 1 from by have q := hb4.out; have q2 := hr9.out; simp at q; omega)
        have i18 : n - 1 < n := (by have := hzl.out; omega)
        have l18 : n - 1 < zs.length := Nat.lt_of_lt_of_eq i18 (hK.len m0)
        obtain ⟨x12, ex12⟩ : ∃ z0, RowKit.Hid (zs[n - 1]? = some z0) := ⟨_, hid (List.getElem?_eq_getElem l18)⟩
        have i19 : i < n := (by have := hzl.out; omega)
        have l19 : i < zs.length := Nat.lt_of_lt_of_eq i19 (hK.len m0)
        obtain ⟨x13, ex13⟩ : ∃ z0, RowKit.Hid (zs[i]? = some z0) := ⟨_, hid (List.getElem?_eq_getElem l19)⟩
        have e12 : RowKit.Hid (zs[2 * i]? = some x12) := hid (by have q := ex12.out; rwa [show n - 1 = 2 * i from by have := hodd.out; omega] at q)
        go_upto_region 12 with (fail)
        refine wp_region_T [0, 0, 0, 0, 0, 0, 0, 2, 0, 4] hK ?_
        clear hK
        iterate 5 refine e0 ?_
        refine eV (.int .i64 ((n - 1 : Nat) : Int)) (fun w' => by go_simp; (try go_bits); first | exact ⟨rfl, rfl⟩ | exact ⟨congrArg _ (by omega), rfl⟩ | (refine ⟨congrArg _ ?_, rfl⟩; omega) | go_num) ?_
        refine e0 ?_
        refine eRq m0 ex12.out (fun x20 => ?_)
        obtain ⟨⟨p20, l20, c20⟩, ⟨q20, u20, d20⟩⟩ := x20; dsimp only
        refine e0 ?_
        refine eWQ (y := x12) 1 (by have := hzl.out; omega) m0 ?_ (hi := rfl)
        refine sxEnd (fun W21 hK => ?_)
        go_upto_region 13 with (fail)
        refine wp_region_T [0, 0, 0] hK ?_
        clear hK
        refine e0 ?_
        refine eV (.int .i64 ((i + 1 : Nat) : Int)) (fun w' => by go_simp; (try go_bits); first | exact ⟨rfl, rfl⟩ | exact ⟨congrArg _ (by omega), rfl⟩ | (refine ⟨congrArg _ ?_, rfl⟩; omega) | go_num) ?_
        refine e0 ?_
        refine sxEnd (fun W22 hK => ?_)
        have hc2 : n ≤ c ∧ c ≤ 9223372036854775807 := by have q := hK.cap m1; have q2 := hzl.out; (try simp at q); omega
        have iz1 : (0 : Int) ≤ (i : Int) + 1 := by omega
        have iy1 : (i : Int) + 1 ≤ (c : Int) := by have q := hodd.out; omega
        go_upto_region 14 with (fail)
        refine wp_region_T [0, 0, 0, 0] hK ?_
        clear hK
        iterate 2 refine e0 ?_
        refine eV (.slice (some ⟨g12, 0, none⟩) (i + 1) c) (fun w' => by go_simp; (try go_bits); exact ⟨rfl, rfl⟩) ?_
        refine e0 ?_
        refine sxEnd (fun W23 hK => ?_)
        replace hK := hK.up1
        replace hK := hK.cut (m := i + 1) (by have q := hzl.out; simp; omega)
        rw [show (zs.set i x12).take (i + 1) = pairL (· + ·) ys from (hh.out.odd hodd.out e12.out)] at hK
        (try go_wp2)
        go_roundw
        case rel => exact ⟨pairL (· + ·) ys, (some ⟨g12, 0, none⟩), i + 1, c, (by first | rfl | go_num), hid (hs.out.pair), (by rw [pairL_len]; omega), (by rw [pairL_len]; omega), (by rw [pairL_len]; have q := hodd.out; omega), (by rw [pairL_len]; have q := hodd.out; omega), (hK.subl (sK2 (sC2 (List.Sublist.refl _))))⟩
        case measure => have q := hodd.out; simp [sliceLen] <;> omega
      · --
       have q_b3 : ((i : Int)) < ((m : Int)) := of_decide_eq_true hb3.out
       have hh := h_h; clear h_h
       have hzl := hid hh.out.len
       have hlm := hid (hs.out.lm hx (m := 6200) (by omega))
       have i24 : 2 * i < n := (by omega)
       have l24 : 2 * i < zs.length := Nat.lt_of_lt_of_eq i24 (hK.len m0)
       obtain ⟨xa, exa⟩ : ∃ z0, RowKit.Hid (zs[2 * i]? = some z0) := ⟨_, hid (List.getElem?_eq_getElem l24)⟩
       have i25 : 2 * i + 1 < n := (by omega)
       have l25 : 2 * i + 1 < zs.length := Nat.lt_of_lt_of_eq i25 (hK.len m0)
       obtain ⟨xb, exb⟩ : ∃ z0, RowKit.Hid (zs[2 * i + 1]? = some z0) := ⟨_, hid (List.getElem?_eq_getElem l25)⟩
       have i26 : i < n := (by omega)
       have l26 : i < zs.length := Nat.lt_of_lt_of_eq i26 (hK.len m0)
       obtain ⟨xc, exc⟩ : ∃ z0, RowKit.Hid (zs[i]? = some z0) := ⟨_, hid (List.getElem?_eq_getElem l26)⟩
       obtain ⟨⟨⟨p27, l27, c27⟩, ⟨q27, u27, d27⟩⟩, hK⟩ := hK.toC exa.out
       go_upto_region 9 with (fail)
       refine wp_region_S _ [0, 0, 0, 0, 0, 0, 1, 0, 0, 0, 0, 0, 2, 2, 0, 4] hK ?_ (sC2 (List.Sublist.refl _))
       clear hK
       iterate 4 refine e0 ?_
       refine eV (.int .i64 ((2 * i : Nat) : Int)) (fun w' => by go_simp; (try go_bits); first | exact ⟨rfl, rfl⟩ | exact ⟨congrArg _ (by omega), rfl⟩ | (refine ⟨congrArg _ ?_, rfl⟩; omega) | go_num) ?_
       refine e0 ?_
       refine eRm (F := (rC 29 g12 n c zs (2 * i) ⟨⟨p27, l27, c27⟩, ⟨q27, u27, d27⟩⟩ xa).F) (fun w k => k.get m0) (h1 := by intro w' k; obtain ⟨_, _, c0, c1, c2⟩ := k; (try simp at c0 c1 c2); go_simp; (try go_bits); exact ⟨rfl, rfl⟩) ?_
       iterate 2 refine e0 ?_
       refine eV (.int .i64 ((2 * i : Nat) : Int)) (fun w' => by go_simp; (try go_bits); first | exact ⟨rfl, rfl⟩ | exact ⟨congrArg _ (by omega), rfl⟩ | (refine ⟨congrArg _ ?_, rfl⟩; omega) | go_num) ?_
       refine eV (.int .i64 ((2 * i + 1 : Nat) : Int)) (fun w' => by go_simp; (try go_bits); first | exact ⟨rfl, rfl⟩ | exact ⟨congrArg _ (by omega), rfl⟩ | (refine ⟨congrArg _ ?_, rfl⟩; omega) | go_num) ?_
       refine e0 ?_
       refine eRqC m0 exb.out (fun x28 => ?_)
       obtain ⟨⟨p28, l28, c28⟩, ⟨q28, u28, d28⟩⟩ := x28; dsimp only
       refine eC (fun w k => rat_S (qadd_any _ _ _ _ w (k.q m2) (k.q m0) (hh.out.lm hlm.out (by omega) exa.out) (hh.out.lm hlm.out (by omega) exb.out) (by decide))) (fun x29 => ?_)
       obtain ⟨⟨p30, l30, c30⟩, ⟨q30, u30, d30⟩⟩ := x29; dsimp only
       refine e0 ?_
       refine eWD (y := (xa + xb)) 2 (by have q := hzl.out; omega) m0 ?_ (hi := rfl) (hs := (sC2 (sC2 (sC2 (List.Sublist.refl _)))))
       refine sxEnd (fun W31 hK => ?_)
       (try go_wp2)
       go_roundw
       case rel => exact ⟨i + 1, zs.set i (xa + xb), (by first | rfl | go_num), (by omega), hid (hh.out.step exa.out exb.out), (hK.subl (sC2 (sC2 (sK2 (sC2 (List.Sublist.refl _))))))⟩
       case measure => simp [intOf] <;> omega
  · --
   go_upto_region 2 with (fail)
   refine wp_region_T [0, 4] hK ?_
   clear hK
   refine e0 ?_
   refine eP 0 0 [.bool false, .slice none 0 0, .slice none 0 0] ?_
   refine sxEnd (fun W32 hK => ?_)
   obtain rfl : xs = [] := List.eq_nil_of_length_eq_zero (by have q := hb1.out; simp at q; omega)
   have ⟨c90, c91, c92⟩ := (hK.box m0).c3
   go_wp2
   exact bodyPost_ret (v := .agg #[.bool false, .slice none 0 0, .slice none 0 0]) (by simp [results, Tryz.results14, go_sem, c90, c91, c92]) rfl (by obtain rfl := hQ0.out; exact ⟨⟨⟨none, 0, 0⟩, ⟨none, 0, 0⟩⟩, rfl, (hK.subl (List.nil_sublist _)).fact (qF _ _) (RatV.zero _)⟩)
end Go.Proofs.YtjhgkojbpgakcaaGreatDoor
