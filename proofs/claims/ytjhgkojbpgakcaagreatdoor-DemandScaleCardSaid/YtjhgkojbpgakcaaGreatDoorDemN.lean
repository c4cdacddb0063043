/- Merge of the program walked. -/
import Derived.Test.YtjhgkojbpgakcaaGreatDoorDemA
import Derived.Test.YtjhgkojbpgakcaaGreatDoorDemQ
import Derived.Test.YtjhgkojbpgakcaaGreatDoorShelfS
import Derived.Test.YtjhgkojbpgakcaaGreatDoorRowF
namespace Go.Proofs.YtjhgkojbpgakcaaGreatDoor
open Go.RowKit
open Go.Lib (decDigits)
theorem mapOk : MapOk Tryz.prog 75 76 3 where
  hm := Tryz.underlying75
  hu := Tryz.underlying76
  hi := Tryz.underlying3
  hI := Option.isSome_iff_exists.1 (by kernel_rfl)
  hc := by kernel_rfl
  hs := Tryz.sizeOf3
  ha := Tryz.isAgg3
  hz := Tryz.zeroValue3
theorem sort_dem {t : TypeId} {base n c : Nat} {p : Option Addr} {xs : List Dm} {w : World} (h : OwV demK t base w (.slice p n c) xs) (ho : xs.Pairwise fun a b => triD a ≠ triD b) (hsz : xs.length ≤ 1000) :
    Calls Tryz.prog 42 #[.slice p n c, .func (.func 43) #[] #[]] w fun e w' => e = .returned (.tuple #[]) ∧ OwV demK t base w' (.slice p n c) (sortD xs) ∧ w.grownBy w' (ob p) :=
  sort_own_mem Tryz.sortDem (f := dmC) (K := demK) (fun _ _ _ => Iff.rfl) (fun _ => rfl) (fun x v hv => by simp [dmC] at hv; rcases hv with rfl | rfl | rfl | rfl <;> rfl) Tryz.isAgg53 Tryz.sizeOf53 cfD cfD_swo 43 #[]
    (enters_of Tryz.func43 (by kernel_rfl) rfl) (fun x y W => Q.cmp_any x y W) h (fun x hx y hy h1 h2 => tri_one ho x hx y hy (cfD_tri h1 h2)) (by omega)
def snocD (ys : List Dm) (x : Dm) : List Dm := ys ++ [x]
theorem snocD_len (ys : List Dm) (x : Dm) : (snocD ys x).length = ys.length + 1 := by unfold snocD; simp
theorem keysT_set {ys : List Dm} {j : Nat} {y z : Dm} (h : ys[j]? = some y) (e : triD z = triD y) : keysT ys = keysT (ys.set j z) := by
  obtain ⟨hj, rfl⟩ := List.getElem?_eq_some_iff.1 h
  unfold keysT
  rw [List.map_set, e, show triD ys[j] = (ys.map triD)[j]'(by simpa using hj) by simp, List.set_getElem_self]
theorem lk_lt {ys : List Dm} {t : Tri} {j : Nat} (h : lkB (keysT ys) t = true) (hj : lkV (keysT ys) t = j) : j < ys.length := by
  have q := lk_t h
  rw [hj] at q
  have := (List.getElem?_eq_some_iff.1 q).1
  rwa [keysT_len] at this
set_option maxRecDepth 100000 in
set_option maxHeartbeats 2000000 in
theorem merge_any (v0 : Value) (xs : List Dm) (w : World) (h0 : SlV demK w v0 xs) (hl : xs.length ≤ 100000) :
    Calls Tryz.prog 20 #[v0] w fun e w' => ∃ y0, e = .returned y0 ∧ OwV demK 53 w.heap.size w' y0 (mgD xs) ∧ Below w.heap.size w w' := by
  have h0_0 := h0; obtain ⟨p_h0, c_h0, rfl, n_h0⟩ := h0.sh
  have hK : KS w [] w := (KS.start w)
  refine Calls.hide (fun Q0 hQ0 => ?_)
  go_enter Tryz.func20, Tryz.ntmps20
  go_upto_region 1 with (fail)
  refine wp_region_tx w hK ?_
  clear hK
  apply txF (wants0 rfl); (· intro w' hK; go_simp; (try go_bits); exact ⟨rfl, rfl⟩); simp only [Act.put, pA, pB, pC]
  obtain ⟨b1, hb1⟩ : ∃ b : Bool, RowKit.Hid ((vldD 64 xs) = b) := ⟨_, hid rfl⟩
  apply txH (v := .bool b1) (wants0 rfl)
  · intro v1 hv1 w' hK; go_simp; (try go_bits); refine (valid_any (.slice p_h0 xs.length c_h0) 64 xs w' (h0_0.below hK.old) (by omega)).mono ?_; rintro e w5 ⟨rfl, hb⟩; obtain rfl := hv1.out; exact ⟨_, rfl, (by rw [hb1.out]), hb⟩
  simp only [Act.put, pA, pB, pC]
  apply txF (wants0 rfl); (· intro w' hK; go_simp; (try go_bits); exact ⟨rfl, rfl⟩); simp only [Act.put, pA, pB, pC]
  refine txEnd (fun W1 hK => ?_)
  cases b1
  · --
   go_wp2
   try go_ret
   show Q0 (.returned (.slice none 0 0)) _
   exact (by obtain rfl := hQ0.out; exact ⟨_, rfl, (by rw [mgD_f hb1.out]; exact OwV.nil), hK.old⟩)
  · --
   go_upto_region 3 with (fail)
   refine wp_region_tx w hK ?_
   clear hK
   apply txF (wants0 rfl); (· intro w' hK; go_simp; (try go_bits); exact ⟨rfl, rfl⟩); simp only [Act.put, pA, pB, pC]
   refine txEnd (fun W2 hK => ?_)
   go_upto_region 4 with (fail)
   refine wp_region_tx w hK ?_
   clear hK
   refine txMk (wants0 rfl) (fun w' hK => by go_simp; rfl) (fun R3 q_R3 => ?_)
   clear q_R3
   simp only [Act.put, pA, pB, pC]
   apply txF (wants0 rfl); (· intro w' hK; go_simp; (try go_bits); exact ⟨rfl, rfl⟩); simp only [Act.put, pA, pB, pC]
   refine txEnd (fun W4 hK => ?_)
   go_wp2_with fail
   go_loopw [3, 16] (fun s3 s16 wl => ∃ (k : Nat) (p : Option Addr) (c : Nat) (ys : List Dm), s3 = .slice p ys.length c ∧ s16 = .int .i64 (k : Int) ∧ (k ≤ xs.length) ∧ RowKit.Hid (ys = accD (xs.take k)) ∧ RowKit.Hid (ob p ≠ some R3) ∧ KS w [fun w1 => OwV demK 53 w.heap.size w1 (.slice p ys.length c) ys, fun w1 => MpV w.heap.size R3 (keysT ys) w1] wl) (fun s3 s16 _ => xs.length - (intOf s16).toNat)
   case atStart => exact ⟨0, none, 0, [], rfl, rfl, (by omega), (hid rfl), (hid (by intro e; cases e)), ⟨hK.old, (al1 (fun w' _ => OwV.nil) (al1 (fun w' hb => Eq.mp (congrArg (fun z => MpV w.heap.size R3 z w') (show [] = keysT ([]) from rfl)) (hK.all _ m0 w' hb)) aN))⟩⟩
   case round =>
    clear hK
    obtain ⟨k, p, c, ys, rfl, rfl, hk, hys, hap, hK⟩ := hrel
    generalize wr = W5 at hK ⊢
    go_upto_region 6 with (fail)
    refine wp_region_tx w hK ?_
    clear hK
    obtain ⟨b2, hb2⟩ : ∃ b : Bool, RowKit.Hid (decide (((k : Int)) < ((xs.length : Int))) = b) := ⟨_, hid rfl⟩
    apply txB b2 (wants0 rfl); (· intro w' hK; go_simp; (try go_bits); exact ⟨by have q := hb2.out; subst q; first | rfl | simp, rfl⟩); simp only [Act.put, pA, pB, pC]
    refine txEnd (fun W6 hK => ?_)
    cases b2
    · --
     have q_b2 : ((xs.length : Int)) ≤ ((k : Int)) := Int.not_lt.1 (of_decide_eq_false hb2.out)
     have hal := hid (show ys = accD xs from by rw [hys.out, List.take_of_length_le (by omega)])
     have hone : ys.Pairwise fun a b => triD a ≠ triD b := by rw [hal.out]; exact (accD_mg xs).one
     have hyl : ys.length ≤ 64 := by have q := accD_len xs; rw [← hal.out] at q; have q3 := (vldD_iff.1 hb1.out).2.2.1; omega
     go_upto_region 15 with (fail)
     refine wp_region_tx w hK ?_
     clear hK
     apply txF (wants0 rfl); (· intro w' hK; go_simp; (try go_bits); exact ⟨rfl, rfl⟩); simp only [Act.put, pA, pB, pC]
     refine txTurn (K := demK) (t := 53) p ys.length c (.tuple #[]) (sortD ys) [] (wants0 rfl) (fun w' hK g hg => (((hK.get m0)).block hg).1) (fun w' hK => aN) ?_ ?_
     · intro u zz hz w' hK; go_simp; (try go_bits); refine (sort_dem (hK.get m0) hone (by omega)).mono ?_; rintro e w5 ⟨rfl, c1, c2⟩; obtain ⟨rfl, rfl⟩ := hz.out; exact ⟨_, rfl, rfl, c1, c2⟩
     simp only [Act.put, pA, pB, pC]
     refine txEnd (fun W7 hK => ?_)
     go_wp2
     try go_ret
     show Q0 (.returned (.slice p ys.length c)) _
     exact (by obtain rfl := hQ0.out; exact ⟨_, rfl, (Eq.mp (congrArg (OwV demK 53 w.heap.size _ _) (show sortD ys = mgD xs from (by rw [mgD_t hb1.out, hal.out]))) (hK.get m0)), hK.old⟩)
    · --
     have q_b2 : ((k : Int)) < ((xs.length : Int)) := of_decide_eq_true hb2.out
     obtain ⟨x7, ex7⟩ : ∃ x, RowKit.Hid (xs[k]? = some x) := ⟨_, hid (List.getElem?_eq_getElem (show k < xs.length from (by omega)))⟩
     have i8 : k < xs.length := by have q : k < xs.length := (by omega); first | exact q | (simp at q; omega) | omega
     obtain ⟨g8, o8, q8, l8⟩ := (h0_0).ptr ex7.out
     subst q8
     replace hK := KS.atD hK (h0_0.below hK.old) ex7.out
     have hok := (vldD_iff.1 hb1.out).2.2.2 x7 (List.mem_of_getElem? ex7.out); unfold OkD at hok
     have hyl : ys.length ≤ 64 := by have q := accD_len (xs.take k); rw [← hys.out] at q; have q2 := List.length_take_le k xs; have q3 := (vldD_iff.1 hb1.out).2.2.1; omega
     go_upto_region 7 with (fail)
     refine wp_region_tx w hK ?_
     clear hK
     apply txF (wants0 rfl); (· intro w' hK; go_simp; (try go_bits); exact ⟨rfl, rfl⟩); simp only [Act.put, pA, pB, pC]
     apply txF (wants0 rfl); (· intro w' hK; have c_CEL8_0 : w'.cell? ⟨g8, o8 + k * 4, none⟩ = some (.int .i64 x7.s) := (by have q := (hK.get m0).2 0 _ rfl; simpa using q); have c_CEL8_1 : w'.cell? ⟨g8, o8 + k * 4 + 1, none⟩ = some (.int .i64 x7.d) := (by have q := (hK.get m0).2 1 _ rfl; simpa using q); have c_CEL8_2 : w'.cell? ⟨g8, o8 + k * 4 + 2, none⟩ = some (.int .i64 x7.a) := (by have q := (hK.get m0).2 2 _ rfl; simpa using q); have c_CEL8_3 : w'.cell? ⟨g8, o8 + k * 4 + 3, none⟩ = some (.int .i64 x7.p) := (by have q := (hK.get m0).2 3 _ rfl; simpa using q); go_simp; (try go_bits); exact ⟨rfl, rfl⟩); simp only [Act.put, pA, pB, pC]
     apply txA2 (.cells #[.int .i64 0, .int .i64 0, .int .i64 0, .int .i64 0] 53) (wants0 rfl)
     · intro w' hK; go_simp; rfl
     intro R9 q_R9
     have o_R3_R9 : R3 < R9 := q_R9.map m2
     have n10 : ob p ≠ some R9 := q_R9.row m1
     clear q_R9
     simp only [mkOf, Act.put, pA, pB, pC]
     apply txU 0 (Has w.heap.size R9 (.cells #[.int .i64 x7.s, .int .i64 x7.d, .int .i64 x7.a, .int .i64 x7.p] 53)) (wants0 rfl)
     · intro l1 hl1 w' hK; have k_R9 := (hK.get m0); have ⟨c_R9_0, c_R9_1, c_R9_2, c_R9_3⟩ := k_R9.c4; have f_R9 := k_R9.fz; go_simp; obtain rfl := hl1.out; exact ⟨rfl, ks_put (R := R9) hK k_R9.1 0 [.int .i64 x7.s, .int .i64 x7.d, .int .i64 x7.a, .int .i64 x7.p] (al1 (fun _ => has_put k_R9 _ _) (al1 (spC (Nat.ne_of_lt (Nat.lt_of_lt_of_le l8 k_R9.1)) (hK.get m1)) (al1 (spO n10 (.inl demK_free) (hK.get m2)) (al1 (spM (Nat.ne_of_lt o_R3_R9) (hK.get m3)) aN))))⟩
     simp only [Act.put, pB]
     refine txEnd (fun W11 hK => ?_)
     go_upto_region 8 with (fail)
     refine wp_region_tx w hK ?_
     clear hK
     apply txF (wants0 rfl); (· intro w' hK; go_simp; (try go_bits); exact ⟨rfl, rfl⟩); simp only [Act.put, pA, pB, pC]
     apply txF (wants0 rfl); (· intro w' hK; have k_R9 := (hK.get m0); have c_R9_0 := k_R9.at 0 rfl; go_simp; (try go_bits); exact ⟨rfl, rfl⟩); simp only [Act.put, pA, pB, pC]
     apply txF (wants0 rfl); (· intro w' hK; go_simp; (try go_bits); exact ⟨rfl, rfl⟩); simp only [Act.put, pA, pB, pC]
     apply txF (wants0 rfl); (· intro w' hK; have k_R9 := (hK.get m0); have c_R9_1 := k_R9.at 1 rfl; go_simp; (try go_bits); exact ⟨rfl, rfl⟩); simp only [Act.put, pA, pB, pC]
     apply txF (wants0 rfl); (· intro w' hK; go_simp; (try go_bits); exact ⟨rfl, rfl⟩); simp only [Act.put, pA, pB, pC]
     apply txF (wants0 rfl); (· intro w' hK; have k_R9 := (hK.get m0); have c_R9_3 := k_R9.at 3 rfl; go_simp; (try go_bits); exact ⟨rfl, rfl⟩); simp only [Act.put, pA, pB, pC]
     apply txF (wants0 rfl); (· intro w' hK; go_simp; (try go_bits); exact ⟨rfl, rfl⟩); simp only [Act.put, pA, pB, pC]
     apply txA2 (.cells #[.int .i64 0, .int .i64 0, .int .i64 0] 76) (wants0 rfl)
     · intro w' hK; go_simp; rfl
     intro R12 q_R12
     have o_R9_R12 : R9 < R12 := q_R12.box m0
     have o_R3_R12 : R3 < R12 := q_R12.map m3
     have n13 : ob p ≠ some R12 := q_R12.row m2
     clear q_R12
     simp only [mkOf, Act.put, pA, pB, pC]
     apply txU 0 (Has w.heap.size R12 (.cells #[.int .i64 x7.s, .int .i64 x7.d, .int .i64 x7.p] 76)) (wants0 rfl)
     · intro l1 hl1 w' hK; have k_R12 := (hK.get m0); have ⟨c_R12_0, c_R12_1, c_R12_2⟩ := k_R12.c3; have f_R12 := k_R12.fz; go_simp; obtain rfl := hl1.out; exact ⟨rfl, ks_put (R := R12) hK k_R12.1 0 [.int .i64 x7.s, .int .i64 x7.d, .int .i64 x7.p] (al1 (fun _ => has_put k_R12 _ _) (al1 (spL o_R9_R12 (hK.get m1)) (al1 (spC (Nat.ne_of_lt (Nat.lt_of_lt_of_le l8 k_R12.1)) (hK.get m2)) (al1 (spO n13 (.inl demK_free) (hK.get m3)) (al1 (spM (Nat.ne_of_lt o_R3_R12) (hK.get m4)) aN)))))⟩
     simp only [Act.put, pB]
     refine txEnd (fun W14 hK => ?_)
     go_upto_region 9 with (fail)
     refine wp_region_tx w hK ?_
     clear hK
     apply txF (wants0 rfl); (· intro w' hK; go_simp; (try go_bits); exact ⟨rfl, rfl⟩); simp only [Act.put, pA, pB, pC]
     apply txF (wants0 rfl); (· intro w' hK; have k_R12 := (hK.get m0); have ⟨c_R12_0, c_R12_1, c_R12_2⟩ := k_R12.c3; go_simp; (try go_bits); exact ⟨rfl, rfl⟩); simp only [Act.put, pA, pB, pC]
     obtain ⟨j15, hj15⟩ : ∃ j : Nat, RowKit.Hid (lkV (keysT ys) (x7.s, x7.d, x7.p) = j) := ⟨_, hid rfl⟩
     obtain ⟨b15m, hb15m⟩ : ∃ b : Bool, RowKit.Hid (lkB (keysT ys) (x7.s, x7.d, x7.p) = b) := ⟨_, hid rfl⟩
     apply txF (v := .tuple #[.int .i64 (j15 : Int), .bool b15m]) (wants0 rfl); (· intro w' hK; have q := run_lookup3 (P := Tryz.prog) mapOk (hK.get m4) (x7.s, x7.d, x7.p); rw [hj15.out, hb15m.out] at q; simp only [triV] at q; go_simp; (try go_bits); exact ⟨rfl, rfl⟩); simp only [Act.put, pA, pB, pC]
     iterate 5 (apply txF (wants0 rfl); (· intro w' hK; go_simp; (try go_bits); exact ⟨rfl, rfl⟩); simp only [Act.put, pA, pB, pC])
     refine txEnd (fun W16 hK => ?_)
     cases b15m
     · --
      go_upto_region 12 with (fail)
      refine wp_region_tx w hK ?_
      clear hK
      apply txF (wants0 rfl); (· intro w' hK; go_simp; (try go_bits); exact ⟨rfl, rfl⟩); simp only [Act.put, pA, pB, pC]
      apply txF (wants0 rfl); (· intro w' hK; have k_R12 := (hK.get m0); have ⟨c_R12_0, c_R12_1, c_R12_2⟩ := k_R12.c3; go_simp; (try go_bits); exact ⟨rfl, rfl⟩); simp only [Act.put, pA, pB, pC]
      iterate 2 (apply txF (wants0 rfl); (· intro w' hK; go_simp; (try go_bits); exact ⟨rfl, rfl⟩); simp only [Act.put, pA, pB, pC])
      refine txUp R3 (x7.s, x7.d, x7.p) (fun w1 => MpV w.heap.size R3 (keysT (snocD ys x7)) w1) [Has w.heap.size R12 (.cells #[.int .i64 x7.s, .int .i64 x7.d, .int .i64 x7.p] 76), Has w.heap.size R9 (.cells #[.int .i64 x7.s, .int .i64 x7.d, .int .i64 x7.a, .int .i64 x7.p] 53), fun w1 => OwV demK 53 w.heap.size w1 (.slice p ys.length c) ys] (wants0 rfl) (fun w' hK => (hK.get m4).1) (fun w' hK => (al1 (has_gt_spare (hK.get m0) o_R3_R12) (al1 (has_gt_spare (hK.get m1) o_R3_R9) (al1 (OwV.spare (hK.get m3) (by rw [ob_eq]; exact hap.out) (.inl demK_free)) aN)))) ?_ ?_
      · intro F1 hF w' hK; have q0 := (hK.get m4); have q := run_update3 (P := Tryz.prog) mapOk q0 (k := (x7.s, x7.d, x7.p)) hb15m.out; have q9 := q0.up (x7.s, x7.d, x7.p); rw [keysT_len] at q; simp only [triV] at q; go_simp; (try go_bits); obtain ⟨w6, e6, rfl⟩ := q; rw [e6]; obtain rfl := hF.out; exact ⟨rfl, ⟨_, rfl⟩, ⟨_, _, q0.2⟩, fun w2 hb => by have z := q9 w2 hb; rw [show keysT ys ++ [(x7.s, x7.d, x7.p)] = keysT (snocD ys x7) from keysT_add _ _] at z; exact z⟩
      simp only [Act.put]
      refine txEnd (fun W17 hK => ?_)
      go_upto_region 13 with (fail)
      refine wp_region_tx w hK ?_
      clear hK
      apply txF (wants0 rfl); (· intro w' hK; go_simp; (try go_bits); exact ⟨rfl, rfl⟩); simp only [Act.put, pA, pB, pC]
      apply txF (wants0 rfl); (· intro w' hK; have k_R9 := (hK.get m2); have ⟨c_R9_0, c_R9_1, c_R9_2, c_R9_3⟩ := k_R9.c4; go_simp; (try go_bits); exact ⟨rfl, rfl⟩); simp only [Act.put, pA, pB, pC]
      apply txA2 (.cells #[.int .i64 x7.s, .int .i64 x7.d, .int .i64 x7.a, .int .i64 x7.p] 53) (wants0 rfl)
      · intro w' hK; go_simp; rfl
      intro R18 q_R18
      have o_R9_R18 : R9 < R18 := q_R18.box m2
      have o_R12_R18 : R12 < R18 := q_R18.box m1
      have o_R3_R18 : R3 < R18 := q_R18.map m0
      have n19 : ob p ≠ some R18 := q_R18.row m3
      clear q_R18
      simp only [mkOf, Act.put, pA, pB, pC]
      refine txApp (K := demK) (t := 53) (xs := ys) (ys := [x7]) (.tmp 48) (.tmp 50) (wants0 rfl) (by rfl) Tryz.underlying22 Tryz.underlying22 infoDm rfl (by rfl) (by rfl) (by simp [maxLen]; omega) (by simp; omega) (fun r => [Has w.heap.size R18 (.cells #[.int .i64 x7.s, .int .i64 x7.d, .int .i64 x7.a, .int .i64 x7.p] 53), fun w1 => MpV w.heap.size R3 (keysT (snocD ys x7)) w1, Has w.heap.size R12 (.cells #[.int .i64 x7.s, .int .i64 x7.d, .int .i64 x7.p] 76), Has w.heap.size R9 (.cells #[.int .i64 x7.s, .int .i64 x7.d, .int .i64 x7.a, .int .i64 x7.p] 53), fun _ => ob r ≠ some R18, fun _ => ob r ≠ some R3, fun _ => ob r ≠ some R12, fun _ => ob r ≠ some R9]) (fun w' hK => ⟨(hK.get m4), (fun _ _ => .inl demK_free), (SlV.one (hK.get m0) rfl (Nat.le_refl 1) (by decide))⟩) (fun w' r hK hr => (al1 (gwH (hK.get m0) n19) (al1 (gwM (hK.get m1) hap.out) (al1 (gwH (hK.get m2) n13) (al1 (gwH (hK.get m3) n10) (al1 (gwC (apb hr n19 ((hK.get m0)).ltS)) (al1 (gwC (apb hr hap.out ((hK.get m1)).lt)) (al1 (gwC (apb hr n13 ((hK.get m2)).ltS)) (al1 (gwC (apb hr n10 ((hK.get m3)).ltS)) aN))))))))) ?_
      intro sv20
      rw [(show ys ++ [x7] = snocD ys x7 from rfl)]
      simp only [Act.put, pA, pB, pC]
      refine Tx.know (Pr := ob sv20.p ≠ some R18) (fun w' hK => hK.get m5) (fun n21 => ?_)
      refine Tx.know (Pr := ob sv20.p ≠ some R3) (fun w' hK => hK.get m6) (fun n22 => ?_)
      refine Tx.know (Pr := ob sv20.p ≠ some R12) (fun w' hK => hK.get m7) (fun n23 => ?_)
      refine Tx.know (Pr := ob sv20.p ≠ some R9) (fun w' hK => hK.get m8) (fun n24 => ?_)
      apply txF (wants0 rfl); (· intro w' hK; go_simp; (try go_bits); exact ⟨rfl, rfl⟩); simp only [Act.put, pA, pB, pC]
      refine txEnd (fun W25 hK => ?_)
      (try go_wp2)
      go_roundw
      case rel => exact ⟨k + 1, sv20.p, sv20.c, (snocD ys x7), (by first | rfl | go_num), (by first | rfl | go_num), (by omega), (hid (by rw [accD_step ex7.out, ← hys.out]; exact (addD_f hb15m.out).symm)), (hid (n22)), ⟨hK.old, (al1 (hK.all _ m0) (al1 (hK.all _ m2) aN))⟩⟩
      case measure => simp [intOf]; omega
     · --
      obtain ⟨y11, ey11⟩ : ∃ x, RowKit.Hid (ys[j15]? = some x) := ⟨_, hid (List.getElem?_eq_getElem (show j15 < ys.length from (lk_lt hb15m.out hj15.out)))⟩
      have i26 : j15 < ys.length := by have q : j15 < ys.length := (lk_lt hb15m.out hj15.out); first | exact q | (simp at q; omega) | omega
      obtain ⟨g26, o26, q26, l26⟩ := ((hK.get m3).slv).ptr ey11.out
      obtain rfl : o26 = 0 := ((hK.get m3)).off q26
      subst q26
      replace hK := KS.atD hK (hK.get m3).slv ey11.out
      have hbd := acc_bd hb1.out (accD_mg (xs.take k)) (by rw [← hys.out]; exact List.mem_of_getElem? ey11.out); have hbd1 := hbd.1; have hbd2 := hbd.2.1
      go_upto_region 11 with (fail)
      have hK0 := hK.subl (sC (sK (sK (sC (sC (sK sZ))))))
      refine wp_region_float0 (w) _ _ [0, 0, 0, 0, 1, 0, 0, 0, 0, 0, 4] (by kernel_rfl) (by kernel_rfl) (by kernel_rfl) (by kernel_rfl) (KS.drew hK0) (KS.drew hK) ?_
      clear hK hK0
      iterate 4 (apply lxF0 (wants0 rfl); (· intro w' h0; go_simp; (try go_bits); exact ⟨rfl, rfl⟩); simp only [Act.put, pA, pB, pC])
      apply lxR0 (wants0 rfl); (· intro w' h0 hK; have c_CEL26_2 : w'.cell? ⟨g26, j15 * 4 + 2, none⟩ = some (.int .i64 y11.a) := (by have q := (hK.get m0).2 2 _ rfl; simpa using q); go_simp; (try go_bits); exact ⟨rfl, rfl⟩); simp only [Act.put, pA, pB, pC]
      apply lxF0 (wants0 rfl); (· intro w' h0; go_simp; (try go_bits); exact ⟨rfl, rfl⟩); simp only [Act.put, pA, pB, pC]
      apply lxF0 (wants0 rfl); (· intro w' h0; have k_R9 := (h0.get m1); have c_R9_2 := k_R9.at 2 rfl; go_simp; (try go_bits); exact ⟨rfl, rfl⟩); simp only [Act.put, pA, pB, pC]
      apply lxF0 (v := .int .i64 (y11.a + x7.a)) (wants0 rfl); (· intro w' h0; go_simp; (try go_bits); exact ⟨congrArg _ (by omega), rfl⟩); simp only [Act.put, pA, pB, pC]
      iterate 2 (apply lxF0 (wants0 rfl); (· intro w' h0; go_simp; (try go_bits); exact ⟨rfl, rfl⟩); simp only [Act.put, pA, pB, pC])
      apply lxS1 [Has w.heap.size R12 (.cells #[.int .i64 x7.s, .int .i64 x7.d, .int .i64 x7.p] 76), Has w.heap.size R9 (.cells #[.int .i64 x7.s, .int .i64 x7.d, .int .i64 x7.a, .int .i64 x7.p] 53), fun w1 => OwV demK 53 w.heap.size w1 (.slice (some ⟨g26, 0, none⟩) ys.length c) (ys.set j15 ((⟨y11.s, y11.d, y11.a + x7.a, y11.p⟩ : Dm))), fun w1 => MpV w.heap.size R3 (keysT ys) w1] (wants0 rfl)
      · intro g0 l1 hl1; intro w' h0 hK; have k_g := (hK.get m4); have f_g := k_g.fz; have c_CEL26_0 : w'.cell? ⟨g26, j15 * 4, none⟩ = some (.int .i64 y11.s) := (by have q := (hK.get m0).2 0 _ rfl; simpa using q); have c_CEL26_1 : w'.cell? ⟨g26, j15 * 4 + 1, none⟩ = some (.int .i64 y11.d) := (by have q := (hK.get m0).2 1 _ rfl; simpa using q); have c_CEL26_2 : w'.cell? ⟨g26, j15 * 4 + 2, none⟩ = some (.int .i64 y11.a) := (by have q := (hK.get m0).2 2 _ rfl; simpa using q); have c_CEL26_3 : w'.cell? ⟨g26, j15 * 4 + 3, none⟩ = some (.int .i64 y11.p) := (by have q := (hK.get m0).2 3 _ rfl; simpa using q); go_simp; obtain ⟨rfl, rfl⟩ := hl1.out; exact ⟨rfl, ks_put (R := g26) h0 (k_g.block rfl).1 (j15 * 4 + 2) [.int .i64 (y11.a + x7.a)] (al1 (spE (fun e => n13 (congrArg some e.symm)) (h0.get m0)) (al1 (spE (fun e => n10 (congrArg some e.symm)) (h0.get m1)) (al1 (spM (fun e => hap.out (congrArg some e.symm)) (h0.get m2)) aN))), ks_put (R := g26) hK (k_g.block rfl).1 (j15 * 4 + 2) [.int .i64 (y11.a + x7.a)] (al1 (spE (fun e => n13 (congrArg some e.symm)) (hK.get m1)) (al1 (spE (fun e => n10 (congrArg some e.symm)) (hK.get m2)) (al1 (OwV.putF (f := dmC) (o := 2) (ds := [.int .i64 (y11.a + x7.a)]) (fun _ _ _ => Iff.rfl) k_g ey11.out rfl (show 3 ≤ 4 from by decide)) (al1 (spM (fun e => hap.out (congrArg some e.symm)) (hK.get m5)) aN))))⟩
      simp only [Act.put]
      refine lxEnd (fun W27 hK => ?_)
      (try go_wp2)
      go_roundw
      case rel => exact ⟨k + 1, (some ⟨g26, 0, none⟩), c, (ys.set j15 ((⟨y11.s, y11.d, y11.a + x7.a, y11.p⟩ : Dm))), (by rw [List.length_set]), (by first | rfl | go_num), (by omega), (hid (by rw [accD_step ex7.out, ← hys.out]; exact (addD_t hb15m.out hj15.out ey11.out).symm)), (hid (hap.out)), ⟨hK.old, (al1 (fun w' hb => by rw [List.length_set]; exact hK.all _ m2 w' hb) (al1 (fun w' hb => Eq.mp (congrArg (fun z => MpV w.heap.size R3 z w') (show keysT ys = keysT ((ys.set j15 ((⟨y11.s, y11.d, y11.a + x7.a, y11.p⟩ : Dm)))) from (keysT_set ey11.out rfl))) (hK.all _ m3 w' hb)) aN))⟩⟩
      case measure => simp [intOf]; omega
end Go.Proofs.YtjhgkojbpgakcaaGreatDoor
