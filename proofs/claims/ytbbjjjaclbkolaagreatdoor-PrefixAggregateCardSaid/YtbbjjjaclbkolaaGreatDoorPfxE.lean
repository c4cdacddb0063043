/- Parse of the program walked. -/
import Derived.Test.YtbbjjjaclbkolaaGreatDoorPfxD
namespace Go.Proofs.YtbbjjjaclbkolaaGreatDoor
open Go.RowKit
open Go.Lib (decDigits)
theorem or_acc {acc m : Nat} {z : Int} (h0 : z = (m : Int)) (h1 : z ≤ 255) : bits BinOp.or IntKind.u32 ((acc * 256 % 4294967296 : Nat) : Int) (m : Int) = ((nxtA acc z : Nat) : Int) := by
  rw [Go.u32_or_nat _ _ (by omega) (by omega), ← nxt_or (by omega) h1, h0]; rfl
theorem piece_in {s x : List UInt8} {k : Nat} (h : (pieces 46 (cutL 47 s))[k]? = some x) (hs : s.length ≤ 18) : x.length ≤ 18 := by
  have h1 := pieces_len (List.mem_of_getElem? h)
  have h2 := cutL_len 47 s
  omega
def Pre (s : List UInt8) (k acc : Nat) : Prop := ∀ b m, TextOf s b m → acc = preA b k
theorem Pre.start (s : List UInt8) : Pre s 0 0 := fun _ _ _ => rfl
theorem text_word {s x : List UInt8} {b k : Nat} {m : Int} (h : TextOf s b m) (hx : (pieces 46 (cutL 47 s))[k]? = some x) : k < 4 ∧ x = decDigits (byt b k) := by
  rw [h.ps] at hx
  match k, hx with
  | 0, hx => exact ⟨by omega, (Option.some.inj hx).symm⟩
  | 1, hx => exact ⟨by omega, (Option.some.inj hx).symm⟩
  | 2, hx => exact ⟨by omega, (Option.some.inj hx).symm⟩
  | 3, hx => exact ⟨by omega, (Option.some.inj hx).symm⟩
  | k + 4, hx => cases hx
theorem atV_dec (n : Nat) : atV (decDigits n) = (n : Int) ∧ atBad (decDigits n) = false := by
  unfold atV atBad
  rw [atoi_dec]; exact ⟨rfl, rfl⟩
theorem Pre.step {s x : List UInt8} {k acc : Nat} {z : Int} (h : Pre s k acc) (hx : (pieces 46 (cutL 47 s))[k]? = some x) (hz : atV x = z) : Pre s (k + 1) (nxtA acc z) := fun b m ht => by
  obtain ⟨h1, rfl⟩ := text_word ht hx
  rw [(atV_dec _).1] at hz
  rw [h b m ht, ← hz, nxt_pre h1]
theorem no_word {s x : List UInt8} {k : Nat} {z : Int} {c : Bool} (hx : (pieces 46 (cutL 47 s))[k]? = some x) (hz : atV x = z) (hc : atBad x = c) (h : c = true ∨ z < 0 ∨ 255 < z) : prA s = 0 ∧ prN s = 0 ∧ prE s = 3 := pr_no fun b m ht => by
  obtain ⟨_, rfl⟩ := text_word ht hx
  have h1 := byt_lt b k
  rw [(atV_dec _).1] at hz
  rw [(atV_dec _).2] at hc
  subst hz; subst hc
  rcases h with h | h | h
  · cases h
  · omega
  · omega
theorem no_shape {s : List UInt8} (h : cutK 47 s = false ∨ 18 < s.length ∨ (pieces 46 (cutL 47 s)).length ≠ 4) : prA s = 0 ∧ prN s = 0 ∧ prE s = 3 := pr_no fun b m ht => by
  rcases h with h | h | h
  · rw [ht.cut.2.2] at h; cases h
  · have := ht.len; omega
  · rw [ht.ps] at h; exact h rfl
theorem no_len {s : List UInt8} {acc : Nat} {z : Int} {c : Bool} (hp : Pre s 4 acc) (hz : atV (cutR 47 s) = z) (hc : atBad (cutR 47 s) = c) (h : c = true ∨ textP acc z ≠ s) : prA s = 0 ∧ prN s = 0 ∧ prE s = 3 := pr_no fun b m ht => by
  rw [ht.cut.2.1, (atV_dec _).1] at hz
  rw [ht.cut.2.1, (atV_dec _).2] at hc
  have h1 := len_vld ht.2.1
  have h2 : acc = b := by rw [hp b m ht, preA_eq ht.1]
  rcases h with h | h
  · subst hc; cases h
  · apply h
    rw [h2, ← hz, show ((m.toNat : Nat) : Int) = m by omega]
    exact ht.2.2
theorem yes_text {s : List UInt8} {acc : Nat} {z : Int} (hw : W32 acc) (hk : cutK 47 s = true) (h : textP acc z = s) : prA s = acc ∧ prN s = z ∧ prE s = 0 := by
  refine pr_ok ⟨hw, ?_, h⟩
  cases hv : vld acc z with
  | true => rfl
  | false => exact absurd (h.symm.trans (textP_bad hv)) (cut_back hk)
set_option maxRecDepth 100000 in
set_option maxHeartbeats 1000000 in
theorem parse_any  (s : List UInt8) (w : World)  (hB0 : Bas w) (hs : s.length ≤ 1000) :
    Calls Tryz.prog 9 #[.string ⟨s.toArray⟩] w fun e w' => e = .returned (.tuple #[.agg #[.int .u32 (prA s : Int), .int .i64 (prN s)], .int .i64 (prE s)]) ∧ Below w.heap.size w w' := by
  have hK : KS w [] w := (KS.start w)
  refine Calls.hide (fun Q0 hQ0 => ?_)
  go_enter Tryz.func9, Tryz.ntmps9
  go_upto_region 0 with (fail)
  refine wp_region_tx w hK ?_
  clear hK
  apply txA (.cells #[.int .u32 0, .int .i64 0] 31) (wants0 rfl)
  · intro w' hK; go_simp; rfl
  intro R1 q_R1
  clear q_R1
  simp only [mkOf, Act.put, pA, pB, pC]
  apply txF (wants0 rfl); (· intro w' hK; go_simp; (try go_bits); exact ⟨rfl, rfl⟩); simp only [Act.put, pA, pB, pC]
  refine txEnd (fun W2 hK => ?_)
  go_upto_region 1 with (fail)
  refine wp_region_tx w hK ?_
  clear hK
  apply txF (wants0 rfl); (· intro w' hK; go_simp; (try go_bits); exact ⟨rfl, rfl⟩); simp only [Act.put, pA, pB, pC]
  obtain ⟨b1, hb1⟩ : ∃ b : Bool, RowKit.Hid ((cutK 47 s) = b) := ⟨_, hid rfl⟩
  apply txH (v := .tuple #[.string ⟨(cutL 47 s).toArray⟩, .string ⟨(cutR 47 s).toArray⟩, .bool b1]) (wants0 rfl)
  · intro v1 hv1 w' hK; go_simp; (try go_bits); refine (cut_b 47 s w' (by omega) (hB0.below hK.old)).mono ?_; rintro e w5 ⟨rfl, hb⟩; obtain rfl := hv1.out; exact ⟨_, rfl, (by rw [hb1.out]), hb⟩
  simp only [Act.put, pA, pB, pC]
  iterate 7 (apply txF (wants0 rfl); (· intro w' hK; go_simp; (try go_bits); exact ⟨rfl, rfl⟩); simp only [Act.put, pA, pB, pC])
  refine txEnd (fun W3 hK => ?_)
  go_upto_region 2 with (fail)
  refine wp_region_tx w hK ?_
  clear hK
  apply txF (wants0 rfl); (· intro w' hK; go_simp; (try go_bits); exact ⟨rfl, rfl⟩); simp only [Act.put, pA, pB, pC]
  apply txE (α := Sl) (fun sv => .slice sv.p (pieces 46 (cutL 47 s)).length sv.c) (fun sv => [fun w1 => OwV strK 9 w.heap.size w1 (.slice sv.p (pieces 46 (cutL 47 s)).length sv.c) (pieces 46 (cutL 47 s)), fun _ => ob sv.p ≠ some R1]) (wants0 rfl)
  · intro f1 l1 hl1 w' hK; go_simp; (try go_bits); refine (split_b 46 (cutL 47 s) w' (by have := cutL_len 47 s; omega) (hB0.below hK.old)).mono ?_; rintro e w5 ⟨y0, rfl, u0, hb⟩; obtain ⟨rfl, rfl⟩ := hl1.out; have u0_0 := u0; obtain ⟨p_u0, c_u0, rfl, n_u0⟩ := u0.sh; exact ⟨_, rfl, (⟨p_u0, 0, c_u0⟩ : Sl), rfl, hb, .cons (fun w2 h2 => (u0_0.mono hK.old.size).below h2) (.cons (fun _ _ => fun e => absurd (u0_0.block e).1 (Nat.not_le.2 ((hK.get m0)).ltS)) (Lasts.nil _))⟩
  rintro ⟨sv4_p, sv4_l, sv4_c⟩
  simp only [Act.put, pA, pB, pC, pD, pE]
  refine Tx.know (Pr := ob sv4_p ≠ some R1) (fun w' hK => hK.get m1) (fun n5 => ?_)
  apply txF (wants0 rfl); (· intro w' hK; go_simp; (try go_bits); exact ⟨rfl, rfl⟩); simp only [Act.put, pA, pB, pC]
  refine txEnd (fun W6 hK => ?_)
  go_upto_region 3 with (fail)
  refine wp_region_tx w hK ?_
  clear hK
  iterate 3 (apply txF (wants0 rfl); (· intro w' hK; go_simp; (try go_bits); exact ⟨rfl, rfl⟩); simp only [Act.put, pA, pB, pC])
  cases b1
  · --
   iterate 3 (apply txN (j := 2) (d := 25) (b := false) rfl rfl rfl rfl; simp only [Act.put, pA, pB, pC])
   iterate 2 (apply txF (wants0 rfl); (· intro w' hK; go_simp; (try go_bits); exact ⟨rfl, rfl⟩); simp only [Act.put, pA, pB, pC])
   iterate 3 (apply txN (j := 7) (d := 30) (b := false) rfl rfl rfl rfl; simp only [Act.put, pA, pB, pC])
   apply txF (wants0 rfl); (· intro w' hK; go_simp; (try go_bits); exact ⟨rfl, rfl⟩); simp only [Act.put, pA, pB, pC]
   refine txEnd (fun W7 hK => ?_)
   go_upto_region 4 with (fail)
   refine wp_region_tx w hK ?_
   clear hK
   apply txF (wants0 rfl); (· intro w' hK; go_simp; (try go_bits); exact ⟨rfl, rfl⟩); simp only [Act.put, pA, pB, pC]
   apply txU 2 (Has w.heap.size R1 (.cells #[.int .u32 0, .int .i64 0] 31)) (wants0 rfl)
   · intro l1 hl1 w' hK; have k_R1 := (hK.get m2); have ⟨c_R1_0, c_R1_1⟩ := k_R1.c2; have f_R1 := k_R1.fz; go_simp; obtain rfl := hl1.out; exact ⟨rfl, ks_put (R := R1) hK k_R1.1 0 [.int .u32 0, .int .i64 0] (al1 (spO n5 (.inl strK_free) (hK.get m0)) (al1 (fun _ _ => (hK.get m1)) (al1 (fun _ => has_put k_R1 _ _) aN)))⟩
   simp only [Act.put, pB, pC]
   apply txF (wants0 rfl); (· intro w' hK; go_simp; (try go_bits); exact ⟨rfl, rfl⟩); simp only [Act.put, pA, pB, pC]
   refine txEnd (fun W8 hK => ?_)
   have k_R1 := (hK.get m2); have ⟨c_R1_0, c_R1_1⟩ := k_R1.c2
   go_wp2
   exact bodyPost_ret (v := .tuple #[.agg #[.int .u32 0, .int .i64 0], .int .i64 3]) (by simp [results, Tryz.results9, go_sem, c_R1_0, c_R1_1]) rfl ((by obtain rfl := hQ0.out; exact ⟨(by have q := no_shape (s := s) (.inl hb1.out); rw [q.1, q.2.1, q.2.2]; rfl), hK.old⟩))
  · --
   iterate 2 (apply txF (wantsg (j := 2) (d := 25) (b := false) rfl rfl rfl rfl); (· intro w' hK; go_simp; (try go_bits); exact ⟨rfl, rfl⟩); simp only [Act.put, pA, pB, pC])
   obtain ⟨b2, hb2⟩ : ∃ b : Bool, RowKit.Hid (decide (18 < ((s.length : Int))) = b) := ⟨_, hid rfl⟩
   apply txB b2 (wantsg (j := 2) (d := 25) (b := false) rfl rfl rfl rfl); (· intro w' hK; go_simp; (try go_bits); exact ⟨by have q := hb2.out; subst q; first | rfl | simp, rfl⟩); simp only [Act.put, pA, pB, pC]
   iterate 2 (apply txF (wants0 rfl); (· intro w' hK; go_simp; (try go_bits); exact ⟨rfl, rfl⟩); simp only [Act.put, pA, pB, pC])
   cases b2
   · --
    have q_b2 : ((s.length : Int)) ≤ 18 := Int.not_lt.1 (of_decide_eq_false hb2.out)
    iterate 2 (apply txF (wantsg (j := 7) (d := 30) (b := false) rfl rfl rfl rfl); (· intro w' hK; go_simp; (try go_bits); exact ⟨rfl, rfl⟩); simp only [Act.put, pA, pB, pC])
    obtain ⟨b3, hb3⟩ : ∃ b : Bool, RowKit.Hid (((((pieces 46 (cutL 47 s)).length : Int)) != 4) = b) := ⟨_, hid rfl⟩
    apply txB b3 (wantsg (j := 7) (d := 30) (b := false) rfl rfl rfl rfl); (· intro w' hK; go_simp; (try go_bits); exact ⟨by have q := hb3.out; subst q; first | rfl | simp, rfl⟩); simp only [Act.put, pA, pB, pC]
    apply txF (wants0 rfl); (· intro w' hK; go_simp; (try go_bits); exact ⟨rfl, rfl⟩); simp only [Act.put, pA, pB, pC]
    refine txEnd (fun W9 hK => ?_)
    cases b3
    · --
     have h4 : (pieces 46 (cutL 47 s)).length ≤ 4 := by have q := hb3.out; simp at q; omega
     go_upto_region 5 with (fail)
     refine wp_region_tx w hK ?_
     clear hK
     apply txA2 (.cells #[.int .u32 0, .int .i64 0] 31) (wants0 rfl)
     · intro w' hK; go_simp; rfl
     intro R10 q_R10
     have o_R1_R10 : R1 < R10 := q_R10.box m2
     have n11 : ob sv4_p ≠ some R10 := q_R10.row m0
     clear q_R10
     simp only [mkOf, Act.put, pA, pB, pC]
     refine txEnd (fun W12 hK => ?_)
     go_wp2_with fail
     go_loopw [38] (fun s38 wl => ∃ (k : Nat) (acc : Nat), s38 = .int .i64 (k : Int) ∧ (k ≤ (pieces 46 (cutL 47 s)).length) ∧ (W32 acc) ∧ RowKit.Hid (Pre s k acc) ∧ KS w [Has w.heap.size R1 (.cells #[.int .u32 0, .int .i64 0] 31), Has w.heap.size R10 (.cells #[.int .u32 (acc : Int), .int .i64 0] 31), fun w1 => OwV strK 9 w.heap.size w1 (.slice sv4_p (pieces 46 (cutL 47 s)).length sv4_c) (pieces 46 (cutL 47 s))] wl) (fun s38 _ => (pieces 46 (cutL 47 s)).length - (intOf s38).toNat)
     case atStart => exact ⟨0, 0, rfl, (by omega), W32.zero, (hid (Pre.start s)), ⟨hK.old, (al1 (hK.all _ m3) (al1 (hK.all _ m0) (al1 (hK.all _ m1) aN)))⟩⟩
     case round =>
      clear hK
      obtain ⟨k, acc, rfl, hk, hw, hp, hK⟩ := hrel
      generalize wr = W13 at hK ⊢
      go_upto_region 7 with (fail)
      refine wp_region_tx w hK ?_
      clear hK
      obtain ⟨b4, hb4⟩ : ∃ b : Bool, RowKit.Hid (decide (((k : Int)) < (((pieces 46 (cutL 47 s)).length : Int))) = b) := ⟨_, hid rfl⟩
      apply txB b4 (wants0 rfl); (· intro w' hK; go_simp; (try go_bits); exact ⟨by have q := hb4.out; subst q; first | rfl | simp, rfl⟩); simp only [Act.put, pA, pB, pC]
      refine txEnd (fun W14 hK => ?_)
      cases b4
      · --
       have q_b4 : (((pieces 46 (cutL 47 s)).length : Int)) ≤ ((k : Int)) := Int.not_lt.1 (of_decide_eq_false hb4.out)
       go_upto_region 14 with (fail)
       refine wp_region_tx w hK ?_
       clear hK
       apply txF (wants0 rfl); (· intro w' hK; go_simp; (try go_bits); exact ⟨rfl, rfl⟩); simp only [Act.put, pA, pB, pC]
       obtain ⟨z1, hz1⟩ : ∃ b : Int, RowKit.Hid ((atV (cutR 47 s)) = b) := ⟨_, hid rfl⟩
       apply txE (α := Nat) (fun sv => .tuple #[.int .i64 z1, errW (atBad (cutR 47 s)) sv]) (fun sv => []) (wants0 rfl)
       · intro f1 l1 hl1 w' hK; go_simp; (try go_bits); refine (atoi_b (cutR 47 s) w' (by have := cutR_len 47 s; omega) (hB0.below hK.old)).mono ?_; rintro e w5 ⟨y0, rfl, u0, hb⟩; obtain ⟨rfl, rfl⟩ := hl1.out; obtain ⟨n_u0, rfl⟩ := u0; exact ⟨_, rfl, n_u0, (by rw [hz1.out]), hb, Lasts.nil _⟩
       intro sv15
       simp only [Act.put, pA, pB, pC, pD, pE]
       iterate 5 (apply txF (wants0 rfl); (· intro w' hK; go_simp; (try go_bits); exact ⟨rfl, rfl⟩); simp only [Act.put, pA, pB, pC])
       refine txEnd (fun W16 hK => ?_)
       go_upto_region 15 with (fail)
       refine wp_region_tx w hK ?_
       clear hK
       iterate 2 (apply txF (wants0 rfl); (· intro w' hK; go_simp; (try go_bits); exact ⟨rfl, rfl⟩); simp only [Act.put, pA, pB, pC])
       apply txU 1 (Has w.heap.size R10 (.cells #[.int .u32 (acc : Int), .int .i64 z1] 31)) (wants0 rfl)
       · intro l1 hl1 w' hK; have k_R10 := (hK.get m1); have ⟨c_R10_0, c_R10_1⟩ := k_R10.c2; have f_R10 := k_R10.fz; go_simp; obtain rfl := hl1.out; exact ⟨rfl, ks_put (R := R10) hK k_R10.1 1 [.int .i64 z1] (al1 (spL o_R1_R10 (hK.get m0)) (al1 (fun _ => has_put k_R10 _ _) (al1 (spO n11 (.inl strK_free) (hK.get m2)) aN)))⟩
       simp only [Act.put, pB, pC]
       refine txEnd (fun W17 hK => ?_)
       obtain ⟨b5, hb5⟩ : ∃ b : Bool, RowKit.Hid (atBad (cutR 47 s) = b) := ⟨_, hid rfl⟩
       go_upto_region 16 with (fail)
       refine wp_region_tx w hK ?_
       clear hK
       apply txF (wants0 rfl); (· intro w' hK; go_simp; (try go_bits); exact ⟨rfl, rfl⟩); simp only [Act.put, pA, pB, pC]
       apply txF (v := .bool b5) (wants0 rfl); (· intro w' hK; go_simp; (try go_bits); unfold errW; rw [hb5.out]; cases b5 <;> (go_simp; (try go_bits); exact ⟨rfl, rfl⟩)); simp only [Act.put, pA, pB, pC]
       apply txF (wants0 rfl); (· intro w' hK; go_simp; (try go_bits); exact ⟨rfl, rfl⟩); simp only [Act.put, pA, pB, pC]
       cases b5
       · --
        apply txF (wantsg (j := 2) (d := 75) (b := false) rfl rfl rfl rfl); (· intro w' hK; have k_R10 := (hK.get m1); have ⟨c_R10_0, c_R10_1⟩ := k_R10.c2; go_simp; (try go_bits); exact ⟨rfl, rfl⟩); simp only [Act.put, pA, pB, pC]
        apply txH (v := .string ⟨(textP acc z1).toArray⟩) (wantsg (j := 2) (d := 75) (b := false) rfl rfl rfl rfl)
        · intro v1 hv1 w' hK; go_simp; (try go_bits); refine (text_any acc z1 w' (hB0.below hK.old) hw).mono ?_; rintro e w5 ⟨rfl, hb⟩; obtain rfl := hv1.out; exact ⟨_, rfl, rfl, hb⟩
        simp only [Act.put, pA, pB, pC]
        apply txF (wantsg (j := 2) (d := 75) (b := false) rfl rfl rfl rfl); (· intro w' hK; go_simp; (try go_bits); exact ⟨rfl, rfl⟩); simp only [Act.put, pA, pB, pC]
        obtain ⟨b6, hb6⟩ : ∃ b : Bool, RowKit.Hid ((!decide ((textP acc z1) = s)) = b) := ⟨_, hid rfl⟩
        apply txB b6 (wantsg (j := 2) (d := 75) (b := false) rfl rfl rfl rfl); (· intro w' hK; go_simp; (try go_bits); exact ⟨by have q := hb6.out; subst q; first | exact congrArg Value.bool (txt_ne _ _) | exact congrArg Value.bool (txt_eq _ _) | exact congrArg Value.bool (txl_ne _ _) | exact congrArg Value.bool (txl_eq _ _) | exact congrArg Value.bool (txl_nil _), rfl⟩); simp only [Act.put, pA, pB, pC]
        apply txF (wants0 rfl); (· intro w' hK; go_simp; (try go_bits); exact ⟨rfl, rfl⟩); simp only [Act.put, pA, pB, pC]
        refine txEnd (fun W18 hK => ?_)
        cases b6
        · --
         go_upto_region 18 with (fail)
         refine wp_region_tx w hK ?_
         clear hK
         apply txF (wants0 rfl); (· intro w' hK; have k_R10 := (hK.get m1); have ⟨c_R10_0, c_R10_1⟩ := k_R10.c2; go_simp; (try go_bits); exact ⟨rfl, rfl⟩); simp only [Act.put, pA, pB, pC]
         apply txU 0 (Has w.heap.size R1 (.cells #[.int .u32 (acc : Int), .int .i64 z1] 31)) (wants0 rfl)
         · intro l1 hl1 w' hK; have k_R1 := (hK.get m0); have ⟨c_R1_0, c_R1_1⟩ := k_R1.c2; have f_R1 := k_R1.fz; go_simp; obtain rfl := hl1.out; exact ⟨rfl, ks_put (R := R1) hK k_R1.1 0 [.int .u32 (acc : Int), .int .i64 z1] (al1 (fun _ => has_put k_R1 _ _) (al1 (spG o_R1_R10 (hK.get m1)) (al1 (spO n5 (.inl strK_free) (hK.get m2)) aN)))⟩
         simp only [Act.put, pB]
         apply txF (wants0 rfl); (· intro w' hK; go_simp; (try go_bits); exact ⟨rfl, rfl⟩); simp only [Act.put, pA, pB, pC]
         refine txEnd (fun W19 hK => ?_)
         have k_R1 := (hK.get m0); have ⟨c_R1_0, c_R1_1⟩ := k_R1.c2
         go_wp2
         exact bodyPost_ret (v := .tuple #[.agg #[.int .u32 (acc : Int), .int .i64 z1], .int .i64 0]) (by simp [results, Tryz.results9, go_sem, c_R1_0, c_R1_1]) rfl ((by obtain rfl := hQ0.out; exact ⟨(by have q := yes_text hw hb1.out (by have q := hb6.out; simpa using q); rw [q.1, q.2.1, q.2.2]), hK.old⟩))
        · --
         go_upto_region 17 with (fail)
         refine wp_region_tx w hK ?_
         clear hK
         apply txF (wants0 rfl); (· intro w' hK; go_simp; (try go_bits); exact ⟨rfl, rfl⟩); simp only [Act.put, pA, pB, pC]
         apply txU 0 (Has w.heap.size R1 (.cells #[.int .u32 0, .int .i64 0] 31)) (wants0 rfl)
         · intro l1 hl1 w' hK; have k_R1 := (hK.get m0); have ⟨c_R1_0, c_R1_1⟩ := k_R1.c2; have f_R1 := k_R1.fz; go_simp; obtain rfl := hl1.out; exact ⟨rfl, ks_put (R := R1) hK k_R1.1 0 [.int .u32 0, .int .i64 0] (al1 (fun _ => has_put k_R1 _ _) (al1 (spG o_R1_R10 (hK.get m1)) (al1 (spO n5 (.inl strK_free) (hK.get m2)) aN)))⟩
         simp only [Act.put, pB]
         apply txF (wants0 rfl); (· intro w' hK; go_simp; (try go_bits); exact ⟨rfl, rfl⟩); simp only [Act.put, pA, pB, pC]
         refine txEnd (fun W20 hK => ?_)
         have k_R1 := (hK.get m0); have ⟨c_R1_0, c_R1_1⟩ := k_R1.c2
         go_wp2
         exact bodyPost_ret (v := .tuple #[.agg #[.int .u32 0, .int .i64 0], .int .i64 3]) (by simp [results, Tryz.results9, go_sem, c_R1_0, c_R1_1]) rfl ((by obtain rfl := hQ0.out; exact ⟨(by have q := no_len (s := s) (acc := acc) (by have q3 := hb3.out; simp at q3; have e : k = 4 := (by omega); rw [← e]; exact hp.out) hz1.out hb5.out (.inr (by have q := hb6.out; simpa using q)); rw [q.1, q.2.1, q.2.2]; rfl), hK.old⟩))
       · --
        iterate 4 (apply txN (j := 2) (d := 75) (b := false) rfl rfl rfl rfl; simp only [Act.put, pA, pB, pC])
        apply txF (wants0 rfl); (· intro w' hK; go_simp; (try go_bits); exact ⟨rfl, rfl⟩); simp only [Act.put, pA, pB, pC]
        refine txEnd (fun W21 hK => ?_)
        go_upto_region 17 with (fail)
        refine wp_region_tx w hK ?_
        clear hK
        apply txF (wants0 rfl); (· intro w' hK; go_simp; (try go_bits); exact ⟨rfl, rfl⟩); simp only [Act.put, pA, pB, pC]
        apply txU 0 (Has w.heap.size R1 (.cells #[.int .u32 0, .int .i64 0] 31)) (wants0 rfl)
        · intro l1 hl1 w' hK; have k_R1 := (hK.get m0); have ⟨c_R1_0, c_R1_1⟩ := k_R1.c2; have f_R1 := k_R1.fz; go_simp; obtain rfl := hl1.out; exact ⟨rfl, ks_put (R := R1) hK k_R1.1 0 [.int .u32 0, .int .i64 0] (al1 (fun _ => has_put k_R1 _ _) (al1 (spG o_R1_R10 (hK.get m1)) (al1 (spO n5 (.inl strK_free) (hK.get m2)) aN)))⟩
        simp only [Act.put, pB]
        apply txF (wants0 rfl); (· intro w' hK; go_simp; (try go_bits); exact ⟨rfl, rfl⟩); simp only [Act.put, pA, pB, pC]
        refine txEnd (fun W22 hK => ?_)
        have k_R1 := (hK.get m0); have ⟨c_R1_0, c_R1_1⟩ := k_R1.c2
        go_wp2
        exact bodyPost_ret (v := .tuple #[.agg #[.int .u32 0, .int .i64 0], .int .i64 3]) (by simp [results, Tryz.results9, go_sem, c_R1_0, c_R1_1]) rfl ((by obtain rfl := hQ0.out; exact ⟨(by have q := no_len (s := s) (acc := acc) (by have q3 := hb3.out; simp at q3; have e : k = 4 := (by omega); rw [← e]; exact hp.out) hz1.out hb5.out (.inl rfl); rw [q.1, q.2.1, q.2.2]; rfl), hK.old⟩))
      · --
       have q_b4 : ((k : Int)) < (((pieces 46 (cutL 47 s)).length : Int)) := of_decide_eq_true hb4.out
       obtain ⟨x8, ex8⟩ : ∃ x, RowKit.Hid ((pieces 46 (cutL 47 s))[k]? = some x) := ⟨_, hid (List.getElem?_eq_getElem (show k < (pieces 46 (cutL 47 s)).length from (by omega)))⟩
       have i23 : k < (pieces 46 (cutL 47 s)).length := by have q : k < (pieces 46 (cutL 47 s)).length := (by omega); first | exact q | (simp at q; omega) | omega
       obtain ⟨g23, o23, q23, l23⟩ := ((hK.get m2).slv).ptr ex8.out
       obtain rfl : o23 = 0 := ((hK.get m2)).off q23
       subst q23
       replace hK := KS.atS hK (hK.get m2).slv ex8.out
       have hx8 : x8.length ≤ 18 := piece_in ex8.out (by omega)
       go_upto_region 8 with (fail)
       refine wp_region_tx w hK ?_
       clear hK
       apply txF (wants0 rfl); (· intro w' hK; go_simp; (try go_bits); exact ⟨rfl, rfl⟩); simp only [Act.put, pA, pB, pC]
       apply txF (wants0 rfl); (· intro w' hK; have c_CEL23_0 : w'.cell? ⟨g23, k, none⟩ = some (.string ⟨x8.toArray⟩) := (by have q := (hK.get m0).2 0 _ rfl; simpa using q); go_simp; (try go_bits); exact ⟨rfl, rfl⟩); simp only [Act.put, pA, pB, pC]
       apply txF (wants0 rfl); (· intro w' hK; go_simp; (try go_bits); exact ⟨rfl, rfl⟩); simp only [Act.put, pA, pB, pC]
       refine txEnd (fun W24 hK => ?_)
       go_upto_region 9 with (fail)
       refine wp_region_tx w hK ?_
       clear hK
       apply txF (wants0 rfl); (· intro w' hK; go_simp; (try go_bits); exact ⟨rfl, rfl⟩); simp only [Act.put, pA, pB, pC]
       obtain ⟨z1, hz1⟩ : ∃ b : Int, RowKit.Hid ((atV x8) = b) := ⟨_, hid rfl⟩
       apply txE (α := Nat) (fun sv => .tuple #[.int .i64 z1, errW (atBad x8) sv]) (fun sv => []) (wants0 rfl)
       · intro f1 l1 hl1 w' hK; go_simp; (try go_bits); refine (atoi_b x8 w' hx8 (hB0.below hK.old)).mono ?_; rintro e w5 ⟨y0, rfl, u0, hb⟩; obtain ⟨rfl, rfl⟩ := hl1.out; obtain ⟨n_u0, rfl⟩ := u0; exact ⟨_, rfl, n_u0, (by rw [hz1.out]), hb, Lasts.nil _⟩
       intro sv25
       simp only [Act.put, pA, pB, pC, pD, pE]
       iterate 5 (apply txF (wants0 rfl); (· intro w' hK; go_simp; (try go_bits); exact ⟨rfl, rfl⟩); simp only [Act.put, pA, pB, pC])
       refine txEnd (fun W26 hK => ?_)
       obtain ⟨b5, hb5⟩ : ∃ b : Bool, RowKit.Hid (atBad x8 = b) := ⟨_, hid rfl⟩
       go_upto_region 10 with (fail)
       refine wp_region_tx w hK ?_
       clear hK
       apply txF (wants0 rfl); (· intro w' hK; go_simp; (try go_bits); exact ⟨rfl, rfl⟩); simp only [Act.put, pA, pB, pC]
       apply txF (v := .bool b5) (wants0 rfl); (· intro w' hK; go_simp; (try go_bits); unfold errW; rw [hb5.out]; cases b5 <;> (go_simp; (try go_bits); exact ⟨rfl, rfl⟩)); simp only [Act.put, pA, pB, pC]
       apply txF (wants0 rfl); (· intro w' hK; go_simp; (try go_bits); exact ⟨rfl, rfl⟩); simp only [Act.put, pA, pB, pC]
       cases b5
       · --
        apply txF (wantsg (j := 2) (d := 49) (b := false) rfl rfl rfl rfl); (· intro w' hK; go_simp; (try go_bits); exact ⟨rfl, rfl⟩); simp only [Act.put, pA, pB, pC]
        obtain ⟨b6, hb6⟩ : ∃ b : Bool, RowKit.Hid (decide (z1 < 0) = b) := ⟨_, hid rfl⟩
        apply txB b6 (wantsg (j := 2) (d := 49) (b := false) rfl rfl rfl rfl); (· intro w' hK; go_simp; (try go_bits); exact ⟨by have q := hb6.out; subst q; first | rfl | simp, rfl⟩); simp only [Act.put, pA, pB, pC]
        iterate 2 (apply txF (wants0 rfl); (· intro w' hK; go_simp; (try go_bits); exact ⟨rfl, rfl⟩); simp only [Act.put, pA, pB, pC])
        cases b6
        · --
         have q_b6 : 0 ≤ z1 := Int.not_lt.1 (of_decide_eq_false hb6.out)
         apply txF (wantsg (j := 6) (d := 53) (b := false) rfl rfl rfl rfl); (· intro w' hK; go_simp; (try go_bits); exact ⟨rfl, rfl⟩); simp only [Act.put, pA, pB, pC]
         obtain ⟨b7, hb7⟩ : ∃ b : Bool, RowKit.Hid (decide (255 < z1) = b) := ⟨_, hid rfl⟩
         apply txB b7 (wantsg (j := 6) (d := 53) (b := false) rfl rfl rfl rfl); (· intro w' hK; go_simp; (try go_bits); exact ⟨by have q := hb7.out; subst q; first | rfl | simp, rfl⟩); simp only [Act.put, pA, pB, pC]
         apply txF (wants0 rfl); (· intro w' hK; go_simp; (try go_bits); exact ⟨rfl, rfl⟩); simp only [Act.put, pA, pB, pC]
         refine txEnd (fun W27 hK => ?_)
         cases b7
         · --
          have q_b7 : z1 ≤ 255 := Int.not_lt.1 (of_decide_eq_false hb7.out)
          obtain ⟨zn, hzn⟩ : ∃ n : Nat, RowKit.Hid (z1 = (n : Int)) := ⟨z1.toNat, hid (by omega)⟩
          go_upto_region 12 with (fail)
          refine wp_region_tx w hK ?_
          clear hK
          apply txF (wants0 rfl); (· intro w' hK; go_simp; (try go_bits); exact ⟨rfl, rfl⟩); simp only [Act.put, pA, pB, pC]
          apply txF (wants0 rfl); (· intro w' hK; have k_R10 := (hK.get m2); have c_R10_0 := k_R10.at 0 rfl; go_simp; (try go_bits); exact ⟨rfl, rfl⟩); simp only [Act.put, pA, pB, pC]
          apply txF (v := .int .u32 ((acc * 256 % 4294967296 : Nat) : Int)) (wants0 rfl); (· intro w' hK; go_simp; (try go_bits); exact ⟨rfl, rfl⟩); simp only [Act.put, pA, pB, pC]
          apply txF (wants0 rfl); (· intro w' hK; go_simp; (try go_bits); exact ⟨rfl, rfl⟩); simp only [Act.put, pA, pB, pC]
          apply txF (v := .int .u32 (zn : Int)) (wants0 rfl); (· intro w' hK; go_simp; (try go_bits); exact ⟨congrArg _ (by have := hzn.out; omega), rfl⟩); simp only [Act.put, pA, pB, pC]
          apply txF (v := .int .u32 ((nxtA acc z1 : Nat) : Int)) (wants0 rfl); (· intro w' hK; go_simp; (try go_bits); exact ⟨congrArg _ (or_acc hzn.out (by omega)), rfl⟩); simp only [Act.put, pA, pB, pC]
          apply txF (wants0 rfl); (· intro w' hK; go_simp; (try go_bits); exact ⟨rfl, rfl⟩); simp only [Act.put, pA, pB, pC]
          apply txS [Has w.heap.size R1 (.cells #[.int .u32 0, .int .i64 0] 31), Has w.heap.size R10 (.cells #[.int .u32 ((nxtA acc z1 : Nat) : Int), .int .i64 0] 31), fun w1 => OwV strK 9 w.heap.size w1 (.slice (some ⟨g23, 0, none⟩) (pieces 46 (cutL 47 s)).length sv4_c) (pieces 46 (cutL 47 s))] (wants0 rfl)
          · intro l1 hl1 w' hK; have k_R10 := (hK.get m2); have ⟨c_R10_0, c_R10_1⟩ := k_R10.c2; have f_R10 := k_R10.fz; go_simp; obtain rfl := hl1.out; exact ⟨rfl, ks_put (R := R10) hK k_R10.1 0 [.int .u32 ((nxtA acc z1 : Nat) : Int)] (al1 (spL o_R1_R10 (hK.get m1)) (al1 (fun _ => has_put k_R10 _ _) (al1 (spO n11 (.inl strK_free) (hK.get m3)) aN)))⟩
          simp only [Act.put]
          refine txEnd (fun W28 hK => ?_)
          (try go_wp2)
          go_roundw
          case rel => exact ⟨k + 1, nxtA acc z1, (by first | rfl | go_num), (by omega), (nxt_w32 (by omega) (by omega)), (hid (hp.out.step ex8.out hz1.out)), ⟨hK.old, (al1 (hK.all _ m0) (al1 (hK.all _ m1) (al1 (hK.all _ m2) aN)))⟩⟩
          case measure => simp [intOf]; omega
         · --
          have q_b7 : 255 < z1 := of_decide_eq_true hb7.out
          go_upto_region 11 with (fail)
          refine wp_region_tx w hK ?_
          clear hK
          apply txF (wants0 rfl); (· intro w' hK; go_simp; (try go_bits); exact ⟨rfl, rfl⟩); simp only [Act.put, pA, pB, pC]
          apply txS [Has w.heap.size R1 (.cells #[.int .u32 0, .int .i64 0] 31), Has w.heap.size R10 (.cells #[.int .u32 (acc : Int), .int .i64 0] 31), fun w1 => OwV strK 9 w.heap.size w1 (.slice (some ⟨g23, 0, none⟩) (pieces 46 (cutL 47 s)).length sv4_c) (pieces 46 (cutL 47 s))] (wants0 rfl)
          · intro l1 hl1 w' hK; have k_R1 := (hK.get m1); have ⟨c_R1_0, c_R1_1⟩ := k_R1.c2; have f_R1 := k_R1.fz; go_simp; obtain rfl := hl1.out; exact ⟨rfl, ks_put (R := R1) hK k_R1.1 0 [.int .u32 0, .int .i64 0] (al1 (fun _ => has_put k_R1 _ _) (al1 (spG o_R1_R10 (hK.get m2)) (al1 (spO n5 (.inl strK_free) (hK.get m3)) aN)))⟩
          simp only [Act.put]
          apply txF (wants0 rfl); (· intro w' hK; go_simp; (try go_bits); exact ⟨rfl, rfl⟩); simp only [Act.put, pA, pB, pC]
          refine txEnd (fun W29 hK => ?_)
          have k_R1 := (hK.get m0); have ⟨c_R1_0, c_R1_1⟩ := k_R1.c2
          go_wp2
          exact bodyPost_ret (v := .tuple #[.agg #[.int .u32 0, .int .i64 0], .int .i64 3]) (by simp [results, Tryz.results9, go_sem, c_R1_0, c_R1_1]) rfl ((by obtain rfl := hQ0.out; exact ⟨(by have q := no_word ex8.out hz1.out hb5.out (.inr (.inr (by omega))); rw [q.1, q.2.1, q.2.2]; rfl), hK.old⟩))
        · --
         have q_b6 : z1 < 0 := of_decide_eq_true hb6.out
         iterate 2 (apply txN (j := 6) (d := 53) (b := false) rfl rfl rfl rfl; simp only [Act.put, pA, pB, pC])
         apply txF (wants0 rfl); (· intro w' hK; go_simp; (try go_bits); exact ⟨rfl, rfl⟩); simp only [Act.put, pA, pB, pC]
         refine txEnd (fun W30 hK => ?_)
         go_upto_region 11 with (fail)
         refine wp_region_tx w hK ?_
         clear hK
         apply txF (wants0 rfl); (· intro w' hK; go_simp; (try go_bits); exact ⟨rfl, rfl⟩); simp only [Act.put, pA, pB, pC]
         apply txS [Has w.heap.size R1 (.cells #[.int .u32 0, .int .i64 0] 31), Has w.heap.size R10 (.cells #[.int .u32 (acc : Int), .int .i64 0] 31), fun w1 => OwV strK 9 w.heap.size w1 (.slice (some ⟨g23, 0, none⟩) (pieces 46 (cutL 47 s)).length sv4_c) (pieces 46 (cutL 47 s))] (wants0 rfl)
         · intro l1 hl1 w' hK; have k_R1 := (hK.get m1); have ⟨c_R1_0, c_R1_1⟩ := k_R1.c2; have f_R1 := k_R1.fz; go_simp; obtain rfl := hl1.out; exact ⟨rfl, ks_put (R := R1) hK k_R1.1 0 [.int .u32 0, .int .i64 0] (al1 (fun _ => has_put k_R1 _ _) (al1 (spG o_R1_R10 (hK.get m2)) (al1 (spO n5 (.inl strK_free) (hK.get m3)) aN)))⟩
         simp only [Act.put]
         apply txF (wants0 rfl); (· intro w' hK; go_simp; (try go_bits); exact ⟨rfl, rfl⟩); simp only [Act.put, pA, pB, pC]
         refine txEnd (fun W31 hK => ?_)
         have k_R1 := (hK.get m0); have ⟨c_R1_0, c_R1_1⟩ := k_R1.c2
         go_wp2
         exact bodyPost_ret (v := .tuple #[.agg #[.int .u32 0, .int .i64 0], .int .i64 3]) (by simp [results, Tryz.results9, go_sem, c_R1_0, c_R1_1]) rfl ((by obtain rfl := hQ0.out; exact ⟨(by have q := no_word ex8.out hz1.out hb5.out (.inr (.inl (by omega))); rw [q.1, q.2.1, q.2.2]; rfl), hK.old⟩))
       · --
        iterate 2 (apply txN (j := 2) (d := 49) (b := false) rfl rfl rfl rfl; simp only [Act.put, pA, pB, pC])
        iterate 2 (apply txF (wants0 rfl); (· intro w' hK; go_simp; (try go_bits); exact ⟨rfl, rfl⟩); simp only [Act.put, pA, pB, pC])
        iterate 2 (apply txN (j := 6) (d := 53) (b := false) rfl rfl rfl rfl; simp only [Act.put, pA, pB, pC])
        apply txF (wants0 rfl); (· intro w' hK; go_simp; (try go_bits); exact ⟨rfl, rfl⟩); simp only [Act.put, pA, pB, pC]
        refine txEnd (fun W32 hK => ?_)
        go_upto_region 11 with (fail)
        refine wp_region_tx w hK ?_
        clear hK
        apply txF (wants0 rfl); (· intro w' hK; go_simp; (try go_bits); exact ⟨rfl, rfl⟩); simp only [Act.put, pA, pB, pC]
        apply txS [Has w.heap.size R1 (.cells #[.int .u32 0, .int .i64 0] 31), Has w.heap.size R10 (.cells #[.int .u32 (acc : Int), .int .i64 0] 31), fun w1 => OwV strK 9 w.heap.size w1 (.slice (some ⟨g23, 0, none⟩) (pieces 46 (cutL 47 s)).length sv4_c) (pieces 46 (cutL 47 s))] (wants0 rfl)
        · intro l1 hl1 w' hK; have k_R1 := (hK.get m1); have ⟨c_R1_0, c_R1_1⟩ := k_R1.c2; have f_R1 := k_R1.fz; go_simp; obtain rfl := hl1.out; exact ⟨rfl, ks_put (R := R1) hK k_R1.1 0 [.int .u32 0, .int .i64 0] (al1 (fun _ => has_put k_R1 _ _) (al1 (spG o_R1_R10 (hK.get m2)) (al1 (spO n5 (.inl strK_free) (hK.get m3)) aN)))⟩
        simp only [Act.put]
        apply txF (wants0 rfl); (· intro w' hK; go_simp; (try go_bits); exact ⟨rfl, rfl⟩); simp only [Act.put, pA, pB, pC]
        refine txEnd (fun W33 hK => ?_)
        have k_R1 := (hK.get m0); have ⟨c_R1_0, c_R1_1⟩ := k_R1.c2
        go_wp2
        exact bodyPost_ret (v := .tuple #[.agg #[.int .u32 0, .int .i64 0], .int .i64 3]) (by simp [results, Tryz.results9, go_sem, c_R1_0, c_R1_1]) rfl ((by obtain rfl := hQ0.out; exact ⟨(by have q := no_word ex8.out hz1.out hb5.out (.inl rfl); rw [q.1, q.2.1, q.2.2]; rfl), hK.old⟩))
    · --
     go_upto_region 4 with (fail)
     refine wp_region_tx w hK ?_
     clear hK
     apply txF (wants0 rfl); (· intro w' hK; go_simp; (try go_bits); exact ⟨rfl, rfl⟩); simp only [Act.put, pA, pB, pC]
     apply txU 2 (Has w.heap.size R1 (.cells #[.int .u32 0, .int .i64 0] 31)) (wants0 rfl)
     · intro l1 hl1 w' hK; have k_R1 := (hK.get m2); have ⟨c_R1_0, c_R1_1⟩ := k_R1.c2; have f_R1 := k_R1.fz; go_simp; obtain rfl := hl1.out; exact ⟨rfl, ks_put (R := R1) hK k_R1.1 0 [.int .u32 0, .int .i64 0] (al1 (spO n5 (.inl strK_free) (hK.get m0)) (al1 (fun _ _ => (hK.get m1)) (al1 (fun _ => has_put k_R1 _ _) aN)))⟩
     simp only [Act.put, pB, pC]
     apply txF (wants0 rfl); (· intro w' hK; go_simp; (try go_bits); exact ⟨rfl, rfl⟩); simp only [Act.put, pA, pB, pC]
     refine txEnd (fun W34 hK => ?_)
     have k_R1 := (hK.get m2); have ⟨c_R1_0, c_R1_1⟩ := k_R1.c2
     go_wp2
     exact bodyPost_ret (v := .tuple #[.agg #[.int .u32 0, .int .i64 0], .int .i64 3]) (by simp [results, Tryz.results9, go_sem, c_R1_0, c_R1_1]) rfl ((by obtain rfl := hQ0.out; exact ⟨(by have q := no_shape (s := s) (.inr (.inr (fun e => by have q := hb3.out; rw [e] at q; simp at q))); rw [q.1, q.2.1, q.2.2]; rfl), hK.old⟩))
   · --
    have q_b2 : 18 < ((s.length : Int)) := of_decide_eq_true hb2.out
    iterate 3 (apply txN (j := 7) (d := 30) (b := false) rfl rfl rfl rfl; simp only [Act.put, pA, pB, pC])
    apply txF (wants0 rfl); (· intro w' hK; go_simp; (try go_bits); exact ⟨rfl, rfl⟩); simp only [Act.put, pA, pB, pC]
    refine txEnd (fun W35 hK => ?_)
    go_upto_region 4 with (fail)
    refine wp_region_tx w hK ?_
    clear hK
    apply txF (wants0 rfl); (· intro w' hK; go_simp; (try go_bits); exact ⟨rfl, rfl⟩); simp only [Act.put, pA, pB, pC]
    apply txU 2 (Has w.heap.size R1 (.cells #[.int .u32 0, .int .i64 0] 31)) (wants0 rfl)
    · intro l1 hl1 w' hK; have k_R1 := (hK.get m2); have ⟨c_R1_0, c_R1_1⟩ := k_R1.c2; have f_R1 := k_R1.fz; go_simp; obtain rfl := hl1.out; exact ⟨rfl, ks_put (R := R1) hK k_R1.1 0 [.int .u32 0, .int .i64 0] (al1 (spO n5 (.inl strK_free) (hK.get m0)) (al1 (fun _ _ => (hK.get m1)) (al1 (fun _ => has_put k_R1 _ _) aN)))⟩
    simp only [Act.put, pB, pC]
    apply txF (wants0 rfl); (· intro w' hK; go_simp; (try go_bits); exact ⟨rfl, rfl⟩); simp only [Act.put, pA, pB, pC]
    refine txEnd (fun W36 hK => ?_)
    have k_R1 := (hK.get m2); have ⟨c_R1_0, c_R1_1⟩ := k_R1.c2
    go_wp2
    exact bodyPost_ret (v := .tuple #[.agg #[.int .u32 0, .int .i64 0], .int .i64 3]) (by simp [results, Tryz.results9, go_sem, c_R1_0, c_R1_1]) rfl ((by obtain rfl := hQ0.out; exact ⟨(by have q := no_shape (s := s) (.inr (.inl (by omega))); rw [q.1, q.2.1, q.2.2]; rfl), hK.old⟩))
end Go.Proofs.YtbbjjjaclbkolaaGreatDoor
