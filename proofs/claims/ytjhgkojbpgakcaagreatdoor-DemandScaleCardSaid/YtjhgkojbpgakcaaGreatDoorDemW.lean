/- The examples of the document; the laws of valid and of merged lists. -/
import Derived.Test.YtjhgkojbpgakcaaGreatDoorDemR
import Derived.Test.YtjhgkojbpgakcaaGreatDoorDemU
import Derived.Test.YtjhgkojbpgakcaaGreatDoorDemV
namespace Go.Proofs.YtjhgkojbpgakcaaGreatDoor
open Go.RowKit
open Go.Lib (decDigits)
def exA : List Dm := [⟨0, 1, 3, 0⟩, ⟨2, 0, 1, 0⟩, ⟨0, 1, 4, 0⟩]
def exB : List Dm := [⟨0, 1, 7, 0⟩, ⟨2, 0, 1, 0⟩]
def exC : List Dm := [⟨0, 1, 3, 0⟩]
theorem exA_v : vldD 3 exA = true ∧ vldD 64 exA = true := by decide +kernel
theorem exA_t : totD cntA exA = 8 := by decide +kernel
theorem exA_m : mgD exA = exB := by rw [← racD_eq exA_v.2]; decide +kernel
theorem exC_t : textD exC = [100, 101, 109, 97, 110, 100, 32, 48, 32, 49, 32, 51, 32, 48, 10] := by decide +kernel
theorem valid_lit {v : Value} (w : World) (h : SlV demK w v exA) : Calls Tryz.prog 18 #[.int .i64 3, v] w fun e w' => e = .returned (.bool true) ∧ Below w.heap.size w w' := by
  have q := valid_any v 3 exA w h (by decide)
  rw [exA_v.1] at q; exact q
theorem total_lit {v : Value} (w : World) (h : SlV demK w v exA) : Calls Tryz.prog 17 #[v] w fun e w' => e = .returned (.int .i64 8) ∧ Below w.heap.size w w' := by
  have q := total_any v exA w h (by decide)
  rw [exA_t] at q; exact q
theorem merge_lit {v : Value} (w : World) (h : SlV demK w v exA) : Calls Tryz.prog 20 #[v] w fun e w' => ∃ y0, e = .returned y0 ∧ OwV demK 53 w.heap.size w' y0 exB ∧ Below w.heap.size w w' := by
  have q := merge_any v exA w h (by decide)
  rw [exA_m] at q; exact q
theorem same_lit {v u : Value} (w : World) (h : SlV demK w v exB) (h2 : SlV demK w u exB) : Calls Tryz.prog 19 #[v, u] w fun e w' => e = .returned (.bool true) ∧ Below w.heap.size w w' := by
  have q := same_any v u exB exB w h h2 (by decide) (by decide)
  rw [decide_eq_true (rfl : exB = exB)] at q; exact q
theorem text_lit {v : Value} (w : World) (hB : Tab w) (h : SlV demK w v exC) : Calls Tryz.prog 21 #[v] w fun e w' => e = .returned (.string ⟨#[100, 101, 109, 97, 110, 100, 32, 48, 32, 49, 32, 51, 32, 48, 10]⟩) ∧ Below w.heap.size w w' := by
  have q := dtext_any v exC w h hB (by decide)
  rw [exC_t] at q; exact q
set_option maxRecDepth 100000 in
theorem awake_any   (w : World)  (hB0 : Tab w)  :
    Calls Tryz.prog 4 #[] w fun e w' => e = .returned (.bool true) ∧ Below w.heap.size w w' := by
  have hK : KS w [] w := (KS.start w)
  refine Calls.hide (fun Q0 hQ0 => ?_)
  go_enter Tryz.func4, Tryz.ntmps4
  go_upto_region 1 with (fail)
  refine wp_region_tx w hK ?_
  clear hK
  iterate 3 (apply txF (wants0 rfl); (· intro w' hK; go_simp; (try go_bits); exact ⟨rfl, rfl⟩); simp only [Act.put, pA, pB, pC])
  apply txA (.cells #[.int .i64 0, .int .i64 1, .int .i64 3, .int .i64 0, .int .i64 2, .int .i64 0, .int .i64 1, .int .i64 0, .int .i64 0, .int .i64 1, .int .i64 4, .int .i64 0] 53) (wants0 rfl)
  · intro w' hK; go_simp; rfl
  intro R1 q_R1
  clear q_R1
  simp only [mkOf, Act.put, pA, pB, pC]
  apply txF (wants0 rfl); (· intro w' hK; go_simp; (try go_bits); exact ⟨rfl, rfl⟩); simp only [Act.put, pA, pB, pC]
  refine txEnd (fun W2 hK => ?_)
  go_upto_region 2 with (fail)
  refine wp_region_tx w hK ?_
  clear hK
  apply txF (wants0 rfl); (· intro w' hK; go_simp; (try go_bits); exact ⟨rfl, rfl⟩); simp only [Act.put, pA, pB, pC]
  apply txH (v := .bool true) (wants0 rfl)
  · intro v1 hv1 w' hK; go_simp; (try go_bits); refine (valid_lit w' (SlV.ofBox (K := demK) (f := dmC) (xs := [(⟨0, 1, 3, 0⟩ : Dm), (⟨2, 0, 1, 0⟩ : Dm), (⟨0, 1, 4, 0⟩ : Dm)]) (fun _ _ => rfl) (hK.get m0) (by simp))).mono ?_; rintro e w5 ⟨rfl, hb⟩; obtain rfl := hv1.out; exact ⟨_, rfl, rfl, hb⟩
  simp only [Act.put, pA, pB, pC]
  apply txF (wants0 rfl); (· intro w' hK; go_simp; (try go_bits); exact ⟨rfl, rfl⟩); simp only [Act.put, pA, pB, pC]
  apply txF (wantsg (j := 2) (d := 8) (b := true) rfl rfl rfl rfl); (· intro w' hK; go_simp; (try go_bits); exact ⟨rfl, rfl⟩); simp only [Act.put, pA, pB, pC]
  apply txH (v := .int .i64 8) (wantsg (j := 2) (d := 8) (b := true) rfl rfl rfl rfl)
  · intro v1 hv1 w' hK; go_simp; (try go_bits); refine (total_lit w' (SlV.ofBox (K := demK) (f := dmC) (xs := [(⟨0, 1, 3, 0⟩ : Dm), (⟨2, 0, 1, 0⟩ : Dm), (⟨0, 1, 4, 0⟩ : Dm)]) (fun _ _ => rfl) (hK.get m0) (by simp))).mono ?_; rintro e w5 ⟨rfl, hb⟩; obtain rfl := hv1.out; exact ⟨_, rfl, rfl, hb⟩
  simp only [Act.put, pA, pB, pC]
  apply txF (wantsg (j := 2) (d := 8) (b := true) rfl rfl rfl rfl); (· intro w' hK; go_simp; (try go_bits); exact ⟨rfl, rfl⟩); simp only [Act.put, pA, pB, pC]
  iterate 2 (apply txF (wants0 rfl); (· intro w' hK; go_simp; (try go_bits); exact ⟨rfl, rfl⟩); simp only [Act.put, pA, pB, pC])
  apply txF (wantsg (j := 7) (d := 13) (b := true) rfl rfl rfl rfl); (· intro w' hK; go_simp; (try go_bits); exact ⟨rfl, rfl⟩); simp only [Act.put, pA, pB, pC]
  apply txE (α := Sl) (fun sv => .slice sv.p exB.length sv.c) (fun sv => [fun w1 => OwV demK 53 w.heap.size w1 (.slice sv.p exB.length sv.c) exB, fun _ => ob sv.p ≠ some R1]) (wantsg (j := 7) (d := 13) (b := true) rfl rfl rfl rfl)
  · intro f1 l1 hl1 w' hK; go_simp; (try go_bits); refine (merge_lit w' (SlV.ofBox (K := demK) (f := dmC) (xs := [(⟨0, 1, 3, 0⟩ : Dm), (⟨2, 0, 1, 0⟩ : Dm), (⟨0, 1, 4, 0⟩ : Dm)]) (fun _ _ => rfl) (hK.get m0) (by simp))).mono ?_; rintro e w5 ⟨y0, rfl, u0, hb⟩; obtain ⟨rfl, rfl⟩ := hl1.out; have u0_0 := u0; obtain ⟨p_u0, c_u0, rfl, n_u0⟩ := u0.sh; exact ⟨_, rfl, (⟨p_u0, 0, c_u0⟩ : Sl), rfl, hb, .cons (fun w2 h2 => (u0_0.mono hK.old.size).below h2) (.cons (fun _ _ => fun e => absurd (u0_0.block e).1 (Nat.not_le.2 ((hK.get m0)).ltS)) (Lasts.nil _))⟩
  intro sv3
  simp only [Act.put, pA, pB, pC, pD, pE]
  refine Tx.know (Pr := ob sv3.p ≠ some R1) (fun w' hK => hK.get m1) (fun n4 => ?_)
  iterate 2 (apply txF (wantsg (j := 7) (d := 13) (b := true) rfl rfl rfl rfl); (· intro w' hK; go_simp; (try go_bits); exact ⟨rfl, rfl⟩); simp only [Act.put, pA, pB, pC])
  apply txA2 (.cells #[.int .i64 0, .int .i64 1, .int .i64 7, .int .i64 0, .int .i64 2, .int .i64 0, .int .i64 1, .int .i64 0] 53) (wantsg (j := 7) (d := 13) (b := true) rfl rfl rfl rfl)
  · intro w' hK; go_simp; rfl
  intro R5 q_R5
  have o_R1_R5 : R1 < R5 := q_R5.box m2
  have n6 : ob sv3.p ≠ some R5 := q_R5.row m0
  clear q_R5
  simp only [mkOf, Act.put, pA, pB, pC]
  apply txH (v := .bool true) (wantsg (j := 7) (d := 13) (b := true) rfl rfl rfl rfl)
  · intro v1 hv1 w' hK; go_simp; (try go_bits); refine (same_lit w' (hK.get m1).slv (SlV.ofBox (K := demK) (f := dmC) (xs := [(⟨0, 1, 7, 0⟩ : Dm), (⟨2, 0, 1, 0⟩ : Dm)]) (fun _ _ => rfl) (hK.get m0) (by simp))).mono ?_; rintro e w5 ⟨rfl, hb⟩; obtain rfl := hv1.out; exact ⟨_, rfl, rfl, hb⟩
  simp only [Act.put, pA, pB, pC]
  iterate 2 (apply txF (wants0 rfl); (· intro w' hK; go_simp; (try go_bits); exact ⟨rfl, rfl⟩); simp only [Act.put, pA, pB, pC])
  apply txF (wantsg (j := 15) (d := 21) (b := true) rfl rfl rfl rfl); (· intro w' hK; go_simp; (try go_bits); exact ⟨rfl, rfl⟩); simp only [Act.put, pA, pB, pC]
  apply txF (v := .slice (some ⟨R1, 0, none⟩) 1 3) (wantsg (j := 15) (d := 21) (b := true) rfl rfl rfl rfl); (· intro w' hK; go_simp; (try go_bits); exact ⟨rfl, rfl⟩); simp only [Act.put, pA, pB, pC]
  apply txH (v := .string ⟨#[100, 101, 109, 97, 110, 100, 32, 48, 32, 49, 32, 51, 32, 48, 10]⟩) (wantsg (j := 15) (d := 21) (b := true) rfl rfl rfl rfl)
  · intro v1 hv1 w' hK; go_simp; (try go_bits); refine (text_lit w' (hB0.below hK.old) ((SlV.ofBox (K := demK) (f := dmC) (xs := exA) (fun _ _ => rfl) (hK.get m3) (by decide)).take (m := 1) (by decide))).mono ?_; rintro e w5 ⟨rfl, hb⟩; obtain rfl := hv1.out; exact ⟨_, rfl, rfl, hb⟩
  simp only [Act.put, pA, pB, pC]
  apply txF (v := .bool true) (wantsg (j := 15) (d := 21) (b := true) rfl rfl rfl rfl); (· intro w' hK; go_simp; (try go_bits); first | exact ⟨rfl, rfl⟩ | exact ⟨congrArg Value.bool (by simp), rfl⟩); simp only [Act.put, pA, pB, pC]
  apply txF (wants0 rfl); (· intro w' hK; go_simp; (try go_bits); exact ⟨rfl, rfl⟩); simp only [Act.put, pA, pB, pC]
  apply txF (wants0 rfl); (· intro w' hK; go_simp; (try go_bits); exact ⟨rfl, rfl⟩); simp only [Act.put, pA, pB]
  refine txEnd (fun W7 hK => ?_)
  go_wp2
  try go_ret
  show Q0 (.returned (.bool true)) _
  exact (by obtain rfl := hQ0.out; exact ⟨rfl, hK.old⟩)
end Go.Proofs.YtjhgkojbpgakcaaGreatDoor
