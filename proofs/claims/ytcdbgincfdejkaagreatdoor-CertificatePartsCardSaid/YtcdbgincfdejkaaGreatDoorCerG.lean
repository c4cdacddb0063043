/- The laws of certificates walked: examples, Check, parts, weak. -/
import Derived.Test.YtcdbgincfdejkaaGreatDoorTz
import Derived.Test.YtcdbgincfdejkaaGreatDoorCerF
namespace Go.Proofs.YtcdbgincfdejkaaGreatDoor
open Go.RowKit
open Go.Lib (decDigits)
theorem SlV.two {α : Type} {K : EK α} {base R c : Nat} {w : World} {cs1 cs2 : List Value} {x y : α} {ty : TypeId} (h : Has base R (.cells (cs1 ++ cs2).toArray ty) w) (h1 : K.R w cs1 x) (h2 : K.R w cs2 y) (hc : 2 ≤ c) (hc2 : c ≤ 9223372036854775807) : SlV K w (.slice (some ⟨R, 0, none⟩) 2 c) [x, y] := by
  refine ⟨[cs1, cs2], ⟨rfl, fun k cs z c1 c2 => ?_⟩, .inr ⟨R, 0, c, rfl, h.ltS, hc, hc2, fun k cs' j u c1 c2 => ?_⟩⟩
  · match k, c1, c2 with
    | 0, c1, c2 => cases c1; cases c2; exact h1
    | 1, c1, c2 => cases c1; cases c2; exact h2
  · have l1 := K.len h1
    have l2 := K.len h2
    match k, c1 with
    | 0, c1 =>
      cases c1
      have hj := (List.getElem?_eq_some_iff.1 c2).1
      exact h.at _ (by rw [show 0 + 0 * K.sz + j = j by omega, List.getElem?_append_left hj]; exact c2)
    | 1, c1 =>
      cases c1
      exact h.at _ (by rw [show 0 + 1 * K.sz + j = cs1.length + j by omega, List.getElem?_append_right (by omega), Nat.add_sub_cancel_left]; exact c2)
def exS : Sm := ⟨[1, 1], [1, 2, 3, 1], [4, 6]⟩
theorem exS_ok : exS.Ok := by
  refine ⟨?_, ?_, ?_, by decide, by decide, by decide⟩ <;> (unfold exS Rng8; decide)
def exP : LPd := ofSm exS
theorem exP_ok : exP.Ok := ofSm_ok exS
theorem exP_lm (k : Nat) (hk : 2 ≤ k) : LmP k exP := ofSm_lm exS_ok k hk
theorem smof_lit {R1 R2 R3 b1 b2 b3 : Nat} (w : World) (h1 : Has b1 R1 (.cells #[.int .i8 1, .int .i8 1] 25) w) (h2 : Has b2 R2 (.cells #[.int .i8 1, .int .i8 2, .int .i8 3, .int .i8 1] 25) w) (h3 : Has b3 R3 (.cells #[.int .i8 4, .int .i8 6] 25) w) :
    Calls Tryz.prog 21 #[.agg #[.slice (some ⟨R1, 0, none⟩) 2 2, .slice (some ⟨R2, 0, none⟩) 4 4, .slice (some ⟨R3, 0, none⟩) 2 2]] w fun e w' => ∃ y0, e = .returned y0 ∧ RpO w.heap.size w' y0 exP ∧ Below w.heap.size w w' :=
  smof_any _ exS w ⟨⟨some ⟨R1, 0, none⟩, 0, 2⟩, ⟨some ⟨R2, 0, none⟩, 0, 4⟩, ⟨some ⟨R3, 0, none⟩, 0, 2⟩, rfl, SlV.ofBox (K := i8K) (f := fun x => [.int .i8 x]) (xs := exS.c) (fun _ _ => rfl) h1 (by decide), SlV.ofBox (K := i8K) (f := fun x => [.int .i8 x]) (xs := exS.a) (fun _ _ => rfl) h2 (by decide), SlV.ofBox (K := i8K) (f := fun x => [.int .i8 x]) (xs := exS.b) (fun _ _ => rfl) h3 (by decide)⟩ exS_ok
def exX : List Rat := [((1 : Int) : Rat), ((1 : Int) : Rat)]
def exY : List Rat := [((1 : Int) : Rat), ((0 : Int) : Rat)]
theorem ints_lm {a b : Int} (ha : -100 ≤ a) (ha2 : a ≤ 100) (hb : -100 ≤ b) (hb2 : b ≤ 100) : LmL 50 [(a : Rat), (b : Rat)] := fun x hx => by
  simp only [List.mem_cons, List.not_mem_nil, or_false] at hx
  rcases hx with rfl | rfl
  · exact (LmQ.int (by omega) (by omega)).up (by decide)
  · exact (LmQ.int (by omega) (by omega)).up (by decide)
theorem exGap : gapE exP exX exY = 0 ∧ gapQ exP exX exY = 2 := by decide +kernel
theorem gap_lit {v1 v2 v3 : Value} (w : World) (h1 : LpV w v1 exP) (h2 : SlV ratK w v2 [((1 : Int) : Rat), ((1 : Int) : Rat)]) (h3 : SlV ratK w v3 [((1 : Int) : Rat), ((0 : Int) : Rat)]) :
    Calls Tryz.prog 29 #[v1, v2, v3] w fun e w' => ∃ y0, e = .returned (.tuple #[y0, .int .i64 0]) ∧ RatV w' y0 2 ∧ Below w.heap.size w w' := by
  have q := gap_any v1 v2 v3 exP exX exY w h1 h2 h3 (exP_lm 300 (by decide)) ((ints_lm (by decide) (by decide) (by decide) (by decide)).up (by decide)) ((ints_lm (by decide) (by decide) (by decide) (by decide)).up (by decide)) (by decide) (by decide) (by decide)
  rw [exGap.1, exGap.2] at q; exact q
theorem exTxt : textQ 2 = [50] := by decide +kernel
theorem two_lm : LmQ 50 (2 : Rat) := by
  rw [show (2 : Rat) = ((2 : Int) : Rat) by decide +kernel]
  exact (LmQ.int (by decide) (by decide)).up (by decide)
theorem text_lit {v : Value} (w : World) (h : RatV w v 2) (hB : Bas w) : Calls Tryz.prog 44 #[v] w fun e w' => e = .returned (.string ⟨#[50]⟩) ∧ Below w.heap.size w w' := by
  have q := qtext_q v 2 w h hB two_lm (by decide)
  rw [exTxt] at q; exact q
def exR : LpRes := ⟨1, frL [⟨8, 5⟩, ⟨6, 5⟩], frL [⟨2, 5⟩, ⟨1, 5⟩], [], frX ⟨14, 5⟩⟩
theorem exChk : chkB exP exR = true ∧ chkB exP ⟨1, [], [], [], 0⟩ = false := by decide +kernel
theorem frc_ok {a b : Int} (h1 : -128 ≤ a) (h2 : a ≤ 127) (h3 : -128 ≤ b) (h4 : b ≤ 127) : (⟨a, b⟩ : Frc).Ok := ⟨⟨h1, h2⟩, h3, h4⟩
theorem frcs_ok {a b c d : Int} (h : (-128 ≤ a ∧ a ≤ 127) ∧ (-128 ≤ b ∧ b ≤ 127) ∧ (-128 ≤ c ∧ c ≤ 127) ∧ (-128 ≤ d ∧ d ≤ 127)) : ∀ x ∈ [(⟨a, b⟩ : Frc), ⟨c, d⟩], x.Ok := fun x hx => by
  simp only [List.mem_cons, List.not_mem_nil, or_false] at hx
  rcases hx with rfl | rfl
  · exact frc_ok h.1.1 h.1.2 h.2.1.1 h.2.1.2
  · exact frc_ok h.2.2.1.1 h.2.2.1.2 h.2.2.2.1 h.2.2.2.2
theorem exR_lm : LmR exR := ⟨(frL_lm (frcs_ok (by decide))).up (by decide), (frL_lm (frcs_ok (by decide))).up (by decide), fun x hx => (List.not_mem_nil hx).elim, (frX_lm (frc_ok (by decide) (by decide) (by decide) (by decide))).up (by decide), by decide, by decide, by decide⟩
theorem zeR_lm : LmR ⟨1, [], [], [], 0⟩ := ⟨fun x hx => (List.not_mem_nil hx).elim, fun x hx => (List.not_mem_nil hx).elim, fun x hx => (List.not_mem_nil hx).elim, LmQ.zero.up (by decide), by decide, by decide, by decide⟩
theorem check_lit {v1 v2 : Value} {R : LpRes} {b : Bool} (w : World) (h1 : LpV w v1 exP) (h2 : LrV w v2 R) (hR : LmR R) (hb : chkB exP R = b) : Calls Tryz.prog 23 #[v1, v2] w fun e w' => e = .returned (.bool b) ∧ Below w.heap.size w w' := by
  have q := check_any v1 v2 exP R w h1 h2 (exP_lm 300 (by decide)) hR (by decide)
  rw [hb] at q; exact q
set_option maxRecDepth 100000 in
set_option maxHeartbeats 1000000 in
theorem awake41_any   (w : World)  (hB0 : Bas w)  :
    Calls Tryz.prog 19 #[] w fun e w' => e = .returned (.bool true) ∧ Below w.heap.size w w' := by
  have hK := (KS.start w)
  refine Calls.hide (fun Q0 hQ0 => ?_)
  go_enter Tryz.func19, Tryz.ntmps19
  go_upto_region 1 with (fail)
  refine wp_region_tx w hK ?_
  clear hK
  refine tA (.cells #[.int .i8 1, .int .i8 1] 25) (fun R1 q_R1 => ?_)
  clear q_R1
  refine tA (.cells #[.int .i8 1, .int .i8 2, .int .i8 3, .int .i8 1] 25) (fun R2 q_R2 => ?_)
  have o_R1_R2 : R1 < R2 := q_R2 _ _ _ m0
  clear q_R2
  refine tA (.cells #[.int .i8 4, .int .i8 6] 25) (fun R3 q_R3 => ?_)
  have o_R1_R3 : R1 < R3 := q_R3 _ _ _ m1
  have o_R2_R3 : R2 < R3 := q_R3 _ _ _ m0
  clear q_R3
  refine tF ?_
  apply txE (α := Duo Sl (Duo Sl Sl)) (fun sv => .agg #[.slice sv.a.p exP.c.length sv.a.c, .slice sv.b.a.p exP.A.length sv.b.a.c, .slice sv.b.b.p exP.b.length sv.b.b.c]) (fun sv => [fun w1 => OwV refK 41 w.heap.size w1 (.slice sv.a.p exP.c.length sv.a.c) exP.c, fun w1 => OwV rfK 33 w.heap.size w1 (.slice sv.b.a.p exP.A.length sv.b.a.c) exP.A, fun w1 => OwV refK 41 w.heap.size w1 (.slice sv.b.b.p exP.b.length sv.b.b.c) exP.b, fun _ => ob sv.a.p ≠ some R1, fun _ => ob sv.a.p ≠ some R2, fun _ => ob sv.a.p ≠ some R3, fun _ => ob sv.b.a.p ≠ some R1, fun _ => ob sv.b.a.p ≠ some R2, fun _ => ob sv.b.a.p ≠ some R3, fun _ => ob sv.b.b.p ≠ some R1, fun _ => ob sv.b.b.p ≠ some R2, fun _ => ob sv.b.b.p ≠ some R3]) (wants0 rfl)
  · intro f1 l1 hl1 w' hK; go_simp; (try go_bits); refine (smof_lit w' (hK.get m2) (hK.get m1) (hK.get m0)).mono ?_; rintro e w5 ⟨y0, rfl, u0, hb⟩; obtain ⟨rfl, rfl⟩ := hl1.out; have u0_0 := u0; obtain ⟨⟨p_u0, l_u0, c_u0⟩, ⟨q_u0, m_u0, d_u0⟩, ⟨r_u0, n_u0, e_u0⟩, rfl, u0_1, u0_2, u0_3⟩ := u0; exact ⟨_, rfl, (⟨⟨p_u0, 0, c_u0⟩, ⟨⟨q_u0, 0, d_u0⟩, ⟨r_u0, 0, e_u0⟩⟩⟩ : Duo Sl (Duo Sl Sl)), rfl, hb, .cons (fun w2 h2 => (u0_1.mono hK.old.size).below h2) (.cons (fun w2 h2 => (u0_2.mono hK.old.size).below h2) (.cons (fun w2 h2 => (u0_3.mono hK.old.size).below h2) (.cons (fun _ _ => fun e => absurd (u0_1.block e).1 (Nat.not_le.2 ((hK.get m2)).ltS)) (.cons (fun _ _ => fun e => absurd (u0_1.block e).1 (Nat.not_le.2 ((hK.get m1)).ltS)) (.cons (fun _ _ => fun e => absurd (u0_1.block e).1 (Nat.not_le.2 ((hK.get m0)).ltS)) (.cons (fun _ _ => fun e => absurd (u0_2.block e).1 (Nat.not_le.2 ((hK.get m2)).ltS)) (.cons (fun _ _ => fun e => absurd (u0_2.block e).1 (Nat.not_le.2 ((hK.get m1)).ltS)) (.cons (fun _ _ => fun e => absurd (u0_2.block e).1 (Nat.not_le.2 ((hK.get m0)).ltS)) (.cons (fun _ _ => fun e => absurd (u0_3.block e).1 (Nat.not_le.2 ((hK.get m2)).ltS)) (.cons (fun _ _ => fun e => absurd (u0_3.block e).1 (Nat.not_le.2 ((hK.get m1)).ltS)) (.cons (fun _ _ => fun e => absurd (u0_3.block e).1 (Nat.not_le.2 ((hK.get m0)).ltS)) (Lasts.nil _))))))))))))⟩
  intro sv4
  simp only [Act.put, pA, pB, pC, pD, pE]
  refine Tx.know (Pr := ob sv4.a.p ≠ some R1) (fun w' hK => hK.get m3) (fun n5 => ?_)
  refine Tx.know (Pr := ob sv4.a.p ≠ some R2) (fun w' hK => hK.get m4) (fun n6 => ?_)
  refine Tx.know (Pr := ob sv4.a.p ≠ some R3) (fun w' hK => hK.get m5) (fun n7 => ?_)
  refine Tx.know (Pr := ob sv4.b.a.p ≠ some R1) (fun w' hK => hK.get m6) (fun n8 => ?_)
  refine Tx.know (Pr := ob sv4.b.a.p ≠ some R2) (fun w' hK => hK.get m7) (fun n9 => ?_)
  refine Tx.know (Pr := ob sv4.b.a.p ≠ some R3) (fun w' hK => hK.get m8) (fun n10 => ?_)
  refine Tx.know (Pr := ob sv4.b.b.p ≠ some R1) (fun w' hK => hK.get m9) (fun n11 => ?_)
  refine Tx.know (Pr := ob sv4.b.b.p ≠ some R2) (fun w' hK => hK.get m10) (fun n12 => ?_)
  refine Tx.know (Pr := ob sv4.b.b.p ≠ some R3) (fun w' hK => hK.get m11) (fun n13 => ?_)
  apply txE (α := Duo Sl (Duo Sl Sl)) (fun sv => .agg #[.slice sv.a.p exP.c.length sv.a.c, .slice sv.b.a.p exP.A.length sv.b.a.c, .slice sv.b.b.p exP.b.length sv.b.b.c]) (fun sv => [fun w1 => OwV ratK 55 w.heap.size w1 (.slice sv.a.p exP.c.length sv.a.c) exP.c, fun w1 => OwV rrK 46 w.heap.size w1 (.slice sv.b.a.p exP.A.length sv.b.a.c) exP.A, fun w1 => OwV ratK 55 w.heap.size w1 (.slice sv.b.b.p exP.b.length sv.b.b.c) exP.b, fun _ => ob sv.a.p ≠ some R1, fun _ => ob sv.a.p ≠ some R2, fun _ => ob sv.a.p ≠ some R3, fun _ => ∀ g, ob sv.a.p = some g → ob sv4.a.p ≠ some g, fun _ => ∀ g, ob sv.a.p = some g → ob sv4.b.a.p ≠ some g, fun _ => ∀ g, ob sv.a.p = some g → ob sv4.b.b.p ≠ some g, fun _ => ob sv.b.a.p ≠ some R1, fun _ => ob sv.b.a.p ≠ some R2, fun _ => ob sv.b.a.p ≠ some R3, fun _ => ∀ g, ob sv.b.a.p = some g → ob sv4.a.p ≠ some g, fun _ => ∀ g, ob sv.b.a.p = some g → ob sv4.b.a.p ≠ some g, fun _ => ∀ g, ob sv.b.a.p = some g → ob sv4.b.b.p ≠ some g, fun _ => ob sv.b.b.p ≠ some R1, fun _ => ob sv.b.b.p ≠ some R2, fun _ => ob sv.b.b.p ≠ some R3, fun _ => ∀ g, ob sv.b.b.p = some g → ob sv4.a.p ≠ some g, fun _ => ∀ g, ob sv.b.b.p = some g → ob sv4.b.a.p ≠ some g, fun _ => ∀ g, ob sv.b.b.p = some g → ob sv4.b.b.p ≠ some g]) (wants0 rfl)
  · intro f1 l1 hl1 w' hK; go_simp; (try go_bits); refine (program_any (.agg #[.slice sv4.a.p exP.c.length sv4.a.c, .slice sv4.b.a.p exP.A.length sv4.b.a.c, .slice sv4.b.b.p exP.b.length sv4.b.b.c]) exP w' (RpV.mk ((hK.get m0).slv) ((hK.get m1).slv) ((hK.get m2).slv)) (hB0.below hK.old) exP_ok (exP_lm 50 (by decide))).mono ?_; rintro e w5 ⟨y0, rfl, u0, hb⟩; obtain ⟨rfl, rfl⟩ := hl1.out; have u0_0 := u0; obtain ⟨⟨p_u0, l_u0, c_u0⟩, ⟨q_u0, m_u0, d_u0⟩, ⟨r_u0, n_u0, e_u0⟩, rfl, u0_1, u0_2, u0_3⟩ := u0; exact ⟨_, rfl, (⟨⟨p_u0, 0, c_u0⟩, ⟨⟨q_u0, 0, d_u0⟩, ⟨r_u0, 0, e_u0⟩⟩⟩ : Duo Sl (Duo Sl Sl)), rfl, hb, .cons (fun w2 h2 => (u0_1.mono hK.old.size).below h2) (.cons (fun w2 h2 => (u0_2.mono hK.old.size).below h2) (.cons (fun w2 h2 => (u0_3.mono hK.old.size).below h2) (.cons (fun _ _ => fun e => absurd (u0_1.block e).1 (Nat.not_le.2 ((hK.get m14)).ltS)) (.cons (fun _ _ => fun e => absurd (u0_1.block e).1 (Nat.not_le.2 ((hK.get m13)).ltS)) (.cons (fun _ _ => fun e => absurd (u0_1.block e).1 (Nat.not_le.2 ((hK.get m12)).ltS)) (.cons (fun _ _ => fun _ e e2 => absurd (u0_1.block e).1 (Nat.not_le.2 (((hK.get m0)).block e2).2)) (.cons (fun _ _ => fun _ e e2 => absurd (u0_1.block e).1 (Nat.not_le.2 (((hK.get m1)).block e2).2)) (.cons (fun _ _ => fun _ e e2 => absurd (u0_1.block e).1 (Nat.not_le.2 (((hK.get m2)).block e2).2)) (.cons (fun _ _ => fun e => absurd (u0_2.block e).1 (Nat.not_le.2 ((hK.get m14)).ltS)) (.cons (fun _ _ => fun e => absurd (u0_2.block e).1 (Nat.not_le.2 ((hK.get m13)).ltS)) (.cons (fun _ _ => fun e => absurd (u0_2.block e).1 (Nat.not_le.2 ((hK.get m12)).ltS)) (.cons (fun _ _ => fun _ e e2 => absurd (u0_2.block e).1 (Nat.not_le.2 (((hK.get m0)).block e2).2)) (.cons (fun _ _ => fun _ e e2 => absurd (u0_2.block e).1 (Nat.not_le.2 (((hK.get m1)).block e2).2)) (.cons (fun _ _ => fun _ e e2 => absurd (u0_2.block e).1 (Nat.not_le.2 (((hK.get m2)).block e2).2)) (.cons (fun _ _ => fun e => absurd (u0_3.block e).1 (Nat.not_le.2 ((hK.get m14)).ltS)) (.cons (fun _ _ => fun e => absurd (u0_3.block e).1 (Nat.not_le.2 ((hK.get m13)).ltS)) (.cons (fun _ _ => fun e => absurd (u0_3.block e).1 (Nat.not_le.2 ((hK.get m12)).ltS)) (.cons (fun _ _ => fun _ e e2 => absurd (u0_3.block e).1 (Nat.not_le.2 (((hK.get m0)).block e2).2)) (.cons (fun _ _ => fun _ e e2 => absurd (u0_3.block e).1 (Nat.not_le.2 (((hK.get m1)).block e2).2)) (.cons (fun _ _ => fun _ e e2 => absurd (u0_3.block e).1 (Nat.not_le.2 (((hK.get m2)).block e2).2)) (Lasts.nil _)))))))))))))))))))))⟩
  intro sv14
  simp only [Act.put, pA, pB, pC, pD, pE]
  refine Tx.know (Pr := ob sv14.a.p ≠ some R1) (fun w' hK => hK.get m3) (fun n15 => ?_)
  refine Tx.know (Pr := ob sv14.a.p ≠ some R2) (fun w' hK => hK.get m4) (fun n16 => ?_)
  refine Tx.know (Pr := ob sv14.a.p ≠ some R3) (fun w' hK => hK.get m5) (fun n17 => ?_)
  refine Tx.know (Pr := ∀ g, ob sv14.a.p = some g → ob sv4.a.p ≠ some g) (fun w' hK => hK.get m6) (fun n18 => ?_)
  refine Tx.know (Pr := ∀ g, ob sv14.a.p = some g → ob sv4.b.a.p ≠ some g) (fun w' hK => hK.get m7) (fun n19 => ?_)
  refine Tx.know (Pr := ∀ g, ob sv14.a.p = some g → ob sv4.b.b.p ≠ some g) (fun w' hK => hK.get m8) (fun n20 => ?_)
  refine Tx.know (Pr := ob sv14.b.a.p ≠ some R1) (fun w' hK => hK.get m9) (fun n21 => ?_)
  refine Tx.know (Pr := ob sv14.b.a.p ≠ some R2) (fun w' hK => hK.get m10) (fun n22 => ?_)
  refine Tx.know (Pr := ob sv14.b.a.p ≠ some R3) (fun w' hK => hK.get m11) (fun n23 => ?_)
  refine Tx.know (Pr := ∀ g, ob sv14.b.a.p = some g → ob sv4.a.p ≠ some g) (fun w' hK => hK.get m12) (fun n24 => ?_)
  refine Tx.know (Pr := ∀ g, ob sv14.b.a.p = some g → ob sv4.b.a.p ≠ some g) (fun w' hK => hK.get m13) (fun n25 => ?_)
  refine Tx.know (Pr := ∀ g, ob sv14.b.a.p = some g → ob sv4.b.b.p ≠ some g) (fun w' hK => hK.get m14) (fun n26 => ?_)
  refine Tx.know (Pr := ob sv14.b.b.p ≠ some R1) (fun w' hK => hK.get m15) (fun n27 => ?_)
  refine Tx.know (Pr := ob sv14.b.b.p ≠ some R2) (fun w' hK => hK.get m16) (fun n28 => ?_)
  refine Tx.know (Pr := ob sv14.b.b.p ≠ some R3) (fun w' hK => hK.get m17) (fun n29 => ?_)
  refine Tx.know (Pr := ∀ g, ob sv14.b.b.p = some g → ob sv4.a.p ≠ some g) (fun w' hK => hK.get m18) (fun n30 => ?_)
  refine Tx.know (Pr := ∀ g, ob sv14.b.b.p = some g → ob sv4.b.a.p ≠ some g) (fun w' hK => hK.get m19) (fun n31 => ?_)
  refine Tx.know (Pr := ∀ g, ob sv14.b.b.p = some g → ob sv4.b.b.p ≠ some g) (fun w' hK => hK.get m20) (fun n32 => ?_)
  apply txA2 (.cells #[.slice none 0 0, .slice none 0 0, .slice none 0 0] 49) (wants0 rfl)
  · intro w' hK; go_simp; rfl
  intro R33 q_R33
  have o_R1_R33 : R1 < R33 := q_R33.box (ms24 m11)
  have o_R2_R33 : R2 < R33 := q_R33.box (ms24 m10)
  have o_R3_R33 : R3 < R33 := q_R33.box (ms24 m9)
  have n34 : ob sv14.a.p ≠ some R33 := q_R33.row m0
  have n35 : ob sv14.b.a.p ≠ some R33 := q_R33.row m1
  have n36 : ob sv14.b.b.p ≠ some R33 := q_R33.row m2
  have n37 : ob sv4.a.p ≠ some R33 := q_R33.row m21
  have n38 : ob sv4.b.a.p ≠ some R33 := q_R33.row m22
  have n39 : ob sv4.b.b.p ≠ some R33 := q_R33.row m23
  clear q_R33
  simp only [mkOf, Act.put, pA, pB, pC]
  refine tS m0 0 [.slice sv14.a.p exP.c.length sv14.a.c, .slice sv14.b.a.p exP.A.length sv14.b.a.c, .slice sv14.b.b.p exP.b.length sv14.b.b.c] (fun w' hK _ ni => kP [.slice sv14.a.p exP.c.length sv14.a.c, .slice sv14.b.a.p exP.A.length sv14.b.a.c, .slice sv14.b.b.p exP.b.length sv14.b.b.c] (kK (spO n34 (.inr (ni.no rfl))) (kK (spO n35 (.inr (ni.no rfl))) (kK (spO n36 (.inr (ni.no rfl))) (kC (kC (kC (kC (kC (kC (kC (kC (kC (kC (kC (kC (kC (kC (kC (kC (kC (kC (kK (spO n37 (.inr (ni.no rfl))) (kK (spO n38 (.inr (ni.no rfl))) (kK (spO n39 (.inr (ni.no rfl))) (kC (kC (kC (kC (kC (kC (kC (kC (kC (kL o_R3_R33 (kL o_R2_R33 (kL o_R1_R33 kZ))))))))))))))))))))))))))))))))))))) ?_
  refine txEnd (fun W40 hK => ?_)
  have an41 : (fun w1 => OwV ratK 55 w.heap.size w1 (.slice sv14.a.p exP.c.length sv14.a.c) exP.c) W40 := hK.get m1
  replace an41 : OwV ratK 55 w.heap.size W40 (.slice sv14.a.p exP.c.length sv14.a.c) exP.c := an41
  have an42 : (fun w1 => OwV rrK 46 w.heap.size w1 (.slice sv14.b.a.p exP.A.length sv14.b.a.c) exP.A) W40 := hK.get m2
  replace an42 : OwV rrK 46 w.heap.size W40 (.slice sv14.b.a.p exP.A.length sv14.b.a.c) exP.A := an42
  have an43 : (fun w1 => OwV ratK 55 w.heap.size w1 (.slice sv14.b.b.p exP.b.length sv14.b.b.c) exP.b) W40 := hK.get m3
  replace an43 : OwV ratK 55 w.heap.size W40 (.slice sv14.b.b.p exP.b.length sv14.b.b.c) exP.b := an43
  have an44 : (fun w1 => OwV refK 41 w.heap.size w1 (.slice sv4.a.p exP.c.length sv4.a.c) exP.c) W40 := hK.get m22
  replace an44 : OwV refK 41 w.heap.size W40 (.slice sv4.a.p exP.c.length sv4.a.c) exP.c := an44
  have an45 : (fun w1 => OwV rfK 33 w.heap.size w1 (.slice sv4.b.a.p exP.A.length sv4.b.a.c) exP.A) W40 := hK.get m23
  replace an45 : OwV rfK 33 w.heap.size W40 (.slice sv4.b.a.p exP.A.length sv4.b.a.c) exP.A := an45
  have an46 : (fun w1 => OwV refK 41 w.heap.size w1 (.slice sv4.b.b.p exP.b.length sv4.b.b.c) exP.b) W40 := hK.get m24
  replace an46 : OwV refK 41 w.heap.size W40 (.slice sv4.b.b.p exP.b.length sv4.b.b.c) exP.b := an46
  replace hK := hK.add (F := GB W40 none) (fun w' hb => (GB.start W40 none).below hb)
  replace hK := hK.subl (sK (sK (sC (sC (sC (sK (sK (sK (sK (sK (sK (sK (sK (sK (sK (sK (sK (sK (sK (sK (sK (sK (sK (sC (sC (sC (sK (sK (sK (sK (sK (sK (sK (sK (sK (sK (sK (sK sZ))))))))))))))))))))))))))))))))))))))
  go_upto_region 2 with (fail)
  refine wp_region_tx w hK ?_
  clear hK
  refine tEQ (fun w' hK => qint_any  1 w'  (by decide) (by decide)) (fun sv47 => ?_)
  refine tEQ (fun w' hK => qint_any  0 w'  (by decide) (by decide)) (fun sv48 => ?_)
  apply txA2 (.cells #[.bool false, .slice none 0 0, .slice none 0 0] 55) (wants0 rfl)
  · intro w' hK; go_simp; rfl
  intro R49 q_R49
  have o_R1_R49 : R1 < R49 := q_R49.box (ms24 m13)
  have o_R2_R49 : R2 < R49 := q_R49.box (ms24 m12)
  have o_R3_R49 : R3 < R49 := q_R49.box (ms24 m11)
  have o_R33_R49 : R33 < R49 := q_R49.box m7
  have nb_R49_W40 : W40.heap.size ≤ R49 := q_R49.gb m6
  clear q_R49
  simp only [mkOf, Act.put, pA, pB, pC]
  apply txA2 (.cells #[.bool false, .slice none 0 0, .slice none 0 0] 55) (wants0 rfl)
  · intro w' hK; go_simp; rfl
  intro R50 q_R50
  have o_R1_R50 : R1 < R50 := q_R50.box (ms24 m14)
  have o_R2_R50 : R2 < R50 := q_R50.box (ms24 m13)
  have o_R3_R50 : R3 < R50 := q_R50.box (ms24 m12)
  have o_R33_R50 : R33 < R50 := q_R50.box m8
  have o_R49_R50 : R49 < R50 := q_R50.box m0
  have nb_R50_W40 : W40.heap.size ≤ R50 := q_R50.gb m7
  clear q_R50
  simp only [mkOf, Act.put, pA, pB, pC]
  refine tS m1 0 [.bool (isN (((1 : Int) : Rat))), .slice sv47.a.p sv47.a.l sv47.a.c, .slice sv47.b.p sv47.b.l sv47.b.c] (fun w' hK _ ni => kG o_R49_R50 (kP [.bool (isN (((1 : Int) : Rat))), .slice sv47.a.p sv47.a.l sv47.a.c, .slice sv47.b.p sv47.b.l sv47.b.c] (kQ ni (kM ni (kM ni (kQ ni (kM ni (kM ni (kK (spGB nb_R49_W40) (kL o_R33_R49 (kC (kC (kC (kC (kC (kC (kC (kC (kC (kC (kC (kC (kC (kC (kC (kC (kC (kC (kC (kC (kC (kC (kC (kC (kC (kC (kC (kL o_R3_R49 (kL o_R2_R49 (kL o_R1_R49 kZ)))))))))))))))))))))))))))))))))))))))) ?_
  refine tS m0 0 [.bool (isN (((0 : Int) : Rat))), .slice sv48.a.p sv48.a.l sv48.a.c, .slice sv48.b.p sv48.b.l sv48.b.c] (fun w' hK _ ni => kP [.bool (isN (((0 : Int) : Rat))), .slice sv48.a.p sv48.a.l sv48.a.c, .slice sv48.b.p sv48.b.l sv48.b.c] (kL o_R49_R50 (kQ ni (kM ni (kM ni (kQ ni (kM ni (kM ni (kK (spGB nb_R50_W40) (kL o_R33_R50 (kC (kC (kC (kC (kC (kC (kC (kC (kC (kC (kC (kC (kC (kC (kC (kC (kC (kC (kC (kC (kC (kC (kC (kC (kC (kC (kC (kL o_R3_R50 (kL o_R2_R50 (kL o_R1_R50 kZ)))))))))))))))))))))))))))))))))))))))) ?_
  refine txEnd (fun W51 hK => ?_)
  go_upto_region 3 with (fail)
  refine wp_region_tx w hK ?_
  clear hK
  refine tL m9 ?_
  iterate 2 (refine tL m1 ?_)
  apply txA2 (.cells #[.bool (isN (((1 : Int) : Rat))), .slice sv47.a.p sv47.a.l sv47.a.c, .slice sv47.b.p sv47.b.l sv47.b.c, .bool (isN (((1 : Int) : Rat))), .slice sv47.a.p sv47.a.l sv47.a.c, .slice sv47.b.p sv47.b.l sv47.b.c] 55) (wants0 rfl)
  · intro w' hK; go_simp; rfl
  intro R52 q_R52
  have o_R1_R52 : R1 < R52 := q_R52.box (ms24 m15)
  have o_R2_R52 : R2 < R52 := q_R52.box (ms24 m14)
  have o_R3_R52 : R3 < R52 := q_R52.box (ms24 m13)
  have o_R33_R52 : R33 < R52 := q_R52.box m9
  have o_R49_R52 : R49 < R52 := q_R52.box m1
  have o_R50_R52 : R50 < R52 := q_R52.box m0
  have nb_R52_W40 : W40.heap.size ≤ R52 := q_R52.gb m8
  clear q_R52
  simp only [mkOf, Act.put, pA, pB, pC]
  refine tL m2 ?_
  refine tL m1 ?_
  apply txA2 (.cells #[.bool (isN (((1 : Int) : Rat))), .slice sv47.a.p sv47.a.l sv47.a.c, .slice sv47.b.p sv47.b.l sv47.b.c, .bool (isN (((0 : Int) : Rat))), .slice sv48.a.p sv48.a.l sv48.a.c, .slice sv48.b.p sv48.b.l sv48.b.c] 55) (wants0 rfl)
  · intro w' hK; go_simp; rfl
  intro R53 q_R53
  have o_R1_R53 : R1 < R53 := q_R53.box (ms24 m16)
  have o_R2_R53 : R2 < R53 := q_R53.box (ms24 m15)
  have o_R3_R53 : R3 < R53 := q_R53.box (ms24 m14)
  have o_R33_R53 : R33 < R53 := q_R53.box m10
  have o_R49_R53 : R49 < R53 := q_R53.box m2
  have o_R50_R53 : R50 < R53 := q_R53.box m1
  have o_R52_R53 : R52 < R53 := q_R53.box m0
  have nb_R53_W40 : W40.heap.size ≤ R53 := q_R53.gb m9
  clear q_R53
  simp only [mkOf, Act.put, pA, pB, pC]
  apply txE (α := Duo Sl Sl) (fun sv => .tuple #[.agg #[.bool (isN ((2 : Rat))), .slice sv.a.p sv.a.l sv.a.c, .slice sv.b.p sv.b.l sv.b.c], .int .i64 0]) (fun sv => [fun w => RatV w (.agg #[.bool (isN ((2 : Rat))), .slice sv.a.p sv.a.l sv.a.c, .slice sv.b.p sv.b.l sv.b.c]) ((2 : Rat)), fun w => NatV w (.agg #[.slice sv.a.p sv.a.l sv.a.c]) (((2 : Rat)).num.natAbs), fun w => NatV w (.agg #[.slice sv.b.p sv.b.l sv.b.c]) (den0 ((2 : Rat)))]) (wants0 rfl)
  · intro f1 l1 hl1 w' hK; go_simp; (try go_bits); refine (gap_lit w' (LpV.mk ((an41.below (GB.to (hK.get m10))).slv) ((an42.below (GB.to (hK.get m10))).slv) ((an43.below (GB.to (hK.get m10))).slv)) (SlV.two (K := ratK) (cs1 := [.bool (isN (((1 : Int) : Rat))), .slice sv47.a.p sv47.a.l sv47.a.c, .slice sv47.b.p sv47.b.l sv47.b.c]) (cs2 := [.bool (isN (((1 : Int) : Rat))), .slice sv47.a.p sv47.a.l sv47.a.c, .slice sv47.b.p sv47.b.l sv47.b.c]) (hK.get m1) ⟨_, _, _, rfl, (hK.get m7)⟩ ⟨_, _, _, rfl, (hK.get m7)⟩ (by decide) (by decide)) (SlV.two (K := ratK) (cs1 := [.bool (isN (((1 : Int) : Rat))), .slice sv47.a.p sv47.a.l sv47.a.c, .slice sv47.b.p sv47.b.l sv47.b.c]) (cs2 := [.bool (isN (((0 : Int) : Rat))), .slice sv48.a.p sv48.a.l sv48.a.c, .slice sv48.b.p sv48.b.l sv48.b.c]) (hK.get m0) ⟨_, _, _, rfl, (hK.get m7)⟩ ⟨_, _, _, rfl, (hK.get m4)⟩ (by decide) (by decide))).mono ?_; rintro e w5 ⟨y0, rfl, u0, hb⟩; obtain ⟨rfl, rfl⟩ := hl1.out; have u0_0 := u0; obtain ⟨p_u0, l_u0, c_u0, q_u0, m_u0, d_u0, rfl, u0_1, u0_2⟩ := u0; exact ⟨_, rfl, (⟨⟨p_u0, l_u0, c_u0⟩, ⟨q_u0, m_u0, d_u0⟩⟩ : Duo Sl Sl), rfl, hb, .cons (fun w2 h2 => u0_0.below h2) (.cons (fun w2 h2 => u0_1.below h2) (.cons (fun w2 h2 => u0_2.below h2) (Lasts.nil _)))⟩
  intro sv54
  simp only [Act.put, pA, pB, pC, pD, pE]
  iterate 3 (refine tF ?_)
  apply txA2 (.cells #[.bool false, .slice none 0 0, .slice none 0 0] 55) (wants0 rfl)
  · intro w' hK; go_simp; rfl
  intro R55 q_R55
  have o_R1_R55 : R1 < R55 := q_R55.box (ms24 m20)
  have o_R2_R55 : R2 < R55 := q_R55.box (ms24 m19)
  have o_R3_R55 : R3 < R55 := q_R55.box (ms24 m18)
  have o_R33_R55 : R33 < R55 := q_R55.box m14
  have o_R49_R55 : R49 < R55 := q_R55.box m6
  have o_R50_R55 : R50 < R55 := q_R55.box m5
  have o_R52_R55 : R52 < R55 := q_R55.box m4
  have o_R53_R55 : R53 < R55 := q_R55.box m3
  have nb_R55_W40 : W40.heap.size ≤ R55 := q_R55.gb m13
  clear q_R55
  simp only [mkOf, Act.put, pA, pB, pC]
  refine tS m0 0 [.bool (isN ((2 : Rat))), .slice sv54.a.p sv54.a.l sv54.a.c, .slice sv54.b.p sv54.b.l sv54.b.c] (fun w' hK _ ni => kP [.bool (isN ((2 : Rat))), .slice sv54.a.p sv54.a.l sv54.a.c, .slice sv54.b.p sv54.b.l sv54.b.c] (kQ ni (kM ni (kM ni (kL o_R53_R55 (kL o_R52_R55 (kL o_R50_R55 (kL o_R49_R55 (kQ ni (kM ni (kM ni (kQ ni (kM ni (kM ni (kK (spGB nb_R55_W40) (kL o_R33_R55 (kC (kC (kC (kC (kC (kC (kC (kC (kC (kC (kC (kC (kC (kC (kC (kC (kC (kC (kC (kC (kC (kC (kC (kC (kC (kC (kC (kL o_R3_R55 (kL o_R2_R55 (kL o_R1_R55 kZ)))))))))))))))))))))))))))))))))))))))))))))) ?_
  refine tF ?_
  refine txEnd (fun W56 hK => ?_)
  go_upto_region 4 with (fail)
  refine wp_region_tx w hK ?_
  clear hK
  iterate 2 (refine tF ?_)
  apply txA2 (.cells #[.int .i8 8, .int .i8 5, .int .i8 6, .int .i8 5] 28) (wants0 rfl)
  · intro w' hK; go_simp; rfl
  intro R57 q_R57
  have o_R1_R57 : R1 < R57 := q_R57.box (ms24 m21)
  have o_R2_R57 : R2 < R57 := q_R57.box (ms24 m20)
  have o_R3_R57 : R3 < R57 := q_R57.box (ms24 m19)
  have o_R33_R57 : R33 < R57 := q_R57.box m15
  have o_R49_R57 : R49 < R57 := q_R57.box m7
  have o_R50_R57 : R50 < R57 := q_R57.box m6
  have o_R52_R57 : R52 < R57 := q_R57.box m5
  have o_R53_R57 : R53 < R57 := q_R57.box m4
  have o_R55_R57 : R55 < R57 := q_R57.box m0
  have nb_R57_W40 : W40.heap.size ≤ R57 := q_R57.gb m14
  clear q_R57
  simp only [mkOf, Act.put, pA, pB, pC]
  apply txE (α := Sl) (fun sv => .slice sv.p (frL ([(⟨8, 5⟩ : Frc), (⟨6, 5⟩ : Frc)])).length sv.c) (fun sv => [fun w1 => OwV refK 41 w.heap.size w1 (.slice sv.p (frL ([(⟨8, 5⟩ : Frc), (⟨6, 5⟩ : Frc)])).length sv.c) (frL ([(⟨8, 5⟩ : Frc), (⟨6, 5⟩ : Frc)])), fun _ => ob sv.p ≠ some R1, fun _ => ob sv.p ≠ some R2, fun _ => ob sv.p ≠ some R3, fun _ => ob sv.p ≠ some R33, fun _ => ob sv.p ≠ some R49, fun _ => ob sv.p ≠ some R50, fun _ => ob sv.p ≠ some R52, fun _ => ob sv.p ≠ some R53, fun _ => ob sv.p ≠ some R55, fun _ => ob sv.p ≠ some R57, fun _ => Lies W40 none sv.p]) (wants0 rfl)
  · intro f1 l1 hl1 w' hK; go_simp; (try go_bits); refine (fof_any (.slice (some ⟨R57, 0, none⟩) 2 2) ([(⟨8, 5⟩ : Frc), (⟨6, 5⟩ : Frc)]) w' (SlV.ofBox (K := frK) (f := frC) (xs := [(⟨8, 5⟩ : Frc), (⟨6, 5⟩ : Frc)]) (fun _ _ => rfl) (hK.get m0) (by simp)) (by decide) (frcs_ok (by decide))).mono ?_; rintro e w5 ⟨y0, rfl, u0, hb⟩; obtain ⟨rfl, rfl⟩ := hl1.out; have u0_0 := u0; obtain ⟨p_u0, c_u0, rfl, n_u0⟩ := u0.sh; exact ⟨_, rfl, (⟨p_u0, 0, c_u0⟩ : Sl), rfl, hb, .cons (fun w2 h2 => (u0_0.mono hK.old.size).below h2) (.cons (fun _ _ => fun e => absurd (u0_0.block e).1 (Nat.not_le.2 ((hK.get (ms24 m22))).ltS)) (.cons (fun _ _ => fun e => absurd (u0_0.block e).1 (Nat.not_le.2 ((hK.get (ms24 m21))).ltS)) (.cons (fun _ _ => fun e => absurd (u0_0.block e).1 (Nat.not_le.2 ((hK.get (ms24 m20))).ltS)) (.cons (fun _ _ => fun e => absurd (u0_0.block e).1 (Nat.not_le.2 ((hK.get m16)).ltS)) (.cons (fun _ _ => fun e => absurd (u0_0.block e).1 (Nat.not_le.2 ((hK.get m8)).ltS)) (.cons (fun _ _ => fun e => absurd (u0_0.block e).1 (Nat.not_le.2 ((hK.get m7)).ltS)) (.cons (fun _ _ => fun e => absurd (u0_0.block e).1 (Nat.not_le.2 ((hK.get m6)).ltS)) (.cons (fun _ _ => fun e => absurd (u0_0.block e).1 (Nat.not_le.2 ((hK.get m5)).ltS)) (.cons (fun _ _ => fun e => absurd (u0_0.block e).1 (Nat.not_le.2 ((hK.get m1)).ltS)) (.cons (fun _ _ => fun e => absurd (u0_0.block e).1 (Nat.not_le.2 ((hK.get m0)).ltS)) (.cons (fun _ _ => .inr fun g e => Nat.le_trans ((hK.get m15)).sz (u0_0.block e).1) (Lasts.nil _))))))))))))⟩
  intro sv58
  simp only [Act.put, pA, pB, pC, pD, pE]
  refine Tx.know (Pr := ob sv58.p ≠ some R1) (fun w' hK => hK.get m1) (fun n59 => ?_)
  refine Tx.know (Pr := ob sv58.p ≠ some R2) (fun w' hK => hK.get m2) (fun n60 => ?_)
  refine Tx.know (Pr := ob sv58.p ≠ some R3) (fun w' hK => hK.get m3) (fun n61 => ?_)
  refine Tx.know (Pr := ob sv58.p ≠ some R33) (fun w' hK => hK.get m4) (fun n62 => ?_)
  refine Tx.know (Pr := ob sv58.p ≠ some R49) (fun w' hK => hK.get m5) (fun n63 => ?_)
  refine Tx.know (Pr := ob sv58.p ≠ some R50) (fun w' hK => hK.get m6) (fun n64 => ?_)
  refine Tx.know (Pr := ob sv58.p ≠ some R52) (fun w' hK => hK.get m7) (fun n65 => ?_)
  refine Tx.know (Pr := ob sv58.p ≠ some R53) (fun w' hK => hK.get m8) (fun n66 => ?_)
  refine Tx.know (Pr := ob sv58.p ≠ some R55) (fun w' hK => hK.get m9) (fun n67 => ?_)
  refine Tx.know (Pr := ob sv58.p ≠ some R57) (fun w' hK => hK.get m10) (fun n68 => ?_)
  refine Tx.know (Pr := Lies W40 none sv58.p) (fun w' hK => hK.get m11) (fun n69 => ?_)
  apply txE (α := Sl) (fun sv => .slice sv.p ((frL ([(⟨8, 5⟩ : Frc), (⟨6, 5⟩ : Frc)]))).length sv.c) (fun sv => [fun w1 => OwV ratK 55 w.heap.size w1 (.slice sv.p ((frL ([(⟨8, 5⟩ : Frc), (⟨6, 5⟩ : Frc)]))).length sv.c) ((frL ([(⟨8, 5⟩ : Frc), (⟨6, 5⟩ : Frc)]))), fun _ => ob sv.p ≠ some R1, fun _ => ob sv.p ≠ some R2, fun _ => ob sv.p ≠ some R3, fun _ => ob sv.p ≠ some R33, fun _ => ob sv.p ≠ some R49, fun _ => ob sv.p ≠ some R50, fun _ => ob sv.p ≠ some R52, fun _ => ob sv.p ≠ some R53, fun _ => ob sv.p ≠ some R55, fun _ => ob sv.p ≠ some R57, fun _ => ∀ g, ob sv.p = some g → ob sv58.p ≠ some g, fun _ => Lies W40 none sv.p]) (wants0 rfl)
  · intro f1 l1 hl1 w' hK; go_simp; (try go_bits); refine (numbers_any (.slice sv58.p (frL ([(⟨8, 5⟩ : Frc), (⟨6, 5⟩ : Frc)])).length sv58.c) (frL ([(⟨8, 5⟩ : Frc), (⟨6, 5⟩ : Frc)])) w' (hK.get m0).slv (hB0.below hK.old) (by simp [frL]) ((frL_lm (frcs_ok (by decide))).up (by decide))).mono ?_; rintro e w5 ⟨y0, rfl, u0, hb⟩; obtain ⟨rfl, rfl⟩ := hl1.out; have u0_0 := u0; obtain ⟨p_u0, c_u0, rfl, n_u0⟩ := u0.sh; exact ⟨_, rfl, (⟨p_u0, 0, c_u0⟩ : Sl), rfl, hb, .cons (fun w2 h2 => (u0_0.mono hK.old.size).below h2) (.cons (fun _ _ => fun e => absurd (u0_0.block e).1 (Nat.not_le.2 ((hK.get (ms24 (ms24 m10)))).ltS)) (.cons (fun _ _ => fun e => absurd (u0_0.block e).1 (Nat.not_le.2 ((hK.get (ms24 (ms24 m9)))).ltS)) (.cons (fun _ _ => fun e => absurd (u0_0.block e).1 (Nat.not_le.2 ((hK.get (ms24 (ms24 m8)))).ltS)) (.cons (fun _ _ => fun e => absurd (u0_0.block e).1 (Nat.not_le.2 ((hK.get m28)).ltS)) (.cons (fun _ _ => fun e => absurd (u0_0.block e).1 (Nat.not_le.2 ((hK.get m20)).ltS)) (.cons (fun _ _ => fun e => absurd (u0_0.block e).1 (Nat.not_le.2 ((hK.get m19)).ltS)) (.cons (fun _ _ => fun e => absurd (u0_0.block e).1 (Nat.not_le.2 ((hK.get m18)).ltS)) (.cons (fun _ _ => fun e => absurd (u0_0.block e).1 (Nat.not_le.2 ((hK.get m17)).ltS)) (.cons (fun _ _ => fun e => absurd (u0_0.block e).1 (Nat.not_le.2 ((hK.get m13)).ltS)) (.cons (fun _ _ => fun e => absurd (u0_0.block e).1 (Nat.not_le.2 ((hK.get m12)).ltS)) (.cons (fun _ _ => fun _ e e2 => absurd (u0_0.block e).1 (Nat.not_le.2 (((hK.get m0)).block e2).2)) (.cons (fun _ _ => .inr fun g e => Nat.le_trans ((hK.get m27)).sz (u0_0.block e).1) (Lasts.nil _)))))))))))))⟩
  intro sv70
  simp only [Act.put, pA, pB, pC, pD, pE]
  refine Tx.know (Pr := ob sv70.p ≠ some R1) (fun w' hK => hK.get m1) (fun n71 => ?_)
  refine Tx.know (Pr := ob sv70.p ≠ some R2) (fun w' hK => hK.get m2) (fun n72 => ?_)
  refine Tx.know (Pr := ob sv70.p ≠ some R3) (fun w' hK => hK.get m3) (fun n73 => ?_)
  refine Tx.know (Pr := ob sv70.p ≠ some R33) (fun w' hK => hK.get m4) (fun n74 => ?_)
  refine Tx.know (Pr := ob sv70.p ≠ some R49) (fun w' hK => hK.get m5) (fun n75 => ?_)
  refine Tx.know (Pr := ob sv70.p ≠ some R50) (fun w' hK => hK.get m6) (fun n76 => ?_)
  refine Tx.know (Pr := ob sv70.p ≠ some R52) (fun w' hK => hK.get m7) (fun n77 => ?_)
  refine Tx.know (Pr := ob sv70.p ≠ some R53) (fun w' hK => hK.get m8) (fun n78 => ?_)
  refine Tx.know (Pr := ob sv70.p ≠ some R55) (fun w' hK => hK.get m9) (fun n79 => ?_)
  refine Tx.know (Pr := ob sv70.p ≠ some R57) (fun w' hK => hK.get m10) (fun n80 => ?_)
  refine Tx.know (Pr := ∀ g, ob sv70.p = some g → ob sv58.p ≠ some g) (fun w' hK => hK.get m11) (fun n81 => ?_)
  refine Tx.know (Pr := Lies W40 none sv70.p) (fun w' hK => hK.get m12) (fun n82 => ?_)
  iterate 2 (refine tF ?_)
  apply txA2 (.cells #[.int .i8 2, .int .i8 5, .int .i8 1, .int .i8 5] 28) (wants0 rfl)
  · intro w' hK; go_simp; rfl
  intro R83 q_R83
  have o_R1_R83 : R1 < R83 := q_R83.box (ms24 (ms24 m23))
  have o_R2_R83 : R2 < R83 := q_R83.box (ms24 (ms24 m22))
  have o_R3_R83 : R3 < R83 := q_R83.box (ms24 (ms24 m21))
  have o_R33_R83 : R33 < R83 := q_R83.box (ms24 m17)
  have o_R49_R83 : R49 < R83 := q_R83.box (ms24 m9)
  have o_R50_R83 : R50 < R83 := q_R83.box (ms24 m8)
  have o_R52_R83 : R52 < R83 := q_R83.box (ms24 m7)
  have o_R53_R83 : R53 < R83 := q_R83.box m30
  have o_R55_R83 : R55 < R83 := q_R83.box m26
  have o_R57_R83 : R57 < R83 := q_R83.box m25
  have n84 : ob sv70.p ≠ some R83 := q_R83.row m0
  have n85 : ob sv58.p ≠ some R83 := q_R83.row m13
  have nb_R83_W40 : W40.heap.size ≤ R83 := q_R83.gb (ms24 m16)
  clear q_R83
  simp only [mkOf, Act.put, pA, pB, pC]
  apply txE (α := Sl) (fun sv => .slice sv.p (frL ([(⟨2, 5⟩ : Frc), (⟨1, 5⟩ : Frc)])).length sv.c) (fun sv => [fun w1 => OwV refK 41 w.heap.size w1 (.slice sv.p (frL ([(⟨2, 5⟩ : Frc), (⟨1, 5⟩ : Frc)])).length sv.c) (frL ([(⟨2, 5⟩ : Frc), (⟨1, 5⟩ : Frc)])), fun _ => ob sv.p ≠ some R1, fun _ => ob sv.p ≠ some R2, fun _ => ob sv.p ≠ some R3, fun _ => ob sv.p ≠ some R33, fun _ => ob sv.p ≠ some R49, fun _ => ob sv.p ≠ some R50, fun _ => ob sv.p ≠ some R52, fun _ => ob sv.p ≠ some R53, fun _ => ob sv.p ≠ some R55, fun _ => ob sv.p ≠ some R57, fun _ => ob sv.p ≠ some R83, fun _ => ∀ g, ob sv.p = some g → ob sv70.p ≠ some g, fun _ => ∀ g, ob sv.p = some g → ob sv58.p ≠ some g, fun _ => Lies W40 none sv.p]) (wants0 rfl)
  · intro f1 l1 hl1 w' hK; go_simp; (try go_bits); refine (fof_any (.slice (some ⟨R83, 0, none⟩) 2 2) ([(⟨2, 5⟩ : Frc), (⟨1, 5⟩ : Frc)]) w' (SlV.ofBox (K := frK) (f := frC) (xs := [(⟨2, 5⟩ : Frc), (⟨1, 5⟩ : Frc)]) (fun _ _ => rfl) (hK.get m0) (by simp)) (by decide) (frcs_ok (by decide))).mono ?_; rintro e w5 ⟨y0, rfl, u0, hb⟩; obtain ⟨rfl, rfl⟩ := hl1.out; have u0_0 := u0; obtain ⟨p_u0, c_u0, rfl, n_u0⟩ := u0.sh; exact ⟨_, rfl, (⟨p_u0, 0, c_u0⟩ : Sl), rfl, hb, .cons (fun w2 h2 => (u0_0.mono hK.old.size).below h2) (.cons (fun _ _ => fun e => absurd (u0_0.block e).1 (Nat.not_le.2 ((hK.get (ms24 (ms24 m24)))).ltS)) (.cons (fun _ _ => fun e => absurd (u0_0.block e).1 (Nat.not_le.2 ((hK.get (ms24 (ms24 m23)))).ltS)) (.cons (fun _ _ => fun e => absurd (u0_0.block e).1 (Nat.not_le.2 ((hK.get (ms24 (ms24 m22)))).ltS)) (.cons (fun _ _ => fun e => absurd (u0_0.block e).1 (Nat.not_le.2 ((hK.get (ms24 m18))).ltS)) (.cons (fun _ _ => fun e => absurd (u0_0.block e).1 (Nat.not_le.2 ((hK.get (ms24 m10))).ltS)) (.cons (fun _ _ => fun e => absurd (u0_0.block e).1 (Nat.not_le.2 ((hK.get (ms24 m9))).ltS)) (.cons (fun _ _ => fun e => absurd (u0_0.block e).1 (Nat.not_le.2 ((hK.get (ms24 m8))).ltS)) (.cons (fun _ _ => fun e => absurd (u0_0.block e).1 (Nat.not_le.2 ((hK.get (ms24 m7))).ltS)) (.cons (fun _ _ => fun e => absurd (u0_0.block e).1 (Nat.not_le.2 ((hK.get m27)).ltS)) (.cons (fun _ _ => fun e => absurd (u0_0.block e).1 (Nat.not_le.2 ((hK.get m26)).ltS)) (.cons (fun _ _ => fun e => absurd (u0_0.block e).1 (Nat.not_le.2 ((hK.get m0)).ltS)) (.cons (fun _ _ => fun _ e e2 => absurd (u0_0.block e).1 (Nat.not_le.2 (((hK.get m1)).block e2).2)) (.cons (fun _ _ => fun _ e e2 => absurd (u0_0.block e).1 (Nat.not_le.2 (((hK.get m14)).block e2).2)) (.cons (fun _ _ => .inr fun g e => Nat.le_trans ((hK.get (ms24 m17))).sz (u0_0.block e).1) (Lasts.nil _)))))))))))))))⟩
  intro sv86
  simp only [Act.put, pA, pB, pC, pD, pE]
  refine Tx.know (Pr := ob sv86.p ≠ some R1) (fun w' hK => hK.get m1) (fun n87 => ?_)
  refine Tx.know (Pr := ob sv86.p ≠ some R2) (fun w' hK => hK.get m2) (fun n88 => ?_)
  refine Tx.know (Pr := ob sv86.p ≠ some R3) (fun w' hK => hK.get m3) (fun n89 => ?_)
  refine Tx.know (Pr := ob sv86.p ≠ some R33) (fun w' hK => hK.get m4) (fun n90 => ?_)
  refine Tx.know (Pr := ob sv86.p ≠ some R49) (fun w' hK => hK.get m5) (fun n91 => ?_)
  refine Tx.know (Pr := ob sv86.p ≠ some R50) (fun w' hK => hK.get m6) (fun n92 => ?_)
  refine Tx.know (Pr := ob sv86.p ≠ some R52) (fun w' hK => hK.get m7) (fun n93 => ?_)
  refine Tx.know (Pr := ob sv86.p ≠ some R53) (fun w' hK => hK.get m8) (fun n94 => ?_)
  refine Tx.know (Pr := ob sv86.p ≠ some R55) (fun w' hK => hK.get m9) (fun n95 => ?_)
  refine Tx.know (Pr := ob sv86.p ≠ some R57) (fun w' hK => hK.get m10) (fun n96 => ?_)
  refine Tx.know (Pr := ob sv86.p ≠ some R83) (fun w' hK => hK.get m11) (fun n97 => ?_)
  refine Tx.know (Pr := ∀ g, ob sv86.p = some g → ob sv70.p ≠ some g) (fun w' hK => hK.get m12) (fun n98 => ?_)
  refine Tx.know (Pr := ∀ g, ob sv86.p = some g → ob sv58.p ≠ some g) (fun w' hK => hK.get m13) (fun n99 => ?_)
  refine Tx.know (Pr := Lies W40 none sv86.p) (fun w' hK => hK.get m14) (fun n100 => ?_)
  apply txE (α := Sl) (fun sv => .slice sv.p ((frL ([(⟨2, 5⟩ : Frc), (⟨1, 5⟩ : Frc)]))).length sv.c) (fun sv => [fun w1 => OwV ratK 55 w.heap.size w1 (.slice sv.p ((frL ([(⟨2, 5⟩ : Frc), (⟨1, 5⟩ : Frc)]))).length sv.c) ((frL ([(⟨2, 5⟩ : Frc), (⟨1, 5⟩ : Frc)]))), fun _ => ob sv.p ≠ some R1, fun _ => ob sv.p ≠ some R2, fun _ => ob sv.p ≠ some R3, fun _ => ob sv.p ≠ some R33, fun _ => ob sv.p ≠ some R49, fun _ => ob sv.p ≠ some R50, fun _ => ob sv.p ≠ some R52, fun _ => ob sv.p ≠ some R53, fun _ => ob sv.p ≠ some R55, fun _ => ob sv.p ≠ some R57, fun _ => ob sv.p ≠ some R83, fun _ => ∀ g, ob sv.p = some g → ob sv86.p ≠ some g, fun _ => ∀ g, ob sv.p = some g → ob sv70.p ≠ some g, fun _ => ∀ g, ob sv.p = some g → ob sv58.p ≠ some g, fun _ => Lies W40 none sv.p]) (wants0 rfl)
  · intro f1 l1 hl1 w' hK; go_simp; (try go_bits); refine (numbers_any (.slice sv86.p (frL ([(⟨2, 5⟩ : Frc), (⟨1, 5⟩ : Frc)])).length sv86.c) (frL ([(⟨2, 5⟩ : Frc), (⟨1, 5⟩ : Frc)])) w' (hK.get m0).slv (hB0.below hK.old) (by simp [frL]) ((frL_lm (frcs_ok (by decide))).up (by decide))).mono ?_; rintro e w5 ⟨y0, rfl, u0, hb⟩; obtain ⟨rfl, rfl⟩ := hl1.out; have u0_0 := u0; obtain ⟨p_u0, c_u0, rfl, n_u0⟩ := u0.sh; exact ⟨_, rfl, (⟨p_u0, 0, c_u0⟩ : Sl), rfl, hb, .cons (fun w2 h2 => (u0_0.mono hK.old.size).below h2) (.cons (fun _ _ => fun e => absurd (u0_0.block e).1 (Nat.not_le.2 ((hK.get (ms24 (ms24 (ms24 m15))))).ltS)) (.cons (fun _ _ => fun e => absurd (u0_0.block e).1 (Nat.not_le.2 ((hK.get (ms24 (ms24 (ms24 m14))))).ltS)) (.cons (fun _ _ => fun e => absurd (u0_0.block e).1 (Nat.not_le.2 ((hK.get (ms24 (ms24 (ms24 m13))))).ltS)) (.cons (fun _ _ => fun e => absurd (u0_0.block e).1 (Nat.not_le.2 ((hK.get (ms24 (ms24 m9)))).ltS)) (.cons (fun _ _ => fun e => absurd (u0_0.block e).1 (Nat.not_le.2 ((hK.get (ms24 (ms24 m1)))).ltS)) (.cons (fun _ _ => fun e => absurd (u0_0.block e).1 (Nat.not_le.2 ((hK.get (ms24 m24))).ltS)) (.cons (fun _ _ => fun e => absurd (u0_0.block e).1 (Nat.not_le.2 ((hK.get (ms24 m23))).ltS)) (.cons (fun _ _ => fun e => absurd (u0_0.block e).1 (Nat.not_le.2 ((hK.get (ms24 m22))).ltS)) (.cons (fun _ _ => fun e => absurd (u0_0.block e).1 (Nat.not_le.2 ((hK.get (ms24 m18))).ltS)) (.cons (fun _ _ => fun e => absurd (u0_0.block e).1 (Nat.not_le.2 ((hK.get (ms24 m17))).ltS)) (.cons (fun _ _ => fun e => absurd (u0_0.block e).1 (Nat.not_le.2 ((hK.get m15)).ltS)) (.cons (fun _ _ => fun _ e e2 => absurd (u0_0.block e).1 (Nat.not_le.2 (((hK.get m0)).block e2).2)) (.cons (fun _ _ => fun _ e e2 => absurd (u0_0.block e).1 (Nat.not_le.2 (((hK.get m16)).block e2).2)) (.cons (fun _ _ => fun _ e e2 => absurd (u0_0.block e).1 (Nat.not_le.2 (((hK.get m29)).block e2).2)) (.cons (fun _ _ => .inr fun g e => Nat.le_trans ((hK.get (ms24 (ms24 m8)))).sz (u0_0.block e).1) (Lasts.nil _))))))))))))))))⟩
  intro sv101
  simp only [Act.put, pA, pB, pC, pD, pE]
  refine Tx.know (Pr := ob sv101.p ≠ some R1) (fun w' hK => hK.get m1) (fun n102 => ?_)
  refine Tx.know (Pr := ob sv101.p ≠ some R2) (fun w' hK => hK.get m2) (fun n103 => ?_)
  refine Tx.know (Pr := ob sv101.p ≠ some R3) (fun w' hK => hK.get m3) (fun n104 => ?_)
  refine Tx.know (Pr := ob sv101.p ≠ some R33) (fun w' hK => hK.get m4) (fun n105 => ?_)
  refine Tx.know (Pr := ob sv101.p ≠ some R49) (fun w' hK => hK.get m5) (fun n106 => ?_)
  refine Tx.know (Pr := ob sv101.p ≠ some R50) (fun w' hK => hK.get m6) (fun n107 => ?_)
  refine Tx.know (Pr := ob sv101.p ≠ some R52) (fun w' hK => hK.get m7) (fun n108 => ?_)
  refine Tx.know (Pr := ob sv101.p ≠ some R53) (fun w' hK => hK.get m8) (fun n109 => ?_)
  refine Tx.know (Pr := ob sv101.p ≠ some R55) (fun w' hK => hK.get m9) (fun n110 => ?_)
  refine Tx.know (Pr := ob sv101.p ≠ some R57) (fun w' hK => hK.get m10) (fun n111 => ?_)
  refine Tx.know (Pr := ob sv101.p ≠ some R83) (fun w' hK => hK.get m11) (fun n112 => ?_)
  refine Tx.know (Pr := ∀ g, ob sv101.p = some g → ob sv86.p ≠ some g) (fun w' hK => hK.get m12) (fun n113 => ?_)
  refine Tx.know (Pr := ∀ g, ob sv101.p = some g → ob sv70.p ≠ some g) (fun w' hK => hK.get m13) (fun n114 => ?_)
  refine Tx.know (Pr := ∀ g, ob sv101.p = some g → ob sv58.p ≠ some g) (fun w' hK => hK.get m14) (fun n115 => ?_)
  refine Tx.know (Pr := Lies W40 none sv101.p) (fun w' hK => hK.get m15) (fun n116 => ?_)
  refine tF ?_
  apply txA2 (.cells #[.int .i8 14, .int .i8 5] 28) (wants0 rfl)
  · intro w' hK; go_simp; rfl
  intro R117 q_R117
  have o_R1_R117 : R1 < R117 := q_R117.box (ms24 (ms24 (ms24 (ms24 m7))))
  have o_R2_R117 : R2 < R117 := q_R117.box (ms24 (ms24 (ms24 (ms24 m6))))
  have o_R3_R117 : R3 < R117 := q_R117.box (ms24 (ms24 (ms24 (ms24 m5))))
  have o_R33_R117 : R33 < R117 := q_R117.box (ms24 (ms24 (ms24 m1)))
  have o_R49_R117 : R49 < R117 := q_R117.box (ms24 (ms24 m17))
  have o_R50_R117 : R50 < R117 := q_R117.box (ms24 (ms24 m16))
  have o_R52_R117 : R52 < R117 := q_R117.box (ms24 (ms24 m15))
  have o_R53_R117 : R53 < R117 := q_R117.box (ms24 (ms24 m14))
  have o_R55_R117 : R55 < R117 := q_R117.box (ms24 (ms24 m10))
  have o_R57_R117 : R57 < R117 := q_R117.box (ms24 (ms24 m9))
  have o_R83_R117 : R83 < R117 := q_R117.box (ms24 m7)
  have n118 : ob sv101.p ≠ some R117 := q_R117.row m0
  have n119 : ob sv86.p ≠ some R117 := q_R117.row m16
  have n120 : ob sv70.p ≠ some R117 := q_R117.row (ms24 m8)
  have n121 : ob sv58.p ≠ some R117 := q_R117.row (ms24 m21)
  have nb_R117_W40 : W40.heap.size ≤ R117 := q_R117.gb (ms24 (ms24 m24))
  clear q_R117
  simp only [mkOf, Act.put, pA, pB, pC]
  apply txE (α := Duo Nat Nat) (fun sv => .slice (some ⟨sv.a, 0, none⟩) (frL [(⟨14, 5⟩ : Frc)]).length sv.b) (fun sv => [fun w => SlV refK w (.slice (some ⟨sv.a, 0, none⟩) (frL [(⟨14, 5⟩ : Frc)]).length sv.b) (frL [(⟨14, 5⟩ : Frc)])]) (wants0 rfl)
  · intro f1 l1 hl1 w' hK; go_simp; (try go_bits); refine (fof1_any (.slice (some ⟨R117, 0, none⟩) 1 1) (⟨14, 5⟩ : Frc) w' (SlV.ofBox (K := frK) (f := frC) (xs := [(⟨14, 5⟩ : Frc)]) (fun _ _ => rfl) (hK.get m0) (by simp)) (frc_ok (by decide) (by decide) (by decide) (by decide))).mono ?_; rintro e w5 ⟨y0, rfl, u0, hb⟩; obtain ⟨rfl, rfl⟩ := hl1.out; obtain ⟨g_u0, c_u0, rfl, u0_0⟩ := u0.shN (by simp [frL]); exact ⟨_, rfl, (⟨g_u0, c_u0⟩ : Duo Nat Nat), rfl, hb, .cons (fun w2 h2 => u0_0.below h2) (Lasts.nil _)⟩
  intro sv122
  simp only [Act.put, pA, pB, pC, pD, pE]
  apply txE (α := Duo Nat Nat) (fun sv => .slice (some ⟨sv.a, 0, none⟩) ([frX (⟨14, 5⟩ : Frc)]).length sv.b) (fun sv => [fun w => SlV ratK w (.slice (some ⟨sv.a, 0, none⟩) ([frX (⟨14, 5⟩ : Frc)]).length sv.b) ([frX (⟨14, 5⟩ : Frc)])]) (wants0 rfl)
  · intro f1 l1 hl1 w' hK; go_simp; (try go_bits); refine (num1_any (.slice (some ⟨sv122.a, 0, none⟩) (frL [(⟨14, 5⟩ : Frc)]).length sv122.b) (frX (⟨14, 5⟩ : Frc)) w' (hK.get m0) ((frX_lm (frc_ok (by decide) (by decide) (by decide) (by decide))).up (by decide)) (hB0.below hK.old)).mono ?_; rintro e w5 ⟨y0, rfl, u0, hb⟩; obtain ⟨rfl, rfl⟩ := hl1.out; obtain ⟨g_u0, c_u0, rfl, u0_0⟩ := u0.shN (by simp); exact ⟨_, rfl, (⟨g_u0, c_u0⟩ : Duo Nat Nat), rfl, hb, .cons (fun w2 h2 => u0_0.below h2) (Lasts.nil _)⟩
  intro sv123
  simp only [Act.put, pA, pB, pC, pD, pE]
  refine tF ?_
  apply txE (α := Duo Bool (Duo Sl Sl)) (fun sv => .agg #[.bool sv.a, .slice sv.b.a.p sv.b.a.l sv.b.a.c, .slice sv.b.b.p sv.b.b.l sv.b.b.c]) (fun sv => [fun w => RatV w (.agg #[.bool sv.a, .slice sv.b.a.p sv.b.a.l sv.b.a.c, .slice sv.b.b.p sv.b.b.l sv.b.b.c]) (frX (⟨14, 5⟩ : Frc))]) (wants0 rfl)
  · intro f1 l1 hl1 w' hK; obtain ⟨ls, ly, lz, lc0, lc1, lc2, lr⟩ := ratK_load (hK.get m0) rfl; go_simp; (try go_bits); obtain ⟨rfl, rfl⟩ := hl1.out; exact ⟨⟨ls, ⟨ly, lz⟩⟩, rfl, Below.refl _ _, .cons (fun w2 h2 => lr.below h2) (Lasts.nil _)⟩
  intro sv124
  simp only [Act.put, pA, pB, pC, pD, pE]
  refine tF ?_
  apply txA2 (.cells #[.int .i64 0, .slice none 0 0, .slice none 0 0, .slice none 0 0, .bool false, .slice none 0 0, .slice none 0 0] 57) (wants0 rfl)
  · intro w' hK; go_simp; rfl
  intro R125 q_R125
  have o_R1_R125 : R1 < R125 := q_R125.box (ms24 (ms24 (ms24 (ms24 m11))))
  have o_R2_R125 : R2 < R125 := q_R125.box (ms24 (ms24 (ms24 (ms24 m10))))
  have o_R3_R125 : R3 < R125 := q_R125.box (ms24 (ms24 (ms24 (ms24 m9))))
  have o_R33_R125 : R33 < R125 := q_R125.box (ms24 (ms24 (ms24 m5)))
  have o_R49_R125 : R49 < R125 := q_R125.box (ms24 (ms24 m21))
  have o_R50_R125 : R50 < R125 := q_R125.box (ms24 (ms24 m20))
  have o_R52_R125 : R52 < R125 := q_R125.box (ms24 (ms24 m19))
  have o_R53_R125 : R53 < R125 := q_R125.box (ms24 (ms24 m18))
  have o_R55_R125 : R55 < R125 := q_R125.box (ms24 (ms24 m14))
  have o_R57_R125 : R57 < R125 := q_R125.box (ms24 (ms24 m13))
  have o_R83_R125 : R83 < R125 := q_R125.box (ms24 m11)
  have o_R117_R125 : R117 < R125 := q_R125.box m3
  have n126 : ob sv101.p ≠ some R125 := q_R125.row m4
  have n127 : ob sv86.p ≠ some R125 := q_R125.row m20
  have n128 : ob sv70.p ≠ some R125 := q_R125.row (ms24 m12)
  have n129 : ob sv58.p ≠ some R125 := q_R125.row (ms24 (ms24 m1))
  have nb_R125_W40 : W40.heap.size ≤ R125 := q_R125.gb (ms24 (ms24 (ms24 m4)))
  clear q_R125
  simp only [mkOf, Act.put, pA, pB, pC]
  refine tS m0 0 [.int .i64 1, .slice sv70.p ((frL ([(⟨8, 5⟩ : Frc), (⟨6, 5⟩ : Frc)]))).length sv70.c, .slice sv101.p ((frL ([(⟨2, 5⟩ : Frc), (⟨1, 5⟩ : Frc)]))).length sv101.c, .slice none 0 0, .bool sv124.a, .slice sv124.b.a.p sv124.b.a.l sv124.b.a.c, .slice sv124.b.b.p sv124.b.b.l sv124.b.b.c] (fun w' hK _ ni => kP [.int .i64 1, .slice sv70.p ((frL ([(⟨8, 5⟩ : Frc), (⟨6, 5⟩ : Frc)]))).length sv70.c, .slice sv101.p ((frL ([(⟨2, 5⟩ : Frc), (⟨1, 5⟩ : Frc)]))).length sv101.c, .slice none 0 0, .bool sv124.a, .slice sv124.b.a.p sv124.b.a.l sv124.b.a.c, .slice sv124.b.b.p sv124.b.b.l sv124.b.b.c] (kQ ni (kX (kX (kL o_R117_R125 (kK (spO n126 (.inr (ni.no rfl))) (kC (kC (kC (kC (kC (kC (kC (kC (kC (kC (kC (kC (kC (kC (kC (kX (kC (kC (kC (kC (kC (kC (kC (kC (kC (kC (kC (kC (kC (kC (kL o_R83_R125 (kK (spO n128 (.inr (ni.no rfl))) (kC (kC (kC (kC (kC (kC (kC (kC (kC (kC (kC (kC (kX (kC (kC (kC (kC (kC (kC (kC (kC (kC (kC (kC (kL o_R57_R125 (kL o_R55_R125 (kQ ni (kM ni (kM ni (kL o_R53_R125 (kL o_R52_R125 (kL o_R50_R125 (kL o_R49_R125 (kQ ni (kM ni (kM ni (kQ ni (kM ni (kM ni (kK (spGB nb_R125_W40) (kL o_R33_R125 (kC (kC (kC (kC (kC (kC (kC (kC (kC (kC (kC (kC (kC (kC (kC (kC (kC (kC (kC (kC (kC (kC (kC (kC (kC (kC (kC (kL o_R3_R125 (kL o_R2_R125 (kL o_R1_R125 kZ))))))))))))))))))))))))))))))))))))))))))))))))))))))))))))))))))))))))))))))))))))))))))))))))))))))))))))) ?_
  refine txEnd (fun W130 hK => ?_)
  go_upto_region 5 with (fail)
  refine wp_region_tx w hK ?_
  clear hK
  iterate 3 (refine tF ?_)
  refine tL (ms24 (ms24 m11)) ?_
  refine tH (fun w' hK => text_lit w' (hK.get (ms24 (ms24 m12))) (hB0.below hK.old)) ?_
  apply txF (v := .bool true) (wantsg (j := 2) (d := 45) (b := true) rfl rfl rfl rfl); (· intro w' hK; go_simp; (try go_bits); first | exact ⟨rfl, rfl⟩ | exact ⟨congrArg Value.bool (by simp), rfl⟩); simp only [Act.put, pA, pB, pC]
  iterate 2 (refine tF ?_)
  refine tL (ms24 (ms24 (ms24 m2))) ?_
  refine tL m0 ?_
  refine tH (fun w' hK => check_lit w' (LpV.mk ((an41.below (GB.to (hK.get (ms24 (ms24 (ms24 m1)))))).slv) ((an42.below (GB.to (hK.get (ms24 (ms24 (ms24 m1)))))).slv) ((an43.below (GB.to (hK.get (ms24 (ms24 (ms24 m1)))))).slv)) (LrV.mk ((hK.get (ms24 m10)).slv) ((hK.get m3).slv) SlV.nil ((hK.get m1))) exR_lm exChk.1) ?_
  iterate 2 (refine tF ?_)
  refine tL (ms24 (ms24 (ms24 m2))) ?_
  refine tF ?_
  refine tH (fun w' hK => check_lit w' (LpV.mk ((an41.below (GB.to (hK.get (ms24 (ms24 (ms24 m1)))))).slv) ((an42.below (GB.to (hK.get (ms24 (ms24 (ms24 m1)))))).slv) ((an43.below (GB.to (hK.get (ms24 (ms24 (ms24 m1)))))).slv)) (LrV.mk SlV.nil SlV.nil SlV.nil (RatV.zero _)) zeR_lm exChk.2) ?_
  iterate 3 (refine tF ?_)
  refine txEnd (fun W131 hK => ?_)
  go_wp2
  try go_ret
  show Q0 (.returned (.bool true)) _
  exact (by obtain rfl := hQ0.out; exact ⟨rfl, hK.old⟩)
theorem dot_lm4 {x y : List Rat} (hx : LmL 4 x) (hy : LmL 4 y) (hl : x.length ≤ 12) : LmQ 109 (dotQ x y) := (dotQ_lm hx hy).up (by omega)
theorem zero_lm109 : LmQ 109 (0 : Rat) := LmQ.zero.up (by decide)
theorem valR_lm {P : LPd} {x : List Rat} (hP : LmP 4 P) (hx : LmL 4 x) : LmQ 1000 (valR P x) := by
  unfold valR
  split
  · exact (dot_lm4 hP.c hx hP.n).up (by decide)
  · exact zero_lm109.up (by decide)
theorem bndR_lm {P : LPd} {y : List Rat} (hP : LmP 4 P) (hy : LmL 4 y) : LmQ 1000 (bndR P y) := by
  unfold bndR
  split
  · rename_i h; exact (dot_lm4 hy hP.b (by rw [h.2]; exact hP.m)).up (by decide)
  · exact zero_lm109.up (by decide)
theorem gapQ_lm {P : LPd} {x y : List Rat} (hP : LmP 4 P) (hx : LmL 4 x) (hy : LmL 4 y) : LmQ 1000 (gapQ P x y) := by
  unfold gapQ
  split
  · rename_i h
    have hv : vldP P = true := by
      cases e : vldP P with
      | true => rfl
      | false => unfold gapE at h; rw [if_pos e] at h; exact absurd h (by decide)
    have hy2 := (cov_iff.1 ((gap_ok hv).1 h).2).1
    exact ((dot_lm4 hy hP.b (by rw [hy2]; exact hP.m)).sub (dot_lm4 hP.c hx hP.n)).up (by decide)
  · exact zero_lm109.up (by decide)
set_option maxRecDepth 100000 in
theorem is41_any (v0 : Value) (v1 : Value) (x : Rat) (y : Rat) (w : World) (h0 : RatV w v0 x) (h1 : RefR w v1 y) (hB0 : Bas w) (he : x = y) (hx : LmQ 1000 x) :
    Calls Tryz.prog 36 #[v0, v1] w fun e w' => e = .returned (.bool true) ∧ Below w.heap.size w w' := by
  have h0_0 := h0; obtain ⟨p_h0, l_h0, c_h0, q_h0, m_h0, d_h0, rfl, h0_1, h0_2⟩ := h0
  have h1_0 := h1; obtain ⟨p_h1, c_h1, q_h1, d_h1, rfl, h1_1, h1_2⟩ := h1.slr
  have hK := ((((((KS.start w).aN h0_2).aN h0_1).aQ h0_0).aF h1_2).aF h1_1).aR h1_0
  subst he
  refine Calls.hide (fun Q0 hQ0 => ?_)
  go_enter Tryz.func36, Tryz.ntmps36
  go_upto_region 0 with (fail)
  refine wp_region_tx w hK ?_
  clear hK
  refine tA (.cells #[.bool (isN x), .slice p_h0 l_h0 c_h0, .slice q_h0 m_h0 d_h0] 55) (fun R1 q_R1 => ?_)
  clear q_R1
  refine tA (.cells #[.bool (isN x), .slice p_h1 (digs B6 (numQ x)).length c_h1, .slice q_h1 (digs B6 (den0 x)).length d_h1] 41) (fun R2 q_R2 => ?_)
  have o_R1_R2 : R1 < R2 := q_R2 _ _ _ m0
  clear q_R2
  refine tF ?_
  refine txEnd (fun W3 hK => ?_)
  go_upto_region 1 with (fail)
  have hK0 := hK
  refine wp_region_float0 (w) _ _ [0, 1, 0, 1, 0, 0] (by kernel_rfl) (by kernel_rfl) (by kernel_rfl) (by kernel_rfl) (KS.drew hK0) (KS.drew hK) ?_
  clear hK hK0
  refine lL m1 ?_
  refine lH (fun w' h0 hK => qtext_q (.agg #[.bool (isN x), .slice p_h0 l_h0 c_h0, .slice q_h0 m_h0 d_h0]) x w' (hK.get m5) (hB0.below hK.old) (LmQ.up (b := 1000) hx (by decide)) (by decide)) ?_
  refine lL m0 ?_
  refine lH (fun w' h0 hK => rtext_q (.agg #[.bool (isN x), .slice p_h1 (digs B6 (numQ x)).length c_h1, .slice q_h1 (digs B6 (den0 x)).length d_h1]) x w' (hK.get m2) (LmQ.up (b := 1000) hx (by decide)) (by decide)) ?_
  apply lxF0 (v := .bool true) (wants0 rfl); (· intro w' h0; go_simp; (try go_bits); first | exact ⟨rfl, rfl⟩ | exact ⟨congrArg Value.bool (by simp), rfl⟩); simp only [Act.put, pA, pB, pC]
  refine lF ?_
  refine lxEnd (fun W4 hK => ?_)
  go_wp2
  try go_ret
  show Q0 (.returned (.bool true)) _
  exact (by obtain rfl := hQ0.out; exact ⟨rfl, hK.old⟩)
end Go.Proofs.YtcdbgincfdejkaaGreatDoor
