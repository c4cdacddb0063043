/- The order of nodes walked with the stricter order of worlds. -/
import Derived.Test.YtokhapaffleffaaDagP
import Derived.Test.YtokhapaffleffaaRowX
import Derived.Test.YtokhapaffleffaaQ
namespace Go.Proofs.Ytokhapaffleffaa.Q
open Go.RowKit
theorem SlV.one0 {α : Type} {K : EK α} {w : World} {p : Option Addr} {n c : Nat} {xs : List α} (h : SlV K w (.slice p n c) xs) : n = xs.length := by
  obtain ⟨css, h1, ⟨rfl, p', c', e⟩ | ⟨g, o, c', e, _⟩⟩ := h
  · injection e with _ e2
  · injection e with _ e2
theorem slv_of {w : World} {v : Value} {xs : List Int} (h : Go.Proofs.Ytokhapaffleffaa.SlV Go.Proofs.Ytokhapaffleffaa.intK w v xs) : SlV intK w v xs := by
  obtain ⟨css, he, h2⟩ := h
  exact ⟨css, ⟨he.len, fun k cs x h1 h2 => he.el k cs x h1 h2⟩, h2⟩
def cmpZ (x y : Int) : Int := if x < y then -1 else if y < x then 1 else 0
def orL : List Int → Int
  | [] => 0
  | x :: l => if x = 0 then orL l else x
theorem orL_hit {xs : List Int} {k : Nat} {x : Int} (hx : xs[k]? = some x) (h : (x != 0) = true) : orL (xs.drop k) = x := by
  obtain ⟨hk, e⟩ := List.getElem?_eq_some_iff.1 hx
  rw [List.drop_eq_getElem_cons hk, e, orL, if_neg (by simpa using h)]
theorem orL_miss {xs : List Int} {k : Nat} {x : Int} (hx : xs[k]? = some x) (h : (x != 0) = false) : orL (xs.drop k) = orL (xs.drop (k + 1)) := by
  obtain ⟨hk, e⟩ := List.getElem?_eq_some_iff.1 hx
  rw [List.drop_eq_getElem_cons hk, e, orL, if_pos (by simpa using h)]
def cfO (D : List Int) (a b : Nat) : Int := orL [cmpZ (atD D b) (atD D a), cmpZ (a : Int) (b : Int)]
theorem cfO_of {D : List Int} {a b : Nat} {x y : Int} (hx : D[a]? = some x) (hy : D[b]? = some y) : cfO D a b = orL [cmpZ y x, cmpZ (a : Int) (b : Int)] := by
  unfold cfO atD List.getD; rw [hx, hy]; rfl
set_option maxRecDepth 100000 in
theorem isNaN_i64  (x : Int) (w : World)   :
    Calls Try.prog 59 #[.int .i64 x] w fun e w' => e = .returned (.bool false) ∧ Below w.heap.size w w' := by
  have hK : KS w [] w := (KS.start w)
  refine Calls.hide (fun Q0 hQ0 => ?_)
  go_enter Try.func59, Try.ntmps59
  go_upto_region 1 with (fail)
  refine wp_region_tx w hK ?_
  clear hK
  iterate 2 (apply txF (wants0 rfl); (· intro w' hK; go_simp; (try go_bits); exact ⟨rfl, rfl⟩); simp only [Act.put, pA, pB, pC])
  apply txF (v := .bool false) (wants0 rfl); (· intro w' hK; go_simp; (try go_bits); exact ⟨congrArg Value.bool (by simp), rfl⟩); simp only [Act.put, pA, pB, pC]
  apply txF (wants0 rfl); (· intro w' hK; go_simp; (try go_bits); exact ⟨rfl, rfl⟩); simp only [Act.put, pA, pB, pC]
  refine txEnd (fun W1 hK => ?_)
  go_wp2
  try go_ret
  show Q0 (.returned (.bool false)) _
  exact (by obtain rfl := hQ0.out; exact ⟨rfl, hK.old⟩)
set_option maxRecDepth 100000 in
theorem compare_i64  (x : Int) (y : Int) (w : World)   :
    Calls Try.prog 39 #[.int .i64 x, .int .i64 y] w fun e w' => e = .returned (.int .i64 (cmpZ x y)) ∧ Below w.heap.size w w' := by
  have hK : KS w [] w := (KS.start w)
  refine Calls.hide (fun Q0 hQ0 => ?_)
  go_enter Try.func39, Try.ntmps39
  go_upto_region 1 with (fail)
  refine wp_region_tx w hK ?_
  clear hK
  apply txF (wants0 rfl); (· intro w' hK; go_simp; (try go_bits); exact ⟨rfl, rfl⟩); simp only [Act.put, pA, pB, pC]
  apply txH (v := .bool false) (wants0 rfl)
  · intro v1 hv1 w' hK; go_simp; (try go_bits); refine (isNaN_i64  x w'  ).mono ?_; rintro e w5 ⟨rfl, hb⟩; obtain rfl := hv1.out; exact ⟨_, rfl, rfl, hb⟩
  simp only [Act.put, pA, pB, pC]
  apply txF (wants0 rfl); (· intro w' hK; go_simp; (try go_bits); exact ⟨rfl, rfl⟩); simp only [Act.put, pA, pB, pC]
  refine txEnd (fun W1 hK => ?_)
  go_upto_region 2 with (fail)
  refine wp_region_tx w hK ?_
  clear hK
  apply txF (wants0 rfl); (· intro w' hK; go_simp; (try go_bits); exact ⟨rfl, rfl⟩); simp only [Act.put, pA, pB, pC]
  apply txH (v := .bool false) (wants0 rfl)
  · intro v1 hv1 w' hK; go_simp; (try go_bits); refine (isNaN_i64  y w'  ).mono ?_; rintro e w5 ⟨rfl, hb⟩; obtain rfl := hv1.out; exact ⟨_, rfl, rfl, hb⟩
  simp only [Act.put, pA, pB, pC]
  apply txF (wants0 rfl); (· intro w' hK; go_simp; (try go_bits); exact ⟨rfl, rfl⟩); simp only [Act.put, pA, pB, pC]
  refine txEnd (fun W2 hK => ?_)
  go_upto_region 9 with (fail)
  refine wp_region_tx w hK ?_
  clear hK
  iterate 2 (apply txF (wants0 rfl); (· intro w' hK; go_simp; (try go_bits); exact ⟨rfl, rfl⟩); simp only [Act.put, pA, pB, pC])
  obtain ⟨b1, hb1⟩ : ∃ b : Bool, RowKit.Hid (decide (x < y) = b) := ⟨_, hid rfl⟩
  apply txB b1 (wants0 rfl); (· intro w' hK; go_simp; (try go_bits); exact ⟨by have q := hb1.out; subst q; first | rfl | simp, rfl⟩); simp only [Act.put, pA, pB, pC]
  refine txEnd (fun W3 hK => ?_)
  cases b1
  · --
   have q_b1 : y ≤ x := Int.not_lt.1 (of_decide_eq_false hb1.out)
   go_upto_region 11 with (fail)
   refine wp_region_tx w hK ?_
   clear hK
   iterate 2 (apply txF (wants0 rfl); (· intro w' hK; go_simp; (try go_bits); exact ⟨rfl, rfl⟩); simp only [Act.put, pA, pB, pC])
   obtain ⟨b2, hb2⟩ : ∃ b : Bool, RowKit.Hid (decide (y < x) = b) := ⟨_, hid rfl⟩
   apply txB b2 (wants0 rfl); (· intro w' hK; go_simp; (try go_bits); exact ⟨by have q := hb2.out; subst q; first | rfl | simp, rfl⟩); simp only [Act.put, pA, pB, pC]
   refine txEnd (fun W4 hK => ?_)
   cases b2
   · --
    have q_b2 : x ≤ y := Int.not_lt.1 (of_decide_eq_false hb2.out)
    go_wp2
    try go_ret
    show Q0 (.returned (.int .i64 0)) _
    exact (by obtain rfl := hQ0.out; exact ⟨(by rw [show cmpZ x y = 0 from (if_neg (by omega)).trans (if_neg (by omega))]), hK.old⟩)
   · --
    have q_b2 : y < x := of_decide_eq_true hb2.out
    go_wp2
    try go_ret
    show Q0 (.returned (.int .i64 1)) _
    exact (by obtain rfl := hQ0.out; exact ⟨(by rw [show cmpZ x y = 1 from (if_neg (by omega)).trans (if_pos q_b2)]), hK.old⟩)
  · --
   have q_b1 : x < y := of_decide_eq_true hb1.out
   go_wp2
   try go_ret
   show Q0 (.returned (.int .i64 (-1))) _
   exact (by obtain rfl := hQ0.out; exact ⟨(by rw [show cmpZ x y = -1 from if_pos q_b1]), hK.old⟩)
set_option maxRecDepth 100000 in
theorem or_any (v0 : Value) (xs : List Int) (w : World) (h0 : SlV intK w v0 xs) (hl : xs.length ≤ 100) :
    Calls Try.prog 38 #[v0] w fun e w' => e = .returned (.int .i64 (orL xs)) ∧ Below w.heap.size w w' := by
  have h0_0 := h0; obtain ⟨p_h0, c_h0, rfl, n_h0⟩ := h0.sh
  have hK : KS w [] w := (KS.start w)
  refine Calls.hide (fun Q0 hQ0 => ?_)
  go_enter Try.func38, Try.ntmps38
  go_wp2_with fail
  go_loopw [8] (fun s8 wl => ∃ (k : Nat), s8 = .int .i64 (k : Int) ∧ (k ≤ xs.length) ∧ RowKit.Hid (orL xs = orL (xs.drop k)) ∧ KS w [] wl) (fun s8 _ => xs.length - (intOf s8).toNat)
  case atStart => exact ⟨0, rfl, (by omega), (hid (by rw [List.drop_zero])), ⟨hK.old, aN⟩⟩
  case round =>
   clear hK
   obtain ⟨k, rfl, hk, ho, hK⟩ := hrel
   generalize wr = W1 at hK ⊢
   go_upto_region 3 with (fail)
   refine wp_region_tx w hK ?_
   clear hK
   obtain ⟨b1, hb1⟩ : ∃ b : Bool, RowKit.Hid (decide (((k : Int)) < ((xs.length : Int))) = b) := ⟨_, hid rfl⟩
   apply txB b1 (wants0 rfl); (· intro w' hK; go_simp; (try go_bits); exact ⟨by have q := hb1.out; subst q; first | rfl | simp, rfl⟩); simp only [Act.put, pA, pB, pC]
   refine txEnd (fun W2 hK => ?_)
   cases b1
   · --
    have q_b1 : ((xs.length : Int)) ≤ ((k : Int)) := Int.not_lt.1 (of_decide_eq_false hb1.out)
    go_wp2
    try go_ret
    show Q0 (.returned (.int .i64 0)) _
    exact (by obtain rfl := hQ0.out; exact ⟨(by rw [ho.out, List.drop_eq_nil_of_le (by omega)]; rfl), hK.old⟩)
   · --
    have q_b1 : ((k : Int)) < ((xs.length : Int)) := of_decide_eq_true hb1.out
    obtain ⟨x4, ex4⟩ : ∃ x, RowKit.Hid (xs[k]? = some x) := ⟨_, hid (List.getElem?_eq_getElem (show k < xs.length from (by omega)))⟩
    have i3 : k < xs.length := by have q : k < xs.length := (by omega); first | exact q | (simp at q; omega) | omega
    obtain ⟨g3, o3, q3, l3⟩ := (h0_0).ptr ex4.out
    subst q3
    replace hK := KS.atI hK (h0_0.below hK.old) ex4.out
    go_upto_region 4 with (fail)
    refine wp_region_tx w hK ?_
    clear hK
    apply txF (wants0 rfl); (· intro w' hK; go_simp; (try go_bits); exact ⟨rfl, rfl⟩); simp only [Act.put, pA, pB, pC]
    apply txF (wants0 rfl); (· intro w' hK; have c_CEL3_0 : w'.cell? ⟨g3, o3 + k, none⟩ = some (.int .i64 x4) := (by have q := (hK.get m0).2 0 _ rfl; simpa using q); go_simp; (try go_bits); exact ⟨rfl, rfl⟩); simp only [Act.put, pA, pB, pC]
    apply txF (wants0 rfl); (· intro w' hK; go_simp; (try go_bits); exact ⟨rfl, rfl⟩); simp only [Act.put, pA, pB, pC]
    refine txEnd (fun W4 hK => ?_)
    go_upto_region 5 with (fail)
    refine wp_region_tx w hK ?_
    clear hK
    iterate 2 (apply txF (wants0 rfl); (· intro w' hK; go_simp; (try go_bits); exact ⟨rfl, rfl⟩); simp only [Act.put, pA, pB, pC])
    obtain ⟨b2, hb2⟩ : ∃ b : Bool, RowKit.Hid ((x4 != 0) = b) := ⟨_, hid rfl⟩
    apply txB b2 (wants0 rfl); (· intro w' hK; go_simp; (try go_bits); exact ⟨by have q := hb2.out; subst q; first | rfl | simp, rfl⟩); simp only [Act.put, pA, pB, pC]
    refine txEnd (fun W5 hK => ?_)
    cases b2
    · --
     (try go_wp2)
     go_roundw
     case rel => exact ⟨k + 1, (by first | rfl | go_num), (by omega), (hid (ho.out.trans (orL_miss ex4.out hb2.out))), ⟨hK.old, aN⟩⟩
     case measure => simp [intOf] <;> omega
    · --
     go_wp2
     try go_ret
     show Q0 (.returned (.int .i64 x4)) _
     exact (by obtain rfl := hQ0.out; exact ⟨(by rw [ho.out, orL_hit ex4.out hb2.out]), hK.old⟩)
set_option maxRecDepth 100000 in
theorem ord_any  (b0 R : Nat) (p : Option Addr) (n c : Nat) (D : List Int) (na nb : Nat) (w : World)  (hB : Has b0 R (.cells #[.slice p n c] 32) w) (hD : SlV intK w (.slice p n c) D) (ha0 : na < D.length) (hb0 : nb < D.length) :
    Calls Try.prog 37 #[.int .i64 (na : Int), .int .i64 (nb : Int), .pointer (some ⟨R, 0, none⟩)] w fun e w' => e = .returned (.int .i64 (cfO D na nb)) ∧ Below w.heap.size w w' := by
  have hK : KS w [] w := (KS.start w)
  replace hK := hK.add (F := Has b0 R (.cells #[.slice p n c] 32)) (fun w' hb => hB.below hb)
  have hn1 := hid (show n = D.length from hD.one0); have hn1a := Nat.le_of_eq hn1.out; have hn1b := Nat.le_of_eq hn1.out.symm
  obtain ⟨y, ey⟩ : ∃ x, RowKit.Hid (D[nb]? = some x) := ⟨_, hid (List.getElem?_eq_getElem (show nb < D.length from hb0))⟩
  have i1 : nb < n := by have q : nb < D.length := hb0; first | exact q | (simp at q; omega) | omega
  obtain ⟨g1, o1, q1, l1⟩ := (hD).ptr ey.out
  subst q1
  replace hK := KS.atI hK (hD.below hK.old) ey.out
  obtain ⟨x, ex⟩ : ∃ x, RowKit.Hid (D[na]? = some x) := ⟨_, hid (List.getElem?_eq_getElem (show na < D.length from ha0))⟩
  have i2 : na < n := by have q : na < D.length := ha0; first | exact q | (simp at q; omega) | omega
  replace hK := KS.atI hK (hD.below hK.old) ex.out
  refine Calls.hide (fun Q0 hQ0 => ?_)
  go_enter Try.func37, Try.ntmps37
  go_upto_region 1 with (fail)
  have z_R : R < w.heap.size := (hK.get m2).ltS
  have v_w := hK.old.size
  have hD_w := hD.below hK.old
  have hKo := hK
  replace hK := hK.re
  have hK0 := hK
  refine wp_region_float0 (w) _ _ [0, 0, 0, 0, 0, 0, 0, 0, 1, 0, 0, 1, 3, 1, 0] (by kernel_rfl) (by kernel_rfl) (by kernel_rfl) (by kernel_rfl) (KS.drew hK0) (KS.drew hK) ?_
  clear hK hK0
  apply lxF0 (wants0 rfl); (· intro w' h0; have k_R := (h0.get m2); have c_R_0 := k_R.at 0 rfl; go_simp; (try go_bits); exact ⟨rfl, rfl⟩); simp only [Act.put, pA, pB, pC]
  iterate 2 (apply lxF0 (wants0 rfl); (· intro w' h0; go_simp; (try go_bits); exact ⟨rfl, rfl⟩); simp only [Act.put, pA, pB, pC])
  apply lxF0 (wants0 rfl); (· intro w' h0; have c_CEL1_0 : w'.cell? ⟨g1, o1 + nb, none⟩ = some (.int .i64 y) := (by have q := (h0.get m1).2 0 _ rfl; simpa using q); go_simp; (try go_bits); exact ⟨rfl, rfl⟩); simp only [Act.put, pA, pB, pC]
  apply lxF0 (wants0 rfl); (· intro w' h0; have k_R := (h0.get m2); have c_R_0 := k_R.at 0 rfl; go_simp; (try go_bits); exact ⟨rfl, rfl⟩); simp only [Act.put, pA, pB, pC]
  iterate 2 (apply lxF0 (wants0 rfl); (· intro w' h0; go_simp; (try go_bits); exact ⟨rfl, rfl⟩); simp only [Act.put, pA, pB, pC])
  apply lxF0 (wants0 rfl); (· intro w' h0; have c_CEL2_0 : w'.cell? ⟨g1, o1 + na, none⟩ = some (.int .i64 x) := (by have q := (h0.get m0).2 0 _ rfl; simpa using q); go_simp; (try go_bits); exact ⟨rfl, rfl⟩); simp only [Act.put, pA, pB, pC]
  obtain ⟨z1, hz1⟩ : ∃ b : Int, RowKit.Hid ((cmpZ y x) = b) := ⟨_, hid rfl⟩
  apply lxH1 (v := .int .i64 z1) (wants0 rfl)
  · intro v1 hv1 w' h0 hK; go_simp; (try go_bits); refine (compare_i64  y x w'  ).mono ?_; rintro e w5 ⟨rfl, hb⟩; obtain rfl := hv1.out; exact ⟨_, rfl, (by rw [hz1.out]), hb⟩
  simp only [Act.put, pA, pB, pC]
  iterate 2 (apply lxF0 (wants0 rfl); (· intro w' h0; go_simp; (try go_bits); exact ⟨rfl, rfl⟩); simp only [Act.put, pA, pB, pC])
  obtain ⟨z2, hz2⟩ : ∃ b : Int, RowKit.Hid ((cmpZ ((na : Int)) ((nb : Int))) = b) := ⟨_, hid rfl⟩
  apply lxH1 (v := .int .i64 z2) (wants0 rfl)
  · intro v1 hv1 w' h0 hK; go_simp; (try go_bits); refine (compare_i64  ((na : Int)) ((nb : Int)) w'  ).mono ?_; rintro e w5 ⟨rfl, hb⟩; obtain rfl := hv1.out; exact ⟨_, rfl, (by rw [hz2.out]), hb⟩
  simp only [Act.put, pA, pB, pC]
  apply lxA0 (.cells #[.int .i64 z1, .int .i64 z2] 3) (wants0 rfl)
  · intro w' h0; go_simp; rfl
  intro R3
  simp only [mkOf, Act.put, pA, pB, pC]
  obtain ⟨z3, hz3⟩ : ∃ b : Int, RowKit.Hid ((orL ([z1, z2])) = b) := ⟨_, hid rfl⟩
  apply lxH1 (v := .int .i64 z3) (wants0 rfl)
  · intro v1 hv1 w' h0 hK; go_simp; (try go_bits); refine (or_any (.slice (some ⟨R3, 0, none⟩) 2 2) ([z1, z2]) w' (SlV.ofBox (K := intK) (f := fun x => [.int .i64 x]) (xs := [z1, z2]) (fun _ _ => rfl) (hK.get m0) (by simp)) (by simp)).mono ?_; rintro e w5 ⟨rfl, hb⟩; obtain rfl := hv1.out; exact ⟨_, rfl, (by rw [hz3.out]), hb⟩
  simp only [Act.put, pA, pB, pC]
  apply lxF0 (wants0 rfl); (· intro w' h0; go_simp; (try go_bits); exact ⟨rfl, rfl⟩); simp only [Act.put, pA, pB, pC]
  refine lxEnd (fun W4 hK => ?_)
  go_wp2
  try go_ret
  show Q0 (.returned (.int .i64 z3)) _
  exact (by obtain rfl := hQ0.out; exact ⟨(by rw [cfO_of ex.out ey.out, hz1.out, hz2.out, hz3.out]), hK.old⟩)
end Go.Proofs.Ytokhapaffleffaa.Q
