/- Demands: the reference's number and split. -/
import Derived.Test.YtjhgkojbpgakcaaDoorDmS
import Derived.Test.YtjhgkojbpgakcaaDoorDemB
import Derived.Test.YtjhgkojbpgakcaaDoorDemL
import Derived.Deep.CutRange
namespace Go.Proofs.YtjhgkojbpgakcaaDoor
open Go.RowKit
open Go.Lib (decDigits)
def numC (l : List UInt8) : Bool := decide (l.length = 0 ∨ 7 < l.length ∨ (1 < l.length ∧ l.head? = some 48))
section
variable {l : List UInt8} {b : Bool}
theorem numC_z (h : ((l.length : Int) == 0) = true) : numC l = true := decide_eq_true (.inl (by simp at h; rw [h]; rfl))
theorem numC_l (h : (7 : Int) < (l.length : Int)) : numC l = true := decide_eq_true (.inr (.inl (by omega)))
theorem numC_s (h0 : ((l.length : Int) == 0) = false) (h7 : (l.length : Int) ≤ 7) (h1 : (l.length : Int) ≤ 1) : numC l = false := decide_eq_false fun h => by
  have q : ¬ (l.length : Int) = 0 := fun e => by rw [e] at h0; cases h0
  omega
theorem numC_h (h0 : ((l.length : Int) == 0) = false) (h7 : (l.length : Int) ≤ 7) (h1 : (1 : Int) < (l.length : Int)) (hb : (((l.headD 0).toNat : Int) == 48) = b) : numC l = b := by
  rw [← hb]
  unfold numC
  rw [Bool.eq_iff_iff, decide_eq_true_eq]
  rcases l with _ | ⟨c, t⟩
  · simp at h1
  · simp only [List.head?_cons, List.headD_cons, Option.some.injEq]
    constructor
    · rintro (h | h | ⟨_, h⟩)
      · simp at h
      · omega
      · rw [h]; rfl
    · intro h
      refine .inr (.inr ⟨by omega, UInt8.toNat_inj.1 ?_⟩)
      have h : ((c.toNat : Int)) = 48 := by simpa using h
      show c.toNat = 48
      omega
theorem num_bad (h : numC l = true) : numB l = -1 := if_pos (of_decide_eq_true h)
theorem num_nd {m : Nat} {c : UInt8} (hc : l[m]? = some c) (hd : dgB c = false) : numB l = -1 := by
  unfold numB
  split
  · rfl
  · rw [if_neg]
    intro h
    rw [List.all_eq_true] at h
    rw [h c (List.mem_of_getElem? hc)] at hd
    cases hd
theorem num_ok {n : Nat} (h : numC l = false) (ha : l.all dgB = true) (hv : valB l = n) : numB l = (n : Int) := by
  unfold numB
  rw [if_neg (of_decide_eq_false h), if_pos ha, hv]
theorem numC_len (h : numC l = false) : l.length ≤ 7 := by have := of_decide_eq_false h; omega
theorem take_dg {m : Nat} {c : UInt8} (hc : l[m]? = some c) (ha : (l.take m).all dgB = true) (h0 : 48 ≤ c.toNat) (h1 : c.toNat ≤ 57) : (l.take (m + 1)).all dgB = true := by
  rw [List.take_add_one, hc, List.all_append, ha]
  unfold dgB
  simp; omega
theorem take_val {m n : Nat} {c : UInt8} (hc : l[m]? = some c) (hv : valB (l.take m) = n) : valB (l.take (m + 1)) = 10 * n + (c.toNat - 48) := by
  rw [List.take_add_one, hc]
  show valB (l.take m ++ [c]) = _
  rw [valB_snoc, hv]
theorem valB_lt : ∀ {l : List UInt8}, l.all dgB = true → valB l < 10 ^ l.length := by
  intro l
  induction hn : l.length generalizing l with
  | zero => intro _; rw [List.eq_nil_of_length_eq_zero hn]; decide
  | succ k ih =>
    intro h
    have hne : l ≠ [] := fun e => by rw [e] at hn; cases hn
    have he := List.dropLast_concat_getLast hne
    rw [← he] at h ⊢
    rw [List.all_append, Bool.and_eq_true] at h
    have h1 := ih (l := l.dropLast) (by simp [hn]) h.1
    have h2 : dgB (l.getLast hne) = true := by simpa using h.2
    have h3 := chrB_of h2
    rw [valB_snoc, Nat.pow_succ]
    omega
theorem val6 {m n : Nat} (ha : (l.take m).all dgB = true) (hv : valB (l.take m) = n) (hm : m ≤ 6) : n < 1000000 := by
  have h1 := valB_lt ha
  have h2 : (l.take m).length ≤ 6 := by rw [List.length_take]; omega
  have h3 : 10 ^ (l.take m).length ≤ 10 ^ 6 := Nat.pow_le_pow_right (by decide) h2
  rw [hv] at h1
  omega
theorem dg_lo {c : UInt8} (h : (c.toNat : Int) < 48) : dgB c = false := by unfold dgB; simp; omega
theorem dg_hi {c : UInt8} (h : (57 : Int) < (c.toNat : Int)) : dgB c = false := by unfold dgB; simp; omega
end
set_option maxRecDepth 100000 in
set_option maxHeartbeats 400000 in
theorem num_any (w : World) (l : List UInt8) (hl : l.length ≤ 100000) :
    Calls Tryd.prog 27 #[.string ⟨l.toArray⟩] w fun e w' => e = .returned (.int .i64 (numB l)) ∧ Below w.heap.size w w' := by
  have hK := SS.start w
  refine Calls.hide (fun Q0 hQ0 => ?_)
  go_enter Tryd.func27, Tryd.ntmps27
  go_upto_region 1 with (fail)
  go_cut [22] from 9999 to 9999 (fun s22 wl => ∃ (b9 : Bool), s22 = .bool b9 ∧ RowKit.Hid (numC l = b9) ∧ SS w ([]) wl)
  case first =>
   go_upto_region 1 with (fail)
   refine wp_region_T [0, 0, 0, 0, 0, 0, 0, 0, 0, 0, 0, 0, 0, 0, 0, 0, 0, 0] hK ?_
   clear hK
   iterate 2 refine e0 ?_
   refine eB (((l.length : Int)) == 0) (fun b1 hb1 => ?_)
   refine e0 ?_
   cases b1
   · --
    iterate 2 refine e0 ?_
    refine eB (decide (7 < ((l.length : Int)))) (fun b2 hb2 => ?_)
    iterate 2 refine e0 ?_
    cases b2
    · --
     have q_b2 : ((l.length : Int)) ≤ 7 := Int.not_lt.1 (of_decide_eq_false hb2.out)
     iterate 2 refine e0 ?_
     refine eB (decide (1 < ((l.length : Int)))) (fun b3 hb3 => ?_)
     refine e0 ?_
     cases b3
     · --
      have q_b3 : ((l.length : Int)) ≤ 1 := Int.not_lt.1 (of_decide_eq_false hb3.out)
      iterate 3 refine eN ?_
      iterate 2 refine e0 ?_
      refine sxEnd (fun W1 hK => ?_)
      (try go_wp2)
      go_meet
      case rel => exact ⟨false, (by first | rfl | go_num), hid (numC_s hb1.out q_b2 q_b3), hK⟩
     · --
      have q_b3 : 1 < ((l.length : Int)) := of_decide_eq_true hb3.out
      refine e0 ?_
      refine eV (.int .u8 ((l.headD 0).toNat : Int)) (fun w' => by go_simp; (try go_bits); rcases l with _ | ⟨c, t⟩; (· simp at q_b3); exact ⟨rfl, rfl⟩) ?_
      refine eB ((((l.headD 0).toNat : Int)) == 48) (fun b4 hb4 => ?_)
      iterate 2 refine e0 ?_
      refine sxEnd (fun W2 hK => ?_)
      (try go_wp2)
      go_meet
      case rel => exact ⟨b4, (by first | rfl | go_num), hid (numC_h hb1.out q_b2 q_b3 hb4.out), hK⟩
    · --
     have q_b2 : 7 < ((l.length : Int)) := of_decide_eq_true hb2.out
     iterate 4 refine eN ?_
     iterate 3 refine eU ?_
     refine eN ?_
     refine e0 ?_
     refine sxEnd (fun W3 hK => ?_)
     (try go_wp2)
     go_meet
     case rel => exact ⟨true, (by first | rfl | go_num), hid (numC_l q_b2), hK⟩
   · --
    iterate 3 refine eN ?_
    iterate 2 refine e0 ?_
    iterate 4 refine eN ?_
    iterate 3 refine eU ?_
    refine eN ?_
    refine e0 ?_
    refine sxEnd (fun W4 hK => ?_)
    (try go_wp2)
    go_meet
    case rel => exact ⟨true, (by first | rfl | go_num), hid (numC_z hb1.out), hK⟩
  case rest =>
   clear hK
   obtain ⟨b9, rfl, h_c, hK⟩ := hcut
   generalize wc = W5 at hK ⊢
   cases b9
   · --
    have hc9 := h_c.out; have hl7 := numC_len hc9
    go_wp2_with fail
    go_loopw [3, 4] (fun s3 s4 wl => ∃ (n : Nat) (m : Nat), s3 = .int .i64 (n : Int) ∧ s4 = .int .i64 (m : Int) ∧ (m ≤ l.length) ∧ RowKit.Hid (valB (l.take m) = n) ∧ RowKit.Hid ((l.take m).all dgB = true) ∧ SS w ([]) wl) (fun s3 s4 _ => l.length - (intOf s4).toNat)
    case atStart => exact ⟨0, 0, rfl, rfl, (by omega), hid rfl, hid rfl, hK⟩
    case round =>
     clear hK
     obtain ⟨n, m, rfl, rfl, hm0, h_v, h_a, hK⟩ := hrel
     generalize wr = W6 at hK ⊢
     go_upto_region 5 with (fail)
     refine wp_region_T [0, 0, 0, 0] hK ?_
     clear hK
     iterate 3 refine e0 ?_
     refine eB (decide (((m : Int)) < ((l.length : Int)))) (fun b1 hb1 => ?_)
     refine sxEnd (fun W7 hK => ?_)
     cases b1
     · --
      have q_b1 : ((l.length : Int)) ≤ ((m : Int)) := Int.not_lt.1 (of_decide_eq_false hb1.out)
      go_wp2
      try go_ret
      show Q0 (.returned (.int .i64 (n : Int))) _
      exact (by obtain rfl := hQ0.out; exact ⟨(by have hme : m = l.length := (by omega); have h1 := h_a.out; have h2 := h_v.out; rw [hme, List.take_length] at h1 h2; rw [num_ok hc9 h1 h2]), hK.old⟩)
     · --
      have q_b1 : ((m : Int)) < ((l.length : Int)) := of_decide_eq_true hb1.out
      obtain ⟨c, ec⟩ : ∃ c, RowKit.Hid (l[m]? = some c) := ⟨l[m], hid (List.getElem?_eq_getElem (by omega))⟩; have hn6 := val6 h_a.out h_v.out (by omega); have hcu := UInt8.toNat_lt c
      go_upto_region 7 with (fail)
      refine wp_region_T [0, 0, 0, 0, 0, 0, 0, 0, 0, 0] hK ?_
      clear hK
      iterate 2 refine e0 ?_
      refine eV (.int .u8 (c.toNat : Int)) (fun w' => by go_simp; (try go_bits); exact ⟨congrArg (fun c : UInt8 => Value.int .u8 (c.toNat : Int)) (idx_b ec.out _), rfl⟩) ?_
      refine eB (decide (((c.toNat : Int)) < 48)) (fun b2 hb2 => ?_)
      refine e0 ?_
      cases b2
      · --
       have q_b2 : 48 ≤ ((c.toNat : Int)) := Int.not_lt.1 (of_decide_eq_false hb2.out)
       iterate 2 refine e0 ?_
       refine eV (.int .u8 (c.toNat : Int)) (fun w' => by go_simp; (try go_bits); exact ⟨congrArg (fun c : UInt8 => Value.int .u8 (c.toNat : Int)) (idx_b ec.out _), rfl⟩) ?_
       refine eB (decide (57 < ((c.toNat : Int)))) (fun b3 hb3 => ?_)
       refine e0 ?_
       refine sxEnd (fun W8 hK => ?_)
       cases b3
       · --
        have q_b3 : ((c.toNat : Int)) ≤ 57 := Int.not_lt.1 (of_decide_eq_false hb3.out)
        go_upto_region 9 with (fail)
        refine wp_region_T [0, 0, 0, 0, 0, 0, 0, 0, 0] hK ?_
        clear hK
        refine e0 ?_
        refine eV (.int .i64 ((10 * n : Nat) : Int)) (fun w' => by go_simp; (try go_bits); first | exact ⟨rfl, rfl⟩ | (refine ⟨congrArg _ ?_, rfl⟩; omega) | go_num) ?_
        iterate 2 refine e0 ?_
        refine eV (.int .u8 (c.toNat : Int)) (fun w' => by go_simp; (try go_bits); exact ⟨congrArg (fun c : UInt8 => Value.int .u8 (c.toNat : Int)) (idx_b ec.out _), rfl⟩) ?_
        refine eV (.int .u8 ((c.toNat - 48 : Nat) : Int)) (fun w' => by go_simp; (try go_bits); first | exact ⟨rfl, rfl⟩ | (refine ⟨congrArg _ ?_, rfl⟩; omega) | go_num) ?_
        refine eV (.int .i64 ((c.toNat - 48 : Nat) : Int)) (fun w' => by go_simp; (try go_bits); first | exact ⟨rfl, rfl⟩ | (refine ⟨congrArg _ ?_, rfl⟩; omega) | go_num) ?_
        refine eV (.int .i64 ((10 * n + (c.toNat - 48) : Nat) : Int)) (fun w' => by go_simp; (try go_bits); first | exact ⟨rfl, rfl⟩ | (refine ⟨congrArg _ ?_, rfl⟩; omega) | go_num) ?_
        refine e0 ?_
        refine sxEnd (fun W9 hK => ?_)
        (try go_wp2)
        go_roundw
        case rel => exact ⟨10 * n + (c.toNat - 48), m + 1, (by first | rfl | go_num), (by first | rfl | go_num), (by omega), hid (take_val ec.out h_v.out), hid (take_dg ec.out h_a.out (by omega) (by omega)), hK⟩
        case measure => simp [intOf] <;> omega
       · --
        have q_b3 : 57 < ((c.toNat : Int)) := of_decide_eq_true hb3.out
        go_wp2
        try go_ret
        show Q0 (.returned (.int .i64 (-1))) _
        exact (by obtain rfl := hQ0.out; exact ⟨(by rw [num_nd ec.out (by first | exact dg_lo (by assumption) | exact dg_hi (by assumption))]), hK.old⟩)
      · --
       have q_b2 : ((c.toNat : Int)) < 48 := of_decide_eq_true hb2.out
       iterate 4 refine eN ?_
       refine e0 ?_
       refine sxEnd (fun W10 hK => ?_)
       go_wp2
       try go_ret
       show Q0 (.returned (.int .i64 (-1))) _
       exact (by obtain rfl := hQ0.out; exact ⟨(by rw [num_nd ec.out (by first | exact dg_lo (by assumption) | exact dg_hi (by assumption))]), hK.old⟩)
   · --
    go_wp2
    try go_ret
    show Q0 (.returned (.int .i64 (-1))) _
    exact (by obtain rfl := hQ0.out; exact ⟨(by rw [num_bad h_c.out]), hK.old⟩)
theorem grow_set : ∀ {r : List (List UInt8)} {x : List UInt8} {b : UInt8}, r[r.length - 1]? = some x → r.set (r.length - 1) (x ++ [b]) = growL r b
  | [], _, _, h => by cases h
  | [a], x, b, h => by cases h; rfl
  | a :: y :: r, x, b, h => by
    have e : (a :: y :: r).length - 1 = (y :: r).length - 1 + 1 := by simp
    rw [e] at h ⊢
    rw [List.getElem?_cons_succ] at h
    show a :: (y :: r).set ((y :: r).length - 1) (x ++ [b]) = a :: growL (y :: r) b
    rw [grow_set h]
theorem pieces_take {c b : UInt8} {l : List UInt8} {m : Nat} (hb : l[m]? = some b) : pieces c (l.take (m + 1)) = if b = c then pieces c (l.take m) ++ [[]] else growL (pieces c (l.take m)) b := by
  rw [List.take_add_one, hb]
  show pieces c (l.take m ++ [b]) = _
  split
  · rename_i h; subst h; exact pieces_at
  · rename_i h; exact pieces_grow h
theorem pieces_pos (c : UInt8) (l : List UInt8) : 1 ≤ (pieces c l).length := List.length_pos_iff.2 (pieces_ne c l)
theorem pieces_mem_len {c : UInt8} {l x : List UInt8} (h : x ∈ pieces c l) : x.length ≤ l.length := by
  have hj : ∀ ps : List (List UInt8), ∀ x ∈ ps, x.length ≤ (joinC c ps).length := by
    intro ps
    induction ps with
    | nil => intro x h; cases h
    | cons a r ih =>
      intro x h
      cases r with
      | nil => rw [List.mem_singleton.1 h]; exact Nat.le_refl _
      | cons b r =>
        show x.length ≤ (a ++ c :: joinC c (b :: r)).length
        rcases List.mem_cons.1 h with e | e
        · rw [e]; simp
        · have := ih x e; simp; omega
  have := hj _ x h
  rwa [join_pieces] at this
theorem u8_ne {a b : UInt8} (h : ((a.toNat : Int) == (b.toNat : Int)) = false) : a ≠ b := fun e => by rw [e] at h; simp at h
theorem slice_one {l : List UInt8} {m : Nat} {b : UInt8} (h : l[m]? = some b) : ((⟨l.toArray⟩ : ByteArray).extract m (m + 1)) = ⟨([b] : List UInt8).toArray⟩ := by
  obtain ⟨hm, rfl⟩ := List.getElem?_eq_some_iff.1 h
  apply ByteArray.ext
  apply Array.ext
  · simp [ByteArray.extract, ByteArray.copySlice]; omega
  · intro i h1 h2
    simp [ByteArray.extract, ByteArray.copySlice] at h1 h2 ⊢
    try (obtain rfl : i = 0 := by omega)
    try simp
theorem u8_eq {a b : UInt8} (h : ((a.toNat : Int) == (b.toNat : Int)) = true) : a = b := UInt8.toNat_inj.1 (Int.natCast_inj.1 (by simpa using h))
set_option maxRecDepth 100000 in
set_option maxHeartbeats 400000 in
theorem split_any (w : World) (l : List UInt8) (c : UInt8) (hl : l.length ≤ 100000) :
    Calls Tryd.prog 26 #[.string ⟨l.toArray⟩, .int .u8 (c.toNat : Int)] w fun e w' => ∃ s : Sl, e = .returned (.slice s.p s.l s.c) ∧ SS w [rO strK 9 s.p s.l s.c (pieces c l)] w' := by
  have hK := SS.start w
  refine Calls.hide (fun Q0 hQ0 => ?_)
  go_enter Tryd.func26, Tryd.ntmps26
  go_upto_region 1 with (fail)
  refine wp_region_T [3, 0] hK ?_
  clear hK
  refine eA (.cells #[.string { data := #[] }] 9) (fun R1 => ?_)
  refine e0 ?_
  refine sxEnd (fun W2 hK => ?_)
  replace hK := hK.row1 (K := strK) (x := []) (fun _ => rfl)
  rw [show ([[]] : List (List UInt8)) = pieces c (l.take 0) from (pieces_no (fun d h => absurd h List.not_mem_nil)).symm] at hK
  go_wp2_with fail
  go_loopw [5, 6] (fun s5 s6 wl => ∃ (p : Option Addr) (n : Nat) (kc : Nat) (m : Nat), s5 = .slice p n kc ∧ s6 = .int .i64 (m : Int) ∧ (m ≤ l.length) ∧ SS w ([rO strK 9 p n kc (pieces c (l.take m))]) wl) (fun s5 s6 _ => l.length - (intOf s6).toNat)
  case atStart => exact ⟨(some ⟨R1, 0, none⟩), 1, 1, 0, rfl, rfl, (by omega), hK⟩
  case round =>
   clear hK
   obtain ⟨p, n, kc, m, rfl, rfl, hm0, hK⟩ := hrel
   generalize wr = W3 at hK ⊢
   go_upto_region 3 with (fail)
   refine wp_region_T [0, 0, 0, 0] hK ?_
   clear hK
   iterate 3 refine e0 ?_
   refine eB (decide (((m : Int)) < ((l.length : Int)))) (fun b1 hb1 => ?_)
   refine sxEnd (fun W4 hK => ?_)
   cases b1
   · --
    have q_b1 : ((l.length : Int)) ≤ ((m : Int)) := Int.not_lt.1 (of_decide_eq_false hb1.out)
    have hme : m = l.length := (by omega); rw [hme, List.take_length] at hK; clear hme
    go_wp2
    try go_ret
    show Q0 (.returned (.slice p n kc)) _
    exact (by obtain rfl := hQ0.out; exact ⟨⟨p, n, kc⟩, rfl, hK⟩)
   · --
    have q_b1 : ((m : Int)) < ((l.length : Int)) := of_decide_eq_true hb1.out
    obtain ⟨b, eb⟩ : ∃ c, RowKit.Hid (l[m]? = some c) := ⟨l[m], hid (List.getElem?_eq_getElem (by omega))⟩; have hpl := count_le c (l.take m); have hpp := pieces_pos c (l.take m); have htk : (l.take m).length ≤ l.length := (by rw [List.length_take]; omega); have hne : RowKit.Hid (pieces c (l.take m) ≠ []) := hid (pieces_ne c _)
    go_upto_region 5 with (fail)
    refine wp_region_T [0, 0, 0, 0, 0] hK ?_
    clear hK
    iterate 2 refine e0 ?_
    refine eV (.int .u8 (b.toNat : Int)) (fun w' => by go_simp; (try go_bits); exact ⟨congrArg (fun c : UInt8 => Value.int .u8 (c.toNat : Int)) (idx_b eb.out _), rfl⟩) ?_
    refine e0 ?_
    refine eB (((b.toNat : Int)) == ((c.toNat : Int))) (fun b2 hb2 => ?_)
    refine sxEnd (fun W5 hK => ?_)
    cases b2
    · --
     have hnl := hid (hK.len m0); have hn1 := Nat.le_of_eq hnl.out; have hn2 := Nat.le_of_eq hnl.out.symm; obtain ⟨j9, hj9⟩ : ∃ j : Nat, RowKit.Hid (n - 1 = j) := ⟨_, hid rfl⟩; have hj8 : j9 + 1 = n := (by have q := hj9.out; omega); replace hj8 := hid hj8; have hj6 : j9 + 1 ≤ n := Nat.le_of_eq hj8.out; have hj7 : n ≤ j9 + 1 := Nat.le_of_eq hj8.out.symm
     have i6 : j9 < n := (by omega)
     obtain ⟨g6, rfl⟩ := hK.pt m0 i6
     have l6 : j9 < (pieces c (l.take m)).length := Nat.lt_of_lt_of_eq i6 (hK.len m0)
     obtain ⟨x, ex⟩ : ∃ z0, RowKit.Hid ((pieces c (l.take m))[j9]? = some z0) := ⟨_, hid (List.getElem?_eq_getElem l6)⟩
     have hxl := pieces_mem_len (List.mem_of_getElem? ex.out)
     go_upto_region 7 with (fail)
     refine wp_region_S _ [0, 0, 0, 0, 0, 1, 0, 0, 0, 0, 0, 0, 0, 4] hK ?_ (sC2 sZ2)
     clear hK
     iterate 3 refine e0 ?_
     refine eV (.int .i64 (j9 : Int)) (fun w' => by go_simp; (try go_bits); first | exact ⟨rfl, rfl⟩ | (refine ⟨congrArg _ ?_, rfl⟩; omega) | go_num) ?_
     refine e0 ?_
     refine eR (fun w k => (k.own m0).str ex.out) ?_
     iterate 4 refine e0 ?_
     refine eV (.string ⟨([b] : List UInt8).toArray⟩) (fun w' => by go_simp; (try go_bits); rw [if_pos (by omega), if_pos (by omega)]; exact ⟨congrArg Value.string (slice_one eb.out), rfl⟩) ?_
     refine eV (.string ⟨(x ++ [b]).toArray⟩) (fun w' => by go_simp; (try go_bits); rw [if_neg (by simp; omega)]; exact ⟨congrArg Value.string (str_add _ _), rfl⟩) ?_
     refine e0 ?_
     refine eWT (y := x ++ [b]) 0 l6 ?_ (hi := rfl) (hs := (sC2 sZ2))
     refine sxEnd (fun W7 hK => ?_)
     rw [show (pieces c (l.take m)).set j9 (x ++ [b]) = pieces c (l.take (m + 1)) from (by have e9 : j9 = (pieces c (l.take m)).length - 1 := (by omega); have q := ex.out; rw [e9] at q ⊢; rw [pieces_take eb.out, if_neg (u8_ne hb2.out), grow_set q])] at hK
     (try go_wp2)
     go_roundw
     case rel => exact ⟨(some ⟨g6, 0, none⟩), n, kc, m + 1, (by first | rfl | go_num), (by first | rfl | go_num), (by omega), hK⟩
     case measure => simp [intOf] <;> omega
    · --
     go_upto_region 6 with (fail)
     refine wp_region_T [0, 3, 5, 0] hK ?_
     clear hK
     refine e0 ?_
     refine eA (.cells #[.string { data := #[] }] 9) (fun R8 => ?_)
     refine eApp 1 strK_free rfl infoStr (fun w k => k.one1 (K := strK) (x := ([] : List UInt8)) m0 rfl) (by simp; omega) (fun x9 => ?_)
     obtain ⟨p9, n9, c9⟩ := x9; dsimp only
     refine e0 ?_
     refine sxEnd (fun W10 hK => ?_)
     rw [show (pieces c (l.take m)) ++ [([] : List UInt8)] = pieces c (l.take (m + 1)) from (by rw [pieces_take eb.out, if_pos (u8_eq hb2.out)])] at hK
     (try go_wp2)
     go_roundw
     case rel => exact ⟨p9, n9, c9, m + 1, (by first | rfl | go_num), (by first | rfl | go_num), (by omega), (hK.subl (sC2 (List.Sublist.refl _)))⟩
     case measure => simp [intOf] <;> omega
end Go.Proofs.YtjhgkojbpgakcaaDoor
