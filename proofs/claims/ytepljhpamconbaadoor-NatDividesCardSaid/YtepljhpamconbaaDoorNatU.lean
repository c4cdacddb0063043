/- The law NatText. -/
import Derived.Test.YtepljhpamconbaaDoorNatT
namespace Go.Proofs.YtepljhpamconbaaDoor
open Go.RowKit
open Go.Lib (decDigits)

theorem digits_lim {ds : List Nat} (hd : ∀ d ∈ ds, d < B32) (hl : ds.length ≤ 12) : Lim (val B32 ds) := lim_of (val_lt b32_2 hd) (by omega)
theorem digits_dec {ds : List Nat} (hd : ∀ d ∈ ds, d < B32) (hl : ds.length ≤ 12) : (decDigits (val B32 ds)).length ≤ 217 := Nat.le_trans (dec_len (val_lt b32_2 hd)) (by omega)

set_option maxRecDepth 100000 in
set_option maxHeartbeats 4000000 in
theorem natText_walk (v : Value) (ds : List Nat) (w : World) (hv : InV w v ds) (hd : ∀ d ∈ ds, d < B32) (ht : Tab w) :
    Calls Tryd.prog 3 #[v] w fun e w' => e = .returned (.bool true) ∧ Below w.heap.size w w' := by
  obtain ⟨p, c, rfl, _⟩ := hv.slice
  have HA := hid (awake_any w ht)
  by_cases hl : ds.length ≤ 12
  · have HS := hid (fun w1 => small_any p none ds.length 0 c 0 w1)
    rw [decide_eq_true ⟨hl, (by decide : 0 ≤ 12)⟩] at HS
    have hL := digits_lim hd hl
    have hD := digits_dec hd hl
    have HN := hid (fun w1 (hb : Below w.heap.size w w1) => number_any _ ds w1 (hv.below hb) hd hl)
    obtain ⟨n, hn⟩ : ∃ n, val B32 ds = n := ⟨_, rfl⟩
    rw [hn] at HN hL hD
    have HPB := hid (fun w1 => parse_back n w1 (by omega))
    have HTX := hid (fun (u : Value) (w1 : World) (h : NatV w1 u n) (hb : Below w.heap.size w w1) => text_any u n w1 h (ht.below hb) (by have := hL.d32; omega))
    have HIS := hid (fun (u y : Value) (w1 : World) (h : NatV w1 u n) (h' : RefV w1 y n) (hb : Below w.heap.size w w1) => is_any u y n n w1 h h' (ht.below hb) hL hL)
    have HCM := hid (fun (u y : Value) (w1 : World) (h : NatV w1 u n) (h' : NatV w1 y n) => cmp_any u y n n w1 h h' (by have := hL.d32; omega) (by have := hL.d32; omega))
    rw [decide_eq_true rfl] at HIS
    rw [cmpN_eq] at HCM
    clear hn hL hD hd
    go_enter Tryd.func3, Tryd.ntmps3
    go_upto_region 6 with (first
      | (go_at_call 11; refine HA.out.mono ?_; clear HA; rintro e W1 ⟨rfl, hb1⟩)
      | (go_at_call 12; refine (HS.out _).mono ?_; clear HS; rintro e W2 ⟨rfl, rfl⟩)
      | (go_at_call 13; refine (HN.out _ hb1).mono ?_; clear HN; rintro e W3 ⟨x, y, rfl, hx, hy, hw3⟩; have hb3 := hb1.trans (hw3.mono hb1.size); obtain ⟨p3, c3, rfl, _⟩ := hx.dig))
    obtain ⟨V3, hV3, hB3, hy3, hbV3⟩ : ∃ V3, V3 = W3.alloc (.cells #[.slice p3 (digs B32 n).length c3] 26) ∧ BoxN V3 W3.heap.size n ∧ RefV V3 y n ∧ Below w.heap.size w V3 := ⟨_, rfl, BoxN.new hx, hy.below ((Below.refl _ _).alloc (Nat.le_refl _) _), hb3.alloc hb3.size _⟩
    rw [← hV3]
    clear hV3 hx hy hw3 hb3 hb1
    generalize W3.heap.size = R3 at hB3 ⊢
    generalize p3 = q3, c3 = d3
    obtain ⟨pa, ca, ka, na⟩ := hB3
    have la := (Array.getElem?_eq_some_iff.1 ka).1
    have ga := cell_box1 ka
    have HT1 := hid (HTX.out _ _ na hbV3)
    go_upto_region 7 with (first
      | (go_at_call 15; refine HT1.out.mono ?_; clear HT1; rintro e W4 ⟨rfl, hw4⟩)
      | (go_at_call 14; refine (HPB.out _).mono ?_; clear HPB; rintro e W5 ⟨x, rfl, hx, hw5⟩; obtain ⟨p5, c5, rfl, _⟩ := hx.dig))
    go_upto_region 8 with (fail)
    obtain ⟨V6, hV6, hB6, hz6, hy6, k6, n6, hw6⟩ : ∃ V6, V6 = (W5.alloc (.cells #[.slice p5 (digs B32 n).length c5] 26)).alloc (.cells #[.slice none 0 0] 26) ∧ BoxN V6 W5.heap.size n ∧ V6.heap[W5.heap.size + 1]? = some (.cells #[.slice none 0 0] 26) ∧ RefV V6 y n ∧ V6.heap[R3]? = some (.cells #[.slice pa (digs B32 n).length ca] 26) ∧ NatV V6 (.agg #[.slice pa (digs B32 n).length ca]) n ∧ Below w.heap.size w V6 := by
      have h2 := (Below.refl W5.heap.size W5).alloc (Nat.le_refl _) (.cells #[.slice p5 (digs B32 n).length c5] 26)
      have h3 := h2.alloc (by simp) (.cells #[.slice none 0 0] 26)
      have hm : BoxN (W5.alloc (.cells #[.slice p5 (digs B32 n).length c5] 26)) W5.heap.size n := BoxN.new hx
      have hz := heap_new (W5.alloc (.cells #[.slice p5 (digs B32 n).length c5] 26)) (.cells #[.slice none 0 0] 26)
      rw [World.size_alloc] at hz
      have l4 := Nat.lt_of_lt_of_le la hw4.size
      have l5 := Nat.lt_of_lt_of_le l4 hw5.size
      have hb := (hbV3.trans (hw4.mono hbV3.size)).trans (hw5.mono (Nat.le_trans hbV3.size hw4.size))
      exact ⟨_, rfl, hm.below ((Below.refl _ _).alloc (Nat.le_refl _) _), hz, ((hy3.below hw4).below hw5).below h3, (h3.block _ l5).trans ((hw5.block _ l4).trans ((hw4.block _ la).trans ka)), ((na.below hw4).below hw5).below h3, hb.trans (h3.mono hb.size)⟩
    rw [← hV6]
    clear hV6 hw4 hw5 hx hy3 ka na la ga hbV3
    generalize W5.heap.size = R5 at hB6 hz6 ⊢
    obtain ⟨pm, cm, km, nm⟩ := hB6
    have l3 := (Array.getElem?_eq_some_iff.1 k6).1
    have l5 := (Array.getElem?_eq_some_iff.1 km).1
    have l7 := (Array.getElem?_eq_some_iff.1 hz6).1
    have g3 := cell_box1 k6
    have g5 := cell_box1 km
    have g7 := cell_box1 hz6
    have HI1 := hid (HIS.out _ _ _ n6 hy6 hw6)
    have HC1 := hid (fun w1 (hb : Below V6.heap.size V6 w1) => HCM.out _ _ w1 (nm.below hb) (n6.below hb))
    have HT2 := hid (fun w1 (hb : Below V6.heap.size V6 w1) => text_lit [48] (NatV.zero w1) (ht.below (hw6.trans (hb.mono hw6.size))) (by decide) (dec_small (by decide)))
    have HZ := hid (fun w1 => isZero_any _ 0 w1 (NatV.zero w1))
    go_wp2_with (first
      | (go_at_call 16; refine HI1.out.mono ?_; clear HI1; rintro e W7 ⟨rfl, hb7⟩; have hcc7 := cellsBelow hb7)
      | (go_at_call 17; refine (HC1.out _ hb7).mono ?_; clear HC1; rintro e W8 ⟨rfl, hw8⟩; have hb8 := hb7.trans (hw8.mono hb7.size); have hcc8 := cellsBelow hb8)
      | (go_at_call 15; refine (HT2.out _ hb8).mono ?_; clear HT2; rintro e W9 ⟨rfl, hw9⟩; have hb9 := hb8.trans (hw9.mono hb8.size); have hcc9 := cellsBelow hb9)
      | (go_at_call 18; refine (HZ.out _).mono ?_; clear HZ; rintro e W10 ⟨rfl, hw10⟩; have hb10 := hb9.trans (hw10.mono hb9.size)))
    go_ret
    exact ⟨rfl, hw6.trans (hb10.mono hw6.size)⟩
  · have HS := hid (fun w1 => small_any p none ds.length 0 c 0 w1)
    rw [decide_eq_false (fun h => hl h.1)] at HS
    go_enter Tryd.func3, Tryd.ntmps3
    go_wp2_with (first
      | (go_at_call 11; refine HA.out.mono ?_; clear HA; rintro e W1 ⟨rfl, hb1⟩)
      | (go_at_call 12; refine (HS.out _).mono ?_; clear HS; rintro e W2 ⟨rfl, rfl⟩))
    go_ret
    exact ⟨rfl, hb1⟩

end Go.Proofs.YtepljhpamconbaaDoor
