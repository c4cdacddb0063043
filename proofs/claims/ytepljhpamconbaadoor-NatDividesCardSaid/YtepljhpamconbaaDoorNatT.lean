/- The law's helpers: awake. -/
import Derived.Test.YtepljhpamconbaaDoorNatS
namespace Go.Proofs.YtepljhpamconbaaDoor
open Go.RowKit
open Go.Lib (decDigits)

/-- Boxes of numbers. -/
def BoxN (W : World) (R : Nat) (n : Nat) : Prop := ∃ p c, W.heap[R]? = some (.cells #[.slice p (digs B32 n).length c] 26) ∧ NatV W (.agg #[.slice p (digs B32 n).length c]) n
theorem BoxN.below {W W' : World} {R n : Nat} (h : BoxN W R n) (hb : Below W.heap.size W W') : BoxN W' R n := by
  obtain ⟨p, c, h1, h2⟩ := h
  exact ⟨p, c, (hb.block _ (Array.getElem?_eq_some_iff.1 h1).1).trans h1, h2.below hb⟩
theorem BoxN.new {W : World} {p : Option Addr} {c n : Nat} (h : NatV W (.agg #[.slice p (digs B32 n).length c]) n) : BoxN (W.alloc (.cells #[.slice p (digs B32 n).length c] 26)) W.heap.size n :=
  ⟨p, c, heap_new W _, h.below ((Below.refl _ W).alloc (Nat.le_refl _) _)⟩
theorem BoxN.lt {W : World} {R n : Nat} (h : BoxN W R n) : R < W.heap.size := by
  obtain ⟨p, c, h1, _⟩ := h
  exact (Array.getElem?_eq_some_iff.1 h1).1

theorem lim_small {n : Nat} (h : n < 340282366920938463463374607431768211456) : Lim n := lim_of (L := 4) h (by decide)
theorem dec_lit (l : List UInt8) (h : l ≠ []) (hd : ∀ c ∈ l, isDig c = true) (h0 : l.length = 1 ∨ l.head? ≠ some 48) : decDigits (valT l) = l := dec_valT _ l rfl h hd h0
theorem dec_18 : decDigits 18446744073709551616 = [49, 56, 52, 52, 54, 55, 52, 52, 48, 55, 51, 55, 48, 57, 53, 53, 49, 54, 49, 54] := dec_lit [49, 56, 52, 52, 54, 55, 52, 52, 48, 55, 51, 55, 48, 57, 53, 53, 49, 54, 49, 54] (by decide) (by decide) (by decide)
theorem bits_65 : bitsN 18446744073709551616 = 65 := (bitLen_bits 65 _ (by decide)).symm.trans (by decide)
theorem text_lit {v : Value} {n : Nat} {w : World} (l : List UInt8) (hv : NatV w v n) (ht : Tab w) (hn : n < 340282366920938463463374607431768211456) (hd : decDigits n = l) :
    Calls Tryd.prog 15 #[v] w fun e w' => e = .returned (.string ⟨l.toArray⟩) ∧ Below w.heap.size w w' := by
  have := text_any v n w hv ht (by have := (lim_small hn).d32; omega)
  rwa [hd] at this
set_option maxRecDepth 100000 in
set_option maxHeartbeats 4000000 in
theorem awake_any (w : World) (ht : Tab w) :
    Calls Tryd.prog 11 #[] w fun e w' => e = .returned (.bool true) ∧ Below w.heap.size w w' := by
  have HOX := hid (fun w1 => of_any 4294967296 w1 (by decide))
  have HO17 := hid (fun w1 => of_any 17 w1 (by decide))
  have HO5 := hid (fun w1 => of_any 5 w1 (by decide))
  have HO12 := hid (fun w1 => of_any 12 w1 (by decide))
  have HO18 := hid (fun w1 => of_any 18 w1 (by decide))
  have HP := hid (fun w1 => parse_any ⟨#[48, 48, 55]⟩ w1 (by decide))
  rw [show parseErr (⟨#[48, 48, 55]⟩ : ByteArray).data.toList = 3 from parse_syn (.inr (.inl (by decide)))] at HP
  go_enter Tryd.func11, Tryd.ntmps11
  go_upto_region 2 with (go_at_call 28; refine (HOX.out _).mono ?_; clear HOX; rintro e W1 ⟨x, rfl, hx, hb1⟩; obtain ⟨p1, c1, rfl, _⟩ := hx.dig)
  obtain ⟨V1, hV1, hB1, hbV1⟩ : ∃ V1, V1 = W1.alloc (.cells #[.slice p1 (digs B32 4294967296).length c1] 26) ∧ BoxN V1 W1.heap.size 4294967296 ∧ Below w.heap.size w V1 := ⟨_, rfl, BoxN.new hx, hb1.alloc hb1.size _⟩
  rw [← hV1]
  clear hV1
  generalize W1.heap.size = R1 at hB1 ⊢
  generalize p1 = q1, c1 = d1
  go_upto_region 3 with (first
    | (go_at_call 28; refine (HO17.out _).mono ?_; clear HO17; rintro e W2 ⟨x17, rfl, hx17, hb2⟩)
    | (go_at_call 28; refine (HO5.out _).mono ?_; clear HO5; rintro e W3 ⟨x5, rfl, hx5, hb3⟩)
    | (go_at_call 22; refine (divmod_64 x17 x5 17 5 W3 (hx17.below hb3) hx5 (by decide) (by decide) (by decide)).mono ?_; rintro e W4 ⟨x, y, rfl, hq, hr, hb4⟩; obtain ⟨p2, c2, rfl, _⟩ := hq.dig; obtain ⟨p3, c3, rfl, _⟩ := hr.dig))
  obtain ⟨V4, hV4, hB4, hC4, hD4, hbV4⟩ : ∃ V4, V4 = (W4.alloc (.cells #[.slice p2 (digs B32 3).length c2] 26)).alloc (.cells #[.slice p3 (digs B32 2).length c3] 26) ∧ BoxN V4 R1 4294967296 ∧ BoxN V4 W4.heap.size 3 ∧ BoxN V4 (W4.heap.size + 1) 2 ∧ Below w.heap.size w V4 := by
    have h2 := ((Below.refl W4.heap.size W4).alloc (Nat.le_refl _) (.cells #[.slice p2 (digs B32 3).length c2] 26))
    have h3 := h2.alloc (by simp) (.cells #[.slice p3 (digs B32 2).length c3] 26)
    have hq' : BoxN (W4.alloc (.cells #[.slice p2 (digs B32 3).length c2] 26)) W4.heap.size 3 := BoxN.new hq
    have hr' : NatV (W4.alloc (.cells #[.slice p2 (digs B32 3).length c2] 26)) (.agg #[.slice p3 (digs B32 2).length c3]) 2 := NatV.below hr h2
    have hn := BoxN.new hr'
    rw [World.size_alloc] at hn
    have hb := (hbV1.trans (hb2.mono hbV1.size)).trans ((hb3.mono (Nat.le_trans hbV1.size hb2.size)).trans (hb4.mono (Nat.le_trans hbV1.size (Nat.le_trans hb2.size hb3.size))))
    exact ⟨_, rfl, (((hB1.below hb2).below hb3).below hb4).below h3, hq'.below ((Below.refl _ _).alloc (Nat.le_refl _) _), hn, hb.trans (h3.mono hb.size)⟩
  rw [← hV4]
  clear hV4 hb2 hb3 hb4 hq hr hx17 hx5 hB1 hbV1
  generalize W4.heap.size = R2 at hC4 hD4 ⊢
  go_upto_region 4 with (go_at_call 14; refine (HP.out _).mono ?_; clear HP; rintro e W5 ⟨x, rfl, hx5, hb5⟩; obtain ⟨p5, c5, rfl, _⟩ := hx5.dig)
  obtain ⟨V6, hV6, hb56, hsz6⟩ : ∃ V6, V6 = W5.alloc (.cells #[.slice p5 (digs B32 (parseVal [48, 48, 55])).length c5] 26) ∧ Below W5.heap.size W5 V6 ∧ True := ⟨_, rfl, (Below.refl _ _).alloc (Nat.le_refl _) _, trivial⟩
  rw [← hV6]
  clear hV6 hsz6 hx5
  have hw6 : Below w.heap.size w V6 := (hbV4.trans (hb5.mono hbV4.size)).trans (hb56.mono (Nat.le_trans hbV4.size hb5.size))
  obtain ⟨pa, ca, ka, na⟩ := (hB4.below hb5).below hb56
  obtain ⟨pb, cb, kb, nb⟩ := (hC4.below hb5).below hb56
  obtain ⟨pc, cc, kc, nc⟩ := (hD4.below hb5).below hb56
  clear hb5 hb56 hB4 hC4 hD4 hbV4
  have la := (Array.getElem?_eq_some_iff.1 ka).1
  have lb := (Array.getElem?_eq_some_iff.1 kb).1
  have lc := (Array.getElem?_eq_some_iff.1 kc).1
  have ga := cell_box1 ka
  have gb := cell_box1 kb
  have gc := cell_box1 kc
  have HTAB := hid (fun w1 (hb : Below V6.heap.size V6 w1) => ht.below (hw6.trans (hb.mono hw6.size)))
  have HM := hid (fun w1 (hb : Below V6.heap.size V6 w1) => mul_any _ _ _ _ w1 (na.below hb) (na.below hb) (by have := (lim_small (n := 4294967296) (by decide)).d32; omega))
  rw [show 4294967296 * 4294967296 = 18446744073709551616 from rfl] at HM
  have HT2 := hid (fun w1 (hb : Below V6.heap.size V6 w1) => text_lit [51] (nb.below hb) (HTAB.out w1 hb) (by decide) (dec_small (by decide)))
  have HT3 := hid (fun w1 (hb : Below V6.heap.size V6 w1) => text_lit [50] (nc.below hb) (HTAB.out w1 hb) (by decide) (dec_small (by decide)))
  have HM1 := hid (HM.out V6 (Below.refl _ _))
  go_wp2_with (first
    | (go_at_call 20; refine HM1.out.mono ?_; clear HM1; rintro e W7 ⟨m1, rfl, hm1, hb7⟩; have HT1 := hid (text_lit _ hm1 (HTAB.out _ hb7) (by decide) dec_18))
    | (go_at_call 15; refine HT1.out.mono ?_; clear HT1; rintro e W8 ⟨rfl, hw8⟩; have hb8 := hb7.trans (hw8.mono hb7.size); have hcc8 := cellsBelow hb8; have HM2 := hid (HM.out _ hb8))
    | (go_at_call 20; refine HM2.out.mono ?_; clear HM2; rintro e W9 ⟨m2, rfl, hm2, hw9⟩; have hb9 := hb8.trans (hw9.mono hb8.size); have HBT := hid (bits_any _ _ W9 hm2 (by have := (lim_small (n := 18446744073709551616) (by decide)).d32; omega)); rw [bits_65] at HBT)
    | (go_at_call 30; refine HBT.out.mono ?_; clear HBT; rintro e W10 ⟨rfl, hw10⟩; have hb10 := hb9.trans (hw10.mono hb9.size); have hcc10 := cellsBelow hb10; have HT2' := hid (HT2.out _ hb10))
    | (go_at_call 15; refine HT2'.out.mono ?_; clear HT2'; rintro e W11 ⟨rfl, hw11⟩; have hb11 := hb10.trans (hw11.mono hb10.size); have hcc11 := cellsBelow hb11; have HT3' := hid (HT3.out _ hb11))
    | (go_at_call 15; refine HT3'.out.mono ?_; clear HT3'; rintro e W12 ⟨rfl, hw12⟩; have hb12 := hb11.trans (hw12.mono hb11.size))
    | (go_at_call 28; refine (HO12.out _).mono ?_; clear HO12; rintro e W13 ⟨x12, rfl, hx12, hw13⟩; have hb13 := hb12.trans (hw13.mono hb12.size))
    | (go_at_call 28; refine (HO18.out _).mono ?_; clear HO18; rintro e W14 ⟨x18, rfl, hx18, hw14⟩; have hb14 := hb13.trans (hw14.mono hb13.size))
    | (go_at_call 24; refine (gcd_64 x12 x18 12 18 W14 (hx12.below hw14) hx18 (by decide) (by decide)).mono ?_; rintro e W15 ⟨xg, rfl, hxg, hw15⟩; have hb15 := hb14.trans (hw15.mono hb14.size); have HT4 := hid (text_lit [54] hxg (HTAB.out _ hb15) (by decide) (dec_small (by decide))))
    | (go_at_call 15; refine HT4.out.mono ?_; clear HT4; rintro e W16 ⟨rfl, hw16⟩; have hb16 := hb15.trans (hw16.mono hb15.size)))
  go_ret
  exact ⟨rfl, hw6.trans (hb16.mono hw6.size)⟩

end Go.Proofs.YtepljhpamconbaaDoor
