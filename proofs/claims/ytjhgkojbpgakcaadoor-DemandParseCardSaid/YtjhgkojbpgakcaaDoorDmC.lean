/- Demands: the words of a line, as Parse reads them. -/
import Derived.Test.YtjhgkojbpgakcaaDoorDmB
import Derived.Test.YtjhgkojbpgakcaaDoorDemU
namespace Go.Proofs.YtjhgkojbpgakcaaDoor
open Go.RowKit
open Go.Lib (decDigits)
def atI (l : List UInt8) : Int := match Lib.atoiAll l with
  | .ok v => v
  | .range => Lib.atoiSat l
  | _ => 0
def atNo (l : List UInt8) : Bool := match Lib.atoiAll l with
  | .ok _ => false
  | _ => true
def nmD (l : List UInt8) : Int := if atNo l = true then -1 else atI l
def BasR (w : World) : Prop := Bas w ∧ ∃ tp p, w.var? Tryd.prog "strconv.ErrRange" = some #[.iface tp p]
theorem BasR.below {w w' : World} (h : BasR w) (hb : Below w.heap.size w w') : BasR w' := ⟨h.1.below hb, h.2.elim fun tp ⟨p, e⟩ => ⟨tp, p, var_below e hb⟩⟩
theorem atoi_c (l : List UInt8) (w : World) (hl : l.length ≤ 100000) (hB : BasR w) :
    Calls Tryd.prog 25 #[.string ⟨l.toArray⟩] w fun e w' => ∃ N : Nat, e = .returned (.tuple #[.int .i64 (atI l), errW (atNo l) N]) ∧ SS w [] w' := by
  obtain ⟨⟨_, _, tp, p, hv⟩, tp', p', hv'⟩ := hB
  have hs : (⟨l.toArray⟩ : ByteArray).size ≤ 281474976710656 := by simp [ByteArray.size]; omega
  cases h : Lib.atoiAll l with
  | ok v =>
    refine (Tryd.strconv_Atoi_ok ⟨l.toArray⟩ (by simp [ByteArray.size]; omega) v h w).mono ?_
    rintro e w' ⟨rfl, hw⟩
    refine ⟨0, by rw [show atI l = v by unfold atI; rw [h], show atNo l = false by unfold atNo; rw [h]]; rfl, ?_⟩
    rcases hw with rfl | ⟨t, rfl⟩
    · exact SS.start _
    · exact (SS.start w).step (Lib.bytesWorld_below w _ t)
  | range =>
    refine (Tryd.strconv_Atoi_range_var ⟨l.toArray⟩ hs h tp' p' w hv').mono ?_
    rintro e w' ⟨N, rfl, _, _, hb⟩
    exact ⟨N, by rw [show atI l = Lib.atoiSat l by unfold atI; rw [h], show atNo l = true by unfold atNo; rw [h]]; rfl, (SS.start w).step hb⟩
  | _ =>
    refine (Tryd.strconv_Atoi_bad_var ⟨l.toArray⟩ hs (fun v e => by rw [show ((⟨l.toArray⟩ : ByteArray).data.toList) = l from rfl, h] at e; cases e) (fun e => by rw [show ((⟨l.toArray⟩ : ByteArray).data.toList) = l from rfl, h] at e; cases e) tp p w hv).mono ?_
    rintro e w' ⟨N, rfl, _, _, hb⟩
    exact ⟨N, by rw [show atI l = 0 by unfold atI; rw [h], show atNo l = true by unfold atNo; rw [h]]; rfl, (SS.start w).step hb⟩
theorem num_leaf {l : List UInt8} {b : Bool} (h : atNo l = b) : nmD l = if b = true then -1 else atI l := by unfold nmD; rw [h]
set_option maxRecDepth 100000 in
theorem next_any (w V : World) {s : List UInt8} {B : Nat} (l : List Ft) (hK : SS V ((bx B (.cells #[.string ⟨s.toArray⟩] 9)) :: l) w) (hz : OzA l) (hBs : BasR V) (hs : s.length ≤ 100000) :
    Calls Tryd.prog 22 #[.pointer (some ⟨B, 0, none⟩)] w fun e w' => ∃ _ : Unit, e = .returned (.string ⟨(cutL 32 s).toArray⟩) ∧ SS V (bx B (.cells #[.string ⟨(cutR 32 s).toArray⟩] 9) :: l) w' := by
  refine Calls.hide (fun Q0 hQ0 => ?_)
  go_enter Tryd.func22, Tryd.ntmps22
  go_upto_region 1 with (fail)
  refine wp_region_T [1, 1, 0, 0, 0, 0, 0, 0, 0] hK ?_
  clear hK
  refine eL m0 ?_
  refine eQ (fun w k => cut_b 32 s w hs (hBs.1.below k.old)) ?_
  iterate 7 refine e0 ?_
  refine sxEnd (fun W1 hK => ?_)
  go_upto_region 2 with (fail)
  refine wp_region_T [0, 4] hK ?_
  clear hK
  refine e0 ?_
  refine eP 0 0 [.string ⟨(cutR 32 s).toArray⟩] ?_
  refine sxEnd (fun W2 hK => ?_)
  go_wp2
  try go_ret
  show Q0 (.returned (.string ⟨(cutL 32 s).toArray⟩)) _
  exact (by obtain rfl := hQ0.out; exact ⟨(), rfl, hK⟩)
set_option maxRecDepth 100000 in
set_option maxHeartbeats 400000 in
theorem numb_any (w V : World) {s : List UInt8} {B : Nat} {C : Nat} (l : List Ft) (hK : SS V ((bx C (.cells #[.func (.func 22) #[] #[.pointer (some ⟨B, 0, none⟩)]] 47)) :: (bx B (.cells #[.string ⟨s.toArray⟩] 9)) :: l) w) (hz : OzA l) (hBs : BasR V) (hs : s.length ≤ 100000) :
    Calls Tryd.prog 24 #[.pointer (some ⟨C, 0, none⟩)] w fun e w' => ∃ _ : Unit, e = .returned (.int .i64 (nmD (cutL 32 s))) ∧ SS V (bx C (.cells #[.func (.func 22) #[] #[.pointer (some ⟨B, 0, none⟩)]] 47) :: bx B (.cells #[.string ⟨(cutR 32 s).toArray⟩] 9) :: l) w' := by
  refine Calls.hide (fun Q0 hQ0 => ?_)
  go_enter Tryd.func24, Tryd.ntmps24
  go_upto_region 1 with (fail)
  refine wp_region_T [1, 4, 2, 0, 0, 0, 0, 0] hK ?_
  clear hK
  refine eL m0 ?_
  refine eM (fun w k => next_any w V ((bx C (.cells #[.func (.func 22) #[] #[.pointer (some ⟨B, 0, none⟩)]] 47)) :: l) k.up1 ⟨rfl, hz⟩ hBs (by exact hs)) (fun x1 => ?_)
  obtain ⟨b1, hb1⟩ : ∃ z9 : Bool, RowKit.Hid (atNo (cutL 32 s) = z9) := ⟨_, hid rfl⟩
  refine eC (fun w k => (by have q := atoi_c (cutL 32 s) w (Nat.le_trans (cutL_len 32 s) hs) (hBs.below k.old); rw [hb1.out] at q; exact q)) (fun x2 => ?_)
  iterate 5 refine e0 ?_
  refine sxEnd (fun W3 hK => ?_)
  cases b1
  · --
   go_upto_region 2 with (fail)
   refine wp_region_T [0, 0] hK ?_
   clear hK
   refine e0 ?_
   refine eV (.bool false) (fun w' => by go_simp; (try go_bits); exact ⟨rfl, rfl⟩) ?_
   refine sxEnd (fun W4 hK => ?_)
   go_wp2
   try go_ret
   show Q0 (.returned (.int .i64 (atI (cutL 32 s)))) _
   exact (by obtain rfl := hQ0.out; rw [num_leaf hb1.out]; exact ⟨(), rfl, hK.up1⟩)
  · --
   go_upto_region 2 with (fail)
   refine wp_region_T [0, 0] hK ?_
   clear hK
   refine e0 ?_
   refine eV (.bool true) (fun w' => by go_simp; (try go_bits); exact ⟨rfl, rfl⟩) ?_
   refine sxEnd (fun W5 hK => ?_)
   go_wp2
   try go_ret
   show Q0 (.returned (.int .i64 (-1))) _
   exact (by obtain rfl := hQ0.out; rw [num_leaf hb1.out]; exact ⟨(), rfl, hK.up1⟩)
end Go.Proofs.YtjhgkojbpgakcaaDoor
