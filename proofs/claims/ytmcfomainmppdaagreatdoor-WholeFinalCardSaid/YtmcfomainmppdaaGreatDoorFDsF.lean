/- The arguments of a search, checked. What a search asks of its caller: the arcs of a node, the ends of an arc. -/
import Derived.Test.YtmcfomainmppdaaGreatDoorFDsD
import Derived.Test.YtmcfomainmppdaaGreatDoorFDsJ
namespace Go.Proofs.YtmcfomainmppdaaGreatDoor
open Go.RowKit
open Go.Lib (decDigits)
def chkD (t : TopD) (down : List Bool) (ns : List Int) : Int := if fitsD t down then (if ns.all (fun n => decide (0 ≤ n) && decide (n < t.nodes)) then 0 else 2) else 1
theorem chk1 {t : TopD} {down : List Bool} {ns : List Int} (h : topOk t = false ∨ decide (down.length = 0 ∨ down.length = 2 * t.links.length) = false) : chkD t down ns = 1 := by
  have e : fitsD t down = false := by
    unfold fitsD
    rcases h with h | h
    · rw [h]; rfl
    · rw [h]; simp
  unfold chkD
  rw [if_neg (by rw [e]; decide)]
theorem chk2 {t : TopD} {down : List Bool} {ns : List Int} (h1 : topOk t = true) (h2 : decide (down.length = 0 ∨ down.length = 2 * t.links.length) = true) {j : Nat} {n : Int} (hj : ns[j]? = some n) (hn : (decide (0 ≤ n) && decide (n < t.nodes)) = false) : chkD t down ns = 2 := by
  have e : fitsD t down = true := by unfold fitsD; rw [h1, h2]; rfl
  unfold chkD
  rw [if_pos e, if_neg]
  intro q
  rw [List.all_eq_true] at q
  rw [q n (List.mem_of_getElem? hj)] at hn; cases hn
theorem chk0 {t : TopD} {down : List Bool} {ns : List Int} (h1 : topOk t = true) (h2 : decide (down.length = 0 ∨ down.length = 2 * t.links.length) = true) {j : Nat} (hj : ns.length ≤ j) (hn : ∀ k n, k < j → ns[k]? = some n → (decide (0 ≤ n) && decide (n < t.nodes)) = true) : chkD t down ns = 0 := by
  have e : fitsD t down = true := by unfold fitsD; rw [h1, h2]; rfl
  unfold chkD
  rw [if_pos e, if_pos]
  rw [List.all_eq_true]
  intro n hx
  obtain ⟨k, hk⟩ := List.mem_iff_getElem?.1 hx
  exact hn k n (by have := (List.getElem?_eq_some_iff.1 hk).1; omega) hk
set_option maxRecDepth 100000 in
theorem check_any (w : World) {v_t : Value} {t : TopD} (ht : TopV w v_t t) {p_d : Option Addr} {n_d c_d : Nat} {down : List Bool} (hd : SlV boolK w (.slice p_d n_d c_d) down) {p_ns : Option Addr} {n_ns c_ns : Nat} {ns : List Int} (hns : SlV intK w (.slice p_ns n_ns c_ns) ns) (hl : t.links.length ≤ 100000) (hn : ns.length ≤ 100000) :
    Calls Tryz.prog 103 #[v_t, .slice p_d n_d c_d, .slice p_ns n_ns c_ns] w fun e w' => e = .returned (.int .i64 (chkD t down ns)) ∧ Below w.heap.size w w' := by
  have ht_0 := ht
  obtain ⟨p_t, n_t, c_t, q_t, m_t, d_t, rfl, ht_1, ht_2⟩ := ht_0; have b_t : m_t ≤ 100000 := (by rw [ht_2.one0]; exact hl); have a_t : arcsD t ≤ 200000 := (by unfold arcsD; omega)
  have hK := SS.start w
  have b_ns : n_ns ≤ 100000 := by rw [hns.one0]; exact hn
  refine Calls.hide (fun Q0 hQ0 => ?_)
  go_enter Tryz.func103, Tryz.ntmps103
  go_upto_region 0 with (fail)
  refine wp_region_T [3, 0] hK ?_
  clear hK
  refine eA (.cells #[.int .i64 t.nodes, .slice p_t n_t c_t, .slice q_t m_t d_t] 25) (fun R1 => ?_)
  refine e0 ?_
  refine sxEnd (fun W2 hK => ?_)
  go_upto_region 1 with (fail)
  refine wp_region_T [1, 1, 0, 0, 1, 0, 1, 0, 0] hK ?_
  clear hK
  refine eL m0 ?_
  obtain ⟨b1, hb1⟩ : ∃ b : Bool, RowKit.Hid ((topOk t) = b) := ⟨_, hid rfl⟩
  refine eQ (v := .bool b1) (fun w k => valid_any w (ht.below k.old) hl) ?_ (hv := by rw [hb1.out])
  iterate 2 refine e0 ?_
  cases b1
  · --
   iterate 4 refine eN ?_
   refine e0 ?_
   refine sxEnd (fun W3 hK => ?_)
   go_wp2
   try go_ret
   show Q0 (.returned (.int .i64 1)) _
   exact (by obtain rfl := hQ0.out; exact ⟨congrArg (fun z => Ending.returned (.int .i64 z)) (chk1 (.inl hb1.out)).symm, hK.old⟩)
  · --
   refine eL m0 ?_
   refine e0 ?_
   obtain ⟨b2, hb2⟩ : ∃ b : Bool, RowKit.Hid ((decide (down.length = 0 ∨ down.length = 2 * t.links.length)) = b) := ⟨_, hid rfl⟩
   refine eQ (v := .bool b2) (fun w k => fits_any w (ht.below k.old) (hd.below k.old) hl) ?_ (hv := by rw [hb2.out])
   iterate 2 refine e0 ?_
   refine sxEnd (fun W4 hK => ?_)
   cases b2
   · --
    go_wp2
    try go_ret
    show Q0 (.returned (.int .i64 1)) _
    exact (by obtain rfl := hQ0.out; exact ⟨congrArg (fun z => Ending.returned (.int .i64 z)) (chk1 (.inr hb2.out)).symm, hK.old⟩)
   · --
    go_wp2_with fail
    go_loopw [20] (fun s20 wl => ∃ (j : Nat), s20 = .int .i64 (j : Int) ∧ (j ≤ n_ns) ∧ RowKit.Hid (∀ k n, k < j → ns[k]? = some n → (decide (0 ≤ n) && decide (n < t.nodes)) = true) ∧ SS w ([bx R1 (.cells #[.int .i64 t.nodes, .slice p_t n_t c_t, .slice q_t m_t d_t] 25)]) wl) (fun s20 _ => n_ns - (intOf s20).toNat)
    case atStart => exact ⟨0, rfl, (by omega), hid (fun k x hk => absurd hk (Nat.not_lt_zero _)), hK⟩
    case round =>
     clear hK
     obtain ⟨j, rfl, hj0, h_ok, hK⟩ := hrel
     generalize wr = W5 at hK ⊢
     go_upto_region 4 with (fail)
     refine wp_region_T [0] hK ?_
     clear hK
     refine eB (decide (((j : Int)) < ((n_ns : Int)))) (fun b3 hb3 => ?_)
     refine sxEnd (fun W6 hK => ?_)
     cases b3
     · --
      have q_b3 : ((n_ns : Int)) ≤ ((j : Int)) := Int.not_lt.1 (of_decide_eq_false hb3.out)
      go_wp2
      try go_ret
      show Q0 (.returned (.int .i64 0)) _
      exact (by obtain rfl := hQ0.out; exact ⟨congrArg (fun z => Ending.returned (.int .i64 z)) (chk0 hb1.out hb2.out (by have := hns.one0; have q := hb3.out; simp at q; omega) h_ok.out).symm, hK.old⟩)
     · --
      have q_b3 : ((j : Int)) < ((n_ns : Int)) := of_decide_eq_true hb3.out
      have hj : j < n_ns := by omega
      have i7 : j < n_ns := hj
      obtain ⟨g7, o7, rfl⟩ := hns.pt i7
      have l7 : j < ns.length := Nat.lt_of_lt_of_eq i7 (hns.one0)
      obtain ⟨x, ex⟩ : ∃ x, RowKit.Hid (ns[j]? = some x) := ⟨_, hid (List.getElem?_eq_getElem l7)⟩
      go_upto_region 5 with (fail)
      refine wp_region_T [0, 0, 0] hK ?_
      clear hK
      refine e0 ?_
      refine eR0 (fun w k => (hns.below k.old).int ex.out) ?_
      refine e0 ?_
      refine sxEnd (fun W8 hK => ?_)
      go_upto_region 6 with (fail)
      refine wp_region_T [1, 0, 1, 0] hK ?_
      clear hK
      refine eL m0 ?_
      refine e0 ?_
      obtain ⟨b4, hb4⟩ : ∃ b : Bool, RowKit.Hid ((decide (0 ≤ x) && decide (x < t.nodes)) = b) := ⟨_, hid rfl⟩
      refine eQ (v := .bool b4) (fun w k => node_any w (ht.below k.old) x hl) ?_ (hv := by rw [hb4.out])
      refine e0 ?_
      refine sxEnd (fun W9 hK => ?_)
      cases b4
      · --
       go_wp2
       try go_ret
       show Q0 (.returned (.int .i64 2)) _
       exact (by obtain rfl := hQ0.out; exact ⟨congrArg (fun z => Ending.returned (.int .i64 z)) (chk2 hb1.out hb2.out ex.out hb4.out).symm, hK.old⟩)
      · --
       (try go_wp2)
       go_roundw
       case rel => exact ⟨j + 1, (by first | rfl | go_num), (by omega), hid fun k y hk e => by
   rcases Nat.lt_succ_iff_lt_or_eq.1 hk with hk | rfl
   · exact h_ok.out k y hk e
   · have e0 := ex.out; rw [e0] at e; obtain rfl := Option.some.inj e; exact hb4.out, hK⟩
       case measure => simp [intOf] <;> omega
end Go.Proofs.YtmcfomainmppdaaGreatDoor
namespace Go.Proofs.YtmcfomainmppdaaGreatDoor
open Go.RowKit
open Go.Lib (decDigits)
theorem FamO.below {α : Type} {K : EK α} [OwnK K] {w w' : World} {tt t : TypeId} {k : Nat} {p : Option Addr} {n c : Nat} {ss : List Sl} {xss : List (List α)} (h : FamO K tt t k p n c ss xss w) (hb : Below w.heap.size w w') : FamO K tt t k p n c ss xss w' := (fX K tt t k p n c ss xss).bel h hb
set_option maxRecDepth 100000 in
theorem follow_any (w : World) (i : Nat) {R9 : Nat} {ap : Option Addr} {an ac : Nat} {ss : List Sl} {t : TopD} {s : Sl} (hB : Has 0 R9 (.cells #[.slice ap an ac] 141) w) (hF : FamO intK 29 3 ss.length ap an ac ss (lvD (hN t) (nN t) (arcsD t)) w) (hi : i < an) (hs : ss[i]? = some s) :
    Calls Tryz.prog 105 #[.int .i64 (i : Int), .pointer (some ⟨R9, 0, none⟩)] w fun e w' => e = .returned (.slice s.p s.l s.c) ∧ Below w.heap.size w w' := by
  have hK := SS.start w
  obtain ⟨ga, oa, rfl⟩ := hF.out.slv.pt hi; obtain rfl := hF.out.off rfl
  refine Calls.hide (fun Q0 hQ0 => ?_)
  go_enter Tryz.func105, Tryz.ntmps105
  go_upto_region 1 with (fail)
  refine wp_region_T [0, 0, 0, 0, 0] hK ?_
  clear hK
  refine eX0 (fun w k => hB.below k.old) ?_
  iterate 2 refine e0 ?_
  refine eR0 (fun w k => (hF.below k.old).out.slc hs) ?_
  refine e0 ?_
  refine sxEnd (fun W1 hK => ?_)
  go_wp2
  try go_ret
  show Q0 (.returned (.slice s.p s.l s.c)) _
  exact (by obtain rfl := hQ0.out; exact ⟨rfl, hK.old⟩)
set_option maxRecDepth 100000 in
theorem end_any (w : World) (a : Nat) {R8 : Nat} {p_t : Option Addr} {n_t c_t : Nat} {q_t : Option Addr} {m_t d_t : Nat} {t : TopD} (hB : Has 0 R8 (.cells #[.int .i64 t.nodes, .slice p_t n_t c_t, .slice q_t m_t d_t] 25) w) (ht : TopV w (.agg #[.int .i64 t.nodes, .slice p_t n_t c_t, .slice q_t m_t d_t]) t) (hl : t.links.length ≤ 100000) (ht2 : topOk t = true) (ha : a < arcsD t) :
    Calls Tryz.prog 106 #[.int .i64 (a : Int), .pointer (some ⟨R8, 0, none⟩)] w fun e w' => e = .returned (.int .i64 ((tN t a : Nat) : Int)) ∧ Below w.heap.size w w' := by
  have hK := SS.start w
  refine Calls.hide (fun Q0 hQ0 => ?_)
  go_enter Tryz.func106, Tryz.ntmps106
  go_upto_region 1 with (fail)
  refine wp_region_T [0, 0, 1, 0] hK ?_
  clear hK
  refine eX0 (fun w k => hB.below k.old) ?_
  refine e0 ?_
  refine eQ (fun w k => tailN_any w (ht.below k.old) a hl ht2 ha) ?_
  refine e0 ?_
  refine sxEnd (fun W1 hK => ?_)
  go_wp2
  try go_ret
  show Q0 (.returned (.int .i64 ((tN t a : Nat) : Int))) _
  exact (by obtain rfl := hQ0.out; exact ⟨rfl, hK.old⟩)
end Go.Proofs.YtmcfomainmppdaaGreatDoor
