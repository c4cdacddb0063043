/- The reference: small topologies, components, routes. -/
import Derived.Test.YtmcfomainmppdaaGreatDoorFWrA
namespace Go.Proofs.YtmcfomainmppdaaGreatDoor
open Go.RowKit
open Go.Lib (decDigits)
def CmpD.cs (x : CmpD) : List Value := [.int .i64 x.k, .int .i64 x.n]
def cmpK : EK CmpD where
  sz := 2
  pos := by decide
  R := fun _ cs x => cs = x.cs
  len := fun e => by rw [e]; rfl
  one := fun e u hu => by
    subst e
    simp only [CmpD.cs, List.mem_cons, List.not_mem_nil, or_false] at hu
    rcases hu with rfl | rfl <;> rfl
  below := fun e _ => e
theorem cmpK_free : cmpK.Free := fun _ _ _ _ h => h
instance : OwnK cmpK := ⟨[], fun h _ _ _ _ _ _ => h, .inl cmpK_free⟩
theorem infoCmp : (Tryz.prog.info? 44).map (fun i => (i.zero, i.size, i.bytes)) = some (some (.agg #[.int .i64 0, .int .i64 0]), cmpK.sz, 16) := by kernel_rfl
section
variable {w w' : World} {g o n c i b : Nat} {t : TypeId}
theorem SlV.cmp {xs : List CmpD} {x : CmpD} (h : SlV cmpK w (.slice (some ⟨g, o, none⟩) n c) xs) (hx : xs[i]? = some x) (j : Nat) {u : Value} (hu : x.cs[j]? = some u) : w.cell? ⟨g, o + i * 2 + j, none⟩ = some u := h.cel (f := CmpD.cs) (fun e => e) hx j hu
theorem SlV.cmp0 {xs : List CmpD} {x : CmpD} (h : SlV cmpK w (.slice (some ⟨g, o, none⟩) n c) xs) (hx : xs[i]? = some x) {u : Value} (hu : x.cs[0]? = some u) : w.cell? ⟨g, o + i * 2, none⟩ = some u := h.cmp hx 0 hu
theorem OwV.cmp {xs : List CmpD} {x : CmpD} (h : OwV cmpK t b w (.slice (some ⟨g, 0, none⟩) n c) xs) (hx : xs[i]? = some x) (j : Nat) {u : Value} (hu : x.cs[j]? = some u) : w.cell? ⟨g, i * 2 + j, none⟩ = some u := by
  have h1 := h.slv.cmp hx j hu; rwa [Nat.zero_add] at h1
theorem OwV.cmp0 {xs : List CmpD} {x : CmpD} (h : OwV cmpK t b w (.slice (some ⟨g, 0, none⟩) n c) xs) (hx : xs[i]? = some x) {u : Value} (hu : x.cs[0]? = some u) : w.cell? ⟨g, i * 2, none⟩ = some u := h.cmp hx 0 hu
end
def smlB (t : TopD) (a b : Int) : Bool := topOk t && decide (t.nodes ≤ a) && decide ((t.links.length : Int) ≤ b)
section
variable {t : TopD} {c : CmpD} {k : Nat}
theorem top_big (h : 100000 < t.links.length) : topOk t = false := by
  unfold topOk
  rw [decide_eq_false (by omega), Bool.false_and]
theorem all_snoc {xs : List CmpD} (h : ∀ c ∈ xs, winB t c = true) (hc : winB t c = true) : ∀ x ∈ xs ++ [c], winB t x = true := fun x hx => by
  rcases List.mem_append.1 hx with hx | hx
  · exact h x hx
  · rw [List.mem_singleton.1 hx]; exact hc
theorem win1 {i : Nat} (h : i < t.links.length) : winB t ⟨1, (i : Int)⟩ = true := by
  simp [winB, h]
theorem win2 {i : Nat} (h : (i : Int) < t.nodes) : winB t ⟨2, (i : Int)⟩ = true := by
  simp [winB, h]
theorem win3 {i : Nat} (h : 1 ≤ i) (h2 : i ≤ 64) : winB t ⟨3, (i : Int)⟩ = true := by
  simp [winB]; omega
def mskJ (t : TopD) (c : CmpD) (j : Nat) : List Bool := (List.range (arcsD t)).map fun a => decide (a < j) && cmpB t c (a / 2)
theorem mskJ_len : (mskJ t c k).length = arcsD t := by unfold mskJ; simp
theorem mskJ_0 : mskJ t c 0 = List.replicate (arcsD t) false := by
  unfold mskJ
  apply List.ext_getElem (by simp)
  intro i h1 h2
  simp
theorem mskJ_all : mskJ t c (arcsD t) = mskD t c := by
  unfold mskJ mskD
  refine List.map_congr_left fun a ha => ?_
  rw [decide_eq_true (List.mem_range.1 ha), Bool.true_and]
theorem mskJ_no (h : cmpB t c (k / 2) = false) : mskJ t c k = mskJ t c (k + 1) := by
  unfold mskJ
  refine List.map_congr_left fun a _ => ?_
  by_cases e : a = k
  · rw [e, h, Bool.and_false, Bool.and_false]
  · congr 1; exact decide_eq_decide.2 (by omega)
theorem mskJ_yes (hk : k < arcsD t) (h : cmpB t c (k / 2) = true) : (mskJ t c k).set k true = mskJ t c (k + 1) := by
  apply List.ext_getElem (by simp [mskJ_len])
  intro i h1 h2
  have hi : i < arcsD t := by rw [mskJ_len] at h2; exact h2
  have e : ∀ m, (mskJ t c m)[i]'(by rw [mskJ_len]; exact hi) = (decide (i < m) && cmpB t c (i / 2)) := fun m => by unfold mskJ; simp
  rw [List.getElem_set, e, e]
  by_cases q : k = i
  · rw [if_pos q, ← q, h, decide_eq_true (by omega)]; rfl
  · rw [if_neg q]; congr 1; exact decide_eq_decide.2 (by omega)
end
set_option maxRecDepth 100000 in
theorem rvalidL_any (w : World) {v_t : Value} {t : TopD} (ht : TopV w v_t t) (hbig : 100000 < t.links.length) :
    Calls Tryz.prog 27 #[v_t] w fun e w' => e = .returned (.bool false) ∧ Below w.heap.size w w' := by
  have ht_0 := ht
  obtain ⟨p_t, n_t, c_t, q_t, m_t, d_t, rfl, ht_1, ht_2⟩ := ht_0
  have hK := SS.start w
  have hmb : 100000 < m_t := (by rw [ht_2.one0]; exact hbig)
  refine Calls.hide (fun Q0 hQ0 => ?_)
  go_enter Tryz.func27, Tryz.ntmps27
  go_upto_region 0 with (fail)
  refine wp_region_T [3, 0] hK ?_
  clear hK
  refine eA (.cells #[.int .i64 t.nodes, .slice p_t n_t c_t, .slice q_t m_t d_t] 25) (fun R1 => ?_)
  refine e0 ?_
  refine sxEnd (fun W2 hK => ?_)
  go_upto_region 1 with (fail)
  refine wp_region_T [0, 1, 1, 0, 0, 0, 1, 0, 0, 0, 0, 1, 0, 0, 1, 0, 0, 0, 0, 0, 1, 0, 0, 0] hK ?_
  clear hK
  refine e0 ?_
  refine eL m0 ?_
  obtain ⟨b1, hb1⟩ : ∃ z9 : Bool, RowKit.Hid ((decide (1 ≤ t.nodes) && decide (t.nodes ≤ 64)) = z9) := ⟨_, hid rfl⟩
  refine eQ (v := .bool b1) (fun w k => rwithin_any w t.nodes 1 64 ) ?_ (hv := by rw [hb1.out])
  iterate 2 refine e0 ?_
  cases b1
  · --
   iterate 5 refine eN ?_
   iterate 6 refine eU ?_
   refine eN ?_
   iterate 2 refine e0 ?_
   iterate 4 refine eN ?_
   refine e0 ?_
   refine sxEnd (fun W3 hK => ?_)
   go_wp2
   try go_ret
   show Q0 (.returned (.bool false)) _
   exact (by obtain rfl := hQ0.out; exact ⟨rfl, hK.old⟩)
  · --
   refine e0 ?_
   refine eL m0 ?_
   refine e0 ?_
   refine eB (((n_t : Int)) != 0) (fun b2 hb2 => ?_)
   refine e0 ?_
   cases b2
   · --
    iterate 6 refine eN ?_
    iterate 4 refine e0 ?_
    refine eL m0 ?_
    refine e0 ?_
    refine eV (.bool true) (fun w' => by go_simp; (try go_bits); first | exact ⟨rfl, rfl⟩ | exact ⟨congrArg Value.bool (by first | decide | (simp; omega) | (apply decide_eq_true; omega)), rfl⟩) ?_
    refine e0 ?_
    refine sxEnd (fun W4 hK => ?_)
    go_wp2
    try go_ret
    show Q0 (.returned (.bool false)) _
    exact (by obtain rfl := hQ0.out; exact ⟨rfl, hK.old⟩)
   · --
    refine e0 ?_
    refine eL m0 ?_
    iterate 2 refine e0 ?_
    refine eL m0 ?_
    refine eB (((n_t : Int)) != t.nodes) (fun b3 hb3 => ?_)
    iterate 3 refine e0 ?_
    cases b3
    · --
     refine e0 ?_
     refine eL m0 ?_
     refine e0 ?_
     refine eV (.bool true) (fun w' => by go_simp; (try go_bits); first | exact ⟨rfl, rfl⟩ | exact ⟨congrArg Value.bool (by first | decide | (simp; omega) | (apply decide_eq_true; omega)), rfl⟩) ?_
     refine e0 ?_
     refine sxEnd (fun W5 hK => ?_)
     go_wp2
     try go_ret
     show Q0 (.returned (.bool false)) _
     exact (by obtain rfl := hQ0.out; exact ⟨rfl, hK.old⟩)
    · --
     iterate 4 refine eN ?_
     refine e0 ?_
     refine sxEnd (fun W6 hK => ?_)
     go_wp2
     try go_ret
     show Q0 (.returned (.bool false)) _
     exact (by obtain rfl := hQ0.out; exact ⟨rfl, hK.old⟩)
theorem rvalidX_any (w : World) {v_t : Value} {t : TopD} (ht : TopV w v_t t) : Calls Tryz.prog 27 #[v_t] w fun e w' => e = .returned (.bool (topOk t)) ∧ Below w.heap.size w w' := by
  by_cases h : t.links.length ≤ 100000
  · exact rvalid_any w ht h
  · rw [top_big (by omega)]; exact rvalidL_any w ht (by omega)
set_option maxRecDepth 100000 in
theorem rsmall_any (w : World) {v_t : Value} {t : TopD} (ht : TopV w v_t t) (a : Int) (b : Int)  :
    Calls Tryz.prog 26 #[v_t, .int .i64 a, .int .i64 b] w fun e w' => e = .returned (.bool (smlB t a b)) ∧ Below w.heap.size w w' := by
  have ht_0 := ht
  obtain ⟨p_t, n_t, c_t, q_t, m_t, d_t, rfl, ht_1, ht_2⟩ := ht_0
  have hK := SS.start w
  refine Calls.hide (fun Q0 hQ0 => ?_)
  go_enter Tryz.func26, Tryz.ntmps26
  go_upto_region 0 with (fail)
  refine wp_region_T [3, 0] hK ?_
  clear hK
  refine eA (.cells #[.int .i64 t.nodes, .slice p_t n_t c_t, .slice q_t m_t d_t] 25) (fun R1 => ?_)
  refine e0 ?_
  refine sxEnd (fun W2 hK => ?_)
  go_upto_region 1 with (fail)
  refine wp_region_T [1, 1, 0, 0, 1, 0, 0, 0, 0, 0, 1, 0, 0, 0, 0, 0] hK ?_
  clear hK
  refine eL m0 ?_
  obtain ⟨b1, hb1⟩ : ∃ z9 : Bool, RowKit.Hid (topOk t = z9) := ⟨_, hid rfl⟩
  refine eQ (v := .bool b1) (fun w k => rvalidX_any w (ht.below k.old)) ?_ (hv := by rw [hb1.out])
  refine e0 ?_
  cases b1
  · --
   iterate 4 refine eN ?_
   iterate 2 refine e0 ?_
   iterate 5 refine eN ?_
   iterate 2 refine e0 ?_
   refine sxEnd (fun W3 hK => ?_)
   go_wp2
   try go_ret
   show Q0 (.returned (.bool false)) _
   exact (by obtain rfl := hQ0.out; exact ⟨congrArg (fun z => Ending.returned (.bool z)) (by have qb1 := hb1.out; have e2 := ht_2.one0; unfold smlB; rw [← e2]; simp_all <;> omega), hK.old⟩)
  · --
   refine e0 ?_
   refine eL m0 ?_
   refine e0 ?_
   refine eB (decide (t.nodes ≤ a)) (fun b2 hb2 => ?_)
   iterate 2 refine e0 ?_
   cases b2
   · --
    have q_b2 : a < t.nodes := Int.not_le.1 (of_decide_eq_false hb2.out)
    iterate 5 refine eN ?_
    iterate 2 refine e0 ?_
    refine sxEnd (fun W4 hK => ?_)
    go_wp2
    try go_ret
    show Q0 (.returned (.bool false)) _
    exact (by obtain rfl := hQ0.out; exact ⟨congrArg (fun z => Ending.returned (.bool z)) (by have qb2 := hb2.out; have qb1 := hb1.out; have e2 := ht_2.one0; unfold smlB; rw [← e2]; simp_all <;> omega), hK.old⟩)
   · --
    have q_b2 : t.nodes ≤ a := of_decide_eq_true hb2.out
    refine e0 ?_
    refine eL m0 ?_
    iterate 2 refine e0 ?_
    refine eB (decide (((m_t : Int)) ≤ b)) (fun b3 hb3 => ?_)
    iterate 2 refine e0 ?_
    refine sxEnd (fun W5 hK => ?_)
    go_wp2
    try go_ret
    show Q0 (.returned (.bool b3)) _
    exact (by obtain rfl := hQ0.out; exact ⟨congrArg (fun z => Ending.returned (.bool z)) (by have qb2 := hb2.out; have qb3 := hb3.out; have qb1 := hb1.out; have e2 := ht_2.one0; unfold smlB; rw [← e2]; simp_all <;> omega), hK.old⟩)
theorem sml_ok {t : TopD} {a b : Int} (h : smlB t a b = true) : topOk t = true ∧ t.nodes ≤ a ∧ (t.links.length : Int) ≤ b := by
  unfold smlB at h
  rw [Bool.and_eq_true, Bool.and_eq_true] at h
  exact ⟨h.1.1, of_decide_eq_true h.1.2, of_decide_eq_true h.2⟩
set_option maxRecDepth 100000 in
theorem small_any (w : World) {v_t : Value} {t : TopD} (ht : TopV w v_t t)  :
    Calls Tryz.prog 7 #[v_t] w fun e w' => e = .returned (.bool (smlB t 7 10)) ∧ Below w.heap.size w w' := by
  have ht_0 := ht
  obtain ⟨p_t, n_t, c_t, q_t, m_t, d_t, rfl, ht_1, ht_2⟩ := ht_0
  have hK := SS.start w
  refine Calls.hide (fun Q0 hQ0 => ?_)
  go_enter Tryz.func7, Tryz.ntmps7
  go_upto_region 0 with (fail)
  refine wp_region_T [3, 0] hK ?_
  clear hK
  refine eA (.cells #[.int .i64 t.nodes, .slice p_t n_t c_t, .slice q_t m_t d_t] 25) (fun R1 => ?_)
  refine e0 ?_
  refine sxEnd (fun W2 hK => ?_)
  go_upto_region 1 with (fail)
  refine wp_region_T [1, 1, 0, 1, 1, 0, 0] hK ?_
  clear hK
  refine eL m0 ?_
  obtain ⟨b1, hb1⟩ : ∃ z9 : Bool, RowKit.Hid (smlB t 7 10 = z9) := ⟨_, hid rfl⟩
  refine eQ (v := .bool b1) (fun w k => rsmall_any w (ht.below k.old) 7 10) ?_ (hv := by rw [hb1.out])
  refine e0 ?_
  cases b1
  · --
   iterate 2 refine eN ?_
   iterate 2 refine e0 ?_
   refine sxEnd (fun W3 hK => ?_)
   go_wp2
   try go_ret
   show Q0 (.returned (.bool false)) _
   exact (by obtain rfl := hQ0.out; exact ⟨(by rw [hb1.out]), hK.old⟩)
  · --
   refine eL m0 ?_
   obtain ⟨b2, hb2⟩ : ∃ z9 : Bool, RowKit.Hid (topOk t = z9) := ⟨_, hid rfl⟩
   refine eQ (v := .bool b2) (fun w k => rvalidX_any w (ht.below k.old)) ?_ (hv := by rw [hb2.out])
   iterate 2 refine e0 ?_
   refine sxEnd (fun W4 hK => ?_)
   go_wp2
   try go_ret
   show Q0 (.returned (.bool b2)) _
   exact (by obtain rfl := hQ0.out; exact ⟨(by rw [hb1.out, ← hb2.out, (sml_ok hb1.out).1]), hK.old⟩)
set_option maxRecDepth 100000 in
theorem rout_any (w : World) {v_t : Value} {t : TopD} (ht : TopV w v_t t) (n : Nat) (hl : t.links.length ≤ 100000) (ht2 : topOk t = true) :
    Calls Tryz.prog 28 #[v_t, .int .i64 (n : Int)] w fun e w' => ∃ x : Sl, e = .returned (.slice x.p x.l x.c) ∧ SS w [rO intK 3 x.p x.l x.c (natI (outD t n))] w' := by
  have ht_0 := ht
  obtain ⟨p_t, n_t, c_t, q_t, m_t, d_t, rfl, ht_1, ht_2⟩ := ht_0; have b_t : m_t ≤ 100000 := (by rw [ht_2.one0]; exact hl); have a_t : arcsD t ≤ 200000 := (by unfold arcsD; omega)
  have hK := SS.start w
  refine Calls.hide (fun Q0 hQ0 => ?_)
  go_enter Tryz.func28, Tryz.ntmps28
  go_upto_region 0 with (fail)
  refine wp_region_T [3, 0] hK ?_
  clear hK
  refine eA (.cells #[.int .i64 t.nodes, .slice p_t n_t c_t, .slice q_t m_t d_t] 25) (fun R1 => ?_)
  refine e0 ?_
  refine sxEnd (fun W2 hK => ?_)
  replace hK := hK.fact (rO intK 3 none 0 0 (natI (selD (fun a => decide (tN t a = n)) 0))) OwV.nil (fun _ h => by cases h)
  go_wp2_with fail
  go_loopw [6, 5] (fun s6 s5 wl => ∃ (j : Nat) (p : Option Addr) (n_ : Nat) (c : Nat), s6 = .int .i64 (j : Int) ∧ s5 = .slice p n_ c ∧ (j ≤ arcsD t) ∧ SS w ([rO intK 3 p n_ c (natI (selD (fun a => decide (tN t a = n)) j)), bx R1 (.cells #[.int .i64 t.nodes, .slice p_t n_t c_t, .slice q_t m_t d_t] 25)]) wl) (fun s6 s5 _ => arcsD t - (intOf s6).toNat)
  case atStart => exact ⟨0, none, 0, 0, rfl, rfl, (by omega), hK⟩
  case round =>
   clear hK
   obtain ⟨j, p, n_, c, rfl, rfl, hj0, hK⟩ := hrel
   generalize wr = W3 at hK ⊢
   go_upto_region 3 with (fail)
   refine wp_region_T [0, 1, 1, 0] hK ?_
   clear hK
   refine e0 ?_
   refine eL m1 ?_
   refine eQ (fun w k => rarcs_any w (ht.below k.old) hl ht2) ?_
   refine eB (decide (((j : Int)) < (((arcsD t : Nat) : Int)))) (fun b1 hb1 => ?_)
   refine sxEnd (fun W4 hK => ?_)
   cases b1
   · --
    have q_b1 : (((arcsD t : Nat) : Int)) ≤ ((j : Int)) := Int.not_lt.1 (of_decide_eq_false hb1.out)
    obtain rfl : j = arcsD t := by omega
    go_wp2
    try go_ret
    show Q0 (.returned (.slice p n_ c)) _
    exact (by obtain rfl := hQ0.out; exact ⟨⟨p, n_, c⟩, rfl, hK.subl (sK2 (sC2 sZ2))⟩)
   · --
    have q_b1 : ((j : Int)) < (((arcsD t : Nat) : Int)) := of_decide_eq_true hb1.out
    have ha : j < arcsD t := by omega
    go_upto_region 5 with (fail)
    refine wp_region_T [1, 0, 1, 0, 0] hK ?_
    clear hK
    refine eL m1 ?_
    refine e0 ?_
    refine eQ (fun w k => rtail_any w (ht.below k.old) j hl ht2 ha) ?_
    refine e0 ?_
    refine eB ((((tN t j : Nat) : Int)) == ((n : Int))) (fun b2 hb2 => ?_)
    refine sxEnd (fun W5 hK => ?_)
    cases b2
    · --
     rw [show natI (selD (fun a => decide (tN t a = n)) j) = natI (selD (fun a => decide (tN t a = n)) (j + 1)) from (by rw [sel_no (decide_eq_false (by have q := hb2.out; simp at q; omega))])] at hK
     (try go_wp2)
     go_roundw
     case rel => exact ⟨j + 1, p, n_, c, (by first | rfl | go_num), (by first | rfl | go_num), (by omega), hK⟩
     case measure => simp [intOf] <;> omega
    · --
     go_upto_region 6 with (fail)
     refine wp_region_T [0, 0, 3, 5, 0] hK ?_
     clear hK
     iterate 2 refine e0 ?_
     refine eA (.cells #[.int .i64 (j : Int)] 3) (fun R6 => ?_)
     refine eApp 1 intK_free rfl infoZ (fun w k => k.one1 (K := intK) (x := (j : Int)) m0 rfl) (by have := sel_len (fun a => decide (tN t a = n)) j; rw [natI_len]; simp; omega) (fun x7 => ?_)
     obtain ⟨p7, n7, c7⟩ := x7; dsimp only
     refine e0 ?_
     refine sxEnd (fun W8 hK => ?_)
     rw [show (natI (selD (fun a => decide (tN t a = n)) j)) ++ [(j : Int)] = natI (selD (fun a => decide (tN t a = n)) (j + 1)) from (by rw [natI_snoc, sel_yes (decide_eq_true (by have q := hb2.out; simp at q; omega))])] at hK
     (try go_wp2)
     go_roundw
     case rel => exact ⟨j + 1, p7, n7, c7, (by first | rfl | go_num), (by first | rfl | go_num), (by omega), (hK.subl (sC2 (List.Sublist.refl _)))⟩
     case measure => simp [intOf] <;> omega
set_option maxRecDepth 100000 in
theorem rwin_any (w : World) {v_t : Value} {t : TopD} (ht : TopV w v_t t) {c : CmpD} (hl : t.links.length ≤ 100000) (ht2 : topOk t = true) :
    Calls Tryz.prog 37 #[v_t, .agg #[.int .i64 c.k, .int .i64 c.n]] w fun e w' => e = .returned (.bool (winB t c)) ∧ Below w.heap.size w w' := by
  have ht_0 := ht
  obtain ⟨p_t, n_t, c_t, q_t, m_t, d_t, rfl, ht_1, ht_2⟩ := ht_0; have b_t : m_t ≤ 100000 := (by rw [ht_2.one0]; exact hl); have a_t : arcsD t ≤ 200000 := (by unfold arcsD; omega)
  have hK := SS.start w
  refine Calls.hide (fun Q0 hQ0 => ?_)
  go_enter Tryz.func37, Tryz.ntmps37
  go_upto_region 0 with (fail)
  refine wp_region_T [3, 3, 0] hK ?_
  clear hK
  refine eA (.cells #[.int .i64 t.nodes, .slice p_t n_t c_t, .slice q_t m_t d_t] 25) (fun R1 => ?_)
  refine eA (.cells #[.int .i64 c.k, .int .i64 c.n] 44) (fun R2 => ?_)
  refine e0 ?_
  refine sxEnd (fun W3 hK => ?_)
  go_upto_region 1 with (fail)
  refine wp_region_T [1, 1, 0] hK ?_
  clear hK
  refine eL m1 ?_
  refine eQ (fun w k => rvalidT_any w (ht.below k.old) hl ht2) ?_
  refine e0 ?_
  refine sxEnd (fun W4 hK => ?_)
  go_upto_region 3 with (fail)
  refine wp_region_T [0, 1] hK ?_
  clear hK
  refine e0 ?_
  refine eL m0 ?_
  refine sxEnd (fun W5 hK => ?_)
  go_upto_region 4 with (fail)
  refine wp_region_T [0, 0] hK ?_
  clear hK
  refine eB (c.k == 1) (fun b1 hb1 => ?_)
  refine e0 ?_
  refine sxEnd (fun W6 hK => ?_)
  cases b1
  · --
   go_upto_region 6 with (fail)
   refine wp_region_T [0, 0] hK ?_
   clear hK
   refine eB (c.k == 2) (fun b2 hb2 => ?_)
   refine e0 ?_
   refine sxEnd (fun W7 hK => ?_)
   cases b2
   · --
    go_upto_region 8 with (fail)
    refine wp_region_T [0, 0] hK ?_
    clear hK
    refine eB (c.k == 3) (fun b3 hb3 => ?_)
    refine e0 ?_
    refine sxEnd (fun W8 hK => ?_)
    cases b3
    · --
     go_wp2
     try go_ret
     show Q0 (.returned (.bool false)) _
     exact (by obtain rfl := hQ0.out; exact ⟨congrArg (fun z => Ending.returned (.bool z)) (show _ = winB t c from (by unfold winB; rw [if_neg (show ¬ _ from (by have q := hb1.out; simpa using q))]; rw [if_neg (show ¬ _ from (by have q := hb2.out; simpa using q))]; rw [if_neg (show ¬ _ from (by have q := hb3.out; simpa using q))]; (try rfl))), hK.old⟩)
    · --
     go_upto_region 9 with (fail)
     refine wp_region_T [0, 1, 0, 0, 0, 1, 0, 0, 0] hK ?_
     clear hK
     refine e0 ?_
     refine eL m0 ?_
     refine eB (decide (1 ≤ c.n)) (fun b4 hb4 => ?_)
     refine e0 ?_
     cases b4
     · --
      have q_b4 : c.n < 1 := Int.not_le.1 (of_decide_eq_false hb4.out)
      iterate 3 refine eN ?_
      iterate 2 refine e0 ?_
      refine sxEnd (fun W9 hK => ?_)
      go_wp2
      try go_ret
      show Q0 (.returned (.bool false)) _
      exact (by obtain rfl := hQ0.out; exact ⟨congrArg (fun z => Ending.returned (.bool z)) (show _ = winB t c from (by unfold winB; rw [if_neg (show ¬ _ from (by have q := hb1.out; simpa using q))]; rw [if_neg (show ¬ _ from (by have q := hb2.out; simpa using q))]; rw [if_pos (by have q := hb3.out; simpa using q)]; first | rfl | (simp only [hb4.out]; done) | (simp only [hb4.out]; rfl) | (simp only [hb4.out, Bool.true_and, Bool.false_and]; rw [← hb4.out, ht_2.one0]))), hK.old⟩)
     · --
      have q_b4 : 1 ≤ c.n := of_decide_eq_true hb4.out
      refine e0 ?_
      refine eL m0 ?_
      refine eB (decide (c.n ≤ 64)) (fun b5 hb5 => ?_)
      iterate 2 refine e0 ?_
      refine sxEnd (fun W10 hK => ?_)
      go_wp2
      try go_ret
      show Q0 (.returned (.bool b5)) _
      exact (by obtain rfl := hQ0.out; exact ⟨congrArg (fun z => Ending.returned (.bool z)) (show _ = winB t c from (by unfold winB; rw [if_neg (show ¬ _ from (by have q := hb1.out; simpa using q))]; rw [if_neg (show ¬ _ from (by have q := hb2.out; simpa using q))]; rw [if_pos (by have q := hb3.out; simpa using q)]; first | rfl | (simp only [hb4.out, hb5.out]; done) | (simp only [hb4.out, hb5.out]; rfl) | (simp only [hb4.out, hb5.out, Bool.true_and, Bool.false_and]; rw [← hb5.out, ht_2.one0]))), hK.old⟩)
   · --
    go_upto_region 7 with (fail)
    refine wp_region_T [0, 1, 0, 0, 0, 1, 0, 1, 0, 0, 0] hK ?_
    clear hK
    refine e0 ?_
    refine eL m0 ?_
    refine eB (decide (0 ≤ c.n)) (fun b3 hb3 => ?_)
    refine e0 ?_
    cases b3
    · --
     have q_b3 : c.n < 0 := Int.not_le.1 (of_decide_eq_false hb3.out)
     iterate 5 refine eN ?_
     iterate 2 refine e0 ?_
     refine sxEnd (fun W11 hK => ?_)
     go_wp2
     try go_ret
     show Q0 (.returned (.bool false)) _
     exact (by obtain rfl := hQ0.out; exact ⟨congrArg (fun z => Ending.returned (.bool z)) (show _ = winB t c from (by unfold winB; rw [if_neg (show ¬ _ from (by have q := hb1.out; simpa using q))]; rw [if_pos (by have q := hb2.out; simpa using q)]; first | rfl | (simp only [hb3.out]; done) | (simp only [hb3.out]; rfl) | (simp only [hb3.out, Bool.true_and, Bool.false_and]; rw [← hb3.out, ht_2.one0]))), hK.old⟩)
    · --
     have q_b3 : 0 ≤ c.n := of_decide_eq_true hb3.out
     refine e0 ?_
     refine eL m0 ?_
     refine e0 ?_
     refine eL m1 ?_
     refine eB (decide (c.n < t.nodes)) (fun b4 hb4 => ?_)
     iterate 2 refine e0 ?_
     refine sxEnd (fun W12 hK => ?_)
     go_wp2
     try go_ret
     show Q0 (.returned (.bool b4)) _
     exact (by obtain rfl := hQ0.out; exact ⟨congrArg (fun z => Ending.returned (.bool z)) (show _ = winB t c from (by unfold winB; rw [if_neg (show ¬ _ from (by have q := hb1.out; simpa using q))]; rw [if_pos (by have q := hb2.out; simpa using q)]; first | rfl | (simp only [hb3.out, hb4.out]; done) | (simp only [hb3.out, hb4.out]; rfl) | (simp only [hb3.out, hb4.out, Bool.true_and, Bool.false_and]; rw [← hb4.out, ht_2.one0]))), hK.old⟩)
  · --
   go_upto_region 5 with (fail)
   refine wp_region_T [0, 1, 0, 0, 0, 1, 0, 1, 0, 0, 0, 0] hK ?_
   clear hK
   refine e0 ?_
   refine eL m0 ?_
   refine eB (decide (0 ≤ c.n)) (fun b2 hb2 => ?_)
   refine e0 ?_
   cases b2
   · --
    have q_b2 : c.n < 0 := Int.not_le.1 (of_decide_eq_false hb2.out)
    iterate 6 refine eN ?_
    iterate 2 refine e0 ?_
    refine sxEnd (fun W13 hK => ?_)
    go_wp2
    try go_ret
    show Q0 (.returned (.bool false)) _
    exact (by obtain rfl := hQ0.out; exact ⟨congrArg (fun z => Ending.returned (.bool z)) (show _ = winB t c from (by unfold winB; rw [if_pos (by have q := hb1.out; simpa using q)]; first | rfl | (simp only [hb2.out]; done) | (simp only [hb2.out]; rfl) | (simp only [hb2.out, Bool.true_and, Bool.false_and]; rw [← hb2.out, ht_2.one0]))), hK.old⟩)
   · --
    have q_b2 : 0 ≤ c.n := of_decide_eq_true hb2.out
    refine e0 ?_
    refine eL m0 ?_
    refine e0 ?_
    refine eL m1 ?_
    refine e0 ?_
    refine eB (decide (c.n < ((m_t : Int)))) (fun b3 hb3 => ?_)
    iterate 2 refine e0 ?_
    refine sxEnd (fun W14 hK => ?_)
    go_wp2
    try go_ret
    show Q0 (.returned (.bool b3)) _
    exact (by obtain rfl := hQ0.out; exact ⟨congrArg (fun z => Ending.returned (.bool z)) (show _ = winB t c from (by unfold winB; rw [if_pos (by have q := hb1.out; simpa using q)]; first | rfl | (simp only [hb2.out, hb3.out]; done) | (simp only [hb2.out, hb3.out]; rfl) | (simp only [hb2.out, hb3.out, Bool.true_and, Bool.false_and]; rw [← hb3.out, ht_2.one0]))), hK.old⟩)
theorem rwinT_any (w : World) {v_t : Value} {t : TopD} {c : CmpD} (ht : TopV w v_t t) (hl : t.links.length ≤ 100000) (ht2 : topOk t = true) (hwc : winB t c = true) : Calls Tryz.prog 37 #[v_t, .agg #[.int .i64 c.k, .int .i64 c.n]] w fun e w' => e = .returned (.bool true) ∧ Below w.heap.size w w' := by
  rw [← hwc]; exact rwin_any w ht hl ht2
set_option maxRecDepth 100000 in
theorem rof_any (w : World) {v_t : Value} {t : TopD} (ht : TopV w v_t t) {c : CmpD} (a : Nat) (hl : t.links.length ≤ 100000) (ht2 : topOk t = true) (hwc : winB t c = true) (ha : a < arcsD t) :
    Calls Tryz.prog 76 #[v_t, .agg #[.int .i64 c.k, .int .i64 c.n], .int .i64 (a : Int)] w fun e w' => e = .returned (.bool (cmpB t c (a / 2))) ∧ Below w.heap.size w w' := by
  have ht_0 := ht
  obtain ⟨p_t, n_t, c_t, q_t, m_t, d_t, rfl, ht_1, ht_2⟩ := ht_0; have b_t : m_t ≤ 100000 := (by rw [ht_2.one0]; exact hl); have a_t : arcsD t ≤ 200000 := (by unfold arcsD; omega)
  have hK := SS.start w
  refine Calls.hide (fun Q0 hQ0 => ?_)
  go_enter Tryz.func76, Tryz.ntmps76
  go_upto_region 0 with (fail)
  refine wp_region_T [3, 3, 0] hK ?_
  clear hK
  refine eA (.cells #[.int .i64 t.nodes, .slice p_t n_t c_t, .slice q_t m_t d_t] 25) (fun R1 => ?_)
  refine eA (.cells #[.int .i64 c.k, .int .i64 c.n] 44) (fun R2 => ?_)
  refine e0 ?_
  refine sxEnd (fun W3 hK => ?_)
  have i4 : a / 2 < m_t := (by have := ht_2.one0; unfold arcsD at ha; omega)
  obtain ⟨g4, o4, rfl⟩ := ht_2.pt i4
  have l4 : a / 2 < t.links.length := Nat.lt_of_lt_of_eq i4 (ht_2.one0)
  obtain ⟨x, ex⟩ : ∃ z0, RowKit.Hid (t.links[a / 2]? = some z0) := ⟨_, hid (List.getElem?_eq_getElem l4)⟩
  go_upto_region 1 with (fail)
  refine wp_region_T [0, 1, 0, 0, 0, 0, 3, 4] hK ?_
  clear hK
  refine e0 ?_
  refine eL m1 ?_
  refine e0 ?_
  refine eV (.int .i64 ((a / 2 : Nat) : Int)) (fun w' => by go_simp; (try go_bits); exact ⟨congrArg (Value.int .i64) (by omega), rfl⟩) ?_
  refine e0 ?_
  refine eRm0 (F := fun w => SlV lnkK w (.slice (some ⟨g4, o4, none⟩) m_t d_t) t.links) (fun w k => ht_2.below k.old) (h1 := by intro w' k; have c0 := (k).lnk0 ex.out rfl; have c1 := (k).lnk ex.out 1 rfl; have c2 := (k).lnk ex.out 2 rfl; have c3 := (k).lnk ex.out 3 rfl; have c4 := (k).lnk ex.out 4 rfl; have c5 := (k).lnk ex.out 5 rfl; have c6 := (k).lnk ex.out 6 rfl; go_simp; (try go_bits); exact ⟨rfl, rfl⟩) ?_
  refine eA (.cells #[.int .i64 0, .int .i64 0, .int .i64 0, .int .i64 0, .int .i64 0, .int .i64 0, .int .i64 0] 59) (fun R5 => ?_)
  refine eP 0 0 [.int .i64 x.a, .int .i64 x.b, .int .i64 x.c0, .int .i64 x.c1, .int .i64 x.cap, .int .i64 x.dly, .int .i64 x.grp] ?_
  refine sxEnd (fun W6 hK => ?_)
  go_upto_region 2 with (fail)
  refine wp_region_T [0, 1] hK ?_
  clear hK
  refine e0 ?_
  refine eL m1 ?_
  refine sxEnd (fun W7 hK => ?_)
  go_upto_region 3 with (fail)
  refine wp_region_T [0, 0] hK ?_
  clear hK
  refine eB (c.k == 1) (fun b1 hb1 => ?_)
  refine e0 ?_
  refine sxEnd (fun W8 hK => ?_)
  cases b1
  · --
   go_upto_region 5 with (fail)
   refine wp_region_T [0, 0] hK ?_
   clear hK
   refine eB (c.k == 2) (fun b2 hb2 => ?_)
   refine e0 ?_
   refine sxEnd (fun W9 hK => ?_)
   cases b2
   · --
    go_upto_region 7 with (fail)
    refine wp_region_T [0, 1, 0, 1, 0, 0] hK ?_
    clear hK
    refine e0 ?_
    refine eL m0 ?_
    refine e0 ?_
    refine eL m1 ?_
    refine eB (x.grp == c.n) (fun b3 hb3 => ?_)
    refine e0 ?_
    refine sxEnd (fun W10 hK => ?_)
    go_wp2
    try go_ret
    show Q0 (.returned (.bool b3)) _
    exact (by obtain rfl := hQ0.out; exact ⟨congrArg (fun z => Ending.returned (.bool z)) (by have qb1 := hb1.out; (try simp at qb1); have qb2 := hb2.out; (try simp at qb2); have qb3 := hb3.out; (try simp at qb3); unfold cmpB; rw [ex.out]; dsimp only; rcases winB_k hwc with hk | hk | hk <;> simp_all <;> omega), hK.old⟩)
   · --
    go_upto_region 6 with (fail)
    refine wp_region_T [0, 1, 0, 1, 0, 0, 0, 1, 0, 1, 0, 0, 0] hK ?_
    clear hK
    refine e0 ?_
    refine eL m0 ?_
    refine e0 ?_
    refine eL m1 ?_
    refine eB (x.a == c.n) (fun b3 hb3 => ?_)
    refine e0 ?_
    cases b3
    · --
     refine e0 ?_
     refine eL m0 ?_
     refine e0 ?_
     refine eL m1 ?_
     refine eB (x.b == c.n) (fun b4 hb4 => ?_)
     iterate 2 refine e0 ?_
     refine sxEnd (fun W11 hK => ?_)
     go_wp2
     try go_ret
     show Q0 (.returned (.bool b4)) _
     exact (by obtain rfl := hQ0.out; exact ⟨congrArg (fun z => Ending.returned (.bool z)) (by have qb1 := hb1.out; (try simp at qb1); have qb2 := hb2.out; (try simp at qb2); have qb3 := hb3.out; (try simp at qb3); have qb4 := hb4.out; (try simp at qb4); unfold cmpB; rw [ex.out]; dsimp only; rcases winB_k hwc with hk | hk | hk <;> simp_all <;> omega), hK.old⟩)
    · --
     iterate 5 refine eN ?_
     iterate 2 refine e0 ?_
     refine sxEnd (fun W12 hK => ?_)
     go_wp2
     try go_ret
     show Q0 (.returned (.bool true)) _
     exact (by obtain rfl := hQ0.out; exact ⟨congrArg (fun z => Ending.returned (.bool z)) (by have qb1 := hb1.out; (try simp at qb1); have qb2 := hb2.out; (try simp at qb2); have qb3 := hb3.out; (try simp at qb3); unfold cmpB; rw [ex.out]; dsimp only; rcases winB_k hwc with hk | hk | hk <;> simp_all <;> omega), hK.old⟩)
  · --
   go_upto_region 4 with (fail)
   refine wp_region_T [0, 0, 0, 1, 0, 0] hK ?_
   clear hK
   refine e0 ?_
   refine eV (.int .i64 ((a / 2 : Nat) : Int)) (fun w' => by go_simp; (try go_bits); exact ⟨congrArg (Value.int .i64) (by omega), rfl⟩) ?_
   refine e0 ?_
   refine eL m1 ?_
   refine eB ((((a / 2 : Nat) : Int)) == c.n) (fun b2 hb2 => ?_)
   refine e0 ?_
   refine sxEnd (fun W13 hK => ?_)
   go_wp2
   try go_ret
   show Q0 (.returned (.bool b2)) _
   exact (by obtain rfl := hQ0.out; exact ⟨congrArg (fun z => Ending.returned (.bool z)) (by have qb1 := hb1.out; (try simp at qb1); have qb2 := hb2.out; (try simp at qb2); unfold cmpB; rw [ex.out]; dsimp only; rcases winB_k hwc with hk | hk | hk <;> simp_all <;> omega), hK.old⟩)
set_option maxRecDepth 100000 in
theorem rarcs10_any (w : World) {v_t : Value} {t : TopD} (ht : TopV w v_t t) {c : CmpD} (hl : t.links.length ≤ 100000) (ht2 : topOk t = true) (hwc : winB t c = true) :
    Calls Tryz.prog 36 #[v_t, .agg #[.int .i64 c.k, .int .i64 c.n]] w fun e w' => ∃ x : Sl, e = .returned (.tuple #[.slice x.p x.l x.c, .int .i64 0]) ∧ SS w [rO intK 3 x.p x.l x.c (natI (selD (fun a => cmpB t c (a / 2)) (arcsD t)))] w' := by
  have ht_0 := ht
  obtain ⟨p_t, n_t, c_t, q_t, m_t, d_t, rfl, ht_1, ht_2⟩ := ht_0; have b_t : m_t ≤ 100000 := (by rw [ht_2.one0]; exact hl); have a_t : arcsD t ≤ 200000 := (by unfold arcsD; omega)
  have hK := SS.start w
  refine Calls.hide (fun Q0 hQ0 => ?_)
  go_enter Tryz.func36, Tryz.ntmps36
  go_upto_region 0 with (fail)
  refine wp_region_T [3, 3, 0, 0] hK ?_
  clear hK
  refine eA (.cells #[.int .i64 t.nodes, .slice p_t n_t c_t, .slice q_t m_t d_t] 25) (fun R1 => ?_)
  refine eA (.cells #[.int .i64 c.k, .int .i64 c.n] 44) (fun R2 => ?_)
  iterate 2 refine e0 ?_
  refine sxEnd (fun W3 hK => ?_)
  go_upto_region 1 with (fail)
  refine wp_region_T [1, 1, 1, 0] hK ?_
  clear hK
  refine eL m1 ?_
  refine eL m0 ?_
  refine eQ (fun w k => rwinT_any w (ht.below k.old) (c := c) hl ht2 hwc) ?_
  refine e0 ?_
  refine sxEnd (fun W4 hK => ?_)
  replace hK := hK.fact (rO intK 3 none 0 0 (natI (selD (fun a => cmpB t c (a / 2)) 0))) OwV.nil (fun _ h => by cases h)
  go_wp2_with fail
  go_loopw [7, 6] (fun s7 s6 wl => ∃ (j : Nat) (p : Option Addr) (n_ : Nat) (c_ : Nat), s7 = .int .i64 (j : Int) ∧ s6 = .slice p n_ c_ ∧ (j ≤ arcsD t) ∧ SS w ([rO intK 3 p n_ c_ (natI (selD (fun a => cmpB t c (a / 2)) j)), bx R2 (.cells #[.int .i64 c.k, .int .i64 c.n] 44), bx R1 (.cells #[.int .i64 t.nodes, .slice p_t n_t c_t, .slice q_t m_t d_t] 25)]) wl) (fun s7 s6 _ => arcsD t - (intOf s7).toNat)
  case atStart => exact ⟨0, none, 0, 0, rfl, rfl, (by omega), hK⟩
  case round =>
   clear hK
   obtain ⟨j, p, n_, c_, rfl, rfl, hj0, hK⟩ := hrel
   generalize wr = W5 at hK ⊢
   go_upto_region 5 with (fail)
   refine wp_region_T [0, 0, 1, 0, 0, 0] hK ?_
   clear hK
   iterate 2 refine e0 ?_
   refine eL m2 ?_
   refine e0 ?_
   refine eV (.int .i64 ((arcsD t : Nat) : Int)) (fun w' => by go_simp; (try go_bits); exact ⟨congrArg (Value.int .i64) (by have := ht_2.one0; unfold arcsD; first | omega | (unfold wrap64; omega)), rfl⟩) ?_
   refine eB (decide (((j : Int)) < (((arcsD t : Nat) : Int)))) (fun b1 hb1 => ?_)
   refine sxEnd (fun W6 hK => ?_)
   cases b1
   · --
    have q_b1 : (((arcsD t : Nat) : Int)) ≤ ((j : Int)) := Int.not_lt.1 (of_decide_eq_false hb1.out)
    obtain rfl : j = arcsD t := (by omega)
    replace hK := hK.subl (sK2 (sC2 (sC2 sZ2)))
    go_wp2
    try go_ret
    show Q0 (.returned (.tuple #[.slice p n_ c_, .int .i64 0])) _
    exact (by obtain rfl := hQ0.out; exact ⟨⟨p, n_, c_⟩, rfl, hK⟩)
   · --
    have q_b1 : ((j : Int)) < (((arcsD t : Nat) : Int)) := of_decide_eq_true hb1.out
    have ha : j < arcsD t := by omega
    go_upto_region 7 with (fail)
    refine wp_region_T [1, 1, 0, 1] hK ?_
    clear hK
    refine eL m2 ?_
    refine eL m1 ?_
    refine e0 ?_
    obtain ⟨b2, hb2⟩ : ∃ z9 : Bool, RowKit.Hid (cmpB t c (j / 2) = z9) := ⟨_, hid rfl⟩
    refine eQ (v := .bool b2) (fun w k => rof_any w (ht.below k.old) (c := c) j hl ht2 hwc (by omega)) ?_ (hv := by rw [hb2.out])
    refine sxEnd (fun W7 hK => ?_)
    cases b2
    · --
     rw [show natI (selD (fun a => cmpB t c (a / 2)) j) = natI (selD (fun a => cmpB t c (a / 2)) (j + 1)) from (by rw [sel_no (f := fun a => cmpB t c (a / 2)) hb2.out])] at hK
     (try go_wp2)
     go_roundw
     case rel => exact ⟨j + 1, p, n_, c_, (by first | rfl | go_num), (by first | rfl | go_num), (by omega), hK⟩
     case measure => simp [intOf] <;> omega
    · --
     go_upto_region 8 with (fail)
     refine wp_region_T [0, 0, 3, 5, 0] hK ?_
     clear hK
     iterate 2 refine e0 ?_
     refine eA (.cells #[.int .i64 (j : Int)] 3) (fun R8 => ?_)
     refine eApp 1 intK_free rfl infoZ (fun w k => k.one1 (K := intK) (x := (j : Int)) m0 rfl) (by have := sel_len (fun a => cmpB t c (a / 2)) j; rw [natI_len]; simp; omega) (fun x9 => ?_)
     obtain ⟨p9, n9, c9⟩ := x9; dsimp only
     refine e0 ?_
     refine sxEnd (fun W10 hK => ?_)
     rw [show (natI (selD (fun a => cmpB t c (a / 2)) j)) ++ [(j : Int)] = natI (selD (fun a => cmpB t c (a / 2)) (j + 1)) from (by rw [natI_snoc, sel_yes (f := fun a => cmpB t c (a / 2)) hb2.out])] at hK
     (try go_wp2)
     go_roundw
     case rel => exact ⟨j + 1, p9, n9, c9, (by first | rfl | go_num), (by first | rfl | go_num), (by omega), (hK.subl (sC2 (List.Sublist.refl _)))⟩
     case measure => simp [intOf] <;> omega
set_option maxRecDepth 100000 in
set_option maxHeartbeats 2000000 in
theorem runion_any (w : World) {v_t : Value} {t : TopD} (ht : TopV w v_t t) {c : CmpD} {Rl : Nat} (hC : Has 0 Rl (.cells #[.int .i64 c.k, .int .i64 c.n] 44) w) (hl : t.links.length ≤ 100000) (ht2 : topOk t = true) (hwc : winB t c = true) :
    Calls Tryz.prog 54 #[v_t, .slice (some ⟨Rl, 0, none⟩) 1 1] w fun e w' => ∃ x : Sl, e = .returned (.tuple #[.slice x.p x.l x.c, .int .i64 0]) ∧ SS w [rO boolK 4 x.p x.l x.c (mskD t c)] w' := by
  have ht_0 := ht
  obtain ⟨p_t, n_t, c_t, q_t, m_t, d_t, rfl, ht_1, ht_2⟩ := ht_0; have b_t : m_t ≤ 100000 := (by rw [ht_2.one0]; exact hl); have a_t : arcsD t ≤ 200000 := (by unfold arcsD; omega)
  have hK := SS.start w
  have hlk := hid (show arcsD t = 2 * t.links.length from rfl); have hlk1 := Nat.le_of_eq hlk.out; have hlk2 := Nat.le_of_eq hlk.out.symm
  refine Calls.hide (fun Q0 hQ0 => ?_)
  go_enter Tryz.func54, Tryz.ntmps54
  go_upto_region 0 with (fail)
  refine wp_region_T [3, 0, 0] hK ?_
  clear hK
  refine eA (.cells #[.int .i64 t.nodes, .slice p_t n_t c_t, .slice q_t m_t d_t] 25) (fun R1 => ?_)
  iterate 2 refine e0 ?_
  refine sxEnd (fun W2 hK => ?_)
  go_upto_region 1 with (fail)
  refine wp_region_T [1, 1, 0] hK ?_
  clear hK
  refine eL m0 ?_
  refine eQ (fun w k => rvalidT_any w (ht.below k.old) hl ht2) ?_
  refine e0 ?_
  refine sxEnd (fun W3 hK => ?_)
  go_upto_region 3 with (fail)
  refine wp_region_T [0, 1, 0, 0, 3, 0] hK ?_
  clear hK
  refine e0 ?_
  refine eL m0 ?_
  refine e0 ?_
  refine eV (.int .i64 ((arcsD t : Nat) : Int)) (fun w' => by go_simp; (try go_bits); exact ⟨congrArg (Value.int .i64) (by have := ht_2.one0; unfold arcsD; first | omega | (unfold wrap64; omega)), rfl⟩) ?_
  refine eMk (K := boolK) (t := 4) (x := false) (arcsD t) (fun _ => rfl) rfl infoT (by show arcsD t * 1 ≤ 16777216; omega) (by decide) (fun g4 => ?_)
  refine e0 ?_
  refine sxEnd (fun W5 hK => ?_)
  replace hK := hK.made (K := boolK) (n := (arcsD t)) (fun _ => rfl) (by simp [maxLen]; omega)
  go_wp2_with fail
  refine wp_loop_rounds 2 ?_
  simp only [Code.rounds]
  go_upto_region 5 with (fail)
  refine wp_region_T [0, 0, 0, 0] hK ?_
  clear hK
  iterate 3 refine e0 ?_
  refine eV (.bool true) (fun w' => by go_simp; (try go_bits); exact ⟨rfl, rfl⟩) ?_
  refine sxEnd (fun W6 hK => ?_)
  go_upto_region 7 with (fail)
  refine wp_region_S _ [0, 0, 0, 0, 0, 1, 0] hK ?_ (List.Sublist.refl _)
  clear hK
  refine eL0 m1 ?_
  iterate 3 refine e0 ?_
  refine eX0 (fun w k => hC.below k.old) ?_
  refine eQ (fun w k => rwinT_any w (ht.below k.old) (c := c) hl ht2 hwc) ?_
  refine e0 ?_
  refine sxEnd (fun W7 hK => ?_)
  rw [show List.replicate (arcsD t) false = (mskJ t c 0) from mskJ_0.symm] at hK
  go_wp2_with fail
  go_loopw [8] (fun s8 wl => ∃ (j : Nat), s8 = .int .i64 (j : Int) ∧ (j ≤ arcsD t) ∧ SS w ([rO boolK 4 (some ⟨g4, 0, none⟩) (arcsD t) (arcsD t) (mskJ t c j), bx R1 (.cells #[.int .i64 t.nodes, .slice p_t n_t c_t, .slice q_t m_t d_t] 25)]) wl) (fun s8 _ => arcsD t - (intOf s8).toNat)
  case atStart => exact ⟨0, rfl, (by omega), hK⟩
  case round =>
   clear hK
   obtain ⟨j, rfl, hj0, hK⟩ := hrel
   generalize wr = W8 at hK ⊢
   go_upto_region 10 with (fail)
   refine wp_region_T [0, 0, 0, 0] hK ?_
   clear hK
   iterate 3 refine e0 ?_
   refine eB (decide (((j : Int)) < (((arcsD t) : Int)))) (fun b1 hb1 => ?_)
   refine sxEnd (fun W9 hK => ?_)
   cases b1
   · --
    have q_b1 : (((arcsD t) : Int)) ≤ ((j : Int)) := Int.not_lt.1 (of_decide_eq_false hb1.out)
    go_upto_region 6 with (fail)
    refine wp_region_T [0, 0, 0] hK ?_
    clear hK
    refine e0 ?_
    refine eV (.int .i64 1) (fun w' => by go_simp; (try go_bits); exact ⟨rfl, rfl⟩) ?_
    refine e0 ?_
    refine sxEnd (fun W10 hK => ?_)
    go_upto_region 5 with (fail)
    refine wp_region_T [0, 0, 0, 0] hK ?_
    clear hK
    iterate 3 refine e0 ?_
    refine eV (.bool false) (fun w' => by go_simp; (try go_bits); exact ⟨rfl, rfl⟩) ?_
    refine sxEnd (fun W11 hK => ?_)
    have hje : j = arcsD t := (by omega); rw [hje, mskJ_all] at hK
    replace hK := hK.subl (sK2 (sC2 sZ2))
    go_wp2
    try go_ret
    show Q0 (.returned (.tuple #[.slice (some ⟨g4, 0, none⟩) (arcsD t) (arcsD t), .int .i64 0])) _
    exact (by obtain rfl := hQ0.out; exact ⟨⟨(some ⟨g4, 0, none⟩), arcsD t, arcsD t⟩, rfl, hK⟩)
   · --
    have q_b1 : ((j : Int)) < (((arcsD t) : Int)) := of_decide_eq_true hb1.out
    go_upto_region 12 with (fail)
    refine wp_region_S _ [0, 0, 0, 0, 0, 0, 1] hK ?_ (List.Sublist.refl _)
    clear hK
    refine eL0 m1 ?_
    iterate 3 refine e0 ?_
    refine eX0 (fun w k => hC.below k.old) ?_
    refine e0 ?_
    obtain ⟨b2, hb2⟩ : ∃ z9 : Bool, RowKit.Hid (cmpB t c (j / 2) = z9) := ⟨_, hid rfl⟩
    refine eQ (v := .bool b2) (fun w k => rof_any w (ht.below k.old) (c := c) j hl ht2 hwc (by omega)) ?_ (hv := by rw [hb2.out])
    refine sxEnd (fun W12 hK => ?_)
    cases b2
    · --
     rw [show (mskJ t c j) = (mskJ t c (j + 1)) from (mskJ_no hb2.out)] at hK
     (try go_wp2)
     go_roundw
     case rel => exact ⟨j + 1, (by first | rfl | go_num), (by omega), hK⟩
     case measure => simp [intOf] <;> omega
    · --
     have i13 : j < (arcsD t) := (by have q := hK.len m0; rw [mskJ_len] at q; omega)
     have l13 : j < (mskJ t c j).length := Nat.lt_of_lt_of_eq i13 (hK.len m0)
     obtain ⟨xz, exz⟩ : ∃ z0, RowKit.Hid ((mskJ t c j)[j]? = some z0) := ⟨_, hid (List.getElem?_eq_getElem l13)⟩
     go_upto_region 13 with (fail)
     refine wp_region_T [0, 0, 0, 4] hK ?_
     clear hK
     iterate 3 refine e0 ?_
     refine eWB (y := true) 0 l13 ?_ (hi := rfl)
     refine sxEnd (fun W14 hK => ?_)
     rw [show (mskJ t c j).set j true = (mskJ t c (j + 1)) from (mskJ_yes (by omega) hb2.out)] at hK
     (try go_wp2)
     go_roundw
     case rel => exact ⟨j + 1, (by first | rfl | go_num), (by omega), hK⟩
     case measure => simp [intOf] <;> omega
set_option maxRecDepth 100000 in
theorem rmask_any (w : World) {v_t : Value} {t : TopD} (ht : TopV w v_t t) {c : CmpD} (hl : t.links.length ≤ 100000) (ht2 : topOk t = true) (hwc : winB t c = true) :
    Calls Tryz.prog 17 #[v_t, .agg #[.int .i64 c.k, .int .i64 c.n]] w fun e w' => ∃ x : Sl, e = .returned (.tuple #[.slice x.p x.l x.c, .int .i64 0]) ∧ SS w [rO boolK 4 x.p x.l x.c (mskD t c)] w' := by
  have ht_0 := ht
  obtain ⟨p_t, n_t, c_t, q_t, m_t, d_t, rfl, ht_1, ht_2⟩ := ht_0; have b_t : m_t ≤ 100000 := (by rw [ht_2.one0]; exact hl); have a_t : arcsD t ≤ 200000 := (by unfold arcsD; omega)
  have hK := SS.start w
  refine Calls.hide (fun Q0 hQ0 => ?_)
  go_enter Tryz.func17, Tryz.ntmps17
  go_upto_region 0 with (fail)
  refine wp_region_T [3, 3, 0, 0] hK ?_
  clear hK
  refine eA (.cells #[.int .i64 t.nodes, .slice p_t n_t c_t, .slice q_t m_t d_t] 25) (fun R1 => ?_)
  refine eA (.cells #[.int .i64 c.k, .int .i64 c.n] 44) (fun R2 => ?_)
  iterate 2 refine e0 ?_
  refine sxEnd (fun W3 hK => ?_)
  go_upto_region 1 with (fail)
  refine wp_region_T [1, 3, 0] hK ?_
  clear hK
  refine eL m0 ?_
  refine eA (.cells #[.int .i64 c.k, .int .i64 c.n] 44) (fun R4 => ?_)
  refine e0 ?_
  refine sxEnd (fun W5 hK => ?_)
  go_upto_region 2 with (fail)
  refine wp_region_T [1, 0, 2, 0, 0, 0, 0] hK ?_
  clear hK
  refine eL m2 ?_
  refine e0 ?_
  refine eC (fun w k => runion_any w (ht.below k.old) (c := c) (k.box m0) hl ht2 hwc) (fun x6 => ?_)
  obtain ⟨p7, n7, c7⟩ := x6; dsimp only
  iterate 4 refine e0 ?_
  refine sxEnd (fun W8 hK => ?_)
  replace hK := hK.subl (sK2 (sC2 (sC2 (sC2 sZ2))))
  go_wp2
  try go_ret
  show Q0 (.returned (.tuple #[.slice p7 n7 c7, .int .i64 0])) _
  exact (by obtain rfl := hQ0.out; exact ⟨⟨p7, n7, c7⟩, rfl, hK⟩)
set_option maxRecDepth 100000 in
set_option maxHeartbeats 2000000 in
theorem all_any (w : World) {v_t : Value} {t : TopD} (ht : TopV w v_t t) (hl : t.links.length ≤ 100000) (ht2 : topOk t = true) :
    Calls Tryz.prog 13 #[v_t] w fun e w' => ∃ x : Sl × List CmpD, e = .returned (.slice x.1.p x.1.l x.1.c) ∧ SS w [rO cmpK 44 x.1.p x.1.l x.1.c x.2, cF (1 ≤ x.2.length ∧ x.2.length ≤ 1000 ∧ ∀ c ∈ x.2, winB t c = true)] w' := by
  have ht_0 := ht
  obtain ⟨p_t, n_t, c_t, q_t, m_t, d_t, rfl, ht_1, ht_2⟩ := ht_0; have b_t : m_t ≤ 100000 := (by rw [ht_2.one0]; exact hl); have a_t : arcsD t ≤ 200000 := (by unfold arcsD; omega)
  have hK := SS.start w
  have hnt := hid (topN ht2).1; have hnt1 : t.nodes ≤ (nN t : Int) := Int.le_of_eq hnt.out; have hnt2 : (nN t : Int) ≤ t.nodes := Int.le_of_eq hnt.out.symm; have hnm := (topN ht2).2.2.1; have hnq := (topN ht2).2.1; have hlq := (topN ht2).2.2.2.2; have hmt1 := Nat.le_of_eq ht_2.one0
  refine Calls.hide (fun Q0 hQ0 => ?_)
  go_enter Tryz.func13, Tryz.ntmps13
  go_upto_region 0 with (fail)
  refine wp_region_T [3, 0] hK ?_
  clear hK
  refine eA (.cells #[.int .i64 t.nodes, .slice p_t n_t c_t, .slice q_t m_t d_t] 25) (fun R1 => ?_)
  refine e0 ?_
  refine sxEnd (fun W2 hK => ?_)
  go_upto_region 2 with (fail)
  refine wp_region_T [1, 1, 0] hK ?_
  clear hK
  refine eL m0 ?_
  refine eQ (fun w k => rvalidT_any w (ht.below k.old) hl ht2) ?_
  refine e0 ?_
  refine sxEnd (fun W3 hK => ?_)
  replace hK := hK.fact (rO cmpK 44 none 0 0 ([] : List CmpD)) OwV.nil (fun _ h => by cases h)
  go_wp2_with fail
  go_loopw [4, 3] (fun s4 s3 wl => ∃ (kx : Nat) (p : Option Addr) (n_ : Nat) (c_ : Nat) (xs : List CmpD), s4 = .int .i64 (kx : Int) ∧ s3 = .slice p n_ c_ ∧ (kx ≤ m_t) ∧ RowKit.Hid (xs.length = kx) ∧ RowKit.Hid (∀ c ∈ xs, winB t c = true) ∧ SS w ([rO cmpK 44 p n_ c_ xs, bx R1 (.cells #[.int .i64 t.nodes, .slice p_t n_t c_t, .slice q_t m_t d_t] 25)]) wl) (fun s4 s3 _ => m_t - (intOf s4).toNat)
  case atStart => exact ⟨0, none, 0, 0, ([] : List CmpD), rfl, rfl, (by omega), hid (by have q := (rfl : ([] : List CmpD).length = 0); simp), hid (fun _ h => by cases h), hK⟩
  case round =>
   clear hK
   obtain ⟨kx, p, n_, c_, xs, rfl, rfl, hk0, h_x, h_w, hK⟩ := hrel
   generalize wr = W4 at hK ⊢
   go_upto_region 5 with (fail)
   refine wp_region_T [0, 0, 1, 0, 0] hK ?_
   clear hK
   iterate 2 refine e0 ?_
   refine eL m1 ?_
   refine e0 ?_
   refine eB (decide (((kx : Int)) < ((m_t : Int)))) (fun b1 hb1 => ?_)
   refine sxEnd (fun W5 hK => ?_)
   cases b1
   · --
    have q_b1 : ((m_t : Int)) ≤ ((kx : Int)) := Int.not_lt.1 (of_decide_eq_false hb1.out)
    go_wp2_with fail
    go_loopw [5, 3] (fun s5 s3 wl => ∃ (kx : Nat) (p : Option Addr) (n_ : Nat) (c_ : Nat) (xs : List CmpD), s5 = .int .i64 (kx : Int) ∧ s3 = .slice p n_ c_ ∧ (kx ≤ nN t) ∧ RowKit.Hid (xs.length = m_t + kx) ∧ RowKit.Hid (∀ c ∈ xs, winB t c = true) ∧ SS w ([rO cmpK 44 p n_ c_ xs, bx R1 (.cells #[.int .i64 t.nodes, .slice p_t n_t c_t, .slice q_t m_t d_t] 25)]) wl) (fun s5 s3 _ => nN t - (intOf s5).toNat)
    case atStart => exact ⟨0, p, n_, c_, xs, rfl, rfl, (by omega), hid (by have q := h_x.out; omega), hid h_w.out, hK⟩
    case round =>
     clear hK
     obtain ⟨kx, p, n_, c_, xs, rfl, rfl, hk0, h_x, h_w, hK⟩ := hrel
     generalize wr = W6 at hK ⊢
     go_upto_region 9 with (fail)
     refine wp_region_T [0, 0, 1, 0] hK ?_
     clear hK
     iterate 2 refine e0 ?_
     refine eL m1 ?_
     refine eB (decide (((kx : Int)) < t.nodes)) (fun b2 hb2 => ?_)
     refine sxEnd (fun W7 hK => ?_)
     cases b2
     · --
      have q_b2 : t.nodes ≤ ((kx : Int)) := Int.not_lt.1 (of_decide_eq_false hb2.out)
      go_wp2_with fail
      go_loopw [6, 3] (fun s6 s3 wl => ∃ (kx : Nat) (p : Option Addr) (n_ : Nat) (c_ : Nat) (xs : List CmpD), s6 = .int .i64 (kx : Int) ∧ s3 = .slice p n_ c_ ∧ (kx ≤ 65) ∧ RowKit.Hid (xs.length ≤ 600 + kx ∧ 1 ≤ xs.length ∧ 1 ≤ kx) ∧ RowKit.Hid (∀ c ∈ xs, winB t c = true) ∧ SS w ([rO cmpK 44 p n_ c_ xs, bx R1 (.cells #[.int .i64 t.nodes, .slice p_t n_t c_t, .slice q_t m_t d_t] 25)]) wl) (fun s6 s3 _ => 65 - (intOf s6).toNat)
      case atStart => exact ⟨1, p, n_, c_, xs, rfl, rfl, (by omega), hid (by have q := h_x.out; omega), hid h_w.out, hK⟩
      case round =>
       clear hK
       obtain ⟨kx, p, n_, c_, xs, rfl, rfl, hk0, h_x, h_w, hK⟩ := hrel
       generalize wr = W8 at hK ⊢
       go_upto_region 13 with (fail)
       refine wp_region_T [0, 0] hK ?_
       clear hK
       refine e0 ?_
       refine eB (decide (((kx : Int)) ≤ 64)) (fun b3 hb3 => ?_)
       refine sxEnd (fun W9 hK => ?_)
       cases b3
       · --
        have q_b3 : 64 < ((kx : Int)) := Int.not_le.1 (of_decide_eq_false hb3.out)
        have hx9 : 1 ≤ xs.length ∧ xs.length ≤ 1000 ∧ ∀ c ∈ xs, winB t c = true := ⟨by have q := h_x.out; omega, by have q := h_x.out; omega, h_w.out⟩; replace hK := (hK.fact (cF _) hx9)
        replace hK := hK.subl (sK2 (sK2 (sC2 sZ2)))
        replace hK := hK.up1
        go_wp2
        try go_ret
        show Q0 (.returned (.slice p n_ c_)) _
        exact (by obtain rfl := hQ0.out; exact ⟨(⟨p, n_, c_⟩, xs), rfl, hK⟩)
       · --
        have q_b3 : ((kx : Int)) ≤ 64 := of_decide_eq_true hb3.out
        go_upto_region 15 with (fail)
        refine wp_region_T [0, 0, 3, 4] hK ?_
        clear hK
        iterate 2 refine e0 ?_
        refine eA (.cells #[.int .i64 0, .int .i64 0] 44) (fun R10 => ?_)
        refine eP 0 0 [.int .i64 3, .int .i64 (kx : Int)] ?_
        refine sxEnd (fun W11 hK => ?_)
        go_upto_region 16 with (fail)
        refine wp_region_T [1, 1, 2, 0, 0, 0, 0, 0] hK ?_
        clear hK
        refine eL m2 ?_
        refine eL m0 ?_
        refine eC (fun w k => rarcs10_any w (ht.below k.old) (c := ⟨3, (kx : Int)⟩) hl ht2 (win3 (by have q := h_x.out; omega) (by omega))) (fun x12 => ?_)
        obtain ⟨p13, n13, c13⟩ := x12; dsimp only
        iterate 5 refine e0 ?_
        refine sxEnd (fun W14 hK => ?_)
        go_upto_region 17 with (fail)
        refine wp_region_T [0, 0, 0] hK ?_
        clear hK
        iterate 2 refine e0 ?_
        refine eB (decide (0 < ((n13 : Int)))) (fun b4 hb4 => ?_)
        refine sxEnd (fun W15 hK => ?_)
        cases b4
        · --
         have q_b4 : ((n13 : Int)) ≤ 0 := Int.not_lt.1 (of_decide_eq_false hb4.out)
         (try go_wp2)
         go_roundw
         case rel => exact ⟨kx + 1, p, n_, c_, xs, (by first | rfl | go_num), (by first | rfl | go_num), (by omega), hid (by have q := h_x.out; omega), hid h_w.out, (hK.subl (sC2 (sC2 (List.Sublist.refl _))))⟩
         case measure => simp [intOf] <;> omega
        · --
         have q_b4 : 0 < ((n13 : Int)) := of_decide_eq_true hb4.out
         go_upto_region 18 with (fail)
         refine wp_region_T [0, 1, 3, 5, 0] hK ?_
         clear hK
         refine e0 ?_
         refine eL m1 ?_
         refine eA (.cells #[.int .i64 3, .int .i64 (kx : Int)] 44) (fun R16 => ?_)
         refine eApp 3 cmpK_free rfl infoCmp (fun w k => k.one1 (K := cmpK) (x := (⟨3, (kx : Int)⟩ : CmpD)) m0 rfl) (by have q := h_x.out; simp; omega) (fun x17 => ?_)
         obtain ⟨p17, n17, c17⟩ := x17; dsimp only
         refine e0 ?_
         refine sxEnd (fun W18 hK => ?_)
         (try go_wp2)
         go_roundw
         case rel => exact ⟨kx + 1, p17, n17, c17, xs ++ [(⟨3, (kx : Int)⟩ : CmpD)], (by first | rfl | go_num), (by first | rfl | go_num), (by omega), hid (by have q := h_x.out; rw [List.length_append, List.length_singleton]; omega), hid (all_snoc h_w.out (win3 (by have q := h_x.out; omega) (by omega))), (hK.subl (sC2 (sC2 (sC2 (List.Sublist.refl _)))))⟩
         case measure => simp [intOf] <;> omega
     · --
      have q_b2 : ((kx : Int)) < t.nodes := of_decide_eq_true hb2.out
      go_upto_region 11 with (fail)
      refine wp_region_T [0, 0, 0, 3, 5, 0] hK ?_
      clear hK
      iterate 3 refine e0 ?_
      refine eA (.cells #[.int .i64 2, .int .i64 (kx : Int)] 44) (fun R19 => ?_)
      refine eApp 1 cmpK_free rfl infoCmp (fun w k => k.one1 (K := cmpK) (x := (⟨2, (kx : Int)⟩ : CmpD)) m0 rfl) (by have q := h_x.out; simp; omega) (fun x20 => ?_)
      obtain ⟨p20, n20, c20⟩ := x20; dsimp only
      refine e0 ?_
      refine sxEnd (fun W21 hK => ?_)
      (try go_wp2)
      go_roundw
      case rel => exact ⟨kx + 1, p20, n20, c20, xs ++ [(⟨2, (kx : Int)⟩ : CmpD)], (by first | rfl | go_num), (by first | rfl | go_num), (by omega), hid (by have q := h_x.out; rw [List.length_append, List.length_singleton]; omega), hid (all_snoc h_w.out (win2 (by omega))), (hK.subl (sC2 (List.Sublist.refl _)))⟩
      case measure => simp [intOf] <;> omega
   · --
    have q_b1 : ((kx : Int)) < ((m_t : Int)) := of_decide_eq_true hb1.out
    go_upto_region 7 with (fail)
    refine wp_region_T [0, 0, 0, 3, 5, 0] hK ?_
    clear hK
    iterate 3 refine e0 ?_
    refine eA (.cells #[.int .i64 1, .int .i64 (kx : Int)] 44) (fun R22 => ?_)
    refine eApp 1 cmpK_free rfl infoCmp (fun w k => k.one1 (K := cmpK) (x := (⟨1, (kx : Int)⟩ : CmpD)) m0 rfl) (by have q := h_x.out; simp; omega) (fun x23 => ?_)
    obtain ⟨p23, n23, c23⟩ := x23; dsimp only
    refine e0 ?_
    refine sxEnd (fun W24 hK => ?_)
    (try go_wp2)
    go_roundw
    case rel => exact ⟨kx + 1, p23, n23, c23, xs ++ [(⟨1, (kx : Int)⟩ : CmpD)], (by first | rfl | go_num), (by first | rfl | go_num), (by omega), hid (by have q := h_x.out; rw [List.length_append, List.length_singleton]; omega), hid (all_snoc h_w.out (win1 (by have q := ht_2.one0; omega))), (hK.subl (sC2 (List.Sublist.refl _)))⟩
    case measure => simp [intOf] <;> omega
set_option maxRecDepth 100000 in
set_option maxHeartbeats 2000000 in
theorem rroutes_any (w : World) {v_t : Value} {t : TopD} (ht : TopV w v_t t) {p_d : Option Addr} {n_d c_d : Nat} {down : List Bool} (hd : SlV boolK w (.slice p_d n_d c_d) down) (n1 : Nat) (hl : t.links.length ≤ 100000) (ht2 : topOk t = true) (hdl : RowKit.Hid (down.length = 0 ∨ down.length = arcsD t)) (hn1 : n1 < nN t) :
    Calls Tryz.prog 21 #[v_t, .slice p_d n_d c_d, .int .i64 (n1 : Int)] w fun e w' => ∃ z : TbS, e = .returned (.tuple #[z.v (rtD t down n1), .int .i64 0]) ∧ SS w [tbF z (rtD t down n1)] w' := by
  have ht_0 := ht
  obtain ⟨p_t, n_t, c_t, q_t, m_t, d_t, rfl, ht_1, ht_2⟩ := ht_0; have b_t : m_t ≤ 100000 := (by rw [ht_2.one0]; exact hl); have a_t : arcsD t ≤ 200000 := (by unfold arcsD; omega)
  have hK := SS.start w
  have hnt := hid (topN ht2).1; have hnt1 : t.nodes ≤ (nN t : Int) := Int.le_of_eq hnt.out; have hnt2 : (nN t : Int) ≤ t.nodes := Int.le_of_eq hnt.out.symm; have hnm := (topN ht2).2.2.1; have hfit : fitsD t down = true := (by unfold fitsD; rw [ht2, decide_eq_true (show down.length = 0 ∨ down.length = 2 * t.links.length from hdl.out)]; rfl)
  refine Calls.hide (fun Q0 hQ0 => ?_)
  go_enter Tryz.func21, Tryz.ntmps21
  go_upto_region 0 with (fail)
  refine wp_region_T [3, 3, 0] hK ?_
  clear hK
  refine eA (.cells #[.int .i64 t.nodes, .slice p_t n_t c_t, .slice q_t m_t d_t] 25) (fun R1 => ?_)
  refine eA (.cells #[.int .i64 0, .slice none 0 0, .slice none 0 0] 62) (fun R2 => ?_)
  refine e0 ?_
  refine sxEnd (fun W3 hK => ?_)
  go_upto_region 1 with (fail)
  refine wp_region_T [1, 0, 1, 0] hK ?_
  clear hK
  refine eL m1 ?_
  refine e0 ?_
  refine eQ (fun w k => (rfits_any w (ht.below k.old) (hd.below k.old) hl).mono fun _ _ q => by rw [hfit] at q; exact q) ?_
  refine e0 ?_
  refine sxEnd (fun W4 hK => ?_)
  go_upto_region 3 with (fail)
  refine wp_region_T [0, 0, 0, 0, 0, 1, 0, 0] hK ?_
  clear hK
  refine e0 ?_
  refine eV (.bool false) (fun w' => by go_simp; (try go_bits); first | exact ⟨rfl, rfl⟩ | exact ⟨congrArg Value.bool (decide_eq_false (by omega)), rfl⟩) ?_
  iterate 3 refine e0 ?_
  refine eL m1 ?_
  refine eV (.bool false) (fun w' => by go_simp; (try go_bits); first | exact ⟨rfl, rfl⟩ | exact ⟨congrArg Value.bool (decide_eq_false (by omega)), rfl⟩) ?_
  refine e0 ?_
  refine sxEnd (fun W5 hK => ?_)
  go_upto_region 5 with (fail)
  refine wp_region_T [0, 0, 3, 4] hK ?_
  clear hK
  iterate 2 refine e0 ?_
  refine eA (.cells #[.int .i64 0, .slice none 0 0, .slice none 0 0] 62) (fun R6 => ?_)
  refine eP 0 0 [.int .i64 (n1 : Int), .slice none 0 0, .slice none 0 0] ?_
  refine sxEnd (fun W7 hK => ?_)
  replace hK := hK.fact (rO entK 66 none 0 0 (([] : List Sl).map entA)) OwV.nil (fun _ h => by cases h)
  replace hK := hK.rs0 intK 3
  go_wp2_with fail
  go_loopw [9] (fun s9 wl => ∃ (dd : Nat) (pt : Option Addr) (nt : Nat) (ct : Nat) (ss : List Sl), s9 = .int .i64 (dd : Int) ∧ (dd ≤ nN t) ∧ RowKit.Hid (ss.length = dd) ∧ SS w ([rsF intK 3 ss ((List.range dd).map fun (d : Nat) => natI (nxtR t down (n1 : Int) (d : Int))), rO entK 66 pt nt ct (ss.map entA), bx R6 (.cells #[.int .i64 (n1 : Int), .slice pt nt ct, .slice none 0 0] 62), bx R2 (.cells #[.int .i64 0, .slice none 0 0, .slice none 0 0] 62), bx R1 (.cells #[.int .i64 t.nodes, .slice p_t n_t c_t, .slice q_t m_t d_t] 25)]) wl) (fun s9 _ => nN t - (intOf s9).toNat)
  case atStart => exact ⟨0, none, 0, 0, ([] : List Sl), rfl, (by omega), hid rfl, hK⟩
  case round =>
   clear hK
   obtain ⟨dd, pt, nt, ct, ss, rfl, hd0, h_l, hK⟩ := hrel
   generalize wr = W8 at hK ⊢
   go_upto_region 7 with (fail)
   refine wp_region_T [0, 0, 1, 0] hK ?_
   clear hK
   iterate 2 refine e0 ?_
   refine eL m4 ?_
   refine eB (decide (((dd : Int)) < t.nodes)) (fun b1 hb1 => ?_)
   refine sxEnd (fun W9 hK => ?_)
   cases b1
   · --
    have q_b1 : t.nodes ≤ ((dd : Int)) := Int.not_lt.1 (of_decide_eq_false hb1.out)
    go_upto_region 11 with (fail)
    refine wp_region_T [1, 0, 2, 0] hK ?_
    clear hK
    refine eL m4 ?_
    refine e0 ?_
    refine eC (fun w k => rout_any w (ht.below k.old) n1 hl ht2) (fun x10 => ?_)
    obtain ⟨p11, n11, c11⟩ := x10; dsimp only
    refine e0 ?_
    refine sxEnd (fun W12 hK => ?_)
    have hol := hid ((hK.len m0).trans (natI_len _)); have hol1 := Nat.le_of_eq hol.out; have hol2 := Nat.le_of_eq hol.out.symm; have hob := out_lenW t n1; have hlk := (topN ht2).2.2.2.2
    replace hK := hK.fact (rO intK 3 none 0 0 (natI (dwnL t down n1 0))) OwV.nil (fun _ h => by cases h)
    go_wp2_with fail
    go_loopw [13] (fun s13 wl => ∃ (kx : Nat) (pd : Option Addr) (nd : Nat) (cd : Nat), s13 = .int .i64 (kx : Int) ∧ (kx ≤ n11) ∧ SS w ([rO intK 3 pd nd cd (natI (dwnL t down n1 kx)), rO intK 3 p11 n11 c11 (natI (outD t n1)), rsF intK 3 ss ((List.range dd).map fun (d : Nat) => natI (nxtR t down (n1 : Int) (d : Int))), rO entK 66 pt nt ct (ss.map entA), bx R6 (.cells #[.int .i64 (n1 : Int), .slice pt nt ct, .slice pd nd cd] 62), bx R2 (.cells #[.int .i64 0, .slice none 0 0, .slice none 0 0] 62), bx R1 (.cells #[.int .i64 t.nodes, .slice p_t n_t c_t, .slice q_t m_t d_t] 25)]) wl) (fun s13 _ => n11 - (intOf s13).toNat)
    case atStart => exact ⟨0, none, 0, 0, rfl, (by omega), hK⟩
    case round =>
     clear hK
     obtain ⟨kx, pd, nd, cd, rfl, hk0, hK⟩ := hrel
     generalize wr = W13 at hK ⊢
     go_upto_region 13 with (fail)
     refine wp_region_T [0, 0, 0, 0] hK ?_
     clear hK
     iterate 3 refine e0 ?_
     refine eB (decide (((kx : Int)) < ((n11 : Int)))) (fun b2 hb2 => ?_)
     refine sxEnd (fun W14 hK => ?_)
     cases b2
     · --
      have q_b2 : ((n11 : Int)) ≤ ((kx : Int)) := Int.not_lt.1 (of_decide_eq_false hb2.out)
      go_upto_region 17 with (fail)
      refine wp_region_T [1, 4, 0] hK ?_
      clear hK
      refine eL m4 ?_
      refine eP 5 0 [.int .i64 (n1 : Int), .slice pt nt ct, .slice pd nd cd] ?_ (hq := .inr ⟨rfl, rfl, rfl, rfl, rfl, rfl, trivial⟩)
      refine e0 ?_
      refine sxEnd (fun W15 hK => ?_)
      have ⟨c90, c91, c92⟩ := (hK.box m5).c3; have hde : dd = nN t := (by omega); have hke : kx = (outD t n1).length := (by have q := hol.out; omega); rw [hde, hke, dwn_all] at hK; rw [hde] at h_l; have hl9 := h_l.out
      replace hK := hK.subl (sK2 (sC2 (sK2 (sK2 (sC2 (sC2 (sC2 sZ2)))))))
      replace hK := hK.up1
      replace hK := hK.up2
      go_wp2
      exact bodyPost_ret (v := .tuple #[.agg #[.int .i64 (n1 : Int), .slice pt nt ct, .slice pd nd cd], .int .i64 0]) (by simp [results, Tryz.results21, go_sem, c90, c91, c92]) rfl (by obtain rfl := hQ0.out; exact ⟨⟨⟨pt, nt, ct⟩, ⟨pd, nd, cd⟩, ss.map entA⟩, rfl, hK.routes hl9⟩)
     · --
      have q_b2 : ((kx : Int)) < ((n11 : Int)) := of_decide_eq_true hb2.out
      have i16 : kx < n11 := (by omega)
      obtain ⟨g16, rfl⟩ := hK.pt m1 i16
      have l16 : kx < (natI (outD t n1)).length := Nat.lt_of_lt_of_eq i16 (hK.len m1)
      obtain ⟨xa, exa⟩ : ∃ z0, RowKit.Hid ((natI (outD t n1))[kx]? = some z0) := ⟨_, hid (List.getElem?_eq_getElem l16)⟩
      obtain ⟨a, ha1, rfl⟩ := natI_at exa.out; have ea1 := hid ha1; have haA := out_arc (List.mem_of_getElem? ha1); clear ha1
      go_upto_region 15 with (fail)
      refine wp_region_T [0, 0, 0, 0, 1, 1, 0] hK ?_
      clear hK
      iterate 4 refine e0 ?_
      refine eR (fun w k => (k.own m1).int exa.out) ?_
      obtain ⟨b3, hb3⟩ : ∃ z9 : Bool, RowKit.Hid (upD down a = z9) := ⟨_, hid rfl⟩
      refine eQ (v := .bool b3) (fun w k => rup_any w (hd.below k.old) a (by have q := hdl.out; omega)) ?_ (hv := by rw [hb3.out])
      refine e0 ?_
      refine sxEnd (fun W17 hK => ?_)
      cases b3
      · --
       go_upto_region 16 with (fail)
       refine wp_region_S _ [0, 1, 0, 0, 0, 0, 3, 5, 0, 4] hK ?_ (sC2 (sK2 (sK2 (sK2 (sC2 (List.Sublist.refl _))))))
       clear hK
       refine e0 ?_
       refine eL m4 ?_
       iterate 3 refine e0 ?_
       refine eR0 (fun w k => (k.own m0).int exa.out) ?_
       refine eA (.cells #[.int .i64 (a : Int)] 3) (fun R18 => ?_)
       refine eApp 1 intK_free rfl infoZ (fun w k => k.one1 (K := intK) (x := (a : Int)) m0 rfl) (by rw [natI_len]; have q := dwn_len (t := t) (down := down) (n := n1) (k := kx); have q2 : arcsD t = 2 * t.links.length := rfl; simp; omega) (fun x19 => ?_) (hs := fun _ => (sC2 (sC2 (sK2 (sK2 (sK2 (sC2 (List.Sublist.refl _))))))))
       obtain ⟨p19, n19, c19⟩ := x19; dsimp only
       refine e0 ?_
       refine eP 5 2 [.slice p19 n19 c19] ?_ (hs := (sC2 (sC2 (sK2 (sK2 (sK2 (sC2 (List.Sublist.refl _)))))))) (hq := .inr ⟨rfl, rfl, rfl, rfl, rfl, rfl, rfl, trivial⟩)
       refine sxEnd (fun W20 hK => ?_)
       rw [show (natI (dwnL t down n1 kx)) ++ [(a : Int)] = natI (dwnL t down n1 (kx + 1)) from (by rw [natI_snoc, dwn_no ea1.out (by rw [hb3.out]; rfl)])] at hK
       (try go_wp2)
       go_roundw
       case rel => exact ⟨kx + 1, p19, n19, c19, (by first | rfl | go_num), (by omega), (hK.subl (sC2 (List.Sublist.refl _)))⟩
       case measure => simp [intOf] <;> omega
      · --
       rw [show natI (dwnL t down n1 kx) = natI (dwnL t down n1 (kx + 1)) from (by rw [dwn_up ea1.out (by rw [hb3.out]; rfl)])] at hK
       (try go_wp2)
       go_roundw
       case rel => exact ⟨kx + 1, pd, nd, cd, (by first | rfl | go_num), (by omega), hK⟩
       case measure => simp [intOf] <;> omega
   · --
    have q_b1 : ((dd : Int)) < t.nodes := of_decide_eq_true hb1.out
    go_upto_region 9 with (fail)
    refine wp_region_T [1, 0, 0, 0, 2, 0, 0, 0, 0, 0] hK ?_
    clear hK
    refine eL m4 ?_
    iterate 3 refine e0 ?_
    refine eC (fun w k => rnextR_any w (ht.below k.old) (hd.below k.old) (n1 : Int) (dd : Int) hl) (fun x21 => ?_)
    obtain ⟨p22, n22, c22⟩ := x21; dsimp only
    iterate 5 refine e0 ?_
    refine sxEnd (fun W23 hK => ?_)
    go_upto_region 10 with (fail)
    refine wp_region_T [0, 1, 0, 0, 3, 5, 0, 4] hK ?_
    clear hK
    refine e0 ?_
    refine eL m3 ?_
    iterate 2 refine e0 ?_
    refine eA (.cells #[.slice p22 n22 c22, .bool false, .slice none 0 0] 66) (fun R24 => ?_)
    refine eApp 3 entK_free rfl infoEnt (fun w k => k.one1 (K := entK) (x := (⟨⟨p22, n22, c22⟩, false, ⟨none, 0, 0⟩⟩ : EntW)) m0 rfl) (by rw [List.length_map, h_l.out]; simp; omega) (fun x25 => ?_)
    obtain ⟨p25, n25, c25⟩ := x25; dsimp only
    refine e0 ?_
    refine eP 4 1 [.slice p25 n25 c25] ?_ (hq := .inr ⟨rfl, rfl, rfl, rfl, rfl, rfl, trivial⟩)
    refine sxEnd (fun W26 hK => ?_)
    rw [show (ss.map entA) ++ [(⟨⟨p22, n22, c22⟩, false, ⟨none, 0, 0⟩⟩ : EntW)] = (ss ++ [(⟨p22, n22, c22⟩ : Sl)]).map entA from (by rw [List.map_append]; rfl)] at hK
    replace hK := hK.up2
    replace hK := hK.up2
    replace hK := SS.rsN (s := ⟨p22, n22, c22⟩) (xs := natI (nxtR t down (n1 : Int) (dd : Int))) hK (by rw [h_l.out, List.length_map, List.length_range])
    rw [show ((List.range dd).map fun (d : Nat) => natI (nxtR t down (n1 : Int) (d : Int))) ++ [natI (nxtR t down (n1 : Int) (dd : Int))] = (List.range (dd + 1)).map fun (d : Nat) => natI (nxtR t down (n1 : Int) (d : Int)) from (by rw [List.range_succ, List.map_append]; rfl)] at hK
    (try go_wp2)
    go_roundw
    case rel => exact ⟨dd + 1, p25, n25, c25, (ss ++ [(⟨p22, n22, c22⟩ : Sl)]), (by first | rfl | go_num), (by omega), hid (by rw [List.length_append, h_l.out]; rfl), (hK.subl (sK2 (sC2 (List.Sublist.refl _))))⟩
    case measure => simp [intOf] <;> omega
end Go.Proofs.YtmcfomainmppdaaGreatDoor
