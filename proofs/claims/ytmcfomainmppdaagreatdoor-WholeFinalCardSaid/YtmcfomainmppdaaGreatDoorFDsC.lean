/- Topologies in memory: kinds of elements, what a topology's value says. The arcs of topologies, walked. The arcs of a node, of all nodes, walked. -/
import Derived.Test.YtmcfomainmppdaaGreatDoorFSd
import Derived.Test.YtmcfomainmppdaaGreatDoorFDagL
import Derived.Test.YtmcfomainmppdaaGreatDoorFDagI
namespace Go.Proofs.YtmcfomainmppdaaGreatDoor
open Go.RowKit
def boolK : EK Bool where
  sz := 1
  pos := by decide
  R := fun _ cs x => cs = [.bool x]
  len := fun e => by rw [e]; rfl
  one := fun e u hu => by
    subst e
    simp only [List.mem_cons, List.not_mem_nil, or_false] at hu
    subst hu; rfl
  below := fun e _ => e
theorem boolK_free : boolK.Free := fun _ _ _ _ h => h
instance : OwnK boolK := ⟨[], fun h _ _ _ _ _ _ => h, .inl boolK_free⟩
def lnkC (l : LnkD) : List Value := [.int .i64 l.a, .int .i64 l.b, .int .i64 l.c0, .int .i64 l.c1, .int .i64 l.cap, .int .i64 l.dly, .int .i64 l.grp]
def lnkK : EK LnkD where
  sz := 7
  pos := by decide
  R := fun _ cs x => cs = lnkC x
  len := fun e => by rw [e]; rfl
  one := fun e u hu => by
    subst e
    simp only [lnkC, List.mem_cons, List.not_mem_nil, or_false] at hu
    rcases hu with rfl | rfl | rfl | rfl | rfl | rfl | rfl <;> rfl
  below := fun e _ => e
theorem lnkK_free : lnkK.Free := fun _ _ _ _ h => h
instance : OwnK lnkK := ⟨[], fun h _ _ _ _ _ _ => h, .inl lnkK_free⟩
theorem infoZ : (Tryz.prog.info? 3).map (fun i => (i.zero, i.size, i.bytes)) = some (some (.int .i64 0), intK.sz, 8) := by kernel_rfl
theorem infoT : (Tryz.prog.info? 4).map (fun i => (i.zero, i.size, i.bytes)) = some (some (.bool false), boolK.sz, 1) := by kernel_rfl
theorem infoL : (Tryz.prog.info? 59).map (fun i => (i.zero, i.size, i.bytes)) = some (some (.agg #[.int .i64 0, .int .i64 0, .int .i64 0, .int .i64 0, .int .i64 0, .int .i64 0, .int .i64 0]), lnkK.sz, 56) := by kernel_rfl
section
variable {w w' : World} {g o n c i b : Nat} {t : TypeId}
theorem SlV.bool {xs : List Bool} {x : Bool} (h : SlV boolK w (.slice (some ⟨g, o, none⟩) n c) xs) (hx : xs[i]? = some x) : w.cell? ⟨g, o + i, none⟩ = some (.bool x) := by
  have h1 := h.cel (f := fun x => [.bool x]) (fun e => e) hx 0 rfl
  rwa [show o + i * boolK.sz + 0 = o + i from by show o + i * 1 + 0 = _; omega] at h1
theorem OwV.bool {xs : List Bool} {x : Bool} (h : OwV boolK t b w (.slice (some ⟨g, 0, none⟩) n c) xs) (hx : xs[i]? = some x) : w.cell? ⟨g, i, none⟩ = some (.bool x) := by
  have h1 := h.slv.bool hx
  rwa [Nat.zero_add] at h1
theorem SlV.lnk {xs : List LnkD} {x : LnkD} (h : SlV lnkK w (.slice (some ⟨g, o, none⟩) n c) xs) (hx : xs[i]? = some x) (j : Nat) {u : Value} (hu : (lnkC x)[j]? = some u) : w.cell? ⟨g, o + i * 7 + j, none⟩ = some u := h.cel (f := lnkC) (fun e => e) hx j hu
theorem SlV.lnk0 {xs : List LnkD} {x : LnkD} (h : SlV lnkK w (.slice (some ⟨g, o, none⟩) n c) xs) (hx : xs[i]? = some x) {u : Value} (hu : (lnkC x)[0]? = some u) : w.cell? ⟨g, o + i * 7, none⟩ = some u := h.lnk hx 0 hu
def TopV (w : World) (v : Value) (t : TopD) : Prop := ∃ p n c q m d, v = .agg #[.int .i64 t.nodes, .slice p n c, .slice q m d] ∧ SlV boolK w (.slice p n c) t.over ∧ SlV lnkK w (.slice q m d) t.links
theorem TopV.below {v : Value} {t : TopD} (h : TopV w v t) (hb : Below w.heap.size w w') : TopV w' v t := by
  obtain ⟨p, n, c, q, m, d, e, h1, h2⟩ := h
  exact ⟨p, n, c, q, m, d, e, h1.below hb, h2.below hb⟩
theorem lnk_of {t : TopD} {a : Nat} {x : LnkD} (e : t.links[a / 2]? = some x) : lnkAt t a = x := by unfold lnkAt List.getD; rw [e]; rfl
theorem even_of {a : Nat} {b : Bool} (h : RowKit.Hid ((((a % 2 : Nat) : Int) == 0) = b)) : (b = true → a % 2 = 0) ∧ (b = false → a % 2 ≠ 0) := by
  have q := h.out
  subst q
  constructor
  · intro q; simp at q; omega
  · intro q; simp at q; omega
def flA (a : Nat) : Nat := if a % 2 = 0 then a + 1 else a - 1
theorem flA_lt {t : TopD} {a : Nat} (h : a < arcsD t) : flA a < arcsD t := by unfold flA arcsD at *; split <;> omega
theorem flA_hd (t : TopD) (a : Nat) : tlD t (flA a) = hdD t a := by
  unfold tlD hdD lnkAt
  by_cases e : a % 2 = 0
  · rw [show flA a = a + 1 from if_pos e, if_neg (by omega), if_pos e, show (a + 1) / 2 = a / 2 by omega]
  · rw [show flA a = a - 1 from if_neg e, if_pos (by omega), if_neg e, show (a - 1) / 2 = a / 2 by omega]
theorem xor_flA (a : Nat) : a ^^^ 1 = flA a := by
  unfold flA
  refine Nat.eq_of_testBit_eq fun i => ?_
  rw [Nat.testBit_xor]
  cases i with
  | zero =>
    rw [Nat.testBit_zero, Nat.testBit_zero, Nat.testBit_zero]
    rcases Nat.mod_two_eq_zero_or_one a with e | e
    · rw [if_pos e, decide_eq_false (by omega), decide_eq_true (by omega), decide_eq_true (by omega)]; rfl
    · rw [if_neg (by omega), decide_eq_true e, decide_eq_true (by omega), decide_eq_false (by omega)]; rfl
  | succ i =>
    have e : ∀ m, Nat.testBit m (i + 1) = Nat.testBit (m / 2) i := fun m => by rw [Nat.testBit_succ]
    rw [e, e, e]
    have : (1 : Nat) / 2 = 0 := rfl
    rw [this, Nat.zero_testBit, Bool.xor_false]
    split
    · rw [show (a + 1) / 2 = a / 2 by omega]
    · rw [show (a - 1) / 2 = a / 2 by omega]
theorem over_at {t : TopD} {n : Nat} {x : Bool} (e : t.over[n]? = some x) : ovD t n = x := by unfold ovD List.getD; rw [e]; rfl
theorem over_none {t : TopD} {n : Nat} (h : t.over.length = 0) : ovD t n = false := by unfold ovD; rw [List.eq_nil_of_length_eq_zero h]; rfl
theorem up_at {down : List Bool} {a : Nat} {x : Bool} (e : down[a]? = some x) : (!upD down a) = x := by
  have := (List.getElem?_eq_some_iff.1 e).1
  unfold upD List.getD; rw [e, decide_eq_false (by omega)]; simp
theorem up_none {down : List Bool} {a : Nat} (h : down.length = 0) : (!upD down a) = false := by unfold upD; rw [decide_eq_true h]; rfl
theorem xor_one {a : Nat} (ha : a ≤ 1000000) : bits .xor .i64 (a : Int) 1 = (flA a : Int) := by
  have hx : a ^^^ 1 < 2 ^ 62 := Nat.xor_lt_two_pow (by omega) (by omega)
  have h1 : (BitVec.ofInt 64 (a : Int)).toNat = a := by
    rw [BitVec.ofInt_natCast, BitVec.toNat_ofNat]; exact Nat.mod_eq_of_lt (by omega)
  have h2 : (BitVec.ofInt 64 (1 : Int)).toNat = 1 := rfl
  show IntKind.i64.wrap ((BitVec.ofInt 64 (a : Int) ^^^ BitVec.ofInt 64 (1 : Int)).toNat : Int) = _
  rw [BitVec.toNat_xor, h1, h2, xor_flA] at *
  simp [IntKind.wrap, IntKind.bits, IntKind.signed]
  omega
def natI (o : List Nat) : List Int := o.map fun (n : Nat) => ((n : Nat) : Int)
theorem natI_len (o : List Nat) : (natI o).length = o.length := by unfold natI; simp
theorem natI_snoc (o : List Nat) (x : Nat) : natI o ++ [(x : Int)] = natI (o ++ [x]) := by unfold natI; simp
theorem natI_at {o : List Nat} {p : Nat} {x : Int} (h : (natI o)[p]? = some x) : ∃ k : Nat, o[p]? = some k ∧ x = (k : Int) := by
  unfold natI at h
  rw [List.getElem?_map] at h
  cases e : o[p]? with
  | none => rw [e] at h; cases h
  | some k => rw [e] at h; exact ⟨k, rfl, (Option.some.inj h).symm⟩
def selD (f : Nat → Bool) (j : Nat) : List Nat := (List.range j).filter f
theorem sel_yes {f : Nat → Bool} {j : Nat} (h : f j = true) : selD f (j + 1) = selD f j ++ [j] := by unfold selD; rw [List.range_succ, List.filter_append]; simp [h]
theorem sel_no {f : Nat → Bool} {j : Nat} (h : f j = false) : selD f (j + 1) = selD f j := by unfold selD; rw [List.range_succ, List.filter_append]; simp [h]
theorem sel_len (f : Nat → Bool) (j : Nat) : (selD f j).length ≤ j := by unfold selD; exact Nat.le_trans (List.length_filter_le _ _) (by simp)
theorem infoSl : (Tryz.prog.info? 29).map (fun i => (i.zero, i.size, i.bytes)) = some (some (.slice none 0 0), slcK.sz, 24) := by kernel_rfl
def lvD (e : Nat → Nat) (n j : Nat) : List (List Int) := (List.range n).map fun x => natI (selD (fun a => decide (e a = x)) j)
theorem lvD_len (e : Nat → Nat) (n j : Nat) : (lvD e n j).length = n := by unfold lvD; simp
theorem lvD_at (e : Nat → Nat) {n j x : Nat} (hx : x < n) : (lvD e n j)[x]? = some (natI (selD (fun a => decide (e a = x)) j)) := by unfold lvD; simp [hx]
theorem lvD_zero (e : Nat → Nat) (n : Nat) : (List.replicate n ([] : List Int)) = lvD e n 0 := by
  refine List.ext_getElem? fun x => ?_
  by_cases hx : x < n
  · rw [lvD_at e hx]; simp [hx]; rfl
  · rw [List.getElem?_eq_none (by simp; omega), List.getElem?_eq_none (by rw [lvD_len]; omega)]
theorem lvD_step (e : Nat → Nat) (n j : Nat) : (lvD e n j).set (e j) (natI (selD (fun a => decide (e a = e j)) j) ++ [(j : Int)]) = lvD e n (j + 1) := by
  refine List.ext_getElem? fun x => ?_
  by_cases hx : x < n
  · rw [lvD_at e hx]
    by_cases he : e j = x
    · subst he
      rw [List.getElem?_set_self (by rw [lvD_len]; exact hx), natI_snoc, sel_yes (by simp)]
    · rw [List.getElem?_set_ne he, lvD_at e hx, sel_no (by simpa using he)]
  · rw [List.getElem?_eq_none (by rw [List.length_set, lvD_len]; omega), List.getElem?_eq_none (by rw [lvD_len]; omega)]
theorem topN {t : TopD} (h : topOk t = true) : t.nodes = (nN t : Int) ∧ 1 ≤ nN t ∧ nN t ≤ 64 ∧ (t.over.length = 0 ∨ t.over.length = nN t) ∧ t.links.length ≤ 256 := by
  unfold topOk at h
  rw [Bool.and_eq_true] at h
  have q := of_decide_eq_true h.1
  unfold nN; omega
theorem top_no {t : TopD} {j : Nat} {x : LnkD} (e : t.links[j]? = some x) (h : lnkOk t.nodes x = false) : topOk t = false := by
  refine Bool.eq_false_iff.2 fun q => ?_
  unfold topOk at q
  rw [Bool.and_eq_true, List.all_eq_true] at q
  rw [q.2 x (List.mem_of_getElem? e)] at h; cases h
theorem top_no0 {t : TopD} (h : ¬ (1 ≤ t.nodes ∧ t.nodes ≤ 64 ∧ (t.over.length = 0 ∨ (t.over.length : Int) = t.nodes) ∧ t.links.length ≤ 256)) : topOk t = false := by
  unfold topOk; rw [decide_eq_false h]; rfl
theorem top_yes {t : TopD} (h : 1 ≤ t.nodes ∧ t.nodes ≤ 64 ∧ (t.over.length = 0 ∨ (t.over.length : Int) = t.nodes) ∧ t.links.length ≤ 256) (h2 : ∀ k x, k < t.links.length → t.links[k]? = some x → lnkOk t.nodes x = true) : topOk t = true := by
  unfold topOk
  rw [decide_eq_true h, Bool.true_and, List.all_eq_true]
  intro x hx
  obtain ⟨k, hk⟩ := List.mem_iff_getElem?.1 hx
  exact h2 k x (List.getElem?_eq_some_iff.1 hk).1 hk
end
end Go.Proofs.YtmcfomainmppdaaGreatDoor
namespace Go.Proofs.YtmcfomainmppdaaGreatDoor
open Go.RowKit
open Go.Lib (decDigits)
set_option maxRecDepth 100000 in
theorem arcs_any (w : World) {v_t : Value} {t : TopD} (ht : TopV w v_t t) (hl : t.links.length ≤ 100000) :
    Calls Tryz.prog 64 #[v_t] w fun e w' => e = .returned (.int .i64 ((arcsD t : Nat) : Int)) ∧ Below w.heap.size w w' := by
  have ht_0 := ht
  obtain ⟨p_t, n_t, c_t, q_t, m_t, d_t, rfl, ht_1, ht_2⟩ := ht_0; have b_t : m_t ≤ 100000 := (by rw [ht_2.one0]; exact hl); have a_t : arcsD t ≤ 200000 := (by unfold arcsD; omega)
  have hK := SS.start w
  refine Calls.hide (fun Q0 hQ0 => ?_)
  go_enter Tryz.func64, Tryz.ntmps64
  go_upto_region 0 with (fail)
  refine wp_region_T [3, 0] hK ?_
  clear hK
  refine eA (.cells #[.int .i64 t.nodes, .slice p_t n_t c_t, .slice q_t m_t d_t] 25) (fun R1 => ?_)
  refine e0 ?_
  refine sxEnd (fun W2 hK => ?_)
  go_upto_region 1 with (fail)
  refine wp_region_T [0, 1, 0, 0, 0] hK ?_
  clear hK
  refine e0 ?_
  refine eL m0 ?_
  iterate 3 refine e0 ?_
  refine sxEnd (fun W3 hK => ?_)
  go_wp2
  try go_ret
  exact (by obtain rfl := hQ0.out; exact ⟨congrArg (fun z => Ending.returned (.int .i64 z)) (by unfold arcsD; have := ht_2.one0; omega), hK.old⟩)
set_option maxRecDepth 100000 in
theorem tail_any (w : World) {v_t : Value} {t : TopD} (ht : TopV w v_t t) (a : Nat) (hl : t.links.length ≤ 100000) (ha : a < arcsD t) :
    Calls Tryz.prog 80 #[v_t, .int .i64 (a : Int)] w fun e w' => e = .returned (.int .i64 (tlD t a)) ∧ Below w.heap.size w w' := by
  have ht_0 := ht
  obtain ⟨p_t, n_t, c_t, q_t, m_t, d_t, rfl, ht_1, ht_2⟩ := ht_0; have b_t : m_t ≤ 100000 := (by rw [ht_2.one0]; exact hl); have a_t : arcsD t ≤ 200000 := (by unfold arcsD; omega)
  have hK := SS.start w
  refine Calls.hide (fun Q0 hQ0 => ?_)
  go_enter Tryz.func80, Tryz.ntmps80
  go_upto_region 0 with (fail)
  refine wp_region_T [3, 0] hK ?_
  clear hK
  refine eA (.cells #[.int .i64 t.nodes, .slice p_t n_t c_t, .slice q_t m_t d_t] 25) (fun R1 => ?_)
  refine e0 ?_
  refine sxEnd (fun W2 hK => ?_)
  go_upto_region 1 with (fail)
  refine wp_region_T [0, 0, 0] hK ?_
  clear hK
  refine e0 ?_
  refine eV (.int .i64 ((a % 2 : Nat) : Int)) (fun w' => by go_simp; (try go_bits); exact ⟨congrArg (Value.int .i64) (by omega), rfl⟩) ?_
  refine eB ((((a % 2 : Nat) : Int)) == 0) (fun b1 hb1 => ?_)
  refine sxEnd (fun W3 hK => ?_)
  cases b1
  · --
   have i4 : a / 2 < m_t := (by have := ht_2.one0; unfold arcsD at ha; omega)
   obtain ⟨g4, o4, rfl⟩ := ht_2.pt i4
   have l4 : a / 2 < t.links.length := Nat.lt_of_lt_of_eq i4 (ht_2.one0)
   obtain ⟨x, ex⟩ : ∃ x, RowKit.Hid (t.links[a / 2]? = some x) := ⟨_, hid (List.getElem?_eq_getElem l4)⟩
   go_upto_region 3 with (fail)
   refine wp_region_T [0, 1, 0, 0, 0, 0, 0, 0] hK ?_
   clear hK
   refine e0 ?_
   refine eL m0 ?_
   refine e0 ?_
   refine eV (.int .i64 ((a / 2 : Nat) : Int)) (fun w' => by go_simp; (try go_bits); exact ⟨congrArg (Value.int .i64) (by omega), rfl⟩) ?_
   iterate 2 refine e0 ?_
   refine eR0 (fun w k => (ht_2.below k.old).lnk ex.out 1 rfl) ?_
   refine e0 ?_
   refine sxEnd (fun W5 hK => ?_)
   go_wp2
   try go_ret
   show Q0 (.returned (.int .i64 x.b)) _
   exact (by obtain rfl := hQ0.out; exact ⟨by rw [show tlD t a = x.b from by unfold tlD; rw [lnk_of ex.out, if_neg ((even_of hb1).2 rfl)]], hK.old⟩)
  · --
   have i6 : a / 2 < m_t := (by have := ht_2.one0; unfold arcsD at ha; omega)
   obtain ⟨g6, o6, rfl⟩ := ht_2.pt i6
   have l6 : a / 2 < t.links.length := Nat.lt_of_lt_of_eq i6 (ht_2.one0)
   obtain ⟨x, ex⟩ : ∃ x, RowKit.Hid (t.links[a / 2]? = some x) := ⟨_, hid (List.getElem?_eq_getElem l6)⟩
   go_upto_region 2 with (fail)
   refine wp_region_T [0, 1, 0, 0, 0, 0, 0, 0] hK ?_
   clear hK
   refine e0 ?_
   refine eL m0 ?_
   refine e0 ?_
   refine eV (.int .i64 ((a / 2 : Nat) : Int)) (fun w' => by go_simp; (try go_bits); exact ⟨congrArg (Value.int .i64) (by omega), rfl⟩) ?_
   iterate 2 refine e0 ?_
   refine eR0 (fun w k => (ht_2.below k.old).lnk0 ex.out rfl) ?_
   refine e0 ?_
   refine sxEnd (fun W7 hK => ?_)
   go_wp2
   try go_ret
   show Q0 (.returned (.int .i64 x.a)) _
   exact (by obtain rfl := hQ0.out; exact ⟨by rw [show tlD t a = x.a from by unfold tlD; rw [lnk_of ex.out, if_pos ((even_of hb1).1 rfl)]], hK.old⟩)
set_option maxRecDepth 100000 in
theorem head_any (w : World) {v_t : Value} {t : TopD} (ht : TopV w v_t t) (a : Nat) (hl : t.links.length ≤ 100000) (ha : a < arcsD t) :
    Calls Tryz.prog 70 #[v_t, .int .i64 (a : Int)] w fun e w' => e = .returned (.int .i64 (hdD t a)) ∧ Below w.heap.size w w' := by
  have ht_0 := ht
  obtain ⟨p_t, n_t, c_t, q_t, m_t, d_t, rfl, ht_1, ht_2⟩ := ht_0; have b_t : m_t ≤ 100000 := (by rw [ht_2.one0]; exact hl); have a_t : arcsD t ≤ 200000 := (by unfold arcsD; omega)
  have hK := SS.start w
  refine Calls.hide (fun Q0 hQ0 => ?_)
  go_enter Tryz.func70, Tryz.ntmps70
  go_upto_region 0 with (fail)
  refine wp_region_T [3, 0] hK ?_
  clear hK
  refine eA (.cells #[.int .i64 t.nodes, .slice p_t n_t c_t, .slice q_t m_t d_t] 25) (fun R1 => ?_)
  refine e0 ?_
  refine sxEnd (fun W2 hK => ?_)
  go_upto_region 1 with (fail)
  refine wp_region_T [1, 0, 0, 1, 0] hK ?_
  clear hK
  refine eL m0 ?_
  refine e0 ?_
  refine eV (.int .i64 ((flA a : Nat) : Int)) (fun w' => by go_simp; (try go_bits); exact ⟨congrArg (Value.int .i64) (xor_one (by unfold arcsD at ha; omega)), rfl⟩) ?_
  refine eQ (fun w k => tail_any w (ht.below k.old) (flA a) hl (flA_lt ha)) ?_
  refine e0 ?_
  refine sxEnd (fun W3 hK => ?_)
  go_wp2
  try go_ret
  show Q0 (.returned (.int .i64 (tlD t (flA a)))) _
  exact (by obtain rfl := hQ0.out; exact ⟨by rw [flA_hd], hK.old⟩)
set_option maxRecDepth 100000 in
theorem node_any (w : World) {v_t : Value} {t : TopD} (ht : TopV w v_t t) (n : Int) (hl : t.links.length ≤ 100000) :
    Calls Tryz.prog 60 #[v_t, .int .i64 n] w fun e w' => e = .returned (.bool (decide (0 ≤ n) && decide (n < t.nodes))) ∧ Below w.heap.size w w' := by
  have ht_0 := ht
  obtain ⟨p_t, n_t, c_t, q_t, m_t, d_t, rfl, ht_1, ht_2⟩ := ht_0; have b_t : m_t ≤ 100000 := (by rw [ht_2.one0]; exact hl); have a_t : arcsD t ≤ 200000 := (by unfold arcsD; omega)
  have hK := SS.start w
  refine Calls.hide (fun Q0 hQ0 => ?_)
  go_enter Tryz.func60, Tryz.ntmps60
  go_upto_region 0 with (fail)
  refine wp_region_T [3, 0] hK ?_
  clear hK
  refine eA (.cells #[.int .i64 t.nodes, .slice p_t n_t c_t, .slice q_t m_t d_t] 25) (fun R1 => ?_)
  refine e0 ?_
  refine sxEnd (fun W2 hK => ?_)
  go_upto_region 1 with (fail)
  refine wp_region_T [0, 0, 0, 0, 0, 1, 0, 0, 0] hK ?_
  clear hK
  refine e0 ?_
  refine eB (decide (0 ≤ n)) (fun b1 hb1 => ?_)
  refine e0 ?_
  cases b1
  · --
   have q_b1 : n < 0 := Int.not_le.1 (of_decide_eq_false hb1.out)
   iterate 4 refine eN ?_
   iterate 2 refine e0 ?_
   refine sxEnd (fun W3 hK => ?_)
   go_wp2
   try go_ret
   show Q0 (.returned (.bool false)) _
   exact (by obtain rfl := hQ0.out; exact ⟨by rw [hb1.out]; rfl, hK.old⟩)
  · --
   have q_b1 : 0 ≤ n := of_decide_eq_true hb1.out
   iterate 2 refine e0 ?_
   refine eL m0 ?_
   refine eB (decide (n < t.nodes)) (fun b2 hb2 => ?_)
   iterate 2 refine e0 ?_
   refine sxEnd (fun W4 hK => ?_)
   go_wp2
   try go_ret
   show Q0 (.returned (.bool b2)) _
   exact (by obtain rfl := hQ0.out; exact ⟨by rw [hb1.out, hb2.out]; rfl, hK.old⟩)
set_option maxRecDepth 100000 in
theorem fits_any (w : World) {v_t : Value} {t : TopD} (ht : TopV w v_t t) {p_d : Option Addr} {n_d c_d : Nat} {down : List Bool} (hd : SlV boolK w (.slice p_d n_d c_d) down) (hl : t.links.length ≤ 100000) :
    Calls Tryz.prog 34 #[v_t, .slice p_d n_d c_d] w fun e w' => e = .returned (.bool (decide (down.length = 0 ∨ down.length = 2 * t.links.length))) ∧ Below w.heap.size w w' := by
  have ht_0 := ht
  obtain ⟨p_t, n_t, c_t, q_t, m_t, d_t, rfl, ht_1, ht_2⟩ := ht_0; have b_t : m_t ≤ 100000 := (by rw [ht_2.one0]; exact hl); have a_t : arcsD t ≤ 200000 := (by unfold arcsD; omega)
  have hK := SS.start w
  refine Calls.hide (fun Q0 hQ0 => ?_)
  go_enter Tryz.func34, Tryz.ntmps34
  go_upto_region 0 with (fail)
  refine wp_region_T [3, 0] hK ?_
  clear hK
  refine eA (.cells #[.int .i64 t.nodes, .slice p_t n_t c_t, .slice q_t m_t d_t] 25) (fun R1 => ?_)
  refine e0 ?_
  refine sxEnd (fun W2 hK => ?_)
  go_upto_region 1 with (fail)
  refine wp_region_T [0, 0, 0, 0, 0, 0, 1, 1, 0, 0, 0] hK ?_
  clear hK
  iterate 2 refine e0 ?_
  refine eB (((n_d : Int)) == 0) (fun b1 hb1 => ?_)
  refine e0 ?_
  cases b1
  · --
   iterate 2 refine e0 ?_
   refine eL m0 ?_
   refine eQ (fun w k => arcs_any w (ht.below k.old) hl) ?_
   refine eB (((n_d : Int)) == (((arcsD t : Nat) : Int))) (fun b2 hb2 => ?_)
   iterate 2 refine e0 ?_
   refine sxEnd (fun W3 hK => ?_)
   go_wp2
   try go_ret
   show Q0 (.returned (.bool b2)) _
   exact (by obtain rfl := hQ0.out; exact ⟨congrArg (fun z => Ending.returned (.bool z)) (by have := hd.one0; have q := hb1.out; simp at q; have q2 := hb2.out; rw [← q2]; unfold arcsD; rw [Bool.eq_iff_iff, beq_iff_eq, decide_eq_true_iff]; omega), hK.old⟩)
  · --
   iterate 5 refine eN ?_
   iterate 2 refine e0 ?_
   refine sxEnd (fun W4 hK => ?_)
   go_wp2
   try go_ret
   show Q0 (.returned (.bool true)) _
   exact (by obtain rfl := hQ0.out; exact ⟨congrArg (fun z => Ending.returned (.bool z)) (by have := hd.one0; have q := hb1.out; simp at q; symm; rw [decide_eq_true_iff]; omega), hK.old⟩)
set_option maxRecDepth 100000 in
theorem down_any (w : World) {p_d : Option Addr} {n_d c_d : Nat} {down : List Bool} (hd : SlV boolK w (.slice p_d n_d c_d) down) (a : Nat) (ha : down.length = 0 ∨ a < down.length) :
    Calls Tryz.prog 62 #[.slice p_d n_d c_d, .int .i64 (a : Int)] w fun e w' => e = .returned (.bool (!upD down a)) ∧ Below w.heap.size w w' := by
  have hK := SS.start w
  refine Calls.hide (fun Q0 hQ0 => ?_)
  go_enter Tryz.func62, Tryz.ntmps62
  go_upto_region 1 with (fail)
  refine wp_region_T [0, 0, 0, 0, 0, 0, 0, 0, 0, 0] hK ?_
  clear hK
  iterate 2 refine e0 ?_
  refine eB (decide (0 < ((n_d : Int)))) (fun b1 hb1 => ?_)
  refine e0 ?_
  cases b1
  · --
   have q_b1 : ((n_d : Int)) ≤ 0 := Int.not_lt.1 (of_decide_eq_false hb1.out)
   iterate 4 refine eN ?_
   iterate 2 refine e0 ?_
   refine sxEnd (fun W1 hK => ?_)
   go_wp2
   try go_ret
   show Q0 (.returned (.bool false)) _
   exact (by obtain rfl := hQ0.out; exact ⟨by rw [up_none (by have := hd.one0; omega)], hK.old⟩)
  · --
   have q_b1 : 0 < ((n_d : Int)) := of_decide_eq_true hb1.out
   have ha2 : a < n_d := (by have := hd.one0; omega)
   have i2 : a < n_d := ha2
   obtain ⟨g2, o2, rfl⟩ := hd.pt i2
   have l2 : a < down.length := Nat.lt_of_lt_of_eq i2 (hd.one0)
   obtain ⟨x, ex⟩ : ∃ x, RowKit.Hid (down[a]? = some x) := ⟨_, hid (List.getElem?_eq_getElem l2)⟩
   iterate 3 refine e0 ?_
   refine eR0 (fun w k => (hd.below k.old).bool ex.out) ?_
   iterate 2 refine e0 ?_
   refine sxEnd (fun W3 hK => ?_)
   go_wp2
   try go_ret
   show Q0 (.returned (.bool x)) _
   exact (by obtain rfl := hQ0.out; exact ⟨by rw [up_at ex.out], hK.old⟩)
set_option maxRecDepth 100000 in
theorem over_any (w : World) {v_t : Value} {t : TopD} (ht : TopV w v_t t) (n : Nat) (hl : t.links.length ≤ 100000) (hn : t.over.length = 0 ∨ n < t.over.length) :
    Calls Tryz.prog 102 #[v_t, .int .i64 (n : Int)] w fun e w' => e = .returned (.bool (ovD t n)) ∧ Below w.heap.size w w' := by
  have ht_0 := ht
  obtain ⟨p_t, n_t, c_t, q_t, m_t, d_t, rfl, ht_1, ht_2⟩ := ht_0; have b_t : m_t ≤ 100000 := (by rw [ht_2.one0]; exact hl); have a_t : arcsD t ≤ 200000 := (by unfold arcsD; omega)
  have hK := SS.start w
  refine Calls.hide (fun Q0 hQ0 => ?_)
  go_enter Tryz.func102, Tryz.ntmps102
  go_upto_region 0 with (fail)
  refine wp_region_T [3, 0] hK ?_
  clear hK
  refine eA (.cells #[.int .i64 t.nodes, .slice p_t n_t c_t, .slice q_t m_t d_t] 25) (fun R1 => ?_)
  refine e0 ?_
  refine sxEnd (fun W2 hK => ?_)
  go_upto_region 1 with (fail)
  refine wp_region_T [0, 1, 0, 0, 0, 0, 1, 0, 0, 0, 0, 0] hK ?_
  clear hK
  refine e0 ?_
  refine eL m0 ?_
  refine e0 ?_
  refine eB (decide (0 < ((n_t : Int)))) (fun b1 hb1 => ?_)
  refine e0 ?_
  cases b1
  · --
   have q_b1 : ((n_t : Int)) ≤ 0 := Int.not_lt.1 (of_decide_eq_false hb1.out)
   iterate 5 refine eN ?_
   iterate 2 refine e0 ?_
   refine sxEnd (fun W3 hK => ?_)
   go_wp2
   try go_ret
   show Q0 (.returned (.bool false)) _
   exact (by obtain rfl := hQ0.out; exact ⟨by rw [over_none (by have := ht_1.one0; omega)], hK.old⟩)
  · --
   have q_b1 : 0 < ((n_t : Int)) := of_decide_eq_true hb1.out
   have hn2 : n < n_t := (by have := ht_1.one0; omega)
   have i4 : n < n_t := hn2
   obtain ⟨g4, o4, rfl⟩ := ht_1.pt i4
   have l4 : n < t.over.length := Nat.lt_of_lt_of_eq i4 (ht_1.one0)
   obtain ⟨x, ex⟩ : ∃ x, RowKit.Hid (t.over[n]? = some x) := ⟨_, hid (List.getElem?_eq_getElem l4)⟩
   refine e0 ?_
   refine eL m0 ?_
   iterate 2 refine e0 ?_
   refine eR0 (fun w k => (ht_1.below k.old).bool ex.out) ?_
   iterate 2 refine e0 ?_
   refine sxEnd (fun W5 hK => ?_)
   go_wp2
   try go_ret
   show Q0 (.returned (.bool x)) _
   exact (by obtain rfl := hQ0.out; exact ⟨by rw [over_at ex.out], hK.old⟩)
set_option maxRecDepth 100000 in
theorem cost_any (w : World) {v_t : Value} {t : TopD} (ht : TopV w v_t t) (a : Nat) (hl : t.links.length ≤ 100000) (ha : a < arcsD t) :
    Calls Tryz.prog 69 #[v_t, .int .i64 (a : Int)] w fun e w' => e = .returned (.int .i64 (csD t a)) ∧ Below w.heap.size w w' := by
  have ht_0 := ht
  obtain ⟨p_t, n_t, c_t, q_t, m_t, d_t, rfl, ht_1, ht_2⟩ := ht_0; have b_t : m_t ≤ 100000 := (by rw [ht_2.one0]; exact hl); have a_t : arcsD t ≤ 200000 := (by unfold arcsD; omega)
  have hK := SS.start w
  refine Calls.hide (fun Q0 hQ0 => ?_)
  go_enter Tryz.func69, Tryz.ntmps69
  go_upto_region 0 with (fail)
  refine wp_region_T [3, 0] hK ?_
  clear hK
  refine eA (.cells #[.int .i64 t.nodes, .slice p_t n_t c_t, .slice q_t m_t d_t] 25) (fun R1 => ?_)
  refine e0 ?_
  refine sxEnd (fun W2 hK => ?_)
  rcases Nat.mod_two_eq_zero_or_one a with hm | hm
  · --
   have i3 : a / 2 < m_t := (by have := ht_2.one0; unfold arcsD at ha; omega)
   obtain ⟨g3, o3, rfl⟩ := ht_2.pt i3
   have l3 : a / 2 < t.links.length := Nat.lt_of_lt_of_eq i3 (ht_2.one0)
   obtain ⟨x, ex⟩ : ∃ x, RowKit.Hid (t.links[a / 2]? = some x) := ⟨_, hid (List.getElem?_eq_getElem l3)⟩
   go_upto_region 1 with (fail)
   refine wp_region_T [0, 1, 0, 0, 0, 0, 0, 0, 0, 0, 0] hK ?_
   clear hK
   refine e0 ?_
   refine eL m0 ?_
   refine e0 ?_
   refine eV (.int .i64 ((a / 2 : Nat) : Int)) (fun w' => by go_simp; (try go_bits); exact ⟨congrArg (Value.int .i64) (by omega), rfl⟩) ?_
   refine e0 ?_
   refine eV (.int .i64 0) (fun w' => by go_simp; (try go_bits); exact ⟨congrArg (Value.int .i64) (by omega), rfl⟩) ?_
   iterate 3 refine e0 ?_
   refine eR0 (fun w k => (ht_2.below k.old).lnk ex.out 2 rfl) ?_
   refine e0 ?_
   refine sxEnd (fun W4 hK => ?_)
   go_wp2
   try go_ret
   show Q0 (.returned (.int .i64 x.c0)) _
   exact (by obtain rfl := hQ0.out; exact ⟨by rw [show csD t a = x.c0 from by unfold csD; rw [lnk_of ex.out, if_pos hm]], hK.old⟩)
  · --
   have i5 : a / 2 < m_t := (by have := ht_2.one0; unfold arcsD at ha; omega)
   obtain ⟨g5, o5, rfl⟩ := ht_2.pt i5
   have l5 : a / 2 < t.links.length := Nat.lt_of_lt_of_eq i5 (ht_2.one0)
   obtain ⟨x, ex⟩ : ∃ x, RowKit.Hid (t.links[a / 2]? = some x) := ⟨_, hid (List.getElem?_eq_getElem l5)⟩
   go_upto_region 1 with (fail)
   refine wp_region_T [0, 1, 0, 0, 0, 0, 0, 0, 0, 0, 0] hK ?_
   clear hK
   refine e0 ?_
   refine eL m0 ?_
   refine e0 ?_
   refine eV (.int .i64 ((a / 2 : Nat) : Int)) (fun w' => by go_simp; (try go_bits); exact ⟨congrArg (Value.int .i64) (by omega), rfl⟩) ?_
   refine e0 ?_
   refine eV (.int .i64 1) (fun w' => by go_simp; (try go_bits); exact ⟨congrArg (Value.int .i64) (by omega), rfl⟩) ?_
   iterate 3 refine e0 ?_
   refine eR0 (fun w k => (ht_2.below k.old).lnk ex.out 3 rfl) ?_
   refine e0 ?_
   refine sxEnd (fun W6 hK => ?_)
   go_wp2
   try go_ret
   show Q0 (.returned (.int .i64 x.c1)) _
   exact (by obtain rfl := hQ0.out; exact ⟨by rw [show csD t a = x.c1 from by unfold csD; rw [lnk_of ex.out, if_neg (by omega)]], hK.old⟩)
theorem tailN_any (w : World) {v_t : Value} {t : TopD} (ht : TopV w v_t t) (a : Nat) (hl : t.links.length ≤ 100000) (ht2 : topOk t = true) (ha : a < arcsD t) : Calls Tryz.prog 80 #[v_t, .int .i64 (a : Int)] w fun e w' => e = .returned (.int .i64 ((tN t a : Nat) : Int)) ∧ Below w.heap.size w w' := by
  rw [← (arc_ok ht2 ha).1]; exact tail_any w ht a hl ha
theorem headN_any (w : World) {v_t : Value} {t : TopD} (ht : TopV w v_t t) (a : Nat) (hl : t.links.length ≤ 100000) (ht2 : topOk t = true) (ha : a < arcsD t) : Calls Tryz.prog 70 #[v_t, .int .i64 (a : Int)] w fun e w' => e = .returned (.int .i64 ((hN t a : Nat) : Int)) ∧ Below w.heap.size w w' := by
  rw [← (arc_ok ht2 ha).2.1]; exact head_any w ht a hl ha
theorem costN_any (w : World) {v_t : Value} {t : TopD} (ht : TopV w v_t t) (a : Nat) (hl : t.links.length ≤ 100000) (ht2 : topOk t = true) (ha : a < arcsD t) : Calls Tryz.prog 69 #[v_t, .int .i64 (a : Int)] w fun e w' => e = .returned (.int .i64 ((cN t a : Nat) : Int)) ∧ Below w.heap.size w w' := by
  rw [← (arc_ok ht2 ha).2.2.1]; exact cost_any w ht a hl ha
end Go.Proofs.YtmcfomainmppdaaGreatDoor
namespace Go.Proofs.YtmcfomainmppdaaGreatDoor
open Go.RowKit
open Go.Lib (decDigits)
def outF (t : TopD) (n a : Nat) : Bool := tlD t a == (n : Int)
theorem bT {p : Bool} (h : RowKit.Hid (p = true)) : p = true := h.out
theorem bF {p : Bool} (h : RowKit.Hid (p = false)) : p = false := h.out
theorem outF_yes {t : TopD} {n a : Nat} (h : (tlD t a == (n : Int)) = true) : outF t n a = true := h
theorem outF_no {t : TopD} {n a : Nat} (h : (tlD t a == (n : Int)) = false) : outF t n a = false := h
theorem outF_out {t : TopD} {n j : Nat} (ht : topOk t = true) (h : j = arcsD t) : selD (outF t n) j = outD t n := by
  subst h
  unfold selD outD
  refine List.filter_congr fun a ha => ?_
  have q := (arc_ok ht (List.mem_range.1 ha)).1
  unfold outF
  rw [q, Bool.eq_iff_iff, beq_iff_eq, decide_eq_true_iff]; omega
set_option maxRecDepth 100000 in
theorem out_any (w : World) {v_t : Value} {t : TopD} (ht : TopV w v_t t) (n : Nat) (hl : t.links.length ≤ 100000) (ht2 : topOk t = true) :
    Calls Tryz.prog 52 #[v_t, .int .i64 (n : Int)] w fun e w' => ∃ x : Sl, e = .returned (.slice x.p x.l x.c) ∧ SS w [rO intK 3 x.p x.l x.c (natI (outD t n))] w' := by
  have ht_0 := ht
  obtain ⟨p_t, n_t, c_t, q_t, m_t, d_t, rfl, ht_1, ht_2⟩ := ht_0; have b_t : m_t ≤ 100000 := (by rw [ht_2.one0]; exact hl); have a_t : arcsD t ≤ 200000 := (by unfold arcsD; omega)
  have hK := SS.start w
  refine Calls.hide (fun Q0 hQ0 => ?_)
  go_enter Tryz.func52, Tryz.ntmps52
  go_upto_region 0 with (fail)
  refine wp_region_T [3, 0] hK ?_
  clear hK
  refine eA (.cells #[.int .i64 t.nodes, .slice p_t n_t c_t, .slice q_t m_t d_t] 25) (fun R1 => ?_)
  refine e0 ?_
  refine sxEnd (fun W2 hK => ?_)
  go_upto_region 2 with (fail)
  refine wp_region_T [1, 1, 0] hK ?_
  clear hK
  refine eL m0 ?_
  refine eQ (fun w k => arcs_any w (ht.below k.old) hl) ?_
  refine e0 ?_
  refine sxEnd (fun W3 hK => ?_)
  replace hK := hK.fact (rO intK 3 none 0 0 (natI (selD (outF t n) 0))) OwV.nil (fun _ h => by cases h)
  go_wp2_with fail
  go_loopw [9, 5] (fun s9 s5 wl => ∃ (j : Nat) (p : Option Addr) (n_ : Nat) (c : Nat), s9 = .int .i64 (j : Int) ∧ s5 = .slice p n_ c ∧ (j ≤ arcsD t) ∧ SS w ([rO intK 3 p n_ c (natI (selD (outF t n) j)), bx R1 (.cells #[.int .i64 t.nodes, .slice p_t n_t c_t, .slice q_t m_t d_t] 25)]) wl) (fun s9 s5 _ => arcsD t - (intOf s9).toNat)
  case atStart => exact ⟨0, none, 0, 0, rfl, rfl, (by omega), hK⟩
  case round =>
   clear hK
   obtain ⟨j, p, n_, c, rfl, rfl, hj0, hK⟩ := hrel
   generalize wr = W4 at hK ⊢
   go_upto_region 3 with (fail)
   refine wp_region_T [0] hK ?_
   clear hK
   refine eB (decide (((j : Int)) < (((arcsD t : Nat) : Int)))) (fun b1 hb1 => ?_)
   refine sxEnd (fun W5 hK => ?_)
   cases b1
   · --
    have q_b1 : (((arcsD t : Nat) : Int)) ≤ ((j : Int)) := Int.not_lt.1 (of_decide_eq_false hb1.out)
    rw [show natI (selD (outF t n) j) = natI (outD t n) from by rw [outF_out ht2 (by omega)]] at hK
    go_wp2
    try go_ret
    show Q0 (.returned (.slice p n_ c)) _
    exact (by obtain rfl := hQ0.out; exact ⟨⟨p, n_, c⟩, rfl, hK.subl (sK2 (sC2 sZ2))⟩)
   · --
    have q_b1 : ((j : Int)) < (((arcsD t : Nat) : Int)) := of_decide_eq_true hb1.out
    have hj : j < arcsD t := by omega
    go_upto_region 5 with (fail)
    refine wp_region_T [1, 0, 1, 0, 0] hK ?_
    clear hK
    refine eL m1 ?_
    refine e0 ?_
    refine eQ (fun w k => tail_any w (ht.below k.old) j hl hj) ?_
    refine e0 ?_
    refine eB (((tlD t j)) == ((n : Int))) (fun b2 hb2 => ?_)
    refine sxEnd (fun W6 hK => ?_)
    cases b2
    · --
     rw [show natI (selD (outF t n) j) = natI (selD (outF t n) (j + 1)) from (by rw [sel_no (outF_no (bF hb2))])] at hK
     (try go_wp2)
     go_roundw
     case rel => exact ⟨j + 1, p, n_, c, (by first | rfl | go_num), (by first | rfl | go_num), (by omega), hK⟩
     case measure => simp [intOf] <;> omega
    · --
     go_upto_region 6 with (fail)
     refine wp_region_T [0, 0, 3, 5, 0] hK ?_
     clear hK
     iterate 2 refine e0 ?_
     refine eA (.cells #[.int .i64 (j : Int)] 3) (fun R7 => ?_)
     refine eApp 1 intK_free rfl infoZ (fun w k => k.one1 (K := intK) (x := (j : Int)) m0 rfl) (by have := sel_len (outF t n) j; rw [natI_len]; unfold arcsD at hj; simp; omega) (fun x8 => ?_)
     obtain ⟨p8, n8, c8⟩ := x8; dsimp only
     refine e0 ?_
     refine sxEnd (fun W9 hK => ?_)
     rw [show (natI (selD (outF t n) j)) ++ [(j : Int)] = natI (selD (outF t n) (j + 1)) from (by rw [natI_snoc, sel_yes (outF_yes (bT hb2))])] at hK
     (try go_wp2)
     go_roundw
     case rel => exact ⟨j + 1, p8, n8, c8, (by first | rfl | go_num), (by first | rfl | go_num), (by omega), (hK.subl (sC2 (List.Sublist.refl _)))⟩
     case measure => simp [intOf] <;> omega
set_option maxRecDepth 100000 in
theorem leaving_any (w : World) {v_t : Value} {t : TopD} (ht : TopV w v_t t) (hl : t.links.length ≤ 100000) (ht2 : topOk t = true) :
    Calls Tryz.prog 139 #[v_t] w fun e w' => ∃ x : Duo Sl (List Sl), e = .returned (.slice x.a.p x.a.l x.a.c) ∧ SS w [fX intK 29 3 x.b.length x.a.p x.a.l x.a.c x.b (lvD (tN t) (nN t) (arcsD t))] w' := by
  have ht_0 := ht
  obtain ⟨p_t, n_t, c_t, q_t, m_t, d_t, rfl, ht_1, ht_2⟩ := ht_0; have b_t : m_t ≤ 100000 := (by rw [ht_2.one0]; exact hl); have a_t : arcsD t ≤ 200000 := (by unfold arcsD; omega)
  have hK := SS.start w
  have hnn := hid (topN ht2)
  have hnm := hnn.out.2.2.1
  refine Calls.hide (fun Q0 hQ0 => ?_)
  go_enter Tryz.func139, Tryz.ntmps139
  go_upto_region 0 with (fail)
  refine wp_region_T [3, 0] hK ?_
  clear hK
  refine eA (.cells #[.int .i64 t.nodes, .slice p_t n_t c_t, .slice q_t m_t d_t] 25) (fun R1 => ?_)
  refine e0 ?_
  refine sxEnd (fun W2 hK => ?_)
  go_upto_region 1 with (fail)
  refine wp_region_T [0, 1, 3, 0] hK ?_
  clear hK
  refine e0 ?_
  refine eL m0 ?_
  refine eMk (K := slcK) (t := 29) (x := (⟨none, 0, 0⟩ : Sl)) (nN t) (fun _ => rfl) rfl infoSl (by show nN t * 1 ≤ _; omega) (by decide) (fun g3 => ?_) (hv := hnn.out.1)
  refine e0 ?_
  refine sxEnd (fun W4 hK => ?_)
  replace hK := hK.made (K := slcK) (n := (nN t)) (fun _ => rfl) (by simp [maxLen]; omega)
  go_upto_region 2 with (fail)
  refine wp_region_T [1, 1, 0] hK ?_
  clear hK
  refine eL m1 ?_
  refine eQ (fun w k => arcs_any w (ht.below k.old) hl) ?_
  refine e0 ?_
  refine sxEnd (fun W5 hK => ?_)
  replace hK := hK.famS (K := intK) 3; rw [lvD_zero (tN t)] at hK
  generalize hss : (List.replicate (nN t) (⟨none, 0, 0⟩ : Sl)) = ss0 at hK; clear hss
  go_wp2_with fail
  go_loopw [11] (fun s11 wl => ∃ (j : Nat) (ss : List Sl), s11 = .int .i64 (j : Int) ∧ (j ≤ arcsD t) ∧ SS w ([fX intK 29 3 ss.length (some ⟨g3, 0, none⟩) (nN t) (nN t) ss (lvD (tN t) (nN t) j), bx R1 (.cells #[.int .i64 t.nodes, .slice p_t n_t c_t, .slice q_t m_t d_t] 25)]) wl) (fun s11 _ => arcsD t - (intOf s11).toNat)
  case atStart => exact ⟨0, ss0, rfl, (by omega), hK⟩
  case round =>
   clear hK
   obtain ⟨j, ss, rfl, hj0, hK⟩ := hrel
   generalize wr = W6 at hK ⊢
   go_upto_region 3 with (fail)
   refine wp_region_T [0] hK ?_
   clear hK
   refine eB (decide (((j : Int)) < (((arcsD t : Nat) : Int)))) (fun b1 hb1 => ?_)
   refine sxEnd (fun W7 hK => ?_)
   cases b1
   · --
    have q_b1 : (((arcsD t : Nat) : Int)) ≤ ((j : Int)) := Int.not_lt.1 (of_decide_eq_false hb1.out)
    obtain rfl : j = arcsD t := by omega
    go_wp2
    try go_ret
    show Q0 (.returned (.slice (some ⟨g3, 0, none⟩) (nN t) (nN t))) _
    exact (by obtain rfl := hQ0.out; exact ⟨⟨⟨(some ⟨g3, 0, none⟩), nN t, nN t⟩, ss⟩, rfl, hK.subl (sK2 (sC2 sZ2))⟩)
   · --
    have q_b1 : ((j : Int)) < (((arcsD t : Nat) : Int)) := of_decide_eq_true hb1.out
    have hj : j < arcsD t := by omega
    go_upto_region 5 with (fail)
    refine wp_region_T [1, 0, 1, 0] hK ?_
    clear hK
    refine eL m1 ?_
    refine e0 ?_
    refine eQ (fun w k => tailN_any w (ht.below k.old) j hl ht2 hj) ?_
    refine e0 ?_
    refine sxEnd (fun W8 hK => ?_)
    have hx := (arc_ok ht2 hj).2.2.2.1
    have i9 : tN t j < (nN t) := hx
    have l9 : tN t j < ss.length := Nat.lt_of_lt_of_eq i9 (hK.lenF m0)
    obtain ⟨s, es⟩ : ∃ x, RowKit.Hid (ss[tN t j]? = some x) := ⟨_, hid (List.getElem?_eq_getElem l9)⟩
    obtain ⟨s_p, s_l, s_c⟩ := s
    replace hK := hK.famO (Nat.le_refl _) es.out (xs := natI (selD (fun a => decide (tN t a = tN t j)) j)) (lvD_at (tN t) hx); dsimp only at hK
    go_upto_region 6 with (fail)
    refine wp_region_T [0, 0, 0, 0, 0, 1, 0, 3, 5, 0, 4] hK ?_
    clear hK
    iterate 5 refine e0 ?_
    refine eR (fun w k => ((k.fam m0).out).slc es.out) ?_
    refine e0 ?_
    refine eA (.cells #[.int .i64 (j : Int)] 3) (fun R10 => ?_)
    refine eApp 2 intK_free rfl infoZ (fun w k => k.one1 (K := intK) (x := (j : Int)) m0 rfl) (by have := sel_len (fun a => decide (tN t a = tN t j)) j; rw [natI_len]; simp; omega) (fun x11 => ?_)
    obtain ⟨p11, n11, c11⟩ := x11; dsimp only
    refine e0 ?_
    refine eWF (y := ⟨p11, n11, c11⟩) 1 l9 ?_ (hi := rfl)
    refine sxEnd (fun W12 hK => ?_)
    replace hK := hK.up2
    replace hK := hK.up2
    replace hK := hK.famB (s := ⟨p11, n11, c11⟩) (List.getElem?_set_self l9)
    rw [show (lvD (tN t) (nN t) j).set (tN t j) ((natI (selD (fun a => decide (tN t a = tN t j)) j)) ++ [(j : Int)]) = lvD (tN t) (nN t) (j + 1) from (lvD_step (tN t) (nN t) j)] at hK
    (try go_wp2)
    go_roundw
    case rel => exact ⟨j + 1, ss.set (tN t j) (⟨p11, n11, c11⟩), (by first | rfl | go_num), (by omega), (hK.subl (sK2 (sC2 (List.Sublist.refl _))))⟩
    case measure => simp [intOf] <;> omega
set_option maxRecDepth 100000 in
theorem entering_any (w : World) {v_t : Value} {t : TopD} (ht : TopV w v_t t) (hl : t.links.length ≤ 100000) (ht2 : topOk t = true) :
    Calls Tryz.prog 104 #[v_t] w fun e w' => ∃ x : Duo Sl (List Sl), e = .returned (.slice x.a.p x.a.l x.a.c) ∧ SS w [fX intK 29 3 x.b.length x.a.p x.a.l x.a.c x.b (lvD (hN t) (nN t) (arcsD t))] w' := by
  have ht_0 := ht
  obtain ⟨p_t, n_t, c_t, q_t, m_t, d_t, rfl, ht_1, ht_2⟩ := ht_0; have b_t : m_t ≤ 100000 := (by rw [ht_2.one0]; exact hl); have a_t : arcsD t ≤ 200000 := (by unfold arcsD; omega)
  have hK := SS.start w
  have hnn := hid (topN ht2)
  have hnm := hnn.out.2.2.1
  refine Calls.hide (fun Q0 hQ0 => ?_)
  go_enter Tryz.func104, Tryz.ntmps104
  go_upto_region 0 with (fail)
  refine wp_region_T [3, 0] hK ?_
  clear hK
  refine eA (.cells #[.int .i64 t.nodes, .slice p_t n_t c_t, .slice q_t m_t d_t] 25) (fun R1 => ?_)
  refine e0 ?_
  refine sxEnd (fun W2 hK => ?_)
  go_upto_region 1 with (fail)
  refine wp_region_T [0, 1, 3, 0] hK ?_
  clear hK
  refine e0 ?_
  refine eL m0 ?_
  refine eMk (K := slcK) (t := 29) (x := (⟨none, 0, 0⟩ : Sl)) (nN t) (fun _ => rfl) rfl infoSl (by show nN t * 1 ≤ _; omega) (by decide) (fun g3 => ?_) (hv := hnn.out.1)
  refine e0 ?_
  refine sxEnd (fun W4 hK => ?_)
  replace hK := hK.made (K := slcK) (n := (nN t)) (fun _ => rfl) (by simp [maxLen]; omega)
  go_upto_region 2 with (fail)
  refine wp_region_T [1, 1, 0] hK ?_
  clear hK
  refine eL m1 ?_
  refine eQ (fun w k => arcs_any w (ht.below k.old) hl) ?_
  refine e0 ?_
  refine sxEnd (fun W5 hK => ?_)
  replace hK := hK.famS (K := intK) 3; rw [lvD_zero (hN t)] at hK
  generalize hss : (List.replicate (nN t) (⟨none, 0, 0⟩ : Sl)) = ss0 at hK; clear hss
  go_wp2_with fail
  go_loopw [11] (fun s11 wl => ∃ (j : Nat) (ss : List Sl), s11 = .int .i64 (j : Int) ∧ (j ≤ arcsD t) ∧ SS w ([fX intK 29 3 ss.length (some ⟨g3, 0, none⟩) (nN t) (nN t) ss (lvD (hN t) (nN t) j), bx R1 (.cells #[.int .i64 t.nodes, .slice p_t n_t c_t, .slice q_t m_t d_t] 25)]) wl) (fun s11 _ => arcsD t - (intOf s11).toNat)
  case atStart => exact ⟨0, ss0, rfl, (by omega), hK⟩
  case round =>
   clear hK
   obtain ⟨j, ss, rfl, hj0, hK⟩ := hrel
   generalize wr = W6 at hK ⊢
   go_upto_region 3 with (fail)
   refine wp_region_T [0] hK ?_
   clear hK
   refine eB (decide (((j : Int)) < (((arcsD t : Nat) : Int)))) (fun b1 hb1 => ?_)
   refine sxEnd (fun W7 hK => ?_)
   cases b1
   · --
    have q_b1 : (((arcsD t : Nat) : Int)) ≤ ((j : Int)) := Int.not_lt.1 (of_decide_eq_false hb1.out)
    obtain rfl : j = arcsD t := by omega
    go_wp2
    try go_ret
    show Q0 (.returned (.slice (some ⟨g3, 0, none⟩) (nN t) (nN t))) _
    exact (by obtain rfl := hQ0.out; exact ⟨⟨⟨(some ⟨g3, 0, none⟩), nN t, nN t⟩, ss⟩, rfl, hK.subl (sK2 (sC2 sZ2))⟩)
   · --
    have q_b1 : ((j : Int)) < (((arcsD t : Nat) : Int)) := of_decide_eq_true hb1.out
    have hj : j < arcsD t := by omega
    go_upto_region 5 with (fail)
    refine wp_region_T [1, 0, 1, 0] hK ?_
    clear hK
    refine eL m1 ?_
    refine e0 ?_
    refine eQ (fun w k => headN_any w (ht.below k.old) j hl ht2 hj) ?_
    refine e0 ?_
    refine sxEnd (fun W8 hK => ?_)
    have hx := (arc_ok ht2 hj).2.2.2.2.1
    have i9 : hN t j < (nN t) := hx
    have l9 : hN t j < ss.length := Nat.lt_of_lt_of_eq i9 (hK.lenF m0)
    obtain ⟨s, es⟩ : ∃ x, RowKit.Hid (ss[hN t j]? = some x) := ⟨_, hid (List.getElem?_eq_getElem l9)⟩
    obtain ⟨s_p, s_l, s_c⟩ := s
    replace hK := hK.famO (Nat.le_refl _) es.out (xs := natI (selD (fun a => decide (hN t a = hN t j)) j)) (lvD_at (hN t) hx); dsimp only at hK
    go_upto_region 6 with (fail)
    refine wp_region_T [0, 0, 0, 0, 0, 1, 0, 3, 5, 0, 4] hK ?_
    clear hK
    iterate 5 refine e0 ?_
    refine eR (fun w k => ((k.fam m0).out).slc es.out) ?_
    refine e0 ?_
    refine eA (.cells #[.int .i64 (j : Int)] 3) (fun R10 => ?_)
    refine eApp 2 intK_free rfl infoZ (fun w k => k.one1 (K := intK) (x := (j : Int)) m0 rfl) (by have := sel_len (fun a => decide (hN t a = hN t j)) j; rw [natI_len]; simp; omega) (fun x11 => ?_)
    obtain ⟨p11, n11, c11⟩ := x11; dsimp only
    refine e0 ?_
    refine eWF (y := ⟨p11, n11, c11⟩) 1 l9 ?_ (hi := rfl)
    refine sxEnd (fun W12 hK => ?_)
    replace hK := hK.up2
    replace hK := hK.up2
    replace hK := hK.famB (s := ⟨p11, n11, c11⟩) (List.getElem?_set_self l9)
    rw [show (lvD (hN t) (nN t) j).set (hN t j) ((natI (selD (fun a => decide (hN t a = hN t j)) j)) ++ [(j : Int)]) = lvD (hN t) (nN t) (j + 1) from (lvD_step (hN t) (nN t) j)] at hK
    (try go_wp2)
    go_roundw
    case rel => exact ⟨j + 1, ss.set (hN t j) (⟨p11, n11, c11⟩), (by first | rfl | go_num), (by omega), (hK.subl (sK2 (sC2 (List.Sublist.refl _))))⟩
    case measure => simp [intOf] <;> omega
end Go.Proofs.YtmcfomainmppdaaGreatDoor
