/- The law of what remains when arcs go down. -/
import Derived.Test.YtokhapaffleffaaGreatDsZD
namespace Go.Proofs.YtokhapaffleffaaGreat
open Go.RowKit
open Go.Lib (decDigits)
section
variable {P : Program} {V : World} {ops : Array Oper} {Q : Act → World → Prop} {f0 fs fs' : List Ft} {ks : List Nat} {o : Oper} {rest : List Oper} {a a' : Act} {t : TypeId}
theorem eWB {g n c j : Nat} {xs : List Bool} {y : Bool} (i : Nat) (hj : j < xs.length) (h : Sx P V ops Q f0 ks rest fs' a') (hi : fs[i]? = some (rO boolK t (some ⟨g, 0, none⟩) n c xs) := by rfl) (hf : fs.set i (rO boolK t (some ⟨g, 0, none⟩) n c (xs.set j y)) = fs' := by (simp only [pB, pC]) <;> exact rfl) (hs : f0.Sublist fs' := by exact List.nil_sublist _) (hq : OzL i fs := by repeat (first | exact trivial | refine ⟨rfl, ?_⟩)) (hg : Wants ops o a := by first | exact wants0 rfl | exact wantsg rfl rfl rfl rfl)
    (h1 : ∀ w u, w.cell? ⟨g, j, none⟩ = some u → (∀ o, w.frozen? ⟨g, o, none⟩ = false) → Does P (fun u w' => u = undef ∧ w' = w.setCell ⟨g, j, none⟩ (.bool y)) ((execOp a.eval o).run P w) := by intro w' u c f; go_simp; exact ⟨rfl, rfl⟩) (ha : a.put o.dst undef = a' := by (simp only [mkOf, Act.put, pA, pB, pC, pD, pE]) <;> exact rfl) : Sx P V ops Q f0 (4 :: ks) (o :: rest) fs a :=
  sxS (R := g) (f2 := rO boolK t (some ⟨g, 0, none⟩) n c (xs.set j y)) hi rfl (fun _ h => h) (fun w k => qtZ hq) (by rw [hf]; exact hs) hg (fun w _ k => by
    obtain ⟨u, hu⟩ := OwV.some_cell k hj (j := 0) (by decide)
    refine (h1 w u (by have : j * boolK.sz + 0 = j := by show j * 1 + 0 = j; omega
                       rwa [this] at hu) (OwV.fz k)).mono fun u w' ⟨e1, e2⟩ => ?_
    have e3 : w' = putAt g (j * boolK.sz) [.bool y] w := by rw [show j * boolK.sz = j by show j * 1 = j; omega]; exact e2
    subst e3
    exact ⟨e1, ⟨_, _, rfl⟩, OwV.put k rfl hj _ (Below.refl _ _)⟩) (by rw [hf, ha]; exact h)
end
section
variable {t : TopD} {down more all : List Bool} {l : List Int} {p : List Nat} {a b d x y i j k n : Nat}
def allF (down more : List Bool) (n j : Nat) : List Bool := (List.range n).map fun a => decide (a < j) && (more.getD a false || !upD down a)
theorem allF_len : (allF down more n j).length = n := by unfold allF; simp
theorem allF_start : List.replicate n false = allF down more n 0 := by
  refine List.ext_getElem? fun k => ?_
  unfold allF
  rw [List.getElem?_map]
  by_cases h : k < n
  · rw [List.getElem?_replicate, if_pos h, List.getElem?_range h]; simp
  · rw [List.getElem?_replicate, if_neg h, List.getElem?_eq_none (by simp; omega)]; rfl
theorem allF_step {v : Bool} (hv : (more.getD j false || !upD down j) = v) : (allF down more n j).set j v = allF down more n (j + 1) := by
  refine List.ext_getElem? fun k => ?_
  rw [List.getElem?_set]
  by_cases h : k < n
  · have e : ∀ i, (allF down more n i)[k]? = some (decide (k < i) && (more.getD k false || !upD down k)) := fun i => by
      unfold allF; rw [List.getElem?_map, List.getElem?_range h]; rfl
    rw [e, e]
    by_cases hk : j = k
    · subst hk
      rw [if_pos rfl, if_pos (by rw [allF_len]; exact h), hv, decide_eq_true (Nat.lt_succ_self j)]; rfl
    · rw [if_neg hk]
      congr 2
      exact decide_eq_decide.2 (by omega)
  · rw [List.getElem?_eq_none (by rw [allF_len]; omega), List.getElem?_eq_none (by rw [allF_len]; omega)]
    split
    · rw [if_neg (by rw [allF_len]; omega)]
    · rfl
theorem allF_at (h : a < n) : (allF down more n n).getD a false = (more.getD a false || !upD down a) := by
  unfold allF
  rw [List.getD_eq_getElem?_getD, List.getElem?_map, List.getElem?_range h]
  simp [h]
theorem allF_up (h : a < n) : upD (allF down more n n) a = true ↔ more.getD a false = false ∧ upD down a = true := by
  rw [show upD (allF down more n n) a = (decide ((allF down more n n).length = 0) || !(allF down more n n).getD a false) from rfl, allF_len, decide_eq_false (by omega), allF_at h]
  cases more.getD a false <;> cases upD down a <;> simp
theorem remains_ok {n d : Int} (hun : unqR t down n d = true) (hP : PthP t down n d) (hal : all.length = arcsD t) (hs : ∀ a, a < arcsD t → upD all a = true → upD down a = true) (hp : ∀ a ∈ pthR t down n d, upD all a = true) (hP2 : PthP t all n d) :
    chkS t all n d = 0 ∧ pthR t all n d = pthR t down n d ∧ unqR t all n d = true := by
  obtain ⟨_, hU⟩ := unq_path hun hP
  have hcn := (unq_iff.1 hun).1
  obtain ⟨hcd, h1, h2⟩ := chkN_ok hcn
  obtain ⟨ht, _, h3, h4⟩ := chk_ok hcd
  have hf : fitsD t all = true := by unfold fitsD; rw [ht, decide_eq_true (.inr (by rw [hal]; rfl))]; rfl
  have hcd2 : chkD t all [d] = 0 := by
    unfold chkD
    rw [if_pos hf, if_pos]
    rw [List.all_cons, List.all_nil, Bool.and_true, Bool.and_eq_true, decide_eq_true_iff, decide_eq_true_iff]
    exact ⟨h3, h4⟩
  obtain ⟨m, rfl⟩ : ∃ m : Nat, n = (m : Int) := ⟨n.toNat, (Int.toNat_of_nonneg h1).symm⟩
  have hcn2 : chkN t all (m : Int) d = 0 := (if_pos hcd2).trans (if_pos ⟨h1, h2⟩)
  have hk := uni_keep ht (hP.1 hcd) (hP2.1 hcd2) hs _ _ hU hp
  obtain ⟨q1, q2, q3⟩ := unq_of_uni ht hcn2 (hP2.1 hcd2) hk.2
  exact ⟨q2, q3, q1⟩
theorem up_all (_hal : more.length = arcsD t) (hU : UniP t down l d x p y) (hno : ∀ a, a < arcsD t → more.getD a false = true → a ∉ p) : ∀ a ∈ p, upD (allF down more (arcsD t) (arcsD t)) a = true := fun a ha => by
  obtain ⟨z, hz⟩ := uni_mem hU ha
  obtain ⟨h1, _, h2⟩ := mem_nxt.1 hz
  refine (allF_up h1).2 ⟨?_, (on_three h2).1⟩
  cases e : more.getD a false with
  | false => rfl
  | true => exact absurd ha (hno a h1 e)
end
set_option maxRecDepth 100000 in
set_option maxHeartbeats 1000000 in
theorem lawRemains_any (w : World) {v_t : Value} {t : TopD} (ht : TopV w v_t t) {p_d : Option Addr} {n_d c_d : Nat} {down : List Bool} (hd : SlV boolK w (.slice p_d n_d c_d) down) {p_mo : Option Addr} {n_mo c_mo : Nat} {more : List Bool} (hmo : SlV boolK w (.slice p_mo n_mo c_mo) more) (n d : Int)  :
    Calls Tryz.prog 8 #[v_t, .slice p_d n_d c_d, .slice p_mo n_mo c_mo, .agg #[.int .i64 n, .int .i64 d]] w fun e w' => e = .returned (.bool true) ∧ Below w.heap.size w w' := by
  have ht_0 := ht
  obtain ⟨p_t, n_t, c_t, q_t, m_t, d_t, rfl, ht_1, ht_2⟩ := ht_0
  have hK := SS.start w
  refine Calls.hide (fun Q0 hQ0 => ?_)
  go_enter Tryz.func8, Tryz.ntmps8
  go_upto_region 0 with (fail)
  refine wp_region_T [3, 3, 0] hK ?_
  clear hK
  refine eA (.cells #[.int .i64 t.nodes, .slice p_t n_t c_t, .slice q_t m_t d_t] 25) (fun R1 => ?_)
  refine eA (.cells #[.int .i64 n, .int .i64 d] 26) (fun R2 => ?_)
  refine e0 ?_
  refine sxEnd (fun W3 hK => ?_)
  go_upto_region 1 with (fail)
  refine wp_region_T [1, 0] hK ?_
  clear hK
  refine eQ (fun w k => awake_any w  ) ?_
  refine e0 ?_
  refine sxEnd (fun W4 hK => ?_)
  go_upto_region 3 with (fail)
  refine wp_region_T [1, 0, 1, 0, 1, 0, 1, 0, 0, 0, 0, 0, 0, 1, 0, 0, 0, 0, 0, 1, 0, 0, 1, 0, 1, 1, 0, 0] hK ?_
  clear hK
  refine eL m1 ?_
  refine e0 ?_
  obtain ⟨b1, hb1⟩ : ∃ z9 : Bool, RowKit.Hid ((largeD t down) = z9) := ⟨_, hid rfl⟩
  refine eQ (v := .bool b1) (fun w k => large_any w (ht.below k.old) (hd.below k.old) ) ?_ (hv := by rw [hb1.out])
  refine e0 ?_
  cases b1
  · --
   have hlg := hid (show ¬ (100 < t.over.length ∨ 24 < t.links.length ∨ 100 < down.length ∨ 16 < t.nodes) from of_decide_eq_false (show largeD t down = false from hb1.out)); have hl : t.links.length ≤ 100000 := (by have := hlg.out; omega); have hl2 : t.links.length ≤ 24 := (by have := hlg.out; omega); have b_t : m_t ≤ 100000 := (by rw [ht_2.one0]; exact hl); have a_t : arcsD t ≤ 200000 := (by unfold arcsD; omega)
   refine eL m1 ?_
   refine e0 ?_
   obtain ⟨b2, hb2⟩ : ∃ z9 : Bool, RowKit.Hid ((fitsD t down) = z9) := ⟨_, hid rfl⟩
   refine eQ (v := .bool b2) (fun w k => rfits_any w (ht.below k.old) (hd.below k.old) hl) ?_ (hv := by rw [hb2.out])
   iterate 3 refine e0 ?_
   cases b2
   · --
    iterate 7 refine eN ?_
    iterate 2 refine e0 ?_
    iterate 8 refine eN ?_
    refine e0 ?_
    refine sxEnd (fun W5 hK => ?_)
    go_wp2
    try go_ret
    show Q0 (.returned (.bool true)) _
    exact (by obtain rfl := hQ0.out; exact ⟨rfl, hK.old⟩)
   · --
    iterate 3 refine e0 ?_
    refine eL m1 ?_
    refine e0 ?_
    refine eV (.int .i64 ((arcsD t : Nat) : Int)) (fun w' => by go_simp; (try go_bits); exact ⟨congrArg (Value.int .i64) (by unfold arcsD; have := ht_2.one0; first | omega | (unfold wrap64; omega)), rfl⟩) ?_
    refine eB (((n_mo : Int)) != (((arcsD t : Nat) : Int))) (fun b3 hb3 => ?_)
    iterate 2 refine e0 ?_
    cases b3
    · --
     refine eL m1 ?_
     iterate 2 refine e0 ?_
     refine eL m0 ?_
     refine e0 ?_
     refine eL m0 ?_
     obtain ⟨b4, hb4⟩ : ∃ z9 : Bool, RowKit.Hid ((unqR t down n d) = z9) := ⟨_, hid rfl⟩
     refine eQ (v := .bool b4) (fun w k => unique_any w (ht.below k.old) (hd.below k.old) n d hl) ?_ (hv := by rw [hb4.out])
     iterate 2 refine e0 ?_
     refine sxEnd (fun W6 hK => ?_)
     cases b4
     · --
      go_wp2
      try go_ret
      show Q0 (.returned (.bool true)) _
      exact (by obtain rfl := hQ0.out; exact ⟨rfl, hK.old⟩)
     · --
      go_upto_region 5 with (fail)
      refine wp_region_T [1, 0, 0, 1, 0, 1, 2, 0, 0, 0, 0, 0] hK ?_
      clear hK
      refine eL m1 ?_
      iterate 2 refine e0 ?_
      refine eL m0 ?_
      refine e0 ?_
      refine eL m0 ?_
      refine eC (fun w k => rpath_any w (ht.below k.old) (hd.below k.old) n d hl) (fun x7 => ?_)
      obtain ⟨p8, n8, c8⟩ := x7; dsimp only
      iterate 5 refine e0 ?_
      refine sxEnd (fun W9 hK => ?_)
      have hun := hid (show unqR t down n d = true from hb4.out); have hP := hid (hK.get m1); have hUP := hid (unq_path hun.out hP.out); have hcd := hid (chkN_ok (unq_iff.1 hun.out).1).1; have ht2 := (chk_ok hcd.out).1; have hI := hid (hP.out.1 hcd.out); have hpl := NxP.short ht2 hI.out hUP.out.2.fst.nx (by have h1 := NxP.cost ht2 hUP.out.2.fst.nx; have h2 := cost_nn (t := t) (p := pthR t down n d); rw [hI.out.root] at h1; omega); have hnm := (topN ht2).2.2.1; have hpn := hid ((hK.len m0).trans (natI_len _)); have hpn1 := Nat.le_of_eq hpn.out; have hpn2 := Nat.le_of_eq hpn.out.symm
      have hdl := hid (show down.length = 0 ∨ down.length = arcsD t from (chk_ok hcd.out).2.1); have hmn := hid (show n_mo = arcsD t by have qb1 := hb1.out; (try simp at qb1); have qb2 := hb2.out; (try simp at qb2); have qb3 := hb3.out; (try simp at qb3); have qb4 := hb4.out; (try simp at qb4); omega); have hmn1 := Nat.le_of_eq hmn.out; have hmn2 := Nat.le_of_eq hmn.out.symm; have hml := hid (hmo.one0.symm.trans hmn.out)
      have hO11 := hK.slv m0
      have hO12 := hK.box m2
      have hO13 := hK.box m3
      have hB10 := hK.old
      have hKo := hK.old; clear hK; have hK := SS.start W9
      replace ht := ht.below hKo
      replace ht_1 := ht_1.below hKo
      replace ht_2 := ht_2.below hKo
      replace hd := hd.below hKo
      replace hmo := hmo.below hKo
      clear hKo
      go_upto_region 6 with (fail)
      refine wp_region_T [0, 0, 3, 0] hK ?_
      clear hK
      iterate 2 refine e0 ?_
      refine eMk (K := boolK) (t := 4) (x := false) n_mo (fun _ => rfl) rfl infoT (by show n_mo * 1 ≤ _; omega) (by decide) (fun g14 => ?_)
      refine e0 ?_
      refine sxEnd (fun W15 hK => ?_)
      replace hK := hK.made (K := boolK) (n := n_mo) (fun _ => rfl) (by simp [maxLen]; omega)
      rw [show List.replicate n_mo false = allF down more n_mo 0 from allF_start] at hK
      go_wp2_with fail
      go_loopw [60] (fun s60 wl => ∃ (j : Nat), s60 = .int .i64 (j : Int) ∧ (j ≤ n_mo) ∧ RowKit.Hid (∀ a, a < j → more.getD a false = true → a ∉ pthR t down n d) ∧ SS W9 ([rO boolK 4 (some ⟨g14, 0, none⟩) n_mo n_mo (allF down more n_mo j)]) wl) (fun s60 _ => n_mo - (intOf s60).toNat)
      case atStart => exact ⟨0, rfl, (by omega), hid (fun a ha => absurd ha (Nat.not_lt_zero _)), hK⟩
      case round =>
       clear hK
       obtain ⟨j, rfl, hj0, h_no, hK⟩ := hrel
       generalize wr = W16 at hK ⊢
       go_upto_region 8 with (fail)
       refine wp_region_T [0] hK ?_
       clear hK
       refine eB (decide (((j : Int)) < ((n_mo : Int)))) (fun b5 hb5 => ?_)
       refine sxEnd (fun W17 hK => ?_)
       cases b5
       · --
        have q_b5 : ((n_mo : Int)) ≤ ((j : Int)) := Int.not_lt.1 (of_decide_eq_false hb5.out)
        obtain rfl : n_mo = j := by have qb5 := hb5.out; (try simp at qb5); omega
        go_upto_region 14 with (fail)
        refine wp_region_T [0, 0, 0, 0, 0, 0, 2, 0, 0, 0, 0, 0] hK ?_
        clear hK
        refine eX0 (fun w k => hO13.below k.old) ?_
        iterate 2 refine e0 ?_
        refine eX0 (fun w k => hO12.below k.old) ?_
        refine e0 ?_
        refine eX0 (fun w k => hO12.below k.old) ?_
        refine eC (fun w k => rpath_any w (ht.below k.old) (k.slv m0) n d hl) (fun x18 => ?_)
        obtain ⟨p19, n19, c19⟩ := x18; dsimp only
        iterate 5 refine e0 ?_
        refine sxEnd (fun W20 hK => ?_)
        have hro := hid (remains_ok hun.out hP.out (all := allF down more n_mo n_mo) (by rw [allF_len]; exact hmn.out) (fun a ha h => ((allF_up (by omega)).1 h).2) (by rw [hmn.out]; exact up_all hml.out hUP.out.2 (fun a ha => h_no.out a (by omega))) (hK.get m1)); have hpol : (pthR t (allF down more n_mo n_mo) n d).length ≤ 64 := (by rw [hro.out.2.1]; omega)
        go_upto_region 15 with (fail)
        refine wp_region_T [0, 0, 0, 0, 0, 0, 0, 0, 0, 1, 0, 0, 0, 0, 0, 0, 0, 0, 1, 0, 0] hK ?_
        clear hK
        refine e0 ?_
        refine eB (((chkS t down n d)) == 0) (fun b6 hb6 => ?_)
        refine e0 ?_
        cases b6
        · --
         exact absurd hb6.out (by rw [hUP.out.1]; decide)
        · --
         refine e0 ?_
         refine eB (((chkS t (allF down more n_mo n_mo) n d)) == 0) (fun b7 hb7 => ?_)
         iterate 2 refine e0 ?_
         cases b7
         · --
          exact absurd hb7.out (by rw [hro.out.1]; decide)
         · --
          iterate 2 refine e0 ?_
          obtain ⟨b8, hb8⟩ : ∃ z9 : Bool, RowKit.Hid ((decide ((natI (pthR t down n d)) = (natI (pthR t (allF down more n_mo n_mo) n d)))) = z9) := ⟨_, hid rfl⟩
          refine eQ (v := .bool b8) (fun w k => same_any w (hO11.below k.old) (k.slv m0) (by rw [natI_len]; omega) (by rw [natI_len]; omega)) ?_ (hv := by rw [hb8.out])
          iterate 2 refine e0 ?_
          cases b8
          · --
           exact absurd hb8.out (by rw [hro.out.2.1]; simp)
          · --
           refine eX0 (fun w k => hO13.below k.old) ?_
           iterate 2 refine e0 ?_
           refine eX0 (fun w k => hO12.below k.old) ?_
           refine e0 ?_
           refine eX0 (fun w k => hO12.below k.old) ?_
           obtain ⟨b9, hb9⟩ : ∃ z9 : Bool, RowKit.Hid ((unqR t (allF down more n_mo n_mo) n d) = z9) := ⟨_, hid rfl⟩
           refine eQ (v := .bool b9) (fun w k => unique_any w (ht.below k.old) (k.slv m2) n d hl) ?_ (hv := by rw [hb9.out])
           iterate 2 refine e0 ?_
           refine sxEnd (fun W21 hK => ?_)
           go_wp2
           try go_ret
           show Q0 (.returned (.bool b9)) _
           exact (by obtain rfl := hQ0.out; exact ⟨congrArg (fun z => Ending.returned (.bool z)) (by rw [← hb9.out]; exact hro.out.2.2), hB10.trans (hK.old.mono hB10.size)⟩)
       · --
        have q_b5 : ((j : Int)) < ((n_mo : Int)) := of_decide_eq_true hb5.out
        have hj : j < n_mo := by omega
        have hall := allF_len (down := down) (more := more) (n := n_mo) (j := j)
        have i22 : j < n_mo := (by omega)
        have l22 : j < (allF down more n_mo j).length := Nat.lt_of_lt_of_eq i22 (hK.len m0)
        obtain ⟨y, ey⟩ : ∃ z0, RowKit.Hid ((allF down more n_mo j)[j]? = some z0) := ⟨_, hid (List.getElem?_eq_getElem l22)⟩
        have i23 : j < n_mo := hj
        obtain ⟨g23, o23, rfl⟩ := hmo.pt i23
        have l23 : j < more.length := Nat.lt_of_lt_of_eq i23 (hmo.one0)
        obtain ⟨x, ex⟩ : ∃ z0, RowKit.Hid (more[j]? = some z0) := ⟨_, hid (List.getElem?_eq_getElem l23)⟩
        replace hall := hid hall
        go_upto_region 10 with (fail)
        refine wp_region_T [0, 0, 0, 0, 0, 0, 0, 0, 0, 1, 0, 0, 0, 4] hK ?_
        clear hK
        iterate 5 refine e0 ?_
        refine eR0 (fun w k => (hmo.below k.old).bool ex.out) ?_
        refine e0 ?_
        cases x
        · --
         iterate 2 refine e0 ?_
         obtain ⟨b6, hb6⟩ : ∃ z9 : Bool, RowKit.Hid ((upD down j) = z9) := ⟨_, hid rfl⟩
         refine eQ (v := .bool b6) (fun w k => rup_any w (hd.below k.old) j (by have := hdl.out; omega)) ?_ (hv := by rw [hb6.out])
         iterate 3 refine e0 ?_
         refine eWB (y := (!b6)) 0 l22 ?_ (hi := rfl)
         refine sxEnd (fun W24 hK => ?_)
         go_upto_region 11 with (fail)
         refine wp_region_T [0, 0, 0, 0, 0, 0, 0, 0, 0] hK ?_
         clear hK
         iterate 3 refine e0 ?_
         refine eR0 (fun w k => (hmo.below k.old).bool ex.out) ?_
         refine e0 ?_
         iterate 3 refine eN ?_
         refine e0 ?_
         refine sxEnd (fun W25 hK => ?_)
         have hst := hid (allF_step (n := n_mo) (j := j) (down := down) (more := more) (v := (!b6)) (by rw [List.getD_eq_getElem?_getD, ex.out]; show (false || !upD down j) = _; rw [hb6.out]; rfl))
         rw [show (allF down more n_mo j).set j (!b6) = allF down more n_mo (j + 1) from hst.out] at hK
         (try go_wp2)
         go_roundw
         case rel => exact ⟨j + 1, (by first | rfl | go_num), (by omega), hid fun a ha ht => by
   rcases Nat.lt_succ_iff_lt_or_eq.1 ha with ha | rfl
   · exact h_no.out a ha ht
   · rw [List.getD_eq_getElem?_getD, ex.out] at ht; exact Bool.noConfusion ht, hK⟩
         case measure => simp [intOf] <;> omega
        · --
         iterate 4 refine eN ?_
         iterate 2 refine e0 ?_
         refine eWB (y := true) 0 l22 ?_ (hi := rfl)
         refine sxEnd (fun W26 hK => ?_)
         go_upto_region 11 with (fail)
         refine wp_region_T [0, 0, 0, 0, 0, 0, 0, 1, 0] hK ?_
         clear hK
         iterate 3 refine e0 ?_
         refine eR0 (fun w k => (hmo.below k.old).bool ex.out) ?_
         iterate 3 refine e0 ?_
         obtain ⟨b6, hb6⟩ : ∃ z9 : Bool, RowKit.Hid ((decide ((j : Int) ∈ (natI (pthR t down n d)))) = z9) := ⟨_, hid rfl⟩
         refine eQ (v := .bool b6) (fun w k => has_any w (hO11.below k.old) (j : Int) (by rw [natI_len]; omega)) ?_ (hv := by rw [hb6.out])
         refine e0 ?_
         refine sxEnd (fun W27 hK => ?_)
         cases b6
         · --
          have hst := hid (allF_step (n := n_mo) (j := j) (down := down) (more := more) (v := true) (by rw [List.getD_eq_getElem?_getD, ex.out]; rfl))
          rw [show (allF down more n_mo j).set j true = allF down more n_mo (j + 1) from hst.out] at hK
          (try go_wp2)
          go_roundw
          case rel => exact ⟨j + 1, (by first | rfl | go_num), (by omega), hid fun a ha ht => by
   rcases Nat.lt_succ_iff_lt_or_eq.1 ha with ha | rfl
   · exact h_no.out a ha ht
   · have q := hb6.out; intro w; exact absurd (mem_natI.2 w) (of_decide_eq_false q), hK⟩
          case measure => simp [intOf] <;> omega
         · --
          go_wp2
          try go_ret
          show Q0 (.returned (.bool true)) _
          exact (by obtain rfl := hQ0.out; exact ⟨rfl, hB10.trans (hK.old.mono hB10.size)⟩)
    · --
     iterate 8 refine eN ?_
     refine e0 ?_
     refine sxEnd (fun W28 hK => ?_)
     go_wp2
     try go_ret
     show Q0 (.returned (.bool true)) _
     exact (by obtain rfl := hQ0.out; exact ⟨rfl, hK.old⟩)
  · --
   iterate 4 refine eN ?_
   iterate 2 refine e0 ?_
   iterate 7 refine eN ?_
   iterate 2 refine e0 ?_
   iterate 8 refine eN ?_
   refine e0 ?_
   refine sxEnd (fun W29 hK => ?_)
   go_wp2
   try go_ret
   show Q0 (.returned (.bool true)) _
   exact (by obtain rfl := hQ0.out; exact ⟨rfl, hK.old⟩)
end Go.Proofs.YtokhapaffleffaaGreat
