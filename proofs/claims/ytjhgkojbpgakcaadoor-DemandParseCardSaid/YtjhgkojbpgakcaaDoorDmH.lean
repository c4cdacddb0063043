/- Demands: Parse. -/
import Derived.Test.YtjhgkojbpgakcaaDoorDmG
import Derived.Laws.EntriesVeiled
import Derived.Sort.CutIn
import Derived.Shelf.RegionOpen
namespace Go.Proofs.YtjhgkojbpgakcaaDoor
open Go.RowKit
open Go.Shelf
open Go.Lib (decDigits)
attribute [local go_sem] Oper.semAt_some
set_option maxRecDepth 100000 in
theorem lines_any (w : World) (l : List UInt8)  :
    Calls Tryd.prog 20 #[.string ⟨l.toArray⟩] w fun e w' => ∃ b : Nat, e = .returned (.func (.func 38) #[] #[.pointer (some ⟨b, 0, none⟩)]) ∧ SS w [SB b l] w' := by
  have hK := SS.start w
  refine Calls.hide (fun Q0 hQ0 => ?_)
  go_enter Tryd.func20, Tryd.ntmps20
  go_upto_region 0 with (fail)
  refine wp_region_T [3, 0] hK ?_
  clear hK
  refine eA (.cells #[.string ⟨l.toArray⟩] 9) (fun R1 => ?_)
  refine e0 ?_
  refine sxEnd (fun W2 hK => ?_)
  go_wp2
  try go_ret
  show Q0 (.returned (.func (.func 38) #[] #[.pointer (some ⟨R1, 0, none⟩)])) _
  exact (by obtain rfl := hQ0.out; exact ⟨_, rfl, hK⟩)
section
variable {σ : Type} {V : World} {b : Nat} {X : List Ft} {G Gx : σ → List Ft} {Rel Rx : List (List UInt8) → σ → Prop} {xs : List (List UInt8)} {r : List UInt8} {a : Act} {W : World}
theorem LpPost.nn (s : σ) (h1 : Rel xs s) (h2 : SS V (SB b r :: (G s ++ X)) W) : LpPost V b X G Gx Rel Rx xs r .normal a W := ⟨s, h1, h2⟩
theorem LpPost.rr (s : σ) (h1 : Rx xs s) (h2 : SS V (Gx s ++ X) W) : LpPost V b X G Gx Rel Rx xs r .ret a W := ⟨s, h1, h2⟩
end
section
variable {R : Ending → World → Prop} {a : Act} {W V : World} {fs : List Ft} {D R1 R2 : Nat} {p : Option Addr} {n c : Nat} {e : Int}
set_option maxRecDepth 100000 in
theorem parse_end {fn : Func} (hfn : fn.results = #[.cell 2 22, .cell 3 25]) (hD : a.defers = [{ target := .collected D, args := #[] }]) (h2 : a.tmps.getD 2 undef = .pointer (some ⟨R1, 0, none⟩)) (h3 : a.tmps.getD 3 undef = .pointer (some ⟨R2, 0, none⟩)) 
    (hK : SS V (bx D (.deferred (some [])) :: bx R1 (.cells #[.slice p n c] 22) :: bx R2 (.cells #[.int .i64 e] 25) :: fs) W) (hz : OzA fs) (hR : ∀ W', SS V fs W' → R (.returned (.tuple #[.slice p n c, .int .i64 e])) W') :
    bodyPostM Fence.wide 0 Tryd.prog fn R .ret a W := by
  show LeavesInM _ _ _ _ _ _ a.defers .returning W
  rw [hD]
  rw [Array.getD_eq_getD_getElem?] at h2 h3
  have hK2 := hK.putO (o' := .deferred none) ⟨rfl, rfl, hz⟩
  have c1 := (hK2.box m1).at 0 rfl
  have c2 := (hK2.box m2).at 0 rfl
  have ht := run_takeDeferred (P := Tryd.prog) (hK.box m0).2
  generalize W.putObj D (.deferred none) = W2 at hK2 c1 c2 ht
  refine ⟨by simp, .inl ⟨_, W2, rfl, ht, ⟨.tuple #[.slice p n c, .int .i64 e], ?_, hR _ (hK2.subl (sC2 (sC2 (sC2 (List.Sublist.refl _)))))⟩⟩⟩
  simp [results, hfn, go_sem, h2, h3, c1, c2]
end
set_option maxRecDepth 100000 in
set_option maxHeartbeats 4000000 in
theorem parse_any (V : World) (l : List UInt8) (hl : l.length ≤ 90000) (hBs : BasR V) (hTb : Tab V) :
    Calls Tryd.prog 8 #[.string ⟨l.toArray⟩] V fun e w' => ∃ s9 : Sl, e = .returned (.tuple #[.slice s9.p s9.l s9.c, .int .i64 (prsE l)]) ∧ SS V [rO demK 33 s9.p s9.l s9.c (prsL l)] w' := by
  refine (callsIn_wide (n := 0)).1 ?_
  refine callsIn_of_wp_marks Tryd.func8 rfl trivial ?_ rfl
  simp only [Tryd.ntmps8, List.size_toArray, List.length_cons, List.length_nil, Nat.reduceAdd, Nat.reduceSub, Array.replicate_succ, Array.replicate_zero, List.push_toArray, List.append_toArray, List.nil_append, List.cons_append]
  have hK := SS.start V
  gi_upto_region 0 with (fail)
  refine wpIn_region_T (wide_wide _ _) [3, 3] hK ?_
  clear hK
  refine eA (.cells #[.slice none 0 0] 22) (fun R1 => ?_)
  refine eA (.cells #[.int .i64 0] 25) (fun R2 => ?_)
  refine sxEnd (fun W3 hK => ?_)
  gi_upto_region 1 with (fail)
  refine wpIn_region_T (wide_wide _ _) [3] hK ?_
  clear hK
  refine eA (.cells #[.slice none 0 0] 22) (fun R4 => ?_)
  refine sxEnd (fun W5 hK => ?_)
  gi_upto_region 2 with (fail)
  refine wpIn_region_T (wide_wide _ _) [0, 2] hK ?_
  clear hK
  refine e0 ?_
  refine eC (fun w k => lines_any w l) (fun x6 => ?_)
  refine sxEnd (fun W7 hK => ?_)
  gi_wp2_with (fail)
  rename_i Q' K hQK
  replace hK := hK.fact (rO demK 33 none 0 0 ([] : List Dm)) OwV.nil (fun _ h => by cases h)
  replace hK := hK.up4
  replace hK := hK.up4
  replace hK := hK.up4
  replace hK := hK.up3
  replace hK := hK.up4
  refine wp_range_S (σ := Sl × List Dm) (b := x6) (G := fun s => [rO demK 33 s.1.p s.1.l s.1.c s.2, bx R4 (.cells #[.slice s.1.p s.1.l s.1.c] 22), bx R2 (.cells #[.int .i64 0] 25), bx R1 (.cells #[.slice none 0 0] 22)]) (Gx := fun _ => [bx R2 (.cells #[.int .i64 3] 25), bx R1 (.cells #[.slice none 0 0] 22)]) (Rel := fun pre s => s.2 = pre.map lnP ∧ GoodL pre) (Rx := fun pre _ => BadL pre) (txt := l) (s0 := (⟨none, 0, 0⟩, [])) rfl (fun x => { tmps := #[.string ⟨l.toArray⟩, undef, .pointer (some ⟨R1, 0, none⟩), .pointer (some ⟨R2, 0, none⟩), .pointer (some ⟨R4, 0, none⟩), .string ⟨x.toArray⟩, undef, undef, undef, .string ⟨l.toArray⟩, .func (.func 38) #[] #[.pointer (some ⟨x6, 0, none⟩)], .string ⟨x.toArray⟩, undef, undef, undef, undef, undef, undef, undef, undef, undef, undef, undef, undef, undef, undef, undef, undef, undef, undef, undef, undef, undef, undef, undef, undef, undef, undef, undef, undef, undef, undef, undef, undef, undef, undef], defers := [] }) (fun _ => ⟨rfl, rfl, rfl, rfl, trivial⟩) (fun _ => ⟨rfl, rfl, trivial⟩) (by omega) ⟨rfl, GoodL.nil⟩ hK ?assign ?body ?done ?stop
  case assign =>
   clear hK
   intro lp m x W
   gi_wp2
   first | exact ⟨rfl, rfl⟩ | simp
  case body =>
   clear hK
   rintro lp m X pre x r ⟨⟨p0, n0, c0⟩, xs⟩ W hz hx ⟨hxs, hg⟩ hK
   have hK : SS V ((bx x6 (.cells #[.string ⟨r.toArray⟩] 9)) :: (rO demK 33 p0 n0 c0 xs) :: (bx R4 (.cells #[.slice p0 n0 c0] 22)) :: (bx R2 (.cells #[.int .i64 0] 25)) :: (bx R1 (.cells #[.slice none 0 0] 22)) :: X) W := hK
   dsimp only at hxs
   have hn0 : RowKit.Hid (n0 = pre.length) := hid (by have q := hK.len m1; rw [hxs, List.length_map] at q; exact q)
   have hxl : xs.length ≤ 64 := by rw [hxs, List.length_map]; exact hg.2
   gi_upto_region 4 with (fail)
   refine wpIn_region_T (wide_round _ _ _) [0, 1, 3, 4] hK ?_
   clear hK
   refine e0 ?_
   refine eQ (fun w k => trim_q x w (by omega)) ?_
   refine eA (.cells #[.string ⟨#[]⟩] 9) (fun R8 => ?_)
   refine eP 0 0 [.string ⟨(trimN x).toArray⟩] ?_
   refine sxEnd (fun W9 hK => ?_)
   gi_upto_region 5 with (fail)
   refine wpIn_region_T (wide_round _ _ _) [0, 3, 4] hK ?_
   clear hK
   refine e0 ?_
   refine eA (.cells #[.nilFunc] 47) (fun R10 => ?_)
   refine eP 0 0 [.func (.func 22) #[] #[.pointer (some ⟨R8, 0, none⟩)]] ?_
   refine sxEnd (fun W11 hK => ?_)
   gi_upto_region 7 with (fail)
   refine wpIn_region_T (wide_round _ _ _) [1, 4, 0, 0, 1, 0, 0, 0] hK ?_
   clear hK
   refine eL m0 ?_
   refine eM (fun w k => next_any w V ((bx R10 (.cells #[.func (.func 22) #[] #[.pointer (some ⟨R8, 0, none⟩)]] 47)) :: (bx x6 (.cells #[.string ⟨r.toArray⟩] 9)) :: (rO demK 33 p0 n0 c0 xs) :: (bx R4 (.cells #[.slice p0 n0 c0] 22)) :: (bx R2 (.cells #[.int .i64 0] 25)) :: (bx R1 (.cells #[.slice none 0 0] 22)) :: X) k.up1 ⟨rfl, rfl, rfl, rfl, rfl, rfl, hz⟩ hBs (by exact Nat.le_trans (trim_len x) (by omega))) (fun x12 => ?_)
   obtain ⟨b1, hb1⟩ : ∃ z9 : Bool, RowKit.Hid ((!decide (cutL 32 (trimN x) = ([100, 101, 109, 97, 110, 100] : List UInt8))) = z9) := ⟨_, hid rfl⟩
   refine eV (.bool b1) (fun w' => by go_simp; (try go_bits); exact ⟨congrArg Value.bool (by rw [← hb1.out]; simp [txl_nil, txl_eq]), rfl⟩) ?_
   refine e0 ?_
   cases b1
   · --
    refine eL m4 ?_
    refine e0 ?_
    refine eB (((n0 : Int)) == 64) (fun b2 hb2 => ?_)
    refine e0 ?_
    refine sxEnd (fun W13 hK => ?_)
    cases b2
    · --
     gi_upto_region 9 with (fail)
     refine wpIn_region_L (wide_round _ _ _) _ [0, 0, 4, 0, 4, 0, 4, 0, 4, 0, 3, 5] hK ?_ (sC2 (sK2 (sK2 (sC2 (List.Sublist.refl _)))))
     dsimp only [initO, lastO]
     clear hK
     refine eL0 m2 ?_
     refine e0 ?_
     refine eM (fun w k => numb_any w V ((bx x6 (.cells #[.string ⟨r.toArray⟩] 9)) :: (rO demK 33 p0 n0 c0 xs) :: (bx R4 (.cells #[.slice p0 n0 c0] 22)) :: (bx R2 (.cells #[.int .i64 0] 25)) :: (bx R1 (.cells #[.slice none 0 0] 22)) :: X) k.up1 ⟨rfl, rfl, rfl, rfl, rfl, hz⟩ hBs (by exact Nat.le_trans (cutR_len 32 _) (by exact Nat.le_trans (trim_len x) (by omega)))) (fun x14 => ?_) (hs := fun _ => (sK2 (sC2 (sK2 (sC2 (List.Sublist.refl _))))))
     refine e0 ?_
     refine eM (fun w k => numb_any w V ((bx x6 (.cells #[.string ⟨r.toArray⟩] 9)) :: (rO demK 33 p0 n0 c0 xs) :: (bx R4 (.cells #[.slice p0 n0 c0] 22)) :: (bx R2 (.cells #[.int .i64 0] 25)) :: (bx R1 (.cells #[.slice none 0 0] 22)) :: X) k.up1.up1 ⟨rfl, rfl, rfl, rfl, rfl, hz⟩ hBs (by exact Nat.le_trans (cutR_len 32 _) (by exact Nat.le_trans (cutR_len 32 _) (by exact Nat.le_trans (trim_len x) (by omega))))) (fun x15 => ?_) (hs := fun _ => (sK2 (sC2 (sK2 (sC2 (List.Sublist.refl _))))))
     refine e0 ?_
     refine eM (fun w k => numb_any w V ((bx x6 (.cells #[.string ⟨r.toArray⟩] 9)) :: (rO demK 33 p0 n0 c0 xs) :: (bx R4 (.cells #[.slice p0 n0 c0] 22)) :: (bx R2 (.cells #[.int .i64 0] 25)) :: (bx R1 (.cells #[.slice none 0 0] 22)) :: X) k.up1.up1 ⟨rfl, rfl, rfl, rfl, rfl, hz⟩ hBs (by exact Nat.le_trans (cutR_len 32 _) (by exact Nat.le_trans (cutR_len 32 _) (by exact Nat.le_trans (cutR_len 32 _) (by exact Nat.le_trans (trim_len x) (by omega)))))) (fun x16 => ?_) (hs := fun _ => (sK2 (sC2 (sK2 (sC2 (List.Sublist.refl _))))))
     refine e0 ?_
     refine eM (fun w k => numb_any w V ((bx x6 (.cells #[.string ⟨r.toArray⟩] 9)) :: (rO demK 33 p0 n0 c0 xs) :: (bx R4 (.cells #[.slice p0 n0 c0] 22)) :: (bx R2 (.cells #[.int .i64 0] 25)) :: (bx R1 (.cells #[.slice none 0 0] 22)) :: X) k.up1.up1 ⟨rfl, rfl, rfl, rfl, rfl, hz⟩ hBs (by exact Nat.le_trans (cutR_len 32 _) (by exact Nat.le_trans (cutR_len 32 _) (by exact Nat.le_trans (cutR_len 32 _) (by exact Nat.le_trans (cutR_len 32 _) (by exact Nat.le_trans (trim_len x) (by omega))))))) (fun x17 => ?_) (hs := fun _ => (sK2 (sC2 (sK2 (sC2 (List.Sublist.refl _))))))
     refine e0 ?_
     refine eA (.cells #[.int .i64 (nmD (cutL 32 (cutR 32 (trimN x)))), .int .i64 (nmD (cutL 32 (cutR 32 (cutR 32 (trimN x))))), .int .i64 (nmD (cutL 32 (cutR 32 (cutR 32 (cutR 32 (trimN x)))))), .int .i64 (nmD (cutL 32 (cutR 32 (cutR 32 (cutR 32 (cutR 32 (trimN x)))))))] 33) (fun R18 => ?_)
     refine eApp 4 demK_free rfl infoDm (fun w k => k.one1 (K := demK) (x := ⟨(nmD (cutL 32 (cutR 32 (trimN x)))), (nmD (cutL 32 (cutR 32 (cutR 32 (trimN x))))), (nmD (cutL 32 (cutR 32 (cutR 32 (cutR 32 (trimN x)))))), (nmD (cutL 32 (cutR 32 (cutR 32 (cutR 32 (cutR 32 (trimN x)))))))⟩) m0 rfl) (by simp; omega) (fun x19 => ?_) (hs := fun _ => (sC2 (sK2 (sC2 (sK2 (sC2 (List.Sublist.refl _)))))))
     obtain ⟨p19, n19, c19⟩ := x19; dsimp only
     refine sxEnd (fun W20 hK => ?_)
     refine wpListIn_L (wide_round _ _ _) [4] hK ?_
     clear hK
     refine eP 5 0 [.slice p19 n19 c19] ?_
     refine sxEnd (fun W21 hK => ?_)
     gi_wp2
     exact LpPost.nn (⟨p19, n19, c19⟩, xs ++ [⟨(nmD (cutL 32 (cutR 32 (trimN x)))), (nmD (cutL 32 (cutR 32 (cutR 32 (trimN x))))), (nmD (cutL 32 (cutR 32 (cutR 32 (cutR 32 (trimN x)))))), (nmD (cutL 32 (cutR 32 (cutR 32 (cutR 32 (cutR 32 (trimN x)))))))⟩]) ⟨by rw [List.map_append, ← hxs]; rfl, hg.snoc (by have q := hb1.out; simpa [dmB] using q) (by have q := hb2.out; have q2 := hg.2; have q3 := hn0.out; simp at q; omega)⟩ (hK.subl (sC2 (sC2 (sC2 (List.Sublist.refl _)))))
    · --
     gi_upto_region 8 with (fail)
     refine wpIn_region_T (wide_round _ _ _) [4, 4] hK ?_
     clear hK
     refine eP 6 0 [.slice none 0 0] ?_
     refine eP 5 0 [.int .i64 3] ?_
     refine sxEnd (fun W22 hK => ?_)
     gi_wp2
     exact LpPost.rr (⟨none, 0, 0⟩, []) (BadL.many (by have q := hb2.out; have q2 := hn0.out; simp at q; omega)) (hK.subl (sC2 (sC2 (sC2 (sC2 (sC2 (List.Sublist.refl _)))))))
   · --
    iterate 3 refine eN ?_
    refine e0 ?_
    refine sxEnd (fun W23 hK => ?_)
    gi_upto_region 8 with (fail)
    refine wpIn_region_T (wide_round _ _ _) [4, 4] hK ?_
    clear hK
    refine eP 6 0 [.slice none 0 0] ?_
    refine eP 5 0 [.int .i64 3] ?_
    refine sxEnd (fun W24 hK => ?_)
    gi_wp2
    exact LpPost.rr (⟨none, 0, 0⟩, []) (BadL.word (by have q := hb1.out; simpa [dmB] using q)) (hK.subl (sC2 (sC2 (sC2 (sC2 (sC2 (List.Sublist.refl _)))))))
  case done =>
   clear hK
   rintro D ⟨⟨p0, n0, c0⟩, xs⟩ ls r W hp ⟨hxs, hg⟩ hK
   have hK : SS V [bx D (.deferred (some [])), bx x6 (.cells #[.string ⟨r.toArray⟩] 9), rO demK 33 p0 n0 c0 xs, bx R4 (.cells #[.slice p0 n0 c0] 22), bx R2 (.cells #[.int .i64 0] 25), bx R1 (.cells #[.slice none 0 0] 22)] W := hK
   dsimp only at hxs
   have hxl : xs.length ≤ 64 := by rw [hxs, List.length_map]; exact hg.2
   have hpt := hid (prs_test hp hxs)
   replace hxs := hid hxs
   refine hQK _ _ ?_
   gi_upto_region 10 with (fail)
   refine wpIn_region_T (wide_wide _ _) [1, 1, 0, 0, 1, 1, 0, 0, 0] hK ?_
   clear hK
   refine eL m3 ?_
   obtain ⟨b1, hb1⟩ : ∃ z9 : Bool, RowKit.Hid (vldD 64 xs = z9) := ⟨_, hid rfl⟩
   refine eQ (v := .bool b1) (fun w k => valid_any _ 64 xs w (k.slv m2) (by omega)) ?_ (hv := by rw [hb1.out])
   iterate 2 refine e0 ?_
   cases b1
   · --
    iterate 4 refine eN ?_
    refine e0 ?_
    refine sxEnd (fun W25 hK => ?_)
    gi_upto_region 11 with (fail)
    refine wpIn_region_T (wide_wide _ _) [4, 4] hK ?_
    clear hK
    refine eP 5 0 [.slice none 0 0] ?_
    refine eP 4 0 [.int .i64 3] ?_
    refine sxEnd (fun W26 hK => ?_)
    gi_wp2
    exact parse_end Tryd.results8 (by exact rfl) (by exact rfl) (by exact rfl) (hK.subl (sK2 (sC2 (sC2 (sC2 (List.Sublist.refl _)))))).up1.up2.up2 (by exact trivial) (fun W9 hK9 => ⟨⟨none, 0, 0⟩, by rw [(prs_no (hpt.out.trans (if_neg (fun q => by have q2 := hb1.out; rw [q.1] at q2; cases q2)))).2], by rw [(prs_no (hpt.out.trans (if_neg (fun q => by have q2 := hb1.out; rw [q.1] at q2; cases q2)))).1]; exact hK9.fact (rO demK 33 none 0 0 ([] : List Dm)) OwV.nil (fun _ h => by cases h)⟩)
   · --
    refine eL m3 ?_
    refine eQ (fun w k => text_any _ xs w (k.slv m2) (hTb.below k.old) (by omega)) ?_
    refine e0 ?_
    obtain ⟨b2, hb2⟩ : ∃ z9 : Bool, RowKit.Hid ((!decide (textD xs = l)) = z9) := ⟨_, hid rfl⟩
    refine eV (.bool b2) (fun w' => by go_simp; (try go_bits); exact ⟨congrArg Value.bool (by rw [← hb2.out]; simp [txl_nil, txl_eq]), rfl⟩) ?_
    refine e0 ?_
    refine sxEnd (fun W27 hK => ?_)
    cases b2
    · --
     gi_upto_region 12 with (fail)
     refine wpIn_region_T (wide_wide _ _) [1, 4, 4] hK ?_
     clear hK
     refine eL m3 ?_
     refine eP 5 0 [.slice p0 n0 c0] ?_
     refine eP 4 0 [.int .i64 0] ?_
     refine sxEnd (fun W28 hK => ?_)
     gi_wp2
     exact parse_end Tryd.results8 (by exact rfl) (by exact rfl) (by exact rfl) (hK.subl (sK2 (sC2 (sK2 (sC2 (List.Sublist.refl _)))))).up1.up2.up3.up3 ⟨rfl, trivial⟩ (fun W9 hK9 => ⟨⟨p0, n0, c0⟩, by rw [(prs_yes (hpt.out.trans (if_pos ⟨hb1.out, by have q := hb2.out; simpa using q⟩))).2], by rw [(prs_yes (hpt.out.trans (if_pos ⟨hb1.out, by have q := hb2.out; simpa using q⟩))).1]; exact hK9⟩)
    · --
     gi_upto_region 11 with (fail)
     refine wpIn_region_T (wide_wide _ _) [4, 4] hK ?_
     clear hK
     refine eP 5 0 [.slice none 0 0] ?_
     refine eP 4 0 [.int .i64 3] ?_
     refine sxEnd (fun W29 hK => ?_)
     gi_wp2
     exact parse_end Tryd.results8 (by exact rfl) (by exact rfl) (by exact rfl) (hK.subl (sK2 (sC2 (sC2 (sC2 (List.Sublist.refl _)))))).up1.up2.up2 (by exact trivial) (fun W9 hK9 => ⟨⟨none, 0, 0⟩, by rw [(prs_no (hpt.out.trans (if_neg (fun q => by have q2 := hb2.out; rw [q.2] at q2; simp at q2)))).2], by rw [(prs_no (hpt.out.trans (if_neg (fun q => by have q2 := hb2.out; rw [q.2] at q2; simp at q2)))).1]; exact hK9.fact (rO demK 33 none 0 0 ([] : List Dm)) OwV.nil (fun _ h => by cases h)⟩)
  case stop =>
   clear hK
   rintro D s pre r W hp hb hK
   have hK : SS V [bx D (.deferred (some [])), bx R2 (.cells #[.int .i64 3] 25), bx R1 (.cells #[.slice none 0 0] 22)] W := hK
   show Q' .ret _ _
   exact parse_end Tryd.results8 (by exact rfl) (by exact rfl) (by exact rfl) hK.up2.up2.up1.up2 (by exact trivial) (fun W9 hK9 => ⟨⟨none, 0, 0⟩, by rw [(prs_no (prs_stop hp hb)).2], by rw [(prs_no (prs_stop hp hb)).1]; exact hK9.fact (rO demK 33 none 0 0 ([] : List Dm)) OwV.nil (fun _ h => by cases h)⟩)
end Go.Proofs.YtjhgkojbpgakcaaDoor
