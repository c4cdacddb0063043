/- The awakening of the statements on the whole. -/
import Derived.Test.YtmcfomainmppdaaGreatDoorFWqG
namespace Go.Proofs.YtmcfomainmppdaaGreatDoor
open Go.RowKit
open Go.Lib (decDigits)
theorem rtSL : (rtD topS [] 0).t.length = 4 := by
  show ((List.range (nN topS)).map _).length = 4
  rw [List.length_map]; decide
theorem repSL : (repD topS ⟨1, 0⟩ 0).t.length = 4 := by
  show ((List.range (nN topS)).map _).length = 4
  rw [List.length_map]; decide
theorem routesS (w : World) {v_t : Value} (ht : TopV w v_t topS) : Calls Tryz.prog 24 #[v_t, .slice none 0 0, .int .i64 0] w fun e w' => ∃ z : TbS, e = .returned (.tuple #[z.v (rtD topS [] 0), .int .i64 0]) ∧ SS w [tbF z (rtD topS [] 0)] w' := by
  have hc : chkD topS [] [0] = 0 := by decide +kernel
  have h := routes_any w ht (SlV.nil (p := none) (c := 0)) 0 (by decide)
  rw [hc, show rtR topS [] 0 = rtD topS [] 0 from if_pos hc] at h
  exact h
set_option maxRecDepth 100000 in
set_option maxHeartbeats 2000000 in
theorem awake31_any (w : World)   :
    Calls Tryz.prog 6 #[] w fun e w' => e = .returned (.bool true) ∧ Below w.heap.size w w' := by
  have hK := SS.start w
  refine Calls.hide (fun Q0 hQ0 => ?_)
  go_enter Tryz.func6, Tryz.ntmps6
  go_upto_region 1 with (fail)
  refine wp_region_T [2, 3, 4] hK ?_
  clear hK
  refine eC (fun w k => square_any w) (fun x1 => ?_)
  obtain ⟨sp, sl, sc⟩ := x1; dsimp only
  refine eA (.cells #[.int .i64 0, .slice none 0 0, .slice none 0 0] 25) (fun R2 => ?_)
  refine eP 0 0 [.int .i64 4, .slice none 0 0, .slice sp sl sc] ?_
  refine sxEnd (fun W3 hK => ?_)
  go_upto_region 2 with (fail)
  refine wp_region_T [1, 2, 0, 0, 0, 3, 4, 0] hK ?_
  clear hK
  refine eL m0 ?_
  refine eC (fun w k => routesS w (topVS (k.slv m1))) (fun x4 => ?_)
  obtain ⟨⟨tp1, tl1, tc1⟩, ⟨dp1, dl1, dc1⟩, ws1⟩ := x4; dsimp only [TbS.v]
  iterate 3 refine e0 ?_
  refine eA (.cells #[.int .i64 0, .slice none 0 0, .slice none 0 0] 62) (fun R5 => ?_)
  refine eP 0 0 [.int .i64 ((rtD topS [] 0).n : Int), .slice tp1 tl1 tc1, .slice dp1 dl1 dc1] ?_
  refine e0 ?_
  refine sxEnd (fun W6 hK => ?_)
  go_upto_region 3 with (fail)
  refine wp_region_T [1, 3, 2, 0, 0, 0, 0, 0] hK ?_
  clear hK
  refine eL m2 ?_
  refine eA (.cells #[.int .i64 0, .int .i64 2] 3) (fun R7 => ?_)
  refine eC (fun w k => elist_any (p := [0, 2]) w (topVS (k.slv m4)) SlV.nil (slBox2 (k.box m0)) 0 rfl (by decide) okS (by decide) wayS (by decide) (hid (.inl rfl)) (fun _ _ => rfl)) (fun x8 => ?_)
  obtain ⟨ep, el, ec⟩ := x8; dsimp only
  iterate 5 refine e0 ?_
  refine sxEnd (fun W9 hK => ?_)
  go_upto_region 4 with (fail)
  refine wp_region_T [1, 0, 2, 0, 0, 0, 3, 4, 0] hK ?_
  clear hK
  refine eL m4 ?_
  refine e0 ?_
  refine eC (fun w k => rtable_any w (topVS (k.slv m5)) (c := ⟨1, 0⟩) 0 (by decide) okS rfl grpS (by decide)) (fun x10 => ?_)
  obtain ⟨⟨tp2, tl2, tc2⟩, ⟨dp2, dl2, dc2⟩, ws2⟩ := x10; dsimp only [TbS.v]
  iterate 3 refine e0 ?_
  refine eA (.cells #[.int .i64 0, .slice none 0 0, .slice none 0 0] 62) (fun R11 => ?_)
  refine eP 0 0 [.int .i64 ((repD topS ⟨1, 0⟩ 0).n : Int), .slice tp2 tl2 tc2, .slice dp2 dl2 dc2] ?_
  refine e0 ?_
  refine sxEnd (fun W12 hK => ?_)
  have hq1 := hK.tbn m5; obtain rfl : tl1 = 4 := hq1.1.trans rtSL; have hw1 : ws1.length = 4 := hq1.2.trans rtSL; clear hq1
  obtain ⟨g1, o1, rfl⟩ := (hK.tbe m5).pt (i := 2) (show 2 < 4 by decide)
  obtain ⟨⟨⟨xp1, xl1, xc1⟩, xr1, ⟨zp1, zl1, zc1⟩⟩, hx1⟩ : ∃ x : EntW, ws1[2]? = some x := ⟨_, List.getElem?_eq_getElem (by rw [hw1]; decide)⟩; have hxx1 := hid hx1; have ha1 := hK.tba m5 hx1 rtS; obtain rfl : xl1 = 2 := ha1.1.one0; obtain rfl : xr1 = false := ha1.2; have hr1 := hid ha1.1; clear hx1 ha1; replace hw1 := hid hw1
  have hq2 := hK.tbn m1; obtain rfl : tl2 = 4 := hq2.1.trans repSL; have hw2 : ws2.length = 4 := hq2.2.trans repSL; clear hq2
  obtain ⟨g2, o2, rfl⟩ := (hK.tbe m1).pt (i := 1) (show 1 < 4 by decide)
  obtain ⟨⟨⟨xp2, xl2, xc2⟩, xr2, ⟨zp2, zl2, zc2⟩⟩, hx2⟩ : ∃ x : EntW, ws2[1]? = some x := ⟨_, List.getElem?_eq_getElem (by rw [hw2]; decide)⟩; have hxx2 := hid hx2; have ha2 := hK.tba m1 hx2 repS; obtain rfl : xl2 = 1 := ha2.1.one0; obtain rfl : xr2 = true := ha2.2; have hr2 := hid ha2.1; clear hx2 ha2; replace hw2 := hid hw2
  obtain rfl : el = 2 := (hK.len m2).trans encS
  have h7 := hr2.out; obtain ⟨gz, oz, rfl⟩ := h7.pt (i := 0) (show 0 < 1 by decide); clear h7
  go_upto_region 5 with (fail)
  refine wp_region_T [0, 0, 0, 0, 0, 0, 0, 0, 0, 0, 0, 0, 1, 0, 0, 0, 0, 0, 1, 0, 0, 0, 0, 0, 1, 0, 0, 1, 0, 0, 0, 0, 0, 0, 0, 0] hK ?_
  clear hK
  iterate 12 refine e0 ?_
  refine eL m4 ?_
  refine e0 ?_
  refine eV (.bool false) (fun w' => by go_simp; (try go_bits); first | exact ⟨rfl, rfl⟩ | exact ⟨congrArg Value.bool (by decide), rfl⟩) ?_
  iterate 3 refine e0 ?_
  refine eL m0 ?_
  refine e0 ?_
  refine eV (.bool false) (fun w' => by go_simp; (try go_bits); first | exact ⟨rfl, rfl⟩ | exact ⟨congrArg Value.bool (by decide), rfl⟩) ?_
  iterate 3 refine e0 ?_
  refine eL m4 ?_
  iterate 2 refine e0 ?_
  refine eR (fun w k => (k.tbe m5).ent0 hxx1.out rfl) ?_
  refine e0 ?_
  refine eV (.bool false) (fun w' => by go_simp; (try go_bits); first | exact ⟨rfl, rfl⟩ | exact ⟨congrArg Value.bool (by decide), rfl⟩) ?_
  iterate 4 refine e0 ?_
  refine eV (.bool false) (fun w' => by go_simp; (try go_bits); first | exact ⟨rfl, rfl⟩ | exact ⟨congrArg Value.bool (by decide), rfl⟩) ?_
  refine e0 ?_
  refine sxEnd (fun W13 hK => ?_)
  go_upto_region 7 with (fail)
  refine wp_region_T [1, 1, 3, 0, 1, 0, 0, 0, 0, 0] hK ?_
  clear hK
  refine eL m6 ?_
  refine eL m4 ?_
  refine eA (.cells #[.int .i64 ((rtD topS [] 0).n : Int), .slice (some ⟨g1, o1, none⟩) 4 tc1, .slice dp1 dl1 dc1] 62) (fun R14 => ?_)
  refine e0 ?_
  refine eQ (fun w k => warrives_any w (topVS (k.slv m8)) 0 (by decide) okS (hid rfl)) ?_
  iterate 5 refine e0 ?_
  refine sxEnd (fun W15 hK => ?_)
  go_upto_region 8 with (fail)
  refine wp_region_T [0, 0, 0, 0, 0, 0, 0, 0, 1, 0, 0, 1, 0, 0, 0, 1, 0, 0, 1, 0, 0, 0, 0, 0, 1, 0, 0, 1, 0, 1, 0, 0, 0] hK ?_
  clear hK
  refine e0 ?_
  refine eV (.bool true) (fun w' => by go_simp; (try go_bits); first | exact ⟨rfl, rfl⟩ | exact ⟨congrArg Value.bool (by decide), rfl⟩) ?_
  iterate 6 refine e0 ?_
  refine eL m1 ?_
  iterate 2 refine e0 ?_
  refine eR (fun w k => (k.tbe m2).ent hxx2.out 1 rfl) ?_
  iterate 3 refine e0 ?_
  refine eL m1 ?_
  iterate 2 refine e0 ?_
  refine eR (fun w k => (k.tbe m2).ent0 hxx2.out rfl) ?_
  refine e0 ?_
  refine eV (.bool true) (fun w' => by go_simp; (try go_bits); first | exact ⟨rfl, rfl⟩ | exact ⟨congrArg Value.bool (by decide), rfl⟩) ?_
  iterate 3 refine e0 ?_
  refine eL m1 ?_
  iterate 2 refine e0 ?_
  refine eR (fun w k => (k.tbe m2).ent0 hxx2.out rfl) ?_
  refine e0 ?_
  refine eR (fun w k => by have q := (k.tba m2 hxx2.out repS).1.int (i := 0) (x := 7) rfl; rwa [Nat.add_zero] at q) ?_
  refine eV (.bool true) (fun w' => by go_simp; (try go_bits); first | exact ⟨rfl, rfl⟩ | exact ⟨congrArg Value.bool (by decide), rfl⟩) ?_
  iterate 2 refine e0 ?_
  refine sxEnd (fun W16 hK => ?_)
  go_wp2
  try go_ret
  show Q0 (.returned (.bool true)) _
  exact (by obtain rfl := hQ0.out; exact ⟨rfl, hK.old⟩)
end Go.Proofs.YtmcfomainmppdaaGreatDoor
