/- The rows and cards of PrefixText, PrefixParse, PrefixNested, PrefixSplit, PrefixContains: for every input the call returns true, and each argument reads as it did. No condition. -/
import Derived.Test.YtbbjjjaclbkolaaDoorPfxRow
import Derived.Test.YtbbjjjaclbkolaaDoorCards
import Derived.Test.YtbbjjjaclbkolaaDoorPfxI
namespace Go.Proofs.YtbbjjjaclbkolaaDoor
open Go.ChangeShapes Go.WideShapes Go.ChangeAt Go.RowKit Go.Joins Go.Deep
set_option maxRecDepth 100000 in
theorem prefixContains_lifted (os : Os) (started : os.Started) (H : Type) (enc : TypeId × Value → H) :
    ReturnsInHanded {} Tryd.checked os 7 .any (fun w args => (Rows.prefixContainsSpec.pre enc Tryd.prog Tryd.f7 Rows.prefixContainsRow.domain false w args ∧ laidMetH Tryd.prog Rows.prefixContainsRow.laid w) ∧ sizedMet enc Tryd.prog Tryd.f7 (OpenSpec.ofChange Rows.prefixContainsSpec) false w args)
      (Rows.prefixContainsSpec.post enc Tryd.prog Tryd.f7 false true false false) := by
  refine change_and_shaped (C := Tryd.checked) (X := fun w _ => laidMetH Tryd.prog Rows.prefixContainsRow.laid w) (fun _ _ _ hh h => h.of_heap hh) ownK started (by kernel_rfl) Tryd.func7
    (ChangeSpec.witness_shaped (enc := enc) (C := Tryd.checked) (os := os) (X := fun w _ => laidMetH Tryd.prog Rows.prefixContainsRow.laid w) false (World.laidAll Tryd.prog os Rows.prefixContainsRow.laid) #[.agg #[.int .u32 0, .int .i64 0], .agg #[.int .u32 0, .int .i64 0], .int .u32 0] 8 (World.laidAll_os _ _ _)
      (World.shaped_of_ZipB (by kernel_rfl) (by kernel_rfl)) (by kernel_rfl) (by kernel_rfl) (by kernel_rfl)
      (by rw [MakeChecks.laidMetH_plain _ _ _ (by kernel_rfl)]; exact laidMet_laidAll _ (by kernel_rfl) (by kernel_rfl))) ?_
  intro W base args ds gs before hval0 hW hL hsh
  have hval : ∀ (j : Nat) t v, Tryd.f7.params[j]? = some t → args[j]? = some v → Value.okWide Tryd.prog W .any base t v := hval0
  have hW' := hW
  obtain ⟨p, q, hA0, hV, rfl, hfz, hnd⟩ := hW
  have hA : DataW.TrodAll enc Tryd.prog W 0 (fun _ => true) true Tryd.f7.params.toList args.toList ds p := hA0
  rw [Tryd.params7] at hA hval
  obtain ⟨v0, vs0, d0, ds0, p0, q0, hargs, rfl, rfl, h0, r0⟩ := trodAll_cons hA
  obtain ⟨v1, vs1, d1, ds1, p1, q1, rfl, rfl, rfl, h1, r1⟩ := trodAll_cons r0
  obtain ⟨v2, vs2, d2, ds2, p2, q2, rfl, rfl, rfl, h2, r2⟩ := trodAll_cons r1
  obtain ⟨rfl, rfl, rfl⟩ := trodAll_nil r2
  obtain rfl : args = #[v0, v1, v2] := by cases args; simp_all
  obtain ⟨rfl, rfl⟩ := trodVars_none hV
  obtain ⟨a0, n0, rfl, ha0⟩ := open_pfx (by obtain ⟨cs, e, hs⟩ := okWide_struct Tryd.underlying24 (hval 0 24 v0 rfl rfl); exact ⟨cs, e, hs.trans (by kernel_rfl)⟩) h0
  obtain ⟨a1, n1, rfl, ha1⟩ := open_pfx (by obtain ⟨cs, e, hs⟩ := okWide_struct Tryd.underlying24 (hval 1 24 v1 rfl rfl); exact ⟨cs, e, hs.trans (by kernel_rfl)⟩) h1
  obtain ⟨x2, rfl, hx2⟩ := open_u32 (hval 2 22 v2 rfl rfl) h2
  refine (prefixContains_walk a0 n0 a1 n1 x2 W (bas_of hL hsh) ha0 ha1 hx2).mono fun e W' ⟨he, hB⟩ => ?_
  subst he
  exact ⟨_, rfl, law_post rfl rfl (by kernel_rfl) (by kernel_rfl) hW' hA0 hB⟩
theorem prefixContains_holds : Rows.PrefixContainsSaid :=
  OpenClaim.holds_of_wide 7 Tryd.f7 rfl rfl rfl rfl rfl rfl rfl ⟨rfl, rfl, rfl, rfl, rfl⟩ rfl rfl rfl rfl rfl (by kernel_rfl) Tryd.func7 (by kernel_rfl)
    (of_decide_eq_true (by kernel_rfl)) (by unfold Func.isWrapper; first | (rw [if_pos (by decide +kernel)]; kernel_rfl) | (rw [if_neg (by decide +kernel)]; exact ⟨rfl, rfl⟩))
    (fun os started H enc _ => prefixContains_lifted os started H enc)
theorem prefixContains_card : Rows.PrefixContainsCardSaid :=
  Claim7.holds_tied_plain_at .later [] [.data, .data, .data, .data, .sentinel, .sentinel, .pinned] true Rows.prefixContainsCard.stood.harness true prefixContains_holds (fun _ h => by cases h) (by kernel_rfl) (fun _ h => by cases h) prefixContains_row_tie rfl ⟨rfl, rfl⟩ (by kernel_rfl) rfl
    (fun f fn hf hfn => by
      obtain rfl : f = 7 := Option.some.inj ((show Tryd.prog.funcNamed "waypoint/waypointlaw04.PrefixContains" = some 7 by kernel_rfl).symm.trans hf) |>.symm
      obtain rfl : fn = Tryd.f7 := (Option.some.inj (Tryd.func7.symm.trans hfn)).symm
      exact ⟨by kernel_rfl, fun j t ht => by
        rw [Tryd.params7] at ht
        have hm : t ∈ [24, 24, 22] := by simpa using Array.mem_of_getElem? ht
        have hall : ([24, 24, 22].all fun u => !Tryd.prog.wantsStandIn u) = true := by kernel_rfl
        exact (show Tryd.prog.wantsStandIn t = false by simpa using List.all_eq_true.1 hall t hm)⟩)
    (by kernel_rfl)
end Go.Proofs.YtbbjjjaclbkolaaDoor
