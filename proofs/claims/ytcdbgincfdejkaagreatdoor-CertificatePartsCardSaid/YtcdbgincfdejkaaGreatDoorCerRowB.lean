/- The rows and cards of CertificateParts: for every input the call returns true, and each argument reads as it did. No condition. -/
import Derived.Test.YtcdbgincfdejkaaGreatDoorCerRow
import Derived.Test.YtcdbgincfdejkaaGreatDoorCards
import Derived.Test.YtcdbgincfdejkaaGreatDoorCerFac
import Derived.Test.YtcdbgincfdejkaaGreatDoorCerH
namespace Go.Proofs.YtcdbgincfdejkaaGreatDoor
open Go.ChangeShapes Go.WideShapes Go.ChangeAt Go.RowKit Go.Joins Go.Deep
set_option maxRecDepth 100000 in
theorem certificateParts_lifted (os : Os) (started : os.Started) (H : Type) (enc : TypeId × Value → H) :
    ReturnsInHanded {} Tryz.checked os 5 .any (fun w args => (Rows.certificatePartsSpec.pre enc Tryz.prog Tryz.f5 Rows.certificatePartsRow.domain false w args ∧ laidMetH Tryz.prog Rows.certificatePartsRow.laid w) ∧ sizedMet enc Tryz.prog Tryz.f5 (OpenSpec.ofChange Rows.certificatePartsSpec) false w args)
      (Rows.certificatePartsSpec.post enc Tryz.prog Tryz.f5 false true false false) := by
  refine change_and_shaped (C := Tryz.checked) (X := fun w _ => laidMetH Tryz.prog Rows.certificatePartsRow.laid w) (fun _ _ _ hh h => h.of_heap hh) ownK started (by kernel_rfl) Tryz.func5
    (ChangeSpec.witness_shaped (enc := enc) (C := Tryz.checked) (os := os) (X := fun w _ => laidMetH Tryz.prog Rows.certificatePartsRow.laid w) false (World.laidAll Tryz.prog os Rows.certificatePartsRow.laid) #[.agg #[.slice none 0 0, .slice none 0 0, .slice none 0 0], .slice none 0 0, .slice none 0 0] 8 (World.laidAll_os _ _ _)
      (World.shaped_of_ZipB (by kernel_rfl) (by kernel_rfl)) (by kernel_rfl) (by kernel_rfl) (by kernel_rfl)
      (by rw [MakeChecks.laidMetH_plain _ _ _ (by kernel_rfl)]; exact laidMet_laidAll _ (by kernel_rfl) (by kernel_rfl))) ?_
  intro W base args ds gs before hval0 hW hL hsh
  have hval : ∀ (j : Nat) t v, Tryz.f5.params[j]? = some t → args[j]? = some v → Value.okWide Tryz.prog W .any base t v := hval0
  have hW' := hW
  obtain ⟨p, q, hA0, hV, rfl, hfz, hnd⟩ := hW
  have hA : DataW.TrodAll enc Tryz.prog W 0 (fun _ => true) true Tryz.f5.params.toList args.toList ds p := hA0
  rw [Tryz.params5] at hA hval
  obtain ⟨v0, vs0, d0, ds0, p0, q0, hargs, rfl, rfl, h0, r0⟩ := trodAll_cons hA
  obtain ⟨v1, vs1, d1, ds1, p1, q1, rfl, rfl, rfl, h1, r1⟩ := trodAll_cons r0
  obtain ⟨v2, vs2, d2, ds2, p2, q2, rfl, rfl, rfl, h2, r2⟩ := trodAll_cons r1
  obtain ⟨rfl, rfl, rfl⟩ := trodAll_nil r2
  obtain rfl : args = #[v0, v1, v2] := by cases args; simp_all
  obtain ⟨rfl, rfl⟩ := trodVars_none hV
  obtain ⟨x0, hin0, hd0⟩ := open_sm (hval 0 24 v0 rfl rfl) h0
  obtain ⟨x1, hin1, hd1⟩ := open_frs (okWide_slice Tryz.underlying26 (hval 1 26 v1 rfl rfl)) h1
  obtain ⟨x2, hin2, hd2⟩ := open_frs (okWide_slice Tryz.underlying26 (hval 2 26 v2 rfl rfl)) h2
  refine (certificateParts_walk v0 v1 v2 x0 x1 x2 W hin0 hin1 hin2 (bas_of hL hsh) hd0 hd1 hd2).mono fun e W' ⟨he, hB⟩ => ?_
  subst he
  exact ⟨_, rfl, law_post rfl rfl (by kernel_rfl) (by kernel_rfl) hW' hA0 hB⟩
theorem certificateParts_inPlace : (Rows.certificatePartsRow.inPlace == Tryz.prog.inPlace 5) = true := by kernel_rfl
theorem certificateParts_unfollowed : (Rows.certificatePartsRow.unfollowed == Tryz.prog.unfollowed 5) = true := by kernel_rfl
theorem certificateParts_recurses : (Rows.certificatePartsRow.recurses == Tryz.prog.recurses 5) = true := by kernel_rfl
theorem certificateParts_named : (Rows.certificatePartsRow.named == Tryz.prog.varsNamed 5) = true := by kernel_rfl
theorem certificateParts_goes : false = Rows.certificatePartsRow.goesBy Tryz.prog := by kernel_rfl
theorem certificateParts_joined : joinedFacts Tryz.prog 5 Tryz.f5 Rows.certificatePartsSpec Rows.certificatePartsRow = true := (band (band (band (band (band (band (band (band (band (band (band (band (band (band (band (band (band (band (band (band (band (band (band (band (band (band (band (band (band (band (band (by kernel_rfl) laidOutK) fMaps) (by kernel_rfl)) (by kernel_rfl)) (by kernel_rfl)) fStops) (by kernel_rfl)) fKnobs) certificateParts_inPlace) certificateParts_unfollowed) certificateParts_recurses) certificateParts_named) (by kernel_rfl)) (by kernel_rfl)) (by kernel_rfl)) (by kernel_rfl)) (by kernel_rfl)) (by kernel_rfl)) (by kernel_rfl)) (by kernel_rfl)) (by kernel_rfl)) fPlain) (by kernel_rfl)) fHeard) fEnter) fLifted) fMake) (by kernel_rfl)) (by kernel_rfl)) (by kernel_rfl)) (by kernel_rfl))
theorem certificateParts_holds : Rows.CertificatePartsSaid :=
  OpenClaim.holds_of_wide 5 Tryz.f5 rfl rfl rfl rfl rfl rfl rfl ⟨rfl, rfl, rfl, rfl, rfl⟩ rfl rfl rfl rfl rfl (by kernel_rfl) Tryz.func5 certificateParts_joined
    (of_decide_eq_true (by kernel_rfl)) (by unfold Func.isWrapper; first | (rw [if_pos (by decide +kernel)]; kernel_rfl) | (rw [if_neg (by decide +kernel)]; exact ⟨rfl, rfl⟩))
    (fun os started H enc _ => certificateParts_lifted os started H enc)
theorem certificateParts_card : Rows.CertificatePartsCardSaid :=
  Claim7.holds_tied_plain_at .later [] [.data, .data, .data] true Rows.certificatePartsCard.stood.harness false certificateParts_holds (fun _ h => by cases h) (by kernel_rfl) (fun _ h => by cases h) certificateParts_row_tie rfl ⟨rfl, rfl⟩ fMain rfl
    (fun f fn hf hfn => by
      obtain rfl : f = 5 := Option.some.inj ((show Tryz.prog.funcNamed "waypoint/waypointlaw41.CertificateParts" = some 5 by kernel_rfl).symm.trans hf) |>.symm
      obtain rfl : fn = Tryz.f5 := (Option.some.inj (Tryz.func5.symm.trans hfn)).symm
      exact ⟨fLooks, fun j t ht => by
        rw [Tryz.params5] at ht
        have hm : t ∈ [24, 26, 26] := by simpa using Array.mem_of_getElem? ht
        have hall : ([24, 26, 26].all fun u => !Tryz.prog.wantsStandIn u) = true := by kernel_rfl
        exact (show Tryz.prog.wantsStandIn t = false by simpa using List.all_eq_true.1 hall t hm)⟩)
    certificateParts_goes
end Go.Proofs.YtcdbgincfdejkaaGreatDoor
