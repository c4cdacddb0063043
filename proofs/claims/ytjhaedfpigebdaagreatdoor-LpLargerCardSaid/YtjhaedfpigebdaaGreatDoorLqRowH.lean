/- The rows and cards of LpLarger: for every input the call returns true, and each argument reads as it did. No condition. -/
import Derived.Test.YtjhaedfpigebdaaGreatDoorLlY
import Derived.Test.YtjhaedfpigebdaaGreatDoorCards
namespace Go.Proofs.YtjhaedfpigebdaaGreatDoor
open Go.ChangeShapes Go.WideShapes Go.ChangeAt Go.RowKit Go.Joins Go.Deep

set_option maxRecDepth 100000 in
theorem lpLarger_lifted (os : Os) (started : os.Started) (H : Type) (enc : TypeId × Value → H) :
    ReturnsInHanded {} Tryz.checked os 8 .any (fun w args => (Rows.lpLargerSpec.pre enc Tryz.prog Tryz.f8 Rows.lpLargerRow.domain false w args ∧ laidMetH Tryz.prog Rows.lpLargerRow.laid w) ∧ sizedMet enc Tryz.prog Tryz.f8 (OpenSpec.ofChange Rows.lpLargerSpec) false w args)
      (Rows.lpLargerSpec.post enc Tryz.prog Tryz.f8 false true false false) := by
  refine change_and_shaped (C := Tryz.checked) (X := fun w _ => laidMetH Tryz.prog Rows.lpLargerRow.laid w) (fun _ _ _ hh h => h.of_heap hh) ownK started (by kernel_rfl) Tryz.func8
    (ChangeSpec.witness_shaped (enc := enc) (C := Tryz.checked) (os := os) (X := fun w _ => laidMetH Tryz.prog Rows.lpLargerRow.laid w) false (World.laidAll Tryz.prog os Rows.lpLargerRow.laid) #[.int .u8 0, .int .u8 0, .slice none 0 0] 8 (World.laidAll_os _ _ _)
      (World.shaped_of_ZipB (by kernel_rfl) (by kernel_rfl)) (by kernel_rfl) (by kernel_rfl) (by kernel_rfl)
      (by rw [MakeChecks.laidMetH_plain _ _ _ (by kernel_rfl)]; exact laidMet_laidAll _ (by kernel_rfl) (by kernel_rfl))) ?_
  intro W base args ds gs before hval0 hW hL hsh
  have hval : ∀ (j : Nat) t v, Tryz.f8.params[j]? = some t → args[j]? = some v → Value.okWide Tryz.prog W .any base t v := hval0
  have hW' := hW
  obtain ⟨p, q, hA0, hV, rfl, hfz, hnd⟩ := hW
  have hA : DataW.TrodAll enc Tryz.prog W 0 (fun _ => true) true Tryz.f8.params.toList args.toList ds p := hA0
  rw [Tryz.params8] at hA hval
  obtain ⟨v0, vs0, d0, ds0, p0, q0, hargs, rfl, rfl, h0, r0⟩ := trodAll_cons hA
  obtain ⟨v1, vs1, d1, ds1, p1, q1, rfl, rfl, rfl, h1, r1⟩ := trodAll_cons r0
  obtain ⟨v2, vs2, d2, ds2, p2, q2, rfl, rfl, rfl, h2, r2⟩ := trodAll_cons r1
  obtain ⟨rfl, rfl, rfl⟩ := trodAll_nil r2
  obtain rfl : args = #[v0, v1, v2] := by cases args; simp_all
  obtain ⟨rfl, rfl⟩ := trodVars_none hV
  obtain ⟨x0, rfl, hx0⟩ := open_u8 (hval 0 5 v0 rfl rfl) h0
  obtain ⟨x1, rfl, hx1⟩ := open_u8 (hval 1 5 v1 rfl rfl) h1
  obtain ⟨x2, k2, r2⟩ := open_i8s (okWide_slice Tryz.underlying22 (hval 2 22 v2 rfl rfl)) h2; obtain ⟨pp2, cc2, rfl, nn2⟩ := k2.sh
  refine (lpLarger_any W k2 r2 (bas_of hL hsh) hx0 hx1).mono fun e W' ⟨he, hB⟩ => ?_
  subst he
  exact ⟨_, rfl, law_post rfl rfl (by kernel_rfl) (by kernel_rfl) hW' hA0 hB⟩
theorem lpLarger_inPlace : (Rows.lpLargerRow.inPlace == Tryz.prog.inPlace 8) = true := by kernel_rfl
theorem lpLarger_unfollowed : (Rows.lpLargerRow.unfollowed == Tryz.prog.unfollowed 8) = true := by kernel_rfl
theorem lpLarger_recurses : (Rows.lpLargerRow.recurses == Tryz.prog.recurses 8) = true := by kernel_rfl
theorem lpLarger_named : (Rows.lpLargerRow.named == Tryz.prog.varsNamed 8) = true := by kernel_rfl
theorem lpLarger_goes : false = Rows.lpLargerRow.goesBy Tryz.prog := by kernel_rfl
theorem lpLarger_joined : joinedFacts Tryz.prog 8 Tryz.f8 Rows.lpLargerSpec Rows.lpLargerRow = true := (band (band (band (band (band (band (band (band (band (band (band (band (band (band (band (band (band (band (band (band (band (band (band (band (band (band (band (band (band (band (band (by kernel_rfl) laidOutK) fMaps) (by kernel_rfl)) (by kernel_rfl)) (by kernel_rfl)) fStops) (by kernel_rfl)) fKnobs) lpLarger_inPlace) lpLarger_unfollowed) lpLarger_recurses) lpLarger_named) (by kernel_rfl)) (by kernel_rfl)) (by kernel_rfl)) (by kernel_rfl)) (by kernel_rfl)) (by kernel_rfl)) (by kernel_rfl)) (by kernel_rfl)) (by kernel_rfl)) fPlain) (by kernel_rfl)) fHeard) fEnter) fLifted) fMake) (by kernel_rfl)) (by kernel_rfl)) (by kernel_rfl)) (by kernel_rfl))
theorem lpLarger_holds : Rows.LpLargerSaid :=
  OpenClaim.holds_of_wide 8 Tryz.f8 rfl rfl rfl rfl rfl rfl rfl ⟨rfl, rfl, rfl, rfl, rfl⟩ rfl rfl rfl rfl rfl (by kernel_rfl) Tryz.func8 lpLarger_joined
    (of_decide_eq_true (by kernel_rfl)) (by unfold Func.isWrapper; first | (rw [if_pos (by decide +kernel)]; kernel_rfl) | (rw [if_neg (by decide +kernel)]; exact ⟨rfl, rfl⟩))
    (fun os started H enc _ => lpLarger_lifted os started H enc)
theorem lpLarger_card : Rows.LpLargerCardSaid :=
  Claim7.holds_tied_plain_at .later [] [.data, .data, .data] true Rows.lpLargerCard.stood.harness false lpLarger_holds (fun _ h => by cases h) (by kernel_rfl) (fun _ h => by cases h) lpLarger_row_tie rfl ⟨rfl, rfl⟩ fMain rfl
    (fun f fn hf hfn => by
      obtain rfl : f = 8 := Option.some.inj ((show Tryz.prog.funcNamed "waypoint/waypointlaw40.LpLarger" = some 8 by kernel_rfl).symm.trans hf) |>.symm
      obtain rfl : fn = Tryz.f8 := (Option.some.inj (Tryz.func8.symm.trans hfn)).symm
      exact ⟨fLooks, fun j t ht => by
        rw [Tryz.params8] at ht
        have hm : t ∈ [5, 5, 22] := by simpa using Array.mem_of_getElem? ht
        have hall : ([5, 5, 22].all fun u => !Tryz.prog.wantsStandIn u) = true := by kernel_rfl
        exact (show Tryz.prog.wantsStandIn t = false by simpa using List.all_eq_true.1 hall t hm)⟩)
    lpLarger_goes
end Go.Proofs.YtjhaedfpigebdaaGreatDoor
