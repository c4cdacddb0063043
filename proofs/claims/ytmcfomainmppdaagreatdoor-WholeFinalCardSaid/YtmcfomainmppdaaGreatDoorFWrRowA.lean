/- The rows and cards of WholeFinal: for every input the call returns true, and each argument reads as it did. No condition. -/
import Derived.Test.YtmcfomainmppdaaGreatDoorFWrRow
import Derived.Test.YtmcfomainmppdaaGreatDoorCards
import Derived.Test.YtmcfomainmppdaaGreatDoorFWrC
namespace Go.Proofs.YtmcfomainmppdaaGreatDoor
open Go.ChangeShapes Go.WideShapes Go.ChangeAt Go.RowKit Go.Joins Go.Deep
set_option maxRecDepth 100000 in
theorem wholeFinal_lifted (os : Os) (started : os.Started) (H : Type) (enc : TypeId × Value → H) :
    ReturnsInHanded {} Tryz.checked os 5 .any (fun w args => (Rows.wholeFinalSpec.pre enc Tryz.prog Tryz.f5 Rows.wholeFinalRow.domain false w args ∧ laidMetH Tryz.prog Rows.wholeFinalRow.laid w) ∧ sizedMet enc Tryz.prog Tryz.f5 (OpenSpec.ofChange Rows.wholeFinalSpec) false w args)
      (Rows.wholeFinalSpec.post enc Tryz.prog Tryz.f5 false true false false) := by
  refine change_and_shaped (C := Tryz.checked) (X := fun w _ => laidMetH Tryz.prog Rows.wholeFinalRow.laid w) (fun _ _ _ hh h => h.of_heap hh) ownK started (by kernel_rfl) Tryz.func5
    (ChangeSpec.witness_shaped (enc := enc) (C := Tryz.checked) (os := os) (X := fun w _ => laidMetH Tryz.prog Rows.wholeFinalRow.laid w) false (World.laidAll Tryz.prog os Rows.wholeFinalRow.laid) #[.agg #[.int .i64 0, .slice none 0 0, .slice none 0 0], .int .u8 0] 8 (World.laidAll_os _ _ _)
      (World.shaped_of_ZipB (by kernel_rfl) (by kernel_rfl)) (by kernel_rfl) (by kernel_rfl) (by kernel_rfl)
      (by rw [MakeChecks.laidMetH_plain _ _ _ (by kernel_rfl)]; exact laidMet_laidAll _ (by kernel_rfl) (by kernel_rfl))) ?_
  intro W base args ds gs before hval0 hW hL hsh
  have hval : ∀ (j : Nat) t v, Tryz.f5.params[j]? = some t → args[j]? = some v → Value.okWide Tryz.prog W .any base t v := hval0
  have hW' := hW
  obtain ⟨p, q, hA0, hV, rfl, hfz, hnd⟩ := hW
  have hA : DataW.TrodAll enc Tryz.prog W 0 (fun _ => true) true Tryz.f5.params.toList args.toList ds p := hA0
  rw [Tryz.params5] at hA hval
  obtain ⟨v0, vs0, d0, ds0, p0, q0, hargs, rfl, rfl, h0, r0⟩ := trodAll_cons hA
  obtain ⟨v1, vs1, d1, ds1, p1, q1, rfl, rfl, rfl, h1, r1⟩ := trodAll_cons r0
  obtain ⟨rfl, rfl, rfl⟩ := trodAll_nil r1
  obtain rfl : args = #[v0, v1] := by cases args; simp_all
  obtain ⟨rfl, rfl⟩ := trodVars_none hV
  obtain ⟨t0, ht0⟩ := open_top (hval 0 25 v0 rfl rfl) h0
  obtain ⟨x1, rfl, hx1⟩ := open_u8 (hval 1 5 v1 rfl rfl) h1
  refine (lawFinal_any W ht0 (Nat.le_of_lt_succ hx1)).mono fun e W' ⟨he, hB⟩ => ?_
  subst he
  exact ⟨_, rfl, law_post rfl rfl (by kernel_rfl) (by kernel_rfl) hW' hA0 hB⟩
theorem wholeFinal_holds : Rows.WholeFinalSaid :=
  OpenClaim.holds_of_wide 5 Tryz.f5 rfl rfl rfl rfl rfl rfl rfl ⟨rfl, rfl, rfl, rfl, rfl⟩ rfl rfl rfl rfl rfl (by kernel_rfl) Tryz.func5 (by kernel_rfl)
    (of_decide_eq_true (by kernel_rfl)) (by unfold Func.isWrapper; first | (rw [if_pos (by decide +kernel)]; kernel_rfl) | (rw [if_neg (by decide +kernel)]; exact ⟨rfl, rfl⟩))
    (fun os started H enc _ => wholeFinal_lifted os started H enc)
theorem wholeFinal_card : Rows.WholeFinalCardSaid :=
  Claim7.holds_tied_plain_at .later [] [.data, .data, .data] true Rows.wholeFinalCard.stood.harness false wholeFinal_holds (fun _ h => by cases h) (by kernel_rfl) (fun _ h => by cases h) wholeFinal_row_tie rfl ⟨rfl, rfl⟩ (by kernel_rfl) rfl
    (fun f fn hf hfn => by
      obtain rfl : f = 5 := Option.some.inj ((show Tryz.prog.funcNamed "waypoint/waypointtop.WholeFinal" = some 5 by kernel_rfl).symm.trans hf) |>.symm
      obtain rfl : fn = Tryz.f5 := (Option.some.inj (Tryz.func5.symm.trans hfn)).symm
      exact ⟨by kernel_rfl, fun j t ht => by
        rw [Tryz.params5] at ht
        have hm : t ∈ [25, 5] := by simpa using Array.mem_of_getElem? ht
        have hall : ([25, 5].all fun u => !Tryz.prog.wantsStandIn u) = true := by kernel_rfl
        exact (show Tryz.prog.wantsStandIn t = false by simpa using List.all_eq_true.1 hall t hm)⟩)
    (by kernel_rfl)
end Go.Proofs.YtmcfomainmppdaaGreatDoor
