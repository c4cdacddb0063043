/- The rows and cards of DemandScale: for every input the call returns true, and each argument reads as it did. No condition. -/
import Derived.Test.YtjhgkojbpgakcaaGreatDoorDnRow
import Derived.Test.YtjhgkojbpgakcaaGreatDoorCards
namespace Go.Proofs.YtjhgkojbpgakcaaGreatDoor
open Go.ChangeShapes Go.WideShapes Go.ChangeAt Go.RowKit Go.Joins Go.Deep
set_option maxRecDepth 100000 in
theorem demandScale_lifted (os : Os) (started : os.Started) (H : Type) (enc : TypeId × Value → H) :
    ReturnsInHanded {} Tryz.checked os 3 .any (fun w args => (Rows.demandScaleSpec.pre enc Tryz.prog Tryz.f3 Rows.demandScaleRow.domain false w args ∧ laidMetH Tryz.prog Rows.demandScaleRow.laid w) ∧ sizedMet enc Tryz.prog Tryz.f3 (OpenSpec.ofChange Rows.demandScaleSpec) false w args)
      (Rows.demandScaleSpec.post enc Tryz.prog Tryz.f3 false true false false) := by
  refine change_and_shaped (C := Tryz.checked) (X := fun w _ => laidMetH Tryz.prog Rows.demandScaleRow.laid w) (fun _ _ _ hh h => h.of_heap hh) ownK started (by kernel_rfl) Tryz.func3
    (ChangeSpec.witness_shaped (enc := enc) (C := Tryz.checked) (os := os) (X := fun w _ => laidMetH Tryz.prog Rows.demandScaleRow.laid w) false (World.laidAll Tryz.prog os Rows.demandScaleRow.laid) #[.slice none 0 0, .int .i32 0, .int .i16 0] 8 (World.laidAll_os _ _ _)
      (World.shaped_of_ZipB (by kernel_rfl) (by kernel_rfl)) (by kernel_rfl) (by kernel_rfl) (by kernel_rfl)
      (by rw [MakeChecks.laidMetH_plain _ _ _ (by kernel_rfl)]; exact laidMet_laidAll _ (by kernel_rfl) (by kernel_rfl))) ?_
  intro W base args ds gs before hval0 hW hL hsh
  have hval : ∀ (j : Nat) t v, Tryz.f3.params[j]? = some t → args[j]? = some v → Value.okWide Tryz.prog W .any base t v := hval0
  have hW' := hW
  obtain ⟨p, q, hA0, hV, rfl, hfz, hnd⟩ := hW
  have hA : DataW.TrodAll enc Tryz.prog W 0 (fun _ => true) true Tryz.f3.params.toList args.toList ds p := hA0
  rw [Tryz.params3] at hA hval
  obtain ⟨v0, vs0, d0, ds0, p0, q0, hargs, rfl, rfl, h0, r0⟩ := trodAll_cons hA
  obtain ⟨v1, vs1, d1, ds1, p1, q1, rfl, rfl, rfl, h1, r1⟩ := trodAll_cons r0
  obtain ⟨v2, vs2, d2, ds2, p2, q2, rfl, rfl, rfl, h2, r2⟩ := trodAll_cons r1
  obtain ⟨rfl, rfl, rfl⟩ := trodAll_nil r2
  obtain rfl : args = #[v0, v1, v2] := by cases args; simp_all
  obtain ⟨rfl, rfl⟩ := trodVars_none hV
  obtain ⟨x0, hin0, hb0⟩ := open_dems (okWide_slice Tryz.underlying22 (hval 0 22 v0 rfl rfl)) h0; obtain ⟨pp0, cc0, rfl, nn0⟩ := hin0.sh
  obtain ⟨x1, rfl, lo1, hi1⟩ := open_i32 (hval 1 21 v1 rfl rfl) h1
  obtain ⟨x2, rfl, lo2, hi2⟩ := open_i16 (hval 2 23 v2 rfl rfl) h2
  refine (demandScale_any W hin0 x1 x2 hb0 (tab_of_laid hL) lo1 hi1 lo2 hi2).mono fun e W' ⟨he, hB⟩ => ?_
  subst he
  exact ⟨_, rfl, law_post rfl rfl (by kernel_rfl) (by kernel_rfl) hW' hA0 hB⟩
theorem demandScale_holds : Rows.DemandScaleSaid :=
  OpenClaim.holds_of_wide 3 Tryz.f3 rfl rfl rfl rfl rfl rfl rfl ⟨rfl, rfl, rfl, rfl, rfl⟩ rfl rfl rfl rfl rfl (by kernel_rfl) Tryz.func3 (by kernel_rfl)
    (of_decide_eq_true (by kernel_rfl)) (by unfold Func.isWrapper; first | (rw [if_pos (by decide +kernel)]; kernel_rfl) | (rw [if_neg (by decide +kernel)]; exact ⟨rfl, rfl⟩))
    (fun os started H enc _ => demandScale_lifted os started H enc)
theorem demandScale_card : Rows.DemandScaleCardSaid :=
  Claim7.holds_tied_plain_at .later [] [.data, .data, .data] true Rows.demandScaleCard.stood.harness false demandScale_holds (fun _ h => by cases h) (by kernel_rfl) (fun _ h => by cases h) demandScale_row_tie rfl ⟨rfl, rfl⟩ (by kernel_rfl) rfl
    (fun f fn hf hfn => by
      obtain rfl : f = 3 := Option.some.inj ((show Tryz.prog.funcNamed "waypoint/waypointlaw39.DemandScale" = some 3 by kernel_rfl).symm.trans hf) |>.symm
      obtain rfl : fn = Tryz.f3 := (Option.some.inj (Tryz.func3.symm.trans hfn)).symm
      exact ⟨by kernel_rfl, fun j t ht => by
        rw [Tryz.params3] at ht
        have hm : t ∈ [22, 21, 23] := by simpa using Array.mem_of_getElem? ht
        have hall : ([22, 21, 23].all fun u => !Tryz.prog.wantsStandIn u) = true := by kernel_rfl
        exact (show Tryz.prog.wantsStandIn t = false by simpa using List.all_eq_true.1 hall t hm)⟩)
    (by kernel_rfl)
end Go.Proofs.YtjhgkojbpgakcaaGreatDoor
