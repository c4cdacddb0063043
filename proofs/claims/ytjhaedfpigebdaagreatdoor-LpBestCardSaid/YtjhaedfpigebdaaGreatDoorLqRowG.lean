/- The rows and cards of LpBest: for every input the call returns true, and each argument reads as it did. No condition. -/

import Derived.Test.YtjhaedfpigebdaaGreatDoorLbY
import Derived.Test.YtjhaedfpigebdaaGreatDoorCards
namespace Go.Proofs.YtjhaedfpigebdaaGreatDoor
open Go.ChangeShapes Go.WideShapes Go.ChangeAt Go.RowKit Go.Joins Go.Deep

set_option maxRecDepth 100000 in
theorem lpBest_lifted(os:Os)(started:os.Started)(H:Type)(enc:TypeId × Value→H):
    ReturnsInHanded {} Tryz.checked os 3 .any (fun w args=>(Rows.lpBestSpec.pre enc Tryz.prog Tryz.f3 Rows.lpBestRow.domain false w args∧laidMetH Tryz.prog Rows.lpBestRow.laid w)∧sizedMet enc Tryz.prog Tryz.f3 (OpenSpec.ofChange Rows.lpBestSpec) false w args)
      (Rows.lpBestSpec.post enc Tryz.prog Tryz.f3 false true false false):=by
  refine change_and_shaped (C:=Tryz.checked) (X:=fun w _=>laidMetH Tryz.prog Rows.lpBestRow.laid w) (fun _ _ _ hh h=>h.of_heap hh) ownK started (by kernel_rfl) Tryz.func3
    (ChangeSpec.witness_shaped (enc:=enc) (C:=Tryz.checked) (os:=os) (X:=fun w _=>laidMetH Tryz.prog Rows.lpBestRow.laid w) false (World.laidAll Tryz.prog os Rows.lpBestRow.laid) #[.agg #[.slice none 0 0,.slice none 0 0,.slice none 0 0]] 8 (World.laidAll_os _ _ _)
      (World.shaped_of_ZipB (by kernel_rfl) (by kernel_rfl)) (by kernel_rfl) (by kernel_rfl) (by kernel_rfl)
      (by rw[MakeChecks.laidMetH_plain _ _ _ (by kernel_rfl)];exact laidMet_laidAll _ (by kernel_rfl) (by kernel_rfl))) ?_
  intro W base args ds gs before hval0 hW hL hsh;have hval:∀(j:Nat) t v,Tryz.f3.params[j]?=some t→args[j]?=some v→Value.okWide Tryz.prog W .any base t v:=hval0;have hW':=hW;obtain⟨p,q,hA0,hV,rfl,hfz,hnd⟩:=hW;have hA:DataW.TrodAll enc Tryz.prog W 0 (fun _=>true) true Tryz.f3.params.toList args.toList ds p:=hA0;rw[Tryz.params3]at hA hval;obtain⟨v0,vs0,d0,ds0,p0,q0,hargs,rfl,rfl,h0,r0⟩:=trodAll_cons hA;obtain⟨rfl,rfl,rfl⟩:=trodAll_nil r0;obtain rfl:args=#[v0]:=by cases args;simp_all
  obtain⟨rfl,rfl⟩:=trodVars_none hV;obtain⟨s0,p0c,p0a,p0b,n0c,c0c,n0a,c0a,n0b,c0b,rfl,k0c,k0a,k0b,ok0⟩:=open_sm (hval 0 24 v0 rfl rfl) h0;refine(lpBest_any W ok0 k0c k0a k0b (bas_of hL hsh)).mono fun e W' ⟨he,hB⟩=>?_
  subst he;exact⟨_,rfl,law_post rfl rfl (by kernel_rfl) (by kernel_rfl) hW' hA0 hB⟩
theorem lpBest_inPlace:(Rows.lpBestRow.inPlace==Tryz.prog.inPlace 3)=true:=by kernel_rfl
theorem lpBest_unfollowed:(Rows.lpBestRow.unfollowed==Tryz.prog.unfollowed 3)=true:=by kernel_rfl
theorem lpBest_recurses:(Rows.lpBestRow.recurses==Tryz.prog.recurses 3)=true:=by kernel_rfl
theorem lpBest_named:(Rows.lpBestRow.named==Tryz.prog.varsNamed 3)=true:=by kernel_rfl
theorem lpBest_goes:false=Rows.lpBestRow.goesBy Tryz.prog:=by kernel_rfl
theorem lpBest_joined:joinedFacts Tryz.prog 3 Tryz.f3 Rows.lpBestSpec Rows.lpBestRow=true:=(band (band (band (band (band (band (band (band (band (band (band (band (band (band (band (band (band (band (band (band (band (band (band (band (band (band (band (band (band (band (band (by kernel_rfl) laidOutK) fMaps) (by kernel_rfl)) (by kernel_rfl)) (by kernel_rfl)) fStops) (by kernel_rfl)) fKnobs) lpBest_inPlace) lpBest_unfollowed) lpBest_recurses) lpBest_named) (by kernel_rfl)) (by kernel_rfl)) (by kernel_rfl)) (by kernel_rfl)) (by kernel_rfl)) (by kernel_rfl)) (by kernel_rfl)) (by kernel_rfl)) (by kernel_rfl)) fPlain) (by kernel_rfl)) fHeard) fEnter) fLifted) fMake) (by kernel_rfl)) (by kernel_rfl)) (by kernel_rfl)) (by kernel_rfl))
theorem lpBest_holds:Rows.LpBestSaid:=
  OpenClaim.holds_of_wide 3 Tryz.f3 rfl rfl rfl rfl rfl rfl rfl ⟨rfl,rfl,rfl,rfl,rfl⟩ rfl rfl rfl rfl rfl (by kernel_rfl) Tryz.func3 lpBest_joined
    (of_decide_eq_true (by kernel_rfl)) (by unfold Func.isWrapper;first|(rw[if_pos (by decide+kernel)];kernel_rfl)|(rw[if_neg (by decide+kernel)];exact⟨rfl,rfl⟩))
    (fun os started H enc _=>lpBest_lifted os started H enc)
theorem lpBest_card:Rows.LpBestCardSaid:=
  Claim7.holds_tied_plain_at .later [] [.data,.data,.data] true Rows.lpBestCard.stood.harness false lpBest_holds (fun _ h=>by cases h) (by kernel_rfl) (fun _ h=>by cases h) lpBest_row_tie rfl ⟨rfl,rfl⟩ fMain rfl
    (fun f fn hf hfn=>by
      obtain rfl:f=3:=Option.some.inj ((show Tryz.prog.funcNamed "waypoint/waypointlaw40.LpBest"=some 3 by kernel_rfl).symm.trans hf)|>.symm
      obtain rfl:fn=Tryz.f3:=(Option.some.inj (Tryz.func3.symm.trans hfn)).symm
      exact⟨fLooks,fun j t ht=>by
        rw[Tryz.params3]at ht;have hm:t∈[24]:=by simpa using Array.mem_of_getElem? ht
        have hall:([24].all fun u=> !Tryz.prog.wantsStandIn u)=true:=by kernel_rfl
        exact(show Tryz.prog.wantsStandIn t=false by simpa using List.all_eq_true.1 hall t hm)⟩)
    lpBest_goes
end Go.Proofs.YtjhaedfpigebdaaGreatDoor
