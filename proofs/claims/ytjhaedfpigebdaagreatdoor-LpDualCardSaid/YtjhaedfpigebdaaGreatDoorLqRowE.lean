/- The rows and cards of LpDual: for every input the call returns true, and each argument reads as it did. No condition. -/

import Derived.Test.YtjhaedfpigebdaaGreatDoorQF
import Derived.Test.YtjhaedfpigebdaaGreatDoorCards
import Derived.Test.YtjhaedfpigebdaaGreatDoorSlK
namespace Go.Proofs.YtjhaedfpigebdaaGreatDoor
open Go.ChangeShapes Go.WideShapes Go.ChangeAt Go.RowKit Go.Joins Go.Deep
set_option maxRecDepth 100000 in
theorem lpDual_lifted(os:Os)(started:os.Started)(H:Type)(enc:TypeId × Value->H):
    ReturnsInHanded {} Tryz.checked os 9 .any (fun w args=>(Rows.lpDualSpec.pre enc Tryz.prog Tryz.f9 Rows.lpDualRow.domain false w args/\laidMetH Tryz.prog Rows.lpDualRow.laid w)/\sizedMet enc Tryz.prog Tryz.f9 (OpenSpec.ofChange Rows.lpDualSpec) false w args)
      (Rows.lpDualSpec.post enc Tryz.prog Tryz.f9 false true false false):=by
  refine change_and_shaped (C:=Tryz.checked) (X:=fun w _=>laidMetH Tryz.prog Rows.lpDualRow.laid w) (fun _ _ _ hh h=>h.of_heap hh) ownK started (by kernel_rfl) Tryz.func9
    (ChangeSpec.witness_shaped (enc:=enc) (C:=Tryz.checked) (os:=os) (X:=fun w _=>laidMetH Tryz.prog Rows.lpDualRow.laid w) false (World.laidAll Tryz.prog os Rows.lpDualRow.laid) #[.agg #[.slice none 0 0,.slice none 0 0,.slice none 0 0]] 8 (World.laidAll_os _ _ _)
      (World.shaped_of_ZipB (by kernel_rfl) (by kernel_rfl)) (by kernel_rfl) (by kernel_rfl) (by kernel_rfl)
      (by rw[MakeChecks.laidMetH_plain _ _ _ (by kernel_rfl)];exact laidMet_laidAll _ (by kernel_rfl) (by kernel_rfl))) ?_
  intro W base args ds gs before hval0 hW hL hsh;have hval:∀(j:Nat) t v,Tryz.f9.params[j]?=some t->args[j]?=some v->Value.okWide Tryz.prog W .any base t v:=hval0;have hW':=hW;obtain⟨p,q,hA0,hV,rfl,hfz,hnd⟩:=hW;have hA:DataW.TrodAll enc Tryz.prog W 0 (fun _=>true) true Tryz.f9.params.toList args.toList ds p:=hA0;rw[Tryz.params9]at hA hval;obtain⟨v0,vs0,d0,ds0,p0,q0,hargs,rfl,rfl,h0,r0⟩:=trodAll_cons hA;obtain⟨rfl,rfl,rfl⟩:=trodAll_nil r0;obtain rfl:args=#[v0]:=by cases args;simp_all
  obtain⟨rfl,rfl⟩:=trodVars_none hV;obtain⟨s0,p0c,p0a,p0b,n0c,c0c,n0a,c0a,n0b,c0b,rfl,k0c,k0a,k0b,ok0⟩:=open_sm (hval 0 24 v0 rfl rfl) h0;refine(lpDual_any W ok0 k0c k0a k0b (bas_of hL hsh)).mono fun e W' ⟨he,hB⟩=>?_
  subst he;exact⟨_,rfl,law_post rfl rfl (by kernel_rfl) (by kernel_rfl) hW' hA0 hB⟩
theorem lpDual_inPlace:(Rows.lpDualRow.inPlace==Tryz.prog.inPlace 9)=true:=by kernel_rfl
theorem lpDual_unfollowed:(Rows.lpDualRow.unfollowed==Tryz.prog.unfollowed 9)=true:=by kernel_rfl
theorem lpDual_recurses:(Rows.lpDualRow.recurses==Tryz.prog.recurses 9)=true:=by kernel_rfl
theorem lpDual_named:(Rows.lpDualRow.named==Tryz.prog.varsNamed 9)=true:=by kernel_rfl
theorem lpDual_goes:false=Rows.lpDualRow.goesBy Tryz.prog:=by kernel_rfl
theorem lpDual_joined:joinedFacts Tryz.prog 9 Tryz.f9 Rows.lpDualSpec Rows.lpDualRow=true:=(band (band (band (band (band (band (band (band (band (band (band (band (band (band (band (band (band (band (band (band (band (band (band (band (band (band (band (band (band (band (band (by kernel_rfl) laidOutK) fMaps) (by kernel_rfl)) (by kernel_rfl)) (by kernel_rfl)) fStops) (by kernel_rfl)) fKnobs) lpDual_inPlace) lpDual_unfollowed) lpDual_recurses) lpDual_named) (by kernel_rfl)) (by kernel_rfl)) (by kernel_rfl)) (by kernel_rfl)) (by kernel_rfl)) (by kernel_rfl)) (by kernel_rfl)) (by kernel_rfl)) (by kernel_rfl)) fPlain) (by kernel_rfl)) fHeard) fEnter) fLifted) fMake) (by kernel_rfl)) (by kernel_rfl)) (by kernel_rfl)) (by kernel_rfl))
theorem lpDual_holds:Rows.LpDualSaid:=
  OpenClaim.holds_of_wide 9 Tryz.f9 rfl rfl rfl rfl rfl rfl rfl ⟨rfl,rfl,rfl,rfl,rfl⟩ rfl rfl rfl rfl rfl (by kernel_rfl) Tryz.func9 lpDual_joined
    (of_decide_eq_true (by kernel_rfl)) (by unfold Func.isWrapper;first|(rw[if_pos (by decide+kernel)];kernel_rfl)|(rw[if_neg (by decide+kernel)];exact⟨rfl,rfl⟩))
    (fun os started H enc _=>lpDual_lifted os started H enc)
theorem lpDual_card:Rows.LpDualCardSaid:=
  Claim7.holds_tied_plain_at .later [] [.data,.data,.data] true Rows.lpDualCard.stood.harness false lpDual_holds (fun _ h=>by cases h) (by kernel_rfl) (fun _ h=>by cases h) lpDual_row_tie rfl ⟨rfl,rfl⟩ fMain rfl
    (fun f fn hf hfn=>by
      obtain rfl:f=9:=Option.some.inj ((show Tryz.prog.funcNamed "waypoint/waypointlaw40.LpDual"=some 9 by kernel_rfl).symm.trans hf)|>.symm
      obtain rfl:fn=Tryz.f9:=(Option.some.inj (Tryz.func9.symm.trans hfn)).symm
      exact⟨fLooks,fun j t ht=>by
        rw[Tryz.params9]at ht;have hm:t∈[24]:=by simpa using Array.mem_of_getElem? ht
        have hall:([24].all fun u=> !Tryz.prog.wantsStandIn u)=true:=by kernel_rfl
        exact(show Tryz.prog.wantsStandIn t=false by simpa using List.all_eq_true.1 hall t hm)⟩)
    lpDual_goes
end Go.Proofs.YtjhaedfpigebdaaGreatDoor
