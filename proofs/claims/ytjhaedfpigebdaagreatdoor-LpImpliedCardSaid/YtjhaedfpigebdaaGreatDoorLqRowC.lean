/- The rows and cards of LpImplied: for every input the call returns true, and each argument reads as it did. No condition. -/

import Derived.Test.YtjhaedfpigebdaaGreatDoorQF
import Derived.Test.YtjhaedfpigebdaaGreatDoorCards
import Derived.Test.YtjhaedfpigebdaaGreatDoorSlH
namespace Go.Proofs.YtjhaedfpigebdaaGreatDoor
open Go.ChangeShapes Go.WideShapes Go.ChangeAt Go.RowKit Go.Joins Go.Deep
set_option maxRecDepth 100000 in
theorem lpImplied_lifted(os:Os)(started:os.Started)(H:Type)(enc:TypeId × Value->H):
    ReturnsInHanded {} Tryz.checked os 7 .any (fun w args=>(Rows.lpImpliedSpec.pre enc Tryz.prog Tryz.f7 Rows.lpImpliedRow.domain false w args/\laidMetH Tryz.prog Rows.lpImpliedRow.laid w)/\sizedMet enc Tryz.prog Tryz.f7 (OpenSpec.ofChange Rows.lpImpliedSpec) false w args)
      (Rows.lpImpliedSpec.post enc Tryz.prog Tryz.f7 false true false false):=by
  refine change_and_shaped (C:=Tryz.checked) (X:=fun w _=>laidMetH Tryz.prog Rows.lpImpliedRow.laid w) (fun _ _ _ hh h=>h.of_heap hh) ownK started (by kernel_rfl) Tryz.func7
    (ChangeSpec.witness_shaped (enc:=enc) (C:=Tryz.checked) (os:=os) (X:=fun w _=>laidMetH Tryz.prog Rows.lpImpliedRow.laid w) false (World.laidAll Tryz.prog os Rows.lpImpliedRow.laid) #[.agg #[.slice none 0 0,.slice none 0 0,.slice none 0 0],.int .u8 0,.int .u8 0] 8 (World.laidAll_os _ _ _)
      (World.shaped_of_ZipB (by kernel_rfl) (by kernel_rfl)) (by kernel_rfl) (by kernel_rfl) (by kernel_rfl)
      (by rw[MakeChecks.laidMetH_plain _ _ _ (by kernel_rfl)];exact laidMet_laidAll _ (by kernel_rfl) (by kernel_rfl))) ?_
  intro W base args ds gs before hval0 hW hL hsh;have hval:∀(j:Nat) t v,Tryz.f7.params[j]?=some t->args[j]?=some v->Value.okWide Tryz.prog W .any base t v:=hval0;have hW':=hW;obtain⟨p,q,hA0,hV,rfl,hfz,hnd⟩:=hW;have hA:DataW.TrodAll enc Tryz.prog W 0 (fun _=>true) true Tryz.f7.params.toList args.toList ds p:=hA0;rw[Tryz.params7]at hA hval;obtain⟨v0,vs0,d0,ds0,p0,q0,hargs,rfl,rfl,h0,r0⟩:=trodAll_cons hA;obtain⟨v1,vs1,d1,ds1,p1,q1,rfl,rfl,rfl,h1,r1⟩:=trodAll_cons r0;obtain⟨v2,vs2,d2,ds2,p2,q2,rfl,rfl,rfl,h2,r2⟩:=trodAll_cons r1;obtain⟨rfl,rfl,rfl⟩:=trodAll_nil r2;obtain rfl:args=#[v0,v1,v2]:=by cases args;simp_all
  obtain⟨rfl,rfl⟩:=trodVars_none hV;obtain⟨s0,p0c,p0a,p0b,n0c,c0c,n0a,c0a,n0b,c0b,rfl,k0c,k0a,k0b,ok0⟩:=open_sm (hval 0 24 v0 rfl rfl) h0;obtain⟨x1,rfl,hx1⟩:=open_u8 (hval 1 5 v1 rfl rfl) h1;obtain⟨x2,rfl,hx2⟩:=open_u8 (hval 2 5 v2 rfl rfl) h2;refine(lpImplied_any W ok0 k0c k0a k0b (bas_of hL hsh) hx1 hx2).mono fun e W' ⟨he,hB⟩=>?_
  subst he;exact⟨_,rfl,law_post rfl rfl (by kernel_rfl) (by kernel_rfl) hW' hA0 hB⟩
theorem lpImplied_inPlace:(Rows.lpImpliedRow.inPlace==Tryz.prog.inPlace 7)=true:=by kernel_rfl
theorem lpImplied_unfollowed:(Rows.lpImpliedRow.unfollowed==Tryz.prog.unfollowed 7)=true:=by kernel_rfl
theorem lpImplied_recurses:(Rows.lpImpliedRow.recurses==Tryz.prog.recurses 7)=true:=by kernel_rfl
theorem lpImplied_named:(Rows.lpImpliedRow.named==Tryz.prog.varsNamed 7)=true:=by kernel_rfl
theorem lpImplied_goes:false=Rows.lpImpliedRow.goesBy Tryz.prog:=by kernel_rfl
theorem lpImplied_joined:joinedFacts Tryz.prog 7 Tryz.f7 Rows.lpImpliedSpec Rows.lpImpliedRow=true:=(band (band (band (band (band (band (band (band (band (band (band (band (band (band (band (band (band (band (band (band (band (band (band (band (band (band (band (band (band (band (band (by kernel_rfl) laidOutK) fMaps) (by kernel_rfl)) (by kernel_rfl)) (by kernel_rfl)) fStops) (by kernel_rfl)) fKnobs) lpImplied_inPlace) lpImplied_unfollowed) lpImplied_recurses) lpImplied_named) (by kernel_rfl)) (by kernel_rfl)) (by kernel_rfl)) (by kernel_rfl)) (by kernel_rfl)) (by kernel_rfl)) (by kernel_rfl)) (by kernel_rfl)) (by kernel_rfl)) fPlain) (by kernel_rfl)) fHeard) fEnter) fLifted) fMake) (by kernel_rfl)) (by kernel_rfl)) (by kernel_rfl)) (by kernel_rfl))
theorem lpImplied_holds:Rows.LpImpliedSaid:=
  OpenClaim.holds_of_wide 7 Tryz.f7 rfl rfl rfl rfl rfl rfl rfl ⟨rfl,rfl,rfl,rfl,rfl⟩ rfl rfl rfl rfl rfl (by kernel_rfl) Tryz.func7 lpImplied_joined
    (of_decide_eq_true (by kernel_rfl)) (by unfold Func.isWrapper;first|(rw[if_pos (by decide+kernel)];kernel_rfl)|(rw[if_neg (by decide+kernel)];exact⟨rfl,rfl⟩))
    (fun os started H enc _=>lpImplied_lifted os started H enc)
theorem lpImplied_card:Rows.LpImpliedCardSaid:=
  Claim7.holds_tied_plain_at .later [] [.data,.data,.data] true Rows.lpImpliedCard.stood.harness false lpImplied_holds (fun _ h=>by cases h) (by kernel_rfl) (fun _ h=>by cases h) lpImplied_row_tie rfl ⟨rfl,rfl⟩ fMain rfl
    (fun f fn hf hfn=>by
      obtain rfl:f=7:=Option.some.inj ((show Tryz.prog.funcNamed "waypoint/waypointlaw40.LpImplied"=some 7 by kernel_rfl).symm.trans hf)|>.symm
      obtain rfl:fn=Tryz.f7:=(Option.some.inj (Tryz.func7.symm.trans hfn)).symm
      exact⟨fLooks,fun j t ht=>by
        rw[Tryz.params7]at ht;have hm:t∈[24,5,5]:=by simpa using Array.mem_of_getElem? ht
        have hall:([24,5,5].all fun u=> !Tryz.prog.wantsStandIn u)=true:=by kernel_rfl
        exact(show Tryz.prog.wantsStandIn t=false by simpa using List.all_eq_true.1 hall t hm)⟩)
    lpImplied_goes
end Go.Proofs.YtjhaedfpigebdaaGreatDoor
