/- The rows and cards of LpPoints: for every input the call returns true, and each argument reads as it did. No condition. -/

import Derived.Test.YtjhaedfpigebdaaGreatDoorQF
import Derived.Test.YtjhaedfpigebdaaGreatDoorCards
namespace Go.Proofs.YtjhaedfpigebdaaGreatDoor
open Go.ChangeShapes Go.WideShapes Go.ChangeAt Go.RowKit Go.Joins Go.Deep
set_option maxRecDepth 100000 in
theorem lpPoints_lifted(os:Os)(started:os.Started)(H:Type)(enc:TypeId × Value->H):
    ReturnsInHanded {} Tryz.checked os 4 .any (fun w args=>(Rows.lpPointsSpec.pre enc Tryz.prog Tryz.f4 Rows.lpPointsRow.domain false w args/\laidMetH Tryz.prog Rows.lpPointsRow.laid w)/\sizedMet enc Tryz.prog Tryz.f4 (OpenSpec.ofChange Rows.lpPointsSpec) false w args)
      (Rows.lpPointsSpec.post enc Tryz.prog Tryz.f4 false true false false):=by
  refine change_and_shaped (C:=Tryz.checked) (X:=fun w _=>laidMetH Tryz.prog Rows.lpPointsRow.laid w) (fun _ _ _ hh h=>h.of_heap hh) ownK started (by kernel_rfl) Tryz.func4
    (ChangeSpec.witness_shaped (enc:=enc) (C:=Tryz.checked) (os:=os) (X:=fun w _=>laidMetH Tryz.prog Rows.lpPointsRow.laid w) false (World.laidAll Tryz.prog os Rows.lpPointsRow.laid) #[.agg #[.slice none 0 0,.slice none 0 0,.slice none 0 0],.agg #[.int .u8 0,.int .u8 0,.int .u8 0,.int .u8 0],.int .u8 0] 8 (World.laidAll_os _ _ _)
      (World.shaped_of_ZipB (by kernel_rfl) (by kernel_rfl)) (by kernel_rfl) (by kernel_rfl) (by kernel_rfl)
      (by rw[MakeChecks.laidMetH_plain _ _ _ (by kernel_rfl)];exact laidMet_laidAll _ (by kernel_rfl) (by kernel_rfl))) ?_
  intro W base args ds gs before hval0 hW hL hsh;have hval:∀(j:Nat) t v,Tryz.f4.params[j]?=some t->args[j]?=some v->Value.okWide Tryz.prog W .any base t v:=hval0;have hW':=hW;obtain⟨p,q,hA0,hV,rfl,hfz,hnd⟩:=hW;have hA:DataW.TrodAll enc Tryz.prog W 0 (fun _=>true) true Tryz.f4.params.toList args.toList ds p:=hA0;rw[Tryz.params4]at hA hval;obtain⟨v0,vs0,d0,ds0,p0,q0,hargs,rfl,rfl,h0,r0⟩:=trodAll_cons hA;obtain⟨v1,vs1,d1,ds1,p1,q1,rfl,rfl,rfl,h1,r1⟩:=trodAll_cons r0;obtain⟨v2,vs2,d2,ds2,p2,q2,rfl,rfl,rfl,h2,r2⟩:=trodAll_cons r1;obtain⟨rfl,rfl,rfl⟩:=trodAll_nil r2;obtain rfl:args=#[v0,v1,v2]:=by cases args;simp_all
  obtain⟨rfl,rfl⟩:=trodVars_none hV;obtain⟨s0,p0c,p0a,p0b,n0c,c0c,n0a,c0a,n0b,c0b,rfl,k0c,k0a,k0b,ok0⟩:=open_sm (hval 0 24 v0 rfl rfl) h0;obtain⟨a1,b1,c1,e1,rfl,ha1⟩:=open_u8x4 (hval 1 43 v1 rfl rfl) h1;obtain⟨x2,rfl,hx2⟩:=open_u8 (hval 2 5 v2 rfl rfl) h2;refine(lpPoints_any W ok0 k0c k0a k0b (bas_of hL hsh) ha1 hx2).mono fun e W' ⟨he,hB⟩=>?_
  subst he;exact⟨_,rfl,law_post rfl rfl (by kernel_rfl) (by kernel_rfl) hW' hA0 hB⟩
theorem lpPoints_inPlace:(Rows.lpPointsRow.inPlace==Tryz.prog.inPlace 4)=true:=by kernel_rfl
theorem lpPoints_unfollowed:(Rows.lpPointsRow.unfollowed==Tryz.prog.unfollowed 4)=true:=by kernel_rfl
theorem lpPoints_recurses:(Rows.lpPointsRow.recurses==Tryz.prog.recurses 4)=true:=by kernel_rfl
theorem lpPoints_named:(Rows.lpPointsRow.named==Tryz.prog.varsNamed 4)=true:=by kernel_rfl
theorem lpPoints_goes:false=Rows.lpPointsRow.goesBy Tryz.prog:=by kernel_rfl
theorem lpPoints_joined:joinedFacts Tryz.prog 4 Tryz.f4 Rows.lpPointsSpec Rows.lpPointsRow=true:=(band (band (band (band (band (band (band (band (band (band (band (band (band (band (band (band (band (band (band (band (band (band (band (band (band (band (band (band (band (band (band (by kernel_rfl) laidOutK) fMaps) (by kernel_rfl)) (by kernel_rfl)) (by kernel_rfl)) fStops) (by kernel_rfl)) fKnobs) lpPoints_inPlace) lpPoints_unfollowed) lpPoints_recurses) lpPoints_named) (by kernel_rfl)) (by kernel_rfl)) (by kernel_rfl)) (by kernel_rfl)) (by kernel_rfl)) (by kernel_rfl)) (by kernel_rfl)) (by kernel_rfl)) (by kernel_rfl)) fPlain) (by kernel_rfl)) fHeard) fEnter) fLifted) fMake) (by kernel_rfl)) (by kernel_rfl)) (by kernel_rfl)) (by kernel_rfl))
theorem lpPoints_holds:Rows.LpPointsSaid:=
  OpenClaim.holds_of_wide 4 Tryz.f4 rfl rfl rfl rfl rfl rfl rfl ⟨rfl,rfl,rfl,rfl,rfl⟩ rfl rfl rfl rfl rfl (by kernel_rfl) Tryz.func4 lpPoints_joined
    (of_decide_eq_true (by kernel_rfl)) (by unfold Func.isWrapper;first|(rw[if_pos (by decide+kernel)];kernel_rfl)|(rw[if_neg (by decide+kernel)];exact⟨rfl,rfl⟩))
    (fun os started H enc _=>lpPoints_lifted os started H enc)
theorem lpPoints_card:Rows.LpPointsCardSaid:=
  Claim7.holds_tied_plain_at .later [] [.data,.data,.data] true Rows.lpPointsCard.stood.harness false lpPoints_holds (fun _ h=>by cases h) (by kernel_rfl) (fun _ h=>by cases h) lpPoints_row_tie rfl ⟨rfl,rfl⟩ fMain rfl
    (fun f fn hf hfn=>by
      obtain rfl:f=4:=Option.some.inj ((show Tryz.prog.funcNamed "waypoint/waypointlaw40.LpPoints"=some 4 by kernel_rfl).symm.trans hf)|>.symm
      obtain rfl:fn=Tryz.f4:=(Option.some.inj (Tryz.func4.symm.trans hfn)).symm
      exact⟨fLooks,fun j t ht=>by
        rw[Tryz.params4]at ht;have hm:t∈[24,43,5]:=by simpa using Array.mem_of_getElem? ht
        have hall:([24,43,5].all fun u=> !Tryz.prog.wantsStandIn u)=true:=by kernel_rfl
        exact(show Tryz.prog.wantsStandIn t=false by simpa using List.all_eq_true.1 hall t hm)⟩)
    lpPoints_goes
end Go.Proofs.YtjhaedfpigebdaaGreatDoor
