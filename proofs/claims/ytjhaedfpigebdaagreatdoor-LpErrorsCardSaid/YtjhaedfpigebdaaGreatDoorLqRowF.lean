/- The rows and cards of LpErrors: for every input the call returns true, and each argument reads as it did. No condition. -/

import Derived.Test.YtjhaedfpigebdaaGreatDoorQF
import Derived.Test.YtjhaedfpigebdaaGreatDoorCards
import Derived.Test.YtjhaedfpigebdaaGreatDoorSlL
import Derived.Test.YtjhaedfpigebdaaGreatDoorLqRow2
namespace Go.Proofs.YtjhaedfpigebdaaGreatDoor
open Go.ChangeShapes Go.WideShapes Go.ChangeAt Go.RowKit Go.Joins Go.Deep
set_option maxRecDepth 100000 in
theorem lpErrors_lifted(os:Os)(started:os.Started)(H:Type)(enc:TypeId × Value->H):
    ReturnsInHanded {} Tryz.checked os 10 .any (fun w args=>(Rows.lpErrorsSpec.pre enc Tryz.prog Tryz.f10 Rows.lpErrorsRow.domain false w args/\laidMetH Tryz.prog Rows.lpErrorsRow.laid w)/\sizedMet enc Tryz.prog Tryz.f10 (OpenSpec.ofChange Rows.lpErrorsSpec) false w args)
      (Rows.lpErrorsSpec.post enc Tryz.prog Tryz.f10 false true false false):=by
  refine change_and_shaped (C:=Tryz.checked) (X:=fun w _=>laidMetH Tryz.prog Rows.lpErrorsRow.laid w) (fun _ _ _ hh h=>h.of_heap hh) ownK started (by kernel_rfl) Tryz.func10
    (ChangeSpec.witness_shaped (enc:=enc) (C:=Tryz.checked) (os:=os) (X:=fun w _=>laidMetH Tryz.prog Rows.lpErrorsRow.laid w) false (World.laidAll Tryz.prog os Rows.lpErrorsRow.laid) #[.int .u16 0,.int .u16 0,.agg #[.int .i8 0,.int .i8 0]] 8 (World.laidAll_os _ _ _)
      (World.shaped_of_ZipB (by kernel_rfl) (by kernel_rfl)) (by kernel_rfl) (by kernel_rfl) (by kernel_rfl)
      (by rw[MakeChecks.laidMetH_plain _ _ _ (by kernel_rfl)];exact laidMet_laidAll _ (by kernel_rfl) (by kernel_rfl))) ?_
  intro W base args ds gs before hval0 hW hL hsh;have hval:∀(j:Nat) t v,Tryz.f10.params[j]?=some t->args[j]?=some v->Value.okWide Tryz.prog W .any base t v:=hval0;have hW':=hW;obtain⟨p,q,hA0,hV,rfl,hfz,hnd⟩:=hW;have hA:DataW.TrodAll enc Tryz.prog W 0 (fun _=>true) true Tryz.f10.params.toList args.toList ds p:=hA0;rw[Tryz.params10]at hA hval;obtain⟨v0,vs0,d0,ds0,p0,q0,hargs,rfl,rfl,h0,r0⟩:=trodAll_cons hA;obtain⟨v1,vs1,d1,ds1,p1,q1,rfl,rfl,rfl,h1,r1⟩:=trodAll_cons r0;obtain⟨v2,vs2,d2,ds2,p2,q2,rfl,rfl,rfl,h2,r2⟩:=trodAll_cons r1;obtain⟨rfl,rfl,rfl⟩:=trodAll_nil r2;obtain rfl:args=#[v0,v1,v2]:=by cases args;simp_all
  obtain⟨rfl,rfl⟩:=trodVars_none hV;obtain⟨x0,rfl,hx0⟩:=open_u16 (hval 0 73 v0 rfl rfl) h0;obtain⟨x1,rfl,hx1⟩:=open_u16 (hval 1 73 v1 rfl rfl) h1;obtain⟨a2,b2,rfl,ha2,hb2⟩:=open_i8x2 (hval 2 75 v2 rfl rfl) h2;refine(lpErrors_any W (bas_of hL hsh) hx0 hx1 ha2 hb2).mono fun e W' ⟨he,hB⟩=>?_
  subst he;exact⟨_,rfl,law_post rfl rfl (by kernel_rfl) (by kernel_rfl) hW' hA0 hB⟩
theorem lpErrors_inPlace:(Rows.lpErrorsRow.inPlace==Tryz.prog.inPlace 10)=true:=by kernel_rfl
theorem lpErrors_unfollowed:(Rows.lpErrorsRow.unfollowed==Tryz.prog.unfollowed 10)=true:=by kernel_rfl
theorem lpErrors_recurses:(Rows.lpErrorsRow.recurses==Tryz.prog.recurses 10)=true:=by kernel_rfl
theorem lpErrors_named:(Rows.lpErrorsRow.named==Tryz.prog.varsNamed 10)=true:=by kernel_rfl
theorem lpErrors_goes:false=Rows.lpErrorsRow.goesBy Tryz.prog:=by kernel_rfl
theorem lpErrors_joined:joinedFacts Tryz.prog 10 Tryz.f10 Rows.lpErrorsSpec Rows.lpErrorsRow=true:=(band (band (band (band (band (band (band (band (band (band (band (band (band (band (band (band (band (band (band (band (band (band (band (band (band (band (band (band (band (band (band (by kernel_rfl) laidOutK) fMaps) (by kernel_rfl)) (by kernel_rfl)) (by kernel_rfl)) fStops) (by kernel_rfl)) fKnobs) lpErrors_inPlace) lpErrors_unfollowed) lpErrors_recurses) lpErrors_named) (by kernel_rfl)) (by kernel_rfl)) (by kernel_rfl)) (by kernel_rfl)) (by kernel_rfl)) (by kernel_rfl)) (by kernel_rfl)) (by kernel_rfl)) (by kernel_rfl)) fPlain) (by kernel_rfl)) fHeard) fEnter) fLifted) fMake) (by kernel_rfl)) (by kernel_rfl)) (by kernel_rfl)) (by kernel_rfl))
theorem lpErrors_holds:Rows.LpErrorsSaid:=
  OpenClaim.holds_of_wide 10 Tryz.f10 rfl rfl rfl rfl rfl rfl rfl ⟨rfl,rfl,rfl,rfl,rfl⟩ rfl rfl rfl rfl rfl (by kernel_rfl) Tryz.func10 lpErrors_joined
    (of_decide_eq_true (by kernel_rfl)) (by unfold Func.isWrapper;first|(rw[if_pos (by decide+kernel)];kernel_rfl)|(rw[if_neg (by decide+kernel)];exact⟨rfl,rfl⟩))
    (fun os started H enc _=>lpErrors_lifted os started H enc)
theorem lpErrors_card:Rows.LpErrorsCardSaid:=
  Claim7.holds_tied_plain_at .later [] [.data,.data,.data] true Rows.lpErrorsCard.stood.harness false lpErrors_holds (fun _ h=>by cases h) (by kernel_rfl) (fun _ h=>by cases h) lpErrors_row_tie rfl ⟨rfl,rfl⟩ fMain rfl
    (fun f fn hf hfn=>by
      obtain rfl:f=10:=Option.some.inj ((show Tryz.prog.funcNamed "waypoint/waypointlaw40.LpErrors"=some 10 by kernel_rfl).symm.trans hf)|>.symm
      obtain rfl:fn=Tryz.f10:=(Option.some.inj (Tryz.func10.symm.trans hfn)).symm
      exact⟨fLooks,fun j t ht=>by
        rw[Tryz.params10]at ht;have hm:t∈[73,73,75]:=by simpa using Array.mem_of_getElem? ht
        have hall:([73,73,75].all fun u=> !Tryz.prog.wantsStandIn u)=true:=by kernel_rfl
        exact(show Tryz.prog.wantsStandIn t=false by simpa using List.all_eq_true.1 hall t hm)⟩)
    lpErrors_goes
end Go.Proofs.YtjhaedfpigebdaaGreatDoor
