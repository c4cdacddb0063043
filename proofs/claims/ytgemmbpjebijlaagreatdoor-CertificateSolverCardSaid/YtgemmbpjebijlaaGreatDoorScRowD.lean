/- The rows and cards of CertificateSolver: for every input the call returns true, and each argument reads as it did. No condition. -/

import Derived.Test.YtgemmbpjebijlaaGreatDoorQF
import Derived.Test.YtgemmbpjebijlaaGreatDoorCards
import Derived.Test.YtgemmbpjebijlaaGreatDoorScW
namespace Go.Proofs.YtgemmbpjebijlaaGreatDoor
open Go.ChangeShapes Go.WideShapes Go.ChangeAt Go.RowKit Go.Joins Go.Deep
section
variable {H:Type}{enc:TypeId × Value->H}{w:World}{base:Nat}{sp:Nat->Bool}{hd:Bool}
set_option maxRecDepth 100000 in
theorem open_fr{b0:Nat}{v:Value}{d:DataW H}{p:List MemPlace}(hv:Value.okWide Tryz.prog w .any b0 27 v)(h:DataW.Trod enc Tryz.prog w base sp hd 27 v d p):∃f:Frc,v=.agg #[.int .i8 f.n,.int .i8 f.d]/\f.Ok:=by
  obtain⟨cs,rfl,hsz⟩:=okWide_struct Tryz.underlying27 hv;rw[show Tryz.prog.cellsOf 27=2 by kernel_rfl]at hsz;obtain⟨l⟩:=cs;obtain⟨fuel,hf⟩:=h;obtain⟨x,e,ok⟩:=elem_fr (cs:=l) (m:=fuel) (y:=(d,p)) hsz (by simpa[Value.cells]using hf);subst e;exact⟨x,rfl,ok⟩
end
set_option maxRecDepth 100000 in
theorem certificateSolver_lifted(os:Os)(started:os.Started)(H:Type)(enc:TypeId × Value->H):
    ReturnsInHanded {} Tryz.checked os 3 .any (fun w args=>(Rows.certificateSolverSpec.pre enc Tryz.prog Tryz.f3 Rows.certificateSolverRow.domain false w args/\laidMetH Tryz.prog Rows.certificateSolverRow.laid w)/\sizedMet enc Tryz.prog Tryz.f3 (OpenSpec.ofChange Rows.certificateSolverSpec) false w args)
      (Rows.certificateSolverSpec.post enc Tryz.prog Tryz.f3 false true false false):=by
  refine change_and_shaped (C:=Tryz.checked) (X:=fun w _=>laidMetH Tryz.prog Rows.certificateSolverRow.laid w) (fun _ _ _ hh h=>h.of_heap hh) ownK started (by kernel_rfl) Tryz.func3
    (ChangeSpec.witness_shaped (enc:=enc) (C:=Tryz.checked) (os:=os) (X:=fun w _=>laidMetH Tryz.prog Rows.certificateSolverRow.laid w) false (World.laidAll Tryz.prog os Rows.certificateSolverRow.laid) #[.agg #[.slice none 0 0,.slice none 0 0,.slice none 0 0],.int .u8 0,.agg #[.int .i8 0,.int .i8 0]] 8 (World.laidAll_os _ _ _)
      (World.shaped_of_ZipB (by kernel_rfl) (by kernel_rfl)) (by kernel_rfl) (by kernel_rfl) (by kernel_rfl)
      (by rw[MakeChecks.laidMetH_plain _ _ _ (by kernel_rfl)];exact laidMet_laidAll _ (by kernel_rfl) (by kernel_rfl))) ?_
  intro W base args ds gs before hval0 hW hL hsh;have hval:∀(j:Nat) t v,Tryz.f3.params[j]?=some t->args[j]?=some v->Value.okWide Tryz.prog W .any base t v:=hval0;have hW':=hW;obtain⟨p,q,hA0,hV,rfl,hfz,hnd⟩:=hW;have hA:DataW.TrodAll enc Tryz.prog W 0 (fun _=>true) true Tryz.f3.params.toList args.toList ds p:=hA0;rw[Tryz.params3]at hA hval;obtain⟨v0,vs0,d0,ds0,p0,q0,hargs,rfl,rfl,h0,r0⟩:=trodAll_cons hA;obtain⟨v1,vs1,d1,ds1,p1,q1,rfl,rfl,rfl,h1,r1⟩:=trodAll_cons r0;obtain⟨v2,vs2,d2,ds2,p2,q2,rfl,rfl,rfl,h2,r2⟩:=trodAll_cons r1;obtain⟨rfl,rfl,rfl⟩:=trodAll_nil r2;obtain rfl:args=#[v0,v1,v2]:=by cases args;simp_all
  obtain⟨rfl,rfl⟩:=trodVars_none hV;obtain⟨s0,p0c,p0a,p0b,n0c,c0c,n0a,c0a,n0b,c0b,rfl,k0c,k0a,k0b,ok0⟩:=open_sm (hval 0 24 v0 rfl rfl) h0;obtain⟨x1,rfl,hx1⟩:=open_u8 (hval 1 5 v1 rfl rfl) h1;obtain⟨f2,rfl,ok2⟩:=open_fr (hval 2 27 v2 rfl rfl) h2;refine(certSolver_any W ok0 k0c k0a k0b (bas_of hL hsh) hx1 ok2).mono fun e W' ⟨he,hB⟩=>?_
  subst he;exact⟨_,rfl,law_post rfl rfl (by kernel_rfl) (by kernel_rfl) hW' hA0 hB⟩
theorem certificateSolver_inPlace:(Rows.certificateSolverRow.inPlace==Tryz.prog.inPlace 3)=true:=by kernel_rfl
theorem certificateSolver_unfollowed:(Rows.certificateSolverRow.unfollowed==Tryz.prog.unfollowed 3)=true:=by kernel_rfl
theorem certificateSolver_recurses:(Rows.certificateSolverRow.recurses==Tryz.prog.recurses 3)=true:=by kernel_rfl
theorem certificateSolver_named:(Rows.certificateSolverRow.named==Tryz.prog.varsNamed 3)=true:=by kernel_rfl
theorem certificateSolver_goes:false=Rows.certificateSolverRow.goesBy Tryz.prog:=by kernel_rfl
theorem certificateSolver_joined:joinedFacts Tryz.prog 3 Tryz.f3 Rows.certificateSolverSpec Rows.certificateSolverRow=true:=(band (band (band (band (band (band (band (band (band (band (band (band (band (band (band (band (band (band (band (band (band (band (band (band (band (band (band (band (band (band (band (by kernel_rfl) laidOutK) fMaps) (by kernel_rfl)) (by kernel_rfl)) (by kernel_rfl)) fStops) (by kernel_rfl)) fKnobs) certificateSolver_inPlace) certificateSolver_unfollowed) certificateSolver_recurses) certificateSolver_named) (by kernel_rfl)) (by kernel_rfl)) (by kernel_rfl)) (by kernel_rfl)) (by kernel_rfl)) (by kernel_rfl)) (by kernel_rfl)) (by kernel_rfl)) (by kernel_rfl)) fPlain) (by kernel_rfl)) fHeard) fEnter) fLifted) fMake) (by kernel_rfl)) (by kernel_rfl)) (by kernel_rfl)) (by kernel_rfl))
theorem certificateSolver_holds:Rows.CertificateSolverSaid:=
  OpenClaim.holds_of_wide 3 Tryz.f3 rfl rfl rfl rfl rfl rfl rfl ⟨rfl,rfl,rfl,rfl,rfl⟩ rfl rfl rfl rfl rfl (by kernel_rfl) Tryz.func3 certificateSolver_joined
    (of_decide_eq_true (by kernel_rfl)) (by unfold Func.isWrapper;first|(rw[if_pos (by decide+kernel)];kernel_rfl)|(rw[if_neg (by decide+kernel)];exact⟨rfl,rfl⟩))
    (fun os started H enc _=>certificateSolver_lifted os started H enc)
theorem certificateSolver_card:Rows.CertificateSolverCardSaid:=
  Claim7.holds_tied_plain_at .later [] [.data,.data,.data] true Rows.certificateSolverCard.stood.harness false certificateSolver_holds (fun _ h=>by cases h) (by kernel_rfl) (fun _ h=>by cases h) certificateSolver_row_tie rfl ⟨rfl,rfl⟩ fMain rfl
    (fun f fn hf hfn=>by
      obtain rfl:f=3:=Option.some.inj ((show Tryz.prog.funcNamed "waypoint/waypointlaw41.CertificateSolver"=some 3 by kernel_rfl).symm.trans hf)|>.symm
      obtain rfl:fn=Tryz.f3:=(Option.some.inj (Tryz.func3.symm.trans hfn)).symm
      exact⟨fLooks,fun j t ht=>by
        rw[Tryz.params3]at ht;have hm:t∈[24,5,27]:=by simpa using Array.mem_of_getElem? ht
        have hall:([24,5,27].all fun u=> !Tryz.prog.wantsStandIn u)=true:=by kernel_rfl
        exact(show Tryz.prog.wantsStandIn t=false by simpa using List.all_eq_true.1 hall t hm)⟩)
    certificateSolver_goes
end Go.Proofs.YtgemmbpjebijlaaGreatDoor
