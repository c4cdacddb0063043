/- The rows and cards of CertificateMalformed: for every input the call returns true, and each argument reads as it did. No condition. -/

import Derived.Test.YtgemmbpjebijlaaGreatDoorQF
import Derived.Test.YtgemmbpjebijlaaGreatDoorCards
import Derived.Test.YtgemmbpjebijlaaGreatDoorScJ
namespace Go.Proofs.YtgemmbpjebijlaaGreatDoor
open Go.ChangeShapes Go.WideShapes Go.ChangeAt Go.RowKit Go.Joins Go.Deep
section
variable {H:Type}{enc:TypeId × Value→H}{w:World}{base:Nat}{sp:Nat→Bool}{hd:Bool}
set_option maxRecDepth 100000 in
theorem open_u8{b0:Nat}{v:Value}{d:DataW H}{p:List MemPlace}(hv:Value.okWide Tryz.prog w .any b0 5 v)(h:DataW.Trod enc Tryz.prog w base sp hd 5 v d p):∃x:Nat,v=.int .u8 (x:Int)∧x<256:=by
  obtain⟨x,rfl,_,_,wx⟩:=open_int Tryz.underlying5 hv h;have hz:0≤x∧x<256:=by simp[Lit.wf,IntKind.min,IntKind.max,IntKind.signed,IntKind.bits]at wx;omega
  exact⟨x.toNat,by rw[Int.toNat_of_nonneg hz.1],by omega⟩
end
set_option maxRecDepth 100000 in
theorem certificateMalformed_lifted(os:Os)(started:os.Started)(H:Type)(enc:TypeId × Value→H):
    ReturnsInHanded {} Tryz.checked os 6 .any (fun w args=>(Rows.certificateMalformedSpec.pre enc Tryz.prog Tryz.f6 Rows.certificateMalformedRow.domain false w args∧laidMetH Tryz.prog Rows.certificateMalformedRow.laid w)∧sizedMet enc Tryz.prog Tryz.f6 (OpenSpec.ofChange Rows.certificateMalformedSpec) false w args)
      (Rows.certificateMalformedSpec.post enc Tryz.prog Tryz.f6 false true false false):=by
  refine change_and_shaped (C:=Tryz.checked) (X:=fun w _=>laidMetH Tryz.prog Rows.certificateMalformedRow.laid w) (fun _ _ _ hh h=>h.of_heap hh) ownK started (by kernel_rfl) Tryz.func6
    (ChangeSpec.witness_shaped (enc:=enc) (C:=Tryz.checked) (os:=os) (X:=fun w _=>laidMetH Tryz.prog Rows.certificateMalformedRow.laid w) false (World.laidAll Tryz.prog os Rows.certificateMalformedRow.laid) #[.agg #[.slice none 0 0,.slice none 0 0,.slice none 0 0],.int .u8 0,.int .u8 0] 8 (World.laidAll_os _ _ _)
      (World.shaped_of_ZipB (by kernel_rfl) (by kernel_rfl)) (by kernel_rfl) (by kernel_rfl) (by kernel_rfl)
      (by rw[MakeChecks.laidMetH_plain _ _ _ (by kernel_rfl)];exact laidMet_laidAll _ (by kernel_rfl) (by kernel_rfl))) ?_
  intro W base args ds gs before hval0 hW hL hsh;have hval:∀(j:Nat) t v,Tryz.f6.params[j]?=some t→args[j]?=some v→Value.okWide Tryz.prog W .any base t v:=hval0;have hW':=hW;obtain⟨p,q,hA0,hV,rfl,hfz,hnd⟩:=hW;have hA:DataW.TrodAll enc Tryz.prog W 0 (fun _=>true) true Tryz.f6.params.toList args.toList ds p:=hA0;rw[Tryz.params6]at hA hval;obtain⟨v0,vs0,d0,ds0,p0,q0,hargs,rfl,rfl,h0,r0⟩:=trodAll_cons hA;obtain⟨v1,vs1,d1,ds1,p1,q1,rfl,rfl,rfl,h1,r1⟩:=trodAll_cons r0;obtain⟨v2,vs2,d2,ds2,p2,q2,rfl,rfl,rfl,h2,r2⟩:=trodAll_cons r1;obtain⟨rfl,rfl,rfl⟩:=trodAll_nil r2;obtain rfl:args=#[v0,v1,v2]:=by cases args;simp_all
  obtain⟨rfl,rfl⟩:=trodVars_none hV;obtain⟨s0,p0c,p0a,p0b,n0c,c0c,n0a,c0a,n0b,c0b,rfl,k0c,k0a,k0b,ok0⟩:=open_sm (hval 0 24 v0 rfl rfl) h0;obtain⟨x1,rfl,hx1⟩:=open_u8 (hval 1 5 v1 rfl rfl) h1;obtain⟨x2,rfl,hx2⟩:=open_u8 (hval 2 5 v2 rfl rfl) h2;refine(certMalformed_any W ok0 k0c k0a k0b (bas_of hL hsh) hx1 hx2).mono fun e W' ⟨he,hB⟩=>?_
  subst he;exact⟨_,rfl,law_post rfl rfl (by kernel_rfl) (by kernel_rfl) hW' hA0 hB⟩
theorem certificateMalformed_inPlace:(Rows.certificateMalformedRow.inPlace==Tryz.prog.inPlace 6)=true:=by kernel_rfl
theorem certificateMalformed_unfollowed:(Rows.certificateMalformedRow.unfollowed==Tryz.prog.unfollowed 6)=true:=by kernel_rfl
theorem certificateMalformed_recurses:(Rows.certificateMalformedRow.recurses==Tryz.prog.recurses 6)=true:=by kernel_rfl
theorem certificateMalformed_named:(Rows.certificateMalformedRow.named==Tryz.prog.varsNamed 6)=true:=by kernel_rfl
theorem certificateMalformed_goes:false=Rows.certificateMalformedRow.goesBy Tryz.prog:=by kernel_rfl
theorem certificateMalformed_joined:joinedFacts Tryz.prog 6 Tryz.f6 Rows.certificateMalformedSpec Rows.certificateMalformedRow=true:=(band (band (band (band (band (band (band (band (band (band (band (band (band (band (band (band (band (band (band (band (band (band (band (band (band (band (band (band (band (band (band (by kernel_rfl) laidOutK) fMaps) (by kernel_rfl)) (by kernel_rfl)) (by kernel_rfl)) fStops) (by kernel_rfl)) fKnobs) certificateMalformed_inPlace) certificateMalformed_unfollowed) certificateMalformed_recurses) certificateMalformed_named) (by kernel_rfl)) (by kernel_rfl)) (by kernel_rfl)) (by kernel_rfl)) (by kernel_rfl)) (by kernel_rfl)) (by kernel_rfl)) (by kernel_rfl)) (by kernel_rfl)) fPlain) (by kernel_rfl)) fHeard) fEnter) fLifted) fMake) (by kernel_rfl)) (by kernel_rfl)) (by kernel_rfl)) (by kernel_rfl))
theorem certificateMalformed_holds:Rows.CertificateMalformedSaid:=
  OpenClaim.holds_of_wide 6 Tryz.f6 rfl rfl rfl rfl rfl rfl rfl ⟨rfl,rfl,rfl,rfl,rfl⟩ rfl rfl rfl rfl rfl (by kernel_rfl) Tryz.func6 certificateMalformed_joined
    (of_decide_eq_true (by kernel_rfl)) (by unfold Func.isWrapper;first|(rw[if_pos (by decide+kernel)];kernel_rfl)|(rw[if_neg (by decide+kernel)];exact⟨rfl,rfl⟩))
    (fun os started H enc _=>certificateMalformed_lifted os started H enc)
theorem certificateMalformed_card:Rows.CertificateMalformedCardSaid:=
  Claim7.holds_tied_plain_at .later [] [.data,.data,.data] true Rows.certificateMalformedCard.stood.harness false certificateMalformed_holds (fun _ h=>by cases h) (by kernel_rfl) (fun _ h=>by cases h) certificateMalformed_row_tie rfl ⟨rfl,rfl⟩ fMain rfl
    (fun f fn hf hfn=>by
      obtain rfl:f=6:=Option.some.inj ((show Tryz.prog.funcNamed "waypoint/waypointlaw41.CertificateMalformed"=some 6 by kernel_rfl).symm.trans hf)|>.symm
      obtain rfl:fn=Tryz.f6:=(Option.some.inj (Tryz.func6.symm.trans hfn)).symm
      exact⟨fLooks,fun j t ht=>by
        rw[Tryz.params6]at ht;have hm:t∈[24,5,5]:=by simpa using Array.mem_of_getElem? ht
        have hall:([24,5,5].all fun u=> !Tryz.prog.wantsStandIn u)=true:=by kernel_rfl
        exact(show Tryz.prog.wantsStandIn t=false by simpa using List.all_eq_true.1 hall t hm)⟩)
    certificateMalformed_goes
end Go.Proofs.YtgemmbpjebijlaaGreatDoor
