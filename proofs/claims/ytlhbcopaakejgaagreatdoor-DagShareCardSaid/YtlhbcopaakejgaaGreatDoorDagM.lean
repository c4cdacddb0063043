/- The topology on which every law looks first: its distances, next arcs, order, numbers of paths and shares. No program in sight. -/

import Derived.Test.YtlhbcopaakejgaaGreatDoorDsW
namespace Go.Proofs.YtlhbcopaakejgaaGreatDoor
def dstB(t:TopD)(down:List Bool)(d:Nat)(l:List Int):Bool:=
  decide (l.length=nN t)&&decide (atD l d=0)&&l.all (fun v=>decide (0≤v))&&
    ((List.range (arcsD t)).all fun a=>match arTo t down d a with|none=>true|some e=> !decide (0≤atD l e.y)||(decide (0≤atD l e.x)&&decide (atD l e.x≤atD l e.y+(e.c:Int))))&&
    ((List.range (nN t)).all fun x=>decide (x=d)||(List.range (arcsD t)).any fun a=>match arTo t down d a with|none=>false|some e=>decide (e.x=x)&&decide (0≤atD l e.y)&&decide (atD l x=atD l e.y+(e.c:Int)))
theorem dstB_ok{t:TopD}{down:List Bool}{d:Nat}{l:List Int}(h:dstB t down d l=true):IsDst t down d l:=by
  unfold dstB at h;simp only[Bool.and_eq_true,decide_eq_true_eq,List.all_eq_true,List.mem_range]at h;obtain⟨⟨⟨⟨h1,h2⟩,h3⟩,h4⟩,h5⟩:=h;refine⟨h1,h2,fun a e ha he hy=>?_,fun x hx hxd _=>?_,fun x hx=>?_⟩
  · have:=h4 a ha
    rw[he]at this;simp only[Bool.or_eq_true,Bool.and_eq_true,Bool.not_eq_true',decide_eq_true_eq,decide_eq_false_iff_not]at this;exact this.elim (fun w=>absurd hy w) id
  · have:=h5 x hx
    rw[Bool.or_eq_true,decide_eq_true_iff]at this
    rcases this with w|w
    · exact absurd w hxd
    · obtain⟨a,ha,w⟩:=List.any_eq_true.1 w
      cases he:arTo t down d a with
      |none=>rw[he]at w;cases w
      | some e=>
        rw[he]at w;simp only[Bool.and_eq_true,decide_eq_true_eq]at w;exact⟨a,e,List.mem_range.1 ha,he,w.1.1,w.1.2,w.2⟩
  · unfold atD List.getD at hx⊢
    cases hl:l[x]? with
    |none=>rfl
    | some v=>
      rw[hl]at hx;have:=h3 v (List.mem_of_getElem? hl);simp at hx;omega
def lnA(i:Nat):LnkD:=⟨(i:Int),(((i+1)%4:Nat):Int),1,1,0,1,0⟩
def topA:TopD:=⟨4,[],(List.range 4).map lnA⟩
theorem topA_ok:topOk topA=true:=by decide+kernel
theorem dstA:dstD topA [] 2=[2,1,0,1]:=(dst_eq topA_ok (dstB_ok (by decide+kernel))).symm
theorem chkDA:chkD topA [] [2]=0:=by decide+kernel
theorem chkNA:chkN topA [] 0 2=0:=by decide+kernel
theorem chkCA:chkC topA [] 0 2 9=0:=by decide+kernel
theorem nxtA:nxtR topA [] 0 2=[0,7]:=by
  unfold nxtR;rw[if_pos chkNA]
  show nxtD topA [] (dstD topA [] 2) 0 2=_
  rw[dstA];decide+kernel
theorem cntA:cntR topA [] 0 2 9=2:=by
  unfold cntR;rw[if_pos ⟨chkNA,by decide⟩]
  show((min (nSP topA [] (dstD topA [] 2) 2 0) 9:Nat):Int)=2
  rw[dstA];decide+kernel
theorem ordA0:ordD [2,1,0,1]=[0,1,3,2]:=by
  refine(ord_eq ⟨?_,fun x=>?_⟩).symm
  · unfold bfO;simp[atD]
  · constructor
    · intro h
      simp only[List.mem_cons,List.not_mem_nil,or_false]at h
      rcases h with rfl|rfl|rfl|rfl<;>decide
    · intro h
      have:=h.1;simp only[List.length_cons,List.length_nil]at this;simp only[List.mem_cons,List.not_mem_nil,or_false];omega
theorem ordA:ordR topA [] 2=[0,1,3,2]:=by
  unfold ordR;rw[if_pos chkDA]
  show ordD (dstD topA [] 2)=_
  rw[dstA];exact ordA0
theorem chkSA:chkS topA [] 0 2=0:=by
  unfold chkS;rw[if_pos chkNA]
  show(if atD (dstD topA [] 2) 0<0 then(11:Int)else 0)=0
  rw[dstA];decide+kernel
theorem shrA{sh:List Rat}(h:ShrP topA [] 0 2 sh):sh.length=8∧sh.getD 0 0=1/2∧sh.getD 1 0=0:=by
  obtain⟨_,_,am,hs⟩:=h.2.1 chkSA;have hs:ShrI topA [] (dstD topA [] 2) 0 2 (ordD (dstD topA [] 2)).reverse am sh:=hs;rw[dstA,ordA0]at hs;have off:∀a,onD topA [] [2,1,0,1] 2 a=false→sh.getD a 0=0:=fun a e=>by rw[hs.hs a,if_neg (fun w=>by rw[e]at w;cases w.2.2)]
  have h1:sh.getD 1 0=0:=off 1 (by decide+kernel);have h6:sh.getD 6 0=0:=off 6 (by decide+kernel)
  have ha:am.getD 0 0=1:=by
    rw[hs.ha 0 (by decide),show((List.range (arcsD topA)).filter fun a=>decide (hN topA a=0))=[1,6] by decide+kernel,if_pos rfl];simp only[List.map_cons,List.map_nil,List.sum_cons,List.sum_nil,h1,h6,Rat.add_zero]
  refine⟨hs.ls,?_,h1⟩;rw[hs.hs 0,if_pos ⟨by decide+kernel,by decide+kernel,by decide+kernel⟩,show tN topA 0=0 by decide+kernel,ha,show(nxtD topA [] [2,1,0,1] 0 2)=[0,7] by decide+kernel];rfl
end Go.Proofs.YtlhbcopaakejgaaGreatDoor
