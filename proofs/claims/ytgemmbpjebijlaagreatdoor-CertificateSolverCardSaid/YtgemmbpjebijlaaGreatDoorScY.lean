/- What this law needs beyond the texts that the group shares. -/

import Derived.Test.YtgemmbpjebijlaaGreatDoorQF
namespace Go.Proofs.YtgemmbpjebijlaaGreatDoor
end Go.Proofs.YtgemmbpjebijlaaGreatDoor
namespace Go.Proofs.YtgemmbpjebijlaaGreatDoor
end Go.Proofs.YtgemmbpjebijlaaGreatDoor
namespace Go.Proofs.YtgemmbpjebijlaaGreatDoor
end Go.Proofs.YtgemmbpjebijlaaGreatDoor
namespace Go.Proofs.YtgemmbpjebijlaaGreatDoor
theorem cv_take:∀(xa bs:List Nat) (k i:Nat),(xa.length<=i\/k<i)->cv (xa.take i) bs k=cv xa bs k
  |[],bs,k,i,_=>by simp
  |a::xa,bs,k,0,h=>by simp at h
  |a::xa,bs,0,i+1,_=>by simp[cv]
  | a::xa,bs,k+1,i+1,h=>by
    have:=cv_take xa bs k i (by simpa using h);simp only[List.take_succ_cons,cv,this]
theorem cv_le:∀(xa bs:List Nat) (k M:Nat),(∀a∈xa,a<=M)->(∀b∈bs,b<=M)->cv xa bs k<=xa.length*(M*M)
  |[],bs,k,M,_,_=>by simp[cv]
  | a ::xa,bs,k,M,ha,hb=>by
    have hg:∀j,bs.getD j 0<=M:=fun j=>by
      rw[List.getD_eq_getElem?_getD]
      cases h:bs[j]? with
      |none=>simp
      |some x=>exact hb x (List.mem_of_getElem? h)
    have h1:=ha a (List.mem_cons_self ..);rw[List.length_cons,Nat.add_mul,Nat.one_mul]
    cases k with
    | zero=>
      have:=Nat.mul_le_mul h1 (hg 0);simp only[cv];omega
    | succ k=>
      have:=Nat.mul_le_mul h1 (hg (k+1));have h2:=cv_le xa bs k M (fun x hx=>ha x (List.mem_cons_of_mem _ hx)) hb;simp only[cv];omega
theorem val_range_succ{B:Nat}(f:Nat->Nat)(L:Nat):val B ((List.range (L+1)).map f)=f 0+B*val B ((List.range L).map fun k=>f (k+1)):=by
  rw[List.range_succ_eq_map,List.map_cons,List.map_map];rfl
theorem val_add{B:Nat}(f g:Nat->Nat):∀L,val B ((List.range L).map fun k=>f k+g k)=val B ((List.range L).map f)+val B ((List.range L).map g)
  |0=>rfl
  | L+1=>by
    rw[List.range_succ,List.map_append,List.map_append,List.map_append,val_append,val_append,val_append,val_add f g L];simp only[List.length_map,List.length_range,List.map_cons,List.map_nil,val,Nat.mul_zero,Nat.add_zero,Nat.mul_add];omega
theorem val_mul{B:Nat}(a:Nat)(f:Nat->Nat):∀L,val B ((List.range L).map fun k=>a*f k)=a*val B ((List.range L).map f)
  |0=>by simp[val]
  | L+1=>by
    rw[List.range_succ,List.map_append,List.map_append,val_append,val_append,val_mul a f L];simp only[List.length_map,List.length_range,List.map_cons,List.map_nil,val,Nat.mul_zero,Nat.add_zero,Nat.mul_add]
    congr 1
    ac_rfl
theorem val_getD{B:Nat}:∀(bs:List Nat) (L:Nat),bs.length<=L->val B ((List.range L).map fun k=>bs.getD k 0)=val B bs
  |[],0,_=>rfl
  | [],L+1,_=>by
    rw[val_range_succ];have:=val_getD (B:=B) [] L (Nat.zero_le _);simp only[List.getD_eq_getElem?_getD,List.getElem?_nil,Option.getD_none,val]at this⊢;rw[this];simp
  | b::bs,L+1,h=>by
    rw[val_range_succ];have:=val_getD (B:=B) bs L (by simpa using h);simp only[List.getD_eq_getElem?_getD,List.getElem?_cons_zero,Option.getD_some,List.getElem?_cons_succ,val]at this⊢;rw[this]
theorem val_cv{B:Nat}:∀(xa bs:List Nat) (L:Nat),xa.length+bs.length<=L+1->bs.length<=L->val B ((List.range L).map (cv xa bs))=val B xa*val B bs
  | [], bs,L,_,_=>by
    have:∀L,val B ((List.range L).map (cv [] bs))=0:=by
      intro L
      have:(List.range L).map (cv [] bs)=List.replicate L 0:=by
        rw[List.eq_replicate_iff];simp[cv]
      rw[this,val_replicate]
    rw[this];simp[val]
  | a ::xa,bs,L,h,hb=>by
    have e:(List.range L).map (cv (a::xa) bs)=(List.range L).map fun k=>a*bs.getD k 0+(match k with|0=>0|k+1=>cv xa bs k):=by
      refine List.map_congr_left fun k _=>?_
      cases k<;>simp[cv]
    rw[e,val_add (fun k=>a*bs.getD k 0) (fun k=>match k with|0=>0|k+1=>cv xa bs k),val_mul,val_getD bs L hb];rw[List.length_cons]at h
    cases L with
    | zero=>
      have:bs=[]:=List.eq_nil_of_length_eq_zero (by omega);subst this;simp[val]
    | succ L=>
      rw[val_range_succ];simp only[Nat.zero_add]
      by_cases hbL:bs.length<=L
      . rw[val_cv xa bs L (by omega) hbL];simp only[val,Nat.add_mul,Nat.mul_assoc]
      have has:xa=[]:=List.eq_nil_of_length_eq_zero (by omega);subst has
      have:(List.range L).map (cv [] bs)=List.replicate L 0:=by
        rw[List.eq_replicate_iff];simp[cv]
      rw[this,val_replicate];simp[val]
end Go.Proofs.YtgemmbpjebijlaaGreatDoor
namespace Go.Proofs.YtgemmbpjebijlaaGreatDoor
open Go.Lib (decDigits repeatL)
end Go.Proofs.YtgemmbpjebijlaaGreatDoor
namespace Go.Proofs.YtgemmbpjebijlaaGreatDoor
theorem sgn_neg(s:Bool)(n:Nat):sgn (!s) n= -sgn s n:=by unfold sgn;cases s<;>simp
theorem sgn_add(s:Bool)(n m:Nat):sgn s n+sgn s m=sgn s (n+m):=by unfold sgn;cases s<;>simp<;>omega
theorem sgn_sub(s:Bool){n m:Nat}(h:m<=n):sgn s n+sgn (!s) m=sgn s (n-m):=by unfold sgn;cases s<;>simp<;>omega
theorem ofS_neg(s:Bool)(n d:Nat): -ofS s n d=ofS (!s) n d:=by unfold ofS;rw[Rat.neg_mkRat,sgn_neg]
end Go.Proofs.YtgemmbpjebijlaaGreatDoor
namespace Go.Proofs.YtgemmbpjebijlaaGreatDoor
end Go.Proofs.YtgemmbpjebijlaaGreatDoor
namespace Go.Proofs.YtgemmbpjebijlaaGreatDoor
open Go.Lib (decDigits)
end Go.Proofs.YtgemmbpjebijlaaGreatDoor
namespace Go.Proofs.YtgemmbpjebijlaaGreatDoor
section
variable {P:Program}{P0:World->Prop}{ops:Array Oper}{md:Region.Mode}
end
end Go.Proofs.YtgemmbpjebijlaaGreatDoor
namespace Go.Proofs.YtgemmbpjebijlaaGreatDoor
open Go.RowKit
end Go.Proofs.YtgemmbpjebijlaaGreatDoor
namespace Go.Proofs.YtgemmbpjebijlaaGreatDoor
open Go.RowKit
section
variable {P:Program}{P0:World->Prop}{base:Nat}{ops:Array Oper}{md:Region.Mode}
end
end Go.Proofs.YtgemmbpjebijlaaGreatDoor
namespace Go.Proofs.YtgemmbpjebijlaaGreatDoor
open Go.RowKit
end Go.Proofs.YtgemmbpjebijlaaGreatDoor
namespace Go.Proofs.YtgemmbpjebijlaaGreatDoor
open Go.RowKit
end Go.Proofs.YtgemmbpjebijlaaGreatDoor
namespace Go.Proofs.YtgemmbpjebijlaaGreatDoor
open Go.RowKit
end Go.Proofs.YtgemmbpjebijlaaGreatDoor
namespace Go.Proofs.YtgemmbpjebijlaaGreatDoor
open Go.RowKit
set_option maxRecDepth 100000 in
set_option maxHeartbeats 4000000 in
theorem radd_any(v u:Value)(n m:Nat)(w:World)(hv:RefV w v n)(hu:RefV w u m)(h1:(digs B6 n).length<=100000)(h2:(digs B6 m).length<=100000):
    Calls Tryz.prog 79 #[v,u] w fun e w'=> ∃v',e=.returned v'/\RefV w' v' (n+m)/\Below w.heap.size w w':=by
  obtain⟨i0,hi,hz0,hz1,hz2⟩:=info_parts infoI;obtain⟨p,cp,rfl,hpg⟩:=GV.slice hv;obtain⟨q,cq,rfl,hqg⟩:=GV.slice hu;have HPG:=hid hpg;have HQG:=hid hqg;have HXB:=hid (digs_lt b6_2 n);have HYB:=hid (digs_lt b6_2 m);have HVN:=hid (val_digs b6_2 n);have HVM:=hid (val_digs b6_2 m);obtain⟨xs,hxs⟩:∃xs,digs B6 n=xs:=⟨_,rfl⟩;obtain⟨ys,hys⟩:∃ys,digs B6 m=ys:=⟨_,rfl⟩;rw[hxs]at HPG HXB HVN h1⊢;rw[hys]at HQG HYB HVM h2⊢;clear hv hpg hxs hu hqg hys;obtain⟨L,hL,hL1,hL2,hL3⟩:∃L:Nat,max (xs.length:Int) (ys.length:Int)=(L:Int)/\xs.length<=L/\ys.length<=L/\L<=100000:=⟨max xs.length ys.length,by omega,by omega,by omega,by omega⟩;go_enter Tryz.func79,Tryz.ntmps79;go_upto_region 2 with(at_make;go_loud (refine wpList_make_full _ rfl _ _ _ rfl w.heap.size 3 i0 _ 1 Tryz.underlying50 hi hz0 hz1 _ _ _ _ L rfl rfl (by simp) (by simp) (by rw[hz2];omega) (by unfold maxLen;omega) (Nat.le_refl _) ?_;intro w2 hown hgr;have hb2:Below w.heap.size w w2:=(Below.refl _ w).grown hgr (Nat.le_refl _) (by simp);have hA:=ari_made hown;clear hown hgr));clear hL;have hat0:RAdd w w.heap.size L 0 0 xs 0 w2:=⟨⟨_,hA,by simp,fun y hy=>by rw[List.eq_of_mem_replicate hy];omega,by simp[val,val_replicate]⟩,hb2⟩;clear hA hb2;go_wp2_with fail;go_loopw [6] (fun i wr=> ∃k:Nat,k<=xs.length/\i=.int .i64 k/\RAdd w w.heap.size L 0 0 xs k wr) (fun i _=>xs.length-(intOf i).toNat)
  case atStart=>exact⟨0,Nat.zero_le _,rfl,hat0⟩
  clear hat0;obtain⟨k,hk,rfl,hat⟩:=hrel;generalize wr=W1 at hat⊢;have hold:=hat.old;obtain⟨zs,hzs,hzl,hzm,hzv⟩:=hat.arr
  by_cases hlt:k<xs.length
  . obtain⟨g,rfl,hg,_,_⟩:=HPG.out (fun e=>by subst e;simp at hlt);have hg1:=(hg.below hold).at0 k hlt;have hgl:=Nat.lt_of_lt_of_le hg.lt hold.size;have hxk:=HXB.out _ (List.getElem_mem hlt);have hzk:k<zs.length:=by omega
    have hz1:=hzs.cell k hzk;have hzm1:=hzm _ (List.getElem_mem hzk);have hfr:=hzs.free;have hDl:=hzs.lt;have hti:(k:Int)<(xs.length:Int):=by omega
    have HS:=hid (fun w' (hb:Below W1.heap.size W1 w')=>hat.step (hzs.below hb) hb hzl hzm hzv hlt hL1 rfl hxk rfl);obtain⟨x,hx⟩:∃x,xs[k]=x:=⟨_,rfl⟩;obtain⟨z,hz⟩:∃z,zs[k]=z:=⟨_,rfl⟩;rw[hx]at hg1 hxk HS;rw[hz]at hz1 hzm1 HS;unfold iCell at hg1;rw[b6]at hxk;have hkL:(k:Int)<(L:Int):=by omega
    clear hx hz hzv hat;go_upto_region 5 with(fail);refine wp_region_staged (fun w'=>Below W1.heap.size W1 w') [0,0,0,1,0,0,0,1,0,0,2] (by kernel_rfl) (by kernel_rfl) (by kernel_rfl) (by exact(Below.refl _ _).drew) ?_
    iterate 3 (refine zs0 ?_)
    refine zs2 ?_
    iterate 3 (refine zs0 ?_)
    refine zs2 ?_
    iterate 2 (refine zs0 ?_)
    apply lexS (fun w'=>RAdd w w.heap.size L 0 0 xs (k+1) w') rfl
    . intro w' hw';have c0:=(hzs.below hw').cell k hzk;have f0:=(hzs.below hw').free;go_simp;exact⟨rfl,HS.out w' hw'⟩
    simp only[Act.put];refine lexEnd (fun W5 hw5=>?_);go_wp2;go_roundw
    case rel=>exact⟨k+1,by omega,by go_num,hw5⟩
    case measure=>simp[intOf];omega
  obtain rfl:k=xs.length:=by omega
  skip
  have hat1:RAdd w w.heap.size L n (1000000*xs.length) ys 0 W1:=⟨⟨zs,hzs,hzl,fun y hy=>by have:=hzm y hy;omega,by rw[hzv,List.take_length,HVN.out];simp[val]⟩,hold⟩;clear hat hzs hzl hzm hzv hold;go_wp2_with fail;go_loopw [7] (fun i wr=> ∃k:Nat,k<=ys.length/\i=.int .i64 k/\RAdd w w.heap.size L n (1000000*xs.length) ys k wr) (fun i _=>ys.length-(intOf i).toNat)
  case atStart=>exact⟨0,Nat.zero_le _,rfl,hat1⟩
  clear hat1;obtain⟨k,hk,rfl,hat⟩:=hrel;generalize wr=W2 at hat⊢;have hold:=hat.old;obtain⟨zs,hzs,hzl,hzm,hzv⟩:=hat.arr
  by_cases hlt:k<ys.length
  . obtain⟨g,rfl,hg,_,_⟩:=HQG.out (fun e=>by subst e;simp at hlt);have hg1:=(hg.below hold).at0 k hlt;have hgl:=Nat.lt_of_lt_of_le hg.lt hold.size;have hxk:=HYB.out _ (List.getElem_mem hlt);have hzk:k<zs.length:=by omega
    have hz1:=hzs.cell k hzk;have hzm1:=hzm _ (List.getElem_mem hzk);have hfr:=hzs.free;have hDl:=hzs.lt;have hti:(k:Int)<(ys.length:Int):=by omega
    have HS:=hid (fun w' (hb:Below W2.heap.size W2 w')=>hat.step (hzs.below hb) hb hzl hzm hzv hlt hL2 rfl hxk rfl);obtain⟨x,hx⟩:∃x,ys[k]=x:=⟨_,rfl⟩;obtain⟨z,hz⟩:∃z,zs[k]=z:=⟨_,rfl⟩;rw[hx]at hg1 hxk HS;rw[hz]at hz1 hzm1 HS;unfold iCell at hg1;rw[b6]at hxk;have hkL:(k:Int)<(L:Int):=by omega
    clear hx hz hzv hat;go_upto_region 9 with(fail);refine wp_region_staged (fun w'=>Below W2.heap.size W2 w') [0,0,0,1,0,0,0,1,0,0,2] (by kernel_rfl) (by kernel_rfl) (by kernel_rfl) (by exact(Below.refl _ _).drew) ?_
    iterate 3 (refine zs0 ?_)
    refine zs2 ?_
    iterate 3 (refine zs0 ?_)
    refine zs2 ?_
    iterate 2 (refine zs0 ?_)
    apply lexS (fun w'=>RAdd w w.heap.size L n (1000000*xs.length) ys (k+1) w') rfl
    . intro w' hw';have c0:=(hzs.below hw').cell k hzk;have f0:=(hzs.below hw').free;go_simp;exact⟨rfl,HS.out w' hw'⟩
    simp only[Act.put];refine lexEnd (fun W5 hw5=>?_);go_wp2;go_roundw
    case rel=>exact⟨k+1,by omega,by go_num,hw5⟩
    case measure=>simp[intOf];omega
  obtain rfl:k=ys.length:=by omega
  skip
  rw[List.take_length,HVM.out]at hzv;have HT:=hid (carried_any _ zs W2 (hzs.gv (by unfold maxLen;omega)) (by omega) (fun y hy=>by have:=hzm y hy;omega));rw[hzv,hzl]at HT;go_wp2_with (go_at_call 117;refine HT.out.mono ?_;clear HT;rintro e w3 ⟨v',rfl,hv',hw3⟩);go_ret;exact⟨_,rfl,hv',hold.trans (hw3.mono hold.size)⟩
end Go.Proofs.YtgemmbpjebijlaaGreatDoor
namespace Go.Proofs.YtgemmbpjebijlaaGreatDoor
open Go.RowKit
end Go.Proofs.YtgemmbpjebijlaaGreatDoor
namespace Go.Proofs.YtgemmbpjebijlaaGreatDoor
open Go.RowKit
open Go.Lib (decDigits)
end Go.Proofs.YtgemmbpjebijlaaGreatDoor
namespace Go.Proofs.YtgemmbpjebijlaaGreatDoor
open Go.RowKit
end Go.Proofs.YtgemmbpjebijlaaGreatDoor
namespace Go.Proofs.YtgemmbpjebijlaaGreatDoor
open Go.RowKit
open Go.Lib (decDigits)
set_option maxRecDepth 100000 in
set_option maxHeartbeats 2000000 in
theorem rparse_ok(s:ByteArray)(w:World)(hs:1<=s.size)(hl:s.size<=1000000)(hd:s.size=1\/((s[0].toNat:Int)==48)=false/\2<=s.size/\s.data.toList.head?≠some 48):
    Calls Tryz.prog 83 #[.string s] w fun e w'=> ∃v,e=.returned (.tuple #[v,.int .i64 (parseErr s.data.toList)])/\RefV w' v (parseVal s.data.toList)/\Below w.heap.size w w':=by
  have hne:s.data.toList≠[]:=fun e=>by have:=str_len s;rw[e]at this;simp at this;omega
  have he:((s.size:Int)==0)=false:=by rw[beq_eq_false_iff_ne];omega
  have HP:=hid (parse_good hne (hd.imp (fun h=>by rw[str_len];exact h) fun h=>h.2.2));have HD0:=hid hd;obtain⟨i0,hi,hz0,hz1,hz2⟩:=info_parts infoI;obtain⟨pe,hpe⟩:∃pe,parseErr s.data.toList=pe:=⟨_,rfl⟩;obtain⟨pv,hpv⟩:∃pv,parseVal s.data.toList=pv:=⟨_,rfl⟩;have HPE:=hid hpe;have HPV:=hid hpv;rw[hpe,hpv];clear hpe hpv hne hd;go_enter Tryz.func83,Tryz.ntmps83;go_upto_region 1 with(fail);go_cut [21]from 9999 to 9999 (fun t wl=>t=.bool false/\wl=w)
  case first=>
    rcases HD0.out with h1|⟨h0,hs2,_⟩
    . have hs1:¬(1:Int)<(s.size:Int):=by omega
      go_wp2;go_meet
      case rel=>first|exact⟨rfl,rfl⟩|exact⟨rfl,hW1.symm⟩
    have hgt:(1:Int)<(s.size:Int):=by omega
    go_wp2;go_meet
    case rel=>first|exact⟨rfl,rfl⟩|exact⟨rfl,hW1.symm⟩
  case rest=>
  obtain⟨rfl,hwc⟩:=hcut;replace hwc:=hwc.symm;subst hwc;go_upto_region 3 with(fail);clear he;go_wp2_with fail;go_loopw [4] (fun i wr=> ∃k:Nat,k<=s.size/\i=.int .i64 k/\Hid (∀j (h:j<s.size),j<k->isDig s[j]=true)/\Hid (wr=w)) (fun i _=>s.size-(intOf i).toNat)
  case atStart=>exact⟨0,Nat.zero_le _,rfl,hid (fun j _ h=>absurd h (by omega)),hid rfl⟩
  obtain⟨k,hk,rfl,HD,HWW⟩:=hrel;have hWW:=HWW.out.symm;subst hWW;clear HWW
  by_cases hlt:k<s.size
  . by_cases hdg:isDig s[k]=true
    . obtain⟨q1,q2⟩:=(isDig_iff _).1 hdg;have q3:¬((s[k].toNat:Int)<48):=by omega
      have q4:¬(57<(s[k].toNat:Int)):=by omega
      have HD':=hid (show ∀j (h:j<s.size),j<k+1->isDig s[j]=true from fun j h hj=>by
        by_cases e:j=k
        . subst e;exact hdg
        exact HD.out j h (by omega))
      clear hdg q1 q2;go_wp2;go_roundw
      case rel=>exact⟨k+1,by omega,by go_num,HD',hid (by trivial)⟩
      case measure=>simp[intOf];omega
    have hbad:parseErr s.data.toList=3:=parse_syn (.inr (.inr ⟨s[k],by rw[str_at];exact List.getElem_mem _,by simpa using hdg⟩));rw[HPE.out]at hbad;have hval:pv=0:=by rw[<-HPV.out];exact parseVal_err (by rw[HPE.out,hbad];decide)
    subst hbad hval;have q:¬(48<=s[k].toNat/\s[k].toNat<=57):=fun h'=>hdg ((isDig_iff s[k]).2 h')
    clear hdg
    by_cases q3:(s[k].toNat:Int)<48
    . clear q;go_wp2;go_ret2;exact⟨_,rfl,RefV.zero _,Below.refl _ _⟩
    have q4:57<(s[k].toNat:Int):=by omega
    clear q;go_wp2;go_ret2;exact⟨_,rfl,RefV.zero _,Below.refl _ _⟩
  obtain rfl:k=s.size:=by omega
  have HDD:=hid (show ∀c∈s.data.toList,isDig c=true from fun c hc=>by
    obtain⟨j,hj,rfl⟩:=List.getElem_of_mem hc;have hj':j<s.size:=by rw[str_len]at hj;exact hj
    rw[<-str_at s j hj'];exact HD.out j hj' hj')
  have HPP:=hid (HP.out HDD.out);clear HD HP
  by_cases hbig:1000<s.size
  . have hbad:parseErr s.data.toList=6:=by rw[HPP.out,str_len,if_pos hbig]
    rw[HPE.out]at hbad;have hval:pv=0:=by rw[<-HPV.out];exact parseVal_err (by rw[HPE.out,hbad];decide)
    subst hbad hval;have q:(1000:Int)<(s.size:Int):=by omega
    go_wp2;go_ret2;exact⟨_,rfl,RefV.zero _,Below.refl _ _⟩
  have hgood:parseErr s.data.toList=0:=by rw[HPP.out,str_len,if_neg hbig]
  have hpv:pv=valT s.data.toList:=by rw[<-HPV.out];unfold parseVal;rw[if_pos hgood]
  rw[HPE.out]at hgood;subst hgood hpv;have q:¬(1000:Int)<(s.size:Int):=by omega
  go_upto_region 11 with(fail);go_loopw [0,5] (fun sv dv wl=> ∃(t:ByteArray) (os:List Nat) (k:Nat),sv=.string t/\k<=s.size/\Hid (t.data.toList=s.data.toList.take k)/\RowI wl w.heap.size dv os/\Hid (∀d∈os,d<B6)/\os.length+k<=s.size+1*os.length/\Hid (os.length<=1000/\(k=0\/6*os.length+k=s.size)/\val B6 os+B6^os.length*valT (s.data.toList.take k)=valT s.data.toList)/\Below w.heap.size w wl) (fun sv _ _=>strLen sv)
  case atStart=>exact⟨s,[],s.size,rfl,Nat.le_refl _,hid (by rw[<-str_len,List.take_length]),RowI.nil _ _,hid (fun d h=>absurd h (List.not_mem_nil)),by simp,hid ⟨by simp,.inr (by simp),by rw[<-str_len,List.take_length];simp[val]⟩,Below.refl _ _⟩
  obtain⟨t,os,k,rfl,hk,HTL,hrow,HOB,_,HVL,hbl⟩:=hrel;generalize wr=W3 at hrow hbl⊢;generalize u5=dv at hrow⊢;have HTS:=hid (show t.size=k by rw[<-str_len t,HTL.out,List.length_take,str_len];omega);obtain⟨hol,hok,hov⟩:=HVL.out
  by_cases hk0:k=0
  . subst hk0;have hts:t.size=0:=HTS.out;have HT:=hid (without_any dv os W3 hrow.gv (by omega));have hve:val B6 os=valT s.data.toList:=by rw[<-hov];simp[valT]
    rw[<-digs_val b6_2 HOB.out,hve]at HT;have hti:¬(0:Int)<(t.size:Int):=by omega
    clear hve hov;obtain⟨po,co,rfl⟩:=row_slice hrow;go_wp2_with (go_at_call 118;refine HT.out.mono ?_;clear HT;rintro e w4 ⟨v',rfl,hv',hw4⟩);go_ret2;exact⟨_,rfl,hv',hbl.trans (hw4.mono hbl.size)⟩
  obtain⟨f,hf,hfk,hf6,hf0⟩:∃f:Nat,max 0 ((t.size:Int)-6)=(f:Int)/\f<k/\k<=f+6/\(f=0\/f+6=k):=by
    have:=HTS.out
    by_cases h6:6<=k
    . exact⟨k-6,by omega,by omega,by omega,.inr (by omega)⟩
    exact⟨0,by omega,by omega,by omega,.inl rfl⟩
  have HTD:=hid (show ∀c∈t.data.toList,isDig c=true from fun c hc=>HDD.out c (by rw[HTL.out]at hc;exact List.mem_of_mem_take hc));have htp:(0:Int)<(t.size:Int):=by have:=HTS.out;omega
  go_upto_region 13 with(fail);clear hf htp;go_wp2_with fail;go_loopw [7,8] (fun gv iv wi=> ∃j:Nat,f<=j/\j<=k/\iv=.int .i64 (j:Int)/\gv=.int .i64 ((valT ((t.data.toList.drop f).take (j-f)):Nat):Int)/\Hid (wi=W3)) (fun _ iv _=>k-(intOf iv).toNat)
  case atStart=>exact⟨f,Nat.le_refl _,by omega,rfl,by rw[Nat.sub_self];rfl,hid rfl⟩
  obtain⟨j,hfj,hjk,rfl,rfl,HW⟩:=hrel;have hww:=HW.out;subst hww;clear HW;have htk:=HTS.out;obtain⟨i,hi0⟩:∃i,j-f=i:=⟨_,rfl⟩;have HJ:=hid (show f+i=j by omega);have hi6:i<=6:=by omega
  rw[hi0];have hpl:=valT_lt i ((t.data.toList.drop f).take i) (by rw[List.length_take,List.length_drop,str_len];omega) (fun c hc=>HTD.out c (List.mem_of_mem_drop (List.mem_of_mem_take hc)))
  by_cases hil:j<k
  . have hit:j<t.size:=by omega
    have hdg:=(isDig_iff _).1 (HTD.out _ (List.getElem_mem (h:=by rw[str_len];exact hit) (l:=t.data.toList) (n:=j)));rw[<-str_at t j hit]at hdg
    have HV2:=hid (show valT ((t.data.toList.drop f).take (j+1-f))=valT ((t.data.toList.drop f).take i)*10+(t[j].toNat-48) by
      have e:=HJ.out;subst e;rw[show f+i+1-f=i+1 by omega,List.take_succ_eq_append_getElem (by rw[List.length_drop,str_len];omega),valT_snoc,List.getElem_drop,str_at t (f+i) hit])
    have hp8:10^i<=10^5:=Nat.pow_le_pow_right (by decide) (by omega);obtain⟨G,hG⟩:∃G,valT ((t.data.toList.drop f).take i)=G:=⟨_,rfl⟩;rw[hG]at hpl HV2⊢;obtain⟨c,hc⟩:∃c,t[j].toNat=c:=⟨_,rfl⟩;rw[hc]at hdg HV2;have hG5:G<100000:=Nat.lt_of_lt_of_le hpl hp8;have hti:(j:Int)<(t.size:Int):=by omega
    obtain⟨G',hG'⟩:∃G',valT ((t.data.toList.drop f).take (j+1-f))=G':=⟨_,rfl⟩;rw[hG']at HV2;have HG':=hid hG';have e2:(10:Int)*(G:Int)+((c:Int)-48)=(G':Int):=by rw[HV2.out];omega
    clear hG hp8 hpl hi0 hG';go_wp2;go_roundw
    case rel=>exact⟨j+1,by omega,by omega,by go_num,by rw[HG'.out],hid (by trivial)⟩
    case measure=>simp[intOf];omega
  obtain rfl:j=k:=by omega
  have HG6:=hid (show valT ((t.data.toList.drop f).take i)<B6 from by
    have hp8:10^i<=10^6:=Nat.pow_le_pow_right (by decide) hi6;exact Nat.lt_of_lt_of_le hpl hp8)
  have HVN:=hid (show valT (s.data.toList.take j)=valT (s.data.toList.take f)*10^i+valT ((t.data.toList.drop f).take i) by
    have e:=HJ.out;rw[<-e,List.take_add,valT_append,HTL.out,List.length_take,List.length_drop,str_len,Nat.min_eq_left (by omega),List.drop_take,List.take_take,Nat.min_eq_left (by omega)])
  obtain⟨G,hG⟩:∃G,valT ((t.data.toList.drop f).take i)=G:=⟨_,rfl⟩;rw[hG]at HG6 HVN⊢;have hGb:=HG6.out;rw[b6]at hGb
  have HNV:=hid (show val B6 (os++[G])+B6^(os++[G]).length*valT (s.data.toList.take f)=valT s.data.toList by
    rw[val_snoc,List.length_append,List.length_singleton, <-hov,HVN.out,Nat.pow_succ,Nat.mul_assoc,Nat.add_assoc, <-Nat.mul_add]
    rcases hf0 with h0|h6
    . subst h0;simp[valT]
    rw[show i=6 by omega,b6,Nat.add_comm G,Nat.mul_comm 1000000])
  have hjt:j=t.size:=by omega
  have HTE:=hid (show(t.extract 0 f).data.toList=s.data.toList.take f by
    rw[ByteArray.data_extract,Array.toList_extract,List.extract_eq_take_drop,List.drop_zero,Nat.sub_zero,HTL.out,List.take_take,Nat.min_eq_left (by omega)])
  obtain⟨t',ht'⟩:∃t',t.extract 0 f=t':=⟨_,rfl⟩;rw[ht']at HTE;have htf:f<=t.size:=by omega
  have HF:=hid hf0;have HOK:=hid hok;clear hG hov hf0 hok hpl hi0;have hti:¬(j:Int)<(t.size:Int):=by omega
  have HJT:=hid hjt;clear hjt htk;go_upto_region 18 with(fail);go_wp2_with (at_builtin;go_loud (refine wpList_append_own _ rfl _ _ 50 rfl w.heap.size 3 i0 _ 1 8 Tryz.underlying50 hi hz0 hz1 hz2 rfl (by decide) _ _ _ rfl (hrow.alloc _) ⟨wr.heap.size,0,none⟩ 1 1 [iCell G] rfl rfl (cells1_new wr _ _) (one_i _) (by simp[maxLen];omega) (by omega) (by have:=hbl.size;simp;omega) ?_;intro v' w7 hown' hgrow _;have hb7:=row1_step hbl hrow (Nat.le_refl _) hbl.size hgrow;have hr7:=RowI.push hown' rfl));go_roundw
  case rel=>exact⟨t',os++[G],f,by rw[<-ht'],by omega,HTE,hr7,hid (fun d hd=>by
    rcases List.mem_append.1 hd with h1|h1
    . exact HOB.out d h1
    simp only[List.mem_cons,List.not_mem_nil,or_false]at h1;rw[h1];exact HG6.out),by rw[List.length_append,List.length_singleton];omega,hid ⟨by rw[List.length_append,List.length_singleton];have:=HOK.out;rcases this with h|h<;>omega,by rw[List.length_append,List.length_singleton];exact HF.out.imp id (fun h=>by rcases HOK.out with h'|h'<;>omega),HNV.out⟩,hb7⟩
  case measure=>
    show strLen (.string t')<strLen (.string t)
    show t'.size<t.size
    have h3:t'.size=f:=by rw[<-str_len,HTE.out,List.length_take,str_len];omega
    have:=HTS.out;omega
set_option maxHeartbeats 1000000 in
theorem rparse_nil(s:ByteArray)(w:World)(hs:s.size=0):
    Calls Tryz.prog 83 #[.string s] w fun e w'=> ∃v,e=.returned (.tuple #[v,.int .i64 (parseErr s.data.toList)])/\RefV w' v (parseVal s.data.toList)/\Below w.heap.size w w':=by
  have hn:s.data.toList=[]:=List.eq_nil_of_length_eq_zero (by rw[str_len];exact hs);have he:((s.size:Int)==0)=true:=by rw[beq_iff_eq];omega
  have hbad:parseErr s.data.toList=3:=parse_syn (.inl hn);have hval:parseVal s.data.toList=0:=parseVal_err (by rw[hbad];decide);rw[hbad,hval];clear hbad hval hs hn;go_enter Tryz.func83,Tryz.ntmps83;go_wp2;go_ret2;exact⟨_,rfl,RefV.zero _,Below.refl _ _⟩
set_option maxHeartbeats 1000000 in
theorem rparse_zero(s:ByteArray)(w:World)(hs:2<=s.size)(h0:((s[0].toNat:Int)==48)=true)(hh:s.data.toList.head?=some 48):
    Calls Tryz.prog 83 #[.string s] w fun e w'=> ∃v,e=.returned (.tuple #[v,.int .i64 (parseErr s.data.toList)])/\RefV w' v (parseVal s.data.toList)/\Below w.heap.size w w':=by
  have hne:s.data.toList≠[]:=fun e=>by have:=str_len s;rw[e]at this;simp at this;omega
  have he:((s.size:Int)==0)=false:=by rw[beq_eq_false_iff_ne];omega
  have hgt:(1:Int)<(s.size:Int):=by omega
  have hbad:parseErr s.data.toList=3:=parse_syn (.inr (.inl ⟨by rw[str_len];omega,hh⟩));have hval:parseVal s.data.toList=0:=parseVal_err (by rw[hbad];decide);rw[hbad,hval];clear hbad hval;go_enter Tryz.func83,Tryz.ntmps83;go_wp2;go_ret2;exact⟨_,rfl,RefV.zero _,Below.refl _ _⟩
theorem rparse_any(s:ByteArray)(w:World)(hl:s.size<=1000000):
    Calls Tryz.prog 83 #[.string s] w fun e w'=> ∃v,e=.returned (.tuple #[v,.int .i64 (parseErr s.data.toList)])/\RefV w' v (parseVal s.data.toList)/\Below w.heap.size w w':=by
  by_cases h0:s.size=0
  . exact rparse_nil s w h0
  by_cases h1:s.size=1
  . exact rparse_ok s w (by omega) hl (.inl h1)
  have h2:2<=s.size:=by omega
  have e:s.data.toList.head?=some s[0]:=by
    rw[List.head?_eq_getElem?,List.getElem?_eq_getElem (by rw[str_len];omega),str_at]
  by_cases hc:s[0]=48
  . exact rparse_zero s w h2 (by rw[hc];rfl) (by rw[e,hc])
  refine rparse_ok s w (by omega) hl (.inr ⟨?_,h2,by rw[e];simpa using hc⟩);rw[beq_eq_false_iff_ne];intro h;exact hc (UInt8.toNat_inj.1 (by show s[0].toNat=48;omega))
end Go.Proofs.YtgemmbpjebijlaaGreatDoor
namespace Go.Proofs.YtgemmbpjebijlaaGreatDoor
open Go.RowKit
theorem cvL_len(xs ys:List Nat)(L k i:Nat):(cvL xs ys L k i).length=L:=by simp[cvL]
theorem cvL_at{xs ys:List Nat}{L k i:Nat}(h:k<L):(cvL xs ys L k i)[k]'(by rw[cvL_len];exact h)=cv (xs.take i) ys k:=by simp[cvL]
theorem cvL_same{xs ys:List Nat}{L k i:Nat}(h:cv (xs.take (i+1)) ys k=cv (xs.take i) ys k):cvL xs ys L k i=cvL xs ys L k (i+1):=by unfold cvL;rw[h]
theorem cvL_next{xs ys:List Nat}{L k i:Nat}(h:xs.length<=i\/k<i):cvL xs ys L k i=cvL xs ys L (k+1) 0:=by
  unfold cvL;refine List.map_congr_left fun t _=>?_
  by_cases h1:t<k
  . rw[if_pos h1,if_pos (by omega)]
  by_cases h2:t=k
  . rw[if_neg h1,if_pos h2,if_pos (by omega),cv_take _ _ _ _ h,h2]
  rw[if_neg h1,if_neg h2,if_neg (by omega)]
  split
  . simp[cv]
  rfl
theorem cvL_start(xs ys:List Nat)(L:Nat):cvL xs ys L 0 0=List.replicate L 0:=by
  rw[List.eq_replicate_iff];refine⟨cvL_len ..,fun b hb=>?_⟩;obtain⟨t,_,rfl⟩:=List.mem_map.1 hb;simp[cv]
theorem cvL_end(xs ys:List Nat)(L:Nat):cvL xs ys L L 0=(List.range L).map (cv xs ys):=by
  unfold cvL;refine List.map_congr_left fun t ht=>?_
  rw[if_pos (List.mem_range.1 ht)]
set_option maxRecDepth 100000 in
set_option maxHeartbeats 4000000 in
theorem rmul_any(v u:Value)(n m:Nat)(w:World)(hv:RefV w v n)(hu:RefV w u m)(h1:(digs B6 n).length<=50000)(h2:(digs B6 m).length<=50000):
    Calls Tryz.prog 76 #[v,u] w fun e w'=> ∃v',e=.returned v'/\RefV w' v' (n*m)/\Below w.heap.size w w':=by
  obtain⟨i0,hi,hz0,hz1,hz2⟩:=info_parts infoI;obtain⟨p,cp,rfl,hpg⟩:=GV.slice hv;obtain⟨q,cq,rfl,hqg⟩:=GV.slice hu;have HPG:=hid hpg;have HQG:=hid hqg;have HXB:=hid (digs_lt b6_2 n);have HYB:=hid (digs_lt b6_2 m);have HVN:=hid (val_digs b6_2 n);have HVM:=hid (val_digs b6_2 m);obtain⟨xs,hxs⟩:∃xs,digs B6 n=xs:=⟨_,rfl⟩;obtain⟨ys,hys⟩:∃ys,digs B6 m=ys:=⟨_,rfl⟩;rw[hxs]at HPG HXB HVN h1⊢;rw[hys]at HQG HYB HVM h2⊢;clear hv hpg hxs hu hqg hys
  have HCB:=hid (fun(zs:List Nat) k (h:∀a∈zs,a<B6) (hl:zs.length<=50000)=>show cv zs ys k<=50000000000000000 from by
    have h3:=cv_le zs ys k 1000000 (fun a ha=>Nat.le_of_lt (h a ha)) (fun a ha=>Nat.le_of_lt (HYB.out a ha));have h4:zs.length*(1000000*1000000)<=50000*(1000000*1000000):=Nat.mul_le_mul_right _ hl;omega)
  go_enter Tryz.func76,Tryz.ntmps76;go_upto_region 2 with(at_make;go_loud (refine wpList_make_full _ rfl _ _ _ rfl w.heap.size 3 i0 _ 1 Tryz.underlying50 hi hz0 hz1 _ _ _ _ (xs.length+ys.length) rfl rfl (by simp) (by simp) (by rw[hz2];omega) (by unfold maxLen;omega) (Nat.le_refl _) ?_;intro w2 hown hgr;have hb2:Below w.heap.size w w2:=(Below.refl _ w).grown hgr (Nat.le_refl _) (by simp);have hA:=ari_made hown;clear hown hgr));have hat0:MulR w w.heap.size xs ys (xs.length+ys.length) 0 0 w2:=⟨by rw[cvL_start];exact hA,hb2⟩;clear hA hb2;go_wp2_with fail;go_loopw [6] (fun i wr=> ∃k:Nat,k<=xs.length+ys.length/\i=.int .i64 k/\MulR w w.heap.size xs ys (xs.length+ys.length) k 0 wr) (fun i _=>xs.length+ys.length-(intOf i).toNat)
  case atStart=>exact⟨0,Nat.zero_le _,rfl,hat0⟩
  clear hat0;obtain⟨k,hk,rfl,hat⟩:=hrel;generalize wr=W1 at hat⊢
  by_cases hlt:k<xs.length+ys.length
  . have hti:(k:Int)<((xs.length+ys.length:Nat):Int):=by omega
    have HAT:=hid hat;clear hat;go_upto_region 5 with(fail);go_wp2_with fail;go_loopw [7] (fun iv wr=> ∃i:Nat,i<=xs.length/\iv=.int .i64 i/\MulR w w.heap.size xs ys (xs.length+ys.length) k i wr) (fun iv _=>xs.length-(intOf iv).toNat)
    case atStart=>exact⟨0,Nat.zero_le _,rfl,HAT.out⟩
    clear HAT;obtain⟨i,hix,rfl,hat⟩:=hrel;generalize wr=W2 at hat⊢
    by_cases hik:i<=k
    . have hiki:(i:Int)<=(k:Int):=by omega
      by_cases hil:i<xs.length
      . have hili:(i:Int)<(xs.length:Int):=by omega
        obtain⟨j,hj⟩:∃j,j=k-i:=⟨_,rfl⟩;have ej:(k:Int)-(i:Int)=(j:Int):=by omega
        by_cases hjl:j<ys.length
        . have hjli:(j:Int)<(ys.length:Int):=by omega
          have hold:=hat.old;obtain⟨g,rfl,hg,_,_⟩:=HPG.out (fun e=>by subst e;simp at hil);obtain⟨g',rfl,hg',_,_⟩:=HQG.out (fun e=>by subst e;simp at hjl);have hg1:=(hg.below hold).at0 i hil;have hg2:=(hg'.below hold).at0 j hjl;have hgl:=Nat.lt_of_lt_of_le hg.lt hold.size;have hgl':=Nat.lt_of_lt_of_le hg'.lt hold.size;have hxk:=HXB.out _ (List.getElem_mem hil);have hyk:=HYB.out _ (List.getElem_mem hjl);have hzl:k<(cvL xs ys (xs.length+ys.length) k i).length:=by rw[cvL_len];exact hlt
          have hzc:=hat.arr.cell k hzl;rw[cvL_at hlt]at hzc;have hfr:=hat.arr.free;have hDl:=hat.arr.lt;have hzb:=HCB.out (xs.take i) k (fun a ha=>HXB.out a (List.mem_of_mem_take ha)) (by rw[List.length_take];omega);obtain⟨x,hx⟩:∃x,xs[i]=x:=⟨_,rfl⟩;obtain⟨y,hy⟩:∃y,ys[j]=y:=⟨_,rfl⟩;obtain⟨z,hz⟩:∃z,cv (xs.take i) ys k=z:=⟨_,rfl⟩;have HA:=hid hat.arr;have HS:=hid (fun w' (hb:Below W2.heap.size W2 w')=>hat.step hb hz hil hx (show ys.getD (k-i) 0=y by rw[<-hj, <-hy,List.getD_eq_getElem?_getD,List.getElem?_eq_getElem hjl];rfl) hik);rw[hx]at hg1 hxk;rw[hy]at hg2 hyk;rw[hz]at hzc hzb;unfold iCell at hg1 hg2;rw[b6]at hxk hyk;have hm1:x*y<=1000000*1000000:=Nat.mul_le_mul (by omega) (by omega);obtain⟨t,ht,ht2⟩:∃t:Nat,x*y=t/\(x:Int)*(y:Int)=(t:Int):=⟨_,rfl,by simp only[Int.natCast_mul]⟩;rw[ht]at HS hm1;have hHZ:=HS;clear hx hy hz ht hat hj HS;go_upto_region 9 with(fail);refine wp_region_staged (fun w'=>Below W2.heap.size W2 w') [0,0,0,1,0,0,0,1,0,0,0,0,0,1,0,0,0,2] (by kernel_rfl) (by kernel_rfl) (by kernel_rfl) (by exact(Below.refl _ _).drew) ?_
          iterate 3 (refine zs0 ?_)
          refine zs2 ?_
          iterate 3 (refine zs0 ?_)
          refine zs2 ?_
          iterate 5 (refine zs0 ?_)
          refine zs2 ?_
          iterate 3 (refine zs0 ?_)
          apply lexS (fun w'=>MulR w w.heap.size xs ys (xs.length+ys.length) k (i+1) w') rfl
          . intro w' hw';have c0:=(HA.out.below hw').cell k hzl;have f0:=(HA.out.below hw').free;go_simp;exact⟨rfl,hHZ.out w' hw'⟩
          simp only[Act.put];refine lexEnd (fun W5 hw5=>?_);go_wp2;go_roundw
          case rel=>exact⟨i+1,by omega,by go_num,hw5⟩
          case measure=>simp[intOf];omega
        have hjli:¬(j:Int)<(ys.length:Int):=by omega
        have hs:cv (xs.take (i+1)) ys k=cv (xs.take i) ys k:=by
          rw[cv_take_succ _ _ _ _ hil hik,List.getD_eq_getElem?_getD,List.getElem?_eq_none (by omega)];simp
        have hat2:MulR w w.heap.size xs ys (xs.length+ys.length) k (i+1) W2:=⟨by rw[<-cvL_same hs];exact hat.arr,hat.old⟩;clear hs hat hj;go_wp2;go_roundw
        case rel=>exact⟨i+1,by omega,by go_num,hat2⟩
        case measure=>simp[intOf];omega
      have hili:¬(i:Int)<(xs.length:Int):=by omega
      have hat2:MulR w w.heap.size xs ys (xs.length+ys.length) (k+1) 0 W2:=⟨by rw[<-cvL_next (i:=i) (.inl (by omega))];exact hat.arr,hat.old⟩;clear hat;go_wp2;go_roundw
      case rel=>exact⟨k+1,by omega,by go_num,hat2⟩
      case measure=>simp[intOf];omega
    have hiki:¬(i:Int)<=(k:Int):=by omega
    have hat2:MulR w w.heap.size xs ys (xs.length+ys.length) (k+1) 0 W2:=⟨by rw[<-cvL_next (i:=i) (.inr (by omega))];exact hat.arr,hat.old⟩;clear hat;go_wp2;go_roundw
    case rel=>exact⟨k+1,by omega,by go_num,hat2⟩
    case measure=>simp[intOf];omega
  obtain rfl:k=xs.length+ys.length:=by omega
  have hold:=hat.old;have harr:=hat.arr;rw[cvL_end]at harr;have hge:(List.map (cv xs ys) (List.range (xs.length+ys.length))).length=xs.length+ys.length:=by simp
  have hgv:=harr.gv (by rw[hge];unfold maxLen;omega);rw[hge]at hgv
  have HT:=hid (carried_any _ _ W1 hgv (by rw[hge];omega) (fun y hy=>by
    obtain⟨t,_,rfl⟩:=List.mem_map.1 hy;have:=HCB.out xs t HXB.out h1;omega))
  rw[val_cv xs ys _ (by omega) (by omega),HVN.out,HVM.out]at HT;clear hge hgv harr hat;have hti:¬((xs.length+ys.length:Nat):Int)<((xs.length+ys.length:Nat):Int):=by omega
  go_wp2_with (go_at_call 117;refine HT.out.mono ?_;clear HT;rintro e w3 ⟨v',rfl,hv',hw3⟩);go_ret;exact⟨_,rfl,hv',hold.trans (hw3.mono hold.size)⟩
end Go.Proofs.YtgemmbpjebijlaaGreatDoor
namespace Go.Proofs.YtgemmbpjebijlaaGreatDoor
open Go.RowKit
theorem rsub_err(v u:Value)(n m:Nat)(w:World)(hv:RefV w v n)(hu:RefV w u m)(h1:(digs B6 n).length<=900000)(h2:(digs B6 m).length<=900000)(hlt:n<m):
    Calls Tryz.prog 81 #[v,u] w fun e w'=>e=.returned (.tuple #[.slice none 0 0,.int .i64 2])/\Below w.heap.size w w':=by
  have HC:=hid (rcmp_any v u n m w hv hu h1 h2);rw[cmpN_lt hlt]at HC;clear hv hu h1 h2 hlt;go_enter Tryz.func81,Tryz.ntmps81;go_wp2_with (go_at_call 80;refine HC.out.mono ?_;clear HC;rintro e w1 ⟨rfl,hw1⟩);go_ret2;exact⟨rfl,hw1⟩
end Go.Proofs.YtgemmbpjebijlaaGreatDoor
namespace Go.Proofs.YtgemmbpjebijlaaGreatDoor
open Go.RowKit
end Go.Proofs.YtgemmbpjebijlaaGreatDoor
namespace Go.Proofs.YtgemmbpjebijlaaGreatDoor
open Go.RowKit
end Go.Proofs.YtgemmbpjebijlaaGreatDoor
namespace Go.Proofs.YtgemmbpjebijlaaGreatDoor
open Go.RowKit
open Go.Lib (decDigits)
theorem rsub_any(v u:Value)(n m:Nat)(w:World)(hv:RefV w v n)(hu:RefV w u m)(h1:(digs B6 n).length<=900000)(h2:(digs B6 m).length<=900000):
    Calls Tryz.prog 81 #[v,u] w fun e w'=> ∃x,e=.returned (.tuple #[x,.int .i64 (if n<m then 2 else 0)])/\RefV w' x (n-m)/\Below w.heap.size w w':=by
  by_cases hlt:n<m
  . rw[if_pos hlt];refine(rsub_err v u n m w hv hu h1 h2 hlt).mono fun e w' ⟨h1,h2⟩=>⟨_,h1,?_,h2⟩
    rw[Nat.sub_eq_zero_of_le (by omega)];exact .inl ⟨digs_zero,_,_,rfl⟩
  rw[if_neg hlt];exact rsub_ok v u n m w hv hu h1 h2 (by omega)
end Go.Proofs.YtgemmbpjebijlaaGreatDoor
namespace Go.Proofs.YtgemmbpjebijlaaGreatDoor
open Go.RowKit
open Go.Lib (decDigits)
theorem Has.f3{base R:Nat}{w:World}{c0 c1 c2:Value}{t:TypeId}(h:Has base R (.cells #[c0,c1,c2] t) w):∀o,w.frozen? ⟨R,o,none⟩=false:=by intro o;simp[World.frozen?,h.2]
end Go.Proofs.YtgemmbpjebijlaaGreatDoor
namespace Go.Proofs.YtgemmbpjebijlaaGreatDoor
open Go.RowKit
theorem hdIs_nil{base R n:Nat}{w:World}{t:TypeId}(h:Has base R (.cells #[] t) w):HdIs R n w:=fun v e=>by
  unfold World.cell? at e;rw[h.2]at e
  cases e
end Go.Proofs.YtgemmbpjebijlaaGreatDoor
namespace Go.Proofs.YtgemmbpjebijlaaGreatDoor
open Go.RowKit
section
variable {α:Type}{K:EK α}{t:TypeId}{base g:Nat}{w w':World}{v:Value}{xs ys:List α}{css dss:List (List Value)}{P:Program}
theorem OwV.empty{R:Nat}(h:Has base R (.cells #[] t) w):OwV K t base w (.slice (some ⟨R,0,none⟩) 0 0) []:=⟨[],.nil,by simp,.inr ⟨R,0,#[],rfl,h.1,h.2,by simp,by simp[maxLen],by simp,by simp⟩⟩
end
end Go.Proofs.YtgemmbpjebijlaaGreatDoor
namespace Go.Proofs.YtgemmbpjebijlaaGreatDoor
open Go.RowKit
open Go.Lib (decDigits)
theorem den_t{x:Rat}(h:(((digs B6 (den0 x)).length:Int)==0)=true):1=x.den:=((den0_zero x).1 (len6_zero h)).symm
theorem den_f{x:Rat}(h:(((digs B6 (den0 x)).length:Int)==0)=false):den0 x=x.den:=by
  have:=len6_pos h;have h2:=one0_den0 x;unfold one0 at h2
  rwa [if_neg this]at h2
theorem radd_t{x y:Rat}(h:(isN x==isN y)=true):ofS (isN x) (x.num.natAbs*y.den+y.num.natAbs*x.den) (x.den*y.den)=x+y:=add_of (by
  have e:isN x=isN y:=by simpa using h
  rw[<-e];exact(sgn_add _ _ _).symm)
theorem cmpN_ge{n m:Nat}{z:Int}(hz:cmpN n m=z)(h:decide (0<=z)=true):m<=n:=by
  have:0<=z:=by simpa using h
  rw[<-hz]at this;unfold cmpN at this
  split at this<;>omega
theorem cmpN_lt'{n m:Nat}{z:Int}(hz:cmpN n m=z)(h:decide (0<=z)=false):n<m:=by
  have:¬0<=z:=by simpa using h
  rw[<-hz]at this;unfold cmpN at this
  split at this
  . assumption
  split at this<;>omega
theorem not_of_beq{a b:Bool}(h:(a==b)=false):b= !a:=by revert h;cases a<;>cases b<;>decide
theorem radd_ft{x y:Rat}{z:Int}(h:(isN x==isN y)=false)(hz:cmpN (x.num.natAbs*y.den) (y.num.natAbs*x.den)=z)(h2:decide (0<=z)=true):ofS (isN x) (x.num.natAbs*y.den-y.num.natAbs*x.den) (x.den*y.den)=x+y:=add_of (by
  rw[not_of_beq h];exact(sgn_sub _ (cmpN_ge hz h2)).symm)
theorem radd_ff{x y:Rat}{z:Int}(h:(isN x==isN y)=false)(hz:cmpN (x.num.natAbs*y.den) (y.num.natAbs*x.den)=z)(h2:decide (0<=z)=false):ofS (isN y) (y.num.natAbs*x.den-x.num.natAbs*y.den) (x.den*y.den)=x+y:=add_of (by
  have e:isN x= !isN y:=by rw[not_of_beq h];simp
  rw[e,Int.add_comm];exact(sgn_sub _ (Nat.le_of_lt (cmpN_lt' hz h2))).symm)
theorem sgQ_n0{x:Rat}(h:x.num.natAbs=0):sgQ x=0:=by unfold sgQ;rw[if_pos h]
theorem sgQ_n1{x:Rat}{b:Bool}(h:x.num.natAbs≠0)(hb:isN x=b):sgQ x=if b then-1 else 1:=by unfold sgQ;rw[if_neg h,hb]
set_option maxRecDepth 100000 in
theorem rone_q(v0:Value)(x:Rat)(w:World)(h0:RefR w v0 x):
    Calls Tryz.prog 77 #[v0] w fun e w'=> ∃y0,e=.returned y0/\RefV w' y0 (x.den)/\Below w.heap.size w w':=by
  have h0_0:=h0;obtain⟨p_h0,c_h0,q_h0,d_h0,rfl,h0_1,h0_2⟩:=h0.slr;have hK:=SS.start w;refine Calls.hide (fun Q0 hQ0=>?_);go_enter Tryz.func77,Tryz.ntmps77;go_upto_region 0 with(fail);refine wp_region_T [3,0] hK ?_;clear hK;refine eA (.cells #[.bool (isN x),.slice p_h0 (digs B6 (numQ x)).length c_h0,.slice q_h0 (digs B6 (den0 x)).length d_h0] 53) (fun R1=>?_);refine e0 ?_;refine sxEnd (fun W2 hK=>?_);go_upto_region 1 with(fail);refine wp_region_T [0,1,0,0] hK ?_;clear hK;refine e0 ?_;refine eL m0 ?_;refine e0 ?_;refine eB ((((digs B6 (den0 x)).length:Int))==0) (fun b1 hb1=>?_);refine sxEnd (fun W3 hK=>?_)
  cases b1
  . --
   go_upto_region 3 with(fail);refine wp_region_T [0,1,0] hK ?_;clear hK;refine e0 ?_;refine eL m0 ?_;refine e0 ?_;refine sxEnd (fun W4 hK=>?_);go_wp2
   try go_ret
   show Q0 (.returned (.slice q_h0 (digs B6 (den0 x)).length d_h0)) _
   exact(qo hQ0 ⟨_,rfl,((congrArg (RefV _ _) (den_f hb1.out)).mp (h0_2.below hK.old)),hK.old⟩)
  go_upto_region 2 with(fail);refine wp_region_T [2,0] hK ?_;clear hK;refine eC (fun w k=>ref_V (rof_any 1 w (by omega))) (fun x6=>?_);obtain⟨p5,c5⟩:=x6;dsimp only;refine e0 ?_;refine sxEnd (fun W7 hK=>?_);go_wp2
  try go_ret
  show Q0 (.returned (.slice p5 (digs B6 1).length c5)) _
  exact(qo hQ0 ⟨_,rfl,((congrArg (RefV _ _) (den_t hb1.out)).mp (hK.vf m0)),hK.old⟩)
set_option maxRecDepth 100000 in
theorem rneg_q(v0:Value)(x:Rat)(w:World)(h0:RefR w v0 x) {k:Nat}(hx:LmQ k x)(hk:k<=10000):
    Calls Tryz.prog 147 #[v0] w fun e w'=> ∃y0,e=.returned y0/\RefR w' y0 (-x)/\Below w.heap.size w w':=by
  have h0_0:=h0;obtain⟨p_h0,c_h0,q_h0,d_h0,rfl,h0_1,h0_2⟩:=h0.slr;have hK:=SS.start w;have e1:(digs B6 (numQ x)).length<=50000:=d6_of hx.n (by omega);have e2:=d6_of hx.d (by omega);refine Calls.hide (fun Q0 hQ0=>?_);go_enter Tryz.func147,Tryz.ntmps147;go_upto_region 0 with(fail);refine wp_region_T [3,3] hK ?_;clear hK;refine eA (.cells #[.bool (isN x),.slice p_h0 (digs B6 (numQ x)).length c_h0,.slice q_h0 (digs B6 (den0 x)).length d_h0] 53) (fun R1=>?_);refine eA (.cells #[.bool false,.slice none 0 0,.slice none 0 0] 53) (fun R2=>?_);refine sxEnd (fun W3 hK=>?_);go_upto_region 1 with(fail);refine wp_region_S _ [0,0,0,0,0,0,2,2,4] hK ?_ (sC2 (sR));clear hK;refine e0 ?_;refine eL0 m0 ?_
  iterate 2 refine e0 ?_
  iterate 2 refine eL0 m0 ?_
  refine eC (fun w k=>ref_V (rone_q _ _ w (h0_0.below k.old))) (fun x5=>?_);obtain⟨p4,c4⟩:=x5;dsimp only;refine eC (fun w k=>ref_S (rmade_q _ _ (!(isN x)) _ _ w (h0_1.below k.old) (k.vf m0) (by omega) (by omega))) (fun x7=>?_);obtain⟨⟨p6,l6,c6⟩,⟨q6,u6,d6⟩⟩:=x7;dsimp only;refine eP 2 0 [.bool (isN (ofS (!(isN x)) (numQ x) x.den)),.slice p6 l6 c6,.slice q6 u6 d6] ?_ (hs:=(sC2 (sC2 (sC2 (sR))))) (hq:=.inr ⟨rfl,rfl,rfl,trivial⟩);refine sxEnd (fun W8 hK=>?_);have⟨c90,c91,c92⟩:=(hK.box m2).c3;go_wp2;exact bodyPost_ret (v:=.agg #[.bool (isN (ofS (!(isN x)) (numQ x) x.den)),.slice p6 l6 c6,.slice q6 u6 d6]) (by simp[results,Tryz.results147,go_sem,c90,c91,c92]) rfl (qo hQ0 ⟨_,rfl,((congrArg (RefR _ _) (by rw[<-ofS_neg];exact congrArg _ (ofS_self x))).mp (hK.rq m0)),hK.old⟩)
set_option maxRecDepth 100000 in
theorem radd_q(v0:Value)(v1:Value)(x:Rat)(y:Rat)(w:World)(h0:RefR w v0 x)(h1:RefR w v1 y) {k:Nat}(hx:LmQ k x)(hy:LmQ k y)(hk:k<=10000):
    Calls Tryz.prog 43 #[v0,v1] w fun e w'=> ∃y0,e=.returned y0/\RefR w' y0 (x+y)/\Below w.heap.size w w':=by
  have h0_0:=h0;obtain⟨p_h0,c_h0,q_h0,d_h0,rfl,h0_1,h0_2⟩:=h0.slr;have h1_0:=h1;obtain⟨p_h1,c_h1,q_h1,d_h1,rfl,h1_1,h1_2⟩:=h1.slr;have hK:=SS.start w;have e1:(digs B6 (numQ x)).length<=50000:=d6_of hx.n (by omega);have e2:=d6_of hx.d (by omega);have e3:(digs B6 (numQ y)).length<=50000:=d6_of hy.n (by omega);have e4:=d6_of hy.d (by omega);have e5:(digs B6 (numQ x*y.den)).length<=50000:=d6_of (hx.n.mul hy.d) (by omega);have e6:(digs B6 (numQ y*x.den)).length<=50000:=d6_of (hy.n.mul hx.d) (by omega);have e7:=d6_of (hx.d.mul hy.d) (by omega);have e8:(digs B6 (numQ x*y.den+numQ y*x.den)).length<=50000:=d6_of ((hx.n.mul hy.d).add (hy.n.mul hx.d)) (by omega);have e9:(digs B6 (numQ x*y.den-numQ y*x.den)).length<=50000:=d6_of (hx.n.mul hy.d).sub (by omega);have e10:(digs B6 (numQ y*x.den-numQ x*y.den)).length<=50000:=d6_of (hy.n.mul hx.d).sub (by omega);have e11:(digs B6 (numQ x*numQ y)).length<=50000:=d6_of (hx.n.mul hy.n) (by omega);have e12:(digs B6 (x.den*numQ y)).length<=50000:=d6_of (hx.d.mul hy.n) (by omega);refine Calls.hide (fun Q0 hQ0=>?_);go_enter Tryz.func43,Tryz.ntmps43;go_upto_region 0 with(fail);refine wp_region_T [3,3,3] hK ?_;clear hK;refine eA (.cells #[.bool (isN x),.slice p_h0 (digs B6 (numQ x)).length c_h0,.slice q_h0 (digs B6 (den0 x)).length d_h0] 53) (fun R1=>?_);refine eA (.cells #[.bool (isN y),.slice p_h1 (digs B6 (numQ y)).length c_h1,.slice q_h1 (digs B6 (den0 y)).length d_h1] 53) (fun R2=>?_);refine eA (.cells #[.bool false,.slice none 0 0,.slice none 0 0] 53) (fun R3=>?_);refine sxEnd (fun W4 hK=>?_);go_upto_region 1 with(fail);refine wp_region_S _ [0,0,0,2,2,0,0,0,2,2,0,0] hK ?_ (sR);clear hK;refine e0 ?_;refine eL0 m2 ?_;refine eL0 m1 ?_;refine eC (fun w k=>ref_V (rone_q _ _ w (h1_0.below k.old))) (fun x6=>?_);obtain⟨p5,c5⟩:=x6;dsimp only;refine eC (fun w k=>ref_V (rmul_any _ _ _ _ w (h0_1.below k.old) (k.vf m0) (by omega) (by omega))) (fun x8=>?_);obtain⟨p7,c7⟩:=x8;dsimp only;refine e0 ?_;refine eL0 m1 ?_;refine eL0 m2 ?_;refine eC (fun w k=>ref_V (rone_q _ _ w (h0_0.below k.old))) (fun x10=>?_)
  obtain⟨p9,c9⟩:=x10;dsimp only;refine eC (fun w k=>ref_V (rmul_any _ _ _ _ w (h1_1.below k.old) (k.vf m0) (by omega) (by omega))) (fun x12=>?_);obtain⟨p11,c11⟩:=x12;dsimp only
  iterate 2 refine e0 ?_
  refine sxEnd (fun W13 hK=>?_);go_upto_region 2 with(fail);refine wp_region_S _ [0,2,0,2,2,0] hK ?_ (sR);clear hK;refine eL0 m6 ?_;refine eC (fun w k=>ref_V (rone_q _ _ w (h0_0.below k.old))) (fun x15=>?_);obtain⟨p14,c14⟩:=x15;dsimp only;refine eL0 m5 ?_;refine eC (fun w k=>ref_V (rone_q _ _ w (h1_0.below k.old))) (fun x17=>?_);obtain⟨p16,c16⟩:=x17;dsimp only;refine eC (fun w k=>ref_V (rmul_any _ _ _ _ w (k.vf m1) (k.vf m0) (by omega) (by omega))) (fun x19=>?_);obtain⟨p18,c18⟩:=x19;dsimp only;refine e0 ?_;refine sxEnd (fun W20 hK=>?_);go_upto_region 3 with(fail);refine wp_region_T [0,1,0,1,0,0] hK ?_;clear hK;refine e0 ?_;refine eL m9 ?_;refine e0 ?_;refine eL m8 ?_;refine eB (((isN x))==((isN y))) (fun b1 hb1=>?_);refine e0 ?_;refine sxEnd (fun W21 hK=>?_)
  cases b1
  . --
   go_upto_region 5 with(fail);refine wp_region_T [0,0,1,0,0] hK ?_;clear hK
   iterate 2 refine e0 ?_
   obtain⟨z1,hz1⟩:=nmI (cmpN ((numQ x)*y.den) ((numQ y)*x.den));refine eQ (v:=.int .i64 z1) (fun w k=>rcmp_any _ _ _ _ w (k.vf m5) (k.vf m3) (by omega) (by omega)) ?_ (hv:=by rw[hz1.out]);refine eB (decide (0<=z1)) (fun b2 hb2=>?_);refine e0 ?_;refine sxEnd (fun W22 hK=>?_)
   cases b2
   . --
    have q_b2:=nle hb2;go_upto_region 8 with(fail);refine wp_region_T [0,0,2,0,0,0,0,0] hK ?_;clear hK
    iterate 2 refine e0 ?_
    obtain⟨z2,hz2⟩:=nmI (if((numQ y)*x.den)<((numQ x)*y.den)then 2 else 0);refine eC (fun w k=>(by have q:=ref_V (rsub_any _ _ _ _ w (k.vf m3) (k.vf m5) (by omega) (by omega));rw[hz2.out]at q;exact q)) (fun x24=>?_);obtain⟨p23,c23⟩:=x24;dsimp only
    iterate 5 refine e0 ?_
    refine sxEnd (fun W25 hK=>?_);go_upto_region 9 with(fail);refine wp_region_T [0,1,0,0,2,4] hK ?_;clear hK;refine e0 ?_;refine eL m9 ?_
    iterate 2 refine e0 ?_
    refine eC (fun w k=>ref_S (rmade_q _ _ (isN y) _ _ w (k.vf m0) (k.vf m1) (by omega) (by omega))) (fun x27=>?_);obtain⟨⟨p26,l26,c26⟩,⟨q26,u26,d26⟩⟩:=x27;dsimp only;refine eP 9 0 [.bool (isN (ofS (isN y) (((numQ y)*x.den)-((numQ x)*y.den)) (x.den*y.den))),.slice p26 l26 c26,.slice q26 u26 d26] ?_ (hq:=.inr ⟨rfl,rfl,rfl,rfl,rfl,rfl,rfl,rfl,rfl,rfl,rfl,trivial⟩);refine sxEnd (fun W28 hK=>?_);have⟨c90,c91,c92⟩:=(hK.box m9).c3;go_wp2;exact bodyPost_ret (v:=.agg #[.bool (isN (ofS (isN y) (((numQ y)*x.den)-((numQ x)*y.den)) (x.den*y.den))),.slice p26 l26 c26,.slice q26 u26 d26]) (by simp[results,Tryz.results43,go_sem,c90,c91,c92]) rfl (qo hQ0 ⟨_,rfl,((congrArg (RefR _ _) (radd_ff hb1.out hz1.out hb2.out)).mp (hK.rq m0)),hK.old⟩)
   have q_b2:=ylt hb2;go_upto_region 6 with(fail);refine wp_region_T [0,0,2,0,0,0,0,0] hK ?_;clear hK
   iterate 2 refine e0 ?_
   obtain⟨z2,hz2⟩:=nmI (if((numQ x)*y.den)<((numQ y)*x.den)then 2 else 0);refine eC (fun w k=>(by have q:=ref_V (rsub_any _ _ _ _ w (k.vf m5) (k.vf m3) (by omega) (by omega));rw[hz2.out]at q;exact q)) (fun x30=>?_);obtain⟨p29,c29⟩:=x30;dsimp only
   iterate 5 refine e0 ?_
   refine sxEnd (fun W31 hK=>?_);go_upto_region 7 with(fail);refine wp_region_T [0,1,0,0,2,4] hK ?_;clear hK;refine e0 ?_;refine eL m10 ?_
   iterate 2 refine e0 ?_
   refine eC (fun w k=>ref_S (rmade_q _ _ (isN x) _ _ w (k.vf m0) (k.vf m1) (by omega) (by omega))) (fun x33=>?_);obtain⟨⟨p32,l32,c32⟩,⟨q32,u32,d32⟩⟩:=x33;dsimp only;refine eP 9 0 [.bool (isN (ofS (isN x) (((numQ x)*y.den)-((numQ y)*x.den)) (x.den*y.den))),.slice p32 l32 c32,.slice q32 u32 d32] ?_ (hq:=.inr ⟨rfl,rfl,rfl,rfl,rfl,rfl,rfl,rfl,rfl,rfl,rfl,trivial⟩);refine sxEnd (fun W34 hK=>?_);have⟨c90,c91,c92⟩:=(hK.box m9).c3;go_wp2;exact bodyPost_ret (v:=.agg #[.bool (isN (ofS (isN x) (((numQ x)*y.den)-((numQ y)*x.den)) (x.den*y.den))),.slice p32 l32 c32,.slice q32 u32 d32]) (by simp[results,Tryz.results43,go_sem,c90,c91,c92]) rfl (qo hQ0 ⟨_,rfl,((congrArg (RefR _ _) (radd_ft hb1.out hz1.out hb2.out)).mp (hK.rq m0)),hK.old⟩)
  go_upto_region 4 with(fail);refine wp_region_S _ [0,0,0,0,2,0,2,4] hK ?_ (sK2 (sK2 (sK2 (sK2 (sK2 (sK2 (sK2 (sC2 (sR)))))))));clear hK;refine e0 ?_;refine eL0 m8 ?_
  iterate 2 refine e0 ?_
  refine eC (fun w k=>ref_V (radd_any _ _ _ _ w (k.vf m5) (k.vf m3) (by omega) (by omega))) (fun x36=>?_);obtain⟨p35,c35⟩:=x36;dsimp only;refine e0 ?_;refine eC (fun w k=>ref_S (rmade_q _ _ (isN x) _ _ w (k.vf m0) (k.vf m1) (by omega) (by omega))) (fun x38=>?_);obtain⟨⟨p37,l37,c37⟩,⟨q37,u37,d37⟩⟩:=x38;dsimp only;refine eP 9 0 [.bool (isN (ofS (isN x) (((numQ x)*y.den)+((numQ y)*x.den)) (x.den*y.den))),.slice p37 l37 c37,.slice q37 u37 d37] ?_ (hs:=(sC2 (sC2 (sK2 (sK2 (sK2 (sK2 (sK2 (sK2 (sK2 (sC2 (sR)))))))))))) (hq:=.inr ⟨rfl,rfl,rfl,rfl,rfl,rfl,rfl,rfl,rfl,rfl,rfl,trivial⟩);refine sxEnd (fun W39 hK=>?_);have⟨c90,c91,c92⟩:=(hK.box m9).c3;go_wp2;exact bodyPost_ret (v:=.agg #[.bool (isN (ofS (isN x) (((numQ x)*y.den)+((numQ y)*x.den)) (x.den*y.den))),.slice p37 l37 c37,.slice q37 u37 d37]) (by simp[results,Tryz.results43,go_sem,c90,c91,c92]) rfl (qo hQ0 ⟨_,rfl,((congrArg (RefR _ _) (radd_t hb1.out)).mp (hK.rq m0)),hK.old⟩)
set_option maxRecDepth 100000 in
theorem rsub_q(v0:Value)(v1:Value)(x:Rat)(y:Rat)(w:World)(h0:RefR w v0 x)(h1:RefR w v1 y) {k:Nat}(hx:LmQ k x)(hy:LmQ k y)(hk:k<=10000):
    Calls Tryz.prog 129 #[v0,v1] w fun e w'=> ∃y0,e=.returned y0/\RefR w' y0 (x-y)/\Below w.heap.size w w':=by
  have h0_0:=h0;obtain⟨p_h0,c_h0,q_h0,d_h0,rfl,h0_1,h0_2⟩:=h0.slr;have h1_0:=h1;obtain⟨p_h1,c_h1,q_h1,d_h1,rfl,h1_1,h1_2⟩:=h1.slr;have hK:=SS.start w;refine Calls.hide (fun Q0 hQ0=>?_);go_enter Tryz.func129,Tryz.ntmps129;go_upto_region 0 with(fail);refine wp_region_T [3,3,3] hK ?_;clear hK;refine eA (.cells #[.bool (isN x),.slice p_h0 (digs B6 (numQ x)).length c_h0,.slice q_h0 (digs B6 (den0 x)).length d_h0] 53) (fun R1=>?_);refine eA (.cells #[.bool (isN y),.slice p_h1 (digs B6 (numQ y)).length c_h1,.slice q_h1 (digs B6 (den0 y)).length d_h1] 53) (fun R2=>?_);refine eA (.cells #[.bool false,.slice none 0 0,.slice none 0 0] 53) (fun R3=>?_);refine sxEnd (fun W4 hK=>?_);go_upto_region 1 with(fail);refine wp_region_S _ [0,0,2,2,4] hK ?_ (sC2 (sR));clear hK;refine eL0 m1 ?_;refine eL0 m0 ?_;refine eC (fun w k=>ref_S (rneg_q _ _ w (h1_0.below k.old) hy hk)) (fun x6=>?_);obtain⟨⟨p5,l5,c5⟩,⟨q5,u5,d5⟩⟩:=x6;dsimp only;refine eC (fun w k=>ref_S (radd_q _ _ _ _ w (h0_0.below k.old) (k.rq m0) hx hy.neg hk)) (fun x8=>?_);obtain⟨⟨p7,l7,c7⟩,⟨q7,u7,d7⟩⟩:=x8;dsimp only;refine eP 2 0 [.bool (isN (x+(-y))),.slice p7 l7 c7,.slice q7 u7 d7] ?_ (hs:=(sC2 (sC2 (sC2 (sR))))) (hq:=.inr ⟨rfl,rfl,rfl,rfl,trivial⟩);refine sxEnd (fun W9 hK=>?_);have⟨c90,c91,c92⟩:=(hK.box m2).c3;go_wp2;exact bodyPost_ret (v:=.agg #[.bool (isN (x+(-y))),.slice p7 l7 c7,.slice q7 u7 d7]) (by simp[results,Tryz.results129,go_sem,c90,c91,c92]) rfl (qo hQ0 ⟨_,rfl,((congrArg (RefR _ _) (Rat.sub_eq_add_neg x y).symm).mp (hK.rq m0)),hK.old⟩)
set_option maxRecDepth 100000 in
theorem rmul_q(v0:Value)(v1:Value)(x:Rat)(y:Rat)(w:World)(h0:RefR w v0 x)(h1:RefR w v1 y) {k:Nat}(hx:LmQ k x)(hy:LmQ k y)(hk:k<=10000):
    Calls Tryz.prog 93 #[v0,v1] w fun e w'=> ∃y0,e=.returned y0/\RefR w' y0 (x*y)/\Below w.heap.size w w':=by
  have h0_0:=h0;obtain⟨p_h0,c_h0,q_h0,d_h0,rfl,h0_1,h0_2⟩:=h0.slr;have h1_0:=h1;obtain⟨p_h1,c_h1,q_h1,d_h1,rfl,h1_1,h1_2⟩:=h1.slr;have hK:=SS.start w;have e1:(digs B6 (numQ x)).length<=50000:=d6_of hx.n (by omega);have e2:=d6_of hx.d (by omega);have e3:(digs B6 (numQ y)).length<=50000:=d6_of hy.n (by omega);have e4:=d6_of hy.d (by omega);have e5:(digs B6 (numQ x*y.den)).length<=50000:=d6_of (hx.n.mul hy.d) (by omega);have e6:(digs B6 (numQ y*x.den)).length<=50000:=d6_of (hy.n.mul hx.d) (by omega);have e7:=d6_of (hx.d.mul hy.d) (by omega);have e8:(digs B6 (numQ x*y.den+numQ y*x.den)).length<=50000:=d6_of ((hx.n.mul hy.d).add (hy.n.mul hx.d)) (by omega);have e9:(digs B6 (numQ x*y.den-numQ y*x.den)).length<=50000:=d6_of (hx.n.mul hy.d).sub (by omega);have e10:(digs B6 (numQ y*x.den-numQ x*y.den)).length<=50000:=d6_of (hy.n.mul hx.d).sub (by omega);have e11:(digs B6 (numQ x*numQ y)).length<=50000:=d6_of (hx.n.mul hy.n) (by omega);have e12:(digs B6 (x.den*numQ y)).length<=50000:=d6_of (hx.d.mul hy.n) (by omega);refine Calls.hide (fun Q0 hQ0=>?_);go_enter Tryz.func93,Tryz.ntmps93;go_upto_region 0 with(fail);refine wp_region_T [3,3,3] hK ?_;clear hK;refine eA (.cells #[.bool (isN x),.slice p_h0 (digs B6 (numQ x)).length c_h0,.slice q_h0 (digs B6 (den0 x)).length d_h0] 53) (fun R1=>?_);refine eA (.cells #[.bool (isN y),.slice p_h1 (digs B6 (numQ y)).length c_h1,.slice q_h1 (digs B6 (den0 y)).length d_h1] 53) (fun R2=>?_);refine eA (.cells #[.bool false,.slice none 0 0,.slice none 0 0] 53) (fun R3=>?_);refine sxEnd (fun W4 hK=>?_);go_upto_region 1 with(fail);refine wp_region_S _ [0,0,0,0,0,0,0,0,0,2,0,2,0,2,2,2,4] hK ?_ (sC2 (sR));clear hK;refine e0 ?_;refine eL0 m1 ?_;refine e0 ?_;refine eL0 m0 ?_
  iterate 2 refine e0 ?_
  refine eL0 m1 ?_;refine e0 ?_;refine eL0 m0 ?_;refine eC (fun w k=>ref_V (rmul_any _ _ _ _ w (h0_1.below k.old) (h1_1.below k.old) (by omega) (by omega))) (fun x6=>?_);obtain⟨p5,c5⟩:=x6;dsimp only;refine eL0 m1 ?_;refine eC (fun w k=>ref_V (rone_q _ _ w (h0_0.below k.old))) (fun x8=>?_);obtain⟨p7,c7⟩:=x8;dsimp only;refine eL0 m0 ?_;refine eC (fun w k=>ref_V (rone_q _ _ w (h1_0.below k.old))) (fun x10=>?_);obtain⟨p9,c9⟩:=x10;dsimp only;refine eC (fun w k=>ref_V (rmul_any _ _ _ _ w (k.vf m1) (k.vf m0) (by omega) (by omega))) (fun x12=>?_);obtain⟨p11,c11⟩:=x12;dsimp only;refine eC (fun w k=>ref_S (rmade_q _ _ (((isN x)) !=((isN y))) _ _ w (k.vf m3) (k.vf m0) (by omega) (by omega))) (fun x14=>?_);obtain⟨⟨p13,l13,c13⟩,⟨q13,u13,d13⟩⟩:=x14;dsimp only;refine eP 5 0 [.bool (isN (ofS (((isN x)) !=((isN y))) ((numQ x)*(numQ y)) (x.den*y.den))),.slice p13 l13 c13,.slice q13 u13 d13] ?_ (hs:=(sC2 (sC2 (sC2 (sC2 (sC2 (sC2 (sR)))))))) (hq:=.inr ⟨rfl,rfl,rfl,rfl,rfl,rfl,rfl,trivial⟩);refine sxEnd (fun W15 hK=>?_);have⟨c90,c91,c92⟩:=(hK.box m5).c3;go_wp2;exact bodyPost_ret (v:=.agg #[.bool (isN (ofS (((isN x)) !=((isN y))) ((numQ x)*(numQ y)) (x.den*y.den))),.slice p13 l13 c13,.slice q13 u13 d13]) (by simp[results,Tryz.results93,go_sem,c90,c91,c92]) rfl (qo hQ0 ⟨_,rfl,((congrArg (RefR _ _) (mul_of x y)).mp (hK.rq m0)),hK.old⟩)
set_option maxRecDepth 100000 in
theorem rsign_q(v0:Value)(x:Rat)(w:World)(h0:RefR w v0 x):
    Calls Tryz.prog 52 #[v0] w fun e w'=>e=.returned (.int .i64 (sgQ x))/\Below w.heap.size w w':=by
  have h0_0:=h0;obtain⟨p_h0,c_h0,q_h0,d_h0,rfl,h0_1,h0_2⟩:=h0.slr;have hK:=SS.start w;obtain⟨b0,hb0⟩:∃b,Hid (isN x=b):=⟨_,hid rfl⟩;rw[hb0.out]at h0_0⊢;refine Calls.hide (fun Q0 hQ0=>?_);go_enter Tryz.func52,Tryz.ntmps52;go_upto_region 0 with(fail);refine wp_region_T [3,0] hK ?_;clear hK;refine eA (.cells #[.bool b0,.slice p_h0 (digs B6 (numQ x)).length c_h0,.slice q_h0 (digs B6 (den0 x)).length d_h0] 53) (fun R1=>?_);refine e0 ?_;refine sxEnd (fun W2 hK=>?_);go_upto_region 1 with(fail);refine wp_region_T [0,1,0,0,0] hK ?_;clear hK;refine e0 ?_;refine eL m0 ?_;refine e0 ?_;refine eB ((((digs B6 (numQ x)).length:Int))==0) (fun b1 hb1=>?_);refine e0 ?_;refine sxEnd (fun W3 hK=>?_)
  cases b1
  . --
   go_upto_region 3 with(fail);refine wp_region_T [0,1,0] hK ?_;clear hK;refine e0 ?_;refine eL m0 ?_;refine e0 ?_;refine sxEnd (fun W4 hK=>?_)
   cases b0
   . --
    go_wp2
    try go_ret
    show Q0 (.returned (.int .i64 1)) _
    exact(qo hQ0 ⟨(by rw[sgQ_n1 (len6_pos hb1.out) hb0.out];rfl),hK.old⟩)
   go_wp2
   try go_ret
   show Q0 (.returned (.int .i64 (-1))) _
   exact(qo hQ0 ⟨(by rw[sgQ_n1 (len6_pos hb1.out) hb0.out];rfl),hK.old⟩)
  go_wp2
  try go_ret
  show Q0 (.returned (.int .i64 0)) _
  exact(qo hQ0 ⟨(by rw[sgQ_n0 (len6_zero hb1.out)]),hK.old⟩)
set_option maxRecDepth 100000 in
theorem rcmp_q(v0:Value)(v1:Value)(x:Rat)(y:Rat)(w:World)(h0:RefR w v0 x)(h1:RefR w v1 y) {k:Nat}(hx:LmQ k x)(hy:LmQ k y)(hk:k<=10000):
    Calls Tryz.prog 91 #[v0,v1] w fun e w'=>e=.returned (.int .i64 (sgQ (x-y)))/\Below w.heap.size w w':=by
  have h0_0:=h0;obtain⟨p_h0,c_h0,q_h0,d_h0,rfl,h0_1,h0_2⟩:=h0.slr;have h1_0:=h1;obtain⟨p_h1,c_h1,q_h1,d_h1,rfl,h1_1,h1_2⟩:=h1.slr;have hK:=SS.start w;refine Calls.hide (fun Q0 hQ0=>?_);go_enter Tryz.func91,Tryz.ntmps91;go_upto_region 0 with(fail);refine wp_region_T [3,3,0] hK ?_;clear hK;refine eA (.cells #[.bool (isN x),.slice p_h0 (digs B6 (numQ x)).length c_h0,.slice q_h0 (digs B6 (den0 x)).length d_h0] 53) (fun R1=>?_);refine eA (.cells #[.bool (isN y),.slice p_h1 (digs B6 (numQ y)).length c_h1,.slice q_h1 (digs B6 (den0 y)).length d_h1] 53) (fun R2=>?_);refine e0 ?_;refine sxEnd (fun W3 hK=>?_);go_upto_region 1 with(fail);refine wp_region_T [1,1,2,1,0] hK ?_;clear hK;refine eL m1 ?_;refine eL m0 ?_;refine eC (fun w k=>ref_S (rsub_q _ _ _ _ w (h0_0.below k.old) (h1_0.below k.old) hx hy hk)) (fun x5=>?_);obtain⟨⟨p4,l4,c4⟩,⟨q4,u4,d4⟩⟩:=x5;dsimp only;obtain⟨z1,hz1⟩:=nmI (sgQ (x-y));refine eQ (v:=.int .i64 z1) (fun w k=>rsign_q _ _ w (k.rq m0)) ?_ (hv:=by rw[hz1.out]);refine e0 ?_;refine sxEnd (fun W6 hK=>?_);go_wp2
  try go_ret
  show Q0 (.returned (.int .i64 z1)) _
  exact(qo hQ0 ⟨(by rw[hz1.out]),hK.old⟩)
end Go.Proofs.YtgemmbpjebijlaaGreatDoor
namespace Go.Proofs.YtgemmbpjebijlaaGreatDoor
open Go.RowKit
theorem refz0(w:World):refK.R w [.bool false,.slice none 0 0,.slice none 0 0] 0:=⟨_,_,_,rfl,refR0 w⟩
end Go.Proofs.YtgemmbpjebijlaaGreatDoor
namespace Go.Proofs.YtgemmbpjebijlaaGreatDoor
open Go.RowKit
open Go.Lib (decDigits)
set_option maxRecDepth 100000 in
set_option maxHeartbeats 400000 in
theorem rdot_any(w:World){p_h0:Option Addr}{n_h0 c_h0:Nat}{xs:List Rat}(hh0:SlV refK w (.slice p_h0 n_h0 c_h0) xs){p_h1:Option Addr}{n_h1 c_h1:Nat}{ys:List Rat}(hh1:SlV refK w (.slice p_h1 n_h1 c_h1) ys)(hb0:n_h0<=100000)(hb1:n_h1<=100000){k:Nat}(hx:LmL k xs)(hy:LmL k ys)(hk:(k+k+1)*xs.length+1<=9999)(hk2:k<=4000):
    Calls Tryz.prog 51 #[.slice p_h0 n_h0 c_h0,.slice p_h1 n_h1 c_h1] w fun e w'=> ∃x:Duo Sl Sl,e=.returned (.agg #[.bool (isN (dotQ xs ys)),.slice x.a.p x.a.l x.a.c,.slice x.b.p x.b.l x.b.c])/\SS w [rF (.agg #[.bool (isN (dotQ xs ys)),.slice x.a.p x.a.l x.a.c,.slice x.b.p x.b.l x.b.c]) (dotQ xs ys)] w':=by
  have hK:=SS.start w;have⟨nx1,nx2⟩:=lle hh0.one0;have⟨ny1,ny2⟩:=lle hh1.one0;refine Calls.hide (fun Q0 hQ0=>?_);go_enter Tryz.func51,Tryz.ntmps51;go_upto_region 0 with(fail);refine wp_region_T [3] hK ?_;clear hK;refine eA (.cells #[.bool false,.slice none 0 0,.slice none 0 0] 53) (fun R1=>?_);refine sxEnd (fun W2 hK=>?_);go_upto_region 1 with(fail);refine wp_region_T [0,3,4] hK ?_;clear hK;refine e0 ?_;refine eA (.cells #[.bool false,.slice none 0 0,.slice none 0 0] 53) (fun R3=>?_);refine eP 0 0 [.bool false,.slice none 0 0,.slice none 0 0] ?_;refine sxEnd (fun W4 hK=>?_);replace hK:=hK.fact (rF (.agg #[.bool false,.slice none 0 0,.slice none 0 0]) (0:Rat)) (refR0 _);rw[show(0:Rat)=dotQ (xs.take 0) (ys.take 0)from rfl]at hK;go_wp2_with fail;go_loopw [6] (fun s6 wl=> ∃(m:Nat) (qn:Bool) (up:Option Addr) (ul:Nat) (uc:Nat) (vp:Option Addr) (vl:Nat) (vc:Nat),s6=.int .i64 (m:Int)/\(m<=n_h0)/\SS w ([rF (.agg #[.bool qn,.slice up ul uc,.slice vp vl vc]) (dotQ (xs.take m) (ys.take m)),bx R3 (.cells #[.bool qn,.slice up ul uc,.slice vp vl vc] 53),bx R1 (.cells #[.bool false,.slice none 0 0,.slice none 0 0] 53)]) wl) (fun s6 _=>n_h0-(intOf s6).toNat)
  case atStart=>exact⟨0,false,none,0,0,none,0,0,rfl,(by omega),hK⟩
  clear hK;obtain⟨m,qn,up,ul,uc,vp,vl,vc,rfl,hm0,hK⟩:=hrel;generalize wr=W5 at hK⊢;go_upto_region 3 with(fail);refine wp_region_T [0,0,0,0,0,0,0,0,0,0] hK ?_;clear hK
  iterate 3 refine e0 ?_
  refine eB (decide (((m:Int))<((n_h0:Int)))) (fun b1 hb1=>?_);refine e0 ?_
  cases b1
  . --
   have q_b1:=nlt hb1
   iterate 4 refine eN ?_
   refine e0 ?_;refine sxEnd (fun W6 hK=>?_);go_upto_region 6 with(fail);refine wp_region_T [1,4] hK ?_;clear hK;refine eL m1 ?_;refine eP 2 0 [.bool qn,.slice up ul uc,.slice vp vl vc] ?_ (hq:=.inr ⟨rfl,rfl,trivial⟩);refine sxEnd (fun W7 hK=>?_);rw[show dotQ (xs.take m) (ys.take m)=dotQ xs ys from(dotQ_end (by have qb1:=hb1.out;(try simp at qb1);omega))]at hK;have hq0:=(refR_cells (hK.rq m0)).1;injection hq0 with hq0;subst hq0;have⟨c90,c91,c92⟩:=(hK.box m2).c3;replace hK:=hK.subl (sK2 (sC2 (sC2 sZ2)));go_wp2;exact bodyPost_ret (v:=.agg #[.bool (isN (dotQ xs ys)),.slice up ul uc,.slice vp vl vc]) (by simp[results,Tryz.results51,go_sem,c90,c91,c92]) rfl (qo hQ0 ⟨⟨⟨up,ul,uc⟩,⟨vp,vl,vc⟩⟩,rfl,hK⟩)
  have q_b1:=ylt hb1
  iterate 3 refine e0 ?_
  refine eB (decide (((m:Int))<((n_h1:Int)))) (fun b2 hb2=>?_);refine e0 ?_;refine sxEnd (fun W8 hK=>?_)
  cases b2
  . --
   have q_b2:=nlt hb2;go_upto_region 6 with(fail);refine wp_region_T [1,4] hK ?_;clear hK;refine eL m1 ?_;refine eP 2 0 [.bool qn,.slice up ul uc,.slice vp vl vc] ?_ (hq:=.inr ⟨rfl,rfl,trivial⟩);refine sxEnd (fun W9 hK=>?_);rw[show dotQ (xs.take m) (ys.take m)=dotQ xs ys from(dotQ_end (by have qb1:=hb1.out;(try simp at qb1);have qb2:=hb2.out;(try simp at qb2);omega))]at hK;have hq0:=(refR_cells (hK.rq m0)).1;injection hq0 with hq0;subst hq0;have⟨c90,c91,c92⟩:=(hK.box m2).c3;replace hK:=hK.subl (sK2 (sC2 (sC2 sZ2)));go_wp2;exact bodyPost_ret (v:=.agg #[.bool (isN (dotQ xs ys)),.slice up ul uc,.slice vp vl vc]) (by simp[results,Tryz.results51,go_sem,c90,c91,c92]) rfl (qo hQ0 ⟨⟨⟨up,ul,uc⟩,⟨vp,vl,vc⟩⟩,rfl,hK⟩)
  have q_b2:=ylt hb2;have i10:m<n_h0:=(by omega);obtain⟨g10,o10,rfl⟩:=hh0.pt i10;have l10:m<xs.length:=Nat.lt_of_lt_of_eq i10 (hh0.one0);obtain⟨xa,exa⟩:=gtH l10;obtain⟨_,_,_,xa_c,xa_r⟩:=hh0.ref exa.out;obtain⟨rfl,⟨xa_p,xa_n,xa_d,rfl⟩,xa_q,xa_m,xa_e,rfl⟩:=refR_cells xa_r;have i11:m<n_h1:=(by omega);obtain⟨g11,o11,rfl⟩:=hh1.pt i11;have l11:m<ys.length:=Nat.lt_of_lt_of_eq i11 (hh1.one0);obtain⟨ya,eya⟩:=gtH l11;obtain⟨_,_,_,ya_c,ya_r⟩:=hh1.ref eya.out;obtain⟨rfl,⟨ya_p,ya_n,ya_d,rfl⟩,ya_q,ya_m,ya_e,rfl⟩:=refR_cells ya_r;have hxl:=hid (hx xa (List.mem_of_getElem? exa.out));have hyl:=hid (hy ya (List.mem_of_getElem? eya.out));have hdl:=hid (dotQ_lmt hx hy hk m);go_upto_region 5 with(fail);refine wp_region_S _ [1,0,0,0,0,0,0,0,0,2,2,4] hK ?_ (sK2 (sC2 (sR)));clear hK;refine eL m1 ?_
  iterate 3 refine e0 ?_
  refine eRm3 (fun w k=>xa_c.below k.old) ?_
  iterate 3 refine e0 ?_
  refine eRm3 (fun w k=>ya_c.below k.old) ?_;refine eC (fun w k=>ref_S (rmul_q _ _ _ _ w (xa_r.below k.old) (ya_r.below k.old) hxl.out hyl.out (by first|decide|omega))) (fun x12=>?_);obtain⟨⟨p13,l13,c13⟩,⟨q13,u13,d13⟩⟩:=x12;dsimp only;refine eC (fun w k=>ref_S (radd_q _ _ _ _ w (k.rq m1) (k.rq m0) (hdl.out.up (by decide)) ((LmQ.mul hxl.out hyl.out).up (by omega)) (k:=10000) (by first|decide|omega))) (fun x14=>?_);obtain⟨⟨p15,l15,c15⟩,⟨q15,u15,d15⟩⟩:=x14;dsimp only;refine eP 3 0 [.bool (isN ((dotQ (xs.take m) (ys.take m))+(xa*ya))),.slice p15 l15 c15,.slice q15 u15 d15] ?_ (hs:=(sC2 (sC2 (sK2 (sC2 (sR)))))) (hq:=.inr ⟨rfl,rfl,rfl,rfl,trivial⟩);refine sxEnd (fun W16 hK=>?_);rw[show(dotQ (xs.take m) (ys.take m))+(xa*ya)=dotQ (xs.take (m+1)) (ys.take (m+1))from(dotQ_take exa.out eya.out).symm]at hK
  (try go_wp2)
  go_roundw
  case rel=>exact⟨m+1,(isN (dotQ (xs.take (m+1)) (ys.take (m+1)))),p15,l15,c15,q15,u15,d15,(by first|rfl|go_num),(by omega),(hK.subl (sK2 (sC2 (sC2 (sR)))))⟩
  case measure=>simp[intOf]<;>omega
set_option maxRecDepth 100000 in
theorem rsame_any(w:World){x y:Rat}{k:Nat}{xn:Bool}{xp xq:Option Addr}{xl xc xu xd:Nat}{yn:Bool}{yp yq:Option Addr}{yl yc yu yd:Nat}(h0:RefR w (.agg #[.bool xn,.slice xp xl xc,.slice xq xu xd]) x)(h1:RefR w (.agg #[.bool yn,.slice yp yl yc,.slice yq yu yd]) y)(hx:LmQ k x)(hy:LmQ k y)(hk:k<=10000):
    Calls Tryz.prog 50 #[.agg #[.bool xn,.slice xp xl xc,.slice xq xu xd],.agg #[.bool yn,.slice yp yl yc,.slice yq yu yd]] w fun e w'=>e=.returned (.bool (decide (x=y)))/\Below w.heap.size w w':=by
  have hK:=SS.start w;refine Calls.hide (fun Q0 hQ0=>?_);go_enter Tryz.func50,Tryz.ntmps50;go_upto_region 0 with(fail);refine wp_region_T [3,3,0] hK ?_;clear hK;refine eA (.cells #[.bool xn,.slice xp xl xc,.slice xq xu xd] 53) (fun R1=>?_);refine eA (.cells #[.bool yn,.slice yp yl yc,.slice yq yu yd] 53) (fun R2=>?_);refine e0 ?_;refine sxEnd (fun W3 hK=>?_);go_upto_region 1 with(fail);refine wp_region_T [1,1,1,0,0] hK ?_;clear hK;refine eL m1 ?_;refine eL m0 ?_;obtain⟨z1,hz1⟩:=nmI (sgQ (x-y));refine eQ (v:=.int .i64 z1) (fun w k=>rcmp_q _ _ _ _ w (h0.below k.old) (h1.below k.old) hx hy (by first|decide|omega)) ?_ (hv:=by rw[hz1.out]);refine eB (z1==0) (fun b1 hb1=>?_);refine e0 ?_;refine sxEnd (fun W4 hK=>?_);go_wp2
  try go_ret
  show Q0 (.returned (.bool b1)) _
  exact(qo hQ0 ⟨(by rw[<-same_of hz1.out]<;>first|rfl|rw[hb1.out]),hK.old⟩)
set_option maxRecDepth 100000 in
set_option maxHeartbeats 400000 in
theorem rcolumn_any(w:World){cp ap bp:Option Addr}{cl cc al ac bl bc:Nat}{P:LPd}{p_h1:Option Addr}{n_h1 c_h1:Nat}{y:List Rat}(hh1:SlV refK w (.slice p_h1 n_h1 c_h1) y)(k0:Nat)(hC:SlV refK w (.slice cp cl cc) P.c)(hA:SlV rfK w (.slice ap al ac) P.A)(hB:SlV refK w (.slice bp bl bc) P.b)(hb1:n_h1<=100000)(hl:y.length=P.A.length)(hr:∀a∈P.A,k0<a.length){k:Nat}(hy:LmL k y)(hx:LmL k (P.A.map fun a=>a.getD k0 0))(hk:(k+k+1)*y.length+1<=9999)(hk2:k<=4000):
    Calls Tryz.prog 92 #[.agg #[.slice cp cl cc,.slice ap al ac,.slice bp bl bc],.slice p_h1 n_h1 c_h1,.int .i64 (k0:Int)] w fun e w'=> ∃x:Duo Sl Sl,e=.returned (.agg #[.bool (isN (colQ P y k0)),.slice x.a.p x.a.l x.a.c,.slice x.b.p x.b.l x.b.c])/\SS w [rF (.agg #[.bool (isN (colQ P y k0)),.slice x.a.p x.a.l x.a.c,.slice x.b.p x.b.l x.b.c]) (colQ P y k0)] w':=by
  have hK:=SS.start w;have⟨nc1,nc2⟩:=lle hC.one0;have⟨na1,na2⟩:=lle hA.one0;have⟨nb1,nb2⟩:=lle hB.one0;have⟨ny1,ny2⟩:=lle hh1.one0;refine Calls.hide (fun Q0 hQ0=>?_);go_enter Tryz.func92,Tryz.ntmps92;go_upto_region 0 with(fail);refine wp_region_T [3,3] hK ?_;clear hK;refine eA (.cells #[.slice cp cl cc,.slice ap al ac,.slice bp bl bc] 32) (fun R1=>?_);refine eA (.cells #[.bool false,.slice none 0 0,.slice none 0 0] 53) (fun R2=>?_);refine sxEnd (fun W3 hK=>?_);go_upto_region 1 with(fail);refine wp_region_T [0,3,4] hK ?_;clear hK;refine e0 ?_;refine eA (.cells #[.bool false,.slice none 0 0,.slice none 0 0] 53) (fun R4=>?_);refine eP 0 0 [.bool false,.slice none 0 0,.slice none 0 0] ?_;refine sxEnd (fun W5 hK=>?_);replace hK:=hK.fact (rF (.agg #[.bool false,.slice none 0 0,.slice none 0 0]) (0:Rat)) (refR0 _);rw[show(0:Rat)=dotQ (y.take 0) ((P.A.map fun a=>a.getD k0 0).take 0)from rfl]at hK;go_wp2_with fail;go_loopw [8] (fun s8 wl=> ∃(m:Nat) (qn:Bool) (up:Option Addr) (ul:Nat) (uc:Nat) (vp:Option Addr) (vl:Nat) (vc:Nat),s8=.int .i64 (m:Int)/\(m<=al)/\SS w ([rF (.agg #[.bool qn,.slice up ul uc,.slice vp vl vc]) (dotQ (y.take m) ((P.A.map fun a=>a.getD k0 0).take m)),bx R4 (.cells #[.bool qn,.slice up ul uc,.slice vp vl vc] 53),bx R2 (.cells #[.bool false,.slice none 0 0,.slice none 0 0] 53),bx R1 (.cells #[.slice cp cl cc,.slice ap al ac,.slice bp bl bc] 32)]) wl) (fun s8 _=>al-(intOf s8).toNat)
  case atStart=>exact⟨0,false,none,0,0,none,0,0,rfl,(by omega),hK⟩
  clear hK;obtain⟨m,qn,up,ul,uc,vp,vl,vc,rfl,hm0,hK⟩:=hrel;generalize wr=W6 at hK⊢;go_upto_region 3 with(fail);refine wp_region_T [0,0,1,0,0] hK ?_;clear hK
  iterate 2 refine e0 ?_
  refine eL m3 ?_;refine e0 ?_;refine eB (decide (((m:Int))<((al:Int)))) (fun b1 hb1=>?_);refine sxEnd (fun W7 hK=>?_)
  cases b1
  . --
   have q_b1:=nlt hb1;go_upto_region 6 with(fail);refine wp_region_T [1,4] hK ?_;clear hK;refine eL m1 ?_;refine eP 2 0 [.bool qn,.slice up ul uc,.slice vp vl vc] ?_ (hq:=.inr ⟨rfl,rfl,rfl,trivial⟩);refine sxEnd (fun W8 hK=>?_);rw[show dotQ (y.take m) ((P.A.map fun a=>a.getD k0 0).take m)=colQ P y k0 from(dotQ_end (by left;have qb1:=hb1.out;(try simp at qb1);omega))]at hK;have hq0:=(refR_cells (hK.rq m0)).1;injection hq0 with hq0;subst hq0;have⟨c90,c91,c92⟩:=(hK.box m2).c3;replace hK:=hK.subl (sK2 (sC2 (sC2 (sC2 sZ2))));go_wp2;exact bodyPost_ret (v:=.agg #[.bool (isN (colQ P y k0)),.slice up ul uc,.slice vp vl vc]) (by simp[results,Tryz.results92,go_sem,c90,c91,c92]) rfl (qo hQ0 ⟨⟨⟨up,ul,uc⟩,⟨vp,vl,vc⟩⟩,rfl,hK⟩)
  have q_b1:=ylt hb1;have i9:m<n_h1:=(by omega);obtain⟨g9,o9,rfl⟩:=hh1.pt i9;have l9:m<y.length:=Nat.lt_of_lt_of_eq i9 (hh1.one0);obtain⟨ya,eya⟩:=gtH l9;obtain⟨_,_,_,ya_c,ya_r⟩:=hh1.ref eya.out;obtain⟨rfl,⟨ya_p,ya_n,ya_d,rfl⟩,ya_q,ya_m,ya_e,rfl⟩:=refR_cells ya_r;have i10:m<al:=(by omega);obtain⟨g10,o10,rfl⟩:=hA.pt i10;have l10:m<P.A.length:=Nat.lt_of_lt_of_eq i10 (hA.one0);obtain⟨a,ea⟩:=gtH l10;obtain⟨⟨a_p,a_l,a_c⟩,a_h,a_s⟩:=hA.row ea.out;dsimp only at a_h a_s;have a_n:=hid a_s.one0;have⟨a_n1,a_n2⟩:=lle a_n.out;have hal:=hid (hr a (List.mem_of_getElem? ea.out));have hal1:=hal.out;have i11:k0<a_l:=(by omega);obtain⟨g11,o11,rfl⟩:=a_s.pt i11;have l11:k0<a.length:=Nat.lt_of_lt_of_eq i11 (a_s.one0);obtain⟨xa,exa⟩:=gtH l11;obtain⟨_,_,_,xa_c,xa_r⟩:=a_s.ref exa.out;obtain⟨rfl,⟨xa_p,xa_n,xa_d,rfl⟩,xa_q,xa_m,xa_e,rfl⟩:=refR_cells xa_r;have hyl:=hid (hy ya (List.mem_of_getElem? eya.out));have hxl:=hid (hx xa (by rw[<-getD_of (d:=(0:Rat)) exa.out];exact List.mem_map_of_mem (List.mem_of_getElem? ea.out)));have hdl:=hid (dotQ_lmt hy hx hk m);have hax:Hid ((P.A.map fun a=>a.getD k0 0)[m]?=some xa):=hid (by rw[List.getElem?_map,ea.out,Option.map_some,getD_of exa.out]);go_upto_region 5 with(fail);refine wp_region_S _ [1,0,0,0,0,0,0,0,0,0,0,0,0,2,2,4] hK ?_ (sK2 (sC2 (sR)));clear hK;refine eL m1 ?_
  iterate 3 refine e0 ?_
  refine eRm3 (fun w k=>ya_c.below k.old) ?_;refine e0 ?_;refine eL0 m2 ?_
  iterate 2 refine e0 ?_
  refine eR0 (fun w k=>celB a_h k.old) ?_
  iterate 2 refine e0 ?_
  refine eRm3 (fun w k=>xa_c.below k.old) ?_;refine eC (fun w k=>ref_S (rmul_q _ _ _ _ w (ya_r.below k.old) (xa_r.below k.old) hyl.out hxl.out (by first|decide|omega))) (fun x12=>?_);obtain⟨⟨p13,l13,c13⟩,⟨q13,u13,d13⟩⟩:=x12;dsimp only;refine eC (fun w k=>ref_S (radd_q _ _ _ _ w (k.rq m1) (k.rq m0) (hdl.out.up (by decide)) ((LmQ.mul hyl.out hxl.out).up (by omega)) (k:=10000) (by first|decide|omega))) (fun x14=>?_);obtain⟨⟨p15,l15,c15⟩,⟨q15,u15,d15⟩⟩:=x14;dsimp only;refine eP 3 0 [.bool (isN ((dotQ (y.take m) ((P.A.map fun a=>a.getD k0 0).take m))+(ya*xa))),.slice p15 l15 c15,.slice q15 u15 d15] ?_ (hs:=(sC2 (sC2 (sK2 (sC2 (sR)))))) (hq:=.inr ⟨rfl,rfl,rfl,rfl,rfl,trivial⟩);refine sxEnd (fun W16 hK=>?_);rw[show(dotQ (y.take m) ((P.A.map fun a=>a.getD k0 0).take m))+(ya*xa)=dotQ (y.take (m+1)) ((P.A.map fun a=>a.getD k0 0).take (m+1))from(dotQ_take eya.out hax.out).symm]at hK
  (try go_wp2)
  go_roundw
  case rel=>exact⟨m+1,(isN (dotQ (y.take (m+1)) ((P.A.map fun a=>a.getD k0 0).take (m+1)))),p15,l15,c15,q15,u15,d15,(by first|rfl|go_num),(by omega),(hK.subl (sK2 (sC2 (sC2 (sR)))))⟩
  case measure=>simp[intOf]<;>omega
set_option maxRecDepth 100000 in
set_option maxHeartbeats 400000 in
theorem rpositive_any(w:World){p_h0:Option Addr}{n_h0 c_h0:Nat}{xs:List Rat}(hh0:SlV refK w (.slice p_h0 n_h0 c_h0) xs)(hb0:n_h0<=100000):
    Calls Tryz.prog 53 #[.slice p_h0 n_h0 c_h0] w fun e w'=>e=.returned (.bool (nnB xs))/\Below w.heap.size w w':=by
  have hK:=SS.start w;have⟨nx1,nx2⟩:=lle hh0.one0;refine Calls.hide (fun Q0 hQ0=>?_);go_enter Tryz.func53,Tryz.ntmps53;go_wp2_with fail;go_loopw [3] (fun s3 wl=> ∃(m:Nat),s3=.int .i64 (m:Int)/\(m<=n_h0)/\Hid (allN (nnP xs) m=true)/\SS w ([]) wl) (fun s3 _=>n_h0-(intOf s3).toNat)
  case atStart=>exact⟨0,rfl,(by omega),hid rfl,hK⟩
  clear hK;obtain⟨m,rfl,hm0,h_o,hK⟩:=hrel;generalize wr=W1 at hK⊢;go_upto_region 2 with(fail);refine wp_region_T [0,0,0,0] hK ?_;clear hK
  iterate 3 refine e0 ?_
  refine eB (decide (((m:Int))<((n_h0:Int)))) (fun b1 hb1=>?_);refine sxEnd (fun W2 hK=>?_)
  cases b1
  . --
   have q_b1:=nlt hb1;go_wp2
   try go_ret
   show Q0 (.returned (.bool true)) _
   exact(qo hQ0 ⟨(by unfold nnB;rw[show xs.length=m from(by omega),h_o.out]),hK.old⟩)
  have q_b1:=ylt hb1;have i3:m<n_h0:=(by omega);obtain⟨g3,o3,rfl⟩:=hh0.pt i3;have l3:m<xs.length:=Nat.lt_of_lt_of_eq i3 (hh0.one0);obtain⟨xa,exa⟩:=gtH l3;obtain⟨_,_,_,xa_c,xa_r⟩:=hh0.ref exa.out;obtain⟨rfl,⟨xa_p,xa_n,xa_d,rfl⟩,xa_q,xa_m,xa_e,rfl⟩:=refR_cells xa_r;go_upto_region 4 with(fail);refine wp_region_T [0,0,0,0,1,0] hK ?_;clear hK
  iterate 3 refine e0 ?_
  refine eRm3 (fun w k=>xa_c.below k.old) ?_;obtain⟨z1,hz1⟩:=nmI (sgQ (xa));refine eQ (v:=.int .i64 z1) (fun w k=>rsign_q _ _ w (xa_r.below k.old)) ?_ (hv:=by rw[hz1.out]);refine eB (decide (z1<0)) (fun b2 hb2=>?_);refine sxEnd (fun W4 hK=>?_)
  cases b2
  . --
   have q_b2:=nlt hb2
   (try go_wp2)
   go_roundw
   case rel=>exact⟨m+1,(by first|rfl|go_num),(by omega),hid (allN_step h_o.out (nn_at exa.out hz1.out q_b2)),hK⟩
   case measure=>simp[intOf]<;>omega
  have q_b2:=ylt hb2;go_wp2
  try go_ret
  show Q0 (.returned (.bool false)) _
  exact(qo hQ0 ⟨(by rw[nn_no (by omega) exa.out hz1.out q_b2]),hK.old⟩)
set_option maxRecDepth 100000 in
set_option maxHeartbeats 400000 in
theorem rvalid_any(w:World){cp ap bp:Option Addr}{cl cc al ac bl bc:Nat}{P:LPd}(hC:SlV refK w (.slice cp cl cc) P.c)(hA:SlV rfK w (.slice ap al ac) P.A)(hB:SlV refK w (.slice bp bl bc) P.b)(hn1:P.c.length<=100000)(hn2:P.A.length<=100000)(hn3:P.b.length<=100000):
    Calls Tryz.prog 47 #[.agg #[.slice cp cl cc,.slice ap al ac,.slice bp bl bc]] w fun e w'=>e=.returned (.bool (vldP P))/\Below w.heap.size w w':=by
  have hK:=SS.start w;have⟨nc1,nc2⟩:=lle hC.one0;have⟨na1,na2⟩:=lle hA.one0;have⟨nb1,nb2⟩:=lle hB.one0;refine Calls.hide (fun Q0 hQ0=>?_);go_enter Tryz.func47,Tryz.ntmps47;go_upto_region 0 with(fail);refine wp_region_T [3,0] hK ?_;clear hK;refine eA (.cells #[.slice cp cl cc,.slice ap al ac,.slice bp bl bc] 32) (fun R1=>?_);refine e0 ?_;refine sxEnd (fun W2 hK=>?_);go_upto_region 1 with(fail);refine wp_region_T [0,1,0,0,0,0,1,0,0,0,0,0,1,0,0,0,0,0,1,0,0,1,0,0,0] hK ?_;clear hK;refine e0 ?_;refine eL m0 ?_;refine e0 ?_;refine eB (decide (((cl:Int))<1)) (fun b1 hb1=>?_);refine e0 ?_
  cases b1
  . --
   have q_b1:=nlt hb1;refine e0 ?_;refine eL m0 ?_;refine e0 ?_;refine eB (decide (1024<((cl:Int)))) (fun b2 hb2=>?_)
   iterate 2 refine e0 ?_
   cases b2
   . --
    have q_b2:=nlt hb2;refine e0 ?_;refine eL m0 ?_;refine e0 ?_;refine eB (decide (1024<((al:Int)))) (fun b3 hb3=>?_)
    iterate 2 refine e0 ?_
    cases b3
    . --
     have q_b3:=nlt hb3;refine e0 ?_;refine eL m0 ?_
     iterate 2 refine e0 ?_
     refine eL m0 ?_;refine e0 ?_;refine eB (((bl:Int)) !=((al:Int))) (fun b4 hb4=>?_);refine e0 ?_;refine sxEnd (fun W3 hK=>?_)
     cases b4
     . --
      have hvh:=hid (show vldH P=true from vldH_of (by have qb1:=hb1.out;(try simp at qb1);have qb2:=hb2.out;(try simp at qb2);have qb3:=hb3.out;(try simp at qb3);have qb4:=hb4.out;(try simp at qb4);omega));go_upto_region 3 with(fail);refine wp_region_T [0] hK ?_;clear hK;refine e0 ?_;refine sxEnd (fun W4 hK=>?_);go_wp2_with fail;go_loopw [3] (fun s3 wl=> ∃(m:Nat),s3=.int .i64 (m:Int)/\(m<=P.A.length)/\Hid (allN (rowP P) m=true)/\SS w ([bx R1 (.cells #[.slice cp cl cc,.slice ap al ac,.slice bp bl bc] 32)]) wl) (fun s3 _=>al-(intOf s3).toNat)
      case atStart=>exact⟨0,rfl,(by omega),hid rfl,hK⟩
      clear hK;obtain⟨m,rfl,hm0,h_o,hK⟩:=hrel;generalize wr=W5 at hK⊢;go_upto_region 4 with(fail);refine wp_region_T [0,0,1,0,0] hK ?_;clear hK
      iterate 2 refine e0 ?_
      refine eL m0 ?_;refine e0 ?_;refine eB (decide (((m:Int))<((al:Int)))) (fun b5 hb5=>?_);refine sxEnd (fun W6 hK=>?_)
      cases b5
      . --
       have q_b5:=nlt hb5;go_wp2
       try go_ret
       show Q0 (.returned (.bool true)) _
       exact(qo hQ0 ⟨(by rw[vld_yes hvh.out (by rw[show P.A.length=m from(by omega)];exact h_o.out)]),hK.old⟩)
      have q_b5:=ylt hb5;have i7:m<al:=(by omega);obtain⟨g7,o7,rfl⟩:=hA.pt i7;have l7:m<P.A.length:=Nat.lt_of_lt_of_eq i7 (hA.one0);obtain⟨x,ex⟩:=gtH l7;obtain⟨⟨x_p,x_l,x_c⟩,x_h,x_s⟩:=hA.row ex.out;dsimp only at x_h x_s;have x_n:=hid x_s.one0;have⟨x_n1,x_n2⟩:=lle x_n.out;go_upto_region 6 with(fail);refine wp_region_S _ [0,0,0,0,0,0,0,0,0,0] hK ?_ (sR);clear hK;refine e0 ?_;refine eL0 m0 ?_
      iterate 2 refine e0 ?_
      refine eR0 (fun w k=>celB x_h k.old) ?_
      iterate 2 refine e0 ?_
      refine eL0 m0 ?_;refine e0 ?_;refine eB (((x_l:Int)) !=((cl:Int))) (fun b6 hb6=>?_);refine sxEnd (fun W8 hK=>?_)
      cases b6
      . --
       (try go_wp2)
       go_roundw
       case rel=>exact⟨m+1,(by first|rfl|go_num),(by omega),hid (allN_step h_o.out (by unfold rowP;rw[getD_of ex.out];have qb1:=hb1.out;(try simp at qb1);have qb2:=hb2.out;(try simp at qb2);have qb3:=hb3.out;(try simp at qb3);have qb4:=hb4.out;(try simp at qb4);have qb5:=hb5.out;(try simp at qb5);have qb6:=hb6.out;(try simp at qb6);simp;omega)),hK⟩
       case measure=>simp[intOf]<;>omega
      go_wp2
      try go_ret
      show Q0 (.returned (.bool false)) _
      exact(qo hQ0 ⟨(by rw[vld_no (i:=m) (by omega) (by rw[getD_of ex.out];have qb1:=hb1.out;(try simp at qb1);have qb2:=hb2.out;(try simp at qb2);have qb3:=hb3.out;(try simp at qb3);have qb4:=hb4.out;(try simp at qb4);have qb5:=hb5.out;(try simp at qb5);have qb6:=hb6.out;(try simp at qb6);omega)]),hK.old⟩)
     go_wp2
     try go_ret
     show Q0 (.returned (.bool false)) _
     exact(qo hQ0 ⟨(by rw[vld_head (by have qb1:=hb1.out;(try simp at qb1);have qb2:=hb2.out;(try simp at qb2);have qb3:=hb3.out;(try simp at qb3);have qb4:=hb4.out;(try simp at qb4);omega)]),hK.old⟩)
    have q_b3:=ylt hb3
    iterate 7 refine eN ?_
    refine e0 ?_;refine sxEnd (fun W9 hK=>?_);go_wp2
    try go_ret
    show Q0 (.returned (.bool false)) _
    exact(qo hQ0 ⟨(by rw[vld_head (by have qb1:=hb1.out;(try simp at qb1);have qb2:=hb2.out;(try simp at qb2);have qb3:=hb3.out;(try simp at qb3);omega)]),hK.old⟩)
   have q_b2:=ylt hb2
   iterate 4 refine eN ?_
   iterate 2 refine e0 ?_
   iterate 7 refine eN ?_
   refine e0 ?_;refine sxEnd (fun W10 hK=>?_);go_wp2
   try go_ret
   show Q0 (.returned (.bool false)) _
   exact(qo hQ0 ⟨(by rw[vld_head (by have qb1:=hb1.out;(try simp at qb1);have qb2:=hb2.out;(try simp at qb2);omega)]),hK.old⟩)
  have q_b1:=ylt hb1
  iterate 4 refine eN ?_
  iterate 2 refine e0 ?_
  iterate 4 refine eN ?_
  iterate 2 refine e0 ?_
  iterate 7 refine eN ?_
  refine e0 ?_;refine sxEnd (fun W11 hK=>?_);go_wp2
  try go_ret
  show Q0 (.returned (.bool false)) _
  exact(qo hQ0 ⟨(by rw[vld_head (by have qb1:=hb1.out;(try simp at qb1);omega)]),hK.old⟩)
end Go.Proofs.YtgemmbpjebijlaaGreatDoor
namespace Go.Proofs.YtgemmbpjebijlaaGreatDoor
open Go.RowKit
open Go.Lib (decDigits)
theorem LmL.zeros{k n:Nat}(hk:1<=k):LmL k (List.replicate n 0):=fun x hx=>by rw[(List.mem_replicate.1 hx).2];exact LmQ.nil0.up hk
set_option maxRecDepth 100000 in
set_option maxHeartbeats 400000 in
theorem rfalls_any(w:World){cp ap bp:Option Addr}{cl cc al ac bl bc:Nat}{P:LPd}{p_h1:Option Addr}{n_h1 c_h1:Nat}{r:List Rat}(hh1:SlV refK w (.slice p_h1 n_h1 c_h1) r)(hC:SlV refK w (.slice cp cl cc) P.c)(hA:SlV rfK w (.slice ap al ac) P.A)(hB:SlV refK w (.slice bp bl bc) P.b){k:Nat}(hk:(k+k+1)*12+1<=9999)(hm:LmP k P)(hP:P.Ok)(hl:r.length=P.c.length)(hr:LmL k r):
    Calls Tryz.prog 54 #[.agg #[.slice cp cl cc,.slice ap al ac,.slice bp bl bc],.slice p_h1 n_h1 c_h1] w fun e w'=>e=.returned (.bool (falB P r))/\Below w.heap.size w w':=by
  have hK:=SS.start w;have⟨nc1,nc2⟩:=lle hC.one0;have⟨na1,na2⟩:=lle hA.one0;have⟨nb1,nb2⟩:=lle hB.one0;have hn12:=hm.n;have hm12:=hm.m;have hPb:=hP.hb;have hk2:k<=4000:=(by omega);have⟨nr1,nr2⟩:=lle hh1.one0;refine Calls.hide (fun Q0 hQ0=>?_);go_enter Tryz.func54,Tryz.ntmps54;go_upto_region 0 with(fail);refine wp_region_T [3,0] hK ?_;clear hK;refine eA (.cells #[.slice cp cl cc,.slice ap al ac,.slice bp bl bc] 32) (fun R1=>?_);refine e0 ?_;refine sxEnd (fun W2 hK=>?_);go_wp2_with fail;go_loopw [5] (fun s5 wl=> ∃(m:Nat),s5=.int .i64 (m:Int)/\(m<=al)/\Hid (allN (falP P r) m=true)/\SS w ([bx R1 (.cells #[.slice cp cl cc,.slice ap al ac,.slice bp bl bc] 32)]) wl) (fun s5 _=>al-(intOf s5).toNat)
  case atStart=>exact⟨0,rfl,(by omega),hid rfl,hK⟩
  clear hK;obtain⟨m,rfl,hm0,h_o,hK⟩:=hrel;generalize wr=W3 at hK⊢;go_upto_region 2 with(fail);refine wp_region_T [0,0,1,0,0] hK ?_;clear hK
  iterate 2 refine e0 ?_
  refine eL m0 ?_;refine e0 ?_;refine eB (decide (((m:Int))<((al:Int)))) (fun b1 hb1=>?_);refine sxEnd (fun W4 hK=>?_)
  cases b1
  . --
   have q_b1:=nlt hb1;go_wp2
   try go_ret
   show Q0 (.returned (.bool true)) _
   exact(qo hQ0 ⟨(by unfold falB;rw[show P.A.length=m from(by omega),h_o.out]),hK.old⟩)
  have q_b1:=ylt hb1;have i5:m<al:=(by omega);obtain⟨g5,o5,rfl⟩:=hA.pt i5;have l5:m<P.A.length:=Nat.lt_of_lt_of_eq i5 (hA.one0);obtain⟨a,ea⟩:=gtH l5;obtain⟨⟨a_p,a_l,a_c⟩,a_h,a_s⟩:=hA.row ea.out;dsimp only at a_h a_s;have a_n:=hid a_s.one0;have⟨a_n1,a_n2⟩:=lle a_n.out;have hal:=hid (hP.ha a (List.mem_of_getElem? ea.out));have hal1:=hal.out;have ham:=hm.a a (List.mem_of_getElem? ea.out);go_upto_region 4 with(fail);refine wp_region_T [0,1,0,0,0,0,2,1,0] hK ?_;clear hK;refine e0 ?_;refine eL m0 ?_
  iterate 2 refine e0 ?_
  refine eR0 (fun w k=>celB a_h k.old) ?_;refine e0 ?_;refine eC (fun w k=>rdot_any w (a_s.below k.old) (hh1.below k.old) (by omega) (by omega) ham hr (by rw[hal.out];exact Nat.le_trans (Nat.succ_le_succ (Nat.mul_le_mul_left _ (by omega))) hk) hk2) (fun x6=>?_);obtain⟨⟨p7,l7,c7⟩,⟨q7,u7,d7⟩⟩:=x6;dsimp only;obtain⟨z1,hz1⟩:=nmI (sgQ (dotQ a r));refine eQ (v:=.int .i64 z1) (fun w k=>rsign_q _ _ w (k.rq m0)) ?_ (hv:=by rw[hz1.out]);refine eB (decide (0<z1)) (fun b2 hb2=>?_);refine sxEnd (fun W8 hK=>?_)
  cases b2
  . --
   have q_b2:=nlt hb2
   (try go_wp2)
   go_roundw
   case rel=>exact⟨m+1,(by first|rfl|go_num),(by omega),hid (allN_step h_o.out (by unfold falP;rw[getD_of ea.out];exact decide_eq_true (sgn_le hz1.out q_b2))),(hK.subl (sC2 (sR)))⟩
   case measure=>simp[intOf]<;>omega
  have q_b2:=ylt hb2;go_wp2
  try go_ret
  show Q0 (.returned (.bool false)) _
  exact(qo hQ0 ⟨(by unfold falB;rw[allN_no (k:=m) (by omega) (by unfold falP;rw[getD_of ea.out];exact decide_eq_false (sgn_gt hz1.out q_b2))]),hK.old⟩)
set_option maxRecDepth 100000 in
set_option maxHeartbeats 400000 in
theorem rfeasible_any(w:World){cp ap bp:Option Addr}{cl cc al ac bl bc:Nat}{P:LPd}{p_h1:Option Addr}{n_h1 c_h1:Nat}{x:List Rat}(hh1:SlV refK w (.slice p_h1 n_h1 c_h1) x)(hC:SlV refK w (.slice cp cl cc) P.c)(hA:SlV rfK w (.slice ap al ac) P.A)(hB:SlV refK w (.slice bp bl bc) P.b){k:Nat}(hk:(k+k+1)*12+1<=9999)(hm:LmP k P)(hP:P.Ok)(hb1:n_h1<=100000)(hx:LmL k x):
    Calls Tryz.prog 48 #[.agg #[.slice cp cl cc,.slice ap al ac,.slice bp bl bc],.slice p_h1 n_h1 c_h1] w fun e w'=>e=.returned (.bool (feaB P x))/\Below w.heap.size w w':=by
  have hK:=SS.start w;have⟨nc1,nc2⟩:=lle hC.one0;have⟨na1,na2⟩:=lle hA.one0;have⟨nb1,nb2⟩:=lle hB.one0;have hn12:=hm.n;have hm12:=hm.m;have hPb:=hP.hb;have hk2:k<=4000:=(by omega);have⟨nr1,nr2⟩:=lle hh1.one0;refine Calls.hide (fun Q0 hQ0=>?_);go_enter Tryz.func48,Tryz.ntmps48;go_upto_region 0 with(fail);refine wp_region_T [3,0] hK ?_;clear hK;refine eA (.cells #[.slice cp cl cc,.slice ap al ac,.slice bp bl bc] 32) (fun R1=>?_);refine e0 ?_;refine sxEnd (fun W2 hK=>?_);go_upto_region 1 with(fail);refine wp_region_T [0,0,0,1,0,0,0,0,1,0,0] hK ?_;clear hK
  iterate 3 refine e0 ?_
  refine eL m0 ?_;refine e0 ?_;refine eB (((n_h1:Int)) !=((cl:Int))) (fun b1 hb1=>?_);refine e0 ?_
  cases b1
  . --
   refine e0 ?_;obtain⟨b2,hb2⟩:=nmB (nnB x);refine eQ (v:=.bool b2) (fun w k=>rpositive_any w (hh1.below k.old) (by omega)) ?_ (hv:=by rw[hb2.out])
   iterate 2 refine e0 ?_
   refine sxEnd (fun W3 hK=>?_)
   cases b2
   . --
    go_wp2
    try go_ret
    show Q0 (.returned (.bool false)) _
    exact(qo hQ0 ⟨(by unfold feaB;rw[hb2.out];simp),hK.old⟩)
   have hxe:=hid (show x.length=P.c.length from(by have qb1:=hb1.out;(try simp at qb1);have qb2:=hb2.out;(try simp at qb2);omega));go_upto_region 3 with(fail);refine wp_region_T [0] hK ?_;clear hK;refine e0 ?_;refine sxEnd (fun W4 hK=>?_);go_wp2_with fail;go_loopw [5] (fun s5 wl=> ∃(m:Nat),s5=.int .i64 (m:Int)/\(m<=al)/\Hid (allN (feaP P x) m=true)/\SS w ([bx R1 (.cells #[.slice cp cl cc,.slice ap al ac,.slice bp bl bc] 32)]) wl) (fun s5 _=>al-(intOf s5).toNat)
   case atStart=>exact⟨0,rfl,(by omega),hid rfl,hK⟩
   clear hK;obtain⟨m,rfl,hm0,h_o,hK⟩:=hrel;generalize wr=W5 at hK⊢;go_upto_region 4 with(fail);refine wp_region_T [0,0,1,0,0] hK ?_;clear hK
   iterate 2 refine e0 ?_
   refine eL m0 ?_;refine e0 ?_;refine eB (decide (((m:Int))<((al:Int)))) (fun b3 hb3=>?_);refine sxEnd (fun W6 hK=>?_)
   cases b3
   . --
    have q_b3:=nlt hb3;go_wp2
    try go_ret
    show Q0 (.returned (.bool true)) _
    exact(qo hQ0 ⟨(by unfold feaB;rw[show P.A.length=m from(by omega),h_o.out,hb2.out,decide_eq_true hxe.out];rfl),hK.old⟩)
   have q_b3:=ylt hb3;have i7:m<al:=(by omega);obtain⟨g7,o7,rfl⟩:=hA.pt i7;have l7:m<P.A.length:=Nat.lt_of_lt_of_eq i7 (hA.one0);obtain⟨a,ea⟩:=gtH l7;obtain⟨⟨a_p,a_l,a_c⟩,a_h,a_s⟩:=hA.row ea.out;dsimp only at a_h a_s;have a_n:=hid a_s.one0;have⟨a_n1,a_n2⟩:=lle a_n.out;have hal:=hid (hP.ha a (List.mem_of_getElem? ea.out));have hal1:=hal.out;have ham:=hm.a a (List.mem_of_getElem? ea.out);have i8:m<bl:=(by omega);obtain⟨g8,o8,rfl⟩:=hB.pt i8;have l8:m<P.b.length:=Nat.lt_of_lt_of_eq i8 (hB.one0);obtain⟨xb,exb⟩:=gtH l8;obtain⟨_,_,_,xb_c,xb_r⟩:=hB.ref exb.out;obtain⟨rfl,⟨xb_p,xb_n,xb_d,rfl⟩,xb_q,xb_m,xb_e,rfl⟩:=refR_cells xb_r;have hxb:=hm.b xb (List.mem_of_getElem? exb.out);go_upto_region 6 with(fail);refine wp_region_S _ [0,0,0,0,0,0,2,0,0,0,0,0,1,0] hK ?_ (sR);clear hK;refine e0 ?_;refine eL0 m0 ?_
   iterate 2 refine e0 ?_
   refine eR0 (fun w k=>celB a_h k.old) ?_;refine e0 ?_;refine eC (fun w k=>rdot_any w (a_s.below k.old) (hh1.below k.old) (by omega) (by omega) ham hx (by rw[hal.out];exact Nat.le_trans (Nat.succ_le_succ (Nat.mul_le_mul_left _ (by omega))) hk) hk2) (fun x9=>?_);obtain⟨⟨p10,l10,c10⟩,⟨q10,u10,d10⟩⟩:=x9;dsimp only;refine e0 ?_;refine eL0 m0 ?_
   iterate 2 refine e0 ?_
   refine eRm3 (fun w k=>xb_c.below k.old) ?_;obtain⟨z1,hz1⟩:=nmI (sgQ ((dotQ a x)-xb));refine eQ (v:=.int .i64 z1) (fun w k=>rcmp_q _ _ _ _ w (k.rq m0) (xb_r.below k.old) (dotQ_lm ham hx|>.up (by rw[hal.out];exact Nat.le_trans (Nat.succ_le_succ (Nat.mul_le_mul_left _ (by omega))) hk)) (hxb.up (by omega)) (by first|decide|omega)) ?_ (hv:=by rw[hz1.out]);refine eB (decide (0<z1)) (fun b4 hb4=>?_);refine sxEnd (fun W11 hK=>?_)
   cases b4
   . --
    have q_b4:=nlt hb4
    (try go_wp2)
    go_roundw
    case rel=>exact⟨m+1,(by first|rfl|go_num),(by omega),hid (allN_step h_o.out (by unfold feaP;rw[getD_of ea.out,getD_of exb.out];exact decide_eq_true (le_of_sg hz1.out q_b4))),(hK.subl (sC2 (sR)))⟩
    case measure=>simp[intOf]<;>omega
   have q_b4:=ylt hb4;go_wp2
   try go_ret
   show Q0 (.returned (.bool false)) _
   exact(qo hQ0 ⟨(by unfold feaB;rw[allN_no (k:=m) (by omega) (by unfold feaP;rw[getD_of ea.out,getD_of exb.out];exact decide_eq_false (gt_of_sg hz1.out q_b4))];simp),hK.old⟩)
  iterate 3 refine eN ?_
  refine e0 ?_;refine sxEnd (fun W12 hK=>?_);go_wp2
  try go_ret
  show Q0 (.returned (.bool false)) _
  exact(by obtain rfl:=hQ0.out;exact⟨(by unfold feaB;rw[decide_eq_false (show ¬x.length=P.c.length from(by have qb1:=hb1.out;(try simp at qb1);omega))];rfl),hK.old⟩)
set_option maxRecDepth 100000 in
set_option maxHeartbeats 400000 in
theorem rcovers_any(w:World){cp ap bp:Option Addr}{cl cc al ac bl bc:Nat}{P:LPd}{p_h1:Option Addr}{n_h1 c_h1:Nat}{y:List Rat}(hh1:SlV refK w (.slice p_h1 n_h1 c_h1) y){p_h2:Option Addr}{n_h2 c_h2:Nat}{q:List Rat}(hh2:SlV refK w (.slice p_h2 n_h2 c_h2) q)(hC:SlV refK w (.slice cp cl cc) P.c)(hA:SlV rfK w (.slice ap al ac) P.A)(hB:SlV refK w (.slice bp bl bc) P.b){k:Nat}(hk:(k+k+1)*12+1<=9999)(hm:LmP k P)(hP:P.Ok)(hk1:1<=k)(hb1:n_h1<=100000)(hy:LmL k y)(hq:LmL k q)(hql:q.length=P.c.length):
    Calls Tryz.prog 49 #[.agg #[.slice cp cl cc,.slice ap al ac,.slice bp bl bc],.slice p_h1 n_h1 c_h1,.slice p_h2 n_h2 c_h2] w fun e w'=>e=.returned (.bool (covB P y q))/\Below w.heap.size w w':=by
  have hK:=SS.start w;have⟨nc1,nc2⟩:=lle hC.one0;have⟨na1,na2⟩:=lle hA.one0;have⟨nb1,nb2⟩:=lle hB.one0;have hn12:=hm.n;have hm12:=hm.m;have hPb:=hP.hb;have hk2:k<=4000:=(by omega);have⟨ny1,ny2⟩:=lle hh1.one0;have⟨nq1,nq2⟩:=lle hh2.one0;refine Calls.hide (fun Q0 hQ0=>?_);go_enter Tryz.func49,Tryz.ntmps49;go_upto_region 0 with(fail);refine wp_region_T [3,0] hK ?_;clear hK;refine eA (.cells #[.slice cp cl cc,.slice ap al ac,.slice bp bl bc] 32) (fun R1=>?_);refine e0 ?_;refine sxEnd (fun W2 hK=>?_);go_upto_region 1 with(fail);refine wp_region_T [0,0,0,1,0,0,0,0,1,0,0] hK ?_;clear hK
  iterate 3 refine e0 ?_
  refine eL m0 ?_;refine e0 ?_;refine eB (((n_h1:Int)) !=((al:Int))) (fun b1 hb1=>?_);refine e0 ?_
  cases b1
  . --
   refine e0 ?_;obtain⟨b2,hb2⟩:=nmB (nnB y);refine eQ (v:=.bool b2) (fun w k=>rpositive_any w (hh1.below k.old) (by omega)) ?_ (hv:=by rw[hb2.out])
   iterate 2 refine e0 ?_
   refine sxEnd (fun W3 hK=>?_)
   cases b2
   . --
    go_wp2
    try go_ret
    show Q0 (.returned (.bool false)) _
    exact(qo hQ0 ⟨(by unfold covB;rw[hb2.out];simp),hK.old⟩)
   have hye:=hid (show y.length=P.A.length from(by have qb1:=hb1.out;(try simp at qb1);have qb2:=hb2.out;(try simp at qb2);omega));go_upto_region 3 with(fail);refine wp_region_T [0] hK ?_;clear hK;refine e0 ?_;refine sxEnd (fun W4 hK=>?_);go_wp2_with fail;go_loopw [7] (fun s7 wl=> ∃(m:Nat),s7=.int .i64 (m:Int)/\(m<=cl)/\Hid (allN (covP P y q) m=true)/\SS w ([bx R1 (.cells #[.slice cp cl cc,.slice ap al ac,.slice bp bl bc] 32)]) wl) (fun s7 _=>cl-(intOf s7).toNat)
   case atStart=>exact⟨0,rfl,(by omega),hid rfl,hK⟩
   clear hK;obtain⟨m,rfl,hm0,h_o,hK⟩:=hrel;generalize wr=W5 at hK⊢;go_upto_region 4 with(fail);refine wp_region_T [0,0,1,0,0] hK ?_;clear hK
   iterate 2 refine e0 ?_
   refine eL m0 ?_;refine e0 ?_;refine eB (decide (((m:Int))<((cl:Int)))) (fun b3 hb3=>?_);refine sxEnd (fun W6 hK=>?_)
   cases b3
   . --
    have q_b3:=nlt hb3;go_wp2
    try go_ret
    show Q0 (.returned (.bool true)) _
    exact(qo hQ0 ⟨(by unfold covB;rw[show P.c.length=m from(by omega),h_o.out,hb2.out,decide_eq_true hye.out];rfl),hK.old⟩)
   have q_b3:=ylt hb3;have i7:m<n_h2:=(by omega);obtain⟨g7,o7,rfl⟩:=hh2.pt i7;have l7:m<q.length:=Nat.lt_of_lt_of_eq i7 (hh2.one0);obtain⟨xb,exb⟩:=gtH l7;obtain⟨_,_,_,xb_c,xb_r⟩:=hh2.ref exb.out;obtain⟨rfl,⟨xb_p,xb_n,xb_d,rfl⟩,xb_q,xb_m,xb_e,rfl⟩:=refR_cells xb_r;have hxb:=hq xb (List.mem_of_getElem? exb.out);have hmc:m<P.c.length:=(by omega);go_upto_region 6 with(fail);refine wp_region_S _ [0,0,0,2,0,0,0,0,1,0] hK ?_ (sR);clear hK;refine eL0 m0 ?_
   iterate 2 refine e0 ?_
   refine eC (fun w k=>rcolumn_any w (hh1.below k.old) m (hC.below k.old) (hA.below k.old) (hB.below k.old) (by omega) hye.out (fun a ha=>by rw[hP.ha a ha];exact hmc) hy (hm.colm hk1) (by rw[hye.out];exact Nat.le_trans (Nat.succ_le_succ (Nat.mul_le_mul_left _ (by omega))) hk) hk2) (fun x8=>?_);obtain⟨⟨p9,l9,c9⟩,⟨q9,u9,d9⟩⟩:=x8;dsimp only
   iterate 3 refine e0 ?_
   refine eRm3 (fun w k=>xb_c.below k.old) ?_;obtain⟨z1,hz1⟩:=nmI (sgQ ((colQ P y m)-xb));refine eQ (v:=.int .i64 z1) (fun w k=>rcmp_q _ _ _ _ w (k.rq m0) (xb_r.below k.old) ((dotQ_lm hy (hm.colm hk1)).up (by rw[hye.out];exact Nat.le_trans (Nat.succ_le_succ (Nat.mul_le_mul_left _ (by omega))) hk)) (hxb.up (by omega)) (by first|decide|omega)) ?_ (hv:=by rw[hz1.out]);refine eB (decide (z1<0)) (fun b4 hb4=>?_);refine sxEnd (fun W10 hK=>?_)
   cases b4
   . --
    have q_b4:=nlt hb4
    (try go_wp2)
    go_roundw
    case rel=>exact⟨m+1,(by first|rfl|go_num),(by omega),hid (allN_step h_o.out (by unfold covP;rw[getD_of exb.out];exact decide_eq_true (ge_of_sg hz1.out q_b4))),(hK.subl (sC2 (sR)))⟩
    case measure=>simp[intOf]<;>omega
   have q_b4:=ylt hb4;go_wp2
   try go_ret
   show Q0 (.returned (.bool false)) _
   exact(qo hQ0 ⟨(by unfold covB;rw[allN_no (k:=m) (by omega) (by unfold covP;rw[getD_of exb.out];exact decide_eq_false (lt_of_sg hz1.out q_b4))];simp),hK.old⟩)
  iterate 3 refine eN ?_
  refine e0 ?_;refine sxEnd (fun W11 hK=>?_);go_wp2
  try go_ret
  show Q0 (.returned (.bool false)) _
  exact(by obtain rfl:=hQ0.out;exact⟨(by unfold covB;rw[decide_eq_false (show ¬y.length=P.A.length from(by have qb1:=hb1.out;(try simp at qb1);omega))];rfl),hK.old⟩)
end Go.Proofs.YtgemmbpjebijlaaGreatDoor
namespace Go.Proofs.YtgemmbpjebijlaaGreatDoor
open Go.RowKit
open Go.Lib (decDigits)
theorem rparse_q0(l:List UInt8)(w:World)(hl:l.length<=1000000):
    Calls Tryz.prog 83 #[.string ⟨l.toArray⟩] w fun e w'=> ∃v,e=.returned (.tuple #[v,.int .i64 (parseErr l)])/\RefV w' v (parseVal l)/\Below w.heap.size w w':=rparse_any ⟨l.toArray⟩ w (by simpa[ByteArray.size]using hl)
theorem pv_len6(l:List UInt8):(digs B6 (parseVal l)).length<=l.length:=digs_len_le b6_2 _ _ (Nat.lt_of_lt_of_le (parseVal_lt (Nat.le_refl _)) (Nat.pow_le_pow_left (by decide) _))
end Go.Proofs.YtgemmbpjebijlaaGreatDoor
namespace Go.Proofs.YtgemmbpjebijlaaGreatDoor
open Go.RowKit
open Go.Lib (decDigits)
theorem cut_first{l:List UInt8}{k:Nat}(hk:k<l.length)(h:∀j (h:j<l.length),j<k->l[j]≠47)(hc:l[k]=47):cutA l=l.take k/\cutB l=some (l.drop (k+1)):=by
  have e:l=l.take k++47::l.drop (k+1):=by
    rw[<-hc, <-List.drop_eq_getElem_cons hk,List.take_append_drop]
  have h1:∀c∈l.take k,c≠47:=fun c hc=>by
    obtain⟨j,hj,rfl⟩:=List.getElem_of_mem hc;rw[List.length_take]at hj;rw[List.getElem_take];exact h j (by omega) (by omega)
  have h2:=cut_at (l:=l.take k) (m:=l.drop (k+1)) h1;rw[<-e]at h2;exact h2
theorem ext_take(s:ByteArray)(k:Nat):s.extract 0 k=⟨(s.data.toList.take k).toArray⟩:=by
  apply ByteArray.ext;apply Array.toList_inj.1;simp[ByteArray.data_extract]
theorem ext_drop(s:ByteArray)(k:Nat):s.extract k s.size=⟨(s.data.toList.drop k).toArray⟩:=by
  apply ByteArray.ext;apply Array.toList_inj.1;rw[ByteArray.data_extract,Array.toList_extract,List.extract_eq_take_drop];exact List.take_of_length_le (by rw[List.length_drop];exact Nat.le_refl _)
set_option maxRecDepth 100000 in
theorem rcut_any(s:ByteArray)(w:World)(hs:s.size<=1000000):
    Calls Tryz.prog 82 #[.string s] w fun e w'=>e=.returned (.tuple #[.string ⟨(cutA s.data.toList).toArray⟩,.string ⟨((cutB s.data.toList).getD []).toArray⟩,.bool (cutB s.data.toList).isSome])/\Below w.heap.size w w':=by
  refine Calls.hide (fun Q0 hQ0=>?_);go_enter Tryz.func82,Tryz.ntmps82;go_wp2_with fail;go_loopw [5] (fun i wr=> ∃k:Nat,k<=s.size/\i=.int .i64 k/\Hid (∀j (h:j<s.data.toList.length),j<k->s.data.toList[j]≠47)/\Hid (Below w.heap.size w wr)) (fun i _=>s.size-(intOf i).toNat)
  case atStart=>exact⟨0,Nat.zero_le _,rfl,hid (fun j _ h=>absurd h (by omega)),hid (Below.refl _ _)⟩
  obtain⟨k,hk,rfl,HD,HW⟩:=hrel
  by_cases hlt:k<s.size
  . have hl:k<s.data.toList.length:=by rw[str_len];exact hlt
    by_cases hc:s[k].toNat=47
    . have HC:=hid (show s.data.toList[k]=47 by rw[<-str_at s k hlt];exact UInt8.toNat_inj.1 hc);have hc':((s[k].toNat:Int)==47)=true:=by simp[hc]
      clear hc;go_wp2;have hk2:wrap64 ((k:Int)+1)=(k:Int)+1:=by unfold wrap64;omega
      refine wp_region_float (wr) _ [0,0,0,0,0,0,0,0,0,0] (by kernel_rfl) (by kernel_rfl) (by kernel_rfl) (by kernel_rfl) (KS.drew (KS.start wr)) ?_
      iterate 6 (refine zs3 ?_)
      apply lxF0 (wants0 rfl);(· intro w' h0;go_simp;(try go_bits);rw[if_pos (by omega)];exact⟨rfl,rfl⟩);simp only[Act.put,List.setIfInBounds_toArray,List.set_cons_zero,List.set_cons_succ]
      iterate 3 (refine zs3 ?_)
      refine lxEnd (fun W9 hK=>?_);have HB:=HW.out.trans (hK.old.mono HW.out.size);go_wp2;have hcut:=cut_first hl HD.out HC.out
      exact bodyPost_ret (v:=.tuple #[.string (s.extract 0 k),.string (s.extract (k+1) s.size),.bool true]) (by simp[results,Tryz.results82,go_sem]) rfl (by
        obtain rfl:=hQ0.out;refine⟨?_,HB⟩;rw[hcut.1,hcut.2,ext_take,ext_drop];rfl)
    have hc':((s[k].toNat:Int)==47)=false:=by simp;omega
    have HD':=hid (show ∀j (h:j<s.data.toList.length),j<k+1->s.data.toList[j]≠47 from fun j h hj=>by
      by_cases e:j=k
      . subst e;rw[<-str_at s j hlt];exact fun e=>hc (by rw[e];rfl)
      exact HD.out j h (by omega))
    clear hc;go_wp2;go_roundw
    case rel=>exact⟨k+1,by omega,by go_num,HD',HW⟩
    case measure=>simp[intOf];omega
  obtain rfl:k=s.size:=by omega
  have hcut:=cut_none (l:=s.data.toList) (fun c hc=>by
    obtain⟨j,hj,rfl⟩:=List.getElem_of_mem hc;exact HD.out j hj (by rw[str_len]at hj;exact hj))
  go_wp2
  exact bodyPost_ret (v:=.tuple #[.string s,.string ⟨#[]⟩,.bool false]) (by simp[results,Tryz.results82,go_sem]) rfl (by
    obtain rfl:=hQ0.out;refine⟨?_,HW.out⟩;rw[hcut.1,hcut.2];rfl)
end Go.Proofs.YtgemmbpjebijlaaGreatDoor
namespace Go.Proofs.YtgemmbpjebijlaaGreatDoor
open Go.RowKit
open Go.Lib (decDigits)
theorem rcut_q(l:List UInt8)(w:World)(hl:l.length<=1000000):
    Calls Tryz.prog 82 #[.string ⟨l.toArray⟩] w fun e w'=>e=.returned (.tuple #[.string ⟨(cutA l).toArray⟩,.string ⟨((cutB l).getD []).toArray⟩,.bool (cutB l).isSome])/\Below w.heap.size w w':=rcut_any ⟨l.toArray⟩ w (by simpa[ByteArray.size]using hl)
theorem parse49:parseVal [49]=1/\parseErr [49]=0:=by
  have e:decDigits 1=[49]:=by rw[dec_small (by decide)];rfl
  have h:=parse_dec (n:=1) (by rw[e];decide);rw[e]at h;exact⟨h.2,h.1⟩
theorem vF_to{V w:World}{l:List Ft}{p:Option Addr}{c n m:Nat}(h:SS V (vF (.slice p (digs B6 n).length c) n::l) w)(e:n=m):SS V (vF (.slice p (digs B6 m).length c) m::l) w:=e▸h
theorem head_minus{l:List UInt8}:isMinus l=(decide (0<(l.length:Int))&&(((l.headD 0).toNat:Int)==45)):=by
  cases l with
  |nil=>rfl
  | cons c t=>
    by_cases h:c=45
    . subst h;simp[isMinus]
    have h2:c.toNat≠45:=fun e=>h (UInt8.toNat_inj.1 e)
    have h3:((c.toNat:Int)==45)=false:=by rw[beq_eq_false_iff_ne];omega
    show isMinus (c::t)=(_&&((c.toNat:Int)==45))
    rw[h3,Bool.and_false];simp[isMinus,h]
theorem minus_drop{l:List UInt8}(h:isMinus l=true):l.drop 1=noMinus l/\1<=l.length:=by
  cases l with
  |nil=>cases h
  | cons c t=>
    have:c=45:=by simpa[isMinus]using h
    subst this;exact⟨by simp[noMinus],by simp⟩
theorem minus_no{l:List UInt8}(h:isMinus l=false):noMinus l=l:=by
  cases l with
  |nil=>rfl
  | cons c t=>
    have:c≠45:=by simpa[isMinus]using h
    simp[noMinus,this]
set_option maxRecDepth 100000 in
theorem qparse_r (l:List UInt8)(w:World) (hl:l.length<=10000):
    Calls Tryz.prog 44 #[.string ⟨l.toArray⟩] w fun e w'=> ∃y0,e=.returned (.tuple #[y0,.int .i64 (errQ l)])/\RefR w' y0 (valQ l)/\Below w.heap.size w w':=by
  have hK:=SS.start w;have e1:=noMinus_len l;have e2:=cutA_len (noMinus l);have e3:=secB_len l;have e4:=pv_len6 (cutA (noMinus l));have e5:=pv_len6 (secQ l);have e6:(digs B6 1).length<=1:=by rw[digs6_1];exact Nat.le_refl _
  have e8:(secQ l).length<=10001:=secQ_len hl;have e7:(digs B6 (parseVal [49])).length<=1:=pv_len6 _;obtain⟨bm,hbm⟩:=nmB (isMinus l);refine Calls.hide (fun Q0 hQ0=>?_);go_enter Tryz.func44,Tryz.ntmps44;go_upto_region 0 with(fail);refine wp_region_T [3,0] hK ?_;clear hK;refine eA (.cells #[.bool false,.slice none 0 0,.slice none 0 0] 53) (fun R1=>?_);refine e0 ?_;refine sxEnd (fun W2 hK=>?_);go_upto_region 1 with(fail);go_cut [4]from 9999 to 9999 (fun s4 wl=>s4=.bool bm/\SS w ([bx R1 (.cells #[.bool false,.slice none 0 0,.slice none 0 0] 53)]) wl)
  case first=>
   go_upto_region 1 with(fail);refine wp_region_T [0,0,0,0,0,0,0,0,0] hK ?_;clear hK
   iterate 2 refine e0 ?_
   refine eB (decide (0<((l.length:Int)))) (fun b1 hb1=>?_);refine e0 ?_
   cases b1
   . --
    have q_b1:=nlt hb1
    iterate 3 refine eN ?_
    iterate 2 refine e0 ?_
    refine sxEnd (fun W3 hK=>?_)
    (try go_wp2)
    go_meet
    case rel=>exact⟨(congrArg Value.bool (by rw[<-hbm.out,head_minus];first|(rw[hb1.out,hb2.out];rfl)|(rw[hb1.out];rfl))),hK⟩
   have q_b1:=ylt hb1;refine e0 ?_;refine eV (.int .u8 ((l.headD 0).toNat:Int)) (fun w'=>by go_simp;(try go_bits);rcases l with _|⟨c,t⟩;(· simp at q_b1);exact⟨rfl,rfl⟩) ?_;refine eB ((((l.headD 0).toNat:Int))==45) (fun b2 hb2=>?_)
   iterate 2 refine e0 ?_
   refine sxEnd (fun W4 hK=>?_)
   (try go_wp2)
   go_meet
   case rel=>exact⟨(congrArg Value.bool (by rw[<-hbm.out,head_minus];first|(rw[hb1.out,hb2.out];rfl)|(rw[hb1.out];rfl))),hK⟩
  clear hK;obtain⟨rfl,hK⟩:=hcut;generalize wc=W5 at hK⊢;go_upto_if 20 with(fail);go_cut [0]from 9999 to 9999 (fun s0 wl=>s0=.string ⟨(noMinus l).toArray⟩/\SS w ([bx R1 (.cells #[.bool false,.slice none 0 0,.slice none 0 0] 53)]) wl)
  case first=>
   cases bm
   . --
    (try go_wp2)
    go_meet
    case rel=>exact⟨(by rw[minus_no hbm.out]),hK⟩
   go_upto_region 3 with(fail);refine wp_region_T [0,0,0] hK ?_;clear hK;refine e0 ?_;refine eV (.string ⟨(noMinus l).toArray⟩) (fun w'=>by go_simp;(try go_bits);have q:=minus_drop hbm.out;(try rw[if_pos (by omega)]);exact⟨congrArg Value.string ((ext_drop ⟨l.toArray⟩ 1).trans (by rw[<-q.1])),rfl⟩) ?_;refine e0 ?_;refine sxEnd (fun W6 hK=>?_)
   (try go_wp2)
   go_meet
   case rel=>exact⟨rfl,hK⟩
  clear hK;obtain⟨rfl,hK⟩:=hcut;generalize wc=W7 at hK⊢;go_upto_region 4 with(fail);refine wp_region_T [0,1,0,0,0,0,0,0,0] hK ?_;clear hK;refine e0 ?_;obtain⟨b1,hb1⟩:=nmB ((cutB (noMinus l)).isSome);refine eQ (v:=.tuple #[.string ⟨(cutA (noMinus l)).toArray⟩,.string ⟨((cutB (noMinus l)).getD []).toArray⟩,.bool b1]) (fun w k=>rcut_q (noMinus l) w (by omega)) ?_ (hv:=by rw[hb1.out])
  iterate 7 refine e0 ?_
  refine sxEnd (fun W8 hK=>?_);go_upto_region 5 with(fail);refine wp_region_T [0,2,0,0,0,0,0] hK ?_;clear hK;refine e0 ?_;obtain⟨z1,hz1⟩:=nmI (parseErr (cutA (noMinus l)));refine eC (fun w k=>(by have q:=ref_V (rparse_q0 (cutA (noMinus l)) w (by omega));rw[hz1.out]at q;exact q)) (fun x10=>?_);obtain⟨p9,c9⟩:=x10;dsimp only
  iterate 5 refine e0 ?_
  refine sxEnd (fun W11 hK=>?_);go_upto_region 6 with(fail);refine wp_region_T [2,0,0] hK ?_;clear hK;refine eC (fun w k=>ref_V (rof_any 1 w (by omega))) (fun x13=>?_);obtain⟨p12,c12⟩:=x13;dsimp only
  iterate 2 refine e0 ?_
  refine sxEnd (fun W14 hK=>?_);go_upto_if 35 with(fail);go_cut [10,11]from 9999 to 9999 (fun s10 s11 wl=> ∃(dp:Option Addr) (dc:Nat),s10=.slice dp (digs B6 (parseVal (secQ l))).length dc/\s11=.int .i64 (parseErr (secQ l))/\SS w ([vF (.slice dp (digs B6 (parseVal (secQ l))).length dc) (parseVal (secQ l)),vF (.slice p9 (digs B6 (parseVal (cutA (noMinus l)))).length c9) (parseVal (cutA (noMinus l))),bx R1 (.cells #[.bool false,.slice none 0 0,.slice none 0 0] 53)]) wl)
  case first=>
   cases b1
   . --
    have hs9:secQ l=[49]:=(sec_f hb1.out).symm;have hp9:1=parseVal (secQ l):=by rw[hs9];exact parse49.1.symm
    replace hK:=vF_to hK hp9
    (try go_wp2)
    go_meet
    case rel=>exact⟨p12,c12,(by rw[hp9]),(by rw[hs9,parse49.2]),hK⟩
   go_upto_region 8 with(fail);refine wp_region_T [0,2,0,0,0,0,0] hK ?_;clear hK;refine e0 ?_;obtain⟨z2,hz2⟩:=nmI (parseErr ((cutB (noMinus l)).getD []));refine eC (fun w k=>(by have q:=ref_V (rparse_q0 ((cutB (noMinus l)).getD []) w (by omega));rw[hz2.out]at q;exact q)) (fun x16=>?_);obtain⟨p15,c15⟩:=x16;dsimp only
   iterate 5 refine e0 ?_
   refine sxEnd (fun W17 hK=>?_);replace hK:=vF_to hK (congrArg parseVal (sec_t hb1.out))
   (try go_wp2)
   go_meet
   case rel=>exact⟨p15,c15,(by rw[sec_t hb1.out]),(by rw[<-hz2.out,sec_t hb1.out]),(hK.subl (sK2 (sC2 (sR))))⟩
  clear hK;obtain⟨dp,dc,rfl,rfl,hK⟩:=hcut;generalize wc=W18 at hK⊢;go_upto_region 9 with(fail);refine wp_region_T [0,0,0,0,0,0,0] hK ?_;clear hK;refine e0 ?_;refine eB (z1==3) (fun b2 hb2=>?_);refine e0 ?_
  cases b2
  . --
   refine e0 ?_;refine eB (((parseErr (secQ l)))==3) (fun b3 hb3=>?_)
   iterate 2 refine e0 ?_
   refine sxEnd (fun W19 hK=>?_)
   cases b3
   . --
    go_upto_region 11 with(fail);refine wp_region_T [0,0,0,0,0,0,0] hK ?_;clear hK;refine e0 ?_;refine eB (z1 !=0) (fun b4 hb4=>?_);refine e0 ?_
    cases b4
    . --
     refine e0 ?_;refine eB (((parseErr (secQ l))) !=0) (fun b5 hb5=>?_)
     iterate 2 refine e0 ?_
     refine sxEnd (fun W20 hK=>?_)
     cases b5
     . --
      go_upto_region 13 with(fail);refine wp_region_T [0,0,0,2,0,0,4,0] hK ?_;clear hK
      iterate 3 refine e0 ?_
      obtain⟨z2,hz2⟩:=nmI (if(parseVal (secQ l))=0 then 10 else 0);refine eC (fun w k=>(by have q:=ref2_S (rmake_q _ _ bm _ _ w (k.vf m1) (k.vf m0) (by omega) (by omega));rw[hz2.out]at q;exact q)) (fun x22=>?_);obtain⟨⟨p21,l21,c21⟩,⟨q21,u21,d21⟩⟩:=x22;dsimp only
      iterate 2 refine e0 ?_
      refine eP 3 0 [.bool (isN (ofS bm (parseVal (cutA (noMinus l))) (parseVal (secQ l)))),.slice p21 l21 c21,.slice q21 u21 d21] ?_ (hq:=.inr ⟨rfl,rfl,rfl,trivial⟩);refine e0 ?_;refine sxEnd (fun W23 hK=>?_);have⟨c90,c91,c92⟩:=(hK.box m3).c3;go_wp2;exact bodyPost_ret (v:=.tuple #[.agg #[.bool (isN (ofS bm (parseVal (cutA (noMinus l))) (parseVal (secQ l)))),.slice p21 l21 c21,.slice q21 u21 d21],.int .i64 z2]) (by simp[results,Tryz.results44,go_sem,c90,c91,c92]) rfl (qo hQ0 ⟨_,(by rw[(err_0 rfl hz1.out rfl hb4.out hb5.out hz2.out).1]),((congrArg (RefR _ _) (by rw[<-hbm.out];exact(err_0 rfl hz1.out rfl hb4.out hb5.out hz2.out).2)).mp (hK.rq m0)),hK.old⟩)
     go_upto_region 12 with(fail);refine wp_region_T [0,4,0] hK ?_;clear hK;refine e0 ?_;refine eP 2 0 [.bool false,.slice none 0 0,.slice none 0 0] ?_;refine e0 ?_;refine sxEnd (fun W24 hK=>?_);have⟨c90,c91,c92⟩:=(hK.box m2).c3;go_wp2;exact bodyPost_ret (v:=.tuple #[.agg #[.bool false,.slice none 0 0,.slice none 0 0],.int .i64 6]) (by simp[results,Tryz.results44,go_sem,c90,c91,c92]) rfl (qo hQ0 ⟨_,(by rw[(err_6 rfl hz1.out rfl hb2.out hb3.out (.inr hb5.out)).1]),(by rw[(err_6 rfl hz1.out rfl hb2.out hb3.out (.inr hb5.out)).2];exact RefR.zero _),hK.old⟩)
    iterate 2 refine eN ?_
    iterate 2 refine e0 ?_
    refine sxEnd (fun W25 hK=>?_);go_upto_region 12 with(fail);refine wp_region_T [0,4,0] hK ?_;clear hK;refine e0 ?_;refine eP 2 0 [.bool false,.slice none 0 0,.slice none 0 0] ?_;refine e0 ?_;refine sxEnd (fun W26 hK=>?_);have⟨c90,c91,c92⟩:=(hK.box m2).c3;go_wp2;exact bodyPost_ret (v:=.tuple #[.agg #[.bool false,.slice none 0 0,.slice none 0 0],.int .i64 6]) (by simp[results,Tryz.results44,go_sem,c90,c91,c92]) rfl (qo hQ0 ⟨_,(by rw[(err_6 rfl hz1.out rfl hb2.out hb3.out (.inl hb4.out)).1]),(by rw[(err_6 rfl hz1.out rfl hb2.out hb3.out (.inl hb4.out)).2];exact RefR.zero _),hK.old⟩)
   go_upto_region 10 with(fail);refine wp_region_T [0,4,0] hK ?_;clear hK;refine e0 ?_;refine eP 2 0 [.bool false,.slice none 0 0,.slice none 0 0] ?_;refine e0 ?_;refine sxEnd (fun W27 hK=>?_);have⟨c90,c91,c92⟩:=(hK.box m2).c3;go_wp2;exact bodyPost_ret (v:=.tuple #[.agg #[.bool false,.slice none 0 0,.slice none 0 0],.int .i64 3]) (by simp[results,Tryz.results44,go_sem,c90,c91,c92]) rfl (qo hQ0 ⟨_,(by rw[(err_3 rfl hz1.out rfl (.inr hb3.out)).1]),(by rw[(err_3 rfl hz1.out rfl (.inr hb3.out)).2];exact RefR.zero _),hK.old⟩)
  iterate 2 refine eN ?_
  iterate 2 refine e0 ?_
  refine sxEnd (fun W28 hK=>?_);go_upto_region 10 with(fail);refine wp_region_T [0,4,0] hK ?_;clear hK;refine e0 ?_;refine eP 2 0 [.bool false,.slice none 0 0,.slice none 0 0] ?_;refine e0 ?_;refine sxEnd (fun W29 hK=>?_);have⟨c90,c91,c92⟩:=(hK.box m2).c3;go_wp2;exact bodyPost_ret (v:=.tuple #[.agg #[.bool false,.slice none 0 0,.slice none 0 0],.int .i64 3]) (by simp[results,Tryz.results44,go_sem,c90,c91,c92]) rfl (qo hQ0 ⟨_,(by rw[(err_3 rfl hz1.out rfl (.inl hb2.out)).1]),(by rw[(err_3 rfl hz1.out rfl (.inl hb2.out)).2];exact RefR.zero _),hK.old⟩)
end Go.Proofs.YtgemmbpjebijlaaGreatDoor
namespace Go.Proofs.YtgemmbpjebijlaaGreatDoor
open Go.RowKit
open Go.Lib (decDigits)
theorem rparse_back(x:Rat)(w:World)(hx:LmQ 50 x):
    Calls Tryz.prog 44 #[.string ⟨(textQ x).toArray⟩] w fun e w'=> ∃y0,e=.returned (.tuple #[y0,.int .i64 0])/\RefR w' y0 x/\Below w.heap.size w w':=by
  have h:=parse_text x (textQ_short hx).1 (textQ_short hx).2;have c:=qparse_r (textQ x) w (by have:=textQ_len hx;omega)
  rwa [h.1,h.2]at c
set_option maxRecDepth 100000 in
theorem rfrom_any(w:World){q:Rat}(hx:LmQ 50 q):
    Calls Tryz.prog 14 #[.string ⟨(textQ q).toArray⟩] w fun e w'=> ∃x:Duo Sl Sl,e=.returned (.agg #[.bool (isN (q)),.slice x.a.p x.a.l x.a.c,.slice x.b.p x.b.l x.b.c])/\SS w [rF (.agg #[.bool (isN (q)),.slice x.a.p x.a.l x.a.c,.slice x.b.p x.b.l x.b.c]) (q)] w':=by
  have hK:=SS.start w;refine Calls.hide (fun Q0 hQ0=>?_);go_enter Tryz.func14,Tryz.ntmps14;go_upto_region 0 with(fail);refine wp_region_T [3] hK ?_;clear hK;refine eA (.cells #[.bool false,.slice none 0 0,.slice none 0 0] 53) (fun R1=>?_);refine sxEnd (fun W2 hK=>?_);go_upto_region 1 with(fail);refine wp_region_T [0,2,0,0,0,3,4,0] hK ?_;clear hK;refine e0 ?_;refine eC (fun w k=>ref2_S (rparse_back q w hx)) (fun x3=>?_);obtain⟨⟨p4,l4,c4⟩,⟨q4,u4,d4⟩⟩:=x3;dsimp only
  iterate 3 refine e0 ?_
  refine eA (.cells #[.bool false,.slice none 0 0,.slice none 0 0] 53) (fun R5=>?_);refine eP 0 0 [.bool (isN (q)),.slice p4 l4 c4,.slice q4 u4 d4] ?_ (hq:=.inr ⟨rfl,rfl,trivial⟩);refine e0 ?_;refine sxEnd (fun W6 hK=>?_);go_upto_region 2 with(fail);refine wp_region_T [1,4] hK ?_;clear hK;refine eL m0 ?_;refine eP 2 0 [.bool (isN (q)),.slice p4 l4 c4,.slice q4 u4 d4] ?_ (hq:=.inr ⟨rfl,rfl,trivial⟩);refine sxEnd (fun W7 hK=>?_);have⟨c90,c91,c92⟩:=(hK.box m2).c3;replace hK:=hK.subl (sC2 (sK2 (sC2 sZ2)));go_wp2;exact bodyPost_ret (v:=.agg #[.bool (isN (q)),.slice p4 l4 c4,.slice q4 u4 d4]) (by simp[results,Tryz.results14,go_sem,c90,c91,c92]) rfl (qo hQ0 ⟨⟨⟨p4,l4,c4⟩,⟨q4,u4,d4⟩⟩,rfl,hK⟩)
set_option maxRecDepth 100000 in
theorem back_any(w:World){p_h0:Option Addr}{n_h0 c_h0:Nat}{l:List Rat}(hh0:SlV ratK w (.slice p_h0 n_h0 c_h0) l)(hB:Bas w)(hl:LmL 50 l)(hn:l.length<=100000):
    Calls Tryz.prog 13 #[.slice p_h0 n_h0 c_h0] w fun e w'=> ∃s:Sl,e=.returned (.slice s.p s.l s.c)/\SS w [rO refK 53 s.p s.l s.c l] w':=by
  have hK:=SS.start w;have⟨n1,n2⟩:=lle hh0.one0;refine Calls.hide (fun Q0 hQ0=>?_);go_enter Tryz.func13,Tryz.ntmps13;replace hK:=hK.fact (rO refK 53 none 0 0 (l.take 0)) OwV.nil (fun _ h=>by cases h);go_wp2_with fail;go_loopw [3,4] (fun s3 s4 wl=> ∃(m:Nat) (p:Option Addr) (n:Nat) (c:Nat),s3=.slice p n c/\s4=.int .i64 (m:Int)/\(m<=l.length)/\Hid (l.take m=[]->p=none)/\SS w ([rO refK 53 p n c (l.take m)]) wl) (fun s3 s4 _=>n_h0-(intOf s4).toNat)
  case atStart=>exact⟨0,none,0,0,rfl,rfl,(by omega),hid (fun _=>rfl),hK⟩
  clear hK;obtain⟨m,p,n,c,rfl,rfl,hm0,h_e,hK⟩:=hrel;generalize wr=W1 at hK⊢;go_upto_region 3 with(fail);refine wp_region_T [0,0,0,0] hK ?_;clear hK
  iterate 3 refine e0 ?_
  refine eB (decide (((m:Int))<((n_h0:Int)))) (fun b1 hb1=>?_);refine sxEnd (fun W2 hK=>?_)
  cases b1
  . --
   have q_b1:=nlt hb1;have hme:m=l.length:=(by omega);rw[hme,List.take_length]at hK;clear hme;go_wp2
   try go_ret
   show Q0 (.returned (.slice p n c)) _
   exact(qo hQ0 ⟨⟨p,n,c⟩,rfl,hK⟩)
  have q_b1:=ylt hb1;have i3:m<n_h0:=(by omega);obtain⟨g3,o3,rfl⟩:=hh0.pt i3;have l3:m<l.length:=Nat.lt_of_lt_of_eq i3 (hh0.one0);obtain⟨x,ex⟩:=gtH l3;obtain⟨_,_,_,x_c,x_r⟩:=hh0.rat ex.out;obtain⟨rfl,⟨x_p,x_n,x_d,rfl⟩,x_q,x_m,x_e,rfl⟩:=ratV_cells' x_r;go_upto_region 5 with(fail);refine wp_region_T [0,0,0,0,0,1,2,3,5,0] hK ?_;clear hK
  iterate 4 refine e0 ?_
  refine eRm3 (fun w k=>x_c.below k.old) ?_;refine eQ (fun w k=>qtext_q _ _ w (x_r.below k.old) (hB.below k.old) (hl x (List.mem_of_getElem? ex.out)) (by decide)) ?_;refine eC (fun w k=>rfrom_any w (hl x (List.mem_of_getElem? ex.out))) (fun x4=>?_);obtain⟨⟨p5,l5,c5⟩,⟨q5,u5,d5⟩⟩:=x4;dsimp only;refine eA (.cells #[.bool (isN (x)),.slice p5 l5 c5,.slice q5 u5 d5] 53) (fun R6=>?_);refine eAppK 2 refK_hd rfl 2 h_e.out rfl infoR (fun w k=>k.one1 (K:=refK) (x:=x) m0 ⟨_,_,_,rfl,k.rq m1⟩) (by rw[take_len (by omega)];simp;omega) (fun x7=>?_);obtain⟨p7,n7,c7⟩:=x7;dsimp only;refine e0 ?_;refine sxEnd (fun W8 hK=>?_);rw[show(l.take m)++[x]=l.take (m+1)from(take_snoc ex.out)]at hK
  (try go_wp2)
  go_roundw
  case rel=>exact⟨m+1,p7,n7,c7,(by first|rfl|go_num),(by first|rfl|go_num),(by omega),hid (fun e=>absurd (congrArg List.length e) (by rw[take_len (by omega)];simp)),(hK.subl (sC2 (sC2 (sR))))⟩
  case measure=>simp[intOf]<;>omega
end Go.Proofs.YtgemmbpjebijlaaGreatDoor
namespace Go.Proofs.YtgemmbpjebijlaaGreatDoor
open Go.RowKit
section
variable {V w:World}{l:List Ft}{a:RsS}{R:LpRes}{P:LPd}{X k:Nat}
theorem smL{l:List Rat}(h:∀c∈l,SmX X c)(hX:X<B32^k):LmL k l:=fun c hc=>sml_lm (h c hc) hX
theorem cert_len(h:CertR P R)(hm:LmP 50 P):R.x.length<=100000/\R.y.length<=100000/\R.r.length<=100000:=by
  have h1:=hm.n;have h2:=hm.m
  rcases h with⟨_,h,e1⟩|⟨_,h,e1,e2,_⟩|⟨_,h,e1,_⟩
  . rw[h.xl,h.yl,e1];simp;omega
  . rw[e1,h.yl,e2];simp;omega
  rw[h.xl,h.rl,e1];simp;omega
variable {cp ap bp:Option Addr}{cl cc al ac bl bc:Nat}
end
end Go.Proofs.YtgemmbpjebijlaaGreatDoor
namespace Go.Proofs.YtgemmbpjebijlaaGreatDoor
open Go.RowKit
section
variable {P:Program}{V:World}{ops:Array Oper}{Q:Act->World->Prop}{f0 fs fs':List Ft}{ks:List Nat}{o:Oper}{rest:List Oper}{a a':Act}{t:TypeId}
theorem OwV.has0{α:Type}{K:EK α}{w:World}{base R:Nat}(h:OwV K t base w (.slice (some ⟨R,0,none⟩) 0 0) []):Has base R (.cells #[] t) w:=by
  obtain⟨css,h1,hl,⟨e,h0⟩|⟨g',cap,cur,e,hb,hh,hc1,hc2,hs,ht⟩⟩:=h
  . cases e
  injection e with e1 e2 e3
  injection e1 with e1
  injection e1 with e1
  subst e1;subst e3;have hc:cur=#[]:=Array.eq_empty_of_size_eq_zero (by rw[hs];exact Nat.zero_mul _);subst hc;exact⟨hb,hh⟩
theorem sx0row{α:Type}{K:EK α}[OwnK K]{R:Nat}(h:Sx P V ops Q f0 ks rest (rO K t (some ⟨R,0,none⟩) 0 0 []::fs) a)(hs:f0.Sublist fs):Sx P V ops Q f0 ks rest (bx R (.cells #[] t)::fs) a:=⟨fun _=>by
  have e:(⟨Own (bx R (.cells #[] t)::fs),SS V (bx R (.cells #[] t)::fs)⟩:Kl)=⟨Own (rO K t (some ⟨R,0,none⟩) 0 0 []::fs),SS V (rO K t (some ⟨R,0,none⟩) 0 0 []::fs)⟩:=by
    refine Kl.eq (fun g=>?_) fun w=>⟨fun k=>k.repl (OwV.empty (k.box m0)) fun g e=>(Option.some.inj e).symm,fun k=>k.repl (OwV.has0 (k.own m0)) fun g (e:g=R)=>by rw[e];rfl⟩
    exact⟨fun⟨f,hf,hg⟩=>(List.mem_cons.1 hf).elim (fun e=>⟨_,List.mem_cons_self ..,by subst e;rw[show g=R from hg];rfl⟩) fun hf=>⟨f,List.mem_cons_of_mem _ hf,hg⟩,fun⟨f,hf,hg⟩=>(List.mem_cons.1 hf).elim (fun e=>⟨_,List.mem_cons_self ..,by subst e;exact(Option.some.inj hg).symm⟩) fun hf=>⟨f,List.mem_cons_of_mem _ hf,hg⟩⟩
  rw[e];exact h.out (hs.cons _)⟩
theorem eA0{α:Type}{K:EK α}[OwnK K]{a2:Nat->Act}(h:∀R,Sx P V ops Q f0 ks rest (rO K t (some ⟨R,0,none⟩) 0 0 []::fs) (a2 R))(hs:f0.Sublist fs:=by exact List.nil_sublist _)(hg:Wants ops o a:=by first|exact wants0 rfl|exact wantsg rfl rfl rfl rfl)(h1:∀w,(execOp a.eval o).run P w=.ok (.value (mkOf o w.heap.size)) (w.alloc (.cells #[] t)):=by intro w';go_simp;rfl)(ha:∀R,a.put o.dst (mkOf o R)=a2 R:=by intro R;(simp only[mkOf,Act.put,pA,pB,pC,pD,pE])<;>exact rfl):Sx P V ops Q f0 (3::ks) (o::rest) fs a:=
  eA (.cells #[] t) (fun R=>sx0row (h R) hs) hg h1 ha
theorem OwV.hd0{α:Type}{K:EK α}{w:World}{base m n:Nat}{q:Option Addr}(h:OwV K t base w (.slice q n 0) []):∀g,ob q=some g->HdIs g m w:=fun g hg=>by
  obtain⟨css,h1,hl,⟨e,h0⟩|⟨g',cap,cur,e,hb,hh,hc1,hc2,hs,ht⟩⟩:=h
  . injection e with e1;rw[e1]at hg;cases hg
  injection e with e1 e2 e3
  subst e1;subst e3;obtain rfl:g'=g:=Option.some.inj hg;have hc:cur=#[]:=Array.eq_empty_of_size_eq_zero (by rw[hs];exact Nat.zero_mul _);subst hc;exact hdIs_nil (base:=base) ⟨hb,hh⟩
theorem eAppE{α:Type}{K:EK α}[OwnK K](m0:Nat)(hno:(OwnK.S (K:=K)).contains m0=false){q p:Option Addr}{n m c bytes:Nat}{tt uu u':TypeId}{ys:List α}{z:Value}{s x:Operand}{a2:Sl->Act}{fs2:Sl->List Ft}(i:Nat)(hi:fs[i]?=some (rO K t q n 0 []))(hinf:(P.info? t).map (fun i=>(i.zero,i.size,i.bytes))=some (some z,K.sz,bytes))(hsrc:∀w,SS V fs w->SlV K w (.slice p m c) ys)(h63:ys.length<=1000000000)(h:∀y,Sx P V ops Q f0 ks rest (fs2 y) (a2 y))(hf:∀y:Sl,fs.set i (rO K t y.p y.l y.c ys)=fs2 y:=by intro y;(simp only[pB,pC])<;>exact rfl)(hs:∀x,f0.Sublist (fs2 x):=by exact fun _=>List.nil_sublist _)(hq:OkL m0 i fs:=by repeat (first|exact trivial|(show OkA _ _;assumption)|refine⟨rfl,?_⟩))
    (ho:o.op=.call {callee:=.builtin .append,args:=#[s,x],argTypes:=#[tt,uu]}:=by rfl) (ht:P.underlying tt=some (.slice t):=by first|rfl|kernel_rfl) (hu:P.underlying uu=some (.slice u'):=by first|rfl|kernel_rfl) (hzs:z.cells.size=K.sz:=by rfl) (hbz:bytes<=100000:=by decide) (hes:a.eval s=.slice q n 0:=by rfl) (hex:a.eval x=.slice p m c:=by rfl) (hg:Wants ops o a:=by first|exact wants0 rfl|exact wantsg rfl rfl rfl rfl) (ha:∀y:Sl,a.put o.dst (.slice y.p y.l y.c)=a2 y:=by intro x;(simp only[mkOf,Act.put,pA,pB,pC,pD,pE])<;>exact rfl):Sx P V ops Q f0 (5::ks) (o::rest) fs a:=
  sxG (α:=Sl) (g:=fun y=>.slice y.p y.l y.c) (f2:=fun y=>rO K t y.p y.l y.c ys) (b:=ob q) hi (fun R h=>h) (fun w k=>qtN (OwV.hd0 k) hq) (fun y=>by rw[hf];exact hs y) hg (fun w hw k=>by
    refine(app_doesS (u':=u') ho ht hu hinf hzs hes hex (by simp[maxLen];omega) (Nat.le_trans (Nat.mul_le_mul (show[].length+ys.length<=1000000000 by simpa using h63) hbz) (by decide)) k (fun g hg=>.inr ((OwV.hd0 k g hg).no hno)) (hsrc w hw)).mono fun u w' ⟨y,e1,e2,e3,e4⟩=>⟨y,e1,e2,e3,e4⟩) fun y=>by rw[hf,ha];exact h y
theorem eWR{g n c j:Nat}{xs:List Rat}{y:Rat}{v0 v1 v2:Value}(i:Nat)(hj:j<xs.length)(hv:∀w,SS V fs w->RefR w (.agg #[v0,v1,v2]) y)(h:Sx P V ops Q f0 ks rest fs' a')(hi:fs[i]?=some (rO refK t (some ⟨g,0,none⟩) n c xs):=by rfl)(hf:fs.set i (rO refK t (some ⟨g,0,none⟩) n c (xs.set j y))=fs':=by(simp only[pB,pC])<;>exact rfl)(hs:f0.Sublist fs':=by exact List.nil_sublist _)(hq:OkL 2 i fs:=by repeat (first|exact trivial|(show OkA _ _;assumption)|refine⟨rfl,?_⟩))(hg:Wants ops o a:=by first|exact wants0 rfl|exact wantsg rfl rfl rfl rfl)
    (h1:∀w u0 u1 u2,w.cell? ⟨g,j*3,none⟩=some u0->w.cell? ⟨g,j*3+1,none⟩=some u1->w.cell? ⟨g,j*3+2,none⟩=some u2->(∀o,w.frozen? ⟨g,o,none⟩=false)->Does P (fun u w'=>u=undef/\w'=putAt g (j*3) [v0,v1,v2] w) ((execOp a.eval o).run P w):=by intro w' u0 u1 u2 c0 c1 c2 f;go_simp;exact⟨rfl,rfl⟩) (ha:a.put o.dst undef=a':=by(simp only[mkOf,Act.put,pA,pB,pC,pD,pE])<;>exact rfl):Sx P V ops Q f0 (4::ks) (o::rest) fs a:=
  sxS (R:=g) (f2:=rO refK t (some ⟨g,0,none⟩) n c (xs.set j y)) hi rfl (fun _ h=>h) (fun w k=>qtN (fun R' e=>by injection e with e;subst e;exact OwV.hd k (List.ne_nil_of_length_pos (by omega)) (fun{_ _ _ _} h hu=>refK_hd h hu)) hq) (by rw[hf];exact hs) hg (fun w hw k=>by
    obtain⟨u0,hu0⟩:=OwV.some_cell k hj (j:=0) (by decide);obtain⟨u1,hu1⟩:=OwV.some_cell k hj (j:=1) (by decide);obtain⟨u2,hu2⟩:=OwV.some_cell k hj (j:=2) (by decide);refine(h1 w u0 u1 u2 hu0 hu1 hu2 (OwV.fz k)).mono fun u w' ⟨e1,e2⟩=>?_
    subst e2;exact⟨e1,⟨_,_,rfl⟩,OwV.put k ⟨_,_,_,rfl,hv w hw⟩ hj _ (Below.refl _ _)⟩) (by rw[hf,ha];exact h)
end
end Go.Proofs.YtgemmbpjebijlaaGreatDoor
namespace Go.Proofs.YtgemmbpjebijlaaGreatDoor
open Go.ChangeShapes Go.WideShapes Go.ChangeAt Go.RowKit Go.Joins Go.Deep
section
variable {H:Type}{enc:TypeId × Value->H}{w:World}{base:Nat}{sp:Nat->Bool}{hd:Bool}
set_option maxRecDepth 100000 in
theorem open_u8{b0:Nat}{v:Value}{d:DataW H}{p:List MemPlace}(hv:Value.okWide Tryz.prog w .any b0 5 v)(h:DataW.Trod enc Tryz.prog w base sp hd 5 v d p):∃x:Nat,v=.int .u8 (x:Int)/\x<256:=by
  obtain⟨x,rfl,_,_,wx⟩:=open_int Tryz.underlying5 hv h;have hz:0<=x/\x<256:=by simp[Lit.wf,IntKind.min,IntKind.max,IntKind.signed,IntKind.bits]at wx;omega
  exact⟨x.toNat,by rw[Int.toNat_of_nonneg hz.1],by omega⟩
end
end Go.Proofs.YtgemmbpjebijlaaGreatDoor
