/- Laws of linear programs with up to 4 variables and 5 rows: for every input the law's function returns true; no condition. Part 3 of 6. -/

import Derived.Test.YtjhaedfpigebdaaGreatDoorQB
import Derived.Laws.Strings3
import Derived.Maps.AppendAt
namespace Go.Proofs.YtjhaedfpigebdaaGreatDoor
open Go.RowKit
open Go.Lib (decDigits)
section
theorem digs6_len_mono{n m:Nat}(h:(digs B6 n).length<(digs B6 m).length):n<m:=digs_len_mono b6_2 h
set_option maxRecDepth 100000 in
set_option maxHeartbeats 2000000 in
theorem rcmp_any(v u:Value)(n m:Nat)(w:World)(hv:RefV w v n)(hu:RefV w u m)(h1:(digs B6 n).length<=900000)(_h2:(digs B6 m).length<=900000):
    Calls Tryz.prog 47 #[v,u] w fun e w'=>e=.returned (.int .i64 (cmpN n m))/\Below w.heap.size w w':=by
  obtain⟨p,cp,rfl,hpg⟩:=GV.slice hv;obtain⟨q,cq,rfl,hqg⟩:=GV.slice hu;have HPG:=hid hpg;have HQG:=hid hqg
  by_cases hlt:(digs B6 n).length<(digs B6 m).length
  . have HE:=hid (cmpN_lt (digs6_len_mono hlt));clear hv hu hpg hqg HPG HQG;go_enter Tryz.func47,Tryz.ntmps47;go_wp2;go_ret;exact⟨by rw[HE.out];rfl,Below.refl _ _⟩
  by_cases hgt:(digs B6 m).length<(digs B6 n).length
  . have HE:=hid (cmpN_gt (digs6_len_mono hgt));clear hv hu hpg hqg HPG HQG;go_enter Tryz.func47,Tryz.ntmps47;go_wp2;go_ret;exact⟨by rw[HE.out];rfl,Below.refl _ _⟩
  have hl:(digs B6 n).length=(digs B6 m).length:=by omega
  have H1:=hid (digs_lt b6_2 n);have H2:=hid (digs_lt b6_2 m);have HN:=hid (val_digs b6_2 n);have HM:=hid (val_digs b6_2 m);obtain⟨xs,hxs⟩:∃xs,digs B6 n=xs:=⟨_,rfl⟩;obtain⟨ys,hys⟩:∃ys,digs B6 m=ys:=⟨_,rfl⟩;rw[hxs]at HPG H1 HN h1 hl⊢;rw[hys]at HQG H2 HM hl⊢;rw[<-hl];have HL:=hid hl;clear hv hu hpg hqg hxs hys _h2 hlt hgt hl;go_enter Tryz.func47,Tryz.ntmps47;go_wp2_with fail;go_loopw [5] (fun i wr=> ∃k:Nat,k<=xs.length/\i=.int .i64 ((k:Int)-1)/\Hid (xs.drop k=ys.drop k)/\Below w.heap.size w wr) (fun i _=>(intOf i+1).toNat)
  case atStart=>exact⟨xs.length,Nat.le_refl _,rfl,hid (by have:=HL.out;rw[List.drop_length,this,List.drop_length]),Below.refl _ _⟩
  obtain⟨k,hk,rfl,HD,hbw⟩:=hrel;generalize wr=W1 at hbw⊢
  by_cases hk0:k=0
  . subst hk0;have HE:=hid (show cmpN n m=0 by have:=HD.out;simp only[List.drop_zero]at this;rw[<-HN.out, <-HM.out,this];exact cmpN_eq _);go_wp2;go_ret;exact⟨by rw[HE.out];rfl,hbw⟩
  obtain⟨j,rfl⟩:∃j,k=j+1:=⟨k-1,by omega⟩;have hj:j<xs.length:=by omega
  have hj':j<ys.length:=by have:=HL.out;omega
  have ei:(((j+1:Nat):Int)-1)=(j:Int):=by omega
  rw[ei];clear ei;obtain⟨g,rfl,hg,_,_⟩:=HPG.out (fun e=>by subst e;simp at hj);obtain⟨g',rfl,hg',_,_⟩:=HQG.out (fun e=>by subst e;simp at hj');have g0:=(hg.below hbw).at0 j hj;have g1:=(hg'.below hbw).at0 j hj';unfold iCell at g0 g1;have gl:=Nat.lt_of_lt_of_le hg.lt hbw.size;have gl':=Nat.lt_of_lt_of_le hg'.lt hbw.size;have q0:0<=(j:Int):=by omega
  go_upto_region 8 with(fail);refine wp_region_staged (fun w'=>Below W1.heap.size W1 w') [0,0,0,1,0,0,0,1,0] (by kernel_rfl) (by kernel_rfl) (by kernel_rfl) (by exact(Below.refl _ _).drew) ?_
  rcases Nat.lt_trichotomy xs[j] ys[j]with hc|hc|hc
  . have HE:=hid (show cmpN n m= -1 by rw[<-HN.out, <-HM.out];exact cmpN_lt (val_lt_at b6_2 H1.out hj hj' HL.out HD.out hc));have hlt:((xs[j]:Nat):Int)<((ys[j]:Nat):Int):=by omega
    clear hc
    iterate 3 (refine zs0 ?_)
    refine zs2 ?_
    iterate 3 (refine zs0 ?_)
    refine zs2 ?_;refine zs0 ?_;refine lexEnd (fun w3 hw3=>?_);go_wp2;go_ret;exact⟨by rw[HE.out];rfl,hbw.trans (hw3.mono hbw.size)⟩
  . have HE:=hid (drop_same hj hj' HD.out hc);rw[<-hc]at g1;clear hc
    iterate 3 (refine zs0 ?_)
    refine zs2 ?_
    iterate 3 (refine zs0 ?_)
    refine zs2 ?_;refine zs0 ?_;refine lexEnd (fun w3 hw3=>?_);go_upto_region 10 with(fail);refine wp_region_staged (fun w'=>Below W1.heap.size W1 w') [0,0,0,1,0,0,0,1,0] (by kernel_rfl) (by kernel_rfl) (by kernel_rfl) (by exact hw3.drew) ?_
    iterate 3 (refine zs0 ?_)
    refine zs2 ?_
    iterate 3 (refine zs0 ?_)
    refine zs2 ?_;refine zs0 ?_;refine lexEnd (fun w4 hw4=>?_);go_wp2;go_roundw
    case rel=>exact⟨j,by omega,rfl,HE,hbw.trans (hw4.mono hbw.size)⟩
    case measure=>simp[intOf]
  have HE:=hid (show cmpN n m=1 by rw[<-HN.out, <-HM.out];exact cmpN_gt (val_lt_at b6_2 H2.out hj' hj HL.out.symm HD.out.symm hc));have hlt:((ys[j]:Nat):Int)<((xs[j]:Nat):Int):=by omega
  have hge:¬((xs[j]:Nat):Int)<((ys[j]:Nat):Int):=by omega
  clear hc
  iterate 3 (refine zs0 ?_)
  refine zs2 ?_
  iterate 3 (refine zs0 ?_)
  refine zs2 ?_;refine zs0 ?_;refine lexEnd (fun w3 hw3=>?_);go_upto_region 10 with(fail);refine wp_region_staged (fun w'=>Below W1.heap.size W1 w') [0,0,0,1,0,0,0,1,0] (by kernel_rfl) (by kernel_rfl) (by kernel_rfl) (by exact hw3.drew) ?_
  iterate 3 (refine zs0 ?_)
  refine zs2 ?_
  iterate 3 (refine zs0 ?_)
  refine zs2 ?_;refine zs0 ?_;refine lexEnd (fun w4 hw4=>?_);go_wp2;go_ret;exact⟨by rw[HE.out];rfl,hbw.trans (hw4.mono hbw.size)⟩
theorem RefV.zero(W:World):RefV W (.slice none 0 0) 0:=.inl ⟨digs_zero,_,_,rfl⟩
set_option maxRecDepth 100000 in
set_option maxHeartbeats 2000000 in
theorem rparse_ok(s:ByteArray)(w:World)(hs:1<=s.size)(hl:s.size<=1000000)(hd:s.size=1\/((s[0].toNat:Int)==48)=false/\2<=s.size/\s.data.toList.head?≠some 48):
    Calls Tryz.prog 125 #[.string s] w fun e w'=> ∃v,e=.returned (.tuple #[v,.int .i64 (parseErr s.data.toList)])/\RefV w' v (parseVal s.data.toList)/\Below w.heap.size w w':=by
  have hne:s.data.toList≠[]:=fun e=>by have:=str_len s;rw[e]at this;simp at this;omega
  have he:((s.size:Int)==0)=false:=by rw[beq_eq_false_iff_ne];omega
  have HP:=hid (parse_good hne (hd.imp (fun h=>by rw[str_len];exact h) fun h=>h.2.2));have HD0:=hid hd;obtain⟨i0,hi,hz0,hz1,hz2⟩:=info_parts infoI;obtain⟨pe,hpe⟩:∃pe,parseErr s.data.toList=pe:=⟨_,rfl⟩;obtain⟨pv,hpv⟩:∃pv,parseVal s.data.toList=pv:=⟨_,rfl⟩;have HPE:=hid hpe;have HPV:=hid hpv;rw[hpe,hpv];clear hpe hpv hne hd;go_enter Tryz.func125,Tryz.ntmps125;go_upto_region 1 with(fail);go_cut [21]from 9999 to 9999 (fun t wl=>t=.bool false/\wl=w)
  case first=>
    rcases HD0.out with h1|⟨h0,hs2,_⟩
    . have hs1:¬(1:Int)<(s.size:Int):=by omega
      go_wp2;go_meet
      case rel=>first|exact⟨rfl,rfl⟩|exact⟨rfl,hW1.symm⟩
    have hgt:(1:Int)<(s.size:Int):=by omega
    go_wp2;go_meet
    case rel=>first|exact⟨rfl,rfl⟩|exact⟨rfl,hW1.symm⟩
  case rest=>
  obtain⟨rfl,hwc⟩:=hcut;replace hwc:=hwc.symm;subst hwc;go_upto_region 3 with(fail);clear he;go_wp2_with fail;go_loopw [4] (fun i wr=> ∃k:Nat,k<=s.size/\i=.int .i64 k/\Hid (∀j (h:j<s.size),j<k->isDig s[j]=true)/\Hid (wr=w)) (fun i _=>s.size-(intOf i).toNat)
  case atStart=>exact⟨0,Nat.zero_le _,rfl,hid (fun j _ h=>absurd h (by omega)),hid rfl⟩
  obtain⟨k,hk,rfl,HD,HWW⟩:=hrel;have hWW:=HWW.out.symm;subst hWW;clear HWW
  by_cases hlt:k<s.size
  . by_cases hdg:isDig s[k]=true
    . obtain⟨q1,q2⟩:=(isDig_iff _).1 hdg;have q3:¬((s[k].toNat:Int)<48):=by omega
      have q4:¬(57<(s[k].toNat:Int)):=by omega
      have HD':=hid (show ∀j (h:j<s.size),j<k+1->isDig s[j]=true from fun j h hj=>by
        by_cases e:j=k
        . subst e;exact hdg
        exact HD.out j h (by omega))
      clear hdg q1 q2;go_wp2;go_roundw
      case rel=>exact⟨k+1,by omega,by go_num,HD',hid (by trivial)⟩
      case measure=>simp[intOf];omega
    have hbad:parseErr s.data.toList=3:=parse_syn (.inr (.inr ⟨s[k],by rw[str_at];exact List.getElem_mem _,by simpa using hdg⟩));rw[HPE.out]at hbad;have hval:pv=0:=by rw[<-HPV.out];exact parseVal_err (by rw[HPE.out,hbad];decide)
    subst hbad hval;have q:¬(48<=s[k].toNat/\s[k].toNat<=57):=fun h'=>hdg ((isDig_iff s[k]).2 h')
    clear hdg
    by_cases q3:(s[k].toNat:Int)<48
    . clear q;go_wp2;go_ret2;exact⟨_,rfl,RefV.zero _,Below.refl _ _⟩
    have q4:57<(s[k].toNat:Int):=by omega
    clear q;go_wp2;go_ret2;exact⟨_,rfl,RefV.zero _,Below.refl _ _⟩
  obtain rfl:k=s.size:=by omega
  have HDD:=hid (show ∀c∈s.data.toList,isDig c=true from fun c hc=>by
    obtain⟨j,hj,rfl⟩:=List.getElem_of_mem hc;have hj':j<s.size:=by rw[str_len]at hj;exact hj
    rw[<-str_at s j hj'];exact HD.out j hj' hj')
  have HPP:=hid (HP.out HDD.out);clear HD HP
  by_cases hbig:1000<s.size
  . have hbad:parseErr s.data.toList=6:=by rw[HPP.out,str_len,if_pos hbig]
    rw[HPE.out]at hbad;have hval:pv=0:=by rw[<-HPV.out];exact parseVal_err (by rw[HPE.out,hbad];decide)
    subst hbad hval;have q:(1000:Int)<(s.size:Int):=by omega
    go_wp2;go_ret2;exact⟨_,rfl,RefV.zero _,Below.refl _ _⟩
  have hgood:parseErr s.data.toList=0:=by rw[HPP.out,str_len,if_neg hbig]
  have hpv:pv=valT s.data.toList:=by rw[<-HPV.out];unfold parseVal;rw[if_pos hgood]
  rw[HPE.out]at hgood;subst hgood hpv;have q:¬(1000:Int)<(s.size:Int):=by omega
  go_upto_region 11 with(fail);go_loopw [0,5] (fun sv dv wl=> ∃(t:ByteArray) (os:List Nat) (k:Nat),sv=.string t/\k<=s.size/\Hid (t.data.toList=s.data.toList.take k)/\RowI wl w.heap.size dv os/\Hid (∀d∈os,d<B6)/\os.length+k<=s.size+1*os.length/\Hid (os.length<=1000/\(k=0\/6*os.length+k=s.size)/\val B6 os+B6^os.length*valT (s.data.toList.take k)=valT s.data.toList)/\Below w.heap.size w wl) (fun sv _ _=>strLen sv)
  case atStart=>exact⟨s,[],s.size,rfl,Nat.le_refl _,hid (by rw[<-str_len,List.take_length]),RowI.nil _ _,hid (fun d h=>absurd h (List.not_mem_nil)),by simp,hid ⟨by simp,.inr (by simp),by rw[<-str_len,List.take_length];simp[val]⟩,Below.refl _ _⟩
  obtain⟨t,os,k,rfl,hk,HTL,hrow,HOB,_,HVL,hbl⟩:=hrel;generalize wr=W3 at hrow hbl⊢;generalize u5=dv at hrow⊢;have HTS:=hid (show t.size=k by rw[<-str_len t,HTL.out,List.length_take,str_len];omega);obtain⟨hol,hok,hov⟩:=HVL.out
  by_cases hk0:k=0
  . subst hk0;have hts:t.size=0:=HTS.out;have HT:=hid (without_any dv os W3 hrow.gv (by omega));have hve:val B6 os=valT s.data.toList:=by rw[<-hov];simp[valT]
    rw[<-digs_val b6_2 HOB.out,hve]at HT;have hti:¬(0:Int)<(t.size:Int):=by omega
    clear hve hov;obtain⟨po,co,rfl⟩:=row_slice hrow;go_wp2_with (go_at_call 76;refine HT.out.mono ?_;clear HT;rintro e w4 ⟨v',rfl,hv',hw4⟩);go_ret2;exact⟨_,rfl,hv',hbl.trans (hw4.mono hbl.size)⟩
  obtain⟨f,hf,hfk,hf6,hf0⟩:∃f:Nat,max 0 ((t.size:Int)-6)=(f:Int)/\f<k/\k<=f+6/\(f=0\/f+6=k):=by
    have:=HTS.out
    by_cases h6:6<=k
    . exact⟨k-6,by omega,by omega,by omega,.inr (by omega)⟩
    exact⟨0,by omega,by omega,by omega,.inl rfl⟩
  have HTD:=hid (show ∀c∈t.data.toList,isDig c=true from fun c hc=>HDD.out c (by rw[HTL.out]at hc;exact List.mem_of_mem_take hc));have htp:(0:Int)<(t.size:Int):=by have:=HTS.out;omega
  go_upto_region 13 with(fail);clear hf htp;go_wp2_with fail;go_loopw [7,8] (fun gv iv wi=> ∃j:Nat,f<=j/\j<=k/\iv=.int .i64 (j:Int)/\gv=.int .i64 ((valT ((t.data.toList.drop f).take (j-f)):Nat):Int)/\Hid (wi=W3)) (fun _ iv _=>k-(intOf iv).toNat)
  case atStart=>exact⟨f,Nat.le_refl _,by omega,rfl,by rw[Nat.sub_self];rfl,hid rfl⟩
  obtain⟨j,hfj,hjk,rfl,rfl,HW⟩:=hrel;have hww:=HW.out;subst hww;clear HW;have htk:=HTS.out;obtain⟨i,hi0⟩:∃i,j-f=i:=⟨_,rfl⟩;have HJ:=hid (show f+i=j by omega);have hi6:i<=6:=by omega
  rw[hi0];have hpl:=valT_lt i ((t.data.toList.drop f).take i) (by rw[List.length_take,List.length_drop,str_len];omega) (fun c hc=>HTD.out c (List.mem_of_mem_drop (List.mem_of_mem_take hc)))
  by_cases hil:j<k
  . have hit:j<t.size:=by omega
    have hdg:=(isDig_iff _).1 (HTD.out _ (List.getElem_mem (h:=by rw[str_len];exact hit) (l:=t.data.toList) (n:=j)));rw[<-str_at t j hit]at hdg
    have HV2:=hid (show valT ((t.data.toList.drop f).take (j+1-f))=valT ((t.data.toList.drop f).take i)*10+(t[j].toNat-48) by
      have e:=HJ.out;subst e;rw[show f+i+1-f=i+1 by omega,List.take_succ_eq_append_getElem (by rw[List.length_drop,str_len];omega),valT_snoc,List.getElem_drop,str_at t (f+i) hit])
    have hp8:10^i<=10^5:=Nat.pow_le_pow_right (by decide) (by omega);obtain⟨G,hG⟩:∃G,valT ((t.data.toList.drop f).take i)=G:=⟨_,rfl⟩;rw[hG]at hpl HV2⊢;obtain⟨c,hc⟩:∃c,t[j].toNat=c:=⟨_,rfl⟩;rw[hc]at hdg HV2;have hG5:G<100000:=Nat.lt_of_lt_of_le hpl hp8;have hti:(j:Int)<(t.size:Int):=by omega
    obtain⟨G',hG'⟩:∃G',valT ((t.data.toList.drop f).take (j+1-f))=G':=⟨_,rfl⟩;rw[hG']at HV2;have HG':=hid hG';have e2:(10:Int)*(G:Int)+((c:Int)-48)=(G':Int):=by rw[HV2.out];omega
    clear hG hp8 hpl hi0 hG';go_wp2;go_roundw
    case rel=>exact⟨j+1,by omega,by omega,by go_num,by rw[HG'.out],hid (by trivial)⟩
    case measure=>simp[intOf];omega
  obtain rfl:j=k:=by omega
  have HG6:=hid (show valT ((t.data.toList.drop f).take i)<B6 from by
    have hp8:10^i<=10^6:=Nat.pow_le_pow_right (by decide) hi6;exact Nat.lt_of_lt_of_le hpl hp8)
  have HVN:=hid (show valT (s.data.toList.take j)=valT (s.data.toList.take f)*10^i+valT ((t.data.toList.drop f).take i) by
    have e:=HJ.out;rw[<-e,List.take_add,valT_append,HTL.out,List.length_take,List.length_drop,str_len,Nat.min_eq_left (by omega),List.drop_take,List.take_take,Nat.min_eq_left (by omega)])
  obtain⟨G,hG⟩:∃G,valT ((t.data.toList.drop f).take i)=G:=⟨_,rfl⟩;rw[hG]at HG6 HVN⊢;have hGb:=HG6.out;rw[b6]at hGb
  have HNV:=hid (show val B6 (os++[G])+B6^(os++[G]).length*valT (s.data.toList.take f)=valT s.data.toList by
    rw[val_snoc,List.length_append,List.length_singleton, <-hov,HVN.out,Nat.pow_succ,Nat.mul_assoc,Nat.add_assoc, <-Nat.mul_add]
    rcases hf0 with h0|h6
    . subst h0;simp[valT]
    rw[show i=6 by omega,b6,Nat.add_comm G,Nat.mul_comm 1000000])
  have hjt:j=t.size:=by omega
  have HTE:=hid (show(t.extract 0 f).data.toList=s.data.toList.take f by
    rw[ByteArray.data_extract,Array.toList_extract,List.extract_eq_take_drop,List.drop_zero,Nat.sub_zero,HTL.out,List.take_take,Nat.min_eq_left (by omega)])
  obtain⟨t',ht'⟩:∃t',t.extract 0 f=t':=⟨_,rfl⟩;rw[ht']at HTE;have htf:f<=t.size:=by omega
  have HF:=hid hf0;have HOK:=hid hok;clear hG hov hf0 hok hpl hi0;have hti:¬(j:Int)<(t.size:Int):=by omega
  have HJT:=hid hjt;clear hjt htk;go_upto_region 18 with(fail);go_wp2_with (at_builtin;go_loud (refine wpList_append_own _ rfl _ _ 31 rfl w.heap.size 3 i0 _ 1 8 Tryz.underlying31 hi hz0 hz1 hz2 rfl (by decide) _ _ _ rfl (hrow.alloc _) ⟨wr.heap.size,0,none⟩ 1 1 [iCell G] rfl rfl (cells1_new wr _ _) (one_i _) (by simp[maxLen];omega) (by omega) (by have:=hbl.size;simp;omega) ?_;intro v' w7 hown' hgrow _;have hb7:=row1_step hbl hrow (Nat.le_refl _) hbl.size hgrow;have hr7:=RowI.push hown' rfl));go_roundw
  case rel=>exact⟨t',os++[G],f,by rw[<-ht'],by omega,HTE,hr7,hid (fun d hd=>by
    rcases List.mem_append.1 hd with h1|h1
    . exact HOB.out d h1
    simp only[List.mem_cons,List.not_mem_nil,or_false]at h1;rw[h1];exact HG6.out),by rw[List.length_append,List.length_singleton];omega,hid ⟨by rw[List.length_append,List.length_singleton];have:=HOK.out;rcases this with h|h<;>omega,by rw[List.length_append,List.length_singleton];exact HF.out.imp id (fun h=>by rcases HOK.out with h'|h'<;>omega),HNV.out⟩,hb7⟩
  case measure=>
    show strLen (.string t')<strLen (.string t)
    show t'.size<t.size
    have h3:t'.size=f:=by rw[<-str_len,HTE.out,List.length_take,str_len];omega
    have:=HTS.out;omega
set_option maxHeartbeats 1000000 in
theorem rparse_nil(s:ByteArray)(w:World)(hs:s.size=0):
    Calls Tryz.prog 125 #[.string s] w fun e w'=> ∃v,e=.returned (.tuple #[v,.int .i64 (parseErr s.data.toList)])/\RefV w' v (parseVal s.data.toList)/\Below w.heap.size w w':=by
  have hn:s.data.toList=[]:=List.eq_nil_of_length_eq_zero (by rw[str_len];exact hs);have he:((s.size:Int)==0)=true:=by rw[beq_iff_eq];omega
  have hbad:parseErr s.data.toList=3:=parse_syn (.inl hn);have hval:parseVal s.data.toList=0:=parseVal_err (by rw[hbad];decide);rw[hbad,hval];clear hbad hval hs hn;go_enter Tryz.func125,Tryz.ntmps125;go_wp2;go_ret2;exact⟨_,rfl,RefV.zero _,Below.refl _ _⟩
set_option maxHeartbeats 1000000 in
theorem rparse_zero(s:ByteArray)(w:World)(hs:2<=s.size)(h0:((s[0].toNat:Int)==48)=true)(hh:s.data.toList.head?=some 48):
    Calls Tryz.prog 125 #[.string s] w fun e w'=> ∃v,e=.returned (.tuple #[v,.int .i64 (parseErr s.data.toList)])/\RefV w' v (parseVal s.data.toList)/\Below w.heap.size w w':=by
  have hne:s.data.toList≠[]:=fun e=>by have:=str_len s;rw[e]at this;simp at this;omega
  have he:((s.size:Int)==0)=false:=by rw[beq_eq_false_iff_ne];omega
  have hgt:(1:Int)<(s.size:Int):=by omega
  have hbad:parseErr s.data.toList=3:=parse_syn (.inr (.inl ⟨by rw[str_len];omega,hh⟩));have hval:parseVal s.data.toList=0:=parseVal_err (by rw[hbad];decide);rw[hbad,hval];clear hbad hval;go_enter Tryz.func125,Tryz.ntmps125;go_wp2;go_ret2;exact⟨_,rfl,RefV.zero _,Below.refl _ _⟩
theorem rparse_any(s:ByteArray)(w:World)(hl:s.size<=1000000):
    Calls Tryz.prog 125 #[.string s] w fun e w'=> ∃v,e=.returned (.tuple #[v,.int .i64 (parseErr s.data.toList)])/\RefV w' v (parseVal s.data.toList)/\Below w.heap.size w w':=by
  by_cases h0:s.size=0
  . exact rparse_nil s w h0
  by_cases h1:s.size=1
  . exact rparse_ok s w (by omega) hl (.inl h1)
  have h2:2<=s.size:=by omega
  have e:s.data.toList.head?=some s[0]:=by
    rw[List.head?_eq_getElem?,List.getElem?_eq_getElem (by rw[str_len];omega),str_at]
  by_cases hc:s[0]=48
  . exact rparse_zero s w h2 (by rw[hc];rfl) (by rw[e,hc])
  refine rparse_ok s w (by omega) hl (.inr ⟨?_,h2,by rw[e];simpa using hc⟩);rw[beq_eq_false_iff_ne];intro h;exact hc (UInt8.toNat_inj.1 (by show s[0].toNat=48;omega))
def cvL(xs ys:List Nat)(L k i:Nat):List Nat:=(List.range L).map fun t=>if t<k then cv xs ys t else if t=k then cv (xs.take i) ys k else 0
theorem cvL_len(xs ys:List Nat)(L k i:Nat):(cvL xs ys L k i).length=L:=by simp[cvL]
theorem cvL_at{xs ys:List Nat}{L k i:Nat}(h:k<L):(cvL xs ys L k i)[k]'(by rw[cvL_len];exact h)=cv (xs.take i) ys k:=by simp[cvL]
theorem cvL_set{xs ys:List Nat}{L k i x:Nat}(hx:x=cv (xs.take (i+1)) ys k):(cvL xs ys L k i).set k x=cvL xs ys L k (i+1):=by
  subst hx;refine List.ext_getElem (by simp[cvL]) fun t h1 h2=>?_
  rw[List.getElem_set];simp only[cvL,List.getElem_map,List.getElem_range]
  split
  . rename_i h;subst h;simp
  rename_i h
  have:t≠k:=fun e=>h e.symm
  simp[this]
theorem cvL_same{xs ys:List Nat}{L k i:Nat}(h:cv (xs.take (i+1)) ys k=cv (xs.take i) ys k):cvL xs ys L k i=cvL xs ys L k (i+1):=by unfold cvL;rw[h]
theorem cvL_next{xs ys:List Nat}{L k i:Nat}(h:xs.length<=i\/k<i):cvL xs ys L k i=cvL xs ys L (k+1) 0:=by
  unfold cvL;refine List.map_congr_left fun t _=>?_
  by_cases h1:t<k
  . rw[if_pos h1,if_pos (by omega)]
  by_cases h2:t=k
  . rw[if_neg h1,if_pos h2,if_pos (by omega),cv_take _ _ _ _ h,h2]
  rw[if_neg h1,if_neg h2,if_neg (by omega)]
  split
  . simp[cv]
  rfl
theorem cvL_start(xs ys:List Nat)(L:Nat):cvL xs ys L 0 0=List.replicate L 0:=by
  rw[List.eq_replicate_iff];refine⟨cvL_len ..,fun b hb=>?_⟩;obtain⟨t,_,rfl⟩:=List.mem_map.1 hb;simp[cv]
theorem cvL_end(xs ys:List Nat)(L:Nat):cvL xs ys L L 0=(List.range L).map (cv xs ys):=by
  unfold cvL;refine List.map_congr_left fun t ht=>?_
  rw[if_pos (List.mem_range.1 ht)]
structure MulR(W0:World)(D:Nat)(xs ys:List Nat)(L k i:Nat)(wr:World):Prop where
  arr:ArrI wr D (cvL xs ys L k i)
  old:Below D W0 wr
theorem MulR.step{W0 wr w':World}{D L:Nat}{xs ys:List Nat}{k i x y z:Nat}(h:MulR W0 D xs ys L k i wr)(hb:Below wr.heap.size wr w')(hz:cv (xs.take i) ys k=z)(hi:i<xs.length)(hx:xs[i]=x)(hy:ys.getD (k-i) 0=y)(hik:i<=k):
    MulR W0 D xs ys L k (i+1) (w'.setCell ⟨D,k,none⟩ (.int .i64 ((z+x*y:Nat):Int))):=by
  refine⟨?_,(h.old.trans (hb.mono (Nat.le_of_lt h.arr.lt))).setCell (p:=⟨D,k,none⟩) (Nat.le_refl _) _⟩;have:=(h.arr.below hb).store k (z+x*y)
  rwa [cvL_set (by rw[cv_take_succ _ _ _ _ hi hik,hz,hx,hy])]at this
set_option maxRecDepth 100000 in
set_option maxHeartbeats 4000000 in
theorem rmul_any(v u:Value)(n m:Nat)(w:World)(hv:RefV w v n)(hu:RefV w u m)(h1:(digs B6 n).length<=50000)(h2:(digs B6 m).length<=50000):
    Calls Tryz.prog 44 #[v,u] w fun e w'=> ∃v',e=.returned v'/\RefV w' v' (n*m)/\Below w.heap.size w w':=by
  obtain⟨i0,hi,hz0,hz1,hz2⟩:=info_parts infoI;obtain⟨p,cp,rfl,hpg⟩:=GV.slice hv;obtain⟨q,cq,rfl,hqg⟩:=GV.slice hu;have HPG:=hid hpg;have HQG:=hid hqg;have HXB:=hid (digs_lt b6_2 n);have HYB:=hid (digs_lt b6_2 m);have HVN:=hid (val_digs b6_2 n);have HVM:=hid (val_digs b6_2 m);obtain⟨xs,hxs⟩:∃xs,digs B6 n=xs:=⟨_,rfl⟩;obtain⟨ys,hys⟩:∃ys,digs B6 m=ys:=⟨_,rfl⟩;rw[hxs]at HPG HXB HVN h1⊢;rw[hys]at HQG HYB HVM h2⊢;clear hv hpg hxs hu hqg hys
  have HCB:=hid (fun(zs:List Nat) k (h:∀a∈zs,a<B6) (hl:zs.length<=50000)=>show cv zs ys k<=50000000000000000 from by
    have h3:=cv_le zs ys k 1000000 (fun a ha=>Nat.le_of_lt (h a ha)) (fun a ha=>Nat.le_of_lt (HYB.out a ha));have h4:zs.length*(1000000*1000000)<=50000*(1000000*1000000):=Nat.mul_le_mul_right _ hl;omega)
  go_enter Tryz.func44,Tryz.ntmps44;go_upto_region 2 with(at_make;go_loud (refine wpList_make_full _ rfl _ _ _ rfl w.heap.size 3 i0 _ 1 Tryz.underlying31 hi hz0 hz1 _ _ _ _ (xs.length+ys.length) rfl rfl (by simp) (by simp) (by rw[hz2];omega) (by unfold maxLen;omega) (Nat.le_refl _) ?_;intro w2 hown hgr;have hb2:Below w.heap.size w w2:=(Below.refl _ w).grown hgr (Nat.le_refl _) (by simp);have hA:=ari_made hown;clear hown hgr));have hat0:MulR w w.heap.size xs ys (xs.length+ys.length) 0 0 w2:=⟨by rw[cvL_start];exact hA,hb2⟩;clear hA hb2;go_wp2_with fail;go_loopw [6] (fun i wr=> ∃k:Nat,k<=xs.length+ys.length/\i=.int .i64 k/\MulR w w.heap.size xs ys (xs.length+ys.length) k 0 wr) (fun i _=>xs.length+ys.length-(intOf i).toNat)
  case atStart=>exact⟨0,Nat.zero_le _,rfl,hat0⟩
  clear hat0;obtain⟨k,hk,rfl,hat⟩:=hrel;generalize wr=W1 at hat⊢
  by_cases hlt:k<xs.length+ys.length
  . have hti:(k:Int)<((xs.length+ys.length:Nat):Int):=by omega
    have HAT:=hid hat;clear hat;go_upto_region 5 with(fail);go_wp2_with fail;go_loopw [7] (fun iv wr=> ∃i:Nat,i<=xs.length/\iv=.int .i64 i/\MulR w w.heap.size xs ys (xs.length+ys.length) k i wr) (fun iv _=>xs.length-(intOf iv).toNat)
    case atStart=>exact⟨0,Nat.zero_le _,rfl,HAT.out⟩
    clear HAT;obtain⟨i,hix,rfl,hat⟩:=hrel;generalize wr=W2 at hat⊢
    by_cases hik:i<=k
    . have hiki:(i:Int)<=(k:Int):=by omega
      by_cases hil:i<xs.length
      . have hili:(i:Int)<(xs.length:Int):=by omega
        obtain⟨j,hj⟩:∃j,j=k-i:=⟨_,rfl⟩;have ej:(k:Int)-(i:Int)=(j:Int):=by omega
        by_cases hjl:j<ys.length
        . have hjli:(j:Int)<(ys.length:Int):=by omega
          have hold:=hat.old;obtain⟨g,rfl,hg,_,_⟩:=HPG.out (fun e=>by subst e;simp at hil);obtain⟨g',rfl,hg',_,_⟩:=HQG.out (fun e=>by subst e;simp at hjl);have hg1:=(hg.below hold).at0 i hil;have hg2:=(hg'.below hold).at0 j hjl;have hgl:=Nat.lt_of_lt_of_le hg.lt hold.size;have hgl':=Nat.lt_of_lt_of_le hg'.lt hold.size;have hxk:=HXB.out _ (List.getElem_mem hil);have hyk:=HYB.out _ (List.getElem_mem hjl);have hzl:k<(cvL xs ys (xs.length+ys.length) k i).length:=by rw[cvL_len];exact hlt
          have hzc:=hat.arr.cell k hzl;rw[cvL_at hlt]at hzc;have hfr:=hat.arr.free;have hDl:=hat.arr.lt;have hzb:=HCB.out (xs.take i) k (fun a ha=>HXB.out a (List.mem_of_mem_take ha)) (by rw[List.length_take];omega);obtain⟨x,hx⟩:∃x,xs[i]=x:=⟨_,rfl⟩;obtain⟨y,hy⟩:∃y,ys[j]=y:=⟨_,rfl⟩;obtain⟨z,hz⟩:∃z,cv (xs.take i) ys k=z:=⟨_,rfl⟩;have HA:=hid hat.arr;have HS:=hid (fun w' (hb:Below W2.heap.size W2 w')=>hat.step hb hz hil hx (show ys.getD (k-i) 0=y by rw[<-hj, <-hy,List.getD_eq_getElem?_getD,List.getElem?_eq_getElem hjl];rfl) hik);rw[hx]at hg1 hxk;rw[hy]at hg2 hyk;rw[hz]at hzc hzb;unfold iCell at hg1 hg2;rw[b6]at hxk hyk;have hm1:x*y<=1000000*1000000:=Nat.mul_le_mul (by omega) (by omega);obtain⟨t,ht,ht2⟩:∃t:Nat,x*y=t/\(x:Int)*(y:Int)=(t:Int):=⟨_,rfl,by simp only[Int.natCast_mul]⟩;rw[ht]at HS hm1;have hHZ:=HS;clear hx hy hz ht hat hj HS;go_upto_region 9 with(fail);refine wp_region_staged (fun w'=>Below W2.heap.size W2 w') [0,0,0,1,0,0,0,1,0,0,0,0,0,1,0,0,0,2] (by kernel_rfl) (by kernel_rfl) (by kernel_rfl) (by exact(Below.refl _ _).drew) ?_
          iterate 3 (refine zs0 ?_)
          refine zs2 ?_
          iterate 3 (refine zs0 ?_)
          refine zs2 ?_
          iterate 5 (refine zs0 ?_)
          refine zs2 ?_
          iterate 3 (refine zs0 ?_)
          apply lexS (fun w'=>MulR w w.heap.size xs ys (xs.length+ys.length) k (i+1) w') rfl
          . intro w' hw';have c0:=(HA.out.below hw').cell k hzl;have f0:=(HA.out.below hw').free;go_simp;exact⟨rfl,hHZ.out w' hw'⟩
          simp only[Act.put];refine lexEnd (fun W5 hw5=>?_);go_wp2;go_roundw
          case rel=>exact⟨i+1,by omega,by go_num,hw5⟩
          case measure=>simp[intOf];omega
        have hjli:¬(j:Int)<(ys.length:Int):=by omega
        have hs:cv (xs.take (i+1)) ys k=cv (xs.take i) ys k:=by
          rw[cv_take_succ _ _ _ _ hil hik,List.getD_eq_getElem?_getD,List.getElem?_eq_none (by omega)];simp
        have hat2:MulR w w.heap.size xs ys (xs.length+ys.length) k (i+1) W2:=⟨by rw[<-cvL_same hs];exact hat.arr,hat.old⟩;clear hs hat hj;go_wp2;go_roundw
        case rel=>exact⟨i+1,by omega,by go_num,hat2⟩
        case measure=>simp[intOf];omega
      have hili:¬(i:Int)<(xs.length:Int):=by omega
      have hat2:MulR w w.heap.size xs ys (xs.length+ys.length) (k+1) 0 W2:=⟨by rw[<-cvL_next (i:=i) (.inl (by omega))];exact hat.arr,hat.old⟩;clear hat;go_wp2;go_roundw
      case rel=>exact⟨k+1,by omega,by go_num,hat2⟩
      case measure=>simp[intOf];omega
    have hiki:¬(i:Int)<=(k:Int):=by omega
    have hat2:MulR w w.heap.size xs ys (xs.length+ys.length) (k+1) 0 W2:=⟨by rw[<-cvL_next (i:=i) (.inr (by omega))];exact hat.arr,hat.old⟩;clear hat;go_wp2;go_roundw
    case rel=>exact⟨k+1,by omega,by go_num,hat2⟩
    case measure=>simp[intOf];omega
  obtain rfl:k=xs.length+ys.length:=by omega
  have hold:=hat.old;have harr:=hat.arr;rw[cvL_end]at harr;have hge:(List.map (cv xs ys) (List.range (xs.length+ys.length))).length=xs.length+ys.length:=by simp
  have hgv:=harr.gv (by rw[hge];unfold maxLen;omega);rw[hge]at hgv
  have HT:=hid (carried_any _ _ W1 hgv (by rw[hge];omega) (fun y hy=>by
    obtain⟨t,_,rfl⟩:=List.mem_map.1 hy;have:=HCB.out xs t HXB.out h1;omega))
  rw[val_cv xs ys _ (by omega) (by omega),HVN.out,HVM.out]at HT;clear hge hgv harr hat;have hti:¬((xs.length+ys.length:Nat):Int)<((xs.length+ys.length:Nat):Int):=by omega
  go_wp2_with (go_at_call 75;refine HT.out.mono ?_;clear HT;rintro e w3 ⟨v',rfl,hv',hw3⟩);go_ret;exact⟨_,rfl,hv',hold.trans (hw3.mono hold.size)⟩
def zCell(z:Int):Value:=.int .i64 z
theorem iCell_z(xs:List Nat):xs.map iCell=(xs.map fun x:Nat=>(x:Int)).map zCell:=by rw[List.map_map];rfl
def RowZ(W:World)(base:Nat)(v:Value)(zs:List Int):Prop:=W.ownsRow base 3 1 v zs.length (zs.map zCell)
theorem RowZ.of{W:World}{base:Nat}{v:Value}{xs:List Nat}(h:RowI W base v xs):RowZ W base v (xs.map fun x:Nat=>(x:Int)):=by
  unfold RowZ;rw[<-iCell_z,List.length_map];exact h
theorem RowZ.to{W:World}{base:Nat}{v:Value}{xs:List Nat}{zs:List Int}(h:RowZ W base v zs)(e:zs=xs.map fun x:Nat=>(x:Int)):RowI W base v xs:=by
  subst e;unfold RowZ at h;rw[<-iCell_z,List.length_map]at h;exact h
theorem RowZ.slice{W:World}{base:Nat}{v:Value}{zs:List Int}(h:RowZ W base v zs)(hn:zs≠[]):∃g cap,v=.slice (some ⟨g,0,none⟩) zs.length cap/\base<=g:=by
  have hk:0<zs.length:=List.length_pos_iff.2 hn;obtain⟨g,cap,rfl,hg,_⟩:=row1_cell h (by simp) (k:=0) (by simpa using hk);exact⟨g,cap,rfl,hg⟩
theorem RowZ.at{W:World}{base g cap n:Nat}{zs:List Int}(h:RowZ W base (.slice (some ⟨g,0,none⟩) n cap) zs){k:Nat}(hk:k<zs.length):W.cell? ⟨g,k,none⟩=some (.int .i64 zs[k]):=by
  obtain⟨g',cap',e0,_,hc⟩:=row1_cell h (by simp) (k:=k) (by simpa using hk)
  injection e0 with e1
  injection e1 with e1
  injection e1 with e1
  subst e1;rw[hc,List.getElem_map];rfl
theorem RowZ.lt{W:World}{base g cap n:Nat}{zs:List Int}(h:RowZ W base (.slice (some ⟨g,0,none⟩) n cap) zs):g<W.heap.size:=(row1_lt h g rfl).2
theorem RowZ.free{W:World}{base g cap n:Nat}{zs:List Int}(h:RowZ W base (.slice (some ⟨g,0,none⟩) n cap) zs)(hn:n=zs.length):∀o,W.frozen? ⟨g,o,none⟩=false:=by
  subst hn;exact row1_free h
theorem RowZ.below{W W':World}{base:Nat}{v:Value}{zs:List Int}(h:RowZ W base v zs)(hb:Below W.heap.size W W'):RowZ W' base v zs:=row_kept_low h hb
theorem RowZ.set{W:World}{base g cap n:Nat}{zs:List Int}(h:RowZ W base (.slice (some ⟨g,0,none⟩) n cap) zs)(hn:n=zs.length)(k:Nat)(hk:k<zs.length)(z:Int):RowZ (W.setCell ⟨g,k,none⟩ (.int .i64 z)) base (.slice (some ⟨g,0,none⟩) n cap) (zs.set k z):=by
  subst hn;have:=row1_set h k (zCell z) hk;unfold RowZ;rw[List.length_set,List.map_set];exact this
def subTail(b:Int):List Nat->List Int
  |[]=>[]
  |x::r=>((x:Int)-b)::r.map fun x:Nat=>(x:Int)
theorem subTail_zero(r:List Nat):subTail 0 r=r.map fun x:Nat=>(x:Int):=by cases r<;>simp[subTail]
structure SubR(W0:World)(v:Value)(xs ys:List Nat)(k b:Nat)(wr:World):Prop where
  row:∃os:List Nat,RowZ wr W0.heap.size v (os.map (fun x:Nat=>(x:Int))++subTail b (xs.drop k))/\os.length=k/\(∀x∈os,x<B6)/\val B6 os+val B6 (ys.take k)=val B6 (xs.take k)+B6^k*b
  old:Below W0.heap.size W0 wr
  b1:b<=1
theorem sub_last{xs ys os:List Nat}{L b:Nat}(hL:xs.length=L)(ho:os.length=L)(hb:∀x∈os,x<B6)(hv:val B6 os+val B6 (ys.take L)=val B6 (xs.take L)+B6^L*b)(hle:val B6 ys<=val B6 xs):b=0:=by
  have h1:val B6 os<B6^L:=by
    have:=val_lt b6_2 hb
    rwa [ho]at this
  rw[List.take_of_length_le (show xs.length<=L by omega)]at hv
  have h2:val B6 (ys.take L)<=val B6 ys:=by
    by_cases h:L<=ys.length
    . rw[val_take_drop ys L h];exact Nat.le_add_right _ _
    rw[List.take_of_length_le (by omega)];exact Nat.le_refl _
  rcases Nat.eq_zero_or_pos b with h|h
  . exact h
  have:B6^L*1<=B6^L*b:=Nat.mul_le_mul_left _ h;omega
theorem subr_val{xs ys os:List Nat}{k b x y t b':Nat}(ho:os.length=k)(hv:val B6 os+val B6 (ys.take k)=val B6 (xs.take k)+B6^k*b)(hx:val B6 (xs.take (k+1))=val B6 (xs.take k)+B6^k*x)(hy:val B6 (ys.take (k+1))=val B6 (ys.take k)+B6^k*y)
    (ht:t+b+y=x+1000000*b'):val B6 (os++[t])+val B6 (ys.take (k+1))=val B6 (xs.take (k+1))+B6^(k+1)*b':=by
  rw[val_snoc,hx,hy,ho,Nat.pow_succ,Nat.mul_assoc,b6];rw[b6]at hv;generalize (1000000:Nat)^k=p at*;have e:p*t+p*b+p*y=p*x+p*(1000000*b'):=by rw[<-Nat.mul_add, <-Nat.mul_add,ht,Nat.mul_add]
  omega
theorem at_mid(os:List Int)(z:Int)(r:List Int){k:Nat}(h:os.length=k)(hk:k<(os++z::r).length):(os++z::r)[k]=z:=by subst h;simp
theorem set_mid(os:List Int)(z z':Int)(r:List Int){k:Nat}(h:os.length=k):(os++z::r).set k z'=os++z'::r:=by subst h;simp
theorem set_mid1(os:List Int)(t z z':Int)(r:List Int){k:Nat}(h:os.length=k):(os++t::z::r).set (k+1) z'=os++t::z'::r:=by
  have:=set_mid (os++[t]) z z' r (k:=k+1) (by simp[h])
  simpa using this
theorem at_mid1(os:List Int)(t z:Int)(r:List Int){k:Nat}(h:os.length=k)(hk:k+1<(os++t::z::r).length):(os++t::z::r)[k+1]=z:=by
  subst h;simp
theorem SubR.keep{W0 wr w':World}{v:Value}{xs ys os r:List Nat}{k b x y t:Nat}(_h:SubR W0 v xs ys k b wr)(ho:os.length=k)(hob:∀x∈os,x<B6)(hv:val B6 os+val B6 (ys.take k)=val B6 (xs.take k)+B6^k*b)(hd:xs.drop k=x::r)(hk:k<xs.length)(hy:val B6 (ys.take (k+1))=val B6 (ys.take k)+B6^k*y)(ht:t+b+y=x)(hx1:x<1000000)
    (hrow:RowZ w' W0.heap.size v (os.map (fun x:Nat=>(x:Int))++((t:Nat):Int)::r.map fun x:Nat=>(x:Int))) (hold:Below W0.heap.size W0 w'):SubR W0 v xs ys (k+1) 0 w':=by
  have hx:xs[k]=x:=by rw[List.drop_eq_getElem_cons hk]at hd;exact(List.cons.inj hd).1
  have hr:xs.drop (k+1)=r:=by rw[List.drop_eq_getElem_cons hk]at hd;exact(List.cons.inj hd).2
  refine⟨⟨os++[t],?_,by simp[ho],fun z hz=>?_,subr_val ho hv (by rw[val_take_succ hk,hx]) hy (by omega)⟩,hold,by omega⟩
  . rw[hr,show((0:Nat):Int)=0 from rfl,subTail_zero]
    simpa using hrow
  rcases List.mem_append.1 hz with h1|h1
  . exact hob z h1
  simp only[List.mem_cons,List.not_mem_nil,or_false]at h1;rw[h1,b6];omega
theorem SubR.bor{W0 wr w':World}{v:Value}{xs ys os r:List Nat}{k b x y t x':Nat}(_h:SubR W0 v xs ys k b wr)(ho:os.length=k)(hob:∀x∈os,x<B6)(hv:val B6 os+val B6 (ys.take k)=val B6 (xs.take k)+B6^k*b)(hd:xs.drop k=x::x'::r)(hk:k<xs.length)(hy:val B6 (ys.take (k+1))=val B6 (ys.take k)+B6^k*y)(ht:t+b+y=x+1000000)(ht1:t<1000000)
    (hrow:RowZ w' W0.heap.size v (os.map (fun x:Nat=>(x:Int))++((t:Nat):Int)::(((x':Nat):Int)-1)::r.map fun x:Nat=>(x:Int))) (hold:Below W0.heap.size W0 w'):SubR W0 v xs ys (k+1) 1 w':=by
  have hx:xs[k]=x:=by rw[List.drop_eq_getElem_cons hk]at hd;exact(List.cons.inj hd).1
  have hr:xs.drop (k+1)=x'::r:=by rw[List.drop_eq_getElem_cons hk]at hd;exact(List.cons.inj hd).2
  refine⟨⟨os++[t],?_,by simp[ho],fun z hz=>?_,subr_val ho hv (by rw[val_take_succ hk,hx]) hy (by omega)⟩,hold,by omega⟩
  . rw[hr]
    simpa[subTail]using hrow
  rcases List.mem_append.1 hz with h1|h1
  . exact hob z h1
  simp only[List.mem_cons,List.not_mem_nil,or_false]at h1;rw[h1,b6];omega
theorem ys_here{ys:List Nat}{k:Nat}(h:k<ys.length):val B6 (ys.take (k+1))=val B6 (ys.take k)+B6^k*ys[k]:=val_take_succ h
theorem ys_gone{ys:List Nat}{k:Nat}(h:ys.length<=k):val B6 (ys.take (k+1))=val B6 (ys.take k)+B6^k*0:=by
  rw[List.take_of_length_le (by omega),List.take_of_length_le h];simp
theorem sub_more{xs ys os r:List Nat}{k b x y t:Nat}(ho:os.length=k)(hob:∀x∈os,x<B6)(hv:val B6 os+val B6 (ys.take k)=val B6 (xs.take k)+B6^k*b)(hd:xs.drop k=x::r)(hk:k<xs.length)(hy:val B6 (ys.take (k+1))=val B6 (ys.take k)+B6^k*y)(ht:t+b+y=x+1000000)(ht1:t<1000000)(hle:val B6 ys<=val B6 xs):∃x' r',r=x'::r':=by
  have hx:xs[k]=x:=by rw[List.drop_eq_getElem_cons hk]at hd;exact(List.cons.inj hd).1
  cases r with
  |cons x' r'=>exact⟨_,_,rfl⟩
  | nil=>
    have hl:xs.length=k+1:=by have:=congrArg List.length hd;rw[List.length_drop]at this;simp at this;omega
    have:=sub_last hl (os:=os++[t]) (by simp[ho]) (fun z hz=>by
      rcases List.mem_append.1 hz with h1|h1
      . exact hob z h1
      simp only[List.mem_cons,List.not_mem_nil,or_false]at h1;rw[h1,b6];exact ht1) (subr_val ho hv (by rw[val_take_succ hk,hx]) hy (b':=1) (by omega)) hle
    omega
theorem rsub_err(v u:Value)(n m:Nat)(w:World)(hv:RefV w v n)(hu:RefV w u m)(h1:(digs B6 n).length<=900000)(h2:(digs B6 m).length<=900000)(hlt:n<m):
    Calls Tryz.prog 48 #[v,u] w fun e w'=>e=.returned (.tuple #[.slice none 0 0,.int .i64 2])/\Below w.heap.size w w':=by
  have HC:=hid (rcmp_any v u n m w hv hu h1 h2);rw[cmpN_lt hlt]at HC;clear hv hu h1 h2 hlt;go_enter Tryz.func48,Tryz.ntmps48;go_wp2_with (go_at_call 47;refine HC.out.mono ?_;clear HC;rintro e w1 ⟨rfl,hw1⟩);go_ret2;exact⟨rfl,hw1⟩
set_option maxRecDepth 100000 in
set_option maxHeartbeats 4000000 in
theorem rsub_ok(v u:Value)(n m:Nat)(w:World)(hv:RefV w v n)(hu:RefV w u m)(h1:(digs B6 n).length<=900000)(h2:(digs B6 m).length<=900000)(hle:m<=n):
    Calls Tryz.prog 48 #[v,u] w fun e w'=> ∃v',e=.returned (.tuple #[v',.int .i64 0])/\RefV w' v' (n-m)/\Below w.heap.size w w':=by
  obtain⟨i0,hi,hz0,hz1,hz2⟩:=info_parts infoI;have HC:=hid (fun w1 (hb:Below w.heap.size w w1)=>rcmp_any v u n m w1 (hv.below hb) (hu.below hb) h1 h2);have hcn:¬cmpN n m<0:=by unfold cmpN;rw[if_neg (by omega)];split<;>omega
  obtain⟨p,cp,rfl,hpg⟩:=GV.slice hv;obtain⟨q,cq,rfl,hqg⟩:=GV.slice hu;have HPG:=hid hpg;have HQG:=hid hqg;have HXB:=hid (digs_lt b6_2 n);have HYB:=hid (digs_lt b6_2 m);have HVN:=hid (val_digs b6_2 n);have HVM:=hid (val_digs b6_2 m);obtain⟨xs,hxs⟩:∃xs,digs B6 n=xs:=⟨_,rfl⟩;obtain⟨ys,hys⟩:∃ys,digs B6 m=ys:=⟨_,rfl⟩;rw[hxs]at HPG HXB HVN HC h1⊢;rw[hys]at HQG HYB HVM HC h2⊢;have HLE:=hid (show val B6 ys<=val B6 xs by rw[HVN.out,HVM.out];exact hle);have HLEN:=hid hle;obtain⟨cm,hcm⟩:∃cm,cmpN n m=cm:=⟨_,rfl⟩;rw[hcm]at hcn HC;have HYS:=hid hys;clear hv hpg hxs hu hqg hys hle hcm;go_enter Tryz.func48,Tryz.ntmps48;go_upto_region 3 with(go_at_call 47;refine(HC.out _ (Below.refl _ _)).mono ?_;clear HC;rintro e w1 ⟨rfl,hw1⟩)
  have hpsrc:xs.length=0\/ ∃ad,p=some ad/\ ∀j u,(xs.map iCell)[j]?=some u->(w1.alloc (.cells #[] 3)).cell? (ad.add j)=some u:=by
    by_cases hx0:xs=[]
    . exact .inl (by rw[hx0];rfl)
    obtain⟨g,rfl,hg,_,_⟩:=HPG.out hx0;refine .inr ⟨_,rfl,fun j u hu=>?_⟩;have hgb:=(hg.below hw1).below ((Below.refl w1.heap.size w1).alloc (Nat.le_refl _) (.cells #[] 3));obtain⟨hi',rfl⟩:=List.getElem?_eq_some_iff.1 hu;rw[add_at,List.getElem_map];exact hgb.at0 j (by simpa using hi')
  go_upto_region 4 with(at_builtin;go_loud (refine wpList_append_two rfl _ _ 31 32 rfl w.heap.size 3 3 i0 _ 8 Tryz.underlying31 Tryz.underlying32 hi hz0 hz1 hz2 rfl _ 0 [] rfl (row_empty w1 3 _ hw1.size) p xs.length cp (xs.map iCell) rfl (by simp) hpsrc (all_i _) (by simp[maxLen];omega) (by omega) (by have:=hw1.size;simp;omega) ?_;intro v' w2 hown hgr;have hb2:=(hw1.alloc hw1.size _).grown hgr (by have:=hw1.size;simp;omega) (fun k' hk'=>by injection hk' with hk';subst hk';exact hw1.size)))
  have hrow0:RowI w2 w.heap.size v' xs:=by
    unfold RowI
    simpa using hown
  have hat0:SubR w v' xs ys 0 0 w2:=⟨⟨[],by have:=RowZ.of hrow0;rw[List.drop_zero,show((0:Nat):Int)=0 from rfl,subTail_zero];exact this,rfl,fun x h=>absurd h (List.not_mem_nil),by simp[val]⟩,hb2,by omega⟩;clear hrow0 hown hgr hb2 hpsrc hw1;generalize v'=o at hat0⊢;go_wp2_with fail;go_loopw [7] (fun i wr=> ∃k b:Nat,k<=xs.length/\i=.int .i64 k/\SubR w o xs ys k b wr) (fun i _=>xs.length-(intOf i).toNat)
  case atStart=>exact⟨0,0,Nat.zero_le _,rfl,hat0⟩
  clear hat0;obtain⟨k,b,hk,rfl,hat⟩:=hrel;generalize wr=W1 at hat⊢
  by_cases hlt:k<xs.length
  . obtain⟨os,hrow,hol,hob,hov⟩:=hat.row;have hold:=hat.old;have hb1:=hat.b1;have hxb:=HXB.out _ (List.getElem_mem hlt);obtain⟨x,hx⟩:∃x,xs[k]=x:=⟨_,rfl⟩;rw[hx,b6]at hxb;obtain⟨r,hr⟩:∃r,xs.drop k=x::r:=⟨_,by rw[List.drop_eq_getElem_cons hlt,hx]⟩;have hrl:k+1+r.length=xs.length:=by have:=congrArg List.length hr;rw[List.length_drop,List.length_cons]at this;omega
    have HKEEP:=hid (fun(w':World) (t y:Nat) hy ht hrow' hold'=>SubR.keep (w':=w') (t:=t) (y:=y) hat hol hob hov hr hlt hy ht hxb hrow' hold');have HBOR:=hid (fun(w':World) (t y x':Nat) (r':List Nat) (e:r=x'::r') hy ht ht1 hrow' hold'=>SubR.bor (w':=w') (t:=t) (y:=y) hat hol hob hov (hr.trans (by rw[e])) hlt hy ht ht1 hrow' hold');have HMORE:=hid (fun(t y:Nat) hy ht ht1=>sub_more (t:=t) (y:=y) hol hob hov hr hlt hy ht ht1 HLE.out);have HR3:=hid hr;rw[hr]at hrow;obtain⟨z,hz⟩:∃z:Int,(x:Int)-(b:Int)=z:=⟨_,rfl⟩;rw[show subTail (b:Int) (x::r)=((x:Int)-b)::r.map (fun x:Nat=>(x:Int))from rfl,hz]at hrow;have hos:(os.map (fun x:Nat=>(x:Int))).length=k:=by simpa using hol
    have hlen:∀t:Int,(os.map (fun x:Nat=>(x:Int))++t::r.map (fun x:Nat=>(x:Int))).length=xs.length:=fun t=>by rw[List.length_append,hos,List.length_cons,List.length_map];omega
    clear hat hx hr hob hov;obtain⟨g,cap,e0,hg⟩:=hrow.slice (by simp);rw[hlen]at e0;subst e0;have HZ:=hid hz;have c0:=hrow.at (k:=k) (by rw[hlen];exact hlt);rw[at_mid _ _ _ hos]at c0;have f0:=hrow.free (hlen z).symm;have hgl:=hrow.lt;clear hz;have hti:(k:Int)<(xs.length:Int):=by omega
    by_cases hyl:k<ys.length
    . have hyi:(k:Int)<(ys.length:Int):=by omega
      obtain⟨g',rfl,hg',_,_⟩:=HQG.out (fun e=>by subst e;simp at hyl);have g1:=(hg'.below hold).at0 k hyl;have gl':=Nat.lt_of_lt_of_le hg'.lt hold.size;have hyb:=HYB.out _ (List.getElem_mem hyl);have HY:=hid (ys_here hyl);obtain⟨y,hy⟩:∃y,ys[k]=y:=⟨_,rfl⟩;rw[hy]at g1 hyb HY;rw[b6]at hyb;unfold iCell at g1;obtain⟨tz,htz⟩:∃tz:Int,z-(y:Int)=tz:=⟨_,rfl⟩;have hzb:z<=1000000/\ -1<=z:=by have:=HZ.out;omega
      have hzb1:=hzb.1;have hzb2:=hzb.2;have HTZ:=hid (show(x:Int)-b-y=tz by rw[HZ.out];exact htz);clear hy hzb;have HW:=hid hrow;go_upto_region 8 with(fail);refine wp_region_staged (fun w'=>Below W1.heap.size W1 w') [0,0,0,1,0,0,0,1,0,0,2] (by kernel_rfl) (by kernel_rfl) (by kernel_rfl) (by exact(Below.refl _ _).drew) ?_
      iterate 3 (refine zs0 ?_)
      refine zs2 ?_
      iterate 3 (refine zs0 ?_)
      refine zs2 ?_
      iterate 2 (refine zs0 ?_)
      apply lexS (fun w'=>RowZ w' w.heap.size (.slice (some ⟨g,0,none⟩) xs.length cap) (os.map (fun x:Nat=>(x:Int))++tz::r.map (fun x:Nat=>(x:Int)))/\Below w.heap.size w w') rfl
      . intro w' hw';have hr':=HW.out.below hw';have c1:=hr'.at (k:=k) (by rw[hlen];exact hlt);rw[at_mid _ _ _ hos]at c1;have f1:=hr'.free (hlen z).symm;go_simp;refine⟨rfl,?_,(hold.trans (hw'.mono hold.size)).setCell (p:=⟨g,k,none⟩) hg _⟩;have:=hr'.set (hlen z).symm k (by rw[hlen];exact hlt) tz
        rwa [set_mid _ _ _ _ hos]at this
      simp only[Act.put];refine lexEnd (fun W5 hw5=>?_);obtain⟨HR,HB⟩:=hw5;clear c0 f0 g1 htz;have c1:=HR.at (k:=k) (by rw[hlen];exact hlt);rw[at_mid _ _ _ hos]at c1;have f1:=HR.free (hlen tz).symm;have hgl1:=HR.lt;have hzr:=HTZ.out
      by_cases hneg:tz<0
      . obtain⟨t,ht⟩:∃t:Nat,tz+1000000=(t:Int):=⟨(tz+1000000).toNat,by omega⟩;have htb:t<1000000:=by omega
        have hte:t+b+y=x+1000000:=by omega
        obtain⟨x',r',hre⟩:=HMORE.out t y HY.out hte htb;have HBO:=hid (fun w'=>HBOR.out w' t y x' r' hre HY.out hte htb);subst hre
        have hx':(x':Int)<=1000000:=by
          have h3:=HXB.out x' (by
            have:=HR3.out;rw[<-List.take_append_drop k xs,this];simp)
          rw[b6]at h3;omega
        clear hzr hte;go_upto_region 10 with(fail);go_upto_region 11 with(fail)
        obtain⟨W6,hW6,hR6,hB6⟩:∃W6,W6=W5.setCell ⟨g,k,none⟩ (.int .i64 (t:Int))/\RowZ W6 w.heap.size (.slice (some ⟨g,0,none⟩) xs.length cap) (os.map (fun x:Nat=>(x:Int))++(t:Int)::(x':Int)::r'.map (fun x:Nat=>(x:Int)))/\Below w.heap.size w W6:=by
          refine⟨_,rfl,?_,HB.setCell (p:=⟨g,k,none⟩) hg _⟩;have:=HR.set (hlen tz).symm k (by rw[hlen];exact hlt) (t:Int)
          rwa [set_mid _ _ _ _ hos]at this
        rw[<-hW6];clear hW6 c1 f1 hgl1;have hl6:(os.map (fun x:Nat=>(x:Int))++(t:Int)::(x':Int)::r'.map (fun x:Nat=>(x:Int))).length=xs.length:=hlen t;have hk1:k+1<xs.length:=by rw[List.length_cons]at hrl;omega
        have c2:=hR6.at (k:=k+1) (by rw[hl6];exact hk1);rw[at_mid1 _ _ _ _ hos]at c2;have f2:=hR6.free hl6.symm;have hgl2:=hR6.lt;have hR7:=hR6.set hl6.symm (k+1) (by rw[hl6];exact hk1) ((x':Int)-1);rw[set_mid1 _ _ _ _ _ hos]at hR7;have hk1i:(k:Int)+1<(xs.length:Int):=by omega
        go_wp2;go_roundw
        case rel=>exact⟨k+1,1,by omega,by go_num,HBO.out _ hR7 (hB6.setCell (p:=⟨g,k+1,none⟩) hg _)⟩
        case measure=>simp[intOf];omega
      obtain⟨t,rfl⟩:∃t:Nat,tz=(t:Int):=⟨tz.toNat,by omega⟩;have hK:=HKEEP.out W5 t y HY.out (by omega) HR HB;clear hzr;go_wp2;go_roundw
      case rel=>exact⟨k+1,0,by omega,by go_num,hK⟩
      case measure=>simp[intOf];omega
    have hyi:¬(k:Int)<(ys.length:Int):=by omega
    have HY:=hid (ys_gone (k:=k) (ys:=ys) (by omega));have HTZ:=hid (show(x:Int)-b-((0:Nat):Int)=z by rw[HZ.out];simp);have HR:=hrow;have HB:=hold;generalize z=tz at*;go_upto_region 9 with(fail);clear c0 f0 hgl;have c1:=HR.at (k:=k) (by rw[hlen];exact hlt);rw[at_mid _ _ _ hos]at c1;have f1:=HR.free (hlen tz).symm;have hgl1:=HR.lt;have hzr:=HTZ.out
    by_cases hneg:tz<0
    . obtain⟨t,ht⟩:∃t:Nat,tz+1000000=(t:Int):=⟨(tz+1000000).toNat,by omega⟩;have htb:t<1000000:=by omega
      have hte:t+b+0=x+1000000:=by omega
      obtain⟨x',r',hre⟩:=HMORE.out t 0 HY.out hte htb;have HBO:=hid (fun w'=>HBOR.out w' t 0 x' r' hre HY.out hte htb);subst hre
      have hx':(x':Int)<=1000000:=by
        have h3:=HXB.out x' (by
          have:=HR3.out;rw[<-List.take_append_drop k xs,this];simp)
        rw[b6]at h3;omega
      clear hzr hte;go_upto_region 10 with(fail);go_upto_region 11 with(fail)
      obtain⟨W6,hW6,hR6,hB6⟩:∃W6,W6=W1.setCell ⟨g,k,none⟩ (.int .i64 (t:Int))/\RowZ W6 w.heap.size (.slice (some ⟨g,0,none⟩) xs.length cap) (os.map (fun x:Nat=>(x:Int))++(t:Int)::(x':Int)::r'.map (fun x:Nat=>(x:Int)))/\Below w.heap.size w W6:=by
        refine⟨_,rfl,?_,HB.setCell (p:=⟨g,k,none⟩) hg _⟩;have:=HR.set (hlen tz).symm k (by rw[hlen];exact hlt) (t:Int)
        rwa [set_mid _ _ _ _ hos]at this
      rw[<-hW6];clear hW6 c1 f1 hgl1;have hl6:(os.map (fun x:Nat=>(x:Int))++(t:Int)::(x':Int)::r'.map (fun x:Nat=>(x:Int))).length=xs.length:=hlen t;have hk1:k+1<xs.length:=by rw[List.length_cons]at hrl;omega
      have c2:=hR6.at (k:=k+1) (by rw[hl6];exact hk1);rw[at_mid1 _ _ _ _ hos]at c2;have f2:=hR6.free hl6.symm;have hgl2:=hR6.lt;have hR7:=hR6.set hl6.symm (k+1) (by rw[hl6];exact hk1) ((x':Int)-1);rw[set_mid1 _ _ _ _ _ hos]at hR7;have hk1i:(k:Int)+1<(xs.length:Int):=by omega
      go_wp2;go_roundw
      case rel=>exact⟨k+1,1,by omega,by go_num,HBO.out _ hR7 (hB6.setCell (p:=⟨g,k+1,none⟩) hg _)⟩
      case measure=>simp[intOf];omega
    obtain⟨t,rfl⟩:∃t:Nat,tz=(t:Int):=⟨tz.toNat,by omega⟩;have hK:=HKEEP.out W1 t 0 HY.out (by omega) HR HB;clear hzr;go_wp2;go_roundw
    case rel=>exact⟨k+1,0,by omega,by go_num,hK⟩
    case measure=>simp[intOf];omega
  obtain rfl:k=xs.length:=by omega
  obtain⟨os,hrow,hol,hob,hov⟩:=hat.row;have hold:=hat.old;have hb0:=sub_last rfl hol hob hov HLE.out;subst hb0;rw[List.drop_length]at hrow;have hri:RowI W1 w.heap.size o os:=hrow.to (by simp[subTail]);have HT:=hid (without_any o os W1 hri.gv (by omega))
  have hve:val B6 os=n-m:=by
    have h3:val B6 (ys.take xs.length)=m:=by
      rw[<-HVM.out]
      by_cases h:xs.length<ys.length
      . exfalso
        have h4:=val_lt b6_2 HXB.out;rw[HVN.out]at h4;have h5:=HLEN.out;have h6:(digs B6 m).length<=xs.length:=digs_len_le b6_2 _ _ (by omega);rw[HYS.out]at h6;omega
      rw[List.take_of_length_le (by omega)]
    rw[h3,List.take_length,HVN.out]at hov;omega
  rw[<-digs_val b6_2 hob,hve]at HT;obtain⟨po,co,e0⟩:=row_slice hri;rw[hol]at e0;subst e0;clear hve hov hrow hri hat;have hti:¬(xs.length:Int)<(xs.length:Int):=by omega
  go_wp2_with (go_at_call 76;refine HT.out.mono ?_;clear HT;rintro e w3 ⟨v',rfl,hv',hw3⟩);go_ret2;exact⟨_,rfl,hv',hold.trans (hw3.mono hold.size)⟩
set_option maxRecDepth 100000 in
set_option maxHeartbeats 2000000 in
theorem ruint_any(v:Value)(n:Nat)(w:World)(hv:RefV w v n)(h1:(digs B6 n).length<=900000):
    Calls Tryz.prog 126 #[v] w fun e w'=>e=.returned (u64V n)/\Below w.heap.size w w':=by
  obtain⟨p,cp,rfl,hpg⟩:=GV.slice hv;have HPG:=hid hpg;have HXB:=hid (digs_lt b6_2 n);have HVN:=hid (val_digs b6_2 n);obtain⟨xs,hxs⟩:∃xs,digs B6 n=xs:=⟨_,rfl⟩;rw[hxs]at HPG HXB HVN h1⊢;obtain⟨u,hu⟩:∃u,u64V n=u:=⟨_,rfl⟩;have HU:=hid hu;rw[hu];clear hv hpg hxs hu;go_enter Tryz.func126,Tryz.ntmps126;go_wp2_with fail;go_loopw [4,5] (fun nv i wr=> ∃k T:Nat,k<=xs.length/\i=.int .i64 ((k:Int)-1)/\nv=.int .u64 (T:Int)/\T<18446744073709551616/\Hid (T=val B6 (xs.drop k))/\Below w.heap.size w wr) (fun _ i _=>(intOf i+1).toNat)
  case atStart=>exact⟨xs.length,0,Nat.le_refl _,rfl,rfl,by omega,hid (by rw[List.drop_length];rfl),Below.refl _ _⟩
  obtain⟨k,T,hk,rfl,rfl,hT,HT,hbw⟩:=hrel;generalize wr=W1 at hbw⊢
  by_cases hk0:k=0
  . subst hk0
    have HE:=hid (show u=.tuple #[.int .u64 (T:Int),.bool true] by
      have e:T=n:=by have:=HT.out;rw[List.drop_zero]at this;rw[this,HVN.out]
      rw[<-HU.out];unfold u64V;rw[<-e,if_pos hT,decide_eq_true hT])
    go_wp2;go_ret2;exact⟨HE.out.symm▸rfl,hbw⟩
  obtain⟨j,rfl⟩:∃j,k=j+1:=⟨k-1,by omega⟩;have hj:j<xs.length:=by omega
  have ei:(((j+1:Nat):Int)-1)=(j:Int):=by omega
  rw[ei];clear ei;obtain⟨g,rfl,hg,_,_⟩:=HPG.out (fun e=>by subst e;simp at hj);have g0:=(hg.below hbw).at0 j hj;unfold iCell at g0;have gl:=Nat.lt_of_lt_of_le hg.lt hbw.size;have q0:0<=(j:Int):=by omega
  have hx1:=HXB.out _ (List.getElem_mem hj);rw[b6]at hx1;obtain⟨x,hx⟩:∃x,xs[j]=x:=⟨_,rfl⟩;have HN:=hid (show x+1000000*T=val B6 (xs.drop j) by rw[val_drop hj, <-HT.out,hx,b6]);rw[hx]at g0 hx1;clear hx
  by_cases hbig:(18446744073709551615-x)/1000000<T
  . have HE:=hid (show u=.tuple #[.int .u64 0,.bool false] by
      have e:¬n<18446744073709551616:=by
        have h3:=val_take_drop (B:=B6) xs j (by omega);rw[HVN.out, <-HN.out]at h3;have h4:1*(x+1000000*T)<=B6^j*(x+1000000*T):=Nat.mul_le_mul_right _ (Nat.pow_pos (by decide));omega
      rw[<-HU.out];unfold u64V;rw[if_neg e,decide_eq_false e])
    have q:(18446744073709551615-(x:Int))/1000000<(T:Int):=by omega
    clear hbig;go_wp2;go_ret2;exact⟨HE.out.symm▸rfl,hbw⟩
  have q:¬(18446744073709551615-(x:Int))/1000000<(T:Int):=by omega
  have hb:x+1000000*T<18446744073709551616:=by omega
  have hbi:(T:Int)*1000000+(x:Int)<=18446744073709551615:=by omega
  clear hbig;go_upto_region 8 with(fail);have e2:(T:Int)*1000000+(x:Int)=((x+1000000*T:Nat):Int):=by omega
  obtain⟨t,ht⟩:∃t,x+1000000*T=t:=⟨_,rfl⟩;rw[ht]at hb e2 HN;clear q ht;go_wp2;go_roundw
  case rel=>exact⟨j,t,by omega,by go_num,rfl,hb,HN,hbw⟩
  case measure=>simp[intOf]
structure HalfAt(W0:World)(D L:Nat)(xs:List Nat)(k od:Nat)(wr:World):Prop where
  arr:∃ys,ArrI wr D ys/\ys.length=L/\(∀y∈ys,y<B6)/\val B6 (ys.drop k)*2+od=val B6 (xs.drop k)
  old:Below D W0 wr
  o1:od<=1
theorem HalfAt.step{W0 wr:World}{D L:Nat}{xs:List Nat}{j od x:Nat}(h:HalfAt W0 D L xs (j+1) od wr)(hL:xs.length=L)(hj:j<xs.length)(hx:xs[j]=x)(hx1:x<1000000):
    HalfAt W0 D L xs j ((od*1000000+x)%2) (wr.setCell ⟨D,j,none⟩ (.int .i64 (((od*1000000+x)/2:Nat):Int))):=by
  have ho:=h.o1;obtain⟨⟨ys,h1,h2,h3,h4⟩,h5,_⟩:=h;refine⟨⟨ys.set j ((od*1000000+x)/2),h1.store _ _,by simpa using h2,all_set h3 (by rw[b6];omega),?_⟩,h5.setCell (p:=⟨D,j,none⟩) (Nat.le_refl _) _,by omega⟩;rw[val_drop_set (by omega),val_drop hj,hx, <-h4,b6];omega
theorem digs6_mul{n m:Nat}(hm:m<=1000000){L:Nat}(h:(digs B6 n).length<=L):(digs B6 (n*m)).length<=L+2:=by
  refine digs_len_le b6_2 _ _ ?_;have h1:=val_lt b6_2 (digs_lt b6_2 n);rw[val_digs b6_2]at h1;have h2:n<B6^L:=Nat.lt_of_lt_of_le h1 (Nat.pow_le_pow_right (by decide) h);rw[Nat.pow_add];refine Nat.lt_of_lt_of_le (Nat.mul_lt_mul_of_lt_of_le h2 hm (by decide)) (Nat.mul_le_mul_left _ (by decide))
theorem digs6_mono{n m:Nat}(h:n<=m){L:Nat}(hm:(digs B6 m).length<=L):(digs B6 n).length<=L:=by
  refine digs_len_le b6_2 _ _ ?_;have h1:=val_lt b6_2 (digs_lt b6_2 m);rw[val_digs b6_2]at h1;exact Nat.lt_of_lt_of_le (Nat.lt_of_le_of_lt h h1) (Nat.pow_le_pow_right (by decide) hm)
set_option maxRecDepth 100000 in
set_option maxHeartbeats 2000000 in
theorem fits_any(v u:Value)(n m:Nat)(w:World)(hv:RefV w v n)(hu:RefV w u m)(hm:0<m)(hlt:n<B6*m)(h1:(digs B6 n).length<=100000)(h2:(digs B6 m).length<=100000):
    Calls Tryz.prog 127 #[v,u] w fun e w'=>e=.returned (.int .i64 ((n/m:Nat):Int))/\Below w.heap.size w w':=by
  have HT:=hid (fun(k:Nat) (hk:k<=1000000) w1 (hb:Below w.heap.size w w1)=>times_any u m k w1 (hu.below hb) (by omega) (by omega));have HC:=hid (fun(x:Value) (k:Nat) (hk:k<=1000000) w1 (hb:Below w.heap.size w w1) (hx:RefV w1 x (m*k))=>rcmp_any x v (m*k) n w1 hx (hv.below hb) (by have:=digs6_mul (n:=m) (m:=k) hk h2;omega) (by omega));have HQ:=hid (show n/m<1000000 by rw[Nat.div_lt_iff_lt_mul hm];rw[b6]at hlt;exact hlt);have HM:=hid hm;clear hv hu h1 h2 hlt hm;go_enter Tryz.func127,Tryz.ntmps127;go_wp2_with fail;go_loopw [5,6] (fun lv mv wr=> ∃a b:Nat,lv=.int .i64 (a:Int)/\mv=.int .i64 (b:Int)/\a<=b/\b<=999999/\Hid (a<=n/m/\n/m<=b)/\Below w.heap.size w wr) (fun lv mv _=>(intOf mv).toNat-(intOf lv).toNat)
  case atStart=>exact⟨0,999999,rfl,rfl,by omega,by omega,hid ⟨Nat.zero_le _,by have:=HQ.out;omega⟩,Below.refl _ _⟩
  obtain⟨a,b,rfl,rfl,hab,hb9,HR,hbw⟩:=hrel;generalize wr=W1 at hbw⊢
  by_cases hlt:a<b
  . have hlti:(a:Int)<(b:Int):=by omega
    obtain⟨k,hk,hka,hkb⟩:∃k:Nat,((a:Int)+(b:Int)+1)/2=(k:Int)/\a<k/\k<=b:=⟨(a+b+1)/2,by omega,by omega,by omega⟩;have HT1:=hid (HT.out k (by omega) W1 hbw);have HC1:=hid (HC.out · k (by omega) · · ·);have hks:0<=((a:Int)+(b:Int)+1)/2:=by omega
    by_cases hle:m*k<=n
    . have HE:=hid (show cmpN (m*k) n<=0 by unfold cmpN;split<;>(try split)<;>omega);have hq:k<=n/m:=by rw[Nat.le_div_iff_mul_le HM.out,Nat.mul_comm];exact hle
      have HR2:=hid (show k<=n/m/\n/m<=b from⟨hq,HR.out.2⟩);obtain⟨cm,hcm⟩:∃cm,cmpN (m*k) n=cm:=⟨_,rfl⟩;rw[hcm]at HE HC1;have hce:=HE.out;clear hcm hle hq;go_upto_region 4 with(fail)
      go_wp2_with (first
        |(go_at_call 128;refine HT1.out.mono ?_;clear HT1;rintro e W2 ⟨x,rfl,hx,hw2⟩;have hb2:=hbw.trans (hw2.mono hbw.size))
        |(go_at_call 47;refine(HC1.out _ _ hb2 hx).mono ?_;clear HC1;rintro e W3 ⟨rfl,hw3⟩))
      go_roundw
      case rel=>exact⟨k,b,rfl,rfl,by omega,hb9,HR2,hb2.trans (hw3.mono hb2.size)⟩
      case measure=>simp[intOf];omega
    have HE:=hid (show ¬cmpN (m*k) n<=0 by unfold cmpN;rw[if_neg (by omega),if_pos (by omega)];decide);have hq:n/m<k:=by rw[Nat.div_lt_iff_lt_mul HM.out,Nat.mul_comm];omega
    have HR2:=hid (show a<=n/m/\n/m<=k-1 from⟨HR.out.1,by omega⟩);obtain⟨cm,hcm⟩:∃cm,cmpN (m*k) n=cm:=⟨_,rfl⟩;rw[hcm]at HE HC1;have hce:=HE.out;clear hcm hle hq;go_upto_region 4 with(fail)
    go_wp2_with (first
      |(go_at_call 128;refine HT1.out.mono ?_;clear HT1;rintro e W2 ⟨x,rfl,hx,hw2⟩;have hb2:=hbw.trans (hw2.mono hbw.size))
      |(go_at_call 47;refine(HC1.out _ _ hb2 hx).mono ?_;clear HC1;rintro e W3 ⟨rfl,hw3⟩))
    go_roundw
    case rel=>exact⟨a,k-1,rfl,by congr 1;omega,by omega,by omega,HR2,hb2.trans (hw3.mono hb2.size)⟩
    case measure=>simp[intOf];omega
  have e:a=n/m:=by have:=HR.out;omega
  have HE:=hid e;clear e;have hlti:¬(a:Int)<(b:Int):=by omega
  go_wp2;go_ret;refine⟨?_,hbw⟩
  show _=Ending.returned (.int .i64 ((n/m:Nat):Int))
  rw[<-HE.out];rfl
set_option maxRecDepth 100000 in
set_option maxHeartbeats 2000000 in
theorem without_own(v:Value)(xs:List Nat)(w:World)(hv:GV w v xs)(hl:xs.length<=1000000):
    Calls Tryz.prog 76 #[v] w fun e w'=> ∃v',e=.returned v'/\RowI w' w.heap.size v' (trimD xs)/\Below w.heap.size w w':=by
  obtain⟨i0,hi,hz0,hz1,hz2⟩:=info_parts infoI;obtain⟨p,c,rfl,hpg⟩:=hv.slice;clear hv;go_enter Tryz.func76,Tryz.ntmps76;go_wp2_with fail;go_loop [0] (fun n=> ∃k:Nat,k<=xs.length/\n=.slice p k c/\Hid (trimD xs=trimD (xs.take k))) (fun n=>sliceLen n)
  case atStart=>exact⟨xs.length,Nat.le_refl _,rfl,hid (by rw[List.take_length])⟩
  obtain⟨k,hk,rfl,HT⟩:=hrel
  by_cases hk0:k=0
  . subst hk0;have HE:=hid (show trimD xs=[]from HT.out);go_wp2_with (at_builtin;go_loud (refine wpList_append_two rfl _ _ 32 31 rfl w.heap.size 3 3 i0 _ 8 Tryz.underlying32 Tryz.underlying31 hi hz0 hz1 hz2 rfl _ 0 [] rfl (row_empty w 3 _ (Nat.le_refl _)) p 0 c (([]:List Nat).map iCell) rfl (by simp;try omega) (.inl rfl) (all_i _) (by simp[maxLen];try omega) (by omega) (by simp) ?_;intro v' w2 hown hgr;have hb2:=((Below.refl w.heap.size w).alloc (Nat.le_refl _) _).grown hgr (by simp) (fun k' hk'=>by injection hk' with hk';subst hk';exact Nat.le_refl _)));go_ret;exact⟨_,rfl,by rw[HE.out];exact hown,hb2⟩
  obtain⟨j,rfl⟩:∃j,k=j+1:=⟨k-1,by omega⟩;have hj:j<xs.length:=by omega
  obtain⟨g,rfl,hg,hc1,hc2⟩:=hpg (fun e=>by subst e;simp at hj);have g0:=hg.at0 j hj;unfold iCell at g0;have hgt:(0:Int)<((j+1:Nat):Int):=by omega
  have hgl:=hg.lt
  by_cases hz:xs[j]=0
  . rw[hz]at g0;have HZ:=hid (trim_take_zero hk hz);clear hz;go_wp2;go_round
    case rel=>exact⟨j,by omega,rfl,hid (HT.out.trans HZ.out)⟩
    case measure=>simp[sliceLen]
  have hzi:(((xs[j]:Nat):Int)==0)=false:=by rw[beq_eq_false_iff_ne];omega
  have HE:=hid (HT.out.trans (trim_take_last hk hz));clear hz
  have hcell:∀t,∀i u,((xs.take (j+1)).map iCell)[i]?=some u->(w.alloc (.cells #[] t)).cell? ((⟨g,0,none⟩:Addr).add i)=some u:=by
    intro t i u hu;rw[add_at,((Below.refl w.heap.size w).alloc (Nat.le_refl _) _).cell (p:=⟨g,i,none⟩) hgl];obtain⟨hi',rfl⟩:=List.getElem?_eq_some_iff.1 hu;rw[List.length_map,List.length_take]at hi';rw[hg.at0 i (by omega)];simp
  go_wp2_with (at_builtin;go_loud (refine wpList_append_two rfl _ _ 32 31 rfl w.heap.size 3 3 i0 _ 8 Tryz.underlying32 Tryz.underlying31 hi hz0 hz1 hz2 rfl _ 0 [] rfl (row_empty w 3 _ (Nat.le_refl _)) (some ⟨g,0,none⟩) (j+1) c ((xs.take (j+1)).map iCell) rfl (by simp;try omega) (.inr ⟨_,rfl,hcell _⟩) (all_i _) (by simp[maxLen];try omega) (by omega) (by simp) ?_;intro v' w2 hown hgr;have hb2:=((Below.refl w.heap.size w).alloc (Nat.le_refl _) _).grown hgr (by simp) (fun k' hk'=>by injection hk' with hk';subst hk';exact Nat.le_refl _)));go_ret;refine⟨_,rfl,?_,hb2⟩;rw[HE.out];unfold RowI;rw[List.length_take,Nat.min_eq_left hk]
  simpa using hown
theorem RowI.far{W:World}{base G k:Nat}{v u:Value}{xs:List Nat}(h:RowI W base v xs)(hG:G<base):RowI (W.setCell ⟨G,k,none⟩ u) base v xs:=by
  refine⟨h.1,?_⟩
  rcases h.2 with h2|⟨g,cap,cur,e,hg,hb,r⟩
  . exact .inl h2
  exact .inr ⟨g,cap,cur,e,hg,by rw[setCell_far _ (by omega)];exact hb,r⟩
theorem rdivmod_zero(v u:Value)(n:Nat)(w:World)(hv:RefV w v n)(hu:RefV w u 0):
    Calls Tryz.prog 98 #[v,u] w fun e w'=>e=.returned (.tuple #[.slice none 0 0,.slice none 0 0,.int .i64 10])/\Below w.heap.size w w':=by
  obtain⟨p,cp,rfl,_⟩:=GV.slice hv;obtain⟨q,cq,rfl,_⟩:=GV.slice hu;rw[digs_zero];clear hv hu;go_enter Tryz.func98,Tryz.ntmps98;go_wp2;exact bodyPost_ret (v:=.tuple #[.slice none 0 0,.slice none 0 0,.int .i64 10]) (by simp[results,Tryz.results98,go_sem]) rfl ⟨rfl,Below.refl _ _⟩
set_option maxRecDepth 100000 in
set_option maxHeartbeats 2000000 in
theorem rdivmod_64(v u:Value)(n m:Nat)(w:World)(hv:RefV w v n)(hu:RefV w u m)(hm:m≠0)(hn:n<18446744073709551616)(hm1:m<18446744073709551616):
    Calls Tryz.prog 98 #[v,u] w fun e w'=> ∃x y,e=.returned (.tuple #[x,y,.int .i64 0])/\RefV w' x (n/m)/\RefV w' y (n%m)/\Below w.heap.size w w':=by
  have l1:(digs B6 n).length<=4:=digs_len_le b6_2 _ _ (Nat.lt_trans hn (by decide));have l2:(digs B6 m).length<=4:=digs_len_le b6_2 _ _ (Nat.lt_trans hm1 (by decide));have HU:=hid (fun w1 (hb:Below w.heap.size w w1)=>ruint_any v n w1 (hv.below hb) (by omega));have HU':=hid (fun w1 (hb:Below w.heap.size w w1)=>ruint_any u m w1 (hu.below hb) (by omega));unfold u64V at HU HU';rw[if_pos hn,decide_eq_true hn]at HU;rw[if_pos hm1,decide_eq_true hm1]at HU'
  have hl:(((digs B6 m).length:Int)==0)=false:=by
    rw[beq_eq_false_iff_ne];intro e;exact hm ((digs_eq_nil b6_2).1 (List.eq_nil_of_length_eq_zero (by omega)))
  obtain⟨p,cp,rfl,_⟩:=GV.slice hv;obtain⟨q,cq,rfl,_⟩:=GV.slice hu;have HO1:=hid (fun w1=>rof_any (n/m) w1 (Nat.lt_of_le_of_lt (Nat.div_le_self _ _) hn));have HO2:=hid (fun w1=>rof_any (n%m) w1 (by have:=Nat.mod_lt n (Nat.pos_of_ne_zero hm);omega))
  have hq1:(n:Int)/(m:Int)<18446744073709551616:=by
    have e:(n:Int)/(m:Int)=((n/m:Nat):Int):=rfl;have:=Nat.div_le_self n m;rw[e];omega
  have hq2:0<=(n:Int)/(m:Int):=Int.natCast_nonneg (n/m)
  have hr1:(n:Int)%(m:Int)<18446744073709551616:=by
    have e:(n:Int)%(m:Int)=((n%m:Nat):Int):=rfl;have:=Nat.mod_le n m;rw[e];omega
  have hr2:0<=(n:Int)%(m:Int):=Int.natCast_nonneg (n%m);have hmi:¬m=0:=hm;clear hv hu l1 l2;go_enter Tryz.func98,Tryz.ntmps98;go_upto_region 4 with(go_at_call 126;refine(HU.out _ (Below.refl _ _)).mono ?_;clear HU;rintro e W1 ⟨rfl,hw1⟩);go_upto_region 6 with(go_at_call 126;refine(HU'.out _ hw1).mono ?_;clear HU';rintro e W2 ⟨rfl,hw2⟩;have hb2:=hw1.trans (hw2.mono hw1.size));refine wp_region_float (W2) [] [0,0,0,2,0,0,0,2,0,0,0] (by kernel_rfl) (by kernel_rfl) (by kernel_rfl) (by kernel_rfl) (KS.drew (KS.start W2)) ?_
  iterate 3 (refine zs3 ?_)
  apply lxE0 (α:=Value) (fun vv=>vv) (fun vv=>[fun w=>RefV w vv (n/m)]) (wants0 rfl)
  . intro w' h0 hK;go_simp;(try go_bits);refine(HO1.out w').mono ?_;rintro e w5 ⟨x,rfl,hx,hb⟩;exact⟨_,rfl,hb,fun w6 h6=>hx.below h6⟩
  intro v34;refine zs4 ?_
  iterate 3 (refine zs3 ?_)
  apply lxE0 (α:=Value) (fun vv=>vv) (fun vv=>[fun w=>RefV w vv (n%m)]) (wants0 rfl)
  . intro w' h0 hK;go_simp;(try go_bits);refine(HO2.out w').mono ?_;rintro e w5 ⟨x,rfl,hx,hb⟩;exact⟨_,rfl,hb,fun w6 h6=>hx.below h6⟩
  intro v38;refine zs4 ?_
  iterate 3 (refine zs3 ?_)
  refine lxEnd (fun W9 hK9=>?_);go_wp2;exact bodyPost_ret (v:=.tuple #[v34,v38,.int .i64 0]) (by simp[results,Tryz.results98,go_sem]) rfl ⟨_,_,rfl,hK9.get (F:=fun w=>RefV w v34 (n/m)) zsm,hK9.get (F:=fun w=>RefV w v38 (n%m)) zsm,hb2.trans (hK9.old.mono hb2.size)⟩
theorem row_one(W:World)(t:TypeId)(x:Value)(base:Nat)(hb:base<=W.heap.size):(W.alloc (.cells #[x] t)).ownsRow base t 1 (.slice (some ⟨W.heap.size,0,none⟩) 1 1) 1 [x]:=
  ⟨rfl,.inr ⟨W.heap.size,1,#[x],rfl,hb,heap_new W _,Nat.le_refl _,by unfold maxLen;omega,rfl,rfl⟩⟩
structure RDivAt(w:World)(G:Nat)(xs:List Nat)(m k r:Nat)(rv:Value)(wr:World):Prop where
  q:∃qs,ArrI wr G qs/\qs.length=xs.length/\(∀q∈qs,q<B6)/\val B6 (qs.drop k)=val B6 (xs.drop k)/m
  rest:RefV wr rv r
  rem:r=val B6 (xs.drop k)%m
  old:Below w.heap.size w wr
  gb:w.heap.size<=G
theorem div_group{x D m:Nat}(hm:0<m):(x+B6*D)/m=(x+B6*(D%m))/m+B6*(D/m)/\(x+B6*D)%m=(x+B6*(D%m))%m:=by
  have h:=Nat.div_add_mod D m
  have e:x+B6*D=(x+B6*(D%m))+m*(B6*(D/m)):=by
    conv=>lhs;rw[<-h]
    rw[Nat.mul_add,show B6*(m*(D/m))=m*(B6*(D/m)) by ac_rfl];omega
  exact⟨by rw[e,Nat.add_mul_div_left _ _ hm],by rw[e,Nat.add_mul_mod_self_left]⟩
set_option maxRecDepth 100000 in
set_option maxHeartbeats 4000000 in
theorem rdivmod_big(v u:Value)(n m:Nat)(w:World)(hv:RefV w v n)(hu:RefV w u m)(hm:m≠0)(hbig:¬(n<18446744073709551616/\m<18446744073709551616))(l1:(digs B6 n).length<=50000)(l2:(digs B6 m).length<=50000):
    Calls Tryz.prog 98 #[v,u] w fun e w'=> ∃x y,e=.returned (.tuple #[x,y,.int .i64 0])/\RefV w' x (n/m)/\RefV w' y (n%m)/\Below w.heap.size w w':=by
  obtain⟨i0,hi,hz0,hz1,hz2⟩:=info_parts infoI;have HU:=hid (fun w1 (hb:Below w.heap.size w w1)=>ruint_any v n w1 (hv.below hb) (by omega));have HU':=hid (fun w1 (hb:Below w.heap.size w w1)=>ruint_any u m w1 (hu.below hb) (by omega));unfold u64V at HU HU'
  have hl:(((digs B6 m).length:Int)==0)=false:=by
    rw[beq_eq_false_iff_ne];intro e;exact hm ((digs_eq_nil b6_2).1 (List.eq_nil_of_length_eq_zero (by omega)))
  have HM:=hid (Nat.pos_of_ne_zero hm)
  have HFT:=hid (fun(x:Value) (t:Nat) w1 (hb:Below w.heap.size w w1) (hx:RefV w1 x t) (ht:t<B6*m)=>fits_any x u t m w1 hx (hu.below hb) HM.out ht (by
    have h3:=val_lt b6_2 (digs_lt b6_2 m);rw[val_digs b6_2]at h3
    have h4:t<B6^((digs B6 m).length+1):=by
      rw[Nat.pow_succ,Nat.mul_comm];exact Nat.lt_of_lt_of_le ht (Nat.mul_le_mul_left _ (Nat.le_of_lt h3))
    have:=digs_len_le b6_2 _ _ h4;omega) (by omega))
  have HTM:=hid (fun(k:Nat) (hk:k<1000000) w1 (hb:Below w.heap.size w w1)=>times_any u m k w1 (hu.below hb) (by omega) (by omega))
  have HSB:=hid (fun(x y:Value) (t k:Nat) w1 (hx:RefV w1 x t) (hy:RefV w1 y (m*k)) (ht:t<B6*m) (hle:m*k<=t)=>rsub_ok x y t (m*k) w1 hx hy (by
    have h3:=val_lt b6_2 (digs_lt b6_2 m);rw[val_digs b6_2]at h3
    have h4:t<B6^((digs B6 m).length+1):=by
      rw[Nat.pow_succ,Nat.mul_comm];exact Nat.lt_of_lt_of_le ht (Nat.mul_le_mul_left _ (Nat.le_of_lt h3))
    have:=digs_len_le b6_2 _ _ h4;omega) (by
    have h3:=val_lt b6_2 (digs_lt b6_2 m);rw[val_digs b6_2]at h3
    have h4:t<B6^((digs B6 m).length+1):=by
      rw[Nat.pow_succ,Nat.mul_comm];exact Nat.lt_of_lt_of_le ht (Nat.mul_le_mul_left _ (Nat.le_of_lt h3))
    have:=digs_len_le b6_2 _ _ (Nat.lt_of_le_of_lt hle h4);omega) hle)
  obtain⟨p,cp,rfl,hpg⟩:=GV.slice hv;obtain⟨q,cq,rfl,_⟩:=GV.slice hu;have HPG:=hid hpg;have HXB:=hid (digs_lt b6_2 n);have HVN:=hid (val_digs b6_2 n);obtain⟨xs,hxs⟩:∃xs,digs B6 n=xs:=⟨_,rfl⟩;rw[hxs]at HPG HXB HVN l1 HU⊢;obtain⟨n64,hn64⟩:∃n64:Int,(if n<18446744073709551616 then(n:Int)else 0)=n64:=⟨_,rfl⟩;obtain⟨m64,hm64⟩:∃m64:Int,(if m<18446744073709551616 then(m:Int)else 0)=m64:=⟨_,rfl⟩;rw[hn64]at HU;rw[hm64]at HU';obtain⟨lm,hlm⟩:∃lm,(digs B6 m).length=lm:=⟨_,rfl⟩;rw[hlm]at HU' hl l2 HFT HTM⊢;have HLM:=hid hlm;clear hv hu hpg hxs hn64 hm64 hlm hm;go_enter Tryz.func98,Tryz.ntmps98;go_upto_region 4 with(go_at_call 126;refine(HU.out _ (Below.refl _ _)).mono ?_;clear HU;rintro e W1 ⟨rfl,hw1⟩);go_upto_region 5 with(go_at_call 126;refine(HU'.out _ hw1).mono ?_;clear HU';rintro e W2 ⟨rfl,hw2⟩;have hb2:=hw1.trans (hw2.mono hw1.size))
  by_cases hn:n<18446744073709551616
  . have hm1:¬m<18446744073709551616:=fun h=>hbig ⟨hn,h⟩
    rw[decide_eq_true hn,decide_eq_false hm1];clear hn hm1 hbig;go_upto_region 8 with(at_make;go_loud (refine wpList_make_full _ rfl _ _ _ rfl W2.heap.size 3 i0 _ 1 Tryz.underlying31 hi hz0 hz1 _ _ _ _ xs.length rfl rfl (by simp) (by simp) (by rw[hz2];omega) (by unfold maxLen;omega) (Nat.le_refl _) ?_;intro w3 hown hgr;have hb3:Below W2.heap.size W2 w3:=(Below.refl _ W2).grown hgr (Nat.le_refl _) (by simp);have hA:=ari_made hown;clear hown hgr));have hb4:=hb2.trans (hb3.mono hb2.size);have hs3:W2.heap.size<w3.heap.size:=hA.lt
    obtain⟨W4,hW4,hat0⟩:∃W4,W4=w3.alloc (.cells #[] 3)/\RDivAt w W2.heap.size xs m xs.length 0 (.slice (some ⟨w3.heap.size,0,none⟩) 0 0) W4:=by
      refine⟨_,rfl,⟨_,hA.below ((Below.refl _ _).alloc (Nat.le_refl _) _),by simp,fun y hy=>by rw[List.eq_of_mem_replicate hy];decide,by simp[val]⟩,RefV.nil w3 3,by rw[List.drop_length];simp[val],hb4.alloc hb4.size _,hb2.size⟩
    clear hA hb3 hb4 hs3;go_upto_region 9 with(fail);rw[<-hW4];clear hW4;generalize W2.heap.size=G at hat0⊢;generalize w3.heap.size=E0 at hat0⊢;go_wp2_with fail;go_loopw [12,13] (fun rv iv wr=> ∃k r:Nat,k<=xs.length/\iv=.int .i64 ((k:Int)-1)/\RDivAt w G xs m k r rv wr) (fun _ iv _=>(intOf iv+1).toNat)
    case atStart=>exact⟨xs.length,0,Nat.le_refl _,rfl,hat0⟩
    clear hat0;obtain⟨k,r,hk,rfl,hat⟩:=hrel;generalize wr=W5 at hat⊢;generalize u12=rv at hat⊢;obtain⟨qs,harr,hql,hqb,hqv⟩:=hat.q;have hold:=hat.old;have hgb:=hat.gb
    by_cases hk0:k=0
    . subst hk0;rw[List.drop_zero,List.drop_zero,HVN.out]at hqv;have hrem:=hat.rem;rw[List.drop_zero,HVN.out]at hrem;have hrest:=hat.rest;subst hrem;have HT:=hid (without_any _ qs W5 (harr.gv (by unfold maxLen;omega)) (by omega));rw[hql, <-digs_val b6_2 hqb,hqv]at HT;clear hat harr hqv;go_wp2_with (go_at_call 76;refine HT.out.mono ?_;clear HT;rintro e w6 ⟨x,rfl,hx,hw6⟩);exact bodyPost_ret (v:=.tuple #[x,rv,.int .i64 0]) (by simp[results,Tryz.results98,go_sem]) rfl ⟨_,_,rfl,hx,hrest.below hw6,hold.trans (hw6.mono hold.size)⟩
    obtain⟨j,rfl⟩:∃j,k=j+1:=⟨k-1,by omega⟩;have hj:j<xs.length:=by omega
    have ei:(((j+1:Nat):Int)-1)=(j:Int):=by omega
    rw[ei];clear ei;obtain⟨g,rfl,hg,_,_⟩:=HPG.out (fun e=>by subst e;simp at hj);have g0:=(hg.below hold).at0 j hj;unfold iCell at g0;have hgl:=Nat.lt_of_lt_of_le hg.lt hold.size;have q0:0<=(j:Int):=by omega
    have hx1:=HXB.out _ (List.getElem_mem hj);obtain⟨x,hx⟩:∃x,xs[j]=x:=⟨_,rfl⟩;have hvd:=val_drop (B:=B6) hj;rw[hx]at g0 hx1 hvd;obtain⟨d1,d2⟩:=div_group (x:=x) (D:=val B6 (xs.drop (j+1))) HM.out;rw[<-hvd, <-hat.rem]at d1 d2;have hrm:r<m:=by rw[hat.rem];exact Nat.mod_lt _ HM.out
    have htl:x+B6*r<B6*m:=by
      have:B6*(r+1)<=B6*m:=Nat.mul_le_mul_left _ hrm;rw[Nat.mul_add]at this;omega
    obtain⟨rp,rc,rfl,hrg⟩:=GV.slice hat.rest;have hrl:(digs B6 r).length<=50000:=digs6_mono (Nat.le_of_lt hrm) (by rw[HLM.out];exact l2)
    have HDW:=hid (show trimD (x::digs B6 r)=digs B6 (x+B6*r) by
      rw[<-digs_val b6_2 (l:=x::digs B6 r) (fun d hd=>by
        rcases List.mem_cons.1 hd with h|h
        . rw[h];exact hx1
        exact digs_lt b6_2 r d h)]
      show digs B6 (x+B6*val B6 (digs B6 r))=_
      rw[val_digs b6_2])
    obtain⟨t,ht⟩:∃t,x+B6*r=t:=⟨_,rfl⟩;rw[ht]at d1 d2 htl HDW
    have hsrc:∀(W:World),Below W5.heap.size W5 W->(digs B6 r).length=0\/ ∃ad,rp=some ad/\ ∀i u,((digs B6 r).map iCell)[i]?=some u->W.cell? (ad.add i)=some u:=fun W hb=>by
      by_cases h0:digs B6 r=[]
      . exact .inl (by rw[h0];rfl)
      obtain⟨g',rfl,hg',_,_⟩:=hrg h0;refine .inr ⟨_,rfl,fun i u hu=>?_⟩;obtain⟨hi',rfl⟩:=List.getElem?_eq_some_iff.1 hu;rw[add_at,List.getElem_map];exact(hg'.below hb).at0 i (by simpa using hi')
    have HSRC:=hid hsrc;have HARR:=hid harr;have HQV:=hid (show val B6 ((qs.set j (t/m)).drop j)=val B6 (xs.drop j)/m by rw[val_drop_set (by omega),d1,hqv]);have HRM:=hid (show t-m*(t/m)=val B6 (xs.drop j)%m by rw[d2];have:=Nat.div_add_mod t m;omega);have HQB:=hid (show ∀q∈qs.set j (t/m),q<B6 from all_set hqb (by rw[Nat.div_lt_iff_lt_mul HM.out];exact htl));have HMT:=hid (show m*(t/m)<=t from Nat.mul_div_le t m);have HTL:=hid htl;have htq:t/m<1000000:=by rw[Nat.div_lt_iff_lt_mul HM.out];exact htl
    have hx6:x<=1000000:=by rw[b6]at hx1;omega
    clear hat harr hsrc hrg hqv hqb hvd d1 d2 hx ht hrm htl hx1;obtain⟨lr,hlr⟩:∃lr,(digs B6 r).length=lr:=⟨_,rfl⟩;have HLR:=hid hlr;rw[hlr]at HSRC hrl⊢;clear hlr;obtain⟨ql,hqle⟩:∃ql,t/m=ql:=⟨_,rfl⟩;rw[hqle]at HQV HRM HQB HMT htq;have HQE:=hid hqle;clear hqle
    go_upto_region 13 with(first
      |(at_builtin;go_loud (refine wpList_append_two rfl _ _ 31 32 rfl w.heap.size 3 3 i0 _ 8 Tryz.underlying31 Tryz.underlying32 hi hz0 hz1 hz2 rfl _ 1 [iCell x] rfl (row_one W5 3 _ _ hold.size) rp lr rc ((digs B6 r).map iCell) rfl (by rw[List.length_map];exact HLR.out) (HSRC.out _ ((Below.refl _ _).alloc (Nat.le_refl _) _)) (all_i _) (by simp[maxLen];omega) (by omega) (by have:=hold.size;simp;omega) ?_;intro v7 w7 hown hgr;have hb7:=(hold.alloc hold.size _).grown hgr (by have:=hold.size;simp;omega) (fun k' hk'=>by injection hk' with hk';subst hk';exact hold.size);have hb57:Below W5.heap.size W5 w7:=((Below.refl W5.heap.size W5).alloc (Nat.le_refl _) _).grown hgr (by simp) (fun k' hk'=>by injection hk' with hk';subst hk';exact Nat.le_refl _);have HW:=hid (without_own v7 (x::digs B6 r) w7 (RowI.gv (base:=w.heap.size) (by unfold RowI;rw[List.length_cons,HLR.out,Nat.add_comm lr 1];simpa using hown)) (by rw[List.length_cons,HLR.out];omega));clear hown hgr))
      |(go_at_call 76;refine HW.out.mono ?_;clear HW;rintro e W8 ⟨rv2,rfl,hrow8,hw8⟩;rw[HDW.out]at hrow8;have hrv:RefV W8 rv2 t:=hrow8.gv;have hGb:=Nat.lt_of_lt_of_le HARR.out.lt hb57.size;have hb8:=hb7.trans (hw8.mono hb7.size);have hb58:=hb57.trans (hw8.mono hb57.size)))
    have HFT1:=hid (HFT.out rv2 t W8 hb8 hrv HTL.out);rw[HQE.out]at HFT1;have hA8:=HARR.out.below hb58;have hGl:=hA8.lt;have c0:=hA8.cell j (by omega);have hfr:=hA8.free;clear hb7 hb57 hw8;go_upto_region 14 with(go_at_call 127;refine HFT1.out.mono ?_;clear HFT1;rintro e W9 ⟨rfl,hw9⟩;have hb9:=hb8.trans (hw9.mono hb8.size);have hA9:=hA8.below hw9;have hrow9:=RowI.below hrow8 hw9;have hGl9:=hA9.lt;have c9:=hA9.cell j (by omega);have hfr9:=hA9.free)
    obtain⟨W10,hW10,hA10,hb10,hrv10⟩:∃W10,W10=W9.setCell ⟨G,j,none⟩ (.int .i64 (ql:Int))/\ArrI W10 G (qs.set j ql)/\Below w.heap.size w W10/\RefV W10 rv2 t:=by
      refine⟨_,rfl,hA9.store j ql,hb9.setCell (p:=⟨G,j,none⟩) hgb _,?_⟩;exact(hrow9.far hGb).gv
    rw[<-hW10];clear hW10 hA8 hA9 hrow8 hrow9 c0 c9 hfr hfr9 hGl hGl9 hGb;have c10:=hA10.cell j (by rw[List.length_set];omega);rw[List.getElem_set_self]at c10;have hGl10:=hA10.lt;have HTM1:=hid (HTM.out ql htq W10 hb10);have HSB1:=hid (fun(y:Value) w1 (hb:Below W10.heap.size W10 w1) (hy:RefV w1 y (m*ql))=>HSB.out rv2 y t ql w1 (hrv10.below hb) hy HTL.out HMT.out)
    go_wp2_with (first
      |(go_at_call 128;refine HTM1.out.mono ?_;clear HTM1;rintro e W11 ⟨y,rfl,hy,hw11⟩)
      |(go_at_call 48;refine(HSB1.out y _ hw11 hy).mono ?_;clear HSB1;rintro e W12 ⟨rv3,rfl,hrv3,hw12⟩;have hb12:=hw11.trans (hw12.mono hw11.size)))
    go_roundw
    case rel=>exact⟨j,t-m*ql,by omega,by go_num,⟨_,hA10.below hb12,by rw[List.length_set];exact hql,HQB.out,HQV.out⟩,hrv3,HRM.out,hb10.trans (hb12.mono hb10.size),hgb⟩
    case measure=>simp[intOf]
  rw[decide_eq_false hn];clear hn hbig;go_upto_region 8 with(at_make;go_loud (refine wpList_make_full _ rfl _ _ _ rfl W2.heap.size 3 i0 _ 1 Tryz.underlying31 hi hz0 hz1 _ _ _ _ xs.length rfl rfl (by simp) (by simp) (by rw[hz2];omega) (by unfold maxLen;omega) (Nat.le_refl _) ?_;intro w3 hown hgr;have hb3:Below W2.heap.size W2 w3:=(Below.refl _ W2).grown hgr (Nat.le_refl _) (by simp);have hA:=ari_made hown;clear hown hgr));have hb4:=hb2.trans (hb3.mono hb2.size);have hs3:W2.heap.size<w3.heap.size:=hA.lt
  obtain⟨W4,hW4,hat0⟩:∃W4,W4=w3.alloc (.cells #[] 3)/\RDivAt w W2.heap.size xs m xs.length 0 (.slice (some ⟨w3.heap.size,0,none⟩) 0 0) W4:=by
    refine⟨_,rfl,⟨_,hA.below ((Below.refl _ _).alloc (Nat.le_refl _) _),by simp,fun y hy=>by rw[List.eq_of_mem_replicate hy];decide,by simp[val]⟩,RefV.nil w3 3,by rw[List.drop_length];simp[val],hb4.alloc hb4.size _,hb2.size⟩
  clear hA hb3 hb4 hs3;go_upto_region 9 with(fail);rw[<-hW4];clear hW4;generalize W2.heap.size=G at hat0⊢;generalize w3.heap.size=E0 at hat0⊢;go_wp2_with fail;go_loopw [12,13] (fun rv iv wr=> ∃k r:Nat,k<=xs.length/\iv=.int .i64 ((k:Int)-1)/\RDivAt w G xs m k r rv wr) (fun _ iv _=>(intOf iv+1).toNat)
  case atStart=>exact⟨xs.length,0,Nat.le_refl _,rfl,hat0⟩
  clear hat0;obtain⟨k,r,hk,rfl,hat⟩:=hrel;generalize wr=W5 at hat⊢;generalize u12=rv at hat⊢;obtain⟨qs,harr,hql,hqb,hqv⟩:=hat.q;have hold:=hat.old;have hgb:=hat.gb
  by_cases hk0:k=0
  . subst hk0;rw[List.drop_zero,List.drop_zero,HVN.out]at hqv;have hrem:=hat.rem;rw[List.drop_zero,HVN.out]at hrem;have hrest:=hat.rest;subst hrem;have HT:=hid (without_any _ qs W5 (harr.gv (by unfold maxLen;omega)) (by omega));rw[hql, <-digs_val b6_2 hqb,hqv]at HT;clear hat harr hqv;go_wp2_with (go_at_call 76;refine HT.out.mono ?_;clear HT;rintro e w6 ⟨x,rfl,hx,hw6⟩);exact bodyPost_ret (v:=.tuple #[x,rv,.int .i64 0]) (by simp[results,Tryz.results98,go_sem]) rfl ⟨_,_,rfl,hx,hrest.below hw6,hold.trans (hw6.mono hold.size)⟩
  obtain⟨j,rfl⟩:∃j,k=j+1:=⟨k-1,by omega⟩;have hj:j<xs.length:=by omega
  have ei:(((j+1:Nat):Int)-1)=(j:Int):=by omega
  rw[ei];clear ei;obtain⟨g,rfl,hg,_,_⟩:=HPG.out (fun e=>by subst e;simp at hj);have g0:=(hg.below hold).at0 j hj;unfold iCell at g0;have hgl:=Nat.lt_of_lt_of_le hg.lt hold.size;have q0:0<=(j:Int):=by omega
  have hx1:=HXB.out _ (List.getElem_mem hj);obtain⟨x,hx⟩:∃x,xs[j]=x:=⟨_,rfl⟩;have hvd:=val_drop (B:=B6) hj;rw[hx]at g0 hx1 hvd;obtain⟨d1,d2⟩:=div_group (x:=x) (D:=val B6 (xs.drop (j+1))) HM.out;rw[<-hvd, <-hat.rem]at d1 d2;have hrm:r<m:=by rw[hat.rem];exact Nat.mod_lt _ HM.out
  have htl:x+B6*r<B6*m:=by
    have:B6*(r+1)<=B6*m:=Nat.mul_le_mul_left _ hrm;rw[Nat.mul_add]at this;omega
  obtain⟨rp,rc,rfl,hrg⟩:=GV.slice hat.rest;have hrl:(digs B6 r).length<=50000:=digs6_mono (Nat.le_of_lt hrm) (by rw[HLM.out];exact l2)
  have HDW:=hid (show trimD (x::digs B6 r)=digs B6 (x+B6*r) by
    rw[<-digs_val b6_2 (l:=x::digs B6 r) (fun d hd=>by
      rcases List.mem_cons.1 hd with h|h
      . rw[h];exact hx1
      exact digs_lt b6_2 r d h)]
    show digs B6 (x+B6*val B6 (digs B6 r))=_
    rw[val_digs b6_2])
  obtain⟨t,ht⟩:∃t,x+B6*r=t:=⟨_,rfl⟩;rw[ht]at d1 d2 htl HDW
  have hsrc:∀(W:World),Below W5.heap.size W5 W->(digs B6 r).length=0\/ ∃ad,rp=some ad/\ ∀i u,((digs B6 r).map iCell)[i]?=some u->W.cell? (ad.add i)=some u:=fun W hb=>by
    by_cases h0:digs B6 r=[]
    . exact .inl (by rw[h0];rfl)
    obtain⟨g',rfl,hg',_,_⟩:=hrg h0;refine .inr ⟨_,rfl,fun i u hu=>?_⟩;obtain⟨hi',rfl⟩:=List.getElem?_eq_some_iff.1 hu;rw[add_at,List.getElem_map];exact(hg'.below hb).at0 i (by simpa using hi')
  have HSRC:=hid hsrc;have HARR:=hid harr;have HQV:=hid (show val B6 ((qs.set j (t/m)).drop j)=val B6 (xs.drop j)/m by rw[val_drop_set (by omega),d1,hqv]);have HRM:=hid (show t-m*(t/m)=val B6 (xs.drop j)%m by rw[d2];have:=Nat.div_add_mod t m;omega);have HQB:=hid (show ∀q∈qs.set j (t/m),q<B6 from all_set hqb (by rw[Nat.div_lt_iff_lt_mul HM.out];exact htl));have HMT:=hid (show m*(t/m)<=t from Nat.mul_div_le t m);have HTL:=hid htl;have htq:t/m<1000000:=by rw[Nat.div_lt_iff_lt_mul HM.out];exact htl
  have hx6:x<=1000000:=by rw[b6]at hx1;omega
  clear hat harr hsrc hrg hqv hqb hvd d1 d2 hx ht hrm htl hx1;obtain⟨lr,hlr⟩:∃lr,(digs B6 r).length=lr:=⟨_,rfl⟩;have HLR:=hid hlr;rw[hlr]at HSRC hrl⊢;clear hlr;obtain⟨ql,hqle⟩:∃ql,t/m=ql:=⟨_,rfl⟩;rw[hqle]at HQV HRM HQB HMT htq;have HQE:=hid hqle;clear hqle
  go_upto_region 13 with(first
    |(at_builtin;go_loud (refine wpList_append_two rfl _ _ 31 32 rfl w.heap.size 3 3 i0 _ 8 Tryz.underlying31 Tryz.underlying32 hi hz0 hz1 hz2 rfl _ 1 [iCell x] rfl (row_one W5 3 _ _ hold.size) rp lr rc ((digs B6 r).map iCell) rfl (by rw[List.length_map];exact HLR.out) (HSRC.out _ ((Below.refl _ _).alloc (Nat.le_refl _) _)) (all_i _) (by simp[maxLen];omega) (by omega) (by have:=hold.size;simp;omega) ?_;intro v7 w7 hown hgr;have hb7:=(hold.alloc hold.size _).grown hgr (by have:=hold.size;simp;omega) (fun k' hk'=>by injection hk' with hk';subst hk';exact hold.size);have hb57:Below W5.heap.size W5 w7:=((Below.refl W5.heap.size W5).alloc (Nat.le_refl _) _).grown hgr (by simp) (fun k' hk'=>by injection hk' with hk';subst hk';exact Nat.le_refl _);have HW:=hid (without_own v7 (x::digs B6 r) w7 (RowI.gv (base:=w.heap.size) (by unfold RowI;rw[List.length_cons,HLR.out,Nat.add_comm lr 1];simpa using hown)) (by rw[List.length_cons,HLR.out];omega));clear hown hgr))
    |(go_at_call 76;refine HW.out.mono ?_;clear HW;rintro e W8 ⟨rv2,rfl,hrow8,hw8⟩;rw[HDW.out]at hrow8;have hrv:RefV W8 rv2 t:=hrow8.gv;have hGb:=Nat.lt_of_lt_of_le HARR.out.lt hb57.size;have hb8:=hb7.trans (hw8.mono hb7.size);have hb58:=hb57.trans (hw8.mono hb57.size)))
  have HFT1:=hid (HFT.out rv2 t W8 hb8 hrv HTL.out);rw[HQE.out]at HFT1;have hA8:=HARR.out.below hb58;have hGl:=hA8.lt;have c0:=hA8.cell j (by omega);have hfr:=hA8.free;clear hb7 hb57 hw8;go_upto_region 14 with(go_at_call 127;refine HFT1.out.mono ?_;clear HFT1;rintro e W9 ⟨rfl,hw9⟩;have hb9:=hb8.trans (hw9.mono hb8.size);have hA9:=hA8.below hw9;have hrow9:=RowI.below hrow8 hw9;have hGl9:=hA9.lt;have c9:=hA9.cell j (by omega);have hfr9:=hA9.free)
  obtain⟨W10,hW10,hA10,hb10,hrv10⟩:∃W10,W10=W9.setCell ⟨G,j,none⟩ (.int .i64 (ql:Int))/\ArrI W10 G (qs.set j ql)/\Below w.heap.size w W10/\RefV W10 rv2 t:=by
    refine⟨_,rfl,hA9.store j ql,hb9.setCell (p:=⟨G,j,none⟩) hgb _,?_⟩;exact(hrow9.far hGb).gv
  rw[<-hW10];clear hW10 hA8 hA9 hrow8 hrow9 c0 c9 hfr hfr9 hGl hGl9 hGb;have c10:=hA10.cell j (by rw[List.length_set];omega);rw[List.getElem_set_self]at c10;have hGl10:=hA10.lt;have HTM1:=hid (HTM.out ql htq W10 hb10);have HSB1:=hid (fun(y:Value) w1 (hb:Below W10.heap.size W10 w1) (hy:RefV w1 y (m*ql))=>HSB.out rv2 y t ql w1 (hrv10.below hb) hy HTL.out HMT.out)
  go_wp2_with (first
    |(go_at_call 128;refine HTM1.out.mono ?_;clear HTM1;rintro e W11 ⟨y,rfl,hy,hw11⟩)
    |(go_at_call 48;refine(HSB1.out y _ hw11 hy).mono ?_;clear HSB1;rintro e W12 ⟨rv3,rfl,hrv3,hw12⟩;have hb12:=hw11.trans (hw12.mono hw11.size)))
  go_roundw
  case rel=>exact⟨j,t-m*ql,by omega,by go_num,⟨_,hA10.below hb12,by rw[List.length_set];exact hql,HQB.out,HQV.out⟩,hrv3,HRM.out,hb10.trans (hb12.mono hb10.size),hgb⟩
  case measure=>simp[intOf]
theorem rdivmod_any(v u:Value)(n m:Nat)(w:World)(hv:RefV w v n)(hu:RefV w u m)(hm:m≠0)(l1:(digs B6 n).length<=50000)(l2:(digs B6 m).length<=50000):
    Calls Tryz.prog 98 #[v,u] w fun e w'=> ∃x y,e=.returned (.tuple #[x,y,.int .i64 0])/\RefV w' x (n/m)/\RefV w' y (n%m)/\Below w.heap.size w w':=by
  by_cases h:n<18446744073709551616/\m<18446744073709551616
  . exact rdivmod_64 v u n m w hv hu hm h.1 h.2
  exact rdivmod_big v u n m w hv hu hm h l1 l2
set_option maxHeartbeats 1000000 in
theorem rgcd_any:∀(m n:Nat) (v u:Value) (w:World),RefV w v n->RefV w u m->(digs B6 n).length<=50000->(digs B6 m).length<=50000->
    Calls Tryz.prog 97 #[v,u] w fun e w'=> ∃x,e=.returned x/\RefV w' x (Nat.gcd n m)/\Below w.heap.size w w':=by
  intro m
  induction m using Nat.strongRecOn with
  | ind m ih=>
    intro n v u w hv hu l1 l2;obtain⟨q,cq,rfl,_⟩:=GV.slice hu
    by_cases hm:m=0
    . subst hm;rw[Nat.gcd_zero_right,digs_zero];have HV:=hid hv;clear hv hu;go_enter Tryz.func97,Tryz.ntmps97;go_wp2;go_ret;exact⟨_,rfl,HV.out,Below.refl _ _⟩
    have hl:(((digs B6 m).length:Int)==0)=false:=by
      rw[beq_eq_false_iff_ne];intro e;exact hm ((digs_eq_nil b6_2).1 (List.eq_nil_of_length_eq_zero (by omega)))
    have HD:=hid (rdivmod_any v _ n m w hv hu hm l1 l2);have hlt:=Nat.mod_lt n (Nat.pos_of_ne_zero hm);have HI:=hid (fun(x:Value) (w1:World) (hb:Below w.heap.size w w1) (h:RefV w1 x (n%m))=>ih (n%m) hlt m _ x w1 (hu.below hb) h l2 (digs6_mono (Nat.le_of_lt hlt) l2));have HG:=hid (show Nat.gcd m (n%m)=Nat.gcd n m from gcd_step n m);obtain⟨lm,hlm⟩:∃lm,(digs B6 m).length=lm:=⟨_,rfl⟩;rw[hlm]at HD HI hl⊢;clear hv hu hm ih l1 l2 hlt hlm;go_enter Tryz.func97,Tryz.ntmps97
    go_wp2_with (first
      |(go_at_call 98;refine HD.out.mono ?_;clear HD;rintro e w1 ⟨x,y,rfl,hx,hy,hw1⟩)
      |(go_at_call 97;refine(HI.out y w1 hw1 hy).mono ?_;clear HI;rintro e w2 ⟨z,rfl,hz,hw2⟩))
    go_ret;exact⟨_,rfl,by rw[<-HG.out];exact hz,hw1.trans (hw2.mono hw1.size)⟩
def Lim(n:Nat):Prop:=n<B32^200
theorem Lim.dec{n:Nat}(h:Lim n):(decDigits n).length<=3601:=dec_len (L:=200) h
theorem dec_head(n:Nat):(decDigits n).length=1\/(decDigits n).head?≠some 48:=by
  induction n using Nat.strongRecOn with
  | ind n ih=>
    by_cases h:n<10
    . rw[dec_small h];exact .inl rfl
    refine .inr ?_;rw[dec_big h];have hne:=dec_ne (n/10)
    have hh:(decDigits (n/10)++[chr (n%10)]).head?=(decDigits (n/10)).head?:=by
      cases hd:decDigits (n/10)with
      |nil=>exact absurd hd hne
      |cons x l=>rfl
    rw[hh]
    rcases ih (n/10) (by omega)with h1|h1
    . have h2:n/10<10:=Nat.lt_of_not_le fun h3=>by
        rw[dec_big (by omega),List.length_append,List.length_singleton]at h1;have:=List.length_pos_iff.2 (dec_ne (n/10/10));omega
      rw[dec_small h2,List.head?_cons];intro h3
      injection h3 with h3
      have h4:=congrArg UInt8.toNat h3;rw[chr_nat h2]at h4;have:(48:UInt8).toNat=48:=rfl;omega
    exact h1
theorem parse_dec{n:Nat}(h:(decDigits n).length<=1000):parseErr (decDigits n)=0/\parseVal (decDigits n)=n:=by
  have h1:=parse_good (dec_ne n) (dec_head n) (dec_digs n);rw[if_neg (by omega)]at h1;refine⟨h1,?_⟩;unfold parseVal;rw[if_pos h1,valT_dec]
theorem GV.box{W:World}{v:Value}{xs:List Nat}{R:Nat}{p:Option Addr}{l c:Nat}{t:TypeId}(h:GV W v xs)(hR:W.heap[R]?=some (.cells #[.slice p l c] t))(u:Value):GV (W.setCell ⟨R,0,none⟩ u) v xs:=by
  by_cases hn:xs=[]
  . subst hn;obtain⟨p,c,rfl,_⟩:=h.slice;exact .inl ⟨rfl,_,_,rfl⟩
  refine h.imp id fun⟨g,c,e,t,hc⟩=>⟨g,c,e,⟨by simpa[World.setCell]using t.lt,fun k hk=>?_⟩,hc⟩
  have hne:g≠R:=fun e=>by
    subst e;have:=t.at0 0 (List.length_pos_iff.2 hn);rw[cell_box1 hR]at this
    cases this
  rw[<-t.at0 k hk];exact World.cell?_of_block (w:=W) (Below.heap_setCell _ _ _ _ hne)
theorem RefV.box{W:World}{v:Value}{n:Nat}{R:Nat}{p:Option Addr}{l c:Nat}{t:TypeId}(h:RefV W v n)(hR:W.heap[R]?=some (.cells #[.slice p l c] t))(u:Value):RefV (W.setCell ⟨R,0,none⟩ u) v n:=GV.box h hR u
theorem KS.box{V w:World}{fs:List (World->Prop)}(h:KS V fs w)(obj:Obj):KS V (Has 0 w.heap.size obj::fs) (w.alloc obj):=
  (h.step ((Below.refl _ _).alloc (Nat.le_refl _) obj)).add fun _ hb=>Has.below ⟨Nat.zero_le _,heap_new w obj⟩ hb
theorem Has.lt{base R:Nat}{obj:Obj}{w:World}(h:Has base R obj w):R<w.heap.size:=(Array.getElem?_eq_some_iff.1 h.2).1
theorem Has.cell{base R:Nat}{w:World}{c:Value}{t:TypeId}(h:Has base R (.cells #[c] t) w):w.cell? ⟨R,0,none⟩=some c:=cell_box1 h.2
theorem Has.free{base R:Nat}{w:World}{c:Value}{t:TypeId}(h:Has base R (.cells #[c] t) w):∀o,w.frozen? ⟨R,o,none⟩=false:=free_box1 h.2
def Lm(k n:Nat):Prop:=n<B32^k
theorem Lm.add{a b n m:Nat}(h1:Lm a n)(h2:Lm b m):Lm (max a b+1) (n+m):=by
  unfold Lm at*;have e1:B32^a<=B32^(max a b):=Nat.pow_le_pow_right (by decide) (by omega);have e2:B32^b<=B32^(max a b):=Nat.pow_le_pow_right (by decide) (by omega);rw[Nat.pow_succ,b32];rw[b32]at h1 h2 e1 e2;omega
theorem Lm.mul{a b n m:Nat}(h1:Lm a n)(h2:Lm b m):Lm (a+b) (n*m):=by
  unfold Lm at*;rw[Nat.pow_add];exact Nat.mul_lt_mul'' h1 h2
theorem Lm.sub{a n m:Nat}(h1:Lm a n):Lm a (n-m):=Nat.lt_of_le_of_lt (Nat.sub_le _ _) h1
theorem rsub_any(v u:Value)(n m:Nat)(w:World)(hv:RefV w v n)(hu:RefV w u m)(h1:(digs B6 n).length<=900000)(h2:(digs B6 m).length<=900000):
    Calls Tryz.prog 48 #[v,u] w fun e w'=> ∃x,e=.returned (.tuple #[x,.int .i64 (if n<m then 2 else 0)])/\RefV w' x (n-m)/\Below w.heap.size w w':=by
  by_cases hlt:n<m
  . rw[if_pos hlt];refine(rsub_err v u n m w hv hu h1 h2 hlt).mono fun e w' ⟨h1,h2⟩=>⟨_,h1,?_,h2⟩
    rw[Nat.sub_eq_zero_of_le (by omega)];exact .inl ⟨digs_zero,_,_,rfl⟩
  rw[if_neg hlt];exact rsub_ok v u n m w hv hu h1 h2 (by omega)
theorem parseVal_lt{l:List UInt8}{L:Nat}(h:l.length<=L):parseVal l<10^L:=by
  unfold parseVal
  split
  . rename_i h0
    have hd:∀c∈l,isDig c=true:=fun c hc=>by
      cases hi:isDig c with
      |true=>rfl
      | false=>
        have:=parse_syn (l:=l) (.inr (.inr ⟨c,hc,hi⟩));rw[h0]at this;cases this
    exact Nat.lt_of_lt_of_le (valT_lt _ l rfl hd) (Nat.pow_le_pow_right (by decide) h)
  exact Nat.pow_pos (by decide)
def bCell(x:Nat):Value:=.int .u8 (x:Int)
def ArrB(W:World)(D:Nat)(xs:List Nat):Prop:=W.heap[D]?=some (.cells (xs.map bCell).toArray 5 (0,0))
theorem ArrB.lt{W:World}{D:Nat}{xs:List Nat}(h:ArrB W D xs):D<W.heap.size:=(Array.getElem?_eq_some_iff.1 h).1
theorem ArrB.cell{W:World}{D:Nat}{xs:List Nat}(h:ArrB W D xs)(k:Nat)(hk:k<xs.length):W.cell? ⟨D,k,none⟩=some (.int .u8 (xs[k]:Int)):=by
  unfold World.cell?;rw[show W.heap[(⟨D,k,none⟩:Addr).block]?=_ from h];simp[hk,bCell]
theorem ArrB.free{W:World}{D:Nat}{xs:List Nat}(h:ArrB W D xs):∀o,W.frozen? ⟨D,o,none⟩=false:=by
  intro o;unfold World.frozen?;rw[show W.heap[(⟨D,o,none⟩:Addr).block]?=_ from h];simp
theorem ArrB.below{W W':World}{D:Nat}{xs:List Nat}(h:ArrB W D xs)(hb:Below W.heap.size W W'):ArrB W' D xs:=(hb.block _ h.lt).trans h
theorem ArrB.store{W:World}{D:Nat}{xs:List Nat}(h:ArrB W D xs)(k v:Nat):ArrB (W.setCell ⟨D,k,none⟩ (.int .u8 (v:Int))) D (xs.set k v):=by
  unfold ArrB;rw[heap_setCell_at h];simp[List.map_set,bCell]
def rem0(n m:Nat):Nat:=if m=0 then 0 else n%m
def errD(m:Nat):Int:=if m=0 then 10 else 0
theorem dm_any(v u:Value)(n m:Nat)(w:World)(hv:NatV w v n)(hu:NatV w u m)(hl:(digs B32 n).length<=100000)(hl2:(digs B32 m).length<=100000):
    Calls Tryz.prog 142 #[v,u] w fun e w'=> ∃x y,e=.returned (.tuple #[x,y,.int .i64 (errD m)])/\NatV w' x (n/m)/\NatV w' y (rem0 n m)/\Below w.heap.size w w':=by
  unfold rem0 errD
  by_cases h:m=0
  . subst h;rw[if_pos rfl,if_pos rfl,Nat.div_zero];exact(divmod_zero v u n w hv hu).mono fun e w' ⟨h1,h2⟩=>⟨_,_,h1,NatV.zero _,NatV.zero _,h2⟩
  rw[if_neg h,if_neg h];exact divmod_any v u n m w hv hu h hl hl2
theorem rdm_any(v u:Value)(n m:Nat)(w:World)(hv:RefV w v n)(hu:RefV w u m)(hl:(digs B6 n).length<=50000)(hl2:(digs B6 m).length<=50000):
    Calls Tryz.prog 98 #[v,u] w fun e w'=> ∃x y,e=.returned (.tuple #[x,y,.int .i64 (errD m)])/\RefV w' x (n/m)/\RefV w' y (rem0 n m)/\Below w.heap.size w w':=by
  unfold rem0 errD
  by_cases h:m=0
  . subst h;rw[if_pos rfl,if_pos rfl,Nat.div_zero];exact(rdivmod_zero v u n w hv hu).mono fun e w' ⟨h1,h2⟩=>⟨_,_,h1,.inl ⟨digs_zero,_,_,rfl⟩,.inl ⟨digs_zero,_,_,rfl⟩,h2⟩
  rw[if_neg h,if_neg h];exact rdivmod_any v u n m w hv hu h hl hl2
theorem Lim.le{n m:Nat}(h:Lim m)(hle:n<=m):Lim n:=Nat.lt_of_le_of_lt hle h
end
section
theorem Lm.up{a b n:Nat}(h:Lm a n)(hab:a<=b):Lm b n:=Nat.lt_of_lt_of_le h (Nat.pow_le_pow_right (by decide) hab)
theorem Lm.le{a n m:Nat}(h:Lm a m)(hle:n<=m):Lm a n:=Nat.lt_of_le_of_lt hle h
structure LmQ(k:Nat)(x:Rat):Prop where
  n:Lm k x.num.natAbs
  d:Lm k x.den
theorem LmQ.up{a b:Nat}{x:Rat}(h:LmQ a x)(hab:a<=b):LmQ b x:=⟨h.n.up hab,h.d.up hab⟩
theorem LmQ.ofS{k n d:Nat}(s:Bool)(hn:Lm k n)(hd:Lm k d)(h0:d≠0):LmQ k (ofS s n d):=
  ⟨by rw[ofS_num s n h0];exact hn.le (Nat.div_le_self _ _),by rw[ofS_den s n h0];exact hd.le (Nat.div_le_self _ _)⟩
theorem LmQ.mul{a b:Nat}{x y:Rat}(hx:LmQ a x)(hy:LmQ b y):LmQ (a+b) (x*y):=by
  rw[<-mul_of];exact .ofS _ (hx.n.mul hy.n) (hx.d.mul hy.d) (Nat.mul_ne_zero x.den_nz y.den_nz)
theorem LmQ.add{a b:Nat}{x y:Rat}(hx:LmQ a x)(hy:LmQ b y):LmQ (a+b+1) (x+y):=by
  rw[<-add_of (sgn_of _)];refine .ofS _ (((hx.n.mul hy.d).add (hy.n.mul hx.d)).up (by omega)|>.le ?_) ((hx.d.mul hy.d).up (by omega)) (Nat.mul_ne_zero x.den_nz y.den_nz);unfold sgn
  cases isN x<;>cases isN y<;>simp<;>omega
theorem LmQ.neg{a:Nat}{x:Rat}(hx:LmQ a x):LmQ a (-x):=⟨by rw[neg_num];exact hx.n,by rw[Rat.neg_den];exact hx.d⟩
theorem LmQ.sub{a b:Nat}{x y:Rat}(hx:LmQ a x)(hy:LmQ b y):LmQ (a+b+1) (x-y):=by
  rw[Rat.sub_eq_add_neg];exact hx.add hy.neg
theorem LmQ.div{a b:Nat}{x y:Rat}(hx:LmQ a x)(hy:LmQ b y)(h0:y≠0):LmQ (a+b) (x/y):=by
  rw[<-div_of x h0];exact .ofS _ (hx.n.mul hy.d) ((hy.n.mul hx.d).up (by omega)) (Nat.mul_ne_zero (fun h=>h0 ((natAbs_zero y).1 h)) x.den_nz)
def RatV(W:World)(v:Value)(x:Rat):Prop:= ∃p l c q m d,v=.agg #[.bool (isN x),.slice p l c,.slice q m d]/\NatV W (.agg #[.slice p l c]) x.num.natAbs/\NatV W (.agg #[.slice q m d]) (den0 x)
theorem RatV.below{W W':World}{v:Value}{x:Rat}(h:RatV W v x)(hb:Below W.heap.size W W'):RatV W' v x:=by
  obtain⟨p,l,c,q,m,d,rfl,h1,h2⟩:=h;exact⟨p,l,c,q,m,d,rfl,h1.below hb,h2.below hb⟩
def RefR(W:World)(v:Value)(x:Rat):Prop:= ∃nv dv,v=.agg #[.bool (isN x),nv,dv]/\RefV W nv x.num.natAbs/\RefV W dv (den0 x)
theorem RefR.below{W W':World}{v:Value}{x:Rat}(h:RefR W v x)(hb:Below W.heap.size W W'):RefR W' v x:=by
  obtain⟨nv,dv,rfl,h1,h2⟩:=h;exact⟨nv,dv,rfl,h1.below hb,h2.below hb⟩
theorem den0_ofS(s:Bool)(n:Nat){d:Nat}(h0:d≠0):den0 (ofS s n d)=if d/Nat.gcd n d=1 then 0 else d/Nat.gcd n d:=by
  unfold den0;rw[ofS_den s n h0]
theorem RatV.make{W:World}{p q:Option Addr}{l c m e:Nat}{b s:Bool}{n d a z:Nat}(h0:d≠0)(hb:b=(s&&decide (n≠0)))(ha:a=n/Nat.gcd n d)(hc:z=if d/Nat.gcd n d=1 then 0 else d/Nat.gcd n d)(hn:NatV W (.agg #[.slice p l c]) a)(hd:NatV W (.agg #[.slice q m e]) z):RatV W (.agg #[.bool b,.slice p l c,.slice q m e]) (ofS s n d):=by
  refine⟨p,l,c,q,m,e,by rw[ofS_isN s n h0,hb],?_,?_⟩
  . rw[ofS_num s n h0, <-ha];exact hn
  rw[den0_ofS s n h0, <-hc];exact hd
theorem RefR.make{W:World}{nv dv:Value}{b s:Bool}{n d a c:Nat}(h0:d≠0)(hb:b=(s&&decide (n≠0)))(ha:a=n/Nat.gcd n d)(hc:c=if d/Nat.gcd n d=1 then 0 else d/Nat.gcd n d)(hn:RefV W nv a)(hd:RefV W dv c):RefR W (.agg #[.bool b,nv,dv]) (ofS s n d):=by
  refine⟨nv,dv,by rw[ofS_isN s n h0,hb],?_,?_⟩
  . rw[ofS_num s n h0, <-ha];exact hn
  rw[den0_ofS s n h0, <-hc];exact hd
def errQ(l:List UInt8):Int:=if parseErr (firQ l)=3\/parseErr (secQ l)=3 then 3 else if parseErr (firQ l)≠0\/parseErr (secQ l)≠0 then 6 else if parseVal (secQ l)=0 then 10 else 0
def valQ(l:List UInt8):Rat:=if errQ l=0 then ofS (isMinus l) (parseVal (firQ l)) (parseVal (secQ l))else 0
theorem parse_text(x:Rat)(h1:(decDigits x.num.natAbs).length<=1000)(h2:(decDigits x.den).length<=1000):errQ (textQ x)=0/\valQ (textQ x)=x:=by
  have e1:=parse_dec h1;have e2:=parse_dec h2
  have he:errQ (textQ x)=0:=by
    unfold errQ;rw[fir_text,sec_text,e1.1,e2.1,e2.2,if_neg (by decide),if_neg (by decide),if_neg x.den_nz]
  refine⟨he,?_⟩;unfold valQ;rw[if_pos he,fir_text,sec_text,e1.2,e2.2,(text_minus x).1,ofS_self]
theorem Has.c3{base R:Nat}{w:World}{c0 c1 c2:Value}{t:TypeId}(h:Has base R (.cells #[c0,c1,c2] t) w):w.cell? ⟨R,0,none⟩=some c0/\w.cell? ⟨R,1,none⟩=some c1/\w.cell? ⟨R,2,none⟩=some c2:=by
  refine⟨?_,?_,?_⟩<;>simp[World.cell?,h.2]
theorem NatV.apart{W W':World}{v:Value}{n R:Nat}(h:NatV W v n)(hR:∀i,W.cell? ⟨R,0,none⟩≠some (.int .u32 i))(hsz:W.heap.size<=W'.heap.size)(hE:∀g,g≠R->W'.heap[g]?=W.heap[g]?):NatV W' v n:=by
  refine h.imp id fun⟨h0,g,c,e,t,hc⟩=>⟨h0,g,c,e,⟨Nat.lt_of_lt_of_le t.lt hsz,fun k hk=>?_⟩,hc⟩
  have hne:g≠R:=fun e=>by
    subst e;exact hR _ (t.at0 0 (by omega))
  rw[<-t.at0 k hk];exact World.cell?_of_block (w:=W) (hE g hne)
def World.set3(W:World)(R:Nat)(x y z:Value):World:=((W.setCell ⟨R,0,none⟩ x).setCell ⟨R,1,none⟩ y).setCell ⟨R,2,none⟩ z
set_option maxRecDepth 100000 in
theorem one_any(v:Value)(n:Nat)(w:World)(hv:NatV w v n):
    Calls Tryz.prog 140 #[v] w fun e w'=>e=.returned (.bool (n==1))/\Below w.heap.size w w':=by
  have HU:=hid (fun w1 (hb:Below w.heap.size w w1)=>uint64_any v n w1 (hv.below hb));obtain⟨P,c,rfl,hp⟩:=hv.digp;have HI:=hid (show((n:Int)==1)=(n==1) by rw[Bool.eq_iff_iff];simp;omega)
  by_cases h:n<18446744073709551616
  . have h1:True:=trivial;go_enter Tryz.func140,Tryz.ntmps140;go_upto_region 1 with(fail);obtain⟨W1,hW1,hsz,kA,hWb⟩:=box1_head (.slice P (digs B32 n).length c) 68 w;rw[<-hW1];have b1:w.heap.size<W1.heap.size:=by omega
    have a0:=cell_box1 kA;clear hW1 hsz hp hv;go_wp2_with (go_at_call 151;refine(HU.out _ hWb).mono ?_;clear HU;rintro e W2 ⟨rfl,hw2⟩;have hb2:=hWb.trans (hw2.mono hWb.size);simp only[u64V,if_pos h,decide_eq_true h]);go_ret;exact⟨by rw[<-HI.out];rfl,hb2⟩
  have h1:¬n=1:=by omega
  go_enter Tryz.func140,Tryz.ntmps140;go_upto_region 1 with(fail);obtain⟨W1,hW1,hsz,kA,hWb⟩:=box1_head (.slice P (digs B32 n).length c) 68 w;rw[<-hW1];have b1:w.heap.size<W1.heap.size:=by omega
  have a0:=cell_box1 kA;clear hW1 hsz hp hv;go_wp2_with (go_at_call 151;refine(HU.out _ hWb).mono ?_;clear HU;rintro e W2 ⟨rfl,hw2⟩;have hb2:=hWb.trans (hw2.mono hWb.size);simp only[u64V,if_neg h,decide_eq_false h]);go_ret;exact⟨by simp[h1],hb2⟩
set_option maxRecDepth 100000 in
theorem magnitude_any(z:Int)(w:World)(h0: -9223372036854775808<=z)(h1:z<=9223372036854775807):
    Calls Tryz.prog 57 #[.int .i64 z] w fun e w'=> ∃v,e=.returned (.tuple #[v,.bool (decide (z<0))])/\NatV w' v z.natAbs/\Below w.heap.size w w':=by
  have HO:=hid (fun w1=>of_any z.natAbs w1 (by omega));go_enter Tryz.func57,Tryz.ntmps57;go_upto_region 1 with(fail);obtain⟨W1,hW1,hsz,kA,hWb⟩:=box1_head (.slice none 0 0) 68 w;rw[<-hW1];have b1:w.heap.size<W1.heap.size:=by omega
  have a0:=cell_box1 kA;clear hW1 hsz
  by_cases hn:z<0
  . have HW:=hid (show IntKind.u64.wrap (-IntKind.u64.wrap z)=(z.natAbs:Int) by simp only[IntKind.wrap,IntKind.bits,IntKind.signed,Bool.false_and,Bool.false_eq_true,if_false];omega);go_wp2_with (go_at_call 83;rw[HW.out];refine(HO.out _).mono ?_;clear HO;rintro e W2 ⟨v,rfl,hv,hw2⟩;have hb2:=hWb.trans (hw2.mono hWb.size);obtain⟨P,c,rfl,_⟩:=hv.digp;have k2:=(hw2.block _ b1).trans kA;have c2:=cell_box1 k2;have f2:=free_box1 k2;have l2:=Nat.lt_of_lt_of_le b1 hw2.size);exact bodyPost_ret (v:=.tuple #[.agg #[.slice P (digs B32 z.natAbs).length c],.bool true]) (by simp[results,Tryz.results57,go_sem,res_store k2]) rfl ⟨_,by rw[decide_eq_true hn],hv.store c2 _,hb2.setCell (p:=⟨w.heap.size,0,none⟩) (Nat.le_refl _) _⟩
  have HW:=hid (show(z.natAbs:Int)=z by omega);rw[HW.out]at HO;go_wp2_with (go_at_call 83;refine(HO.out _).mono ?_;clear HO;rintro e W2 ⟨v,rfl,hv,hw2⟩;have hb2:=hWb.trans (hw2.mono hWb.size);obtain⟨P,c,rfl,_⟩:=hv.digp;have k2:=(hw2.block _ b1).trans kA;have c2:=cell_box1 k2;have f2:=free_box1 k2;have l2:=Nat.lt_of_lt_of_le b1 hw2.size);exact bodyPost_ret (v:=.tuple #[.agg #[.slice P (digs B32 z.natAbs).length c],.bool false]) (by simp[results,Tryz.results57,go_sem,res_store k2]) rfl ⟨_,by rw[decide_eq_false (by omega:¬z<0)],hv.store c2 _,hb2.setCell (p:=⟨w.heap.size,0,none⟩) (Nat.le_refl _) _⟩
end
section
structure Sl where
  p:Option Addr
  l:Nat
  c:Nat
instance :Nonempty Sl:=⟨⟨none,0,0⟩⟩
structure Duo(α β:Type) where
  a:α
  b:β
instance {α β:Type}[h:Nonempty α][h':Nonempty β]:Nonempty (Duo α β):=h.elim fun a=>h'.elim fun b=>⟨⟨a,b⟩⟩
def Lasts(l:List (World->Prop))(w:World):Prop:= ∀F∈l,∀w2,Below w.heap.size w w2->F w2
theorem Lasts.nil(w:World):Lasts [] w:=fun _ h=>absurd h List.not_mem_nil
theorem Lasts.cons{F:World->Prop}{l:List (World->Prop)}{w:World}(h:∀w2,Below w.heap.size w w2->F w2)(h':Lasts l w):Lasts (F::l) w:=fun G hG=>by
  rcases List.mem_cons.1 hG with rfl|hG
  . exact h
  exact h' G hG
theorem KS.more{V w:World}{l l':List (World->Prop)}(h:KS V l w)(h':Lasts l' w):KS V (l'++l) w:=h.app h'
theorem KS.subl{V w:World}{l l':List (World->Prop)}(h:KS V l w)(hs:l'.Sublist l):KS V l' w:=h.sub fun _ hF=>hs.subset hF
theorem pA{α:Type _}(l:List α)(i:Nat)(a:α):l.toArray.setIfInBounds i a=(l.set i a).toArray:=List.setIfInBounds_toArray ..
theorem pB{α:Type _}(x:α)(xs:List α)(a:α):(x::xs).set 0 a=a::xs:=List.set_cons_zero ..
theorem pC{α:Type _}(x:α)(xs:List α)(i:Nat)(a:α):(x::xs).set (i+1) a=x::xs.set i a:=List.set_cons_succ ..
theorem pD{α:Type _}(x:α)(xs l:List α):(x::xs)++l=x::(xs++l):=List.cons_append ..
theorem pE{α:Type _}(l:List α):[]++l=l:=List.nil_append ..
theorem Calls.hide{P:Program}{f:FuncId}{args:Array Value}{w:World}{Post:Ending->World->Prop}(h:∀Q,Hid (Post=Q)->Calls P f args w Q):Calls P f args w Post:=h Post (hid rfl)
def putAt(R:Nat):Nat->List Value->World->World
  |_,[],w=>w
  |o,c::cs,w=>putAt R (o+1) cs (w.setCell ⟨R,o,none⟩ c)
def setL:List Value->Nat->List Value->List Value
  |l,_,[]=>l
  |l,o,c::cs=>setL (l.set o c) (o+1) cs
theorem put_size(R:Nat):∀(cs:List Value) (o:Nat) (w:World),w.heap.size<=(putAt R o cs w).heap.size
  |[],_,_=>Nat.le_refl _
  |c::cs,o,w=>Nat.le_trans (by simp[World.setCell]) (put_size R cs (o+1) (w.setCell ⟨R,o,none⟩ c))
theorem put_far{R g:Nat}(hne:g≠R):∀(cs:List Value) (o:Nat) (w:World),(putAt R o cs w).heap[g]?=w.heap[g]?
  |[],_,_=>rfl
  |c::cs,o,w=>(put_far hne cs (o+1) (w.setCell ⟨R,o,none⟩ c)).trans (setCell_far _ hne)
theorem put_at{R:Nat}{t:TypeId}:∀(cs:List Value) (o:Nat) (l:List Value) (w:World),w.heap[R]?=some (.cells l.toArray t)->(putAt R o cs w).heap[R]?=some (.cells (setL l o cs).toArray t)
  |[],_,_,_,h=>h
  |c::cs,o,l,w,h=>put_at cs (o+1) (l.set o c) (w.setCell ⟨R,o,none⟩ c) (by rw[heap_setCell_at h c,List.setIfInBounds_toArray])
def Spares(R:Nat)(w:World)(F:World->Prop):Prop:= ∀w1,w.heap.size<=w1.heap.size->(∀g,g≠R->g<w.heap.size->w1.heap[g]?=w.heap[g]?)-> ∀w2,Below w1.heap.size w1 w2->F w2
theorem Spares.put{R:Nat}{w:World}{F:World->Prop}(h:Spares R w F)(o:Nat)(cs:List Value):∀w',Below (putAt R o cs w).heap.size (putAt R o cs w) w'->F w':=
  h _ (put_size R cs o w) (fun _ hg _=>put_far hg cs o w)
theorem has_put{base R:Nat}{w w':World}{l:List Value}{t:TypeId}(h:Has base R (.cells l.toArray t) w)(o:Nat)(cs:List Value)(hb:Below (putAt R o cs w).heap.size (putAt R o cs w) w'):Has base R (.cells (setL l o cs).toArray t) w':=
  Has.below ⟨h.1,put_at cs o l w h.2⟩ hb
theorem Has.ltS{base R:Nat}{w:World}{obj:Obj}(h:Has base R obj w):R<w.heap.size:=(Array.getElem?_eq_some_iff.1 h.2).1
theorem has_spare{base R R':Nat}{obj:Obj}{w:World}(h:Has base R' obj w)(hne:R'≠R):Spares R w (Has base R' obj):=fun _ _ hf _ hb=>
  Has.below ⟨h.1,(hf R' hne (Array.getElem?_eq_some_iff.1 h.2).1).trans h.2⟩ hb
def rkV:Value->Nat
  | .int .u32 _=>0
  | .int .i64 _=>1
  | .bool _=>2
  | .slice ..=>3
  | .string _=>4
  | .pointer _=>5
  | .int _ _=>6
  |_=>7
def NoHd(S:List Nat)(R:Nat)(w:World):Prop:= ∀v,w.cell? ⟨R,0,none⟩=some v->S.contains (rkV v)=false
def HdIs(R:Nat)(n:Nat)(w:World):Prop:= ∀v,w.cell? ⟨R,0,none⟩=some v->rkV v=n
theorem HdIs.no{S:List Nat}{R n:Nat}{w:World}(h:HdIs R n w)(hS:S.contains n=false):NoHd S R w:=fun v hv=>by rw[h v hv];exact hS
theorem hdIs_of{base R:Nat}{w:World}{c:Value}{l:List Value}{t:TypeId}(h:Has base R (.cells (c::l).toArray t) w):HdIs R (rkV c) w:=fun v e=>by
  have e2:w.cell? ⟨R,0,none⟩=some c:=by simp[World.cell?,h.2]
  rw[e2]at e;rw[Option.some.inj e]
theorem hdIs_nil{base R n:Nat}{w:World}{t:TypeId}(h:Has base R (.cells #[] t) w):HdIs R n w:=fun v e=>by
  unfold World.cell? at e;rw[h.2]at e
  cases e
section
variable {R R' base o:Nat}{cs:List Value}{w:World}{obj:Obj}
end
theorem m0{α:Type _}{a:α}{l:List α}:a∈a::l:=List.mem_cons_self ..
theorem ms{α:Type _}{a b:α}{l:List α}(h:a∈l):a∈b::l:=List.mem_cons_of_mem _ h
theorem m1{α:Type _}{a:α}{b0:α}{l:List α}:a∈b0::a::l:=ms m0
theorem m2{α:Type _}{a:α}{b0 b1:α}{l:List α}:a∈b0::b1::a::l:=ms m1
theorem m3{α:Type _}{a:α}{b0 b1 b2:α}{l:List α}:a∈b0::b1::b2::a::l:=ms m2
theorem m4{α:Type _}{a:α}{b0 b1 b2 b3:α}{l:List α}:a∈b0::b1::b2::b3::a::l:=ms m3
theorem m5{α:Type _}{a:α}{b0 b1 b2 b3 b4:α}{l:List α}:a∈b0::b1::b2::b3::b4::a::l:=ms m4
theorem m6{α:Type _}{a:α}{b0 b1 b2 b3 b4 b5:α}{l:List α}:a∈b0::b1::b2::b3::b4::b5::a::l:=ms m5
theorem m7{α:Type _}{a:α}{b0 b1 b2 b3 b4 b5 b6:α}{l:List α}:a∈b0::b1::b2::b3::b4::b5::b6::a::l:=ms m6
theorem m8{α:Type _}{a:α}{b0 b1 b2 b3 b4 b5 b6 b7:α}{l:List α}:a∈b0::b1::b2::b3::b4::b5::b6::b7::a::l:=ms m7
theorem m9{α:Type _}{a:α}{b0 b1 b2 b3 b4 b5 b6 b7 b8:α}{l:List α}:a∈b0::b1::b2::b3::b4::b5::b6::b7::b8::a::l:=ms m8
theorem m10{α:Type _}{a:α}{b0 b1 b2 b3 b4 b5 b6 b7 b8 b9:α}{l:List α}:a∈b0::b1::b2::b3::b4::b5::b6::b7::b8::b9::a::l:=ms m9
theorem m11{α:Type _}{a:α}{b0 b1 b2 b3 b4 b5 b6 b7 b8 b9 b10:α}{l:List α}:a∈b0::b1::b2::b3::b4::b5::b6::b7::b8::b9::b10::a::l:=ms m10
theorem m12{α:Type _}{a:α}{b0 b1 b2 b3 b4 b5 b6 b7 b8 b9 b10 b11:α}{l:List α}:a∈b0::b1::b2::b3::b4::b5::b6::b7::b8::b9::b10::b11::a::l:=ms m11
theorem m13{α:Type _}{a:α}{b0 b1 b2 b3 b4 b5 b6 b7 b8 b9 b10 b11 b12:α}{l:List α}:a∈b0::b1::b2::b3::b4::b5::b6::b7::b8::b9::b10::b11::b12::a::l:=ms m12
theorem m14{α:Type _}{a:α}{b0 b1 b2 b3 b4 b5 b6 b7 b8 b9 b10 b11 b12 b13:α}{l:List α}:a∈b0::b1::b2::b3::b4::b5::b6::b7::b8::b9::b10::b11::b12::b13::a::l:=ms m13
theorem m15{α:Type _}{a:α}{b0 b1 b2 b3 b4 b5 b6 b7 b8 b9 b10 b11 b12 b13 b14:α}{l:List α}:a∈b0::b1::b2::b3::b4::b5::b6::b7::b8::b9::b10::b11::b12::b13::b14::a::l:=ms m14
theorem m16{α:Type _}{a:α}{b0 b1 b2 b3 b4 b5 b6 b7 b8 b9 b10 b11 b12 b13 b14 b15:α}{l:List α}:a∈b0::b1::b2::b3::b4::b5::b6::b7::b8::b9::b10::b11::b12::b13::b14::b15::a::l:=ms m15
theorem m17{α:Type _}{a:α}{b0 b1 b2 b3 b4 b5 b6 b7 b8 b9 b10 b11 b12 b13 b14 b15 b16:α}{l:List α}:a∈b0::b1::b2::b3::b4::b5::b6::b7::b8::b9::b10::b11::b12::b13::b14::b15::b16::a::l:=ms m16
theorem m18{α:Type _}{a:α}{b0 b1 b2 b3 b4 b5 b6 b7 b8 b9 b10 b11 b12 b13 b14 b15 b16 b17:α}{l:List α}:a∈b0::b1::b2::b3::b4::b5::b6::b7::b8::b9::b10::b11::b12::b13::b14::b15::b16::b17::a::l:=ms m17
theorem m19{α:Type _}{a:α}{b0 b1 b2 b3 b4 b5 b6 b7 b8 b9 b10 b11 b12 b13 b14 b15 b16 b17 b18:α}{l:List α}:a∈b0::b1::b2::b3::b4::b5::b6::b7::b8::b9::b10::b11::b12::b13::b14::b15::b16::b17::b18::a::l:=ms m18
theorem str_add(a b:List UInt8):(⟨a.toArray⟩:ByteArray)++⟨b.toArray⟩=⟨(a++b).toArray⟩:=by
  apply ByteArray.ext;simp
theorem Has.at{base R:Nat}{w:World}{l:List Value}{t:TypeId}(h:Has base R (.cells l.toArray t) w)(o:Nat){c:Value}(hc:l[o]?=some c):w.cell? ⟨R,o,none⟩=some c:=by
  unfold World.cell?;rw[h.2]
  simpa using hc
theorem Has.c2{base R:Nat}{w:World}{a b:Value}{t:TypeId}(H:Has base R (.cells #[a,b] t) w):w.cell? ⟨R,0,none⟩=some a/\w.cell? ⟨R,1,none⟩=some b:=⟨H.at 0 rfl,H.at 1 rfl⟩
theorem Has.c4{base R:Nat}{w:World}{a b c d:Value}{t:TypeId}(H:Has base R (.cells #[a,b,c,d] t) w):w.cell? ⟨R,0,none⟩=some a/\w.cell? ⟨R,1,none⟩=some b/\w.cell? ⟨R,2,none⟩=some c/\w.cell? ⟨R,3,none⟩=some d:=⟨H.at 0 rfl,H.at 1 rfl,H.at 2 rfl,H.at 3 rfl⟩
theorem Has.c5{base R:Nat}{w:World}{a b c d e:Value}{t:TypeId}(H:Has base R (.cells #[a,b,c,d,e] t) w):w.cell? ⟨R,0,none⟩=some a/\w.cell? ⟨R,1,none⟩=some b/\w.cell? ⟨R,2,none⟩=some c/\w.cell? ⟨R,3,none⟩=some d/\w.cell? ⟨R,4,none⟩=some e:=⟨H.at 0 rfl,H.at 1 rfl,H.at 2 rfl,H.at 3 rfl,H.at 4 rfl⟩
theorem Has.c6{base R:Nat}{w:World}{a b c d e f:Value}{t:TypeId}(H:Has base R (.cells #[a,b,c,d,e,f] t) w):w.cell? ⟨R,0,none⟩=some a/\w.cell? ⟨R,1,none⟩=some b/\w.cell? ⟨R,2,none⟩=some c/\w.cell? ⟨R,3,none⟩=some d/\w.cell? ⟨R,4,none⟩=some e/\w.cell? ⟨R,5,none⟩=some f:=⟨H.at 0 rfl,H.at 1 rfl,H.at 2 rfl,H.at 3 rfl,H.at 4 rfl,H.at 5 rfl⟩
theorem Has.c7{base R:Nat}{w:World}{a b c d e f g:Value}{t:TypeId}(H:Has base R (.cells #[a,b,c,d,e,f,g] t) w):w.cell? ⟨R,0,none⟩=some a/\w.cell? ⟨R,1,none⟩=some b/\w.cell? ⟨R,2,none⟩=some c/\w.cell? ⟨R,3,none⟩=some d/\w.cell? ⟨R,4,none⟩=some e/\w.cell? ⟨R,5,none⟩=some f/\w.cell? ⟨R,6,none⟩=some g:=⟨H.at 0 rfl,H.at 1 rfl,H.at 2 rfl,H.at 3 rfl,H.at 4 rfl,H.at 5 rfl,H.at 6 rfl⟩
theorem Has.c8{base R:Nat}{w:World}{a b c d e f g h:Value}{t:TypeId}(H:Has base R (.cells #[a,b,c,d,e,f,g,h] t) w):w.cell? ⟨R,0,none⟩=some a/\w.cell? ⟨R,1,none⟩=some b/\w.cell? ⟨R,2,none⟩=some c/\w.cell? ⟨R,3,none⟩=some d/\w.cell? ⟨R,4,none⟩=some e/\w.cell? ⟨R,5,none⟩=some f/\w.cell? ⟨R,6,none⟩=some g/\w.cell? ⟨R,7,none⟩=some h:=⟨H.at 0 rfl,H.at 1 rfl,H.at 2 rfl,H.at 3 rfl,H.at 4 rfl,H.at 5 rfl,H.at 6 rfl,H.at 7 rfl⟩
theorem Has.fz{base R:Nat}{w:World}{c:Array Value}{t:TypeId}(h:Has base R (.cells c t) w):∀o,w.frozen? ⟨R,o,none⟩=false:=by intro o;simp[World.frozen?,h.2]
section
variable {P:Program}{V:World}{ops:Array Oper}{Q:Exit->Act->World->Prop}{o:Oper}{rest:List Oper}{fs:List (World->Prop)}{a:Act}{v:Value}
variable {B:Nat}{f0:List (World->Prop)}{Q2:Act->World->Prop}{ks:List Nat}
end
theorem ylt{p:Prop}[Decidable p](h:RowKit.Hid (decide p=true)):p:=of_decide_eq_true h.out
theorem nlt{a b:Int}(h:RowKit.Hid (decide (a<b)=false)):b<=a:=Int.not_lt.1 (of_decide_eq_false h.out)
theorem nle{a b:Int}(h:RowKit.Hid (decide (a<=b)=false)):b<a:=Int.not_le.1 (of_decide_eq_false h.out)
theorem gtH{α:Type}{l:List α}{i:Nat}(h:i<l.length):∃z,RowKit.Hid (l[i]?=some z):=⟨_,hid (List.getElem?_eq_getElem h)⟩
theorem lle{a b:Nat}(h:a=b):a<=b/\b<=a:=⟨Nat.le_of_eq h,Nat.le_of_eq h.symm⟩
theorem nmI(a:Int):∃z,RowKit.Hid (a=z):=⟨_,hid rfl⟩
theorem nmB(a:Bool):∃z,RowKit.Hid (a=z):=⟨_,hid rfl⟩
theorem qo{α β:Type}{P Q:α->β->Prop}(h:RowKit.Hid (P=Q)){e:α}{w:β}(z:P e w):Q e w:=h.out▸z
theorem sR{α:Type}{l:List α}:l.Sublist l:=List.Sublist.refl l
end
section
theorem nat_spare{R:Nat}{w:World}{v:Value}{n:Nat}(h:NatV w v n)(hR:NoHd [0] R w):Spares R w (fun w=>NatV w v n):=fun w1 hs hf w2 hb=>by
  refine NatV.below (W:=w1) (h.imp id fun⟨h0,g,c,e,t,hc⟩=>⟨h0,g,c,e,⟨Nat.lt_of_lt_of_le t.lt hs,fun k hk=>?_⟩,hc⟩) hb
  have hne:g≠R:=fun e=>by
    subst e;exact absurd (hR _ (t.at0 0 (by omega))) (by simp[rkV])
  rw[<-t.at0 k hk];exact World.cell?_of_block (w:=w) (hf g hne t.lt)
theorem rat_spare{R:Nat}{w:World}{v:Value}{x:Rat}(h:RatV w v x)(hR:NoHd [0] R w):Spares R w (fun w=>RatV w v x):=fun w1 hs hf w2 hb=>by
  obtain⟨p,l,c,q,m,d,rfl,h1,h2⟩:=h;exact⟨p,l,c,q,m,d,rfl,nat_spare h1 hR w1 hs hf w2 hb,nat_spare h2 hR w1 hs hf w2 hb⟩
theorem GV.apart{W W':World}{v:Value}{xs:List Nat}{R:Nat}(h:GV W v xs)(hR:NoHd [1] R W)(hsz:W.heap.size<=W'.heap.size)(hE:∀g,g≠R->g<W.heap.size->W'.heap[g]?=W.heap[g]?):GV W' v xs:=by
  rcases h with h|⟨g,c,e,hd,hc⟩
  . exact .inl h
  by_cases hx:xs=[]
  . subst hx;exact .inl ⟨rfl,_,_,e⟩
  have hpos:0<xs.length:=List.length_pos_iff.2 hx
  have hne:g≠R:=fun e=>by
    subst e;exact absurd (hR _ (hd.at0 0 hpos)) (by simp[iCell,rkV])
  refine .inr ⟨g,c,e,⟨Nat.lt_of_lt_of_le hd.lt hsz,fun k hk=>?_⟩,hc⟩;rw[<-hd.at0 k hk];exact World.cell?_of_block (w:=W) (hE g hne hd.lt)
theorem ref_spare{R:Nat}{w:World}{v:Value}{n:Nat}(h:RefV w v n)(hR:NoHd [1] R w):Spares R w (fun w=>RefV w v n):=fun _ hs hf _ hb=>
  RefV.below (GV.apart h hR hs hf) hb
theorem refr_spare{R:Nat}{w:World}{v:Value}{x:Rat}(h:RefR w v x)(hR:NoHd [1] R w):Spares R w (fun w=>RefR w v x):=fun w1 hs hf w2 hb=>by
  obtain⟨nv,dv,rfl,h1,h2⟩:=h;exact⟨nv,dv,rfl,ref_spare h1 hR w1 hs hf w2 hb,ref_spare h2 hR w1 hs hf w2 hb⟩
section
variable {R R' base o:Nat}{cs:List Value}{w:World}{v:Value}{n:Nat}{x:Rat}{obj:Obj}
end
theorem RefV.sl{W:World}{v:Value}{n:Nat}(h:RefV W v n):∃p l c,v=.slice p l c:=by
  rcases h with⟨_,p,c,e⟩|⟨g,c,e,_⟩
  . exact⟨_,_,_,e⟩
  exact⟨_,_,_,e⟩
theorem RefV.slr{W:World}{v:Value}{n:Nat}(h:RefV W v n):∃p c,v=.slice p (digs B6 n).length c:=by
  rcases h with⟨h0,p,c,e⟩|⟨g,c,e,_⟩
  . exact⟨p,c,by rw[h0];exact e⟩
  exact⟨_,_,e⟩
def numQ(x:Rat):Nat:=x.num.natAbs
theorem RefR.slr{W:World}{v:Value}{x:Rat}(h:RefR W v x):∃p c q d,v=.agg #[.bool (isN x),.slice p (digs B6 (numQ x)).length c,.slice q (digs B6 (den0 x)).length d]/\RefV W (.slice p (digs B6 (numQ x)).length c) (numQ x)/\RefV W (.slice q (digs B6 (den0 x)).length d) (den0 x):=by
  obtain⟨nv,dv,rfl,h1,h2⟩:=h;obtain⟨p,c,rfl⟩:=h1.slr;obtain⟨q,d,rfl⟩:=h2.slr;exact⟨p,c,q,d,rfl,h1,h2⟩
theorem RefR.zero(W:World):RefR W (.agg #[.bool false,.slice none 0 0,.slice none 0 0]) 0:=⟨_,_,rfl,RefV.zero W,RefV.zero W⟩
theorem len6_zero{n:Nat}(h:(((digs B6 n).length:Int)==0)=true):n=0:=by
  have:digs B6 n=[]:=List.eq_nil_of_length_eq_zero (by simpa using h);rw[<-val_digs b6_2 n,this];rfl
theorem len6_pos{n:Nat}(h:(((digs B6 n).length:Int)==0)=false):n≠0:=fun e=>by
  subst e;rw[digs_zero]at h
  cases h
theorem digs6_one{n:Nat}(h:(((digs B6 n).length:Int)==1)=true):digs B6 n=[n]:=by
  have hl:(digs B6 n).length=1:=by
    have:((digs B6 n).length:Int)=1:=by simpa using h
    omega
  obtain⟨x,hx⟩:∃x,digs B6 n=[x]:=List.length_eq_one_iff.1 hl;have e:=val_digs b6_2 n;rw[hx]at e;simp[val]at e;rw[hx,e]
theorem RefV.one{W:World}{p:Option Addr}{n c:Nat}(h:RefV W (.slice p (digs B6 n).length c) n)(h1:(((digs B6 n).length:Int)==1)=true):∃g,p=some ⟨g,0,none⟩:=by
  rcases h with⟨h0,_⟩|⟨g,_,e,_⟩
  . rw[digs6_one h1]at h0;cases h0
  injection e with e1
  exact⟨g,e1⟩
theorem RefV.cell1{W:World}{g n c:Nat}(h:RefV W (.slice (some ⟨g,0,none⟩) (digs B6 n).length c) n)(h1:(((digs B6 n).length:Int)==1)=true):W.cell? ⟨g,0,none⟩=some (.int .i64 (n:Int)):=by
  have hx:=digs6_one h1
  rcases h with⟨h0,_⟩|⟨g',_,e,hd,_⟩
  . rw[hx]at h0;cases h0
  injection e with e1
  injection e1 with e1
  injection e1 with e1
  have h2:=hd.at0 0 (by rw[hx];simp);rw[e1,h2];simp[hx,iCell]
theorem Lm.len{k n:Nat}(h:Lm k n):(digs B32 n).length<=k:=digs_len_le b32_2 _ _ h
theorem Lm.len6{k n:Nat}(h:Lm k n):(digs B6 n).length<=2*k:=digs6_len h
theorem dlen_of_le{n m:Nat}(h:n<=m){k:Nat}(hk:(digs B32 m).length<=k):(digs B32 n).length<=k:=Nat.le_trans (digs_mono h) hk
theorem dlen_gcd(n:Nat){d k:Nat}(hd:d≠0)(h:(digs B32 d).length<=k):(digs B32 (Nat.gcd n d)).length<=k:=dlen_of_le (Nat.le_of_dvd (Nat.pos_of_ne_zero hd) (Nat.gcd_dvd_right n d)) h
theorem LmQ.d0{k:Nat}{x:Rat}(h:LmQ k x):Lm k (den0 x):=h.d.le (by unfold den0;split<;>omega)
end
section
structure EK(α:Type) where
  sz:Nat
  pos:0<sz
  R:World->List Value->α->Prop
  len:∀{w cs x},R w cs x->cs.length=sz
  one:∀{w cs x},R w cs x-> ∀u∈cs,u.oneCell'=true
  below:∀{w w' cs x},R w cs x->Below w.heap.size w w'->R w' cs x
class OwnK{α:Type}(K:EK α) where
  S:List Nat
  spare:∀{w cs x g},K.R w cs x->NoHd S g w->Spares g w (fun w=>K.R w cs x)
  ni:(∀(w w':World) (cs:List Value) (x:α),K.R w cs x->K.R w' cs x)\/ ∃n,S.contains n=false/\ ∀{w:World} {cs x u},K.R w cs x->cs[0]?=some u->rkV u=n
abbrev EK.S{α:Type}(K:EK α)[OwnK K]:List Nat:=OwnK.S K
abbrev EK.Free{α:Type}(K:EK α):Prop:= ∀(w w':World) (cs:List Value) (x:α),K.R w cs x->K.R w' cs x
section
variable {α:Type}{K:EK α}{t:TypeId}{base g:Nat}{w w':World}{v:Value}{xs ys:List α}{css dss:List (List Value)}{P:Program}
structure Els(K:EK α)(w:World)(css:List (List Value))(xs:List α):Prop where
  len:css.length=xs.length
  el:∀(k:Nat) cs x,css[k]?=some cs->xs[k]?=some x->K.R w cs x
theorem Els.nil:Els K w [] []:=⟨rfl,fun k cs x h=>by simp at h⟩
theorem Els.below(h:Els K w css xs)(hb:Below w.heap.size w w'):Els K w' css xs:=⟨h.len,fun k cs x h1 h2=>K.below (h.el k cs x h1 h2) hb⟩
theorem Els.mem(h:Els K w css xs){cs:List Value}(hc:cs∈css):∃x∈xs,K.R w cs x:=by
  obtain⟨k,hk,rfl⟩:=List.getElem_of_mem hc;have hk':k<xs.length:=h.len▸hk;exact⟨xs[k],List.getElem_mem hk',h.el k _ _ (List.getElem?_eq_getElem hk) (List.getElem?_eq_getElem hk')⟩
theorem Els.sizes(h:Els K w css xs):∀cs∈css,cs.length=K.sz:=fun _ hc=>by
  obtain⟨x,_,hr⟩:=h.mem hc;exact K.len hr
theorem Els.ones(h:Els K w css xs):∀u∈css.flatten,u.oneCell'=true:=fun u hu=>by
  obtain⟨cs,hc,hu⟩:=List.mem_flatten.1 hu;obtain⟨x,_,hr⟩:=h.mem hc;exact K.one hr u hu
theorem Els.append(h:Els K w css xs)(h':Els K w dss ys):Els K w (css++dss) (xs++ys):=by
  refine⟨by rw[List.length_append,List.length_append,h.len,h'.len],fun k cs x h1 h2=>?_⟩;have hl:=h.len
  by_cases hk:k<css.length
  . rw[List.getElem?_append_left hk]at h1;rw[List.getElem?_append_left (by omega)]at h2;exact h.el k cs x h1 h2
  rw[List.getElem?_append_right (by omega)]at h1;rw[List.getElem?_append_right (by omega)]at h2;rw[hl]at h1;exact h'.el _ cs x h1 h2
theorem Els.one{cs:List Value}{x:α}(h:K.R w cs x):Els K w [cs] [x]:=⟨rfl,fun k cs' x' h1 h2=>by
  cases k with
  |zero=>simp at h1 h2;subst h1;subst h2;exact h
  |succ k=>simp at h1⟩
theorem Els.set(h:Els K w css xs){cs:List Value}{x:α}(hr:K.R w cs x)(k:Nat):Els K w (css.set k cs) (xs.set k x):=by
  refine⟨by simp[h.len],fun j cs' x' h1 h2=>?_⟩
  by_cases e:k=j
  . subst e;rw[List.getElem?_set_self']at h1 h2
    cases e1:css[k]? with
    |none=>rw[e1]at h1;cases h1
    | some a=>
      cases e2:xs[k]? with
      |none=>rw[e2]at h2;cases h2
      | some b=>
        rw[e1]at h1;rw[e2]at h2;simp at h1 h2;subst h1;subst h2;exact hr
  rw[List.getElem?_set_ne e]at h1 h2;exact h.el j cs' x' h1 h2
theorem Els.take(h:Els K w css xs)(n:Nat):Els K w (css.take n) (xs.take n):=by
  refine⟨by rw[List.length_take,List.length_take,h.len],fun k cs x h1 h2=>?_⟩;rw[List.getElem?_take]at h1 h2
  split at h1
  . rename_i hk;rw[if_pos hk]at h2;exact h.el k cs x h1 h2
  cases h1
theorem Els.drop(h:Els K w css xs)(n:Nat):Els K w (css.drop n) (xs.drop n):=by
  refine⟨by rw[List.length_drop,List.length_drop,h.len],fun k cs x h1 h2=>?_⟩;rw[List.getElem?_drop]at h1 h2;exact h.el _ cs x h1 h2
theorem Els.free(hK:K.Free)(h:Els K w css xs):Els K w' css xs:=⟨h.len,fun k cs x h1 h2=>hK _ _ _ _ (h.el k cs x h1 h2)⟩
theorem flat_len{sz:Nat}:∀(css:List (List Value)),(∀cs∈css,cs.length=sz)->css.flatten.length=css.length*sz
  |[],_=>by simp
  | c::css,h=>by
    rw[List.flatten_cons,List.length_append,flat_len css (fun x hx=>h x (List.mem_cons_of_mem _ hx)),h c (List.mem_cons_self ..),List.length_cons,Nat.succ_mul,Nat.add_comm]
theorem flat_at{sz:Nat}:∀(css:List (List Value)),(∀cs∈css,cs.length=sz)-> ∀(k j:Nat) (cs:List Value),css[k]?=some cs->j<sz->css.flatten[k*sz+j]?=cs[j]?
  |[],_,k,j,cs,h,_=>by simp at h
  | c ::css,h,k,j,cs,hk,hj=>by
    have hc:=h c (List.mem_cons_self ..);rw[List.flatten_cons]
    cases k with
    | zero=>
      simp at hk;subst hk;rw[Nat.zero_mul,Nat.zero_add,List.getElem?_append_left (by omega)]
    | succ k=>
      rw[List.getElem?_append_right (by rw[Nat.succ_mul];omega),hc,show(k+1)*sz+j-sz=k*sz+j by rw[Nat.succ_mul];omega];exact flat_at css (fun x hx=>h x (List.mem_cons_of_mem _ hx)) k j cs (by simpa using hk) hj
theorem flat_set{sz:Nat}:∀(css:List (List Value)),(∀cs∈css,cs.length=sz)-> ∀(k:Nat) (cs:List Value),cs.length=sz->k<css.length->(css.set k cs).flatten=setL css.flatten (k*sz) cs:=by
  have key:∀(l m cs:List Value) (o:Nat),o=l.length-> ∀r,cs.length=r.length->setL (l++(r++m)) o cs=l++(cs++m):=by
    intro l m cs
    induction cs generalizing l with
    |nil=>intro o _ r hr;obtain rfl:r=[]:=List.eq_nil_of_length_eq_zero (by simpa using hr.symm);rfl
    | cons c cs ih=>
      intro o ho r hr
      cases r with
      |nil=>simp at hr
      | cons a r=>
        subst ho;unfold setL;have e:(l++(a::r++m)).set l.length c=(l++[c])++(r++m):=by simp
        rw[e,ih (l++[c]) (l.length+1) (by simp) r (by simpa using hr)];simp
  intro css h k cs hcs hk;have h1:css=css.take k++(css[k]::css.drop (k+1)):=by rw[<-List.drop_eq_getElem_cons hk,List.take_append_drop]
  have h2:css.set k cs=css.take k++(cs::css.drop (k+1)):=List.set_eq_take_append_cons_drop.trans (if_pos hk)
  have h3:css.flatten=(css.take k).flatten++(css[k]++(css.drop (k+1)).flatten):=by
    have:=congrArg List.flatten h1;rw[List.flatten_append,List.flatten_cons]at this;exact this
  rw[h2,h3,List.flatten_append,List.flatten_cons];refine(key _ _ _ _ ?_ _ ?_).symm
  . rw[flat_len (sz:=sz) _ (fun x hx=>h x (List.mem_of_mem_take hx)),List.length_take,Nat.min_eq_left (by omega)]
  rw[hcs,h _ (List.getElem_mem hk)]
def SlV(K:EK α)(w:World)(v:Value)(xs:List α):Prop:= ∃css,Els K w css xs/\((xs=[]/\ ∃p c,v=.slice p 0 c)\/ ∃g o c,v=.slice (some ⟨g,o,none⟩) xs.length c/\g<w.heap.size/\xs.length<=c/\c<=9223372036854775807/\ ∀k cs j u,css[k]?=some cs->cs[j]?=some u->w.cell? ⟨g,o+k*K.sz+j,none⟩=some u)
theorem SlV.below(h:SlV K w v xs)(hb:Below w.heap.size w w'):SlV K w' v xs:=by
  obtain⟨css,h1,h2⟩:=h;refine⟨css,h1.below hb,h2.imp id fun⟨g,o,c,e,hl,hc1,hc2,ha⟩=>⟨g,o,c,e,Nat.lt_of_lt_of_le hl hb.size,hc1,hc2,fun k cs j u c1 c2=>(hb.cell (p:=⟨g,_,none⟩) hl).trans (ha k cs j u c1 c2)⟩⟩
theorem SlV.nil{p:Option Addr}{c:Nat}:SlV K w (.slice p 0 c) []:=⟨[],.nil,.inl ⟨rfl,p,c,rfl⟩⟩
theorem SlV.sh(h:SlV K w v xs):∃p c,v=.slice p xs.length c/\(xs≠[]-> ∃g o,p=some ⟨g,o,none⟩/\g<w.heap.size/\xs.length<=c/\c<=9223372036854775807):=by
  obtain⟨css,h1,⟨rfl,p,c,rfl⟩|⟨g,o,c,rfl,hl,hc1,hc2,ha⟩⟩:=h
  . exact⟨p,c,rfl,fun h=>absurd rfl h⟩
  exact⟨_,c,rfl,fun _=>⟨g,o,rfl,hl,hc1,hc2⟩⟩
def CelAt(g o:Nat)(cs:List Value)(w:World):Prop:=g<w.heap.size/\ ∀j u,cs[j]?=some u->w.cell? ⟨g,o+j,none⟩=some u
theorem CelAt.below{g o:Nat}{cs:List Value}(h:CelAt g o cs w)(hb:Below w.heap.size w w'):CelAt g o cs w':=⟨Nat.lt_of_lt_of_le h.1 hb.size,fun j u hu=>(hb.cell (p:=⟨g,_,none⟩) h.1).trans (h.2 j u hu)⟩
theorem CelAt.spare{g o R:Nat}{cs:List Value}(h:CelAt g o cs w)(hne:g≠R):Spares R w (CelAt g o cs):=fun w1 hs hf w2 hb=>by
  refine⟨Nat.lt_of_lt_of_le h.1 (Nat.le_trans hs hb.size),fun j u hu=>?_⟩;rw[(hb.cell (p:=⟨g,_,none⟩) (Nat.lt_of_lt_of_le h.1 hs)), <-h.2 j u hu];exact World.cell?_of_block (hf g hne h.1)
theorem SlV.at{g o n c k:Nat}{x:α}(h:SlV K w (.slice (some ⟨g,o,none⟩) n c) xs)(hx:xs[k]?=some x):∃cs,CelAt g (o+k*K.sz) cs w/\K.R w cs x:=by
  obtain⟨css,h1,⟨rfl,p,c,e⟩|⟨g',o',c',e,hl,hc1,hc2,ha⟩⟩:=h
  . simp at hx
  injection e with e1 e2 e3
  injection e1 with e1
  injection e1 with e1 e4 e5
  subst e1;subst e4;have hk:=(List.getElem?_eq_some_iff.1 hx).1;have hk':k<css.length:=h1.len▸hk;have hc:css[k]?=some css[k]:=List.getElem?_eq_getElem hk';exact⟨css[k],⟨hl,fun j u hu=>ha k _ j u hc hu⟩,h1.el k _ x hc hx⟩
theorem SlV.ptr{p:Option Addr}{n c k:Nat}{x:α}(h:SlV K w (.slice p n c) xs)(hx:xs[k]?=some x):∃g o,p=some ⟨g,o,none⟩/\g<w.heap.size:=by
  obtain⟨css,h1,⟨rfl,p',c',e⟩|⟨g,o,c',e,hl,_⟩⟩:=h
  . simp at hx
  injection e with e1 e2 e3
  exact⟨g,o,e1,hl⟩
theorem KS.at{V:World}{l:List (World->Prop)}{g o n c k:Nat}{x:α}(hK:KS V l w)(h:SlV K w (.slice (some ⟨g,o,none⟩) n c) xs)(hx:xs[k]?=some x):∃cs,KS V (CelAt g (o+k*K.sz) cs::(fun w=>K.R w cs x)::l) w:=by
  obtain⟨cs,h1,h2⟩:=h.at hx;exact⟨cs,(hK.add (F:=fun w=>K.R w cs x) fun w' hb=>K.below h2 hb).add fun w' hb=>h1.below hb⟩
theorem SlV.one{R c:Nat}{cs:List Value}{x:α}{ty:TypeId}(h:Has base R (.cells cs.toArray ty) w)(hr:K.R w cs x)(hc:1<=c)(hc2:c<=9223372036854775807):SlV K w (.slice (some ⟨R,0,none⟩) 1 c) [x]:=by
  refine⟨[cs],.one hr,.inr ⟨R,0,c,rfl,h.ltS,hc,hc2,fun k cs' j u c1 c2=>?_⟩⟩
  cases k with
  | zero=>
    simp at c1;subst c1;rw[show 0+0*K.sz+j=j by omega];exact h.at j c2
  |succ k=>simp at c1
theorem SlV.take{p:Option Addr}{n c m:Nat}(h:SlV K w (.slice p n c) xs)(hm:m<=xs.length):SlV K w (.slice p m c) (xs.take m):=by
  obtain⟨css,h1,⟨rfl,p',c',e⟩|⟨g,o,c',e,hl,hc1,hc2,ha⟩⟩:=h
  . obtain rfl:m=0:=by simpa using hm
    exact .nil
  injection e with e1 e2 e3
  subst e1;subst e3;refine⟨css.take m,h1.take m,.inr ⟨g,o,c,?_,hl,by rw[List.length_take];omega,hc2,fun k cs j u c1 c2=>?_⟩⟩
  . rw[List.length_take,Nat.min_eq_left hm]
  rw[List.getElem?_take]at c1
  split at c1
  . exact ha k cs j u c1 c2
  cases c1
theorem SlV.drop{g o n c m:Nat}(h:SlV K w (.slice (some ⟨g,o,none⟩) n c) xs)(hm:m<=xs.length):SlV K w (.slice (some ⟨g,o+m*K.sz,none⟩) (xs.length-m) (c-m)) (xs.drop m):=by
  obtain⟨css,h1,⟨rfl,p',c',e⟩|⟨g',o',c',e,hl,hc1,hc2,ha⟩⟩:=h
  . refine⟨[],?_,.inl ⟨by simp,_,_,by simp;exact⟨rfl,rfl⟩⟩⟩
    simpa using Els.nil
  injection e with e1 e2 e3
  injection e1 with e1
  injection e1 with e1 e4 e5
  subst e1;subst e4;subst e3;refine⟨css.drop m,h1.drop m,.inr ⟨g,_,_,by rw[List.length_drop],hl,by rw[List.length_drop];omega,by omega,fun k cs j u c1 c2=>?_⟩⟩;rw[List.getElem?_drop]at c1;have:=ha _ cs j u c1 c2;rw[show o+m*K.sz+k*K.sz+j=o+(m+k)*K.sz+j by rw[Nat.add_mul];omega];exact this
theorem Els.spare[OwnK K](h:Els K w css xs)(hg:NoHd K.S g w):Spares g w (fun w=>Els K w css xs):=fun w1 hs hf w2 hb=>⟨h.len,fun k cs x h1 h2=>OwnK.spare (h.el k cs x h1 h2) hg w1 hs hf w2 hb⟩
def OwV(K:EK α)(t:TypeId)(base:Nat)(w:World)(v:Value)(xs:List α):Prop:= ∃css,Els K w css xs/\w.ownsRow base t K.sz v xs.length css.flatten
theorem OwV.nil:OwV K t base w (.slice none 0 0) []:=⟨[],.nil,by simp,.inl ⟨rfl,rfl⟩⟩
theorem OwV.empty{R:Nat}(h:Has base R (.cells #[] t) w):OwV K t base w (.slice (some ⟨R,0,none⟩) 0 0) []:=⟨[],.nil,by simp,.inr ⟨R,0,#[],rfl,h.1,h.2,by simp,by simp[maxLen],by simp,by simp⟩⟩
theorem OwV.sh(h:OwV K t base w v xs):∃p c,v=.slice p xs.length c/\((xs=[]/\p=none/\c=0)\/ ∃g,p=some ⟨g,0,none⟩/\base<=g/\g<w.heap.size/\xs.length<=c/\c<=9223372036854775807/\ ∀o,w.frozen? ⟨g,o,none⟩=false):=by
  obtain⟨css,h1,hl,⟨rfl,h0⟩|⟨g,cap,cur,rfl,hb,hg,hc1,hc2,hs,ht⟩⟩:=h
  . exact⟨none,0,by rw[h0],.inl ⟨List.eq_nil_of_length_eq_zero h0,rfl,rfl⟩⟩
  exact⟨_,cap,rfl,.inr ⟨g,rfl,hb,(Array.getElem?_eq_some_iff.1 hg).1,hc1,by simpa[maxLen]using hc2,fun o=>by simp[World.frozen?,hg]⟩⟩
theorem OwV.below(h:OwV K t base w v xs)(hb:Below w.heap.size w w'):OwV K t base w' v xs:=by
  obtain⟨css,h1,hl,h2⟩:=h;refine⟨css,h1.below hb,hl,h2.imp id fun⟨g,cap,cur,e,h3,hg,h4⟩=>⟨g,cap,cur,e,h3,?_,h4⟩⟩;exact(hb.block g (Array.getElem?_eq_some_iff.1 hg).1).trans hg
theorem OwV.off{g o n c:Nat}{p:Option Addr}(h:OwV K t base w (.slice p n c) xs)(hp:p=some ⟨g,o,none⟩):o=0:=by
  subst hp;obtain⟨css,h1,hl,⟨e,h0⟩|⟨g,cap,cur,e,_⟩⟩:=h
  . cases e
  injection e with e1
  injection e1 with e1
  injection e1
theorem OwV.lt(h:OwV K t base w v xs){g:Nat}(hg:v.ownBlock=some g):base<=g/\g<w.heap.size:=by
  obtain⟨css,_,h2⟩:=h;exact h2.lt g hg
theorem OwV.slv(h:OwV K t base w v xs):SlV K w v xs:=by
  obtain⟨css,h1,h2⟩:=h;refine⟨css,h1,?_⟩
  rcases h2.2 with⟨rfl,h0⟩|⟨g,cap,cur,rfl,hb,hg,hc1,hc2,hs,ht⟩
  . exact .inl ⟨List.eq_nil_of_length_eq_zero h0,none,0,rfl⟩
  refine .inr ⟨g,0,cap,rfl,(Array.getElem?_eq_some_iff.1 hg).1,hc1,by simpa[maxLen]using hc2,fun k cs j u c1 c2=>?_⟩;have hm:cs∈css:=List.mem_of_getElem? c1;have hj:j<K.sz:=(h1.sizes cs hm)▸(List.getElem?_eq_some_iff.1 c2).1;have h3:=h2.cells (g:=g) rfl (k*K.sz+j) u ((flat_at css h1.sizes k j cs c1 hj).trans c2);have ha:(⟨g,0,none⟩:Addr).add (k*K.sz+j)=⟨g,k*K.sz+j,none⟩:=by unfold Addr.add;split<;>simp_all
  rw[ha]at h3;rw[show 0+k*K.sz+j=k*K.sz+j by omega];exact h3
theorem OwV.hdIs(h:OwV K t base w v xs)(hne:xs≠[]){g n:Nat}(hg:v.ownBlock=some g)(hK:∀{w:World} {cs:List Value} {x:α} {u:Value},K.R w cs x->cs[0]?=some u->rkV u=n):HdIs g n w:=fun u0 e=>by
  obtain⟨css,h1,h2⟩:=h;have hlen:=h1.len;have hpos:0<xs.length:=List.length_pos_iff.2 hne;have hc:css[0]?=some css[0]:=List.getElem?_eq_getElem (by omega);have hr:=h1.el 0 _ _ hc (List.getElem?_eq_getElem hpos);have hz:=K.len hr;have hp:=K.pos;obtain⟨u,hu⟩:∃u,css[0][0]?=some u:=⟨css[0][0]'(by omega),List.getElem?_eq_getElem (by omega)⟩;have h3:=h2.cells (g:=g) hg (0*K.sz+0) u ((flat_at css h1.sizes 0 0 _ hc hp).trans hu);rw[show 0*K.sz+0=0 by omega]at h3;have ha:(⟨g,0,none⟩:Addr).add 0=⟨g,0,none⟩:=by unfold Addr.add;split<;>simp_all
  rw[ha,e]at h3;rw[Option.some.inj h3];exact hK hr hu
theorem OwV.noInt[OwnK K](h:OwV K t base w v xs)(hne:xs≠[]){g:Nat}(hg:v.ownBlock=some g):K.Free\/NoHd K.S g w:=by
  rcases OwnK.ni (K:=K)with h0|⟨n,hS,h0⟩
  . exact .inl h0
  exact .inr ((h.hdIs hne hg h0).no hS)
def Grows(v:Value)(w:World)(F:World->Prop):Prop:= ∀w1,w.grownBy w1 v.ownBlock-> ∀w2,Below w1.heap.size w1 w2->F w2
theorem Grows.of{F:World->Prop}(h0:∀w',Below w.heap.size w w'->F w')(h:∀g,v.ownBlock=some g->Spares g w F):Grows v w F:=fun w1 hg w2 hb=>by
  cases e:v.ownBlock with
  |none=>exact h0 w2 (Below.trans ⟨hg.os,hg.tape,hg.output,hg.size,fun k hk=>hg.block k hk (by rw[e];simp)⟩ (hb.mono hg.size))
  |some g=>exact h g e w1 hg.size (fun k hk hlt=>hg.block k hlt (by rw[e];simpa using hk)) w2 hb
theorem OwV.spare[OwnK K](h:OwV K t base w v xs)(hne:v.ownBlock≠some g)(hg:K.Free\/NoHd K.S g w):Spares g w (fun w=>OwV K t base w v xs):=fun w1 hs hf w2 hb=>by
  obtain⟨css,h1,hl,h2⟩:=h
  have h1':Els K w2 css xs:=by
    rcases hg with hg|hg
    . exact h1.free hg
    exact h1.spare hg w1 hs hf w2 hb
  refine⟨css,h1',hl,h2.imp id fun⟨k,cap,cur,e,h3,hk,h4⟩=>⟨k,cap,cur,e,h3,?_,h4⟩⟩;have hlt:=(Array.getElem?_eq_some_iff.1 hk).1;rw[hb.block k (Nat.lt_of_lt_of_le hlt hs),hf k (fun e'=>hne (by rw[e,e'];rfl)) hlt];exact hk
theorem run_app[OwnK K]{i:TypeInfo}{z:Value}{tt uu ty u':TypeId}(ht:P.underlying tt=some (.slice t))(hu:P.underlying uu=some (.slice u'))(hi:P.info? t=some i)(hz:i.zero=some z)(hsize:i.size=K.sz)(hzs:z.cells.size=K.sz)
    (hown:OwV K t base w v xs) (hok:∀g,v.ownBlock=some g->K.Free\/NoHd K.S g w) {p:Option Addr} {m c:Nat} (hx:SlV K w (.slice p m c) ys) (h63:xs.length+ys.length<=maxLen) (hbytes:(xs.length+ys.length)*i.bytes<=140737488355328) (hbase:base<=w.heap.size):
    ∃v' w',(Builtin.append_ #[tt,uu] ty #[v,.slice p m c]).run P w=.ok v' w'/\OwV K t base w' v' (xs++ys)/\w.grownBy w' v.ownBlock/\(v'.ownBlock=v.ownBlock\/v'.ownBlock=some w.heap.size):=by
  obtain⟨css,h1,h2⟩:=hown
  obtain⟨pv,cv,rfl⟩:∃pv cv,v=.slice pv xs.length cv:=by
    rcases h2.2 with⟨e,h0⟩|⟨g,cap,cur,e,_⟩
    . exact⟨_,_,by rw[e,h0]⟩
    exact⟨_,_,e⟩
  have e0:(Builtin.append_ #[tt,uu] ty #[.slice pv xs.length cv,.slice p m c]).run P w=(Builtin.append_ #[tt,tt] ty #[.slice pv xs.length cv,.slice p m c]).run P w:=by
    simp[Builtin.append_,run_underlying ht,run_underlying hu]
  have stay:∀w',w.grownBy w' (Value.slice pv xs.length cv).ownBlock-> ∀(dss:List (List Value)) zs,Els K w dss zs->Els K w' dss zs:=fun w' hg dss zs hd=>by
    cases e:(Value.slice pv xs.length cv).ownBlock with
    |none=>exact hd.below ⟨hg.os,hg.tape,hg.output,hg.size,fun k hk=>hg.block k hk (by rw[e];simp)⟩
    | some g=>
      rcases hok g e with hf|hn
      . exact hd.free hf
      exact hd.spare hn w' hg.size (fun k hk hlt=>hg.block k hlt (by rw[e];simpa using hk)) w' (Below.refl _ _)
  obtain⟨dss,h3,⟨rfl,p',c',e⟩|⟨g,o,c',e,hl,hc1,hc2,ha⟩⟩:=hx
  . injection e with e1 e2 e3
    subst e2;rw[e0]
    cases p with
    | none=>
      refine⟨.slice pv xs.length cv,w,?_,by rw[List.append_nil];exact⟨css,h1,h2⟩,⟨rfl,rfl,rfl,Nat.le_refl _,fun _ _ _=>rfl⟩,.inl rfl⟩
      have hle:xs.length<=cv:=by
        rcases h2.2 with⟨e3,h4⟩|⟨g,cap,cur,e3,_,_,h4,_⟩
        . omega
        injection e3 with _ _ e4;omega
      cases pv<;>simp[Builtin.append_,run_underlying ht,sizeOf,typeInfo,hi,Builtin.lenOf,Builtin.firstCells,hle,loadCells,storeCells]
    | some ad=>
      obtain⟨v',w',hr,h5,h6,_,h7⟩:=run_append_own_at (P:=P) w base tt ty t i z K.sz i.bytes ht hi hz hsize rfl hzs K.pos _ xs.length css.flatten h2 ad 0 c [] (by simp) (by simp) (by simp) (by simpa using h63) (by simpa using hbytes) hbase;refine⟨v',w',hr,?_,h6,h7⟩;rw[List.append_nil];exact⟨css,stay w' h6 _ _ h1,by simpa using h5⟩
  injection e with e1 e2 e3
  subst e1;subst e2;rw[e0];have hfl:=flat_len dss h3.sizes;rw[h3.len]at hfl
  obtain⟨v',w',hr,h5,h6,_,h7⟩:=run_append_own_at (P:=P) w base tt ty t i z K.sz i.bytes ht hi hz hsize rfl hzs K.pos _ xs.length css.flatten h2 ⟨g,o,none⟩ ys.length c dss.flatten hfl (fun j u hu=>by
    have hjl:j<ys.length*K.sz:=hfl▸(List.getElem?_eq_some_iff.1 hu).1;have hp:=K.pos;have hq:j/K.sz<ys.length:=Nat.div_lt_of_lt_mul (by rwa [Nat.mul_comm]at hjl);have hq':j/K.sz<dss.length:=by rw[h3.len];exact hq
    have hc:dss[j/K.sz]?=some dss[j/K.sz]:=List.getElem?_eq_getElem hq';have hm:j%K.sz<K.sz:=Nat.mod_lt _ hp;have hjj:j/K.sz*K.sz+j%K.sz=j:=by rw[Nat.mul_comm];exact Nat.div_add_mod j K.sz
    have h8:=flat_at dss h3.sizes (j/K.sz) (j%K.sz) _ hc hm;rw[hjj,hu]at h8;have h9:=ha _ _ _ u hc h8.symm;have hadd:(⟨g,o,none⟩:Addr).add j=⟨g,o+j,none⟩:=by unfold Addr.add;split<;>simp_all
    rw[hadd, <-h9,Nat.add_assoc,hjj]) h3.ones h63 hbytes hbase
  refine⟨v',w',hr,⟨css++dss,(stay w' h6 _ _ h1).append (stay w' h6 _ _ h3),?_⟩,h6,h7⟩;rw[List.flatten_append,List.length_append];exact h5
theorem OwV.put[OwnK K]{g c k:Nat}{n:Nat}{cs:List Value}{x:α}(h:OwV K t base w (.slice (some ⟨g,0,none⟩) n c) xs)(hx:K.R w cs x)(hk:k<xs.length):∀w',Below (putAt g (k*K.sz) cs w).heap.size (putAt g (k*K.sz) cs w) w'->OwV K t base w' (.slice (some ⟨g,0,none⟩) n c) (xs.set k x):=by
  intro w' hb;have hok:=h.noInt (List.ne_nil_of_length_pos (by omega)) (g:=g) rfl;obtain⟨css,h1,h2⟩:=h;have hs:=h1.set hx k
  have hs':Els K w' (css.set k cs) (xs.set k x):=by
    rcases hok with hf|hn
    . exact hs.free hf
    exact Spares.put (hs.spare hn) (k*K.sz) cs w' hb
  have hkc:k<css.length:=by rw[h1.len];exact hk
  refine⟨_,hs',?_⟩
  rcases h2.2 with⟨e,h0⟩|⟨g',cap,cur,e,hb',hg,hc1,hc2,hsz,ht⟩
  . cases e
  injection e with e1 e2 e3
  injection e1 with e1
  injection e1 with e1 _ _
  subst e1;subst e2;subst e3;have hg2:w.heap[g]?=some (.cells cur.toList.toArray t):=by simpa using hg
  have hput:=put_at cs (k*K.sz) cur.toList w hg2;have hcsl:cs.length=K.sz:=K.len hx;have hlen:=h1.len;have hlt:g<(putAt g (k*K.sz) cs w).heap.size:=Nat.lt_of_lt_of_le (Array.getElem?_eq_some_iff.1 hg).1 (put_size g cs _ w);have hfl:=flat_len css h1.sizes
  have key:∀(cs:List Value) (l:List Value) (o m:Nat),o+cs.length<=m->(setL l o cs).take m=setL (l.take m) o cs/\(setL l o cs).length=l.length:=by
    intro cs
    induction cs with
    |nil=>intro l o m _;exact⟨rfl,rfl⟩
    | cons c cs ih=>
      intro l o m hm;simp at hm;have:=ih (l.set o c) (o+1) m (by omega);unfold setL;rw[this.1,this.2];exact⟨by rw[List.take_set],by simp⟩
  have hkk:=key cs cur.toList (k*K.sz) (xs.length*K.sz) (by rw[hcsl, <-Nat.succ_mul];exact Nat.mul_le_mul_right _ hk);refine⟨?_,.inr ⟨g,c,(setL cur.toList (k*K.sz) cs).toArray,by simp,hb',?_,by simpa using hc1,hc2,?_,?_⟩⟩
  . rw[flat_len (sz:=K.sz) _ hs.sizes,hs.len]
  . rw[hb.block g hlt];exact hput
  . simp[hkk.2,hsz]
  rw[flat_set css h1.sizes k cs hcsl hkc];simp only[List.length_set];rw[hkk.1,ht]
theorem OwV.take{p:Option Addr}{n c m:Nat}(h:OwV K t base w (.slice p n c) xs)(hm:m<=xs.length):OwV K t base w (.slice p m c) (xs.take m):=by
  obtain⟨css,h1,h2⟩:=h;have hl:=h1.len;have hfl:=flat_len css h1.sizes
  have e1:(css.take m).flatten=css.flatten.take (m*K.sz):=by
    have e2:css.flatten=(css.take m).flatten++(css.drop m).flatten:=by rw[<-List.flatten_append,List.take_append_drop]
    have e3:(css.take m).flatten.length=m*K.sz:=by
      rw[flat_len (sz:=K.sz) _ (fun x hx=>h1.sizes x (List.mem_of_mem_take hx)),List.length_take,Nat.min_eq_left (by omega)]
    rw[e2, <-e3,List.take_left]
  refine⟨css.take m,h1.take m,?_,?_⟩
  . rw[flat_len (sz:=K.sz) _ (fun x hx=>h1.sizes x (List.mem_of_mem_take hx)),List.length_take,List.length_take,hl]
  have e4:(xs.take m).length=m:=by rw[List.length_take];omega
  rw[e4,e1]
  rcases h2.2 with⟨e,h0⟩|⟨g,cap,cur,e,hb,hg,hc1,hc2,hs,ht⟩
  . injection e with e5 e6 e7
    subst e5;subst e7;obtain rfl:m=0:=by omega
    exact .inl ⟨rfl,rfl⟩
  injection e with e5 e6 e7
  subst e5;subst e7;refine .inr ⟨g,c,cur,rfl,hb,hg,by omega,hc2,hs,?_⟩;rw[<-ht,List.take_take,Nat.min_eq_left (Nat.mul_le_mul_right _ hm)]
theorem OwV.mono{b:Nat}(h:OwV K t base w v xs)(hb:b<=base):OwV K t b w v xs:=by
  obtain⟨css,h1,hl,h2⟩:=h;exact⟨css,h1,hl,h2.imp id fun⟨g,cap,cur,e,h3,h4⟩=>⟨g,cap,cur,e,Nat.le_trans hb h3,h4⟩⟩
def ob(p:Option Addr):Option Nat:=(Value.slice p 0 0).ownBlock
theorem ob_eq(p:Option Addr)(n c:Nat):(Value.slice p n c).ownBlock=ob p:=by cases p<;>rfl
theorem OwV.block{p:Option Addr}{n c:Nat}(h:OwV K t base w (.slice p n c) xs){g:Nat}(hg:ob p=some g):base<=g/\g<w.heap.size:=h.lt ((ob_eq p n c).trans hg)
theorem OwV.hd{g n c m:Nat}(h:OwV K t base w (.slice (some ⟨g,0,none⟩) n c) xs)(hne:xs≠[])(hK:∀{w:World} {cs:List Value} {x:α} {u:Value},K.R w cs x->cs[0]?=some u->rkV u=m):HdIs g m w:=h.hdIs hne rfl hK
theorem OwV.hd'{m n c:Nat}{q:Option Addr}(h:OwV K t base w (.slice q n c) xs)(hne:xs=[]->q=none)(hK:∀{w:World} {cs:List Value} {x:α} {u:Value},K.R w cs x->cs[0]?=some u->rkV u=m):∀g,ob q=some g->HdIs g m w:=fun g hg=>by
  by_cases hx:xs=[]
  . rw[hne hx]at hg;cases hg
  obtain⟨r,e,e1,h1|⟨g',e2,_⟩⟩:=h.sh
  . injection e1 with e1
    rw[e1,h1.2.1]at hg
    cases hg
  injection e1 with e1 e3 e4
  subst e1;subst e2;subst e4;obtain rfl:g'=g:=Option.some.inj hg;exact h.hd hx hK
theorem OwV.fz{g n c:Nat}(h:OwV K t base w (.slice (some ⟨g,0,none⟩) n c) xs):∀o,w.frozen? ⟨g,o,none⟩=false:=by
  obtain⟨css,h1,hl,⟨e,h0⟩|⟨g',cap,cur,e,hb,hg,_⟩⟩:=h
  . cases e
  injection e with e1
  injection e1 with e1
  injection e1 with e1
  subst e1;intro o;simp[World.frozen?,hg]
theorem OwV.le{p:Option Addr}{n c:Nat}(h:OwV K t base w (.slice p n c) xs):xs.length<=c/\c<=9223372036854775807:=by
  obtain⟨css,h1,hl,⟨e,h0⟩|⟨g',cap,cur,e,hb,hg,hc1,hc2,_⟩⟩:=h
  . injection e with e1 e2 e3
    omega
  injection e with e1 e2 e3
  subst e3;exact⟨hc1,by simpa[maxLen]using hc2⟩
def New(V:World)(fs:List (World->Prop))(R:Nat):Prop:= ∃w,KS V fs w/\R=w.heap.size
theorem New.box{V:World}{fs:List (World->Prop)}{R R' b:Nat}{obj:Obj}(h:New V fs R)(hm:Has b R' obj∈fs):R'<R:=by
  obtain⟨w,hw,rfl⟩:=h;exact(hw.get hm).ltS
theorem New.row{V:World}{fs:List (World->Prop)}{R n c:Nat}{p:Option Addr}(h:New V fs R)(hm:(fun w=>OwV K t base w (.slice p n c) xs)∈fs):ob p≠some R:=by
  obtain⟨w,hw,rfl⟩:=h;exact fun e=>Nat.lt_irrefl _ ((hw.get hm).block e).2
end
section
variable {α:Type}{K:EK α}[OwnK K]{t tt uu u':TypeId}{v:Value}{xs ys:List α}{P:Program}{V w:World}{B:Nat}{ops:Array Oper}{Q:Exit->Act->World->Prop}{Q2:Act->World->Prop}{ks:List Nat}{o:Oper}{rest:List Oper}{fs f0:List (World->Prop)}{a:Act}{q p:Option Addr}{n d m c bytes base:Nat}{z:Value}
structure AppOk(K:EK α)[OwnK K](t:TypeId)(base:Nat)(q:Option Addr)(n d:Nat)(xs:List α)(x:Value)(ys:List α)(w:World):Prop where
  own:OwV K t base w (.slice q n d) xs
  ok:∀g,ob q=some g->K.Free\/NoHd K.S g w
  src:SlV K w x ys
theorem app_does{s x:Operand}(ho:o.op=.call {callee:=.builtin .append,args:=#[s,x],argTypes:=#[tt,uu]})(ht:P.underlying tt=some (.slice t))(hu:P.underlying uu=some (.slice u'))(hinf:(P.info? t).map (fun i=>(i.zero,i.size,i.bytes))=some (some z,K.sz,bytes))(hzs:z.cells.size=K.sz)
    (hs:a.eval s=.slice q n d) (hx:a.eval x=.slice p m c) (h63:xs.length+ys.length<=maxLen) (hbytes:(xs.length+ys.length)*bytes<=140737488355328) (hbase:base<=w.heap.size) (hA:AppOk K t base q n d xs (.slice p m c) ys w):
    Does P (fun u w'=>OwV K t base w' u (xs++ys)/\w.grownBy w' (ob q)/\(u.ownBlock=ob q\/u.ownBlock=some w.heap.size)) ((execOp a.eval o).run P w):=by
  obtain⟨i0,hi,hz0,hz1,hz2⟩:=info_parts hinf;subst hz2;obtain⟨v',w',hr,h2,h3,h4⟩:=run_app (P:=P) (ty:=o.type) ht hu hi hz0 hz1 hzs hA.own (fun g hg=>hA.ok g ((ob_eq q n d).symm.trans hg)) hA.src h63 hbytes hbase;rw[ob_eq]at h3 h4;unfold execOp;simp only[ho,resolve,invoke,builtin,Sem.run_bind,Sem.run_pure,Result.andThen_ok,List.map_toArray,List.map_cons,List.map_nil,hs,hx,hr];exact⟨h2,h3,h4⟩
end
end
section
def intK:EK Int where
  sz:=1
  pos:=by decide
  R:=fun _ cs x=>cs=[.int .i64 x]
  len:=fun e=>by rw[e];rfl
  one:=fun e u hu=>by
    subst e;simp only[List.mem_cons,List.not_mem_nil,or_false]at hu;subst hu;rfl
  below:=fun e _=>e
theorem intK_free:intK.Free:=fun _ _ _ _ h=>h
instance :OwnK intK:=⟨[],fun h _ _ _ _ _ _=>h,.inl intK_free⟩
def strK:EK (List UInt8) where
  sz:=1
  pos:=by decide
  R:=fun _ cs x=>cs=[.string ⟨x.toArray⟩]
  len:=fun e=>by rw[e];rfl
  one:=fun e u hu=>by
    subst e;simp only[List.mem_cons,List.not_mem_nil,or_false]at hu;subst hu;rfl
  below:=fun e _=>e
theorem strK_free:strK.Free:=fun _ _ _ _ h=>h
instance :OwnK strK:=⟨[],fun h _ _ _ _ _ _=>h,.inl strK_free⟩
section
variable {α:Type}{V w:World}{l:List (World->Prop)}{g o n c k:Nat}
end
end
section
def GB(w0:World)(q:Option Addr)(w:World):Prop:=w0.grownBy w (ob q)
def Lies(w0:World)(q r:Option Addr):Prop:=ob r=ob q\/ ∀g,ob r=some g->w0.heap.size<=g
section
variable {α:Type}{K:EK α}{t:TypeId}{v:Value}{xs ys zs:List α}{P:Program}{V w w0 w1 w2:World}{ops:Array Oper}{Q:Exit->Act->World->Prop}{o:Oper}{rest:List Oper}{fs:List (World->Prop)}{a:Act}{q p r:Option Addr}{n d m c base:Nat}
theorem grown_belo(h:w0.grownBy w (ob q))(hb:Below w.heap.size w w1):w0.grownBy w1 (ob q):=
  ⟨hb.os.trans h.os,hb.tape.trans h.tape,hb.output.trans h.output,Nat.le_trans h.size hb.size,fun k hk hne=>(hb.block k (Nat.lt_of_lt_of_le hk h.size)).trans (h.block k hk hne)⟩
theorem GB.start(w:World)(q:Option Addr):GB w q w:=⟨rfl,rfl,rfl,Nat.le_refl _,fun _ _ _=>rfl⟩
theorem GB.below(h:GB w0 q w)(hb:Below w.heap.size w w1):GB w0 q w1:=grown_belo h hb
theorem GB.sz(h:GB w0 q w):w0.heap.size<=w.heap.size:=h.size
theorem GB.grown(h:GB w0 q w)(hl:Lies w0 q r)(hg:w.grownBy w1 (ob r)):GB w0 q w1:=
  ⟨hg.os.trans h.os,hg.tape.trans h.tape,hg.output.trans h.output,Nat.le_trans h.size hg.size,fun k hk hne=>by
    refine(hg.block k (Nat.lt_of_lt_of_le hk h.size) fun e=>?_).trans (h.block k hk hne)
    rcases hl with hl|hl
    . exact hne (e.trans hl)
    have:=hl k e.symm;omega⟩
theorem New.gb{R:Nat}(h:New V fs R)(hm:GB w0 q∈fs):w0.heap.size<=R:=by
  obtain⟨w,hw,rfl⟩:=h;exact(hw.get hm).sz
theorem Lies.app(hr:ob r=ob p\/ob r=some w.heap.size)(hl:Lies w0 q p)(hs:w0.heap.size<=w.heap.size):Lies w0 q r:=by
  rcases hr with h|h
  . exact hl.imp (fun e=>h.trans e) fun e g hg=>e g (h▸hg)
  exact .inr fun g hg=>by rw[h]at hg;injection hg with hg;omega
theorem Lies.box{R:Nat}(hl:Lies w q r)(hn:ob q≠some R)(hR:R<w.heap.size):ob r≠some R:=by
  rcases hl with h|h
  . rw[h];exact hn
  exact fun e=>absurd (h R e) (by omega)
theorem Lies.row{q':Option Addr}(hl:Lies w q r)(hn:∀g,ob q=some g->ob q'≠some g)(hR:∀g,ob q'=some g->g<w.heap.size):∀g,ob r=some g->ob q'≠some g:=fun g hg e=>by
  rcases hl with h|h
  . rw[h]at hg;exact hn g hg e
  exact absurd (h g hg) (by have:=hR g e;omega)
end
section
variable {α:Type}{K:EK α}[OwnK K]{t tt uu u':TypeId}{xs ys:List α}{P:Program}{V:World}{B:Nat}{ops:Array Oper}{Q2:Act->World->Prop}{ks:List Nat}{o:Oper}{rest:List Oper}{fs f0:List (World->Prop)}{a:Act}{q p:Option Addr}{n d m c bytes:Nat}{z:Value}
end
end
section
class HdK{α:Type}(K:EK α) where
  n:Nat
  hd:∀{w:World} {cs x u},K.R w cs x->cs[0]?=some u->rkV u=n
section
variable {α:Type}{K:EK α}{w w':World}
theorem SlV.one0{p:Option Addr}{n c:Nat}{xs:List α}(h:SlV K w (.slice p n c) xs):n=xs.length:=by
  obtain⟨css,h1,⟨rfl,p',c',e⟩|⟨g,o,c',e,_⟩⟩:=h
  . injection e with _ e2
  injection e with _ e2
def slK(K:EK α):EK (List α) where
  sz:=1
  pos:=by decide
  R:=fun w cs xs=> ∃p c,cs=[.slice p xs.length c]/\SlV K w (.slice p xs.length c) xs/\ ∀g o i,p=some ⟨g,o,i⟩->o=0
  len:=fun⟨_,_,e,_⟩=>by rw[e];rfl
  one:=fun⟨_,_,e,_⟩ u hu=>by
    subst e;obtain rfl:=List.mem_singleton.1 hu;rfl
  below:=fun⟨p,c,e,h,h0⟩ hb=>⟨p,c,e,h.below hb,h0⟩
theorem SlV.spare[OwnK K][HdK K]{p:Option Addr}{n c R:Nat}{xs:List α}(h:SlV K w (.slice p n c) xs)(h0:∀g o i,p=some ⟨g,o,i⟩->o=0)(hg:NoHd (HdK.n K::K.S) R w):Spares R w (fun w=>SlV K w (.slice p n c) xs):=fun w1 hs hf w2 hb=>by
  have hS:NoHd K.S R w:=fun v hv=>by
    have:=hg v hv;simp only[List.contains_cons,Bool.or_eq_false_iff]at this;exact this.2
  obtain⟨css,h1,h2⟩:=h;refine⟨css,h1.spare hS w1 hs hf w2 hb,h2.imp id fun⟨g,o,c',e,hl,hc1,hc2,ha⟩=>⟨g,o,c',e,Nat.lt_of_lt_of_le hl (Nat.le_trans hs hb.size),hc1,hc2,fun k cs j u c1 c2=>?_⟩⟩
  injection e with e1 e2 e3
  obtain rfl:=h0 g o none e1
  have hne:g≠R:=fun e=>by
    subst e;have hk:0<css.length:=Nat.lt_of_le_of_lt (Nat.zero_le _) (List.getElem?_eq_some_iff.1 c1).1;have hc0:css[0]?=some css[0]:=List.getElem?_eq_getElem hk;have hr:=h1.el 0 _ _ hc0 (List.getElem?_eq_getElem (h1.len▸hk));have hz:=K.len hr;have hp:=K.pos;have hu:css[0][0]?=some (css[0][0]'(by omega)):=List.getElem?_eq_getElem (by omega);have h3:=ha 0 _ 0 _ hc0 hu;rw[show 0+0*K.sz+0=0 by omega]at h3;have h4:=hg _ h3;rw[HdK.hd hr hu]at h4;simp at h4
  rw[(hb.cell (p:=⟨g,_,none⟩) (Nat.lt_of_lt_of_le hl hs)), <-ha k cs j u c1 c2];exact World.cell?_of_block (hf g hne hl)
theorem OwV.toR{t:TypeId}{b n c:Nat}{p:Option Addr}{xs:List α}(h:OwV K t b w (.slice p n c) xs):(slK K).R w [.slice p n c] xs:=by
  obtain rfl:=h.slv.one0;refine⟨p,c,rfl,h.slv,fun g o i e=>?_⟩;subst e;obtain⟨css,h1,hl,⟨e,h0⟩|⟨g',cap,cur,e,_⟩⟩:=h
  . cases e
  injection e with e1
  injection e1 with e1
  injection e1
theorem GB.to{w0:World}(h:GB w0 none w):Below w0.heap.size w0 w:=⟨h.os,h.tape,h.output,h.size,fun k hk=>h.block k hk (by rintro⟨⟩)⟩
theorem Lies.apart{w0:World}{r q:Option Addr}(h:Lies w0 none r)(hb:∀g,ob q=some g->g<w0.heap.size):∀g,ob r=some g->ob q≠some g:=fun g e e2=>by
  rcases h with h|h
  . rw[h]at e;cases e
  have:=h g e;have:=hb g e2;omega
theorem SlV.lt{p:Option Addr}{n c:Nat}{xs:List α}(h:SlV K w (.slice p n c) xs)(hne:xs≠[]){g:Nat}(hg:ob p=some g):g<w.heap.size:=by
  obtain⟨css,h1,⟨rfl,p',c',e⟩|⟨g',o,c',e,hl,_⟩⟩:=h
  . exact absurd rfl hne
  injection e with e1
  subst e1;have:g'=g:=Option.some.inj hg;exact this▸hl
theorem made_flat(cs:List Value)(n:Nat)(h:0<cs.length):(madeCells cs.toArray (n*cs.length)).toList=(List.replicate n cs).flatten:=by
  refine List.ext_getElem? fun k=>?_
  have hl:=flat_len (sz:=cs.length) (List.replicate n cs) (fun x hx=>by rw[(List.mem_replicate.1 hx).2]);rw[List.length_replicate]at hl
  by_cases hk:k<n*cs.length
  . have hq:k/cs.length<n:=Nat.div_lt_of_lt_mul (by rwa [Nat.mul_comm]at hk);have hm:=Nat.mod_lt k h;have h2:=flat_at (sz:=cs.length) (List.replicate n cs) (fun x hx=>by rw[(List.mem_replicate.1 hx).2]) (k/cs.length) (k%cs.length) cs (by simp[hq]) hm;rw[Nat.mul_comm,Nat.div_add_mod]at h2;rw[h2];simp[madeCells,hk,hm]
  rw[List.getElem?_eq_none (by simp[madeCells];omega),List.getElem?_eq_none (by omega)]
end
end
section
def mkV(P:Program)(e:Sem Next)(R:Nat):Value:=match e.run P {(default:World)with heap:=Array.replicate R default}with
  | .ok (.value v) _=>v
  |_=>undef
theorem mkV_of{P:Program}{e:Sem Next}{f:Nat->Value}{obj:Obj}(h:∀w,e.run P w=.ok (.value (f w.heap.size)) (w.alloc obj))(R:Nat):mkV P e R=f R:=by
  unfold mkV;rw[h];simp
structure Kl where
  n:Nat->Prop
  s:World->Prop
def cup(A B:Nat->Prop):Nat->Prop:=fun g=>A g\/B g
theorem Kl.eq{A B:Nat->Prop}{S T:World->Prop}(h:∀g,A g↔B g)(h':∀w,S w↔T w):(⟨A,S⟩:Kl)=⟨B,T⟩:=by
  rw[funext fun g=>propext (h g),funext fun w=>propext (h' w)]
structure Gd(P0:World->Prop)(S:Kl):Prop where
  cl:Clos S.s
  p:∀w,S.s w->P0 w
  k:∀w,S.s w-> ∀g,S.n g->g<w.heap.size
def FrN(n:Nat->Prop)(w w':World):Prop:= ∀R,R<w.heap.size-> ¬n R->w'.heap[R]?=w.heap[R]?
def Kl.new(S:Kl)(base R:Nat)(obj:Obj):Kl:=⟨cup S.n (fun g=>g=R),fun w=>S.s w/\Has base R obj w/\ ¬S.n R⟩
section
variable {P:Program}{P0:World->Prop}{base:Nat}{ops:Array Oper}{md:Region.Mode}
theorem Gd.new{S:Kl}(h:Gd P0 S)(R:Nat)(obj:Obj):Gd P0 (S.new base R obj):=
  ⟨fun _ _ ⟨h1,h2,h3⟩ hb=>⟨h.cl _ _ h1 hb,h2.below hb,h3⟩,fun w hw=>h.p w hw.1,fun w hw g hg=>hg.elim (h.k w hw.1 g) fun e=>e▸hw.2.1.ltS⟩
theorem Kl.new_comm(S:Kl)(R R':Nat)(o o':Obj):(S.new base R o).new base R' o'=(S.new base R' o').new base R o:=
  Kl.eq (fun _g=>⟨fun h=>h.elim (fun h=>h.elim (fun h=>.inl (.inl h)) .inr) fun h=>.inl (.inr h),fun h=>h.elim (fun h=>h.elim (fun h=>.inl (.inl h)) .inr) fun h=>.inl (.inr h)⟩)
    fun _w=>⟨fun⟨⟨a,b,c⟩,d,e⟩=>⟨⟨a,d,fun h=>e (.inl h)⟩,b,fun h=>h.elim c fun h=>e (.inr h.symm)⟩,fun⟨⟨a,b,c⟩,d,e⟩=>⟨⟨a,d,fun h=>e (.inl h)⟩,b,fun h=>h.elim c fun h=>e (.inr h.symm)⟩⟩
def nStep(P:Program)(P0:World->Prop)(base:Nat)(ops:Array Oper)(k:Nat)(o:Oper)(S:Kl)(a:Act)(K:Kl->Act->Prop):Prop:=
  if Region.wanted o (yielded ops a.tmps)=true then
    match k with
    |0=> ∃v,(∀w,P0 w->Flt v w ((execOp a.eval o).run P w))/\K S (a.put o.dst v)
    |1=> ∃v,(∀w,S.s w->Does P (fun u w'=>u=v/\Below w.heap.size w w') ((execOp a.eval o).run P w))/\K S (a.put o.dst v)
    |3=> ∃obj:Obj,(∀w,P0 w->(execOp a.eval o).run P w=.ok (.value (mkV P (execOp a.eval o) w.heap.size)) (w.alloc obj))/\ ∀R,K (S.new base R obj) (a.put o.dst (mkV P (execOp a.eval o) R))
    |k=> ∃(α:Type) (_:Nonempty α) (f:α->Value) (S':α->Kl),(∀x,Gd P0 (S' x))/\(k=2-> ∀x,(∀w,(S' x).s w->S.s w)/\ ∀g,S.n g->(S' x).n g)/\(∀w,S.s w->Does P (fun v w'=> ∃x,v=f x/\(k=2->Below w.heap.size w w')/\(k=5->FrN S.n w w')/\(k≠4-> ∀g,(S' x).n g->S.n g\/w.heap.size<=g)/\(S' x).s w') ((execOp a.eval o).run P w))/\ ∀x,K (S' x) (a.put o.dst (f x))
  else K S (a.put o.dst undef)
theorem nStep.mono{k:Nat}{o:Oper}{S:Kl}{a:Act}{K K':Kl->Act->Prop}(hS:Gd P0 S)(h:∀S' a',Gd P0 S'->K S' a'->K' S' a')(hs:nStep P P0 base ops k o S a K):nStep P P0 base ops k o S a K':=by
  unfold nStep at*
  split
  . rename_i hw
    rw[if_pos hw]at hs
    split
    . obtain⟨v,h1,h2⟩:=hs;exact⟨v,h1,h _ _ hS h2⟩
    . obtain⟨v,h1,h2⟩:=hs;exact⟨v,h1,h _ _ hS h2⟩
    . obtain⟨obj,h1,h2⟩:=hs;exact⟨obj,h1,fun R=>h _ _ (hS.new R obj) (h2 R)⟩
    rename_i k0 k1 k3
    split at hs
    . exact absurd rfl k0
    . exact absurd rfl k1
    . exact absurd rfl k3
    obtain⟨α,hα,f,S',h1,h2,h3,h4⟩:=hs;exact⟨α,hα,f,S',h1,h2,h3,fun x=>h _ _ (h1 x) (h4 x)⟩
  rename_i hw
  rw[if_neg hw]at hs;exact h _ _ hS hs
section
variable {oi oj:Oper}{S:Kl}{a:Act}{K:Kl->Act->Prop}
theorem nStep_put{k:Nat}{u:Value}(hap:oj.apart ops oi=true)(hs:∀cs b,oi.op≠.select cs b)(h:nStep P P0 base ops k oi S (a.put oj.dst u) K):
    nStep P P0 base ops k oi S a (fun S' a'=>(∃x,a'=a.put oi.dst x)/\K S' (a'.put oj.dst u)):=by
  obtain⟨h1,h2,h3⟩:=Oper.apart_spec hap;have hcm:∀v,(a.put oj.dst u).put oi.dst v=(a.put oi.dst v).put oj.dst u:=fun v=>Act.put_comm a u v h2
  unfold nStep at*;rw[wanted_put oi a oj.dst u h1,execOp_put oi hs a oj.dst u h1]at h;simp only[hcm]at h
  split
  . rename_i hw
    rw[if_pos hw]at h
    split
    . obtain⟨v,hv,hk⟩:=h;exact⟨v,hv,⟨v,rfl⟩,hk⟩
    . obtain⟨v,hv,hk⟩:=h;exact⟨v,hv,⟨v,rfl⟩,hk⟩
    . obtain⟨obj,hv,hk⟩:=h;exact⟨obj,hv,fun R=>⟨⟨_,rfl⟩,hk R⟩⟩
    rename_i k0 k1 k3
    split at h
    . exact absurd rfl k0
    . exact absurd rfl k1
    . exact absurd rfl k3
    obtain⟨α,hα,f,S',c1,c2,hv,hk⟩:=h;exact⟨α,hα,f,S',c1,c2,hv,fun x=>⟨⟨f x,rfl⟩,hk x⟩⟩
  rename_i hw
  rw[if_neg hw]at h;exact⟨⟨_,rfl⟩,h⟩
theorem nStep_at{k:Nat}{u:Value}(hap:oj.apart ops oi=true)(hs:∀cs b,oi.op≠.select cs b)(hw:Region.wanted oi (yielded ops a.tmps)=true)(h:nStep P P0 base ops k oi S (a.put oj.dst u) K):
    (k=0-> ∃v,(∀w,P0 w->Flt v w ((execOp a.eval oi).run P w))/\K S ((a.put oi.dst v).put oj.dst u))/\
    (k=1-> ∃v,(∀w,S.s w->Does P (fun u w'=>u=v/\Below w.heap.size w w') ((execOp a.eval oi).run P w))/\K S ((a.put oi.dst v).put oj.dst u))/\
    (k=3-> ∃obj:Obj,(∀w,P0 w->(execOp a.eval oi).run P w=.ok (.value (mkV P (execOp a.eval oi) w.heap.size)) (w.alloc obj))/\ ∀R,K (S.new base R obj) ((a.put oi.dst (mkV P (execOp a.eval oi) R)).put oj.dst u))/\
    (k=2-> ∃(α:Type) (_:Nonempty α) (f:α->Value) (S':α->Kl),(∀x,Gd P0 (S' x))/\(∀x,(∀w,(S' x).s w->S.s w)/\ ∀g,S.n g->(S' x).n g)/\(∀w,S.s w->Does P (fun v w'=> ∃x,v=f x/\Below w.heap.size w w'/\(∀g,(S' x).n g->S.n g\/w.heap.size<=g)/\(S' x).s w') ((execOp a.eval oi).run P w))/\ ∀x,K (S' x) ((a.put oi.dst (f x)).put oj.dst u)):=by
  have h:=nStep_put hap hs h;unfold nStep at h;rw[if_pos hw]at h;refine⟨fun e=>?_,fun e=>?_,fun e=>?_,fun e=>?_⟩<;>subst e
  . obtain⟨v,hv,_,hk⟩:=h;exact⟨v,hv,hk⟩
  . obtain⟨v,hv,_,hk⟩:=h;exact⟨v,hv,hk⟩
  . obtain⟨obj,hv,hk⟩:=h;exact⟨obj,hv,fun R=>(hk R).2⟩
  obtain⟨α,hα,f,S',c1,c2,hv,hk⟩:=h;exact⟨α,hα,f,S',c1,c2 rfl,fun w hw=>(hv w hw).mono fun v w' ⟨x,d1,d2,_,d3,d4⟩=>⟨x,d1,d2 rfl,d3 (by decide),d4⟩,fun x=>(hk x).2⟩
theorem nStep_back{k:Nat}{b:Act}{K':Kl->Act->Prop}(hw:Region.wanted oj (yielded ops b.tmps)=true)
    (h:match k with
      |0=> ∃v,(∀w,P0 w->Flt v w ((execOp b.eval oj).run P w))/\K' S (b.put oj.dst v)
      |1=> ∃v,(∀w,S.s w->Does P (fun u w'=>u=v/\Below w.heap.size w w') ((execOp b.eval oj).run P w))/\K' S (b.put oj.dst v)
      |3=> ∃obj:Obj,(∀w,P0 w->(execOp b.eval oj).run P w=.ok (.value (mkV P (execOp b.eval oj) w.heap.size)) (w.alloc obj))/\ ∀R,K' (S.new base R obj) (b.put oj.dst (mkV P (execOp b.eval oj) R))
      |k=> ∃(α:Type) (_:Nonempty α) (f:α->Value) (S':α->Kl),(∀x,Gd P0 (S' x))/\(k=2-> ∀x,(∀w,(S' x).s w->S.s w)/\ ∀g,S.n g->(S' x).n g)/\(∀w,S.s w->Does P (fun v w'=> ∃x,v=f x/\(k=2->Below w.heap.size w w')/\(k=5->FrN S.n w w')/\(k≠4-> ∀g,(S' x).n g->S.n g\/w.heap.size<=g)/\(S' x).s w') ((execOp b.eval oj).run P w))/\ ∀x,K' (S' x) (b.put oj.dst (f x))):nStep P P0 base ops k oj S b K':=by
  unfold nStep;rw[if_pos hw];exact h
end
theorem nSwap{ki kj:Nat}{oi oj:Oper}{S:Kl}{a:Act}{K:Kl->Act->Prop}{w0:World}(hw0:P0 w0)(hap:oj.apart ops oi=true)(hsi:∀cs b,oi.op≠.select cs b)(hsj:∀cs b,oj.op≠.select cs b)(hok:okPair kj ki=true)(hS:Gd P0 S)
    (h:nStep P P0 base ops kj oj S a (fun S' a'=>nStep P P0 base ops ki oi S' a' K)):nStep P P0 base ops ki oi S a (fun S' a'=>nStep P P0 base ops kj oj S' a' K):=by
  have hap':=apart_symm hap;have wj:∀x,Region.wanted oj (yielded ops (a.put oi.dst x).tmps)=Region.wanted oj (yielded ops a.tmps):=fun x=>want_swap hap' x
  have ej:∀x,execOp (a.put oi.dst x).eval oj=execOp a.eval oj:=fun x=>exec_swap hsj hap' x
  have wi:∀x,Region.wanted oi (yielded ops (a.put oj.dst x).tmps)=Region.wanted oi (yielded ops a.tmps):=fun x=>want_swap hap x
  have hcm:∀u v,(a.put oj.dst u).put oi.dst v=(a.put oi.dst v).put oj.dst u:=fun u v=>Act.put_comm a u v (Oper.apart_spec hap).2.1
  by_cases hwj:Region.wanted oj (yielded ops a.tmps)=true
  case neg=>
    unfold nStep at h;rw[if_neg hwj]at h;refine nStep.mono hS (fun S' a' _ hk=>?_) (nStep_put hap hsi h);obtain⟨⟨x,rfl⟩,hk⟩:=hk;unfold nStep;rw[wj,if_neg hwj];exact hk
  by_cases hwi:Region.wanted oi (yielded ops a.tmps)=true
  case neg=>
    have e:∀(S':Kl) x,nStep P P0 base ops ki oi S' (a.put oj.dst x) K->K S' ((a.put oi.dst undef).put oj.dst x):=fun S' x h=>by
      unfold nStep at h;rw[wi,if_neg hwi,hcm]at h;exact h
    unfold nStep at h⊢;rw[if_pos hwj]at h;rw[if_neg hwi];refine nStep_back (by rw[wj];exact hwj) ?_;simp only[ej]
    split
    . obtain⟨v,h1,h2⟩:=h;exact⟨v,h1,e _ _ h2⟩
    . obtain⟨v,h1,h2⟩:=h;exact⟨v,h1,e _ _ h2⟩
    . obtain⟨obj,h1,h2⟩:=h;exact⟨obj,h1,fun R=>e _ _ (h2 R)⟩
    rename_i k0 k1 k3
    split at h
    . exact absurd rfl k0
    . exact absurd rfl k1
    . exact absurd rfl k3
    obtain⟨α,hα,f,S',c1,c2,h1,h2⟩:=h;exact⟨α,hα,f,S',c1,c2,h1,fun x=>e _ _ (h2 x)⟩
  have hat:=fun(S':Kl) x (h:nStep P P0 base ops ki oi S' (a.put oj.dst x) K)=>nStep_at hap hsi hwi h
  have back:∀(S':Kl) v {K':Kl->Act->Prop},_->nStep P P0 base ops kj oj S' (a.put oi.dst v) K':=fun S' v {K'}=>nStep_back (P:=P) (P0:=P0) (base:=base) (ops:=ops) (S:=S') (k:=kj) (b:=a.put oi.dst v) (K':=K') (by rw[wj];exact hwj)
  have fwd:∀{K':Kl->Act->Prop},_->nStep P P0 base ops ki oi S a K':=fun{K'}=>nStep_back (P:=P) (P0:=P0) (base:=base) (ops:=ops) (S:=S) (k:=ki) (b:=a) (K':=K') hwi
  --the first yields its value in every world
  by_cases hj0:kj=0
  . subst hj0;unfold nStep at h;rw[if_pos hwj]at h;obtain⟨v,h1,h2⟩:=h;refine nStep.mono hS (fun S' a' _ hk=>?_) (nStep_put hap hsi h2);obtain⟨⟨x,rfl⟩,hk⟩:=hk;exact back S' x ⟨v,by rw[ej];exact h1,hk⟩
  by_cases hi0:ki=0
  . --the one that is pulled yields its value in every world
    subst hi0
    have key:∃v,(∀w,P0 w->Flt v w ((execOp a.eval oi).run P w))/\nStep P P0 base ops kj oj S (a.put oi.dst v) K:=by
      unfold nStep at h;rw[if_pos hwj]at h
      split at h
      . exact absurd rfl hj0
      . obtain⟨v,h1,h2⟩:=h;obtain⟨u,h3,h4⟩:=(hat _ _ h2).1 rfl;exact⟨u,h3,back S u ⟨v,by rw[ej];exact h1,h4⟩⟩
      . obtain⟨obj,h1,h2⟩:=h;obtain⟨u,h3,_⟩:=(hat _ _ (h2 0)).1 rfl;refine⟨u,h3,back S u ⟨obj,by rw[ej];exact h1,fun R=>?_⟩⟩;obtain⟨u',h3',h4⟩:=(hat _ _ (h2 R)).1 rfl;rw[Flt.uniq (h3 w0 hw0) (h3' w0 hw0),ej];exact h4
      rename_i k0 k1 k3
      obtain⟨α,hα,f,S',c1,c2,h1,h2⟩:=h;obtain⟨u,h3,_⟩:=(hat _ _ (h2 (Classical.choice hα))).1 rfl;refine⟨u,h3,back S u ?_⟩
      split
      . exact absurd rfl k0
      . exact absurd rfl k1
      . exact absurd rfl k3
      refine⟨α,hα,f,S',c1,c2,by rw[ej];exact h1,fun x=>?_⟩;obtain⟨u',h3',h4⟩:=(hat _ _ (h2 x)).1 rfl;rw[Flt.uniq (h3 w0 hw0) (h3' w0 hw0)];exact h4
    obtain⟨v,h1,h2⟩:=key;exact fwd ⟨v,h1,h2⟩
  by_cases hi1:ki=1
  . --both of the second kind
    subst hi1;have hj:kj=1:=by rcases kj with _|_|_|_|_|_|kj<;>first|rfl|exact absurd rfl hj0|cases hok
    subst hj;unfold nStep at h;rw[if_pos hwj]at h;obtain⟨v,h1,h2⟩:=h;obtain⟨u,h3,h4⟩:=(hat _ _ h2).2.1 rfl;exact fwd ⟨u,h3,back S u ⟨v,by rw[ej];exact h1,h4⟩⟩
  by_cases hi2:ki=2
  . --a call that leaves facts is pulled before a read of elder ones
    subst hi2;have hj:kj=1:=by rcases kj with _|_|_|_|_|_|kj<;>first|rfl|exact absurd rfl hj0|cases hok
    subst hj;unfold nStep at h;rw[if_pos hwj]at h;obtain⟨v,h1,h2⟩:=h;obtain⟨α,hα,f,S',c1,c2,h3,h4⟩:=(hat _ _ h2).2.2.2 rfl;refine fwd ⟨α,hα,f,S',c1,fun _=>c2,fun w hw=>(h3 w hw).mono fun v w' ⟨x,d1,d2,d3,d4⟩=>⟨x,d1,fun _=>d2,fun h=>absurd h (by omega),fun _=>d3,d4⟩,fun x=>?_⟩;exact back (S' x) (f x) ⟨v,fun w hw=>by rw[ej];exact h1 w ((c2 x).1 w hw),h4 x⟩
  --a new block is pulled
  have hi:ki=3:=by rcases kj with _|_|_|_|_|_|kj<;>rcases ki with _|_|_|_|ki<;>first|rfl|exact absurd rfl hi0|exact absurd rfl hi1|exact absurd rfl hi2|exact absurd rfl hj0|cases hok
  subst hi;unfold nStep at h;rw[if_pos hwj]at h
  split at h
  . exact absurd rfl hj0
  . obtain⟨v,h1,h2⟩:=h;obtain⟨obj,h3,h4⟩:=(hat _ _ h2).2.2.1 rfl;exact fwd ⟨obj,h3,fun R=>back _ _ ⟨v,fun w hw=>by rw[ej];exact h1 w hw.1,h4 R⟩⟩
  . obtain⟨objj,h1,h2⟩:=h;obtain⟨obj,h3,_⟩:=(hat _ _ (h2 0)).2.2.1 rfl;refine fwd ⟨obj,h3,fun R=>back _ _ ⟨objj,by rw[ej];exact h1,fun R'=>?_⟩⟩;obtain⟨obj',h3',h4⟩:=(hat _ _ (h2 R')).2.2.1 rfl;obtain rfl:=obj_uniq ((h3 w0 hw0).symm.trans (h3' w0 hw0));rw[Kl.new_comm,ej];exact h4 R
  rename_i k0 k1 k3
  have hk:kj=2\/kj=5:=by rcases kj with _|_|_|_|_|_|kj<;>first|exact .inl rfl|exact .inr rfl|exact absurd rfl hj0|exact absurd rfl k1|exact absurd rfl k3|cases hok
  obtain⟨α,hα,f,S',c1,c2,h1,h2⟩:=h;obtain⟨obj,h3,_⟩:=(hat _ _ (h2 (Classical.choice hα))).2.2.1 rfl;refine fwd ⟨obj,h3,fun R=>back _ _ ?_⟩
  split
  . exact absurd rfl k0
  . exact absurd rfl k1
  . exact absurd rfl k3
  refine⟨α,hα,f,fun x=>(S' x).new base R obj,fun x=>(c1 x).new R obj,fun e x=>⟨fun w hw=>⟨(c2 e x).1 w hw.1,hw.2.1,fun h=>hw.2.2 ((c2 e x).2 R h)⟩,fun g hg=>hg.imp ((c2 e x).2 g) id⟩,fun w hw=>?_,fun x=>?_⟩
  . rw[ej];refine(h1 w hw.1).mono fun u w' ⟨x,d1,d2,d3,d4,d6⟩=>⟨x,d1,d2,fun e R' hR' hn=>d3 e R' hR' fun h=>hn (.inl h),fun hk4 g hg=>?_,d6,⟨hw.2.1.1,?_⟩,fun hR=>?_⟩
    . rcases hg with hg|hg
      . exact(d4 hk4 g hg).imp .inl id
      exact .inl (.inr hg)
    . rcases hk with hk|hk
      . exact((d2 hk).block _ hw.2.1.ltS).trans hw.2.1.2
      exact(d3 hk R hw.2.1.ltS hw.2.2).trans hw.2.1.2
    rcases d4 (by rcases hk with e|e<;>omega) R hR with h|h
    . exact hw.2.2 h
    exact absurd hw.2.1.ltS (Nat.not_lt.2 h)
  obtain⟨obj',h3',h4⟩:=(hat _ _ (h2 x)).2.2.1 rfl;obtain rfl:=obj_uniq ((h3 w0 hw0).symm.trans (h3' w0 hw0));exact h4 R
def wpN(P:Program)(P0:World->Prop)(base:Nat)(ops:Array Oper)(kd:Nat->Nat)(Q:Act->World->Prop):List Nat->Kl->Act->Prop
  |[],S,a=> ∀w,S.s w->Q a w
  | i::l,S,a=>match ops[i]? with
    |none=>False
    |some o=>nStep P P0 base ops (kd i) o S a (wpN P P0 base ops kd Q l)
theorem nPull{kd:Nat->Nat}{Q:Act->World->Prop}{w0:World}(hw0:P0 w0)(hsel:∀(j:Nat) (o:Oper) cs b,ops[j]?=some o->o.op≠.select cs b){i:Nat}{oi:Oper}(hi:ops[i]?=some oi):∀(l:List Nat) (S:Kl) (a:Act),l.Pairwise (· < ·)->i∈l->
    (∀j∈l,j<i-> ∀oj,ops[j]?=some oj->oj.apart ops oi=true/\okPair (kd j) (kd i)=true)->Gd P0 S->wpN P P0 base ops kd Q l S a->nStep P P0 base ops (kd i) oi S a (wpN P P0 base ops kd Q (l.erase i))
  |[],_,_,_,hm,_,_,_=>by cases hm
  | j ::l,S,a,hl,hm,hcl,hS,h=>by
    by_cases hji:j=i
    . subst hji;rw[List.erase_cons_head];unfold wpN at h;rw[hi]at h;exact h
    have hm':i∈l:=by
      rcases List.mem_cons.1 hm with e|e
      . exact absurd e.symm hji
      exact e
    rw[List.pairwise_cons]at hl;have hlt:=hl.1 i hm';rw[List.erase_cons_tail (by simpa using hji)];unfold wpN at h
    cases hj:ops[j]? with
    |none=>rw[hj]at h;exact h.elim
    | some oj=>
      rw[hj]at h;obtain⟨hap,hok⟩:=hcl j (List.mem_cons_self ..) hlt oj hj;have h1:=nStep.mono hS (fun S' a' hS' hk=>nPull hw0 hsel hi l S' a' hl.2 hm' (fun k hk'=>hcl k (List.mem_cons_of_mem _ hk')) hS' hk) h;have h2:=nSwap hw0 hap (fun cs b=>hsel i oi cs b hi) (fun cs b=>hsel j oj cs b hj) hok hS h1;refine nStep.mono hS (fun S' a' _ hk=>?_) h2;unfold wpN;rw[hj];exact hk
theorem nStep.wp{k:Nat}{o:Oper}{S:Kl}{a:Act}{K:Kl->Act->Prop}{K':Act->World->Prop}{Q':Exit->Act->World->Prop}{w:World}(hbase:∀w,P0 w->base<=w.heap.size)(hS:Gd P0 S)(hw:S.s w)
    (h:∀S' a' w',Gd P0 S'->S'.s w'->K S' a'->K' a' w') (hs:nStep P P0 base ops k o S a K):
    if Region.wanted o (yielded ops a.tmps)=true then o.wp P a w K' Q'\/(o.asks P a w/\LetsOut Q')else K' (a.put o.dst undef) w:=by
  unfold nStep at hs
  split
  . rename_i hg
    rw[if_pos hg]at hs;refine .inl ?_;unfold Oper.wp
    split at hs
    . obtain⟨v,h1,h2⟩:=hs;exact Does.upon (R:=fun u w'=>u=v/\w'=w) (fun u w' ⟨e1,e2⟩=>by subst e1;subst e2;exact h _ _ _ hS hw h2) (Flt.does ⟨rfl,rfl⟩ (h1 w (hS.p w hw)))
    . obtain⟨v,h1,h2⟩:=hs;exact Does.upon (fun u w' ⟨e1,e2⟩=>by subst e1;exact h _ _ _ hS (hS.cl _ _ hw e2) h2) (h1 w hw)
    . obtain⟨obj,h1,h2⟩:=hs;rw[h1 w (hS.p w hw)];exact h _ _ _ (hS.new _ obj) ⟨hS.cl w _ hw ((Below.refl _ _).alloc (Nat.le_refl _) _),⟨hbase w (hS.p w hw),heap_new w obj⟩,fun hn=>Nat.lt_irrefl _ (hS.k w hw _ hn)⟩ (h2 w.heap.size)
    obtain⟨α,_,f,S',c1,c2,h1,h2⟩:=hs;exact Does.upon (fun u w' ⟨x,hx,_,_,_,hu⟩=>by subst hx;exact h _ _ _ (c1 x) hu (h2 x)) (h1 w hw)
  rename_i hg
  rw[if_neg hg]at hs;exact h _ _ _ hS hw hs
theorem wpAny_of_N{kd:Nat->Nat}{ks:List Nat}(hkd:∀i,kd i=ks.getD i 0){Q:Act->World->Prop}{Q':Exit->Act->World->Prop}(hQ:∀a w,Q a w->Q' .normal a w){w0:World}(hw0:P0 w0)(hbase:∀w,P0 w->base<=w.heap.size)(hsel:∀(j:Nat) (o:Oper) cs b,ops[j]?=some o->o.op≠.select cs b)(hB:floatB md ops ks=true):
    ∀(fuel:Nat) (listed:Array Bool) (l:List Nat) (S:Kl) (a:Act) (w:World),(∀i,i∈l↔i<ops.size/\listed.getD i true=false)->l.Pairwise (· < ·)->listed.size=ops.size->Closed md ops listed->Gd P0 S->S.s w->wpN P P0 base ops kd Q l S a->l.length<=fuel->wpAny P md ops Q' fuel listed a w
  | 0,listed,l,S,a,w,hm,_,_,_,_,hw,h,hf=>by
    obtain rfl:l=[]:=List.eq_nil_of_length_eq_zero (by omega);refine⟨?_,hQ _ _ (h w hw)⟩;refine List.eq_nil_iff_forall_not_mem.2 fun j hj=>?_
    obtain⟨h1,o,ho,_⟩:=mem_ready.1 hj;exact absurd ((hm j).2 ⟨(Array.getElem?_eq_some_iff.1 ho).1,h1⟩) List.not_mem_nil
  | fuel + 1, listed,l,S,a,w,hm,hpw,hsz,hcl,hS,hw,h,hf=>by
    refine⟨fun h0=>?_,fun i hi=>?_⟩
    . cases l with
      |nil=>exact hQ _ _ (h w hw)
      | cons j l=>
        exfalso
        obtain⟨hj1,hj2⟩:=(hm j).1 (List.mem_cons_self ..);have hoj:ops[j]?=some ops[j]:=Array.getElem?_eq_getElem hj1
        have hr:j∈Region.ready md ops listed:=mem_ready.2 ⟨hj2,_,hoj,fun e he hb=>by
          have hlt:=(floatB_spec hB hoj).1 e he hb
          cases hv:listed.getD e.on false with
          |true=>rfl
          | false=>
            exfalso
            have hes:e.on<listed.size:=by omega
            have h3:listed.getD e.on true=false:=by
              rw[Array.getD_eq_getD_getElem?,Array.getElem?_eq_getElem hes]at hv⊢
              simpa using hv
            have h4:=(hm e.on).2 ⟨by omega,h3⟩;rw[List.pairwise_cons]at hpw
            rcases List.mem_cons.1 h4 with h5|h5
            . omega
            have:=hpw.1 _ h5;omega⟩
        rw[h0]at hr
        cases hr
    obtain⟨hun,oi,ho,_⟩:=mem_ready.1 hi;have hil:i∈l:=(hm i).2 ⟨(Array.getElem?_eq_some_iff.1 ho).1,hun⟩
    have hpl:=nPull (kd:=kd) hw0 hsel ho l S a hpw hil (fun j hj hlt oj hoj=>by
      rcases(floatB_spec hB ho).2 j oj hlt hoj with h1|h1
      . have h2:=h1 listed hcl hi;have h3:=((hm j).1 hj).2;have hjs:j<listed.size:=by rw[hsz];exact((hm j).1 hj).1
        rw[Array.getD_eq_getD_getElem?,Array.getElem?_eq_getElem hjs]at h2 h3;simp only[Option.getD_some]at h2 h3;rw[h2]at h3;cases h3
      rw[hkd,hkd];exact⟨h1.2,h1.1⟩) hS h
    unfold wpOp;rw[ho];refine nStep.wp hbase hS hw (fun S' a' w' hS' hw' hk=>?_) hpl;refine wpAny_of_N hkd hQ hw0 hbase hsel hB fuel _ (l.erase i) S' a' w' (fun k=>?_) (hpw.sublist List.erase_sublist) (by rw[Array.size_setIfInBounds];exact hsz) (hcl.set hi) hS' hw' hk (by rw[List.length_erase_of_mem hil];omega);have hnd:l.Nodup:=hpw.imp (fun h=>Nat.ne_of_lt h);rw[hnd.mem_erase_iff,hm k]
    by_cases hki:i=k
    . subst hki;have his:i<listed.size:=by rw[hsz];exact(Array.getElem?_eq_some_iff.1 ho).1
      simp[his]
    rw[getD_set_ne true hki];exact⟨fun h=>h.2,fun h=>⟨fun e=>hki e.symm,h⟩⟩
def wpX(P:Program)(P0:World->Prop)(base:Nat)(ops:Array Oper)(Q:Act->World->Prop):List Nat->List Oper->Kl->Act->Prop
  |_,[],S,a=> ∀w,S.s w->Q a w
  |[],_::_,_,_=>False
  |k::ks,o::rest,S,a=>nStep P P0 base ops k o S a (wpX P P0 base ops Q ks rest)
theorem wpX_to_N{Q:Act->World->Prop}{kd:Nat->Nat}{ks0:List Nat}(hkd:∀i,kd i=ks0.getD i 0)(hlen:ops.size<=ks0.length):∀(l:List Oper) (k:Nat) (S:Kl) (a:Act),Gd P0 S->(∀j,l[j]?=ops[k+j]?)->wpX P P0 base ops Q (ks0.drop k) l S a->wpN P P0 base ops kd Q (List.range' k l.length) S a
  |[],k,S,a,_,_,h=>by cases hk:ks0.drop k<;>(rw[hk]at h;exact h)
  | o ::l,k,S,a,hS,hl,h=>by
    have h0:ops[k]?=some o:=by simpa using(hl 0).symm
    have hks:k<ks0.length:=Nat.lt_of_lt_of_le (Array.getElem?_eq_some_iff.1 h0).1 hlen
    have hdrop:ks0.drop k=ks0.getD k 0::ks0.drop (k+1):=by
      rw[List.drop_eq_getElem_cons hks];simp[hks]
    rw[hdrop]at h;rw[List.length_cons,List.range'_succ];unfold wpN;rw[h0];dsimp only;rw[hkd];exact nStep.mono hS (fun S' a' hS' h'=>wpX_to_N hkd hlen l (k+1) S' a' hS' (fun j=>by have:=hl (j+1);simpa[Nat.add_assoc,Nat.add_comm 1 j]using this) h') h
theorem wp_region_X{id:Nat}{Q:Exit->Act->World->Prop}{a:Act}{w:World}{l:List Oper}(P0:World->Prop)(base:Nat)(S:Kl)(ks:List Nat)(hm:P.follows .mixedOrders=true)
    (hn:Region.noSelect l.toArray=true) (hlen:(l.length==ks.length)=true) (hst:floatB .any l.toArray ks=true) (hB:∀w,P0 w->base<=w.heap.size) (hS:Gd P0 S) (hw:S.s w.drew) (h:wpX P P0 base l.toArray (fun a w=>Q .normal a w) ks l S a):
    (Code.region id l.toArray true).wp P Q a w:=by
  have hlen':l.length=ks.length:=by simpa using hlen
  refine wp_region_any hm ?_
  refine wpAny_of_N (P0:=P0) (base:=base) (kd:=fun i=>ks.getD i 0) (ks:=ks) (fun _=>rfl) (Q:=fun a w=>Q .normal a w) (fun _ _ h=>h) (hS.p _ hw) hB (Region.noSelect_spec hn) hst _ _ (List.range' 0 l.length) S a _ (fun i=>?_) List.pairwise_lt_range' (by simp) (fun j o hj ht=>?_) hS hw
    (wpX_to_N (ops:=l.toArray) (ks0:=ks) (fun _=>rfl) (by simp[hlen']) l 0 S a hS (by simp) (by simpa using h)) (by simp)
  . rw[List.mem_range'_1];constructor
    . intro hi;have hlt:i<l.length:=by omega
      simp[hlt]
    intro hi;have:=hi.1;simp at this;omega
  have hlt:j<l.toArray.size:=(Array.getElem?_eq_some_iff.1 hj).1;simp at hlt;simp[hlt]at ht
theorem wpList_of_X{Q':Exit->Act->World->Prop}(hB:∀w,P0 w->base<=w.heap.size):∀(ks:List Nat) (l:List Oper) (S:Kl) (a:Act) (w:World),Gd P0 S->S.s w->
    wpX P P0 base ops (fun a w=>Q' .normal a w) ks l S a->wpList P ops Q' l a w
  |[],[],_,_,_,_,hw,h=>h _ hw
  |_::_,[],_,_,_,_,hw,h=>h _ hw
  |[],_::_,_,_,_,_,_,h=>False.elim h
  |_::ks,_::rest,_,_,_,hS,hw,h=>nStep.wp hB hS hw (fun S' a' w' hS' hw' hk=>wpList_of_X hB ks rest S' a' w' hS' hw' hk) h
end
end
section
structure Ft where
  own:Nat->Prop
  ln:List Nat
  F:World->Prop
  lt:∀{w g},F w->own g->g<w.heap.size
  bel:∀{w w'},F w->Below w.heap.size w w'->F w'
  spa:∀{w R},F w-> ¬own R->NoHd ln R w->Spares R w F
def Own(l:List Ft)(g:Nat):Prop:= ∃f∈l,f.own g
structure SS(V:World)(l:List Ft)(w:World):Prop where
  old:Below V.heap.size V w
  has:∀f∈l,f.F w
  lo:∀f∈l,∀g,f.own g->V.heap.size<=g
  ap:l.Pairwise fun f f'=> ∀g,f.own g-> ¬f'.own g
section
variable {V w w':World}{l l':List Ft}{f f':Ft}{R n i:Nat}
theorem SS.get(h:SS V l w)(hm:f∈l):f.F w:=h.has f hm
theorem SS.start(V:World):SS V [] V:=⟨Below.refl _ _,fun _ h=>absurd h List.not_mem_nil,fun _ h=>absurd h List.not_mem_nil,.nil⟩
theorem SS.step(h:SS V l w)(hb:Below w.heap.size w w'):SS V l w':=⟨h.old.trans (hb.mono h.old.size),fun f hf=>f.bel (h.has f hf) hb,h.lo,h.ap⟩
theorem SS.subl(h:SS V l w)(hs:l'.Sublist l):SS V l' w:=⟨h.old,fun f hf=>h.has f (hs.subset hf),fun f hf=>h.lo f (hs.subset hf),h.ap.sublist hs⟩
theorem SS.perm(h:SS V l w)(hp:l.Perm l'):SS V l' w:=
  ⟨h.old,fun f hf=>h.has f (hp.mem_iff.2 hf),fun f hf=>h.lo f (hp.mem_iff.2 hf),(hp.pairwise_iff fun h g h1 h2=>h g h2 h1).1 h.ap⟩
theorem SS.more(h:SS V l w)(h':SS w l' w'):SS V (l'++l) w':=
  ⟨h.old.trans (h'.old.mono h.old.size),fun f hf=>(List.mem_append.1 hf).elim (h'.has f) fun hf=>f.bel (h.has f hf) h'.old,fun f hf g hg=>(List.mem_append.1 hf).elim (fun hf=>Nat.le_trans h.old.size (h'.lo f hf g hg)) fun hf=>h.lo f hf g hg,
    List.pairwise_append.2 ⟨h'.ap,h.ap,fun f hf f' hf' g h1 h2=>absurd (f'.lt (h.has f' hf') h2) (Nat.not_lt.2 (h'.lo f hf g h1))⟩⟩
theorem SS.one(h:SS V l w)(hf:f.F w)(hl:∀g,f.own g->V.heap.size<=g)(ha:∀f'∈l,∀g,f.own g-> ¬f'.own g):SS V (f::l) w:=
  ⟨h.old,fun _f' hf'=>(List.mem_cons.1 hf').elim (fun e=>e▸hf) (h.has _),fun _f' hf'=>(List.mem_cons.1 hf').elim (fun e=>e▸hl) (h.lo _),.cons ha h.ap⟩
theorem SS.fact(h:SS V l w)(f:Ft)(hf:f.F w)(h0:∀g,¬f.own g:=by exact fun _ h=>h):SS V (f::l) w:=h.one hf (fun g hg=>absurd hg (h0 g)) fun _ _ g hg=>absurd hg (h0 g)
theorem SS.lt(h:SS V l w){g:Nat}(hg:Own l g):g<w.heap.size:=by
  obtain⟨f,hf,hg⟩:=hg;exact f.lt (h.has f hf) hg
theorem SS.drew(h:SS V l w):SS V l w.drew:=h.step (Below.refl _ _).drew
theorem SS.nil(h:SS V l w):SS V [] w:=h.subl (List.nil_sublist _)
def Qt(b:Option Nat)(w:World)(i:Nat)(l:List Ft):Prop:= ∀R,b=some R-> ∀j f,j≠i->l[j]?=some f->NoHd f.ln R w
def OkA(n:Nat):List Ft->Prop
  |[]=>True
  |f::l=>f.ln.contains n=false/\OkA n l
def OkL(n:Nat):Nat->List Ft->Prop
  |_,[]=>True
  |0,_::l=>OkA n l
  |i+1,f::l=>f.ln.contains n=false/\OkL n i l
def OzA:List Ft->Prop
  |[]=>True
  |f::l=>f.ln=[]/\OzA l
def OzL:Nat->List Ft->Prop
  |_,[]=>True
  |0,_::l=>OzA l
  |i+1,f::l=>f.ln=[]/\OzL i l
theorem OkA.at:∀{l:List Ft} {j:Nat} {f:Ft},OkA n l->l[j]?=some f->f.ln.contains n=false
  |[],_,_,_,h=>by simp at h
  |_::_,0,_,hk,h=>by simp at h;subst h;exact hk.1
  |_::l,j+1,_,hk,h=>OkA.at (l:=l) hk.2 (by simpa using h)
theorem OkL.at:∀{l:List Ft} {i j:Nat} {f:Ft},OkL n i l->j≠i->l[j]?=some f->f.ln.contains n=false
  |[],_,_,_,_,_,h=>by simp at h
  |_::_,0,0,_,_,hne,_=>absurd rfl hne
  |_::_,0,j+1,_,hk,_,h=>OkA.at hk (by simpa using h)
  |_::_,i+1,0,_,hk,_,h=>by simp at h;subst h;exact hk.1
  |_::l,i+1,j+1,_,hk,hne,h=>OkL.at (l:=l) hk.2 (fun e=>hne (congrArg (· +1) e)) (by simpa using h)
theorem OzA.at:∀{l:List Ft} {j:Nat} {f:Ft},OzA l->l[j]?=some f->f.ln=[]
  |[],_,_,_,h=>by simp at h
  |_::_,0,_,hk,h=>by simp at h;subst h;exact hk.1
  |_::l,j+1,_,hk,h=>OzA.at (l:=l) hk.2 (by simpa using h)
theorem OzL.at:∀{l:List Ft} {i j:Nat} {f:Ft},OzL i l->j≠i->l[j]?=some f->f.ln=[]
  |[],_,_,_,_,_,h=>by simp at h
  |_::_,0,0,_,_,hne,_=>absurd rfl hne
  |_::_,0,j+1,_,hk,_,h=>OzA.at hk (by simpa using h)
  |_::_,i+1,0,_,hk,_,h=>by simp at h;subst h;exact hk.1
  |_::l,i+1,j+1,_,hk,hne,h=>OzL.at (l:=l) hk.2 (fun e=>hne (congrArg (· +1) e)) (by simpa using h)
theorem qtN{b:Option Nat}(hn:∀R,b=some R->HdIs R n w)(h:OkL n i l):Qt b w i l:=fun R e _ _ hne hj=>(hn R e).no (h.at hne hj)
theorem qtZ{b:Option Nat}(h:OzL i l):Qt b w i l:=fun R _ _ _ hne hj=>by rw[h.at hne hj];exact fun _ _=>rfl
theorem SS.turn{b:Option Nat}(h:SS V l w)(hi:l[i]?=some f)(hg:w.grownBy w' b)(hb:∀R,b=some R->f.own R)(hq:Qt b w i l)(hf:f'.F w')(ho:∀g,f'.own g->f.own g\/w.heap.size<=g):SS V (l.set i f') w':=by
  have hm:=List.mem_of_getElem? hi;have hil:=(List.getElem?_eq_some_iff.1 hi).1
  have hall:∀j f1,j≠i->l[j]?=some f1->f1.F w':=fun j f1 hne hj=>by
    have h1:=h.has f1 (List.mem_of_getElem? hj)
    cases hbb:b with
    |none=>exact f1.bel h1 ⟨hg.os,hg.tape,hg.output,hg.size,fun k hk=>hg.block k hk (by rw[hbb];simp)⟩
    | some R=>
      refine f1.spa h1 (fun hR=>?_) (hq R hbb j f1 hne hj) w' hg.size (fun k hk hlt=>hg.block k hlt (by rw[hbb];simpa using hk)) w' (Below.refl _ _);have hfR:=hb R hbb;have hjl:=(List.getElem?_eq_some_iff.1 hj).1;have e1:l[j]=f1:=(List.getElem?_eq_some_iff.1 hj).2;have e2:l[i]=f:=(List.getElem?_eq_some_iff.1 hi).2
      rcases Nat.lt_or_gt_of_ne hne with hlt|hlt
      . exact List.pairwise_iff_getElem.1 h.ap j i hjl hil hlt R (by rw[e1];exact hR) (by rw[e2];exact hfR)
      exact List.pairwise_iff_getElem.1 h.ap i j hil hjl hlt R (by rw[e2];exact hfR) (by rw[e1];exact hR)
  have hcase:∀f1∈l.set i f',f1=f'\/ ∃j,j≠i/\l[j]?=some f1:=fun f1 hf1=>by
    obtain⟨j,hj⟩:=List.mem_iff_getElem?.1 hf1;rw[List.getElem?_set]at hj
    by_cases e:i=j
    . rw[if_pos e,if_pos hil]at hj;exact .inl (Option.some.inj hj).symm
    rw[if_neg e]at hj;exact .inr ⟨j,Ne.symm e,hj⟩
  have hfl:∀g,f'.own g->V.heap.size<=g:=fun g hgo=>(ho g hgo).elim (h.lo f hm g) fun h2=>Nat.le_trans h.old.size h2
  refine⟨h.old.trans ⟨hg.os,hg.tape,hg.output,hg.size,fun k hk=>hg.block k (Nat.lt_of_lt_of_le hk h.old.size) fun e=>absurd (h.lo f hm k (hb k e.symm)) (Nat.not_le.2 hk)⟩,fun f1 hf1=>?_,fun f1 hf1=>?_,?_⟩
  . rcases hcase f1 hf1 with rfl|⟨j,hne,hj⟩
    . exact hf
    exact hall j f1 hne hj
  . rcases hcase f1 hf1 with rfl|⟨j,hne,hj⟩
    . exact hfl
    exact h.lo f1 (List.mem_of_getElem? hj)
  refine List.pairwise_iff_getElem.2 fun j k hj hk hjk g h1 h2=>?_
  rw[List.length_set]at hj hk
  have key:∀m (hm:m<l.length),m≠i->f'.own g->l[m].own g->False:=fun m hm2 hne h3 h4=>by
    rcases ho g h3 with h5|h5
    . have e2:l[i]=f:=(List.getElem?_eq_some_iff.1 hi).2
      rcases Nat.lt_or_gt_of_ne hne with hlt|hlt
      . exact List.pairwise_iff_getElem.1 h.ap m i hm2 hil hlt g h4 (by rw[e2];exact h5)
      exact List.pairwise_iff_getElem.1 h.ap i m hil hm2 hlt g (by rw[e2];exact h5) h4
    exact absurd (l[m].lt (h.has _ (List.getElem_mem hm2)) h4) (Nat.not_lt.2 h5)
  by_cases ej:i=j
  . subst ej;simp only[List.getElem_set_self]at h1;rw[List.getElem_set_ne (by omega)]at h2;exact key k hk (by omega) h1 h2
  rw[List.getElem_set_ne ej]at h1
  by_cases ek:i=k
  . subst ek;simp only[List.getElem_set_self]at h2;exact key j hj (by omega) h2 h1
  rw[List.getElem_set_ne ek]at h2;exact List.pairwise_iff_getElem.1 h.ap j k hj hk hjk g h1 h2
end
theorem put_grown{R:Nat}:∀(cs:List Value) (o:Nat) (w:World),w.grownBy (putAt R o cs w) (some R)
  |[],_,_=>⟨rfl,rfl,rfl,Nat.le_refl _,fun _ _ _=>rfl⟩
  | c::cs,o,w=>by
    obtain⟨h1,h2,h3,h4,h5⟩:=put_grown (R:=R) cs (o+1) (w.setCell ⟨R,o,none⟩ c);have hs:(w.setCell ⟨R,o,none⟩ c).heap.size=w.heap.size:=by simp[World.setCell]
    exact⟨h1,h2,h3,by rw[<-hs];exact h4,fun j hj hne=>(h5 j (by rw[hs];exact hj) hne).trans (setCell_far _ fun e=>hne (by rw[e]))⟩
def bx(R:Nat)(obj:Obj):Ft:=⟨fun g=>g=R,[],Has 0 R obj,fun h e=>e▸h.ltS,fun h hb=>h.below hb,fun h hn _=>has_spare h fun e=>hn e.symm⟩
def rO{α:Type}(K:EK α)[OwnK K](t:TypeId)(p:Option Addr)(n c:Nat)(xs:List α):Ft:=
  ⟨fun g=>ob p=some g,K.S,fun w=>OwV K t 0 w (.slice p n c) xs,fun h e=>(h.block e).2,fun h hb=>h.below hb,fun h hn hS=>h.spare (by rw[ob_eq];exact hn) (.inr hS)⟩
def pF(S:List Nat)(F:World->Prop)(h1:∀{w w'},F w->Below w.heap.size w w'->F w')(h2:∀{w R},F w->NoHd S R w->Spares R w F):Ft:=⟨fun _=>False,S,F,fun _ h=>h.elim,h1,fun h _=>h2 h⟩
def cF(p:Prop):Ft:=⟨fun _=>False,[],fun _=>p,fun _ h=>h.elim,fun h _=>h,fun h _ _ _ _ _ _ _=>h⟩
section
variable {α:Type}{K:EK α}{w:World}{t:TypeId}{p:Option Addr}{n c i b:Nat}{xs:List α}
theorem OwV.len(h:OwV K t b w (.slice p n c) xs):n=xs.length:=h.slv.one0
theorem SlV.pt(h:SlV K w (.slice p n c) xs)(hi:i<n):∃g o,p=some ⟨g,o,none⟩:=by
  have hl:=h.one0;obtain⟨g,o,e,_⟩:=h.ptr (List.getElem?_eq_getElem (show i<xs.length by omega));exact⟨g,o,e⟩
theorem OwV.some_cell{g:Nat}(h:OwV K t b w (.slice (some ⟨g,0,none⟩) n c) xs)(hi:i<xs.length){j:Nat}(hj:j<K.sz):∃u,w.cell? ⟨g,i*K.sz+j,none⟩=some u:=by
  obtain⟨cs,h1,h2⟩:=h.slv.at (List.getElem?_eq_getElem hi);have hl:=K.len h2;refine⟨cs[j]'(by omega),?_⟩;have:=h1.2 j _ (List.getElem?_eq_getElem (by omega))
  rwa [Nat.zero_add]at this
end
section
variable {α:Type}{K:EK α}[OwnK K]{V w w':World}{l:List Ft}{t:TypeId}{p:Option Addr}{n c i R b:Nat}{xs:List α}{obj:Obj}{v:Value}
theorem SS.own(h:SS V l w)(hm:rO K t p n c xs∈l):OwV K t 0 w (.slice p n c) xs:=h.get hm
theorem SS.box(h:SS V l w)(hm:bx R obj∈l):Has 0 R obj w:=h.get hm
theorem SS.slv(h:SS V l w)(hm:rO K t p n c xs∈l):SlV K w (.slice p n c) xs:=(h.own hm).slv
theorem SS.len(h:SS V l w)(hm:rO K t p n c xs∈l):n=xs.length:=(h.own hm).len
theorem SS.pt(h:SS V l w)(hm:rO K t p n c xs∈l)(hi:i<n):∃g,p=some ⟨g,0,none⟩:=by
  have hl:=h.len hm;obtain⟨r,e,e1,h1|⟨g,e2,_⟩⟩:=(h.own hm).sh
  . rw[h1.1]at hl;subst hl;exact absurd hi (Nat.not_lt_zero _)
  injection e1 with e1
  exact⟨g,by rw[e1,e2]⟩
theorem SS.repl{f f':Ft}(h:SS V (f::l) w)(hf:f'.F w)(ho:∀g,f'.own g->f.own g):SS V (f'::l) w:=
  (h.subl (List.sublist_cons_self ..)).one hf (fun g hg=>h.lo _ (List.mem_cons_self ..) g (ho g hg)) fun f1 h1 g hg=>(List.pairwise_cons.1 h.ap).1 f1 h1 g (ho g hg)
theorem SS.cut{m:Nat}(h:SS V (rO K t p n c xs::l) w)(hm:m<=xs.length):SS V (rO K t p m c (xs.take m)::l) w:=h.repl ((h.own (List.mem_cons_self ..)).take hm) fun _ h=>h
end
section
variable {w:World}{g o n c i:Nat}{t:TypeId}{b:Nat}
theorem SlV.cel{α:Type}{K:EK α}{f:α->List Value}(hf:∀{w cs x},K.R w cs x->cs=f x){xs:List α}{x:α}(h:SlV K w (.slice (some ⟨g,o,none⟩) n c) xs)(hx:xs[i]?=some x)(j:Nat){u:Value}(hu:(f x)[j]?=some u):w.cell? ⟨g,o+i*K.sz+j,none⟩=some u:=by
  obtain⟨cs,h1,h2⟩:=h.at hx;have h3:=hf h2;subst h3;exact h1.2 j u hu
theorem SlV.int{xs:List Int}{x:Int}(h:SlV intK w (.slice (some ⟨g,o,none⟩) n c) xs)(hx:xs[i]?=some x):w.cell? ⟨g,o+i,none⟩=some (.int .i64 x):=by
  have h1:=h.cel (f:=fun x=>[.int .i64 x]) (fun e=>e) hx 0 rfl
  rwa [show o+i*intK.sz+0=o+i from by show o+i*1+0=_;omega]at h1
theorem OwV.int{xs:List Int}{x:Int}(h:OwV intK t b w (.slice (some ⟨g,0,none⟩) n c) xs)(hx:xs[i]?=some x):w.cell? ⟨g,i,none⟩=some (.int .i64 x):=by
  have h1:=h.slv.int hx
  rwa [Nat.zero_add]at h1
end
section
variable {P:Program}{V:World}{ops:Array Oper}{Q:Act->World->Prop}{f0 fs fs':List Ft}{k:Nat}{ks:List Nat}{o:Oper}{rest:List Oper}{a a':Act}{v:Value}
theorem gdS(hs:f0.Sublist fs):Gd (SS V f0) ⟨Own fs,SS V fs⟩:=⟨fun _ _ h hb=>SS.step h hb,fun _ h=>SS.subl h hs,fun _ h _ hg=>SS.lt h hg⟩
structure Sx(P:Program)(V:World)(ops:Array Oper)(Q:Act->World->Prop)(f0:List Ft)(ks:List Nat)(l:List Oper)(fs:List Ft)(a:Act):Prop where
  out:f0.Sublist fs->wpX P (SS V f0) V.heap.size ops Q ks l ⟨Own fs,SS V fs⟩ a
theorem wp_region_S{id:Nat}{Q:Exit->Act->World->Prop}{w:World}{l:List Oper}(f0:List Ft)(ks:List Nat)(hK:SS V fs w)(h:Sx P V l.toArray (fun a w=>Q .normal a w) f0 ks l fs a)(hs:f0.Sublist fs)(hm:P.follows .mixedOrders=true:=by kernel_rfl)
    (hn:Region.noSelect l.toArray=true:=by kernel_rfl) (hlen:(l.length==ks.length)=true:=by kernel_rfl) (hst:floatB .any l.toArray ks=true:=by kernel_rfl):(Code.region id l.toArray true).wp P Q a w:=
  wp_region_X (SS V f0) V.heap.size _ ks hm hn hlen hst (fun _ h=>h.old.size) (gdS hs) hK.drew (h.out hs)
theorem wp_region_T{id:Nat}{Q:Exit->Act->World->Prop}{w:World}{l:List Oper}(ks:List Nat)(hK:SS V fs w)(h:Sx P V l.toArray (fun a w=>Q .normal a w) [] ks l fs a):(Code.region id l.toArray false).wp P Q a w:=
  wp_region_lit (wpList_of_X (P0:=SS V []) (base:=V.heap.size) (fun _ h=>h.old.size) ks l _ a w (gdS (List.nil_sublist _)) hK (h.out (List.nil_sublist _)))
theorem sxEnd(h:∀w,SS V fs w->Q a w):Sx P V ops Q f0 ks [] fs a:=⟨fun _=>by cases ks<;>exact h⟩
theorem sxN(hg:Region.wanted o (yielded ops a.tmps)=false)(h:Sx P V ops Q f0 ks rest fs (a.put o.dst undef)):Sx P V ops Q f0 (k::ks) (o::rest) fs a:=⟨fun hs=>by
  show nStep _ _ _ _ _ _ _ _ _
  unfold nStep;rw[if_neg (by simp[hg])];exact h.out hs⟩
theorem sx0(hg:Wants ops o a)(h1:∀w,SS V f0 w->Flt v w ((execOp a.eval o).run P w))(h:Sx P V ops Q f0 ks rest fs (a.put o.dst v)):Sx P V ops Q f0 (0::ks) (o::rest) fs a:=⟨fun hs=>by
  show nStep _ _ _ _ _ _ _ _ _
  unfold nStep;rw[if_pos hg];exact⟨v,h1,h.out hs⟩⟩
theorem sx1(hg:Wants ops o a)(h1:∀w,SS V fs w->Does P (fun u w'=>u=v/\Below w.heap.size w w') ((execOp a.eval o).run P w))(h:Sx P V ops Q f0 ks rest fs (a.put o.dst v)):Sx P V ops Q f0 (1::ks) (o::rest) fs a:=⟨fun hs=>by
  show nStep _ _ _ _ _ _ _ _ _
  unfold nStep;rw[if_pos hg];exact⟨v,h1,h.out hs⟩⟩
theorem sx2{α:Type}[hα:Nonempty α]{f:α->Value}{l':α->List Ft}(hg:Wants ops o a)(h1:∀w,SS V fs w->Does P (fun u w'=> ∃x,u=f x/\SS w (l' x) w') ((execOp a.eval o).run P w))(h:∀x,Sx P V ops Q f0 ks rest (l' x++fs) (a.put o.dst (f x))):Sx P V ops Q f0 (2::ks) (o::rest) fs a:=⟨fun hs=>by
  have hs2:∀x,f0.Sublist (l' x++fs):=fun x=>hs.trans (List.sublist_append_right _ _)
  show nStep _ _ _ _ _ _ _ _ _
  unfold nStep;rw[if_pos hg];refine⟨α,hα,f,fun x=>⟨Own (l' x++fs),SS V (l' x++fs)⟩,fun x=>gdS (hs2 x),fun _ x=>⟨fun w hw=>SS.subl hw (List.sublist_append_right _ _),fun g ⟨f,hf,hg⟩=>⟨f,List.mem_append_right _ hf,hg⟩⟩,fun w hw=>(h1 w hw).mono fun u w' ⟨x,e,hu⟩=>⟨x,e,fun _=>hu.old,fun e=>absurd e (by decide),fun _ g ⟨f,hf,hg⟩=>?_,SS.more hw hu⟩,fun x=>(h x).out (hs2 x)⟩;exact(List.mem_append.1 hf).elim (fun hf=>.inr (hu.lo f hf g hg)) fun hf=>.inl ⟨f,hf,hg⟩⟩
theorem sx3{f:Nat->Value}(obj:Obj)(hg:Wants ops o a)(h1:∀w,(execOp a.eval o).run P w=.ok (.value (f w.heap.size)) (w.alloc obj))(h:∀R,Sx P V ops Q f0 ks rest (bx R obj::fs) (a.put o.dst (f R))):Sx P V ops Q f0 (3::ks) (o::rest) fs a:=⟨fun hs=>by
  show nStep _ _ _ _ _ _ _ _ _
  unfold nStep;rw[if_pos hg];have hm:=mkV_of h1;refine⟨obj,fun w _=>by rw[hm];exact h1 w,fun R=>?_⟩;rw[hm]
  have e:Kl.new ⟨Own fs,SS V fs⟩ V.heap.size R obj=⟨Own (bx R obj::fs),SS V (bx R obj::fs)⟩:=by
    refine Kl.eq (fun g=>⟨fun h=>h.elim (fun⟨f,hf,hg⟩=>⟨f,List.mem_cons_of_mem _ hf,hg⟩) fun h=>⟨_,List.mem_cons_self ..,h⟩,fun⟨f,hf,hg⟩=>?_⟩) fun w=>⟨fun⟨h1,h2,h3⟩=>SS.one h1 ⟨Nat.zero_le _,h2.2⟩ (fun g e=>e▸h2.1) fun f hf g e hg=>h3 ⟨f,hf,e▸hg⟩,fun h=>⟨h.subl (List.sublist_cons_self ..),⟨h.lo _ (List.mem_cons_self ..) R rfl,(h.get (List.mem_cons_self ..)).2⟩,fun⟨f,hf,hg⟩=>(List.pairwise_cons.1 h.ap).1 f hf R rfl hg⟩⟩
    rcases List.mem_cons.1 hf with rfl|hf
    . exact .inr hg
    exact .inl ⟨f,hf,hg⟩
  rw[e];exact(h R).out (hs.cons _)⟩
theorem sx4{α:Type}[hα:Nonempty α]{f:α->Value}{l':α->List Ft}(hg:Wants ops o a)(hs2:∀x,f0.Sublist (l' x))(h1:∀w,SS V fs w->Does P (fun u w'=> ∃x,u=f x/\SS V (l' x) w') ((execOp a.eval o).run P w))(h:∀x,Sx P V ops Q f0 ks rest (l' x) (a.put o.dst (f x))):Sx P V ops Q f0 (4::ks) (o::rest) fs a:=⟨fun hs=>by
  show nStep _ _ _ _ _ _ _ _ _
  unfold nStep;rw[if_pos hg];exact⟨α,hα,f,fun x=>⟨Own (l' x),SS V (l' x)⟩,fun x=>gdS (hs2 x),fun e=>absurd e (by decide),fun w hw=>(h1 w hw).mono fun u w' ⟨x,e,h4⟩=>⟨x,e,fun e=>absurd e (by decide),fun e=>absurd e (by decide),fun e=>absurd rfl e,h4⟩,fun x=>(h x).out (hs2 x)⟩⟩
theorem sx5{α:Type}[hα:Nonempty α]{f:α->Value}{l':α->List Ft}(hg:Wants ops o a)(hs2:∀x,f0.Sublist (l' x))(h1:∀w,SS V fs w->Does P (fun u w'=> ∃x,u=f x/\FrN (Own fs) w w'/\(∀g,Own (l' x) g->Own fs g\/w.heap.size<=g)/\SS V (l' x) w') ((execOp a.eval o).run P w))(h:∀x,Sx P V ops Q f0 ks rest (l' x) (a.put o.dst (f x))):Sx P V ops Q f0 (5::ks) (o::rest) fs a:=⟨fun hs=>by
  show nStep _ _ _ _ _ _ _ _ _
  unfold nStep;rw[if_pos hg];exact⟨α,hα,f,fun x=>⟨Own (l' x),SS V (l' x)⟩,fun x=>gdS (hs2 x),fun e=>absurd e (by decide),fun w hw=>(h1 w hw).mono fun u w' ⟨x,e,h1,h3,h4⟩=>⟨x,e,fun e=>absurd e (by decide),fun _=>h1,fun _=>h3,h4⟩,fun x=>(h x).out (hs2 x)⟩⟩
end
end
section
section
variable {P:Program}{V:World}{ops:Array Oper}{Q:Act->World->Prop}{f0 fs fs':List Ft}{k:Nat}{ks:List Nat}{o:Oper}{rest:List Oper}{a a':Act}{v v0:Value}{R:Nat}{cs:Array Value}{t:TypeId}{f:FuncId}{args:Array Value}
theorem e0(h:Sx P V ops Q f0 ks rest fs a')(hg:Wants ops o a:=by first|exact wants0 rfl|exact wantsg rfl rfl rfl rfl)(h1:∀w,SS V f0 w->Flt v w ((execOp a.eval o).run P w):=by intro w' hK;go_simp;(try go_bits);first|exact⟨rfl,rfl⟩|(rw[if_pos (by omega)];exact⟨rfl,rfl⟩))(ha:a.put o.dst v=a':=by(simp only[mkOf,Act.put,pA,pB,pC,pD,pE])<;>exact rfl):Sx P V ops Q f0 (0::ks) (o::rest) fs a:=sx0 hg h1 (by rw[ha];exact h)
theorem eV(v:Value)(h1:∀w,Flt v w ((execOp a.eval o).run P w))(h:Sx P V ops Q f0 ks rest fs a')(hg:Wants ops o a:=by first|exact wants0 rfl|exact wantsg rfl rfl rfl rfl)(ha:a.put o.dst v=a':=by(simp only[mkOf,Act.put,pA,pB,pC,pD,pE])<;>exact rfl):Sx P V ops Q f0 (0::ks) (o::rest) fs a:=sx0 hg (fun w _=>h1 w) (by rw[ha];exact h)
theorem eN{j d:Nat}{p c:Bool}(h:Sx P V ops Q f0 ks rest fs a')(hg:o.guard=some (j,p):=by rfl)(hd:(ops[j]?).bind (·.dst)=some d:=by rfl)(hv:slotOf a.tmps.toList d=.bool c:=by rfl)(hc:(c==p)=false:=by rfl)(ha:a.put o.dst undef=a':=by(simp only[mkOf,Act.put,pA,pB,pC,pD,pE])<;>exact rfl):Sx P V ops Q f0 (k::ks) (o::rest) fs a:=sxN ((wanted_some hg hd hv).trans hc) (by rw[ha];exact h)
theorem eU{j d:Nat}{p:Bool}(h:Sx P V ops Q f0 ks rest fs a')(hg:o.guard=some (j,p):=by rfl)(hd:(ops[j]?).bind (·.dst)=some d:=by rfl)(hv:slotOf a.tmps.toList d=undef:=by rfl)(ha:a.put o.dst undef=a':=by(simp only[mkOf,Act.put,pA,pB,pC,pD,pE])<;>exact rfl):Sx P V ops Q f0 (k::ks) (o::rest) fs a:=sxN (wanted_undef hg hd hv) (by rw[ha];exact h)
theorem eB{a2:Bool->Act}(e:Bool)(h:∀b,Hid (e=b)->Sx P V ops Q f0 ks rest fs (a2 b))(hg:Wants ops o a:=by first|exact wants0 rfl|exact wantsg rfl rfl rfl rfl)(h1:∀w,Flt (.bool e) w ((execOp a.eval o).run P w):=by intro w';go_simp;(try go_bits);exact⟨by first|rfl|simp,rfl⟩)(ha:∀b,a.put o.dst (.bool b)=a2 b:=by intro b;(simp only[mkOf,Act.put,pA,pB,pC,pD,pE])<;>exact rfl):Sx P V ops Q f0 (0::ks) (o::rest) fs a:=sx0 hg (fun w _=>h1 w) (by rw[ha];exact h e (hid rfl))
theorem eL(hm:bx R (.cells cs t)∈fs)(h:Sx P V ops Q f0 ks rest fs a')(hg:Wants ops o a:=by first|exact wants0 rfl|exact wantsg rfl rfl rfl rfl)(h1:∀w,Has 0 R (.cells cs t) w->Flt v w ((execOp a.eval o).run P w):=by intro w' k;(first|have⟨_,_,_⟩:=k.c3|have⟨_,_⟩:=k.c2|have⟨_,_,_,_⟩:=k.c4|have⟨_,_,_,_,_⟩:=k.c5|have⟨_,_,_,_,_,_⟩:=k.c6|have⟨_,_,_,_,_,_,_⟩:=k.c7|have⟨_,_,_,_,_,_,_,_⟩:=k.c8|have k0:=k.at 0 rfl);go_simp;(try go_bits);exact⟨rfl,rfl⟩)(ha:a.put o.dst v=a':=by(simp only[mkOf,Act.put,pA,pB,pC,pD,pE])<;>exact rfl):Sx P V ops Q f0 (1::ks) (o::rest) fs a:=
  sx1 hg (fun w hw=>Flt.does ⟨rfl,Below.refl _ _⟩ (h1 w (hw.get hm))) (by rw[ha];exact h)
theorem eL0(hm:bx R (.cells cs t)∈f0)(h:Sx P V ops Q f0 ks rest fs a')(hg:Wants ops o a:=by first|exact wants0 rfl|exact wantsg rfl rfl rfl rfl)(h1:∀w,Has 0 R (.cells cs t) w->Flt v w ((execOp a.eval o).run P w):=by intro w' k;(first|have⟨_,_,_⟩:=k.c3|have⟨_,_⟩:=k.c2|have⟨_,_,_,_⟩:=k.c4|have⟨_,_,_,_,_⟩:=k.c5|have⟨_,_,_,_,_,_⟩:=k.c6|have⟨_,_,_,_,_,_,_⟩:=k.c7|have⟨_,_,_,_,_,_,_,_⟩:=k.c8|have k0:=k.at 0 rfl);go_simp;(try go_bits);exact⟨rfl,rfl⟩)(ha:a.put o.dst v=a':=by(simp only[mkOf,Act.put,pA,pB,pC,pD,pE])<;>exact rfl):Sx P V ops Q f0 (0::ks) (o::rest) fs a:=
  sx0 hg (fun w hw=>h1 w (hw.get hm)) (by rw[ha];exact h)
theorem eR{ad:Addr}{u:Value}(hc:∀w,SS V fs w->w.cell? ad=some u)(h:Sx P V ops Q f0 ks rest fs a')(hg:Wants ops o a:=by first|exact wants0 rfl|exact wantsg rfl rfl rfl rfl)(h1:∀w,w.cell? ad=some u->Flt v w ((execOp a.eval o).run P w):=by intro w' c;go_simp;(try go_bits);exact⟨rfl,rfl⟩)(ha:a.put o.dst v=a':=by(simp only[mkOf,Act.put,pA,pB,pC,pD,pE])<;>exact rfl):Sx P V ops Q f0 (1::ks) (o::rest) fs a:=
  sx1 hg (fun w hw=>Flt.does ⟨rfl,Below.refl _ _⟩ (h1 w (hc w hw))) (by rw[ha];exact h)
theorem eR0{ad:Addr}{u:Value}(hc:∀w,SS V f0 w->w.cell? ad=some u)(h:Sx P V ops Q f0 ks rest fs a')(hg:Wants ops o a:=by first|exact wants0 rfl|exact wantsg rfl rfl rfl rfl)(h1:∀w,w.cell? ad=some u->Flt v w ((execOp a.eval o).run P w):=by intro w' c;go_simp;(try go_bits);exact⟨rfl,rfl⟩)(ha:a.put o.dst v=a':=by(simp only[mkOf,Act.put,pA,pB,pC,pD,pE])<;>exact rfl):Sx P V ops Q f0 (0::ks) (o::rest) fs a:=
  sx0 hg (fun w hw=>h1 w (hc w hw)) (by rw[ha];exact h)
theorem eQ(con:∀w,SS V fs w->Calls P f args w (fun e w1=>e=.returned v0/\Below w.heap.size w w1))(h:Sx P V ops Q f0 ks rest fs a')(hv:v0=v:=by rfl)(ho:∀w X,Calls P f args w (fun e w5=> ∃v,e=.returned v/\X v w5)->Does P X ((execOp a.eval o).run P w):=by intro w' X hc;go_simp;(try go_bits);exact hc)(hg:Wants ops o a:=by first|exact wants0 rfl|exact wantsg rfl rfl rfl rfl)(ha:a.put o.dst v=a':=by(simp only[mkOf,Act.put,pA,pB,pC,pD,pE])<;>exact rfl):Sx P V ops Q f0 (1::ks) (o::rest) fs a:=
  sx1 hg (fun w hw=>ho w _ ((con w hw).mono fun e w5 ⟨he,hb⟩=>by subst he;exact⟨_,rfl,hv,hb⟩)) (by rw[ha];exact h)
theorem eC{α:Type}[Nonempty α]{g:α->Value}{l' fs2:α->List Ft}{a2:α->Act}(con:∀w,SS V fs w->Calls P f args w (fun e w1=> ∃x,e=.returned (g x)/\SS w (l' x) w1))(h:∀x,Sx P V ops Q f0 ks rest (fs2 x) (a2 x))(ho:∀w X,Calls P f args w (fun e w5=> ∃v,e=.returned v/\X v w5)->Does P X ((execOp a.eval o).run P w):=by intro w' X hc;go_simp;(try go_bits);exact hc)(hg:Wants ops o a:=by first|exact wants0 rfl|exact wantsg rfl rfl rfl rfl)(ha:∀x,a.put o.dst (g x)=a2 x:=by intro x;(simp only[mkOf,Act.put,pA,pB,pC,pD,pE])<;>exact rfl)(hf:∀x,l' x++fs=fs2 x:=by intro x;(simp only[pD,pE])<;>exact rfl):Sx P V ops Q f0 (2::ks) (o::rest) fs a:=
  sx2 hg (fun w hw=>ho w _ ((con w hw).mono fun e w5 ⟨x,he,hb⟩=>by subst he;exact⟨_,rfl,x,rfl,hb⟩)) (fun x=>by rw[ha,hf];exact h x)
theorem eA{a2:Nat->Act}(obj:Obj)(h:∀R,Sx P V ops Q f0 ks rest (bx R obj::fs) (a2 R))(hg:Wants ops o a:=by first|exact wants0 rfl|exact wantsg rfl rfl rfl rfl)(h1:∀w,(execOp a.eval o).run P w=.ok (.value (mkOf o w.heap.size)) (w.alloc obj):=by intro w';go_simp;rfl)(ha:∀R,a.put o.dst (mkOf o R)=a2 R:=by intro R;(simp only[mkOf,Act.put,pA,pB,pC,pD,pE])<;>exact rfl):Sx P V ops Q f0 (3::ks) (o::rest) fs a:=sx3 (f:=mkOf o) obj hg h1 fun R=>by rw[ha];exact h R
theorem eM{α:Type}[Nonempty α]{g:α->Value}{fs2:α->List Ft}{a2:α->Act}(con:∀w,SS V fs w->Calls P f args w (fun e w1=> ∃x,e=.returned (g x)/\SS V (fs2 x) w1))(h:∀x,Sx P V ops Q f0 ks rest (fs2 x) (a2 x))(hs:∀x,f0.Sublist (fs2 x):=by exact fun _=>List.nil_sublist _)(ho:∀w X,Calls P f args w (fun e w5=> ∃v,e=.returned v/\X v w5)->Does P X ((execOp a.eval o).run P w):=by intro w' X hc;go_simp;(try go_bits);exact hc)(hg:Wants ops o a:=by first|exact wants0 rfl|exact wantsg rfl rfl rfl rfl)(ha:∀x,a.put o.dst (g x)=a2 x:=by intro x;(simp only[mkOf,Act.put,pA,pB,pC,pD,pE])<;>exact rfl):Sx P V ops Q f0 (4::ks) (o::rest) fs a:=
  sx4 hg hs (fun w hw=>ho w _ ((con w hw).mono fun e w5 ⟨x,he,h3⟩=>by subst he;exact⟨_,rfl,x,rfl,h3⟩)) (fun x=>by rw[ha];exact h x)
theorem sxS{i R:Nat}{f1 f2:Ft}(hi:fs[i]?=some f1)(hR:f1.own R)(ho:∀g,f2.own g->f1.own g)(hq:∀w,f1.F w->Qt (some R) w i fs)(hs:f0.Sublist (fs.set i f2))(hg:Wants ops o a)(h1:∀w,SS V fs w->f1.F w->Does P (fun u w'=>u=undef/\(∃o' cs,w'=putAt R o' cs w)/\f2.F w') ((execOp a.eval o).run P w))(h:Sx P V ops Q f0 ks rest (fs.set i f2) (a.put o.dst undef)):Sx P V ops Q f0 (4::ks) (o::rest) fs a:=
  sx4 (α:=Unit) (f:=fun _=>undef) (l':=fun _=>fs.set i f2) hg (fun _=>hs) (fun w hw=>(h1 w hw (hw.get (List.mem_of_getElem? hi))).mono fun u w' ⟨e1,⟨o',cs,e2⟩,e3⟩=>⟨(),e1,by
    subst e2;exact hw.turn hi (put_grown ..) (fun R' e=>by injection e with e;subst e;exact hR) (hq w (hw.get (List.mem_of_getElem? hi))) e3 fun g hg=>.inl (ho g hg)⟩) fun _=>h
theorem eP{c:Value}{l:List Value}(i o':Nat)(cs:List Value)(h:Sx P V ops Q f0 ks rest fs' a')(hi:fs[i]?=some (bx R (.cells (c::l).toArray t)):=by rfl)(hf:fs.set i (bx R (.cells (setL (c::l) o' cs).toArray t))=fs':=by(simp only[setL,pB,pC])<;>exact rfl)(hs:f0.Sublist fs':=by exact List.nil_sublist _)(hq:OzL i fs\/OkL (rkV c) i fs:=by first|(refine .inl ?_;(repeat (first|exact trivial|(show OzA _;assumption)|refine⟨rfl,?_⟩))<;>fail)|(refine .inr ?_;(repeat (first|exact trivial|(show OkA _ _;assumption)|refine⟨rfl,?_⟩))<;>fail))(hg:Wants ops o a:=by first|exact wants0 rfl|exact wantsg rfl rfl rfl rfl)
    (h1:∀w,Has 0 R (.cells (c::l).toArray t) w->Does P (fun u w'=>u=undef/\w'=putAt R o' cs w) ((execOp a.eval o).run P w):=by intro w' k;(first|have⟨_,_,_⟩:=k.c3|have⟨_,_⟩:=k.c2|have⟨_,_,_,_⟩:=k.c4|have⟨_,_,_,_,_⟩:=k.c5|have⟨_,_,_,_,_,_⟩:=k.c6|have⟨_,_,_,_,_,_,_⟩:=k.c7|have⟨_,_,_,_,_,_,_,_⟩:=k.c8|have k0:=k.at 0 rfl);have f:=k.fz;go_simp;exact⟨rfl,rfl⟩) (ha:a.put o.dst undef=a':=by(simp only[mkOf,Act.put,pA,pB,pC,pD,pE])<;>exact rfl):Sx P V ops Q f0 (4::ks) (o::rest) fs a:=
  sxS (f2:=bx R (.cells (setL (c::l) o' cs).toArray t)) hi rfl (fun _ h=>h) (fun w k=>hq.elim qtZ fun hk=>qtN (fun R' e=>by injection e with e;subst e;exact hdIs_of (base:=0) k) hk) (by rw[hf];exact hs) hg (fun w _ k=>(h1 w k).mono fun u w' ⟨e1,e2⟩=>by subst e2;exact⟨e1,⟨_,_,rfl⟩,has_put k o' cs (Below.refl _ _)⟩) (by rw[hf,ha];exact h)
theorem eWI {g n c j : Nat}{xs:List Int}{y:Int}(i:Nat)(hj:j<xs.length)(h:Sx P V ops Q f0 ks rest fs' a')(hi:fs[i]?=some (rO intK t (some ⟨g,0,none⟩) n c xs):=by rfl)(hf:fs.set i (rO intK t (some ⟨g,0,none⟩) n c (xs.set j y))=fs':=by(simp only[pB,pC])<;>exact rfl)(hs:f0.Sublist fs':=by exact List.nil_sublist _)(hq:OzL i fs\/OkL 1 i fs:=by first|(refine .inl ?_;(repeat (first|exact trivial|(show OzA _;assumption)|refine⟨rfl,?_⟩))<;>fail)|(refine .inr ?_;(repeat (first|exact trivial|(show OkA _ _;assumption)|refine⟨rfl,?_⟩))<;>fail))(hg:Wants ops o a:=by first|exact wants0 rfl|exact wantsg rfl rfl rfl rfl)
    (h1:∀w u,w.cell? ⟨g,j,none⟩=some u->(∀o,w.frozen? ⟨g,o,none⟩=false)->Does P (fun u w'=>u=undef/\w'=w.setCell ⟨g,j,none⟩ (.int .i64 y)) ((execOp a.eval o).run P w):=by intro w' u c f;go_simp;exact⟨rfl,rfl⟩) (ha:a.put o.dst undef=a':=by(simp only[mkOf,Act.put,pA,pB,pC,pD,pE])<;>exact rfl):Sx P V ops Q f0 (4::ks) (o::rest) fs a:=
  sxS (R:=g) (f2:=rO intK t (some ⟨g,0,none⟩) n c (xs.set j y)) hi rfl (fun _ h=>h) (fun w k=>hq.elim qtZ fun hk=>qtN (fun R' e=>by injection e with e;subst e;exact OwV.hd k (List.ne_nil_of_length_pos (by omega)) (fun{_ _ _ _} h hu=>by cases h;cases hu;rfl)) hk) (by rw[hf];exact hs) hg (fun w _ k=>by
    obtain⟨u,hu⟩:=OwV.some_cell k hj (j:=0) (by decide)
    refine (h1 w u (by have:j*intK.sz+0=j:=by show j*1+0=j;omega
                       rwa [this]at hu) (OwV.fz k)).mono fun u w' ⟨e1,e2⟩=>?_
    have e3:w'=putAt g (j*intK.sz) [.int .i64 y] w:=by rw[show j*intK.sz=j by show j*1=j;omega];exact e2
    subst e3;exact⟨e1,⟨_,_,rfl⟩,OwV.put k rfl hj _ (Below.refl _ _)⟩) (by rw[hf,ha];exact h)
theorem frN_grown{w w':World}{b:Option Nat}{l:List Ft}(hg:w.grownBy w' b)(hb:∀R,b=some R->Own l R):FrN (Own l) w w':=fun R hR hn=>hg.block R hR fun e=>hn (hb R e.symm)
theorem sxG{α:Type}[Nonempty α]{i:Nat}{f1:Ft}{g:α->Value}{f2:α->Ft}{b:Option Nat}(hi:fs[i]?=some f1)(hR:∀R,b=some R->f1.own R)(hq:∀w,f1.F w->Qt b w i fs)(hs:∀x,f0.Sublist (fs.set i (f2 x)))(hg:Wants ops o a)(h1:∀w,SS V fs w->f1.F w->Does P (fun u w'=> ∃x,u=g x/\w.grownBy w' b/\(∀g,(f2 x).own g->f1.own g\/w.heap.size<=g)/\(f2 x).F w') ((execOp a.eval o).run P w))(h:∀x,Sx P V ops Q f0 ks rest (fs.set i (f2 x)) (a.put o.dst (g x))):Sx P V ops Q f0 (5::ks) (o::rest) fs a:=
  sx5 (l':=fun x=>fs.set i (f2 x)) hg hs (fun w hw=>by
    have hm:=List.mem_of_getElem? hi;refine(h1 w hw (hw.get hm)).mono fun u w' ⟨x,e1,e2,e3,e4⟩=>⟨x,e1,frN_grown e2 fun R e=>⟨f1,hm,hR R e⟩,fun g ⟨f,hf,hg⟩=>?_,hw.turn hi e2 hR (hq w (hw.get hm)) e4 e3⟩
    rcases List.mem_or_eq_of_mem_set hf with hf|rfl
    . exact .inl ⟨f,hf,hg⟩
    exact(e3 g hg).imp (fun h=>⟨f1,hm,h⟩) id) h
theorem app_doesS{α:Type}{K:EK α}[OwnK K]{q p:Option Addr}{n d m c bytes:Nat}{tt uu u':TypeId}{xs ys:List α}{z:Value}{w:World}{s x:Operand}(ho:o.op=.call {callee:=.builtin .append,args:=#[s,x],argTypes:=#[tt,uu]})(ht:P.underlying tt=some (.slice t))(hu:P.underlying uu=some (.slice u'))(hinf:(P.info? t).map (fun i=>(i.zero,i.size,i.bytes))=some (some z,K.sz,bytes))(hzs:z.cells.size=K.sz)
    (hs:a.eval s=.slice q n d) (hx:a.eval x=.slice p m c) (h63:xs.length+ys.length<=maxLen) (hbytes:(xs.length+ys.length)*bytes<=140737488355328) (how:OwV K t 0 w (.slice q n d) xs) (hok:∀g,ob q=some g->K.Free\/NoHd K.S g w) (hsrc:SlV K w (.slice p m c) ys):
    Does P (fun u w'=> ∃y:Sl,u=.slice y.p y.l y.c/\w.grownBy w' (ob q)/\(∀g,ob y.p=some g->ob q=some g\/w.heap.size<=g)/\OwV K t 0 w' (.slice y.p y.l y.c) (xs++ys)) ((execOp a.eval o).run P w):=
  (app_does ho ht hu hinf hzs hs hx h63 hbytes (Nat.zero_le _) ⟨how,hok,hsrc⟩).mono fun u w' ⟨c1,c2,c3⟩=>by
    obtain⟨r,e,rfl,_⟩:=c1.sh;rw[ob_eq]at c3;exact⟨⟨r,_,e⟩,rfl,c2,fun g hg=>c3.elim (fun h=>.inl (h▸hg)) fun h=>.inr (by rw[h]at hg;injection hg with hg;omega),c1⟩
theorem SS.one1{α:Type}{K:EK α}{V w:World}{cs:List Value}{x:α}{ty:TypeId}(h:SS V fs w)(hm:bx R (.cells cs.toArray ty)∈fs)(hr:K.R w cs x):SlV K w (.slice (some ⟨R,0,none⟩) 1 1) [x]:=.one (h.box hm) hr (Nat.le_refl 1) (by decide)
theorem SS.made{α:Type}{K:EK α}[OwnK K]{V w:World}{x:α}{zs:List Value}{R n:Nat}(h:SS V (bx R (.cells (madeCells zs.toArray (n*K.sz)) t)::fs) w)(hx:∀w:World,K.R w zs x)(hn:n<=maxLen):SS V (rO K t (some ⟨R,0,none⟩) n n (List.replicate n x)::fs) w:=by
  have hb:=h.box (List.mem_cons_self ..);have hl:zs.length=K.sz:=K.len (hx w);refine h.repl (f':=rO K t (some ⟨R,0,none⟩) n n (List.replicate n x)) ⟨List.replicate n zs,⟨by simp,fun k cs y c1 c2=>?_⟩,?_⟩ fun g e=>(Option.some.inj e).symm
  . have e1:=(List.mem_replicate.1 (List.mem_of_getElem? c1)).2;have e2:=(List.mem_replicate.1 (List.mem_of_getElem? c2)).2;subst e1;subst e2;exact hx w
  have e:(madeCells zs.toArray (n*K.sz)).toList=(List.replicate n zs).flatten:=by rw[<-hl];exact made_flat zs n (by have:=K.pos;omega)
  rw[<-e,List.length_replicate];refine⟨by rw[Array.length_toList];exact size_madeCells _ _,.inr ⟨R,n,_,rfl,Nat.zero_le _,hb.2,Nat.le_refl _,hn,size_madeCells _ _,?_⟩⟩;rw[List.take_of_length_le (by rw[Array.length_toList];exact Nat.le_of_eq (size_madeCells _ _))]
theorem eMk{α:Type}{K:EK α}[OwnK K]{x:α}{zs:List Value}{z:Value}{bytes:Nat}{tt:TypeId}{l1 l2:Operand}{a2:Nat->Act}{vi:Int}(n:Nat)(_hx:∀w:World,K.R w zs x)(hz:z.cells=zs.toArray)(hinf:(P.info? t).map (fun i=>(i.zero,i.size,i.bytes))=some (some z,K.sz,bytes))(hn:n*K.sz<=16777216)(hb:bytes<=100000)(h:∀g,Sx P V ops Q f0 ks rest (bx g (.cells (madeCells zs.toArray (n*K.sz)) t)::fs) (a2 g))(ho:o.op=.makeSlice tt l1 l2:=by rfl)(ht:P.underlying tt=some (.slice t):=by first|rfl|kernel_rfl)(he1:a.eval l1=.int .i64 vi:=by rfl)(he2:a.eval l2=.int .i64 vi:=by rfl)(hv:vi=(n:Int):=by rfl)(hg:Wants ops o a:=by first|exact wants0 rfl|exact wantsg rfl rfl rfl rfl)(ha:∀g:Nat,a.put o.dst (.slice (some ⟨g,0,none⟩) n n)=a2 g:=by intro x;(simp only[mkOf,Act.put,pA,pB,pC,pD,pE])<;>exact rfl):Sx P V ops Q f0 (3::ks) (o::rest) fs a:=
  sx3 (f:=fun g=>.slice (some ⟨g,0,none⟩) n n) (.cells (madeCells zs.toArray (n*K.sz)) t) hg (fun w=>by
    have hn1:n<=16777216:=Nat.le_trans (Nat.le_mul_of_pos_right n K.pos) hn;obtain⟨i0,hi,hz0,hz1,hz2⟩:=info_parts hinf;subst hz2;have e1:i0.bytes*n<=100000*16777216:=Nat.mul_le_mul hb hn1;have e2:((i0.bytes*n:Nat):Int)<=281474976710656:=by omega
    rw[Int.natCast_mul]at e2;have hr:=run_make (P:=P) w tt t i0 z ht hi hz0 .i64 .i64 n n (by omega) (Int.le_refl _) e2 (by omega);rw[hz,hz1]at hr;unfold execOp;simp only[ho,Sem.run_bind,Sem.run_pure,he1,he2,hv,hr,Result.andThen_ok,Int.toNat_natCast]) fun g=>by rw[ha];exact h g
theorem eX0(hc:∀w,SS V f0 w->Has 0 R (.cells cs t) w)(h:Sx P V ops Q f0 ks rest fs a')(hg:Wants ops o a:=by first|exact wants0 rfl|exact wantsg rfl rfl rfl rfl)(h1:∀w,Has 0 R (.cells cs t) w->Flt v w ((execOp a.eval o).run P w):=by intro w' k;(first|have⟨_,_,_⟩:=k.c3|have⟨_,_⟩:=k.c2|have⟨_,_,_,_⟩:=k.c4|have⟨_,_,_,_,_⟩:=k.c5|have⟨_,_,_,_,_,_⟩:=k.c6|have⟨_,_,_,_,_,_,_⟩:=k.c7|have⟨_,_,_,_,_,_,_,_⟩:=k.c8|have k0:=k.at 0 rfl);go_simp;(try go_bits);exact⟨rfl,rfl⟩)(ha:a.put o.dst v=a':=by(simp only[mkOf,Act.put,pA,pB,pC,pD,pE])<;>exact rfl):Sx P V ops Q f0 (0::ks) (o::rest) fs a:=
  sx0 hg (fun w hw=>h1 w (hc w hw)) (by rw[ha];exact h)
end
section
variable {V w:World}{l l':List Ft}{F a b c d e f g h:Ft}
theorem sK2(h:l'.Sublist l):(F::l').Sublist (F::l):=h.cons_cons _
theorem sC2(h:l'.Sublist l):l'.Sublist (F::l):=h.cons _
theorem sZ2:([]:List Ft).Sublist []:=.slnil
theorem SS.up1(k:SS V (a::b::l) w):SS V (b::a::l) w:=k.perm (.swap _ _ _)
theorem up_cons{l l':List Ft}(h:l.Perm (F::l')):(a::l).Perm (F::a::l'):=(h.cons a).trans (.swap _ _ _)
theorem SS.up2(k:SS V (a::b::c::l) w):SS V (c::a::b::l) w:=k.perm (up_cons (up_cons (.refl _)))
theorem SS.up3(k:SS V (a::b::c::d::l) w):SS V (d::a::b::c::l) w:=k.perm (up_cons (up_cons (up_cons (.refl _))))
theorem SS.up4(k:SS V (a::b::c::d::e::l) w):SS V (e::a::b::c::d::l) w:=k.perm (up_cons (up_cons (up_cons (up_cons (.refl _)))))
theorem SS.up5(k:SS V (a::b::c::d::e::f::l) w):SS V (f::a::b::c::d::e::l) w:=k.perm (up_cons (up_cons (up_cons (up_cons (up_cons (.refl _))))))
theorem SS.up6(k:SS V (a::b::c::d::e::f::g::l) w):SS V (g::a::b::c::d::e::f::l) w:=k.perm (up_cons (up_cons (up_cons (up_cons (up_cons (up_cons (.refl _)))))))
theorem SS.up7(k:SS V (a::b::c::d::e::f::g::h::l) w):SS V (h::a::b::c::d::e::f::g::l) w:=k.perm (up_cons (up_cons (up_cons (up_cons (up_cons (up_cons (up_cons (.refl _))))))))
end
end
section
def nF(v:Value)(n:Nat):Ft:=pF [0] (fun w=>NatV w v n) (fun h hb=>h.below hb) (fun h hn=>nat_spare h hn)
def vF(v:Value)(n:Nat):Ft:=pF [1] (fun w=>RefV w v n) (fun h hb=>h.below hb) (fun h hn=>ref_spare h hn)
theorem NatV.sl{w:World}{v:Value}{n:Nat}(h:NatV w v n):∃p l c,v=.agg #[.slice p l c]:=by
  rcases h with⟨_,e⟩|⟨_,g,c,e,_⟩
  . exact⟨_,_,_,e⟩
  exact⟨_,_,_,e⟩
section
variable {V w:World}{l:List Ft}{v:Value}{n m:Nat}{P:Program}{f:FuncId}{args:Array Value}{r:Value->Value}{r2:Value->Value->Value}
theorem SS.nf(h:SS V l w)(hm:nF v n∈l):NatV w v n:=h.get hm
theorem SS.vf(h:SS V l w)(hm:vF v n∈l):RefV w v n:=h.get hm
theorem nat_S(h:Calls P f args w fun e w'=> ∃y,e=.returned (r y)/\NatV w' y n/\Below w.heap.size w w'):Calls P f args w fun e w'=> ∃x:Sl,e=.returned (r (.agg #[.slice x.p x.l x.c]))/\SS w [nF (.agg #[.slice x.p x.l x.c]) n] w':=h.mono fun e w' ⟨y,h1,h2,h3⟩=>by
  obtain⟨p,l,c,rfl⟩:=h2.sl;exact⟨⟨p,l,c⟩,h1,((SS.start w).step h3).fact (nF _ _) h2⟩
theorem nat2_S(h:Calls P f args w fun e w'=> ∃y z,e=.returned (r2 y z)/\NatV w' y n/\NatV w' z m/\Below w.heap.size w w'):Calls P f args w fun e w'=> ∃x:Duo Sl Sl,e=.returned (r2 (.agg #[.slice x.a.p x.a.l x.a.c]) (.agg #[.slice x.b.p x.b.l x.b.c]))/\SS w [nF (.agg #[.slice x.a.p x.a.l x.a.c]) n,nF (.agg #[.slice x.b.p x.b.l x.b.c]) m] w':=h.mono fun e w' ⟨y,z,h1,h2,h4,h3⟩=>by
  obtain⟨p,l,c,rfl⟩:=h2.sl;obtain⟨q,k,d,rfl⟩:=h4.sl;exact⟨⟨⟨p,l,c⟩,⟨q,k,d⟩⟩,h1,(((SS.start w).step h3).fact (nF _ _) h4).fact (nF _ _) h2⟩
theorem ref_V(h:Calls P f args w fun e w'=> ∃y,e=.returned (r y)/\RefV w' y n/\Below w.heap.size w w'):Calls P f args w fun e w'=> ∃x:Duo (Option Addr) Nat,e=.returned (r (.slice x.a (digs B6 n).length x.b))/\SS w [vF (.slice x.a (digs B6 n).length x.b) n] w':=h.mono fun e w' ⟨y,h1,h2,h3⟩=>by
  obtain⟨p,c,rfl⟩:=h2.slr;exact⟨⟨p,c⟩,h1,((SS.start w).step h3).fact (vF _ _) h2⟩
theorem ref2_V(h:Calls P f args w fun e w'=> ∃y z,e=.returned (r2 y z)/\RefV w' y n/\RefV w' z m/\Below w.heap.size w w'):Calls P f args w fun e w'=> ∃x:Duo (Duo (Option Addr) Nat) (Duo (Option Addr) Nat),e=.returned (r2 (.slice x.a.a (digs B6 n).length x.a.b) (.slice x.b.a (digs B6 m).length x.b.b))/\SS w [vF (.slice x.a.a (digs B6 n).length x.a.b) n,vF (.slice x.b.a (digs B6 m).length x.b.b) m] w':=h.mono fun e w' ⟨y,z,h1,h2,h4,h3⟩=>by
  obtain⟨p,c,rfl⟩:=h2.slr;obtain⟨q,d,rfl⟩:=h4.slr;exact⟨⟨⟨p,c⟩,⟨q,d⟩⟩,h1,(((SS.start w).step h3).fact (vF _ _) h4).fact (vF _ _) h2⟩
end
section
variable {V w:World}{l:List Ft}{v:Value}{x:Rat}{P:Program}{f:FuncId}{args:Array Value}{r:Value->Value}
end
end
section
def qF(v:Value)(x:Rat):Ft:=pF [0] (fun w=>RatV w v x) (fun h hb=>h.below hb) (fun h hn=>rat_spare h hn)
section
variable {P:Program}{f:FuncId}{args:Array Value}{w:World}{q:Rat}{c:Int}
theorem rat_S(h:Calls P f args w fun e w'=> ∃y0,e=.returned y0/\RatV w' y0 q/\Below w.heap.size w w'):Calls P f args w fun e w'=> ∃x:Duo Sl Sl,e=.returned (.agg #[.bool (isN q),.slice x.a.p x.a.l x.a.c,.slice x.b.p x.b.l x.b.c])/\SS w [qF (.agg #[.bool (isN q),.slice x.a.p x.a.l x.a.c,.slice x.b.p x.b.l x.b.c]) q] w':=h.mono fun e w' ⟨y0,h1,h2,h3⟩=>by
  have h2':=h2;obtain⟨p,l,c,p',m,d,rfl,h4,h5⟩:=h2;exact⟨⟨⟨p,l,c⟩,⟨p',m,d⟩⟩,h1,((SS.start w).step h3).fact (qF _ _) h2'⟩
theorem rat2_S(h:Calls P f args w fun e w'=> ∃y0,e=.returned (.tuple #[y0,.int .i64 c])/\RatV w' y0 q/\Below w.heap.size w w'):Calls P f args w fun e w'=> ∃x:Duo Sl Sl,e=.returned (.tuple #[.agg #[.bool (isN q),.slice x.a.p x.a.l x.a.c,.slice x.b.p x.b.l x.b.c],.int .i64 c])/\SS w [qF (.agg #[.bool (isN q),.slice x.a.p x.a.l x.a.c,.slice x.b.p x.b.l x.b.c]) q] w':=h.mono fun e w' ⟨y0,h1,h2,h3⟩=>by
  have h2':=h2;obtain⟨p,l,c,p',m,d,rfl,h4,h5⟩:=h2;exact⟨⟨⟨p,l,c⟩,⟨p',m,d⟩⟩,h1,((SS.start w).step h3).fact (qF _ _) h2'⟩
end
section
variable {V w:World}{l:List Ft}{v:Value}{x:Rat}
theorem SS.q(h:SS V l w)(hm:qF v x∈l):RatV w v x:=h.get hm
end
theorem refR_cells{w:World}{a b c:Value}{x:Rat}(h:RefR w (.agg #[a,b,c]) x):a=.bool (isN x)/\(∃p n m,b=.slice p n m)/\ ∃p n m,c=.slice p n m:=by
  obtain⟨nv,dv,e,h1,h2⟩:=h
  injection e with e
  injection e with e
  injection e with e1 e
  injection e with e2 e
  injection e with e3
  subst e2;subst e3;obtain⟨p,n,m,e4⟩:=h1.sl;obtain⟨q,n',m',e5⟩:=h2.sl;exact⟨e1,⟨p,n,m,e4⟩,q,n',m',e5⟩
def rF(v:Value)(x:Rat):Ft:=pF [1] (fun w=>RefR w v x) (fun h hb=>h.below hb) (fun h hn=>refr_spare h hn)
section
variable {P:Program}{f:FuncId}{args:Array Value}{w:World}{q:Rat}{c:Int}
theorem ref_S(h:Calls P f args w fun e w'=> ∃y0,e=.returned y0/\RefR w' y0 q/\Below w.heap.size w w'):Calls P f args w fun e w'=> ∃x:Duo Sl Sl,e=.returned (.agg #[.bool (isN q),.slice x.a.p x.a.l x.a.c,.slice x.b.p x.b.l x.b.c])/\SS w [rF (.agg #[.bool (isN q),.slice x.a.p x.a.l x.a.c,.slice x.b.p x.b.l x.b.c]) q] w':=h.mono fun e w' ⟨y0,h1,h2,h3⟩=>by
  have h2':=h2;obtain⟨nv,dv,rfl,h4,h5⟩:=h2;obtain⟨p,l,c,rfl⟩:=h4.sl;obtain⟨p',m,d,rfl⟩:=h5.sl;exact⟨⟨⟨p,l,c⟩,⟨p',m,d⟩⟩,h1,((SS.start w).step h3).fact (rF _ _) h2'⟩
theorem ref2_S(h:Calls P f args w fun e w'=> ∃y0,e=.returned (.tuple #[y0,.int .i64 c])/\RefR w' y0 q/\Below w.heap.size w w'):Calls P f args w fun e w'=> ∃x:Duo Sl Sl,e=.returned (.tuple #[.agg #[.bool (isN q),.slice x.a.p x.a.l x.a.c,.slice x.b.p x.b.l x.b.c],.int .i64 c])/\SS w [rF (.agg #[.bool (isN q),.slice x.a.p x.a.l x.a.c,.slice x.b.p x.b.l x.b.c]) q] w':=h.mono fun e w' ⟨y0,h1,h2,h3⟩=>by
  have h2':=h2;obtain⟨nv,dv,rfl,h4,h5⟩:=h2;obtain⟨p,l,c,rfl⟩:=h4.sl;obtain⟨p',m,d,rfl⟩:=h5.sl;exact⟨⟨⟨p,l,c⟩,⟨p',m,d⟩⟩,h1,((SS.start w).step h3).fact (rF _ _) h2'⟩
end
theorem refR0(w:World):RefR w (.agg #[.bool false,.slice none 0 0,.slice none 0 0]) 0:=⟨_,_,rfl,RefV.zero w,RefV.zero w⟩
theorem SS.rq{V w:World}{l:List Ft}{v:Value}{x:Rat}(h:SS V l w)(hm:rF v x∈l):RefR w v x:=h.get hm
end
section
theorem u64_nm(n:Nat):∃z:Nat,∃b:Bool,Hid (b=true->z=n/\n<18446744073709551616)/\Hid (decide (n<18446744073709551616)=b)/\Hid (u64V n=.tuple #[.int .u64 (z:Int),.bool b]):=by
  refine⟨if n<18446744073709551616 then n else 0,decide (n<18446744073709551616),hid fun h=>?_,hid rfl,hid ?_⟩
  . have h2:=of_decide_eq_true h;exact⟨if_pos h2,h2⟩
  unfold u64V;split<;>rfl
theorem gcd_st{x y:Nat}(h:y≠0):Nat.gcd y (rem0 x y)=Nat.gcd x y:=by
  unfold rem0;rw[if_neg h,Nat.gcd_comm y, <-Nat.gcd_rec,Nat.gcd_comm]
theorem gcd_st2(x y:Nat):Nat.gcd y (x%y)=Nat.gcd x y:=by rw[Nat.gcd_comm y, <-Nat.gcd_rec,Nat.gcd_comm]
theorem rem0_len{x y L:Nat}(_hx:(digs B32 x).length<=L)(hy:(digs B32 y).length<=L):(digs B32 (rem0 x y)).length<=L:=by
  unfold rem0
  split
  . first|exact hx|exact hy|(rw[digs_zero];exact Nat.zero_le _)
  exact Nat.le_trans (digs_mono (Nat.le_of_lt (Nat.mod_lt _ (by omega)))) hy
set_option maxRecDepth 100000 in
theorem gcd_q(v0:Value)(v1:Value)(n:Nat)(m:Nat)(w:World)(h0:NatV w v0 n)(h1:NatV w v1 m)(hn:(digs B32 n).length<=100000)(hm:(digs B32 m).length<=100000):
    Calls Tryz.prog 141 #[v0,v1] w fun e w'=> ∃y0,e=.returned y0/\NatV w' y0 (Nat.gcd n m)/\Below w.heap.size w w':=by
  obtain⟨p_h0,l_h0,c_h0,rfl⟩:=h0.sl;obtain⟨p_h1,l_h1,c_h1,rfl⟩:=h1.sl;have hK:=SS.start w;refine Calls.hide (fun Q0 hQ0=>?_);go_enter Tryz.func141,Tryz.ntmps141;go_upto_region 0 with(fail);refine wp_region_T [3,3,3] hK ?_;clear hK;refine eA (.cells #[.slice p_h0 l_h0 c_h0] 68) (fun R1=>?_);refine eA (.cells #[.slice p_h1 l_h1 c_h1] 68) (fun R2=>?_);refine eA (.cells #[.slice none 0 0] 68) (fun R3=>?_);refine sxEnd (fun W4 hK=>?_);replace hK:=hK.fact (nF (.agg #[.slice p_h0 l_h0 c_h0]) n) (h0.below hK.old);replace hK:=hK.fact (nF (.agg #[.slice p_h1 l_h1 c_h1]) m) (h1.below hK.old);go_wp2_with fail;go_loopg [] (m) (fun gk0 wl=> ∃(x:Nat) (y:Nat) (pa:Option Addr) (la:Nat) (ca:Nat) (pb:Option Addr) (lb:Nat) (cb:Nat),Hid (Nat.gcd x y=Nat.gcd n m)/\((digs B32 x).length<=100000)/\((digs B32 y).length<=100000)/\Hid (gk0=y)/\SS w ([nF (.agg #[.slice pb lb cb]) y,nF (.agg #[.slice pa la ca]) x,bx R3 (.cells #[.slice none 0 0] 68),bx R2 (.cells #[.slice pb lb cb] 68),bx R1 (.cells #[.slice pa la ca] 68)]) wl)
  case atStart=>exact⟨n,m,p_h0,l_h0,c_h0,p_h1,l_h1,c_h1,hid rfl,hn,hm,hid rfl,hK⟩
  clear hK;obtain⟨x,y,pa,la,ca,pb,lb,cb,h_g,hx,hy,hgk5,hK⟩:=hrel;generalize wr=W6 at hK⊢;go_upto_region 1 with(fail);refine wp_region_T [1,1,0] hK ?_;clear hK;refine eL m3 ?_;obtain⟨b1,hb1⟩:=nmB (y==0);refine eQ (v:=.bool b1) (fun w k=>isZero_any _ _ w (k.nf m0)) ?_ (hv:=by rw[hb1.out]);refine e0 ?_;refine sxEnd (fun W7 hK=>?_)
  cases b1
  . --
   go_upto_region 2 with(fail);refine wp_region_T [1,1,0,0,0,0,0] hK ?_;clear hK;refine eL m4 ?_;obtain⟨z1,b2,hz1,hb2,hb2e⟩:=u64_nm x;refine eQ (fun w k=>(by have q:=uint64_any _ _ w (k.nf m1);rw[hb2e.out]at q;exact q)) ?_
   iterate 5 refine e0 ?_
   refine sxEnd (fun W8 hK=>?_);go_upto_region 3 with(fail);refine wp_region_T [1,1,0,0,0,0,0] hK ?_;clear hK;refine eL m3 ?_;obtain⟨z2,b3,hz2,hb3,hb3e⟩:=u64_nm y;refine eQ (fun w k=>(by have q:=uint64_any _ _ w (k.nf m0);rw[hb3e.out]at q;exact q)) ?_
   iterate 5 refine e0 ?_
   refine sxEnd (fun W9 hK=>?_);go_upto_region 4 with(fail);refine wp_region_T [0,0,0,0] hK ?_;clear hK
   iterate 2 refine e0 ?_
   cases b2
   . --
    refine eN ?_;refine e0 ?_;refine sxEnd (fun W10 hK=>?_);go_upto_region 8 with(fail);refine wp_region_T [1,1,2,0,0,0,0,3,3,4,4,0] hK ?_;clear hK;refine eL m4 ?_;refine eL m3 ?_;refine eC (fun w k=>nat2_S (dm_any _ _ _ _ w (k.nf m1) (k.nf m0) (by omega) (by omega))) (fun x13=>?_);obtain⟨⟨p11,l11,c11⟩,⟨p12,l12,c12⟩⟩:=x13;dsimp only
    iterate 4 refine e0 ?_
    refine eA (.cells #[.slice none 0 0] 68) (fun R14=>?_);refine eA (.cells #[.slice none 0 0] 68) (fun R15=>?_);refine eP 1 0 [.slice p11 l11 c11] ?_;refine eP 0 0 [.slice p12 l12 c12] ?_;refine e0 ?_;refine sxEnd (fun W16 hK=>?_);go_upto_region 9 with(fail);refine wp_region_S _ [1,0,4,4] hK ?_ (sK2 (sK2 (sK2 (sK2 (sK2 (sK2 (sK2 (sC2 (sC2 sZ2)))))))));clear hK;refine eL m7 ?_;refine eL0 m0 ?_;refine eP 8 0 [.slice pb lb cb] ?_ (hs:=(sK2 (sK2 (sK2 (sK2 (sK2 (sK2 (sK2 (sC2 (sC2 sZ2))))))))));refine eP 7 0 [.slice p12 l12 c12] ?_ (hs:=(sK2 (sK2 (sK2 (sK2 (sK2 (sK2 (sK2 (sC2 (sC2 sZ2))))))))));refine sxEnd (fun W17 hK=>?_)
    (try go_wp2)
    go_roundg ((rem0 x y))
    case measure=>rw[hgk5.out];(have q:=hb1.out;simp at q;unfold rem0;rw[if_neg q];exact Nat.mod_lt _ (by omega))
    case rel=>exact⟨y,rem0 x y,pb,lb,cb,p12,l12,c12,hid ((gcd_st (by have q:=hb1.out;simpa using q)).trans h_g.out),hy,(rem0_len hx hy),hid rfl,(hK.subl (sC2 (sC2 (sC2 (sK2 (sK2 (sC2 (sR))))))))⟩
   iterate 2 refine e0 ?_
   refine sxEnd (fun W18 hK=>?_)
   cases b3
   . --
    go_upto_region 8 with(fail);refine wp_region_T [1,1,2,0,0,0,0,3,3,4,4,0] hK ?_;clear hK;refine eL m4 ?_;refine eL m3 ?_;refine eC (fun w k=>nat2_S (dm_any _ _ _ _ w (k.nf m1) (k.nf m0) (by omega) (by omega))) (fun x21=>?_);obtain⟨⟨p19,l19,c19⟩,⟨p20,l20,c20⟩⟩:=x21;dsimp only
    iterate 4 refine e0 ?_
    refine eA (.cells #[.slice none 0 0] 68) (fun R22=>?_);refine eA (.cells #[.slice none 0 0] 68) (fun R23=>?_);refine eP 1 0 [.slice p19 l19 c19] ?_;refine eP 0 0 [.slice p20 l20 c20] ?_;refine e0 ?_;refine sxEnd (fun W24 hK=>?_);go_upto_region 9 with(fail);refine wp_region_S _ [1,0,4,4] hK ?_ (sK2 (sK2 (sK2 (sK2 (sK2 (sK2 (sK2 (sC2 (sC2 sZ2)))))))));clear hK;refine eL m7 ?_;refine eL0 m0 ?_;refine eP 8 0 [.slice pb lb cb] ?_ (hs:=(sK2 (sK2 (sK2 (sK2 (sK2 (sK2 (sK2 (sC2 (sC2 sZ2))))))))));refine eP 7 0 [.slice p20 l20 c20] ?_ (hs:=(sK2 (sK2 (sK2 (sK2 (sK2 (sK2 (sK2 (sC2 (sC2 sZ2))))))))));refine sxEnd (fun W25 hK=>?_)
    (try go_wp2)
    go_roundg ((rem0 x y))
    case measure=>rw[hgk5.out];(have q:=hb1.out;simp at q;unfold rem0;rw[if_neg q];exact Nat.mod_lt _ (by omega))
    case rel=>exact⟨y,rem0 x y,pb,lb,cb,p20,l20,c20,hid ((gcd_st (by have q:=hb1.out;simpa using q)).trans h_g.out),hy,(rem0_len hx hy),hid rfl,(hK.subl (sC2 (sC2 (sC2 (sK2 (sK2 (sC2 (sR))))))))⟩
   obtain⟨e9,hlx⟩:=hz1.out rfl;replace e9:=e9.symm;subst e9;obtain⟨e9,hly⟩:=hz2.out rfl;replace e9:=e9.symm;subst e9;go_wp2_with fail;go_loopw [5,7] (fun s5 s7 wl=> ∃(i:Nat) (j:Nat),s5=.int .u64 (i:Int)/\s7=.int .u64 (j:Int)/\(i<18446744073709551616)/\(j<18446744073709551616)/\Hid (Nat.gcd i j=Nat.gcd n m)/\SS w ([nF (.agg #[.slice pb lb cb]) y,nF (.agg #[.slice pa la ca]) x,bx R3 (.cells #[.slice none 0 0] 68),bx R2 (.cells #[.slice pb lb cb] 68),bx R1 (.cells #[.slice pa la ca] 68)]) wl) (fun s5 s7 _=>(intOf s7).toNat)
   case atStart=>exact⟨x,y,rfl,rfl,hlx,hly,hid h_g.out,hK⟩
   clear hK;obtain⟨i,j,rfl,rfl,hi,hj,h_i,hK⟩:=hrel;generalize wr=W26 at hK⊢;go_upto_region 5 with(fail);refine wp_region_T [0,0] hK ?_;clear hK;refine e0 ?_;refine eB (((j:Int)) !=0) (fun b4 hb4=>?_);refine sxEnd (fun W27 hK=>?_)
   cases b4
   . --
    go_upto_region 7 with(fail);refine wp_region_T [0,2,4] hK ?_;clear hK;refine e0 ?_;refine eC (fun w k=>nat_S (of_any i w (by omega))) (fun x29=>?_);obtain⟨p28,l28,c28⟩:=x29;dsimp only;refine eP 3 0 [.slice p28 l28 c28] ?_;refine sxEnd (fun W30 hK=>?_);have c90:=(hK.box m3).at 0 rfl;go_wp2;exact bodyPost_ret (v:=.agg #[.slice p28 l28 c28]) (by simp[results,Tryz.results141,go_sem,c90]) rfl (qo hQ0 ⟨_,rfl,((congrArg (NatV _ _) (by have q:=hb4.out;simp at q;subst q;rw[<-h_i.out,Nat.gcd_zero_right])).mp (hK.nf m0)),hK.old⟩)
   go_upto_region 6 with(fail);refine wp_region_S _ [0,0,0,0,0,0] hK ?_ (sR);clear hK
   iterate 3 refine e0 ?_
   refine eV (.int .u64 ((i%j:Nat):Int)) (fun w'=>by go_simp;(try go_bits);have q:=hb4.out;simp at q;first|exact⟨rfl,rfl⟩|(rw[if_neg (by omega)];exact⟨rfl,rfl⟩)|(simp[q];try omega)) ?_
   iterate 2 refine e0 ?_
   refine sxEnd (fun W31 hK=>?_)
   (try go_wp2)
   go_roundw
   case rel=>exact⟨j,i%j,(by first|rfl|go_num),(by first|rfl|go_num),hj,(Nat.lt_of_le_of_lt (Nat.mod_le _ _) hi),hid ((gcd_st2 i j).trans h_i.out),hK⟩
   case measure=>(have q9:i%j<j:=Nat.mod_lt _ (by have q:=hb4.out;simp at q;omega));show((i%j:Nat):Int).toNat<((j:Nat):Int).toNat;omega
  go_upto_region 10 with(fail);refine wp_region_T [1,4] hK ?_;clear hK;refine eL m4 ?_;refine eP 2 0 [.slice pa la ca] ?_;refine sxEnd (fun W32 hK=>?_);have c90:=(hK.box m2).at 0 rfl;go_wp2;exact bodyPost_ret (v:=.agg #[.slice pa la ca]) (by simp[results,Tryz.results141,go_sem,c90]) rfl (qo hQ0 ⟨_,rfl,((congrArg (NatV _ _) (by have q:=hb1.out;simp at q;subst q;rw[<-h_g.out,Nat.gcd_zero_right])).mp (hK.nf m1)),hK.old⟩)
end
section
def sgnd(s:Bool)(n:Nat)(t:Bool)(m:Nat):Bool × Nat:=if s=t then(s,n+m)else if m<=n then(s,n-m)else(t,m-n)
theorem sgnd_eq(s:Bool)(n:Nat)(t:Bool)(m:Nat):sgn (sgnd s n t m).1 (sgnd s n t m).2=sgn s n+sgn t m:=by
  unfold sgnd sgn
  cases s<;>cases t<;>simp<;>first|omega|(split<;>simp<;>omega)
theorem whole_t{W:World}{p:Option Addr}{l c n:Nat}{s b:Bool}(hb:b=(s&&decide (n≠0)))(h:NatV W (.agg #[.slice p l c]) n):RatV W (.agg #[.bool b,.slice p l c,.slice none 0 0]) (ofS s n 1):=
  RatV.make (by decide) hb (by simp) (by simp) h (NatV.zero W)
set_option maxRecDepth 100000 in
theorem whole_q(v1:Value)(s:Bool)(n:Nat)(w:World)(h1:NatV w v1 n):
    Calls Tryz.prog 58 #[.bool s,v1] w fun e w'=> ∃y0,e=.returned y0/\RatV w' y0 (ofS s n 1)/\Below w.heap.size w w':=by
  obtain⟨p_h1,l_h1,c_h1,rfl⟩:=h1.sl;have hK:=SS.start w;refine Calls.hide (fun Q0 hQ0=>?_);go_enter Tryz.func58,Tryz.ntmps58;go_upto_region 0 with(fail);refine wp_region_T [3,3] hK ?_;clear hK;refine eA (.cells #[.slice p_h1 l_h1 c_h1] 68) (fun R1=>?_);refine eA (.cells #[.bool false,.slice none 0 0,.slice none 0 0] 70) (fun R2=>?_);refine sxEnd (fun W3 hK=>?_);go_upto_region 1 with(fail);refine wp_region_S _ [0,0,0,1,0,0,0,0,4] hK ?_ (sC2 (sR));clear hK
  iterate 2 refine e0 ?_
  cases s
  . --
   iterate 3 refine eN ?_
   refine e0 ?_;refine eL0 m0 ?_;refine e0 ?_;refine eP 0 0 [.bool false,.slice p_h1 l_h1 c_h1,.slice none 0 0] ?_ (hs:=(sC2 (sR)));refine sxEnd (fun W4 hK=>?_);have⟨c90,c91,c92⟩:=(hK.box m0).c3;go_wp2;exact bodyPost_ret (v:=.agg #[.bool false,.slice p_h1 l_h1 c_h1,.slice none 0 0]) (by simp[results,Tryz.results58,go_sem,c90,c91,c92]) rfl (qo hQ0 ⟨_,rfl,(whole_t rfl (h1.below hK.old)),hK.old⟩)
  refine eL0 m0 ?_;obtain⟨b1,hb1⟩:=nmB (n==0);refine eQ (v:=.bool b1) (fun w k=>isZero_any _ _ w (h1.below k.old)) ?_ (hv:=by rw[hb1.out])
  iterate 2 refine e0 ?_
  refine eL0 m0 ?_;refine e0 ?_;refine eP 0 0 [.bool (!b1),.slice p_h1 l_h1 c_h1,.slice none 0 0] ?_ (hs:=(sC2 (sR)));refine sxEnd (fun W5 hK=>?_);have⟨c90,c91,c92⟩:=(hK.box m0).c3;go_wp2;exact bodyPost_ret (v:=.agg #[.bool (!b1),.slice p_h1 l_h1 c_h1,.slice none 0 0]) (by simp[results,Tryz.results58,go_sem,c90,c91,c92]) rfl (qo hQ0 ⟨_,rfl,(whole_t (by have q:=hb1.out;revert q;cases b1<;>simp) (h1.below hK.old)),hK.old⟩)
set_option maxRecDepth 100000 in
theorem sign_any(v0:Value)(x:Rat)(w:World)(h0:RatV w v0 x):
    Calls Tryz.prog 34 #[v0] w fun e w'=>e=.returned (.int .i64 (sgQ x))/\Below w.heap.size w w':=by
  have h0_0:=h0;obtain⟨p_h0,l_h0,c_h0,q_h0,m_h0,d_h0,rfl,h0_1,h0_2⟩:=h0;have hK:=SS.start w;obtain⟨b0,hb0⟩:∃b,Hid (isN x=b):=⟨_,hid rfl⟩;rw[hb0.out]at h0_0⊢;refine Calls.hide (fun Q0 hQ0=>?_);go_enter Tryz.func34,Tryz.ntmps34;go_upto_region 0 with(fail);refine wp_region_T [3,0] hK ?_;clear hK;refine eA (.cells #[.bool b0,.slice p_h0 l_h0 c_h0,.slice q_h0 m_h0 d_h0] 70) (fun R1=>?_);refine e0 ?_;refine sxEnd (fun W2 hK=>?_);go_upto_region 1 with(fail);refine wp_region_T [0,1,1] hK ?_;clear hK;refine e0 ?_;refine eL m0 ?_;obtain⟨b1,hb1⟩:=nmB (x.num.natAbs==0);refine eQ (v:=.bool b1) (fun w k=>isZero_any _ _ w (h0_1.below k.old)) ?_ (hv:=by rw[hb1.out]);refine sxEnd (fun W3 hK=>?_)
  cases b1
  . --
   go_upto_region 3 with(fail);refine wp_region_T [0,1] hK ?_;clear hK;refine e0 ?_;refine eL m0 ?_;refine sxEnd (fun W4 hK=>?_)
   cases b0
   . --
    go_wp2
    try go_ret
    show Q0 (.returned (.int .i64 1)) _
    exact(qo hQ0 ⟨(by unfold sgQ;rw[if_neg (by simpa using hb1.out),hb0.out];rfl),hK.old⟩)
   go_wp2
   try go_ret
   show Q0 (.returned (.int .i64 (-1))) _
   exact(qo hQ0 ⟨(by unfold sgQ;rw[if_neg (by simpa using hb1.out),hb0.out];rfl),hK.old⟩)
  go_wp2
  try go_ret
  show Q0 (.returned (.int .i64 0)) _
  exact(qo hQ0 ⟨(by rw[sgQ_zero.2 ((natAbs_zero x).1 (by simpa using hb1.out))]),hK.old⟩)
set_option maxRecDepth 100000 in
theorem den_any(v0:Value)(x:Rat)(w:World)(h0:RatV w v0 x):
    Calls Tryz.prog 114 #[v0] w fun e w'=> ∃y0,e=.returned y0/\NatV w' y0 (x.den)/\Below w.heap.size w w':=by
  have h0_0:=h0;obtain⟨p_h0,l_h0,c_h0,q_h0,m_h0,d_h0,rfl,h0_1,h0_2⟩:=h0;have hK:=SS.start w;refine Calls.hide (fun Q0 hQ0=>?_);go_enter Tryz.func114,Tryz.ntmps114;go_upto_region 0 with(fail);refine wp_region_T [3,3] hK ?_;clear hK;refine eA (.cells #[.bool (isN x),.slice p_h0 l_h0 c_h0,.slice q_h0 m_h0 d_h0] 70) (fun R1=>?_);refine eA (.cells #[.slice none 0 0] 68) (fun R2=>?_);refine sxEnd (fun W3 hK=>?_);go_upto_region 1 with(fail);refine wp_region_T [0,1,1] hK ?_;clear hK;refine e0 ?_;refine eL m1 ?_;obtain⟨b1,hb1⟩:=nmB ((den0 x)==0);refine eQ (v:=.bool b1) (fun w k=>isZero_any _ _ w (h0_2.below k.old)) ?_ (hv:=by rw[hb1.out]);refine sxEnd (fun W4 hK=>?_)
  cases b1
  . --
   go_upto_region 3 with(fail);refine wp_region_T [0,1,4] hK ?_;clear hK;refine e0 ?_;refine eL m1 ?_;refine eP 0 0 [.slice q_h0 m_h0 d_h0] ?_;refine sxEnd (fun W5 hK=>?_);have c90:=(hK.box m0).at 0 rfl;go_wp2;exact bodyPost_ret (v:=.agg #[.slice q_h0 m_h0 d_h0]) (by simp[results,Tryz.results114,go_sem,c90]) rfl (qo hQ0 ⟨_,rfl,((congrArg (NatV _ _) (by have q:den0 x≠0:=(by simpa using hb1.out);unfold den0 at q⊢;split<;>simp_all)).mp (h0_2.below hK.old)),hK.old⟩)
  go_upto_region 2 with(fail);refine wp_region_T [2,4] hK ?_;clear hK;refine eC (fun w k=>nat_S (of_any 1 w (by omega))) (fun x7=>?_);obtain⟨p6,l6,c6⟩:=x7;dsimp only;refine eP 1 0 [.slice p6 l6 c6] ?_;refine sxEnd (fun W8 hK=>?_);have c90:=(hK.box m1).at 0 rfl;go_wp2;exact bodyPost_ret (v:=.agg #[.slice p6 l6 c6]) (by simp[results,Tryz.results114,go_sem,c90]) rfl (qo hQ0 ⟨_,rfl,((congrArg (NatV _ _) ((den0_zero x).1 (by simpa using hb1.out)).symm).mp (hK.nf m0)),hK.old⟩)
set_option maxRecDepth 100000 in
theorem qtimes_any(v0:Value)(v1:Value)(n:Nat)(z:Nat)(w:World)(h0:NatV w v0 n)(h1:NatV w v1 z)(hl:(digs B32 n).length+(digs B32 z).length<=1000000):
    Calls Tryz.prog 112 #[v0,v1] w fun e w'=> ∃y0,e=.returned y0/\NatV w' y0 (n*one0 z)/\Below w.heap.size w w':=by
  obtain⟨p_h0,l_h0,c_h0,rfl⟩:=h0.sl;obtain⟨p_h1,l_h1,c_h1,rfl⟩:=h1.sl;have hK:=SS.start w;refine Calls.hide (fun Q0 hQ0=>?_);go_enter Tryz.func112,Tryz.ntmps112;go_upto_region 0 with(fail);refine wp_region_T [3,3,3] hK ?_;clear hK;refine eA (.cells #[.slice p_h0 l_h0 c_h0] 68) (fun R1=>?_);refine eA (.cells #[.slice p_h1 l_h1 c_h1] 68) (fun R2=>?_);refine eA (.cells #[.slice none 0 0] 68) (fun R3=>?_);refine sxEnd (fun W4 hK=>?_);go_upto_region 1 with(fail);refine wp_region_T [1,1] hK ?_;clear hK;refine eL m1 ?_;obtain⟨b1,hb1⟩:=nmB (z==0);refine eQ (v:=.bool b1) (fun w k=>isZero_any _ _ w (h1.below k.old)) ?_ (hv:=by rw[hb1.out]);refine sxEnd (fun W5 hK=>?_)
  cases b1
  . --
   go_upto_region 3 with(fail);refine wp_region_T [1,1,2,4] hK ?_;clear hK;refine eL m2 ?_;refine eL m1 ?_;refine eC (fun w k=>nat_S (mul_any _ _ _ _ w (h0.below k.old) (h1.below k.old) (by omega))) (fun x7=>?_);obtain⟨p6,l6,c6⟩:=x7;dsimp only;refine eP 1 0 [.slice p6 l6 c6] ?_;refine sxEnd (fun W8 hK=>?_);have c90:=(hK.box m1).at 0 rfl;go_wp2;exact bodyPost_ret (v:=.agg #[.slice p6 l6 c6]) (by simp[results,Tryz.results112,go_sem,c90]) rfl (qo hQ0 ⟨_,rfl,((congrArg (NatV _ _) (by unfold one0;rw[if_neg (by simpa using hb1.out)])).mp (hK.nf m0)),hK.old⟩)
  go_upto_region 2 with(fail);refine wp_region_T [1,4] hK ?_;clear hK;refine eL m2 ?_;refine eP 0 0 [.slice p_h0 l_h0 c_h0] ?_;refine sxEnd (fun W9 hK=>?_);have c90:=(hK.box m0).at 0 rfl;go_wp2;exact bodyPost_ret (v:=.agg #[.slice p_h0 l_h0 c_h0]) (by simp[results,Tryz.results112,go_sem,c90]) rfl (qo hQ0 ⟨_,rfl,((congrArg (NatV _ _) (by unfold one0;rw[if_pos (by simpa using hb1.out),Nat.mul_one])).mp (h0.below hK.old)),hK.old⟩)
theorem sg_ge{n m:Nat}{z:Int}(h:cmpN n m=z)(h2:0<=z):m<=n:=by subst h;unfold cmpN at h2;split at h2<;>omega
theorem sg_lt{n m:Nat}{z:Int}(h:cmpN n m=z)(h2:z<0):¬m<=n:=by subst h;unfold cmpN at h2;split at h2<;>(try split at h2)<;>omega
set_option maxRecDepth 100000 in
theorem signed_any(v1:Value)(v3:Value)(s:Bool)(n:Nat)(t:Bool)(m:Nat)(w:World)(h1:NatV w v1 n)(h3:NatV w v3 m)(l1:(digs B32 n).length<1000000)(l2:(digs B32 m).length<1000000):
    Calls Tryz.prog 111 #[.bool s,v1,.bool t,v3] w fun e w'=> ∃y,e=.returned (.tuple #[.bool (sgnd s n t m).1,y])/\NatV w' y (sgnd s n t m).2/\Below w.heap.size w w':=by
  obtain⟨p_h1,l_h1,c_h1,rfl⟩:=h1.sl;obtain⟨p_h3,l_h3,c_h3,rfl⟩:=h3.sl;have hK:=SS.start w;refine Calls.hide (fun Q0 hQ0=>?_);go_enter Tryz.func111,Tryz.ntmps111;go_upto_region 0 with(fail);refine wp_region_T [3,3,0,3] hK ?_;clear hK;refine eA (.cells #[.slice p_h1 l_h1 c_h1] 68) (fun R1=>?_);refine eA (.cells #[.slice p_h3 l_h3 c_h3] 68) (fun R2=>?_);refine e0 ?_;refine eA (.cells #[.slice none 0 0] 68) (fun R3=>?_);refine sxEnd (fun W4 hK=>?_);go_upto_region 1 with(fail);refine wp_region_T [0,0,0] hK ?_;clear hK
  iterate 2 refine e0 ?_
  refine eB (s==t) (fun b1 hb1=>?_);refine sxEnd (fun W5 hK=>?_)
  cases b1
  . --
   go_upto_region 3 with(fail);refine wp_region_T [1,1,1,0] hK ?_;clear hK;refine eL m2 ?_;refine eL m1 ?_;obtain⟨z1,hz1⟩:=nmI (cmpN n m);refine eQ (v:=.int .i64 z1) (fun w k=>cmp_any _ _ _ _ w (h1.below k.old) (h3.below k.old) (by omega) (by omega)) ?_ (hv:=by rw[hz1.out]);refine eB (decide (0<=z1)) (fun b2 hb2=>?_);refine sxEnd (fun W6 hK=>?_)
   cases b2
   . --
    have q_b2:=nle hb2;go_upto_region 6 with(fail);refine wp_region_T [1,1,2,0,0,0,3,4,0] hK ?_;clear hK;refine eL m1 ?_;refine eL m2 ?_;obtain⟨z2,hz2⟩:=nmI (if m<n then 2 else 0);refine eC (fun w k=>(by have q:=nat_S (sub_any _ _ _ _ w (h3.below k.old) (h1.below k.old) (by omega) (by omega));rw[hz2.out]at q;exact q)) (fun x8=>?_);obtain⟨p7,l7,c7⟩:=x8;dsimp only
    iterate 3 refine e0 ?_
    refine eA (.cells #[.slice none 0 0] 68) (fun R9=>?_);refine eP 0 0 [.slice p7 l7 c7] ?_;refine e0 ?_;refine sxEnd (fun W10 hK=>?_);go_upto_region 7 with(fail);refine wp_region_S _ [0,0,0,4] hK ?_ (sK2 (sK2 (sC2 (sR))));clear hK;refine e0 ?_;refine eL0 m0 ?_;refine e0 ?_;refine eP 2 0 [.slice p7 l7 c7] ?_ (hs:=(sK2 (sK2 (sC2 (sR)))));refine sxEnd (fun W11 hK=>?_);have c90:=(hK.box m2).at 0 rfl;go_wp2;exact bodyPost_ret (v:=.tuple #[.bool t,.agg #[.slice p7 l7 c7]]) (by simp[results,Tryz.results111,go_sem,c90]) rfl (qo hQ0 ⟨_,(by rw[show sgnd s n t m=(t,m-n)from by unfold sgnd;rw[if_neg (by simpa using hb1.out),if_neg (sg_lt hz1.out q_b2)]]),((congrArg (NatV _ _) (by rw[show sgnd s n t m=(t,m-n)from by unfold sgnd;rw[if_neg (by simpa using hb1.out),if_neg (sg_lt hz1.out q_b2)]])).mp (hK.nf m1)),hK.old⟩)
   have q_b2:=ylt hb2;go_upto_region 4 with(fail);refine wp_region_T [1,1,2,0,0,0,3,4,0] hK ?_;clear hK;refine eL m2 ?_;refine eL m1 ?_;obtain⟨z2,hz2⟩:=nmI (if n<m then 2 else 0);refine eC (fun w k=>(by have q:=nat_S (sub_any _ _ _ _ w (h1.below k.old) (h3.below k.old) (by omega) (by omega));rw[hz2.out]at q;exact q)) (fun x13=>?_);obtain⟨p12,l12,c12⟩:=x13;dsimp only
   iterate 3 refine e0 ?_
   refine eA (.cells #[.slice none 0 0] 68) (fun R14=>?_);refine eP 0 0 [.slice p12 l12 c12] ?_;refine e0 ?_;refine sxEnd (fun W15 hK=>?_);go_upto_region 5 with(fail);refine wp_region_S _ [0,0,0,4] hK ?_ (sK2 (sK2 (sC2 (sR))));clear hK;refine e0 ?_;refine eL0 m0 ?_;refine e0 ?_;refine eP 2 0 [.slice p12 l12 c12] ?_ (hs:=(sK2 (sK2 (sC2 (sR)))));refine sxEnd (fun W16 hK=>?_);have c90:=(hK.box m2).at 0 rfl;go_wp2;exact bodyPost_ret (v:=.tuple #[.bool s,.agg #[.slice p12 l12 c12]]) (by simp[results,Tryz.results111,go_sem,c90]) rfl (qo hQ0 ⟨_,(by rw[show sgnd s n t m=(s,n-m)from by unfold sgnd;rw[if_neg (by simpa using hb1.out),if_pos (sg_ge hz1.out q_b2)]]),((congrArg (NatV _ _) (by rw[show sgnd s n t m=(s,n-m)from by unfold sgnd;rw[if_neg (by simpa using hb1.out),if_pos (sg_ge hz1.out q_b2)]])).mp (hK.nf m1)),hK.old⟩)
  go_upto_region 2 with(fail);refine wp_region_T [0,1,1,2,0,4] hK ?_;clear hK;refine e0 ?_;refine eL m2 ?_;refine eL m1 ?_;refine eC (fun w k=>nat_S (add_any _ _ _ _ w (h1.below k.old) (h3.below k.old) (by omega) (by omega))) (fun x18=>?_);obtain⟨p17,l17,c17⟩:=x18;dsimp only;refine e0 ?_;refine eP 1 0 [.slice p17 l17 c17] ?_;refine sxEnd (fun W19 hK=>?_);have c90:=(hK.box m1).at 0 rfl;go_wp2;exact bodyPost_ret (v:=.tuple #[.bool s,.agg #[.slice p17 l17 c17]]) (by simp[results,Tryz.results111,go_sem,c90]) rfl (qo hQ0 ⟨_,(by rw[show sgnd s n t m=(s,n+m)from by unfold sgnd;rw[if_pos (by simpa using hb1.out)]]),((congrArg (NatV _ _) (by rw[show sgnd s n t m=(s,n+m)from by unfold sgnd;rw[if_pos (by simpa using hb1.out)]])).mp (hK.nf m0)),hK.old⟩)
end
end Go.Proofs.YtjhaedfpigebdaaGreatDoor
