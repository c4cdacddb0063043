/- Law 40: programs whose lists do not fit together. -/

import Derived.Test.YtjhaedfpigebdaaGreatDoorSlM
namespace Go.Proofs.YtjhaedfpigebdaaGreatDoor
open Go.RowKit
open Go.Lib (decDigits)
set_option maxRecDepth 100000 in
theorem btoi_any(w:World)(b:Bool):
    Calls Tryz.prog 31 #[.bool b] w fun e w'=>e=.returned (.int .i64 (if b=true then 1 else 0))/\Below w.heap.size w w':=by
  have hK:=SS.start w;refine Calls.hide (fun Q0 hQ0=>?_);go_enter Tryz.func31,Tryz.ntmps31
  cases b
  . --
   go_wp2
   try go_ret
   show Q0 (.returned (.int .i64 0)) _
   exact(qo hQ0 ⟨(by simp),hK.old⟩)
  go_wp2
  try go_ret
  show Q0 (.returned (.int .i64 1)) _
  exact(qo hQ0 ⟨(by simp),hK.old⟩)
theorem tm2(s:Int): -1<=s.tmod 2/\s.tmod 2<=1:=by
  have h:(s.tmod 2).natAbs=s.natAbs%2:=Int.natAbs_tmod s 2;omega
theorem er_three(P:LPd):vldP P=false\/(vldP P=true/\P.A.length=0)\/(vldP P=true/\1<=P.A.length):=by
  cases h:vldP P with
  |false=>exact .inl rfl
  |true=>exact .inr ((Nat.eq_zero_or_pos P.A.length).imp (fun e=>⟨rfl,e⟩) fun e=>⟨rfl,e⟩)
set_option maxRecDepth 100000 in
set_option maxHeartbeats 400000 in
theorem lpdual_bad(w:World){cp ap bp:Option Addr}{cl cc al ac bl bc:Nat}{P:LPd}(hC:SlV ratK w (.slice cp cl cc) P.c)(hA:SlV rrK w (.slice ap al ac) P.A)(hB:SlV ratK w (.slice bp bl bc) P.b)(hv:vldP P=false)(hn1:P.c.length<=100000)(hn2:P.A.length<=100000)(hn3:P.b.length<=100000):
    Calls Tryz.prog 24 #[.agg #[.slice cp cl cc,.slice ap al ac,.slice bp bl bc]] w fun e w'=>e=.returned (.tuple #[.agg #[.slice none 0 0,.slice none 0 0,.slice none 0 0],.int .i64 1])/\Below w.heap.size w w':=by
  have hK:=SS.start w;have⟨nc1,nc2⟩:=lle hC.one0;have⟨na1,na2⟩:=lle hA.one0;have⟨nb1,nb2⟩:=lle hB.one0;refine Calls.hide (fun Q0 hQ0=>?_);go_enter Tryz.func24,Tryz.ntmps24;go_upto_region 0 with(fail);refine wp_region_T [3,3,0] hK ?_;clear hK;refine eA (.cells #[.slice cp cl cc,.slice ap al ac,.slice bp bl bc] 59) (fun R1=>?_);refine eA (.cells #[.slice none 0 0,.slice none 0 0,.slice none 0 0] 59) (fun R2=>?_);refine e0 ?_;refine sxEnd (fun W3 hK=>?_);go_upto_region 1 with(fail);refine wp_region_T [1,1,0,0,0,0,0,0,0] hK ?_;clear hK;refine eL m1 ?_;refine eQ (fun w k=>(lpvalid_any w (hC.below k.old) (hA.below k.old) (hB.below k.old) (by omega) (by omega) (by omega)).mono fun _ _ q=>by rw[hv]at q;exact q) ?_
  iterate 2 refine e0 ?_
  iterate 4 refine eN ?_
  refine e0 ?_;refine sxEnd (fun W4 hK=>?_);go_upto_region 2 with(fail);refine wp_region_T [0,4,0] hK ?_;clear hK;refine e0 ?_;refine eP 0 0 [.slice none 0 0,.slice none 0 0,.slice none 0 0] ?_;refine e0 ?_;refine sxEnd (fun W5 hK=>?_);have⟨c90,c91,c92⟩:=(hK.box m0).c3;go_wp2;exact bodyPost_ret (v:=.tuple #[.agg #[.slice none 0 0,.slice none 0 0,.slice none 0 0],.int .i64 1]) (by simp[results,Tryz.results24,go_sem,c90,c91,c92]) rfl (qo hQ0 ⟨rfl,hK.old⟩)
set_option maxRecDepth 100000 in
set_option maxHeartbeats 1000000 in
theorem lpErrors_any(w:World){nq:Nat}{mq:Nat}{s0 s1:Int}(hBs:Bas w)(hn0:nq<65536)(hm0:mq<65536)(_h80:Rng8 s0)(_h81:Rng8 s1):
    Calls Tryz.prog 10 #[.int .u16 (nq:Int),.int .u16 (mq:Int),.agg #[.int .i8 s0,.int .i8 s1]] w fun e w'=>e=.returned (.bool true)/\Below w.heap.size w w':=by
  have hK:=SS.start w;obtain⟨n,hn⟩:∃x:Nat,Hid (nq%1100=x):=⟨_,hid rfl⟩;have ln:n<1100:=(by rw[<-hn.out];exact Nat.mod_lt _ (by decide));obtain⟨m,hm⟩:∃x:Nat,Hid (mq%1100=x):=⟨_,hid rfl⟩;have lm:m<1100:=(by rw[<-hm.out];exact Nat.mod_lt _ (by decide));obtain⟨q,hq⟩:∃x:Nat,Hid (n*m=x):=⟨_,hid rfl⟩;have hqn:(n:Int)*(m:Int)=(q:Int):=(by rw[<-hq.out,Int.natCast_mul]);have hql:n*m<=1100*1100:=Nat.mul_le_mul (by omega) (by omega);rw[hq.out]at hql;have hqb0:0<=(n:Int)*(m:Int):=(by rw[hqn];omega);have hqb1:(n:Int)*(m:Int)<=1210000:=(by rw[hqn];omega);replace hqn:=hid hqn;obtain⟨zz,hzz⟩:∃x:Int,Hid (s0.tmod 2=x):=⟨_,hid rfl⟩;have lzz: -1<=zz/\zz<=1:=(by rw[<-hzz.out];exact tm2 _);obtain⟨yy,hyy⟩:∃x:Int,Hid (s1.tmod 2=x):=⟨_,hid rfl⟩;have lyy: -1<=yy/\yy<=1:=(by rw[<-hyy.out];exact tm2 _);obtain⟨kb,hkb⟩:∃x:Nat,Hid (((m:Int)+yy).toNat=x):=⟨_,hid rfl⟩;have lkb:kb<=m+1:=(by rw[<-hkb.out];omega);refine Calls.hide (fun Q0 hQ0=>?_);go_enter Tryz.func10,Tryz.ntmps10;go_upto_region 0 with(fail);refine wp_region_T [3,0] hK ?_;clear hK;refine eA (.cells #[.int .i8 s0,.int .i8 s1] 75) (fun R1=>?_);refine e0 ?_;refine sxEnd (fun W2 hK=>?_);go_upto_region 1 with(fail);refine wp_region_T [1,0] hK ?_;clear hK;refine eQ (fun w k=>awake40_any w (hBs.below k.old)) ?_;refine e0 ?_;refine sxEnd (fun W3 hK=>?_);go_upto_region 3 with(fail);refine wp_region_T [0,0,0,0,0,0,0,0] hK ?_;clear hK;refine e0 ?_;refine eV (.int .u16 (n:Int)) (fun w'=>by go_simp;(try go_bits);refine⟨congrArg _ ?_,rfl⟩;rw[<-hn.out];omega) ?_;refine eV (.int .i64 (n:Int)) (fun w'=>by go_simp;(try go_bits);first|exact⟨rfl,rfl⟩|(refine⟨congrArg _ ?_,rfl⟩;omega)|exact⟨congrArg _ (by simp),rfl⟩) ?_;refine e0 ?_;refine eV (.int .u16 (m:Int)) (fun w'=>by go_simp;(try go_bits);refine⟨congrArg _ ?_,rfl⟩;rw[<-hm.out];omega) ?_;refine eV (.int .i64 (m:Int)) (fun w'=>by go_simp;(try go_bits);first|exact⟨rfl,rfl⟩|(refine⟨congrArg _ ?_,rfl⟩;omega)|exact⟨congrArg _ (by simp),rfl⟩) ?_;refine eV (.int .i64 (q:Int)) (fun w'=>by go_simp;(try go_bits);exact⟨congrArg _ hqn.out,rfl⟩) ?_
  refine eB (decide (3000<((q:Int)))) (fun b1 hb1=>?_);refine sxEnd (fun W4 hK=>?_)
  cases b1
  . --
   have q_b1:=nlt hb1;go_upto_region 5 with(fail);refine wp_region_T [3] hK ?_;clear hK;refine eA (.cells #[.slice none 0 0,.slice none 0 0,.slice none 0 0] 59) (fun R5=>?_);refine sxEnd (fun W6 hK=>?_);replace hK:=hK.fact (rO ratK 70 none 0 0 (List.replicate 0 (((-1):Int):Rat))) OwV.nil (fun _ h=>by cases h);go_wp2_with fail;go_loopw [8] (fun s8 wl=> ∃(i:Nat) (p:Option Addr) (nn:Nat) (c:Nat),s8=.int .i64 (i:Int)/\(i<=n)/\Hid (List.replicate i (((-1):Int):Rat)=[]->p=none)/\SS w ([rO ratK 70 p nn c (List.replicate i (((-1):Int):Rat)),bx R5 (.cells #[.slice p nn c,.slice none 0 0,.slice none 0 0] 59),bx R1 (.cells #[.int .i8 s0,.int .i8 s1] 75)]) wl) (fun s8 _=>n-(intOf s8).toNat)
   case atStart=>exact⟨0,none,0,0,rfl,(by omega),hid (fun _=>rfl),hK⟩
   clear hK;obtain⟨i,p,nn,c,rfl,hi0,h_e,hK⟩:=hrel;generalize wr=W7 at hK⊢;go_upto_region 7 with(fail);refine wp_region_T [0,0,0,0,0] hK ?_;clear hK
   iterate 2 refine e0 ?_
   refine eV (.int .u16 (n:Int)) (fun w'=>by go_simp;(try go_bits);refine⟨congrArg _ ?_,rfl⟩;rw[<-hn.out];omega) ?_;refine eV (.int .i64 (n:Int)) (fun w'=>by go_simp;(try go_bits);first|exact⟨rfl,rfl⟩|(refine⟨congrArg _ ?_,rfl⟩;omega)|exact⟨congrArg _ (by simp),rfl⟩) ?_;refine eB (decide (((i:Int))<((n:Int)))) (fun b2 hb2=>?_);refine sxEnd (fun W8 hK=>?_)
   cases b2
   . --
    have q_b2:=nlt hb2;have hme:i=n:=(by omega);rw[hme]at hK;clear hme;have hnl:=hid (hK.len m0);have hnl1:nn<=n:=(by rw[hnl.out,List.length_replicate];exact Nat.le_refl _);have hnl2:n<=nn:=(by rw[hnl.out,List.length_replicate];exact Nat.le_refl _);replace hK:=hK.fact (rO slcQ 56 none 0 0 ([]:List Sl)) OwV.nil (fun _ h=>by cases h);replace hK:=hK.rs0 ratK 70;go_wp2_with fail;go_loopw [9] (fun s9 wl=> ∃(mi:Nat) (pa:Option Addr) (na:Nat) (ca:Nat) (ss:List Sl),s9=.int .i64 (mi:Int)/\(mi<=m)/\Hid (ss.length=(rowsZ n zz mi).length)/\Hid (ss=[]->pa=none)/\SS w ([rsF ratK 70 ss (rowsZ n zz mi),rO slcQ 56 pa na ca ss,rO ratK 70 p nn c (List.replicate n (((-1):Int):Rat)),bx R5 (.cells #[.slice p nn c,.slice pa na ca,.slice none 0 0] 59),bx R1 (.cells #[.int .i8 s0,.int .i8 s1] 75)]) wl) (fun s9 _=>m-(intOf s9).toNat)
    case atStart=>exact⟨0,none,0,0,[],rfl,(by omega),hid rfl,hid (fun _=>rfl),hK⟩
    clear hK;obtain⟨mi,pa,na,ca,ss,rfl,hmi,h_l,h_a,hK⟩:=hrel;generalize wr=W9 at hK⊢;go_upto_region 11 with(fail);refine wp_region_T [0,0,0,0,0] hK ?_;clear hK
    iterate 2 refine e0 ?_
    refine eV (.int .u16 (m:Int)) (fun w'=>by go_simp;(try go_bits);refine⟨congrArg _ ?_,rfl⟩;rw[<-hm.out];omega) ?_;refine eV (.int .i64 (m:Int)) (fun w'=>by go_simp;(try go_bits);first|exact⟨rfl,rfl⟩|(refine⟨congrArg _ ?_,rfl⟩;omega)|exact⟨congrArg _ (by simp),rfl⟩) ?_;refine eB (decide (((mi:Int))<((m:Int)))) (fun b3 hb3=>?_);refine sxEnd (fun W10 hK=>?_)
    cases b3
    . --
     have q_b3:=nlt hb3;have hme:mi=m:=(by omega);rw[hme]at hK h_l;clear hme;have hal:=hid (hK.len m1);have hal1:na<=m:=(by rw[hal.out,h_l.out,rowsZ_len];exact Nat.le_refl _);have hal2:m<=na:=(by rw[hal.out,h_l.out,rowsZ_len];exact Nat.le_refl _);go_upto_region 14 with(fail);refine wp_region_T [0,1,0,0,1,0,0,0,0,3,0,4] hK ?_;clear hK;refine e0 ?_;refine eL m3 ?_
     iterate 2 refine e0 ?_
     refine eL m4 ?_;refine eV (.int .i8 yy) (fun w'=>by go_simp;(try go_bits);rw[<-hyy.out];first|exact⟨rfl,rfl⟩|exact⟨congrArg _ (by simp),rfl⟩) ?_;refine eV (.int .i64 yy) (fun w'=>by go_simp;(try go_bits);first|exact⟨rfl,rfl⟩|(refine⟨congrArg _ ?_,rfl⟩;omega)|exact⟨congrArg _ (by simp),rfl⟩) ?_;refine eV (.int .i64 ((m:Int)+yy)) (fun w'=>by go_simp;(try go_bits);first|exact⟨rfl,rfl⟩|(refine⟨congrArg _ ?_,rfl⟩;omega)|exact⟨congrArg _ (by simp),rfl⟩) ?_;refine eV (.int .i64 (kb:Int)) (fun w'=>by go_simp;(try go_bits);rw[<-hkb.out];(refine⟨congrArg _ ?_,rfl⟩;omega)) ?_;refine eMk (K:=ratK) (t:=70) (x:=(0:Rat)) kb rat0 rfl infoQ (by show kb*3<=_;omega) (by decide) (fun g11=>?_);refine e0 ?_;refine eP 4 2 [.slice (some ⟨g11,0,none⟩) kb kb] ?_ (hq:=.inr ⟨rfl,rfl,rfl,rfl,rfl,trivial⟩);refine sxEnd (fun W12 hK=>?_);replace hK:=hK.made (K:=ratK) (n:=kb) rat0 (by simp[maxLen];omega);have hlb:=hid (h_l.out);replace hK:=hK.up1;replace hK:=hK.up2;replace hK:=hK.up3;replace hK:=hK.fact (cF (List.length ss=(erP n m kb zz).A.length)) (show List.length _=_ from by rw[h_l.out,rowsZ_len,er_m]);replace hK:SS w (pgF ratK 70 56 ⟨⟨p,nn,c⟩,⟨pa,na,ca⟩,⟨(some ⟨g11,0,none⟩),kb,kb⟩,ss⟩ (erP n m kb zz)::[bx R5 (.cells #[.slice p nn c,.slice pa na ca,.slice (some ⟨g11,0,none⟩) kb kb] 59),bx R1 (.cells #[.int .i8 s0,.int .i8 s1] 75)]) W12:=SS.star.2 hK;obtain⟨hOg13C,hOg13A,hOg13B⟩:=hK.pg m0;dsimp only at hOg13C hOg13A hOg13B;replace hBs:=hBs.below hK.old;have hO15:=hK.box m1;have hO16:=hK.box m2;have hB14:=hK.old;have hKo:=hK.old;clear hK;have hK:=SS.start W12;clear hKo;have⟨hOg13C1,hOg13C2⟩:=lle hOg13C.one0;have⟨hOg13A1,hOg13A2⟩:=lle hOg13A.one0;have⟨hOg13B1,hOg13B2⟩:=lle hOg13B.one0;have en1:=Nat.le_of_eq (er_n (n:=n) (m:=m) (k:=kb) (z:=zz));have en2:=Nat.le_of_eq (er_n (n:=n) (m:=m) (k:=kb) (z:=zz)).symm;have em1:=Nat.le_of_eq (er_m (n:=n) (m:=m) (k:=kb) (z:=zz));have em2:=Nat.le_of_eq (er_m (n:=n) (m:=m) (k:=kb) (z:=zz)).symm;have ek1:=Nat.le_of_eq (er_k (n:=n) (m:=m) (k:=kb) (z:=zz));have ek2:=Nat.le_of_eq (er_k (n:=n) (m:=m) (k:=kb) (z:=zz)).symm;obtain⟨okh,hokh⟩:∃b:Bool,Hid (vldH (erP n m kb zz)=b):=⟨_,hid rfl⟩
     go_upto_region 15 with(fail);go_cut [10]from 9999 to 9999 (fun s10 wl=>s10=.bool okh/\SS W12 ([]) wl)
     case first=>
      go_upto_region 15 with(fail);refine wp_region_T [0,0,0,0,0,0,0,0,0,0,0,0,0,0,0,0,0,0,0,0,0,0,0,0,0,0] hK ?_;clear hK;refine e0 ?_;refine eX0 (fun w k=>hO15.below k.old) ?_;refine e0 ?_;refine eB (decide (1<=((nn:Int)))) (fun b4 hb4=>?_);refine e0 ?_
      cases b4
      . --
       have q_b4:=nle hb4
       iterate 4 refine eN ?_
       iterate 2 refine e0 ?_
       iterate 4 refine eN ?_
       iterate 2 refine e0 ?_
       iterate 7 refine eN ?_
       iterate 2 refine e0 ?_
       refine sxEnd (fun W17 hK=>?_)
       (try go_wp2)
       go_meet
       case rel=>exact⟨(congrArg Value.bool (by rw[<-hokh.out];unfold vldH;have qb1:=hb1.out;(try simp at qb1);have qb2:=hb2.out;(try simp at qb2);have qb3:=hb3.out;(try simp at qb3);have qb4:=hb4.out;(try simp at qb4);simp only[er_n,er_m,er_k];simp;omega)),hK⟩
      have q_b4:=ylt hb4;refine e0 ?_;refine eX0 (fun w k=>hO15.below k.old) ?_;refine e0 ?_;refine eB (decide (((nn:Int))<=1024)) (fun b5 hb5=>?_)
      iterate 2 refine e0 ?_
      cases b5
      . --
       have q_b5:=nle hb5
       iterate 4 refine eN ?_
       iterate 2 refine e0 ?_
       iterate 7 refine eN ?_
       iterate 2 refine e0 ?_
       refine sxEnd (fun W18 hK=>?_)
       (try go_wp2)
       go_meet
       case rel=>exact⟨(congrArg Value.bool (by rw[<-hokh.out];unfold vldH;have qb1:=hb1.out;(try simp at qb1);have qb2:=hb2.out;(try simp at qb2);have qb3:=hb3.out;(try simp at qb3);have qb4:=hb4.out;(try simp at qb4);have qb5:=hb5.out;(try simp at qb5);simp only[er_n,er_m,er_k];simp;omega)),hK⟩
      have q_b5:=ylt hb5;refine e0 ?_;refine eX0 (fun w k=>hO15.below k.old) ?_;refine e0 ?_;refine eB (decide (((na:Int))<=1024)) (fun b6 hb6=>?_)
      iterate 2 refine e0 ?_
      cases b6
      . --
       have q_b6:=nle hb6
       iterate 7 refine eN ?_
       iterate 2 refine e0 ?_
       refine sxEnd (fun W19 hK=>?_)
       (try go_wp2)
       go_meet
       case rel=>exact⟨(congrArg Value.bool (by rw[<-hokh.out];unfold vldH;have qb1:=hb1.out;(try simp at qb1);have qb2:=hb2.out;(try simp at qb2);have qb3:=hb3.out;(try simp at qb3);have qb4:=hb4.out;(try simp at qb4);have qb5:=hb5.out;(try simp at qb5);have qb6:=hb6.out;(try simp at qb6);simp only[er_n,er_m,er_k];simp;omega)),hK⟩
      have q_b6:=ylt hb6;refine e0 ?_;refine eX0 (fun w k=>hO15.below k.old) ?_
      iterate 2 refine e0 ?_
      refine eX0 (fun w k=>hO15.below k.old) ?_;refine e0 ?_;refine eB (((kb:Int))==((na:Int))) (fun b7 hb7=>?_)
      iterate 2 refine e0 ?_
      refine sxEnd (fun W20 hK=>?_)
      (try go_wp2)
      go_meet
      case rel=>exact⟨(congrArg Value.bool (by rw[<-hb7.out, <-hokh.out];unfold vldH;have qb1:=hb1.out;(try simp at qb1);have qb2:=hb2.out;(try simp at qb2);have qb3:=hb3.out;(try simp at qb3);have qb4:=hb4.out;(try simp at qb4);have qb5:=hb5.out;(try simp at qb5);have qb6:=hb6.out;(try simp at qb6);simp only[er_n,er_m,er_k];rw[Bool.eq_iff_iff];simp;omega)),hK⟩
     clear hK;obtain⟨rfl,hK⟩:=hcut;generalize wc=W21 at hK⊢;go_wp2_with fail;go_loopw [10,11] (fun s10 s11 wl=> ∃(mj:Nat) (ob:Bool),s10=.bool ob/\s11=.int .i64 (mj:Int)/\(mj<=m)/\Hid (ob=(okh&&allN (rowP (erP n m kb zz)) mj))/\SS W12 ([]) wl) (fun s10 s11 _=>m-(intOf s11).toNat)
     case atStart=>exact⟨0,okh,rfl,rfl,(by omega),hid (by simp[allN]),hK⟩
     clear hK;obtain⟨mj,ob,rfl,rfl,hmj,h_o,hK⟩:=hrel;generalize wr=W22 at hK⊢;go_upto_region 17 with(fail);refine wp_region_T [0,0,0,0,0] hK ?_;clear hK
     iterate 2 refine e0 ?_
     refine eX0 (fun w k=>hO15.below k.old) ?_;refine e0 ?_;refine eB (decide (((mj:Int))<((na:Int)))) (fun b4 hb4=>?_);refine sxEnd (fun W23 hK=>?_)
     cases b4
     . --
      have q_b4:=nlt hb4;have hvo:vldP (erP n m kb zz)=ob:=(by have q:=h_o.out;have e:mj=m:=(by omega);rw[e]at q;rw[q];unfold vldP;rw[er_m,hokh.out]);rcases er_three (erP n m kb zz)with hv|⟨hv,hz⟩|⟨hv,hz⟩
      . --
       obtain rfl:ob=false:=hvo.symm.trans hv;go_upto_region 20 with(fail);refine wp_region_T [0,1,0,0,0,3,4,0] hK ?_;clear hK;refine eX0 (fun w k=>hO15.below k.old) ?_;refine eQ (fun w k=>lpdual_bad (P:=erP n m kb zz) w (hOg13C.below k.old) (hOg13A.below k.old) (hOg13B.below k.old) hv (by omega) (by omega) (by omega)) ?_
       iterate 3 refine e0 ?_
       refine eA (.cells #[.slice none 0 0,.slice none 0 0,.slice none 0 0] 59) (fun R24=>?_);refine eP 0 0 [.slice none 0 0,.slice none 0 0,.slice none 0 0] ?_;refine e0 ?_;refine sxEnd (fun W25 hK=>?_);go_upto_region 21 with(fail);refine wp_region_T [0,1,0,0,0,0,0,0,0,0,0,0,0,0,0,0,0,0,0,0,0,0,0,0] hK ?_;clear hK;refine eX0 (fun w k=>hO15.below k.old) ?_;refine eQ (fun w k=>(lpvalid_any (P:=erP n m kb zz) w (hOg13C.below k.old) (hOg13A.below k.old) (hOg13B.below k.old) (by omega) (by omega) (by omega)).mono fun _ _ q=>by rw[hv]at q;exact q) ?_;refine e0 ?_;refine eV (.bool false) (fun w'=>by go_simp;(try go_bits);exact⟨rfl,rfl⟩) ?_
       iterate 5 refine e0 ?_
       iterate 4 refine eN ?_
       refine e0 ?_;refine eV (.bool false) (fun w'=>by go_simp;(try go_bits);exact⟨rfl,rfl⟩) ?_
       iterate 9 refine e0 ?_
       refine sxEnd (fun W26 hK=>?_);have hpq:=hid (show(nn:Int)*(na:Int)=(q:Int)from by rw[show((nn:Nat):Int)=(n:Int)from by omega,show((na:Nat):Int)=(m:Int)from by omega];exact hqn.out);have hpb0:0<=(nn:Int)*(na:Int):=(by rw[hpq.out];omega);have hpb1:(nn:Int)*(na:Int)<=1210000:=(by rw[hpq.out];omega);go_upto_region 23 with(fail);refine wp_region_T [0,0,0,0,0,0,0,0,0,0,0] hK ?_;clear hK
       iterate 2 refine e0 ?_
       iterate 8 refine eN ?_
       refine e0 ?_;refine sxEnd (fun W27 hK=>?_);go_upto_region 25 with(fail);refine wp_region_T [0,2,0,0,0,3,4,0] hK ?_;clear hK;refine eX0 (fun w k=>hO15.below k.old) ?_;refine eC (fun w k=>solve_bad (P:=erP n m kb zz) w (hOg13C.below k.old) (hOg13A.below k.old) (hOg13B.below k.old) (by omega) (by omega) (by omega) hv) (fun x29=>?_);obtain⟨⟨s28xp,s28xl,s28xc⟩,⟨s28yp,s28yl,s28yc⟩,⟨s28rp,s28rl,s28rc⟩,⟨s28dp,s28dl,s28dc⟩,⟨s28ep,s28el,s28ec⟩⟩:=x29;dsimp only[RsS.v]
       iterate 3 refine e0 ?_
       refine eA (.cells #[.int .i64 0,.slice none 0 0,.slice none 0 0,.slice none 0 0,.bool false,.slice none 0 0,.slice none 0 0] 80) (fun R30=>?_);refine eP 0 0 [.int .i64 0,.slice s28xp s28xl s28xc,.slice s28yp s28yl s28yc,.slice s28rp s28rl s28rc,.bool (isN (0:Rat)),.slice s28dp s28dl s28dc,.slice s28ep s28el s28ec] ?_;refine e0 ?_;refine sxEnd (fun W31 hK=>?_);go_upto_region 27 with(fail);refine wp_region_T [0,0,0,0,1,0,0,0] hK ?_;clear hK
       iterate 4 refine e0 ?_
       refine eL m0 ?_;refine eV (.bool true) (fun w'=>by go_simp;(try go_bits);exact⟨rfl,rfl⟩) ?_
       iterate 2 refine e0 ?_
       refine sxEnd (fun W32 hK=>?_);go_wp2
       try go_ret
       show Q0 (.returned (.bool true)) _
       exact(qo hQ0 ⟨rfl,hB14.trans (hK.old.mono hB14.size)⟩)
      . --
       obtain rfl:ob=true:=hvo.symm.trans hv;rw[er_m]at hz;go_upto_region 20 with(fail);refine wp_region_T [0,1,0,0,0,3,4,0] hK ?_;clear hK;refine eX0 (fun w k=>hO15.below k.old) ?_;refine eQ (fun w k=>lpdual_no (P:=erP n m kb zz) w (hOg13C.below k.old) (hOg13A.below k.old) (hOg13B.below k.old) hv (vld_ok hv) (by omega) (by omega)) ?_
       iterate 3 refine e0 ?_
       refine eA (.cells #[.slice none 0 0,.slice none 0 0,.slice none 0 0] 59) (fun R33=>?_);refine eP 0 0 [.slice none 0 0,.slice none 0 0,.slice none 0 0] ?_;refine e0 ?_;refine sxEnd (fun W34 hK=>?_);go_upto_region 21 with(fail);refine wp_region_T [0,1,0,0,0,0,0,0,0,0,0,0,0,0,0,0,0,0,0,0,0,0,0,0] hK ?_;clear hK;refine eX0 (fun w k=>hO15.below k.old) ?_;refine eQ (fun w k=>(lpvalid_any (P:=erP n m kb zz) w (hOg13C.below k.old) (hOg13A.below k.old) (hOg13B.below k.old) (by omega) (by omega) (by omega)).mono fun _ _ q=>by rw[hv]at q;exact q) ?_;refine e0 ?_;refine eV (.bool false) (fun w'=>by go_simp;(try go_bits);exact⟨rfl,rfl⟩) ?_
       iterate 6 refine e0 ?_
       refine eX0 (fun w k=>hO15.below k.old) ?_;refine e0 ?_;refine eV (.bool false) (fun w'=>by go_simp;(try go_bits);exact⟨congrArg Value.bool (by simp;omega),rfl⟩) ?_;refine e0 ?_;refine eV (.bool false) (fun w'=>by go_simp;(try go_bits);exact⟨rfl,rfl⟩) ?_
       iterate 9 refine e0 ?_
       refine sxEnd (fun W35 hK=>?_);have hpq:=hid (show(nn:Int)*(na:Int)=(q:Int)from by rw[show((nn:Nat):Int)=(n:Int)from by omega,show((na:Nat):Int)=(m:Int)from by omega];exact hqn.out);have hpb0:0<=(nn:Int)*(na:Int):=(by rw[hpq.out];omega);have hpb1:(nn:Int)*(na:Int)<=1210000:=(by rw[hpq.out];omega);go_upto_region 23 with(fail);refine wp_region_T [0,0,0,0,0,0,0,0,0,0,0] hK ?_;clear hK
       iterate 3 refine e0 ?_
       refine eX0 (fun w k=>hO15.below k.old) ?_
       iterate 2 refine e0 ?_
       refine eX0 (fun w k=>hO15.below k.old) ?_;refine e0 ?_;refine eV (.int .i64 (q:Int)) (fun w'=>by go_simp;(try go_bits);exact⟨congrArg _ hpq.out,rfl⟩) ?_;refine eB (decide (400<((q:Int)))) (fun b5 hb5=>?_);refine e0 ?_;refine sxEnd (fun W36 hK=>?_)
       cases b5
       . --
        have q_b5:=nlt hb5;go_upto_region 25 with(fail);refine wp_region_T [0,2,0,0,0,3,4,0] hK ?_;clear hK;refine eX0 (fun w k=>hO15.below k.old) ?_;refine eC (fun w k=>solve_one (P:=erP n m kb zz) w (hOg13C.below k.old) (hOg13A.below k.old) (hOg13B.below k.old) (by omega) (by omega) (by omega) hv er_lim er_c er_cert) (fun x38=>?_);obtain⟨⟨s37xp,s37xl,s37xc⟩,⟨s37yp,s37yl,s37yc⟩,⟨s37rp,s37rl,s37rc⟩,⟨s37dp,s37dl,s37dc⟩,⟨s37ep,s37el,s37ec⟩⟩:=x38;dsimp only[RsS.v]
        iterate 3 refine e0 ?_
        refine eA (.cells #[.int .i64 0,.slice none 0 0,.slice none 0 0,.slice none 0 0,.bool false,.slice none 0 0,.slice none 0 0] 80) (fun R39=>?_);refine eP 0 0 [.int .i64 1,.slice s37xp s37xl s37xc,.slice s37yp s37yl s37yc,.slice s37rp s37rl s37rc,.bool (isN (0:Rat)),.slice s37dp s37dl s37dc,.slice s37ep s37el s37ec] ?_ (hq:=.inr ⟨rfl,rfl,trivial⟩);refine e0 ?_;refine sxEnd (fun W40 hK=>?_);go_upto_region 28 with(fail);refine wp_region_T [0,0,0,0,1,0,0,0,0,1,1,0,0,0] hK ?_;clear hK
        iterate 4 refine e0 ?_
        refine eL m0 ?_;refine eV (.bool true) (fun w'=>by go_simp;(try go_bits);exact⟨rfl,rfl⟩) ?_
        iterate 3 refine e0 ?_
        refine eL m0 ?_;refine eQ (fun w k=>(sign_any _ _ w (k.q m1)).mono fun _ _ q=>by rw[sgQ_zero.2 rfl]at q;exact q) ?_;refine eV (.bool true) (fun w'=>by go_simp;(try go_bits);exact⟨rfl,rfl⟩) ?_
        iterate 2 refine e0 ?_
        refine sxEnd (fun W41 hK=>?_);go_wp2
        try go_ret
        show Q0 (.returned (.bool true)) _
        exact(qo hQ0 ⟨rfl,hB14.trans (hK.old.mono hB14.size)⟩)
       have q_b5:=ylt hb5;go_wp2
       try go_ret
       show Q0 (.returned (.bool true)) _
       exact(qo hQ0 ⟨rfl,hB14.trans (hK.old.mono hB14.size)⟩)
      obtain rfl:ob=true:=hvo.symm.trans hv;rw[er_m]at hz;go_upto_region 20 with(fail);refine wp_region_T [0,2,0,0,0,3,4,0] hK ?_;clear hK;refine eX0 (fun w k=>hO15.below k.old) ?_;refine eC (fun w k=>lpdual_any (P:=erP n m kb zz) w (hOg13C.below k.old) (hOg13A.below k.old) (hOg13B.below k.old) hv (vld_ok hv) (by omega) (by omega) (by omega)) (fun x42=>?_);obtain⟨⟨g43cp,g43cl,g43cc⟩,⟨g43ap,g43al,g43ac⟩,⟨g43bp,g43bl,g43bc⟩,g43s⟩:=x42;dsimp only[PgR.v]
      iterate 3 refine e0 ?_
      refine eA (.cells #[.slice none 0 0,.slice none 0 0,.slice none 0 0] 59) (fun R44=>?_);refine eP 0 0 [.slice g43cp g43cl g43cc,.slice g43ap g43al g43ac,.slice g43bp g43bl g43bc] ?_;refine e0 ?_;refine sxEnd (fun W45 hK=>?_);go_upto_region 21 with(fail);refine wp_region_T [0,1,0,0,0,0,0,0,0,0,0,0,0,0,0,0,0,0,0,0,0,0,0,0] hK ?_;clear hK;refine eX0 (fun w k=>hO15.below k.old) ?_;refine eQ (fun w k=>(lpvalid_any (P:=erP n m kb zz) w (hOg13C.below k.old) (hOg13A.below k.old) (hOg13B.below k.old) (by omega) (by omega) (by omega)).mono fun _ _ q=>by rw[hv]at q;exact q) ?_;refine e0 ?_;refine eV (.bool false) (fun w'=>by go_simp;(try go_bits);exact⟨rfl,rfl⟩) ?_
      iterate 6 refine e0 ?_
      refine eX0 (fun w k=>hO15.below k.old) ?_;refine e0 ?_;refine eV (.bool true) (fun w'=>by go_simp;(try go_bits);exact⟨congrArg Value.bool (by simp;omega),rfl⟩) ?_;refine e0 ?_;refine eV (.bool false) (fun w'=>by go_simp;(try go_bits);exact⟨rfl,rfl⟩) ?_
      iterate 5 refine e0 ?_
      iterate 2 refine eN ?_
      iterate 2 refine e0 ?_
      refine sxEnd (fun W46 hK=>?_);have hpq:=hid (show(nn:Int)*(na:Int)=(q:Int)from by rw[show((nn:Nat):Int)=(n:Int)from by omega,show((na:Nat):Int)=(m:Int)from by omega];exact hqn.out);have hpb0:0<=(nn:Int)*(na:Int):=(by rw[hpq.out];omega);have hpb1:(nn:Int)*(na:Int)<=1210000:=(by rw[hpq.out];omega);go_upto_region 23 with(fail);refine wp_region_T [0,0,0,0,0,0,0,0,0,0,0] hK ?_;clear hK
      iterate 3 refine e0 ?_
      refine eX0 (fun w k=>hO15.below k.old) ?_
      iterate 2 refine e0 ?_
      refine eX0 (fun w k=>hO15.below k.old) ?_;refine e0 ?_;refine eV (.int .i64 (q:Int)) (fun w'=>by go_simp;(try go_bits);exact⟨congrArg _ hpq.out,rfl⟩) ?_;refine eB (decide (400<((q:Int)))) (fun b5 hb5=>?_);refine e0 ?_;refine sxEnd (fun W47 hK=>?_)
      cases b5
      . --
       have q_b5:=nlt hb5;go_upto_region 25 with(fail);refine wp_region_T [0,2,0,0,0,3,4,0] hK ?_;clear hK;refine eX0 (fun w k=>hO15.below k.old) ?_;refine eC (fun w k=>solve_one (P:=erP n m kb zz) w (hOg13C.below k.old) (hOg13A.below k.old) (hOg13B.below k.old) (by omega) (by omega) (by omega) hv er_lim er_c er_cert) (fun x49=>?_);obtain⟨⟨s48xp,s48xl,s48xc⟩,⟨s48yp,s48yl,s48yc⟩,⟨s48rp,s48rl,s48rc⟩,⟨s48dp,s48dl,s48dc⟩,⟨s48ep,s48el,s48ec⟩⟩:=x49;dsimp only[RsS.v]
       iterate 3 refine e0 ?_
       refine eA (.cells #[.int .i64 0,.slice none 0 0,.slice none 0 0,.slice none 0 0,.bool false,.slice none 0 0,.slice none 0 0] 80) (fun R50=>?_);refine eP 0 0 [.int .i64 1,.slice s48xp s48xl s48xc,.slice s48yp s48yl s48yc,.slice s48rp s48rl s48rc,.bool (isN (0:Rat)),.slice s48dp s48dl s48dc,.slice s48ep s48el s48ec] ?_ (hq:=.inr ⟨rfl,rfl,rfl,trivial⟩);refine e0 ?_;refine sxEnd (fun W51 hK=>?_);go_upto_region 28 with(fail);refine wp_region_T [0,0,0,0,1,0,0,0,0,1,1,0,0,0] hK ?_;clear hK
       iterate 4 refine e0 ?_
       refine eL m0 ?_;refine eV (.bool true) (fun w'=>by go_simp;(try go_bits);exact⟨rfl,rfl⟩) ?_
       iterate 3 refine e0 ?_
       refine eL m0 ?_;refine eQ (fun w k=>(sign_any _ _ w (k.q m1)).mono fun _ _ q=>by rw[sgQ_zero.2 rfl]at q;exact q) ?_;refine eV (.bool true) (fun w'=>by go_simp;(try go_bits);exact⟨rfl,rfl⟩) ?_
       iterate 2 refine e0 ?_
       refine sxEnd (fun W52 hK=>?_);go_wp2
       try go_ret
       show Q0 (.returned (.bool true)) _
       exact(qo hQ0 ⟨rfl,hB14.trans (hK.old.mono hB14.size)⟩)
      have q_b5:=ylt hb5;go_wp2
      try go_ret
      show Q0 (.returned (.bool true)) _
      exact(qo hQ0 ⟨rfl,hB14.trans (hK.old.mono hB14.size)⟩)
     have q_b4:=ylt hb4;have i53:mj<na:=(by omega);obtain⟨g53,o53,rfl⟩:=hOg13A.pt i53;have l53:mj<((erP n m kb zz).A).length:=Nat.lt_of_lt_of_eq i53 (hOg13A.one0);obtain⟨a,ea⟩:=gtH l53;obtain⟨⟨a_p,a_l,a_c⟩,a_h,a_s⟩:=hOg13A.row ea.out;dsimp only at a_h a_s;have a_n:=hid a_s.one0;have⟨a_n1,a_n2⟩:=lle a_n.out;go_upto_region 19 with(fail);refine wp_region_S _ [0,0,0,0,0,0,0,0,0,0,0,0,0,0] hK ?_ (sR);clear hK
     iterate 2 refine e0 ?_
     cases ob
     . --
      iterate 10 refine eN ?_
      iterate 2 refine e0 ?_
      refine sxEnd (fun W54 hK=>?_)
      (try go_wp2)
      go_roundw
      case rel=>exact⟨mj+1,false,(by first|rfl|go_num),(by first|rfl|go_num),(by omega),hid (by have q:=h_o.out;simp only[allN];rw[<-Bool.and_assoc, <-q];rfl),hK⟩
      case measure=>simp[intOf]<;>omega
     refine e0 ?_;refine eX0 (fun w k=>hO15.below k.old) ?_
     iterate 2 refine e0 ?_
     refine eR0 (fun w k=>celB a_h k.old) ?_
     iterate 2 refine e0 ?_
     refine eX0 (fun w k=>hO15.below k.old) ?_;refine e0 ?_;refine eB (((a_l:Int))==((nn:Int))) (fun b5 hb5=>?_)
     iterate 2 refine e0 ?_
     refine sxEnd (fun W55 hK=>?_)
     (try go_wp2)
     go_roundw
     case rel=>exact⟨mj+1,b5,(by first|rfl|go_num),(by first|rfl|go_num),(by omega),hid (by have q:=h_o.out;simp only[allN];rw[<-Bool.and_assoc, <-q, <-hb5.out];unfold rowP;rw[getD_of ea.out,er_n];rw[Bool.true_and,Bool.eq_iff_iff];simp;omega),hK⟩
     case measure=>simp[intOf]<;>omega
    have q_b3:=ylt hb3;obtain⟨zn,hzn⟩:∃x:Nat,Hid (zlN n zz mi=x):=⟨_,hid rfl⟩;have lzn:zn<=n+1:=(by rw[<-hzn.out];exact zlN_le lzz.2);obtain⟨ei,hei⟩:∃x:Int,Hid ((if mi=7 then zz else 0)=x):=⟨_,hid rfl⟩;have lei: -1<=ei/\ei<=1:=(by rw[<-hei.out];split<;>omega);have hzn2:=hid (show((n:Int)+ei).toNat=zn from by rw[<-hei.out];exact hzn.out);go_upto_region 13 with(fail);refine wp_region_S _ [0,1,0,1,0,0,0,1,0,0,0,0,0,0,0,3,3,5,0,4] hK ?_ (sK2 (sC2 (sK2 (sC2 (sR)))));clear hK;refine e0 ?_;refine eL m3 ?_;refine e0 ?_;refine eL m3 ?_
    iterate 2 refine e0 ?_
    refine eB (((mi:Int))==7) (fun b4 hb4=>?_);obtain⟨z1,hz1⟩:=nmI (if b4=true then 1 else 0:Int);refine eQ (v:=.int .i64 z1) (fun w k=>btoi_any w b4) ?_ (hv:=by rw[hz1.out]);refine e0 ?_;refine eL0 m2 ?_;refine eV (.int .i8 zz) (fun w'=>by go_simp;(try go_bits);rw[<-hzz.out];first|exact⟨rfl,rfl⟩|exact⟨congrArg _ (by simp),rfl⟩) ?_;refine eV (.int .i64 zz) (fun w'=>by go_simp;(try go_bits);first|exact⟨rfl,rfl⟩|(refine⟨congrArg _ ?_,rfl⟩;omega)|exact⟨congrArg _ (by simp),rfl⟩) ?_;refine eV (.int .i64 ei) (fun w'=>by go_simp;(try go_bits);rw[show z1*zz=ei from(by rw[<-hz1.out, <-hei.out];have qb:=hb4.out;cases b4<;>simp at qb<;>simp only[Bool.false_eq_true,reduceIte]<;>split<;>omega)];exact⟨congrArg _ (by unfold wrap64;omega),rfl⟩) ?_;refine eV (.int .i64 ((n:Int)+ei)) (fun w'=>by go_simp;(try go_bits);first|exact⟨rfl,rfl⟩|(refine⟨congrArg _ ?_,rfl⟩;omega)|exact⟨congrArg _ (by simp),rfl⟩) ?_;refine eV (.int .i64 (zn:Int)) (fun w'=>by go_simp;(try go_bits);rw[<-hzn2.out];(refine⟨congrArg _ ?_,rfl⟩;omega)) ?_;refine eMk (K:=ratK) (t:=70) (x:=(0:Rat)) zn rat0 rfl infoQ (by show zn*3<=_;omega) (by decide) (fun g56=>?_);refine eA (.cells #[.slice (some ⟨g56,0,none⟩) zn zn] 56) (fun R57=>?_);refine eAppK 3 slcR_hd rfl 3 h_a.out rfl infoSQ (fun w k=>k.one1 (K:=slcQ) (x:=⟨(some ⟨g56,0,none⟩),zn,zn⟩) m0 rfl) (by rw[h_l.out,rowsZ_len];simp;omega) (fun x58=>?_) (hs:=fun _=>(sC2 (sC2 (sK2 (sC2 (sK2 (sC2 (sR))))))));obtain⟨p58,n58,c58⟩:=x58;dsimp only;refine e0 ?_;refine eP 5 1 [.slice p58 n58 c58] ?_ (hs:=(sC2 (sC2 (sK2 (sC2 (sK2 (sC2 (sR)))))))) (hq:=.inr ⟨rfl,rfl,rfl,rfl,rfl,rfl,trivial⟩);refine sxEnd (fun W59 hK=>?_);replace hK:=hK.up1;replace hK:=hK.made (K:=ratK) (n:=zn) rat0 (by simp[maxLen];omega);rw[show List.replicate zn (0:Rat)=List.replicate (zlN n zz mi) (0:Rat)from(by rw[hzn.out])]at hK;replace hK:=hK.up2;replace hK:=hK.up1;replace hK:=SS.rsN (s:=⟨(some ⟨g56,0,none⟩),zn,zn⟩) (xs:=List.replicate (zlN n zz mi) (0:Rat)) hK h_l.out;rw[show(rowsZ n zz mi)++[List.replicate (zlN n zz mi) (0:Rat)]=rowsZ n zz (mi+1)from(rowsZ_snoc _ _ _)]at hK
    (try go_wp2)
    go_roundw
    case rel=>exact⟨mi+1,p58,n58,c58,ss++[⟨(some ⟨g56,0,none⟩),zn,zn⟩],(by first|rfl|go_num),(by omega),hid (by rw[List.length_append,h_l.out,rowsZ_len,rowsZ_len];rfl),hid (fun e=>absurd (congrArg List.length e) (by simp)),(hK.subl (sK2 (sC2 (sR))))⟩
    case measure=>simp[intOf]<;>omega
   have q_b2:=ylt hb2;go_upto_region 9 with(fail);refine wp_region_S _ [0,1,2,3,5,0,4] hK ?_ (sC2 (sC2 (sR)));clear hK;refine e0 ?_;refine eL m1 ?_;refine eC (fun w k=>rat_S (qint_any (-1) w (by omega) (by omega))) (fun x60=>?_);obtain⟨⟨p61,l61,c61⟩,⟨q61,u61,d61⟩⟩:=x60;dsimp only;refine eA (.cells #[.bool (isN ((((-1):Int):Rat))),.slice p61 l61 c61,.slice q61 u61 d61] 70) (fun R62=>?_);refine eAppK 2 ratK_hd rfl 2 h_e.out rfl infoQ (fun w k=>k.one1 (K:=ratK) (x:=(((-1):Int):Rat)) m0 ⟨_,_,_,rfl,k.q m1⟩) (by simp;omega) (fun x63=>?_) (hs:=fun _=>(sC2 (sC2 (sC2 (sC2 (sR))))));obtain⟨p63,n63,c63⟩:=x63;dsimp only;refine e0 ?_;refine eP 3 0 [.slice p63 n63 c63] ?_ (hs:=(sC2 (sC2 (sC2 (sC2 (sR)))))) (hq:=.inr ⟨rfl,rfl,rfl,rfl,trivial⟩);refine sxEnd (fun W64 hK=>?_);rw[show(List.replicate i (((-1):Int):Rat))++[(((-1):Int):Rat)]=List.replicate (i+1) (((-1):Int):Rat)from(rep_snoc _ _)]at hK
   (try go_wp2)
   go_roundw
   case rel=>exact⟨i+1,p63,n63,c63,(by first|rfl|go_num),(by omega),hid (fun e=>absurd (congrArg List.length e) (by simp)),(hK.subl (sC2 (sC2 (sR))))⟩
   case measure=>simp[intOf]<;>omega
  have q_b1:=ylt hb1;go_wp2
  try go_ret
  show Q0 (.returned (.bool true)) _
  exact(qo hQ0 ⟨rfl,hK.old⟩)
end Go.Proofs.YtjhaedfpigebdaaGreatDoor
