/- The reference of linear programs: which results are accepted. -/

import Derived.Test.YtgemmbpjebijlaaGreatDoorScI
import Derived.Test.YtgemmbpjebijlaaGreatDoorScY
import Derived.Test.YtgemmbpjebijlaaGreatDoorScY
namespace Go.Proofs.YtgemmbpjebijlaaGreatDoor
open Go.RowKit
open Go.Lib (decDigits)
theorem lenZ{a:Nat}{b:Bool}(h:((a:Int)==0)=b):decide (a=0)=b:=by
  rw[<-h,Bool.eq_iff_iff];simp
theorem lenE{a c:Nat}{b:Bool}(h:((a:Int)==(c:Int))=b):decide (a=c)=b:=by
  rw[<-h,Bool.eq_iff_iff,decide_eq_true_eq,beq_iff_eq];omega
theorem intZ{a:Int}{b:Bool}(h:(a==0)=b):decide (a=0)=b:=by
  rw[<-h,Bool.eq_iff_iff];simp
theorem acc_1{P:LPd}{R:LpRes}{b:Bool}(h:vldP P=true)(hk:R.k=1)(hb:acc1 P R=b):accB P R=b:=by unfold accB;rw[h,if_pos hk,Bool.true_and];exact hb
theorem acc_2{P:LPd}{R:LpRes}{b:Bool}(h:vldP P=true)(hk:R.k=2)(hb:acc2 P R=b):accB P R=b:=by unfold accB;rw[h,if_neg (by omega),if_pos hk,Bool.true_and];exact hb
theorem acc_3{P:LPd}{R:LpRes}{b:Bool}(h:vldP P=true)(hk:R.k=3)(hb:acc3 P R=b):accB P R=b:=by unfold accB;rw[h,if_neg (by omega),if_neg (by omega),if_pos hk,Bool.true_and];exact hb
theorem acc_0{P:LPd}{R:LpRes}(h1:R.k≠1)(h2:R.k≠2)(h3:R.k≠3):accB P R=false:=by unfold accB;rw[if_neg h1,if_neg h2,if_neg h3,Bool.and_false]
set_option maxRecDepth 100000 in
set_option maxHeartbeats 1000000 in
theorem raccepts_any(w:World){cp ap bp:Option Addr}{cl cc al ac bl bc:Nat}{P:LPd}{kk:Int}{xp yp rp zp zq:Option Addr}{xl xc yl yc rl rc zl zc zu zd:Nat}{zn:Bool}{x y r:List Rat}{z:Rat}(hC:SlV refK w (.slice cp cl cc) P.c)(hA:SlV rfK w (.slice ap al ac) P.A)(hB:SlV refK w (.slice bp bl bc) P.b){k:Nat}(hk:(k+k+1)*12+1<=9999)(hm:LmP k P)(hP:P.Ok)(hX:SlV refK w (.slice xp xl xc) x)(hY:SlV refK w (.slice yp yl yc) y)(hR:SlV refK w (.slice rp rl rc) r)(hZ:RefR w (.agg #[.bool zn,.slice zp zl zc,.slice zq zu zd]) z)(hk1:1<=k)(hv:vldP P=true)(bx:x.length<=100000)(by9:y.length<=100000)(br:r.length<=100000)(hx:LmL k x)(hy:LmL k y)(hr:LmL k r)(hz:LmQ k z):
    Calls Tryz.prog 17 #[.agg #[.slice cp cl cc,.slice ap al ac,.slice bp bl bc],.agg #[.int .i64 kk,.slice xp xl xc,.slice yp yl yc,.slice rp rl rc,.bool zn,.slice zp zl zc,.slice zq zu zd]] w fun e w'=>e=.returned (.bool (accB P ⟨kk,x,y,r,z⟩))/\Below w.heap.size w w':=by
  have hK:=SS.start w;have⟨nc1,nc2⟩:=lle hC.one0;have⟨na1,na2⟩:=lle hA.one0;have⟨nb1,nb2⟩:=lle hB.one0;have hn12:=hm.n;have hm12:=hm.m;have hPb:=hP.hb;have hk2:k<=4000:=(by omega);have⟨nx1,nx2⟩:=lle hX.one0;have nx3:=hid hX.one0;have⟨ny1,ny2⟩:=lle hY.one0;have ny3:=hid hY.one0;have⟨nr1,nr2⟩:=lle hR.one0;have nr3:=hid hR.one0;refine Calls.hide (fun Q0 hQ0=>?_);go_enter Tryz.func17,Tryz.ntmps17;go_upto_region 0 with(fail);refine wp_region_T [3,3,0] hK ?_;clear hK;refine eA (.cells #[.slice cp cl cc,.slice ap al ac,.slice bp bl bc] 32) (fun R1=>?_);refine eA (.cells #[.int .i64 kk,.slice xp xl xc,.slice yp yl yc,.slice rp rl rc,.bool zn,.slice zp zl zc,.slice zq zu zd] 55) (fun R2=>?_);refine e0 ?_;refine sxEnd (fun W3 hK=>?_);go_upto_region 1 with(fail);refine wp_region_T [1,1,0] hK ?_;clear hK;refine eL m1 ?_;refine eQ (fun w k=>(rvalid_any w (hC.below k.old) (hA.below k.old) (hB.below k.old) (by omega) (by omega) (by omega)).mono fun _ _ q=>by rw[hv]at q;exact q) ?_;refine e0 ?_;refine sxEnd (fun W4 hK=>?_);go_upto_region 3 with(fail);refine wp_region_T [0,1,0,3,0] hK ?_;clear hK;refine e0 ?_;refine eL m1 ?_;refine e0 ?_;refine eMk (K:=refK) (t:=53) (x:=(0:Rat)) cl refz0 rfl infoR (by show cl*3<=_;omega) (by decide) (fun g5=>?_);refine e0 ?_;refine sxEnd (fun W6 hK=>?_);replace hK:=hK.made (K:=refK) (n:=cl) refz0 (by simp[maxLen];omega);go_upto_region 4 with(fail);refine wp_region_T [0,1] hK ?_;clear hK;refine e0 ?_;refine eL m1 ?_;refine sxEnd (fun W7 hK=>?_);go_upto_region 5 with(fail);refine wp_region_T [0,0] hK ?_;clear hK;refine eB (kk==1) (fun b1 hb1=>?_);refine e0 ?_;refine sxEnd (fun W8 hK=>?_)
  cases b1
  . --
   go_upto_region 7 with(fail);refine wp_region_T [0,0] hK ?_;clear hK;refine eB (kk==2) (fun b2 hb2=>?_);refine e0 ?_;refine sxEnd (fun W9 hK=>?_)
   cases b2
   . --
    go_upto_region 9 with(fail);refine wp_region_T [0,0] hK ?_;clear hK;refine eB (kk==3) (fun b3 hb3=>?_);refine e0 ?_;refine sxEnd (fun W10 hK=>?_)
    cases b3
    . --
     go_wp2
     try go_ret
     show Q0 (.returned (.bool false)) _
     exact(by obtain rfl:=hQ0.out;have qb1:=hb1.out;(try simp at qb1);have qb2:=hb2.out;(try simp at qb2);have qb3:=hb3.out;(try simp at qb3);rw[acc_0 (P:=P) (R:=⟨kk,x,y,r,z⟩) (by show kk≠1;omega) (by show kk≠2;omega) (by show kk≠3;omega)];exact⟨rfl,hK.old⟩)
    go_upto_region 10 with(fail);refine wp_region_T [1,0,1,1,0,0,1,0,0,0,0,0,1,0,0,1,0,0,0,0,0,1,1,0,0,1,0,1,1,0,0,0,1,0,1,2,1,0,0,0,0,1,1,0,0,0] hK ?_;clear hK;refine eL m2 ?_;refine e0 ?_;refine eL m1 ?_;obtain⟨b4,hb4⟩:=nmB (feaB P x);refine eQ (v:=.bool b4) (fun w k=>rfeasible_any w (hX.below k.old) (hC.below k.old) (hA.below k.old) (hB.below k.old) hk hm hP (by omega) hx) ?_ (hv:=by rw[hb4.out]);refine e0 ?_
    cases b4
    . --
     iterate 4 refine eN ?_
     iterate 2 refine e0 ?_
     iterate 7 refine eN ?_
     iterate 2 refine e0 ?_
     iterate 3 refine eN ?_
     iterate 2 refine e0 ?_
     iterate 4 refine eN ?_
     iterate 2 refine e0 ?_
     iterate 7 refine eN ?_
     iterate 2 refine e0 ?_
     iterate 4 refine eN ?_
     iterate 2 refine e0 ?_
     refine sxEnd (fun W11 hK=>?_);go_wp2
     try go_ret
     show Q0 (.returned (.bool false)) _
     exact(by obtain rfl:=hQ0.out;have qb1:=hb1.out;(try simp at qb1);have qb2:=hb2.out;(try simp at qb2);have qb3:=hb3.out;(try simp at qb3);have hx9:=len0 nx3.out;have hy9:=len0 ny3.out;have hr9:=len0 nr3.out;exact⟨congrArg (fun b=>Ending.returned (.bool b)) (acc_3 hv (by show kk=3;omega) (by unfold acc3;have hl9:decide (r.length=P.c.length)=decide (rl=cl):=(by rw[<-nr3.out, <-hC.one0]);dsimp only;simp only[hy9,hl9,hb4.out,Bool.false_and,Bool.and_false,Bool.true_and,Bool.and_true])).symm,hK.old⟩)
    refine e0 ?_;refine eL m1 ?_;refine e0 ?_;refine eB (((yl:Int))==0) (fun b5 hb5=>?_)
    iterate 2 refine e0 ?_
    cases b5
    . --
     iterate 7 refine eN ?_
     iterate 2 refine e0 ?_
     iterate 3 refine eN ?_
     iterate 2 refine e0 ?_
     iterate 4 refine eN ?_
     iterate 2 refine e0 ?_
     iterate 7 refine eN ?_
     iterate 2 refine e0 ?_
     iterate 4 refine eN ?_
     iterate 2 refine e0 ?_
     refine sxEnd (fun W12 hK=>?_);go_wp2
     try go_ret
     show Q0 (.returned (.bool false)) _
     exact(by obtain rfl:=hQ0.out;have qb1:=hb1.out;(try simp at qb1);have qb2:=hb2.out;(try simp at qb2);have qb3:=hb3.out;(try simp at qb3);have hx9:=len0 nx3.out;have hy9:=len0 ny3.out;have hr9:=len0 nr3.out;exact⟨congrArg (fun b=>Ending.returned (.bool b)) (acc_3 hv (by show kk=3;omega) (by unfold acc3;have hl9:decide (r.length=P.c.length)=decide (rl=cl):=(by rw[<-nr3.out, <-hC.one0]);dsimp only;simp only[hy9,hl9,hb4.out,lenZ hb5.out,Bool.false_and,Bool.and_false,Bool.true_and,Bool.and_true])).symm,hK.old⟩)
    refine e0 ?_;refine eL m1 ?_
    iterate 2 refine e0 ?_
    refine eL m2 ?_;refine e0 ?_;refine eB (((rl:Int))==((cl:Int))) (fun b6 hb6=>?_)
    iterate 2 refine e0 ?_
    cases b6
    . --
     iterate 3 refine eN ?_
     iterate 2 refine e0 ?_
     iterate 4 refine eN ?_
     iterate 2 refine e0 ?_
     iterate 7 refine eN ?_
     iterate 2 refine e0 ?_
     iterate 4 refine eN ?_
     iterate 2 refine e0 ?_
     refine sxEnd (fun W13 hK=>?_);go_wp2
     try go_ret
     show Q0 (.returned (.bool false)) _
     exact(by obtain rfl:=hQ0.out;have qb1:=hb1.out;(try simp at qb1);have qb2:=hb2.out;(try simp at qb2);have qb3:=hb3.out;(try simp at qb3);have hx9:=len0 nx3.out;have hy9:=len0 ny3.out;have hr9:=len0 nr3.out;exact⟨congrArg (fun b=>Ending.returned (.bool b)) (acc_3 hv (by show kk=3;omega) (by unfold acc3;have hl9:decide (r.length=P.c.length)=decide (rl=cl):=(by rw[<-nr3.out, <-hC.one0]);dsimp only;simp only[hy9,hl9,hb4.out,lenZ hb5.out,lenE hb6.out,Bool.false_and,Bool.and_false,Bool.true_and,Bool.and_true])).symm,hK.old⟩)
    refine e0 ?_;refine eL m1 ?_;obtain⟨b7,hb7⟩:=nmB (nnB r);refine eQ (v:=.bool b7) (fun w k=>rpositive_any w (hR.below k.old) (by omega)) ?_ (hv:=by rw[hb7.out])
    iterate 2 refine e0 ?_
    cases b7
    . --
     iterate 4 refine eN ?_
     iterate 2 refine e0 ?_
     iterate 7 refine eN ?_
     iterate 2 refine e0 ?_
     iterate 4 refine eN ?_
     iterate 2 refine e0 ?_
     refine sxEnd (fun W14 hK=>?_);go_wp2
     try go_ret
     show Q0 (.returned (.bool false)) _
     exact(by obtain rfl:=hQ0.out;have qb1:=hb1.out;(try simp at qb1);have qb2:=hb2.out;(try simp at qb2);have qb3:=hb3.out;(try simp at qb3);have hx9:=len0 nx3.out;have hy9:=len0 ny3.out;have hr9:=len0 nr3.out;exact⟨congrArg (fun b=>Ending.returned (.bool b)) (acc_3 hv (by show kk=3;omega) (by unfold acc3;have hl9:decide (r.length=P.c.length)=decide (rl=cl):=(by rw[<-nr3.out, <-hC.one0]);dsimp only;simp only[hy9,hl9,hb4.out,hb7.out,lenZ hb5.out,lenE hb6.out,Bool.false_and,Bool.and_false,Bool.true_and,Bool.and_true])).symm,hK.old⟩)
    refine eL m2 ?_;refine e0 ?_;refine eL m1 ?_;obtain⟨b8,hb8⟩:=nmB (falB P r);refine eQ (v:=.bool b8) (fun w k=>rfalls_any w (hR.below k.old) (hC.below k.old) (hA.below k.old) (hB.below k.old) hk hm hP (by have q:=hb6.out;simp at q;omega) hr) ?_ (hv:=by rw[hb8.out])
    iterate 2 refine e0 ?_
    cases b8
    . --
     iterate 7 refine eN ?_
     iterate 2 refine e0 ?_
     iterate 4 refine eN ?_
     iterate 2 refine e0 ?_
     refine sxEnd (fun W15 hK=>?_);go_wp2
     try go_ret
     show Q0 (.returned (.bool false)) _
     exact(by obtain rfl:=hQ0.out;have qb1:=hb1.out;(try simp at qb1);have qb2:=hb2.out;(try simp at qb2);have qb3:=hb3.out;(try simp at qb3);have hx9:=len0 nx3.out;have hy9:=len0 ny3.out;have hr9:=len0 nr3.out;exact⟨congrArg (fun b=>Ending.returned (.bool b)) (acc_3 hv (by show kk=3;omega) (by unfold acc3;have hl9:decide (r.length=P.c.length)=decide (rl=cl):=(by rw[<-nr3.out, <-hC.one0]);dsimp only;simp only[hy9,hl9,hb4.out,hb7.out,hb8.out,lenZ hb5.out,lenE hb6.out,Bool.false_and,Bool.and_false,Bool.true_and,Bool.and_true])).symm,hK.old⟩)
    refine e0 ?_;refine eL m2 ?_;refine e0 ?_;refine eL m1 ?_;refine eC (fun w k=>rdot_any w (hC.below k.old) (hR.below k.old) (by omega) (by omega) hm.c hr (Nat.le_trans (Nat.succ_le_succ (Nat.mul_le_mul_left _ (by omega))) hk) hk2) (fun x16=>?_);obtain⟨⟨p17,l17,c17⟩,⟨q17,u17,d17⟩⟩:=x16;dsimp only;obtain⟨z1,hz1⟩:=nmI (sgQ (dotQ P.c r));refine eQ (v:=.int .i64 z1) (fun w k=>rsign_q _ _ w (k.rq m0)) ?_ (hv:=by rw[hz1.out]);refine eB (decide (0<z1)) (fun b9 hb9=>?_)
    iterate 2 refine e0 ?_
    cases b9
    . --
     have q_b9:=nlt hb9
     iterate 4 refine eN ?_
     iterate 2 refine e0 ?_
     refine sxEnd (fun W18 hK=>?_);go_wp2
     try go_ret
     show Q0 (.returned (.bool false)) _
     exact(by obtain rfl:=hQ0.out;have qb1:=hb1.out;(try simp at qb1);have qb2:=hb2.out;(try simp at qb2);have qb3:=hb3.out;(try simp at qb3);have hx9:=len0 nx3.out;have hy9:=len0 ny3.out;have hr9:=len0 nr3.out;exact⟨congrArg (fun b=>Ending.returned (.bool b)) (acc_3 hv (by show kk=3;omega) (by unfold acc3;have hl9:decide (r.length=P.c.length)=decide (rl=cl):=(by rw[<-nr3.out, <-hC.one0]);dsimp only;simp only[hy9,hl9,hb4.out,hb7.out,hb8.out,sgg_of hz1.out,lenZ hb5.out,lenE hb6.out,hb9.out,Bool.false_and,Bool.and_false,Bool.true_and,Bool.and_true])).symm,hK.old⟩)
    have q_b9:=ylt hb9;refine e0 ?_;refine eL m2 ?_;obtain⟨z2,hz2⟩:=nmI (sgQ (z));refine eQ (v:=.int .i64 z2) (fun w k=>rsign_q _ _ w (hZ.below k.old)) ?_ (hv:=by rw[hz2.out]);refine eB (z2==0) (fun b10 hb10=>?_)
    iterate 2 refine e0 ?_
    refine sxEnd (fun W19 hK=>?_);go_wp2
    try go_ret
    show Q0 (.returned (.bool b10)) _
    exact(by obtain rfl:=hQ0.out;have qb1:=hb1.out;(try simp at qb1);have qb2:=hb2.out;(try simp at qb2);have qb3:=hb3.out;(try simp at qb3);have hx9:=len0 nx3.out;have hy9:=len0 ny3.out;have hr9:=len0 nr3.out;exact⟨congrArg (fun b=>Ending.returned (.bool b)) (acc_3 hv (by show kk=3;omega) (by unfold acc3;have hl9:decide (r.length=P.c.length)=decide (rl=cl):=(by rw[<-nr3.out, <-hC.one0]);dsimp only;simp only[hy9,hl9,hb4.out,hb7.out,hb8.out,sgg_of hz1.out,sg0_of hz2.out,lenZ hb5.out,lenE hb6.out,hb9.out,intZ hb10.out,Bool.false_and,Bool.and_false,Bool.true_and,Bool.and_true])).symm,hK.old⟩)
   go_upto_region 8 with(fail);refine wp_region_T [1,0,1,0,1,0,0,1,0,0,0,0,0,1,0,0,0,0,0,1,0,1,2,1,0,0,0,0,1,1,0,0,0] hK ?_;clear hK;refine eL m2 ?_;refine e0 ?_;refine eL m1 ?_;refine e0 ?_;obtain⟨b3,hb3⟩:=nmB (covB P y (List.replicate cl 0));refine eQ (v:=.bool b3) (fun w k=>rcovers_any w (hY.below k.old) (k.slv m0) (hC.below k.old) (hA.below k.old) (hB.below k.old) hk hm hP hk1 (by omega) hy (LmL.zeros hk1) (by rw[List.length_replicate];exact hC.one0)) ?_ (hv:=by rw[hb3.out]);refine e0 ?_
   cases b3
   . --
    iterate 4 refine eN ?_
    iterate 2 refine e0 ?_
    iterate 4 refine eN ?_
    iterate 2 refine e0 ?_
    iterate 7 refine eN ?_
    iterate 2 refine e0 ?_
    iterate 4 refine eN ?_
    iterate 2 refine e0 ?_
    refine sxEnd (fun W20 hK=>?_);go_wp2
    try go_ret
    show Q0 (.returned (.bool false)) _
    exact(by obtain rfl:=hQ0.out;have qb1:=hb1.out;(try simp at qb1);have qb2:=hb2.out;(try simp at qb2);have hx9:=len0 nx3.out;have hy9:=len0 ny3.out;have hr9:=len0 nr3.out;exact⟨congrArg (fun b=>Ending.returned (.bool b)) (acc_2 hv (by show kk=2;omega) (by unfold acc2;have hz9:zerosQ P.c.length=List.replicate cl 0:=(by unfold zerosQ;rw[<-hC.one0]);dsimp only;simp only[hx9,hr9,hz9,hb3.out,Bool.false_and,Bool.and_false,Bool.true_and,Bool.and_true])).symm,hK.old⟩)
   refine e0 ?_;refine eL m1 ?_;refine e0 ?_;refine eB (((xl:Int))==0) (fun b4 hb4=>?_)
   iterate 2 refine e0 ?_
   cases b4
   . --
    iterate 4 refine eN ?_
    iterate 2 refine e0 ?_
    iterate 7 refine eN ?_
    iterate 2 refine e0 ?_
    iterate 4 refine eN ?_
    iterate 2 refine e0 ?_
    refine sxEnd (fun W21 hK=>?_);go_wp2
    try go_ret
    show Q0 (.returned (.bool false)) _
    exact(by obtain rfl:=hQ0.out;have qb1:=hb1.out;(try simp at qb1);have qb2:=hb2.out;(try simp at qb2);have hx9:=len0 nx3.out;have hy9:=len0 ny3.out;have hr9:=len0 nr3.out;exact⟨congrArg (fun b=>Ending.returned (.bool b)) (acc_2 hv (by show kk=2;omega) (by unfold acc2;have hz9:zerosQ P.c.length=List.replicate cl 0:=(by unfold zerosQ;rw[<-hC.one0]);dsimp only;simp only[hx9,hr9,hz9,hb3.out,lenZ hb4.out,Bool.false_and,Bool.and_false,Bool.true_and,Bool.and_true])).symm,hK.old⟩)
   refine e0 ?_;refine eL m1 ?_;refine e0 ?_;refine eB (((rl:Int))==0) (fun b5 hb5=>?_)
   iterate 2 refine e0 ?_
   cases b5
   . --
    iterate 7 refine eN ?_
    iterate 2 refine e0 ?_
    iterate 4 refine eN ?_
    iterate 2 refine e0 ?_
    refine sxEnd (fun W22 hK=>?_);go_wp2
    try go_ret
    show Q0 (.returned (.bool false)) _
    exact(by obtain rfl:=hQ0.out;have qb1:=hb1.out;(try simp at qb1);have qb2:=hb2.out;(try simp at qb2);have hx9:=len0 nx3.out;have hy9:=len0 ny3.out;have hr9:=len0 nr3.out;exact⟨congrArg (fun b=>Ending.returned (.bool b)) (acc_2 hv (by show kk=2;omega) (by unfold acc2;have hz9:zerosQ P.c.length=List.replicate cl 0:=(by unfold zerosQ;rw[<-hC.one0]);dsimp only;simp only[hx9,hr9,hz9,hb3.out,lenZ hb4.out,lenZ hb5.out,Bool.false_and,Bool.and_false,Bool.true_and,Bool.and_true])).symm,hK.old⟩)
   refine e0 ?_;refine eL m2 ?_;refine e0 ?_;refine eL m1 ?_;refine eC (fun w k=>rdot_any w (hB.below k.old) (hY.below k.old) (by omega) (by omega) hm.b hy (Nat.le_trans (Nat.succ_le_succ (Nat.mul_le_mul_left _ (by omega))) hk) hk2) (fun x23=>?_);obtain⟨⟨p24,l24,c24⟩,⟨q24,u24,d24⟩⟩:=x23;dsimp only;obtain⟨z1,hz1⟩:=nmI (sgQ (dotQ P.b y));refine eQ (v:=.int .i64 z1) (fun w k=>rsign_q _ _ w (k.rq m0)) ?_ (hv:=by rw[hz1.out]);refine eB (decide (z1<0)) (fun b6 hb6=>?_)
   iterate 2 refine e0 ?_
   cases b6
   . --
    have q_b6:=nlt hb6
    iterate 4 refine eN ?_
    iterate 2 refine e0 ?_
    refine sxEnd (fun W25 hK=>?_);go_wp2
    try go_ret
    show Q0 (.returned (.bool false)) _
    exact(by obtain rfl:=hQ0.out;have qb1:=hb1.out;(try simp at qb1);have qb2:=hb2.out;(try simp at qb2);have hx9:=len0 nx3.out;have hy9:=len0 ny3.out;have hr9:=len0 nr3.out;exact⟨congrArg (fun b=>Ending.returned (.bool b)) (acc_2 hv (by show kk=2;omega) (by unfold acc2;have hz9:zerosQ P.c.length=List.replicate cl 0:=(by unfold zerosQ;rw[<-hC.one0]);dsimp only;simp only[hx9,hr9,hz9,hb3.out,sgl_of hz1.out,lenZ hb4.out,lenZ hb5.out,hb6.out,Bool.false_and,Bool.and_false,Bool.true_and,Bool.and_true])).symm,hK.old⟩)
   have q_b6:=ylt hb6;refine e0 ?_;refine eL m2 ?_;obtain⟨z2,hz2⟩:=nmI (sgQ (z));refine eQ (v:=.int .i64 z2) (fun w k=>rsign_q _ _ w (hZ.below k.old)) ?_ (hv:=by rw[hz2.out]);refine eB (z2==0) (fun b7 hb7=>?_)
   iterate 2 refine e0 ?_
   refine sxEnd (fun W26 hK=>?_);go_wp2
   try go_ret
   show Q0 (.returned (.bool b7)) _
   exact(by obtain rfl:=hQ0.out;have qb1:=hb1.out;(try simp at qb1);have qb2:=hb2.out;(try simp at qb2);have hx9:=len0 nx3.out;have hy9:=len0 ny3.out;have hr9:=len0 nr3.out;exact⟨congrArg (fun b=>Ending.returned (.bool b)) (acc_2 hv (by show kk=2;omega) (by unfold acc2;have hz9:zerosQ P.c.length=List.replicate cl 0:=(by unfold zerosQ;rw[<-hC.one0]);dsimp only;simp only[hx9,hr9,hz9,hb3.out,sgl_of hz1.out,sg0_of hz2.out,lenZ hb4.out,lenZ hb5.out,hb6.out,intZ hb7.out,Bool.false_and,Bool.and_false,Bool.true_and,Bool.and_true])).symm,hK.old⟩)
  go_upto_region 6 with(fail);refine wp_region_S _ [0,0,0,1,0,0,0,0,0,0,1,0,0,0,0,0,0,0,0,0,0,0,0,2,0,0,1,0,0,0,0,0,0,2,0,0,1,0,0] hK ?_ (sR);clear hK;refine eL0 m2 ?_;refine e0 ?_;refine eL0 m1 ?_;obtain⟨b2,hb2⟩:=nmB (feaB P x);refine eQ (v:=.bool b2) (fun w k=>rfeasible_any w (hX.below k.old) (hC.below k.old) (hA.below k.old) (hB.below k.old) hk hm hP (by omega) hx) ?_ (hv:=by rw[hb2.out]);refine e0 ?_
  cases b2
  . --
   iterate 6 refine eN ?_
   iterate 2 refine e0 ?_
   iterate 4 refine eN ?_
   iterate 2 refine e0 ?_
   iterate 8 refine eN ?_
   iterate 2 refine e0 ?_
   iterate 8 refine eN ?_
   iterate 2 refine e0 ?_
   refine sxEnd (fun W27 hK=>?_);go_wp2
   try go_ret
   show Q0 (.returned (.bool false)) _
   exact(by obtain rfl:=hQ0.out;have qb1:=hb1.out;(try simp at qb1);have hx9:=len0 nx3.out;have hy9:=len0 ny3.out;have hr9:=len0 nr3.out;exact⟨congrArg (fun b=>Ending.returned (.bool b)) (acc_1 hv (by show kk=1;omega) (by unfold acc1;dsimp only;simp only[hr9,hb2.out,Bool.false_and,Bool.and_false,Bool.true_and,Bool.and_true])).symm,hK.old⟩)
  refine eL0 m2 ?_;refine e0 ?_;refine eL0 m1 ?_;refine e0 ?_;refine eL0 m2 ?_;obtain⟨b3,hb3⟩:=nmB (covB P y P.c);refine eQ (v:=.bool b3) (fun w k=>rcovers_any w (hY.below k.old) (hC.below k.old) (hC.below k.old) (hA.below k.old) (hB.below k.old) hk hm hP hk1 (by omega) hy hm.c rfl) ?_ (hv:=by rw[hb3.out])
  iterate 2 refine e0 ?_
  cases b3
  . --
   iterate 4 refine eN ?_
   iterate 2 refine e0 ?_
   iterate 8 refine eN ?_
   iterate 2 refine e0 ?_
   iterate 8 refine eN ?_
   iterate 2 refine e0 ?_
   refine sxEnd (fun W28 hK=>?_);go_wp2
   try go_ret
   show Q0 (.returned (.bool false)) _
   exact(by obtain rfl:=hQ0.out;have qb1:=hb1.out;(try simp at qb1);have hx9:=len0 nx3.out;have hy9:=len0 ny3.out;have hr9:=len0 nr3.out;exact⟨congrArg (fun b=>Ending.returned (.bool b)) (acc_1 hv (by show kk=1;omega) (by unfold acc1;dsimp only;simp only[hr9,hb2.out,hb3.out,Bool.false_and,Bool.and_false,Bool.true_and,Bool.and_true])).symm,hK.old⟩)
  refine e0 ?_;refine eL0 m1 ?_;refine e0 ?_;refine eB (((rl:Int))==0) (fun b4 hb4=>?_)
  iterate 2 refine e0 ?_
  cases b4
  . --
   iterate 8 refine eN ?_
   iterate 2 refine e0 ?_
   iterate 8 refine eN ?_
   iterate 2 refine e0 ?_
   refine sxEnd (fun W29 hK=>?_);go_wp2
   try go_ret
   show Q0 (.returned (.bool false)) _
   exact(by obtain rfl:=hQ0.out;have qb1:=hb1.out;(try simp at qb1);have hx9:=len0 nx3.out;have hy9:=len0 ny3.out;have hr9:=len0 nr3.out;exact⟨congrArg (fun b=>Ending.returned (.bool b)) (acc_1 hv (by show kk=1;omega) (by unfold acc1;dsimp only;simp only[hr9,hb2.out,hb3.out,lenZ hb4.out,Bool.false_and,Bool.and_false,Bool.true_and,Bool.and_true])).symm,hK.old⟩)
  refine e0 ?_;refine eL0 m2 ?_;refine e0 ?_;refine eL0 m1 ?_;refine eC (fun w k=>rdot_any w (hC.below k.old) (hX.below k.old) (by omega) (by omega) hm.c hx (Nat.le_trans (Nat.succ_le_succ (Nat.mul_le_mul_left _ (by omega))) hk) hk2) (fun x30=>?_);obtain⟨⟨p31,l31,c31⟩,⟨q31,u31,d31⟩⟩:=x30;dsimp only;refine e0 ?_;refine eL0 m1 ?_;obtain⟨b5,hb5⟩:=nmB (decide (dotQ P.c x=z));refine eQ (v:=.bool b5) (fun w k=>rsame_any w (x:=dotQ P.c x) (y:=z) (k:=9999) (k.rq m0) (hZ.below k.old) ((dotQ_lm hm.c hx).up (Nat.le_trans (Nat.succ_le_succ (Nat.mul_le_mul_left _ (by omega))) hk)) (hz.up (by omega)) (by decide)) ?_ (hv:=by rw[hb5.out])
  iterate 2 refine e0 ?_
  cases b5
  . --
   iterate 8 refine eN ?_
   iterate 2 refine e0 ?_
   refine sxEnd (fun W32 hK=>?_);go_wp2
   try go_ret
   show Q0 (.returned (.bool false)) _
   exact(by obtain rfl:=hQ0.out;have qb1:=hb1.out;(try simp at qb1);have hx9:=len0 nx3.out;have hy9:=len0 ny3.out;have hr9:=len0 nr3.out;exact⟨congrArg (fun b=>Ending.returned (.bool b)) (acc_1 hv (by show kk=1;omega) (by unfold acc1;dsimp only;simp only[hr9,hb2.out,hb3.out,hb5.out,lenZ hb4.out,Bool.false_and,Bool.and_false,Bool.true_and,Bool.and_true])).symm,hK.old⟩)
  refine e0 ?_;refine eL0 m2 ?_;refine e0 ?_;refine eL0 m1 ?_;refine eC (fun w k=>rdot_any w (hB.below k.old) (hY.below k.old) (by omega) (by omega) hm.b hy (Nat.le_trans (Nat.succ_le_succ (Nat.mul_le_mul_left _ (by omega))) hk) hk2) (fun x33=>?_);obtain⟨⟨p34,l34,c34⟩,⟨q34,u34,d34⟩⟩:=x33;dsimp only;refine e0 ?_;refine eL0 m1 ?_;obtain⟨b6,hb6⟩:=nmB (decide (dotQ P.b y=z));refine eQ (v:=.bool b6) (fun w k=>rsame_any w (x:=dotQ P.b y) (y:=z) (k:=9999) (k.rq m0) (hZ.below k.old) ((dotQ_lm hm.b hy).up (Nat.le_trans (Nat.succ_le_succ (Nat.mul_le_mul_left _ (by omega))) hk)) (hz.up (by omega)) (by decide)) ?_ (hv:=by rw[hb6.out])
  iterate 2 refine e0 ?_
  refine sxEnd (fun W35 hK=>?_);go_wp2
  try go_ret
  show Q0 (.returned (.bool b6)) _
  exact(by obtain rfl:=hQ0.out;have qb1:=hb1.out;(try simp at qb1);have hx9:=len0 nx3.out;have hy9:=len0 ny3.out;have hr9:=len0 nr3.out;exact⟨congrArg (fun b=>Ending.returned (.bool b)) (acc_1 hv (by show kk=1;omega) (by unfold acc1;dsimp only;simp only[hr9,hb2.out,hb3.out,hb5.out,hb6.out,lenZ hb4.out,Bool.false_and,Bool.and_false,Bool.true_and,Bool.and_true])).symm,hK.old⟩)
end Go.Proofs.YtgemmbpjebijlaaGreatDoor
