/- Laws of linear programs with up to 4 variables and 5 rows: for every input the law's function returns true; no condition. Part 4 of 6. -/

import Derived.Test.YtjhaedfpigebdaaGreatDoorQC
import Derived.MapKept
import Derived.ChangeMaps5
namespace Go.Proofs.YtjhaedfpigebdaaGreatDoor
open Go.RowKit
open Go.Lib (decDigits)
section
theorem ofS_n0(s:Bool){n d:Nat}(h:(n==0)=true):ofS s n 1=ofS s n d:=by
  have:n=0:=by simpa using h
  rw[this,ofS_zero,ofS_zero]
theorem ofS_d1(s:Bool){n d:Nat}(h:(d==1)=true):ofS s n 1=ofS s n d:=by
  have:d=1:=by simpa using h
  rw[this]
theorem ofS_g1(s:Bool){n d:Nat}(hd:d≠0)(h:(d/Nat.gcd n d==1)=true):ofS s (n/Nat.gcd n d) 1=ofS s n d:=by
  have:d/Nat.gcd n d=1:=by simpa using h
  have e:=ofS_div s n hd
  rwa [this]at e
theorem made_b(s:Bool){n:Nat}(h:(n==0)=false):s=(s&&decide (n≠0)):=by
  have:n≠0:=by simpa using h
  simp[this]
theorem made_1{n d:Nat}(h:(Nat.gcd n d==1)=true):n=n/Nat.gcd n d:=by
  have:Nat.gcd n d=1:=by simpa using h
  rw[this,Nat.div_one]
theorem made_2{n d:Nat}(h:(Nat.gcd n d==1)=true)(h':(d==1)=false):d=if d/Nat.gcd n d=1 then 0 else d/Nat.gcd n d:=by
  have:Nat.gcd n d=1:=by simpa using h
  have h2:d≠1:=by simpa using h'
  rw[this,Nat.div_one,if_neg h2]
theorem made_3{n d:Nat}(h':(d/Nat.gcd n d==1)=false):d/Nat.gcd n d=if d/Nat.gcd n d=1 then 0 else d/Nat.gcd n d:=by
  have h2:d/Nat.gcd n d≠1:=by simpa using h'
  rw[if_neg h2]
theorem sgnd_lm{s t:Bool}{n m k:Nat}(hn:Lm k n)(hm:Lm k m):Lm (k+1) (sgnd s n t m).2:=by
  have h:=(hn.add hm).le (n:=(sgnd s n t m).2) (by unfold sgnd;split<;>(try split)<;>simp<;>omega)
  rwa [Nat.max_self]at h
theorem add_made(x y:Rat){b:Bool}(hb:(sgnd (isN x) (x.num.natAbs*one0 (den0 y)) (isN y) (y.num.natAbs*one0 (den0 x))).1=b):ofS b (sgnd (isN x) (x.num.natAbs*one0 (den0 y)) (isN y) (y.num.natAbs*one0 (den0 x))).2 (x.den*one0 (den0 y))=x+y:=by
  have h:=sgnd_eq (isN x) (x.num.natAbs*one0 (den0 y)) (isN y) (y.num.natAbs*one0 (den0 x));rw[hb]at h;rw[one0_den0]at h⊢;rw[one0_den0]at h⊢;exact add_of h
theorem den_1{x:Rat}(h:(den0 x==0)=true):x.den=1:=by
  have:den0 x=0:=by simpa using h
  exact(den0_zero x).1 this
theorem add_whole(x y:Rat){b:Bool}(hb:(sgnd (isN x) (x.num.natAbs*one0 (den0 y)) (isN y) (y.num.natAbs*one0 (den0 x))).1=b)(hx:(den0 x==0)=true)(hy:(den0 y==0)=true):ofS b (sgnd (isN x) (x.num.natAbs*one0 (den0 y)) (isN y) (y.num.natAbs*one0 (den0 x))).2 1=x+y:=by
  have h:=add_made x y hb;rw[show x.den*one0 (den0 y)=1 from by rw[one0_den0,den_1 hx,den_1 hy]]at h;exact h
theorem mul_whole(x y:Rat)(hx:(den0 x==0)=true)(hy:(den0 y==0)=true):ofS (isN x !=isN y) (x.num.natAbs*y.num.natAbs) 1=x*y:=by
  have h:=mul_of x y
  rwa [den_1 hx,den_1 hy]at h
theorem mul_made(x y:Rat):ofS (isN x !=isN y) (x.num.natAbs*y.num.natAbs) (x.den*one0 (den0 y))=x*y:=by rw[one0_den0];exact mul_of x y
theorem div_made(x:Rat){y:Rat}(hy:y≠0):ofS (isN x !=isN y) (x.num.natAbs*one0 (den0 y)) (y.num.natAbs*one0 (den0 x))=x/y:=by rw[one0_den0,one0_den0];exact div_of x hy
theorem RatV.negd{W:World}{p q:Option Addr}{l c m d:Nat}{x:Rat}(hx:x≠0)(h1:NatV W (.agg #[.slice p l c]) x.num.natAbs)(h2:NatV W (.agg #[.slice q m d]) (den0 x)):RatV W (.agg #[.bool (!isN x),.slice p l c,.slice q m d]) (-x):=
  ⟨p,l,c,q,m,d,by rw[neg_isN hx],by rw[neg_num];exact h1,by rw[neg_den0];exact h2⟩
theorem div_zero'(x:Rat):x/0=0:=by simp[Rat.div_def]
theorem ofS_d0(s:Bool)(n:Nat):ofS s n 0=0:=by unfold ofS;simp
theorem cmp_made{x y:Rat}{z3:Int}(hz:sgQ x=sgQ y)(h0:sgQ x≠0)(h3:cmpN (x.num.natAbs*one0 (den0 y)) (y.num.natAbs*one0 (den0 x))=z3):sgQ (x-y)=sgQ x*z3:=by
  have hs:isN x=isN y:=by
    rw[Bool.eq_iff_iff,isN_iff,isN_iff, <-sgQ_neg, <-sgQ_neg,hz]
  rw[cmp_cross hs, <-h3];rw[one0_den0,one0_den0]
  have e1:sgQ x=if isN x then-1 else 1:=by
    unfold sgQ at h0⊢
    split
    . rename_i h;rw[if_pos h]at h0;exact absurd rfl h0
    rfl
  rw[e1]
  congr 1
  unfold cmpN
  split
  . rfl
  split
  . rw[if_neg (by omega)]
  rw[if_pos (by omega)]
theorem cmpN_rng{n m:Nat}{z:Int}(h:cmpN n m=z): -1<=z/\z<=1:=by rw[<-h];unfold cmpN;split<;>(try split)<;>omega
theorem sg_cases{x:Rat}{z:Int}(h:sgQ x=z):z=0\/z= -1\/z=1:=by rw[<-h];exact sgQ_range x
theorem quo_ints(a b:Int):ofS (decide (a<0) !=decide (b<0)) a.natAbs b.natAbs=(a:Rat)/(b:Rat):=by
  by_cases hb:b=0
  . subst hb;unfold ofS;simp[Rat.div_def]
  have h1:((a:Rat))=ofS (decide (a<0)) a.natAbs 1:=by rw[ofS_one,sgn_of]
  have h2:((b:Rat))=ofS (decide (b<0)) b.natAbs 1:=by rw[ofS_one,sgn_of]
  rw[h1,h2,ofS_quo _ _ (by omega) (by decide),Nat.mul_one,Nat.one_mul]
theorem int_of(a:Int):ofS (decide (a<0)) a.natAbs 1=(a:Rat):=by rw[ofS_one,sgn_of]
theorem RatV.zero(W:World):RatV W (.agg #[.bool false,.slice none 0 0,.slice none 0 0]) 0:=⟨_,_,_,_,_,_,rfl,NatV.zero W,NatV.zero W⟩
set_option maxRecDepth 100000 in
theorem reduced_any(v1:Value)(v2:Value)(s:Bool)(n:Nat)(d:Nat)(w:World)(h1:NatV w v1 n)(h2:NatV w v2 d)(hd0:d≠0)(l1:(digs B32 n).length<=50000)(l2:(digs B32 d).length<=50000):
    Calls Tryz.prog 113 #[.bool s,v1,v2] w fun e w'=> ∃y0,e=.returned y0/\RatV w' y0 (ofS s n d)/\Below w.heap.size w w':=by
  obtain⟨p_h1,l_h1,c_h1,rfl⟩:=h1.sl;obtain⟨p_h2,l_h2,c_h2,rfl⟩:=h2.sl;have hK:=SS.start w;have l3:(digs B32 (Nat.gcd n d)).length<=50000:=dlen_gcd n hd0 l2;refine Calls.hide (fun Q0 hQ0=>?_);go_enter Tryz.func113,Tryz.ntmps113;go_upto_region 0 with(fail);refine wp_region_T [3,3,3] hK ?_;clear hK;refine eA (.cells #[.slice p_h1 l_h1 c_h1] 68) (fun R1=>?_);refine eA (.cells #[.slice p_h2 l_h2 c_h2] 68) (fun R2=>?_);refine eA (.cells #[.bool false,.slice none 0 0,.slice none 0 0] 70) (fun R3=>?_);refine sxEnd (fun W4 hK=>?_);go_upto_region 1 with(fail);refine wp_region_T [1,1,0,1,1,0] hK ?_;clear hK;refine eL m2 ?_;obtain⟨b1,hb1⟩:=nmB (n==0);refine eQ (v:=.bool b1) (fun w k=>isZero_any _ _ w (h1.below k.old)) ?_ (hv:=by rw[hb1.out]);refine e0 ?_
  cases b1
  . --
   refine eL m1 ?_;obtain⟨b2,hb2⟩:=nmB (d==1);refine eQ (v:=.bool b2) (fun w k=>one_any _ _ w (h2.below k.old)) ?_ (hv:=by rw[hb2.out]);refine e0 ?_;refine sxEnd (fun W5 hK=>?_)
   cases b2
   . --
    go_upto_region 3 with(fail);refine wp_region_T [1,1,2,3,4] hK ?_;clear hK;refine eL m2 ?_;refine eL m1 ?_;refine eC (fun w k=>nat_S (gcd_q _ _ _ _ w (h1.below k.old) (h2.below k.old) (by omega) (by omega))) (fun x7=>?_);obtain⟨p6,l6,c6⟩:=x7;dsimp only;refine eA (.cells #[.slice none 0 0] 68) (fun R8=>?_);refine eP 0 0 [.slice p6 l6 c6] ?_;refine sxEnd (fun W9 hK=>?_);go_upto_region 4 with(fail);refine wp_region_T [1,1,0] hK ?_;clear hK;refine eL m0 ?_;obtain⟨b3,hb3⟩:=nmB ((Nat.gcd n d)==1);refine eQ (v:=.bool b3) (fun w k=>one_any _ _ w (k.nf m1)) ?_ (hv:=by rw[hb3.out]);refine e0 ?_;refine sxEnd (fun W10 hK=>?_)
    cases b3
    . --
     go_upto_region 5 with(fail);refine wp_region_T [1,1,2,0,0,0,0,4] hK ?_;clear hK;refine eL m4 ?_;refine eL m0 ?_;refine eC (fun w k=>nat2_S (dm_any _ _ _ _ w (h1.below k.old) (k.nf m1) (by omega) (by omega))) (fun x13=>?_);obtain⟨⟨p11,l11,c11⟩,⟨p12,l12,c12⟩⟩:=x13;dsimp only
     iterate 4 refine e0 ?_
     refine eP 6 0 [.slice p11 l11 c11] ?_;refine sxEnd (fun W14 hK=>?_);go_upto_region 6 with(fail);refine wp_region_T [1,1,2,0,0,0,0,4] hK ?_;clear hK;refine eL m5 ?_;refine eL m2 ?_;refine eC (fun w k=>nat2_S (dm_any _ _ _ _ w (h2.below k.old) (k.nf m3) (by omega) (by omega))) (fun x17=>?_);obtain⟨⟨p15,l15,c15⟩,⟨p16,l16,c16⟩⟩:=x17;dsimp only
     iterate 4 refine e0 ?_
     refine eP 7 0 [.slice p15 l15 c15] ?_;refine sxEnd (fun W18 hK=>?_);go_upto_region 7 with(fail);refine wp_region_T [1,1] hK ?_;clear hK;refine eL m7 ?_;obtain⟨b4,hb4⟩:=nmB ((d/(Nat.gcd n d))==1);refine eQ (v:=.bool b4) (fun w k=>one_any _ _ w (k.nf m0)) ?_ (hv:=by rw[hb4.out]);refine sxEnd (fun W19 hK=>?_)
     cases b4
     . --
      go_upto_region 9 with(fail);refine wp_region_T [0,1,1,0,4] hK ?_;clear hK;refine e0 ?_;refine eL m8 ?_;refine eL m7 ?_;refine e0 ?_;refine eP 6 0 [.bool s,.slice p11 l11 c11,.slice p15 l15 c15] ?_;refine sxEnd (fun W20 hK=>?_);have⟨c90,c91,c92⟩:=(hK.box m6).c3;go_wp2;exact bodyPost_ret (v:=.agg #[.bool s,.slice p11 l11 c11,.slice p15 l15 c15]) (by simp[results,Tryz.results113,go_sem,c90,c91,c92]) rfl (qo hQ0 ⟨_,rfl,(RatV.make hd0 (made_b s hb1.out) rfl (made_3 hb4.out) (hK.nf m2) (hK.nf m0)),hK.old⟩)
     go_upto_region 8 with(fail);refine wp_region_T [0,1,2,4] hK ?_;clear hK;refine e0 ?_;refine eL m8 ?_;refine eC (fun w k=>rat_S (whole_q _ s _ w (k.nf m2))) (fun x22=>?_);obtain⟨⟨p21,l21,c21⟩,⟨q21,u21,d21⟩⟩:=x22;dsimp only;refine eP 7 0 [.bool (isN (ofS s (n/(Nat.gcd n d)) 1)),.slice p21 l21 c21,.slice q21 u21 d21] ?_ (hq:=.inr ⟨rfl,rfl,rfl,rfl,rfl,rfl,rfl,rfl,rfl,trivial⟩);refine sxEnd (fun W23 hK=>?_);have⟨c90,c91,c92⟩:=(hK.box m7).c3;go_wp2;exact bodyPost_ret (v:=.agg #[.bool (isN (ofS s (n/(Nat.gcd n d)) 1)),.slice p21 l21 c21,.slice q21 u21 d21]) (by simp[results,Tryz.results113,go_sem,c90,c91,c92]) rfl (qo hQ0 ⟨_,rfl,((congrArg (RatV _ _) (ofS_g1 s hd0 hb4.out)).mp (hK.q m0)),hK.old⟩)
    go_upto_region 7 with(fail);refine wp_region_T [1,1] hK ?_;clear hK;refine eL m3 ?_;obtain⟨b4,hb4⟩:=nmB (d==1);refine eQ (v:=.bool b4) (fun w k=>one_any _ _ w (h2.below k.old)) ?_ (hv:=by rw[hb4.out]);refine sxEnd (fun W24 hK=>?_)
    cases b4
    . --
     go_upto_region 9 with(fail);refine wp_region_T [0,1,1,0,4] hK ?_;clear hK;refine e0 ?_;refine eL m4 ?_;refine eL m3 ?_;refine e0 ?_;refine eP 2 0 [.bool s,.slice p_h1 l_h1 c_h1,.slice p_h2 l_h2 c_h2] ?_;refine sxEnd (fun W25 hK=>?_);have⟨c90,c91,c92⟩:=(hK.box m2).c3;go_wp2;exact bodyPost_ret (v:=.agg #[.bool s,.slice p_h1 l_h1 c_h1,.slice p_h2 l_h2 c_h2]) (by simp[results,Tryz.results113,go_sem,c90,c91,c92]) rfl (qo hQ0 ⟨_,rfl,(RatV.make hd0 (made_b s hb1.out) (made_1 hb3.out) (made_2 hb3.out hb4.out) (h1.below hK.old) (h2.below hK.old)),hK.old⟩)
    go_upto_region 8 with(fail);refine wp_region_T [0,1,2,4] hK ?_;clear hK;refine e0 ?_;refine eL m4 ?_;refine eC (fun w k=>rat_S (whole_q _ s _ w (h1.below k.old))) (fun x27=>?_);obtain⟨⟨p26,l26,c26⟩,⟨q26,u26,d26⟩⟩:=x27;dsimp only;refine eP 3 0 [.bool (isN (ofS s n 1)),.slice p26 l26 c26,.slice q26 u26 d26] ?_ (hq:=.inr ⟨rfl,rfl,rfl,rfl,rfl,trivial⟩);refine sxEnd (fun W28 hK=>?_);have⟨c90,c91,c92⟩:=(hK.box m3).c3;go_wp2;exact bodyPost_ret (v:=.agg #[.bool (isN (ofS s n 1)),.slice p26 l26 c26,.slice q26 u26 d26]) (by simp[results,Tryz.results113,go_sem,c90,c91,c92]) rfl (qo hQ0 ⟨_,rfl,((congrArg (RatV _ _) (ofS_d1 s hb4.out)).mp (hK.q m0)),hK.old⟩)
   go_upto_region 2 with(fail);refine wp_region_T [0,1,2,4] hK ?_;clear hK;refine e0 ?_;refine eL m2 ?_;refine eC (fun w k=>rat_S (whole_q _ s _ w (h1.below k.old))) (fun x30=>?_);obtain⟨⟨p29,l29,c29⟩,⟨q29,u29,d29⟩⟩:=x30;dsimp only;refine eP 1 0 [.bool (isN (ofS s n 1)),.slice p29 l29 c29,.slice q29 u29 d29] ?_ (hq:=.inr ⟨rfl,rfl,rfl,trivial⟩);refine sxEnd (fun W31 hK=>?_);have⟨c90,c91,c92⟩:=(hK.box m1).c3;go_wp2;exact bodyPost_ret (v:=.agg #[.bool (isN (ofS s n 1)),.slice p29 l29 c29,.slice q29 u29 d29]) (by simp[results,Tryz.results113,go_sem,c90,c91,c92]) rfl (qo hQ0 ⟨_,rfl,((congrArg (RatV _ _) (ofS_d1 s hb2.out)).mp (hK.q m0)),hK.old⟩)
  iterate 2 refine eN ?_
  refine e0 ?_;refine sxEnd (fun W32 hK=>?_);go_upto_region 2 with(fail);refine wp_region_T [0,1,2,4] hK ?_;clear hK;refine e0 ?_;refine eL m2 ?_;refine eC (fun w k=>rat_S (whole_q _ s _ w (h1.below k.old))) (fun x34=>?_);obtain⟨⟨p33,l33,c33⟩,⟨q33,u33,d33⟩⟩:=x34;dsimp only;refine eP 1 0 [.bool (isN (ofS s n 1)),.slice p33 l33 c33,.slice q33 u33 d33] ?_ (hq:=.inr ⟨rfl,rfl,rfl,trivial⟩);refine sxEnd (fun W35 hK=>?_);have⟨c90,c91,c92⟩:=(hK.box m1).c3;go_wp2;exact bodyPost_ret (v:=.agg #[.bool (isN (ofS s n 1)),.slice p33 l33 c33,.slice q33 u33 d33]) (by simp[results,Tryz.results113,go_sem,c90,c91,c92]) rfl (qo hQ0 ⟨_,rfl,((congrArg (RatV _ _) (ofS_n0 s hb1.out)).mp (hK.q m0)),hK.old⟩)
set_option maxRecDepth 100000 in
theorem qint_any (n:Int)(w:World) (n0: -9223372036854775808<=n)(n1:n<=9223372036854775807):
    Calls Tryz.prog 30 #[.int .i64 n] w fun e w'=> ∃y0,e=.returned y0/\RatV w' y0 (((n:Int):Rat))/\Below w.heap.size w w':=by
  have hK:=SS.start w;refine Calls.hide (fun Q0 hQ0=>?_);go_enter Tryz.func30,Tryz.ntmps30;go_upto_region 0 with(fail);refine wp_region_T [3] hK ?_;clear hK;refine eA (.cells #[.bool false,.slice none 0 0,.slice none 0 0] 70) (fun R1=>?_);refine sxEnd (fun W2 hK=>?_);go_upto_region 1 with(fail);refine wp_region_T [0,2,0,0,0,3,4,0] hK ?_;clear hK;refine e0 ?_;obtain⟨b1,hb1⟩:=nmB (decide (n<0));refine eC (fun w k=>(by have q:=nat_S (magnitude_any n w (by omega) (by omega));rw[hb1.out]at q;exact q)) (fun x4=>?_);obtain⟨p3,l3,c3⟩:=x4;dsimp only
  iterate 3 refine e0 ?_
  refine eA (.cells #[.slice none 0 0] 68) (fun R5=>?_);refine eP 0 0 [.slice p3 l3 c3] ?_;refine e0 ?_;refine sxEnd (fun W6 hK=>?_);go_upto_region 2 with(fail);refine wp_region_T [0,1,2,4] hK ?_;clear hK;refine e0 ?_;refine eL m0 ?_;refine eC (fun w k=>rat_S (whole_q _ b1 _ w (k.nf m1))) (fun x8=>?_);obtain⟨⟨p7,l7,c7⟩,⟨q7,u7,d7⟩⟩:=x8;dsimp only;refine eP 3 0 [.bool (isN (ofS b1 n.natAbs 1)),.slice p7 l7 c7,.slice q7 u7 d7] ?_ (hq:=.inr ⟨rfl,rfl,rfl,trivial⟩);refine sxEnd (fun W9 hK=>?_);have⟨c90,c91,c92⟩:=(hK.box m3).c3;go_wp2;exact bodyPost_ret (v:=.agg #[.bool (isN (ofS b1 n.natAbs 1)),.slice p7 l7 c7,.slice q7 u7 d7]) (by simp[results,Tryz.results30,go_sem,c90,c91,c92]) rfl (qo hQ0 ⟨_,rfl,((congrArg (RatV _ _) (by rw[<-hb1.out];exact int_of n)).mp (hK.q m0)),hK.old⟩)
set_option maxRecDepth 100000 in
theorem qmake_any(v1:Value)(v2:Value)(s:Bool)(n:Nat)(d:Nat)(w:World)(h1:NatV w v1 n)(h2:NatV w v2 d)(l1:(digs B32 n).length<=50000)(l2:(digs B32 d).length<=50000):
    Calls Tryz.prog 102 #[.bool s,v1,v2] w fun e w'=> ∃y0,e=.returned (.tuple #[y0,.int .i64 (errD d)])/\RatV w' y0 (ofS s n d)/\Below w.heap.size w w':=by
  obtain⟨p_h1,l_h1,c_h1,rfl⟩:=h1.sl;obtain⟨p_h2,l_h2,c_h2,rfl⟩:=h2.sl;have hK:=SS.start w;refine Calls.hide (fun Q0 hQ0=>?_);go_enter Tryz.func102,Tryz.ntmps102;go_upto_region 0 with(fail);refine wp_region_T [3,3,3,0] hK ?_;clear hK;refine eA (.cells #[.slice p_h1 l_h1 c_h1] 68) (fun R1=>?_);refine eA (.cells #[.slice p_h2 l_h2 c_h2] 68) (fun R2=>?_);refine eA (.cells #[.bool false,.slice none 0 0,.slice none 0 0] 70) (fun R3=>?_);refine e0 ?_;refine sxEnd (fun W4 hK=>?_);go_upto_region 1 with(fail);refine wp_region_T [1,1] hK ?_;clear hK;refine eL m1 ?_;obtain⟨b1,hb1⟩:=nmB (d==0);refine eQ (v:=.bool b1) (fun w k=>isZero_any _ _ w (h2.below k.old)) ?_ (hv:=by rw[hb1.out]);refine sxEnd (fun W5 hK=>?_)
  cases b1
  . --
   go_upto_region 3 with(fail);refine wp_region_T [0,1,1,2,4,0] hK ?_;clear hK;refine e0 ?_;refine eL m2 ?_;refine eL m1 ?_;refine eC (fun w k=>rat_S (reduced_any _ _ s _ _ w (h1.below k.old) (h2.below k.old) (by have:=hb1.out;simp at this;exact this) (by omega) (by omega))) (fun x7=>?_);obtain⟨⟨p6,l6,c6⟩,⟨q6,u6,d6⟩⟩:=x7;dsimp only;refine eP 1 0 [.bool (isN (ofS s n d)),.slice p6 l6 c6,.slice q6 u6 d6] ?_ (hq:=.inr ⟨rfl,rfl,rfl,trivial⟩);refine e0 ?_;refine sxEnd (fun W8 hK=>?_);have⟨c90,c91,c92⟩:=(hK.box m1).c3;go_wp2;exact bodyPost_ret (v:=.tuple #[.agg #[.bool (isN (ofS s n d)),.slice p6 l6 c6,.slice q6 u6 d6],.int .i64 0]) (by simp[results,Tryz.results102,go_sem,c90,c91,c92]) rfl (qo hQ0 ⟨_,(by unfold errD;rw[if_neg (by have:=hb1.out;simp at this;exact this)]),(hK.q m0),hK.old⟩)
  go_upto_region 2 with(fail);refine wp_region_T [0,4,0] hK ?_;clear hK;refine e0 ?_;refine eP 0 0 [.bool false,.slice none 0 0,.slice none 0 0] ?_;refine e0 ?_;refine sxEnd (fun W9 hK=>?_);have⟨c90,c91,c92⟩:=(hK.box m0).c3;go_wp2;exact bodyPost_ret (v:=.tuple #[.agg #[.bool false,.slice none 0 0,.slice none 0 0],.int .i64 10]) (by simp[results,Tryz.results102,go_sem,c90,c91,c92]) rfl (qo hQ0 ⟨_,(by have q:d=0:=(by simpa using hb1.out);rw[q];rfl),(by have q:d=0:=(by simpa using hb1.out);rw[q,ofS_d0];exact RatV.zero _),hK.old⟩)
set_option maxRecDepth 100000 in
theorem qneg_any(v0:Value)(x:Rat)(w:World)(h0:RatV w v0 x):
    Calls Tryz.prog 51 #[v0] w fun e w'=> ∃y0,e=.returned y0/\RatV w' y0 (-x)/\Below w.heap.size w w':=by
  have h0_0:=h0;obtain⟨p_h0,l_h0,c_h0,q_h0,m_h0,d_h0,rfl,h0_1,h0_2⟩:=h0;have hK:=SS.start w;refine Calls.hide (fun Q0 hQ0=>?_);go_enter Tryz.func51,Tryz.ntmps51;go_upto_region 0 with(fail);refine wp_region_T [3,3] hK ?_;clear hK;refine eA (.cells #[.bool (isN x),.slice p_h0 l_h0 c_h0,.slice q_h0 m_h0 d_h0] 70) (fun R1=>?_);refine eA (.cells #[.bool false,.slice none 0 0,.slice none 0 0] 70) (fun R2=>?_);refine sxEnd (fun W3 hK=>?_);go_upto_region 1 with(fail);refine wp_region_T [1,1,0] hK ?_;clear hK;refine eL m1 ?_;obtain⟨z1,hz1⟩:=nmI (sgQ x);refine eQ (v:=.int .i64 z1) (fun w k=>sign_any _ _ w (h0_0.below k.old)) ?_ (hv:=by rw[hz1.out]);refine eB (z1==0) (fun b1 hb1=>?_);refine sxEnd (fun W4 hK=>?_)
  cases b1
  . --
   go_upto_region 3 with(fail);refine wp_region_T [0,1,0,0,1,0,1,0,4] hK ?_;clear hK;refine e0 ?_;refine eL m1 ?_
   iterate 2 refine e0 ?_
   refine eL m1 ?_;refine e0 ?_;refine eL m1 ?_;refine e0 ?_;refine eP 0 0 [.bool (!(isN x)),.slice p_h0 l_h0 c_h0,.slice q_h0 m_h0 d_h0] ?_;refine sxEnd (fun W5 hK=>?_);have⟨c90,c91,c92⟩:=(hK.box m0).c3;go_wp2;exact bodyPost_ret (v:=.agg #[.bool (!(isN x)),.slice p_h0 l_h0 c_h0,.slice q_h0 m_h0 d_h0]) (by simp[results,Tryz.results51,go_sem,c90,c91,c92]) rfl (by obtain rfl:=hQ0.out;exact⟨_,rfl,(RatV.negd (fun e=>by have q:=hb1.out;rw[<-hz1.out,sgQ_zero.2 e]at q;cases q) (h0_1.below hK.old) (h0_2.below hK.old)),hK.old⟩)
  go_upto_region 2 with(fail);refine wp_region_T [1,4] hK ?_;clear hK;refine eL m1 ?_;refine eP 0 0 [.bool (isN x),.slice p_h0 l_h0 c_h0,.slice q_h0 m_h0 d_h0] ?_;refine sxEnd (fun W6 hK=>?_);have⟨c90,c91,c92⟩:=(hK.box m0).c3;go_wp2;exact bodyPost_ret (v:=.agg #[.bool (isN x),.slice p_h0 l_h0 c_h0,.slice q_h0 m_h0 d_h0]) (by simp[results,Tryz.results51,go_sem,c90,c91,c92]) rfl (by obtain rfl:=hQ0.out;exact⟨_,rfl,((congrArg (RatV _ _) (by rw[(sgQ_zero.1 (hz1.out.trans (by simpa using hb1.out)))];rfl)).mp (h0_0.below hK.old)),hK.old⟩)
set_option maxRecDepth 100000 in
theorem qadd_any(v0:Value)(v1:Value)(x:Rat)(y:Rat)(w:World)(h0:RatV w v0 x)(h1:RatV w v1 y) {k:Nat}(hx:LmQ k x)(hy:LmQ k y)(hk:k<=10000):
    Calls Tryz.prog 85 #[v0,v1] w fun e w'=> ∃y0,e=.returned y0/\RatV w' y0 (x+y)/\Below w.heap.size w w':=by
  have h0_0:=h0;obtain⟨p_h0,l_h0,c_h0,q_h0,m_h0,d_h0,rfl,h0_1,h0_2⟩:=h0;have h1_0:=h1;obtain⟨p_h1,l_h1,c_h1,q_h1,m_h1,d_h1,rfl,h1_1,h1_2⟩:=h1;have hK:=SS.start w;have e1:=hx.n.len;have e2:=hy.n.len;have e3:=hx.d0.len;have e4:=hy.d0.len;have e5:(digs B32 (x.num.natAbs*one0 (den0 y))).length<=k+k:=by rw[one0_den0];exact(hx.n.mul hy.d).len
  have e6:(digs B32 (y.num.natAbs*one0 (den0 x))).length<=k+k:=by rw[one0_den0];exact(hy.n.mul hx.d).len
  have e8:(digs B32 (x.den*one0 (den0 y))).length<=k+k:=by rw[one0_den0];exact(hx.d.mul hy.d).len
  have e9:x.den*one0 (den0 y)≠0:=by rw[one0_den0];exact Nat.mul_ne_zero x.den_nz y.den_nz
  have e7:(digs B32 (sgnd (isN x) (x.num.natAbs*one0 (den0 y)) (isN y) (y.num.natAbs*one0 (den0 x))).2).length<=k+k+1:=Lm.len (sgnd_lm (by rw[one0_den0];exact hx.n.mul hy.d) (by rw[one0_den0];exact hy.n.mul hx.d));have e12:(digs B32 (x.num.natAbs*y.num.natAbs)).length<=k+k:=(hx.n.mul hy.n).len;have e10:=hx.d.len;have e11:=hy.d.len;refine Calls.hide (fun Q0 hQ0=>?_);go_enter Tryz.func85,Tryz.ntmps85;go_upto_region 0 with(fail);refine wp_region_T [3,3,3] hK ?_;clear hK;refine eA (.cells #[.bool (isN x),.slice p_h0 l_h0 c_h0,.slice q_h0 m_h0 d_h0] 70) (fun R1=>?_);refine eA (.cells #[.bool (isN y),.slice p_h1 l_h1 c_h1,.slice q_h1 m_h1 d_h1] 70) (fun R2=>?_);refine eA (.cells #[.bool false,.slice none 0 0,.slice none 0 0] 70) (fun R3=>?_);refine sxEnd (fun W4 hK=>?_);go_upto_region 1 with(fail);refine wp_region_T [1,1,0] hK ?_;clear hK;refine eL m2 ?_;obtain⟨z1,hz1⟩:=nmI (sgQ x);refine eQ (v:=.int .i64 z1) (fun w k=>sign_any _ _ w (h0_0.below k.old)) ?_ (hv:=by rw[hz1.out]);refine eB (z1==0) (fun b1 hb1=>?_);refine sxEnd (fun W5 hK=>?_)
  cases b1
  . --
   go_upto_region 3 with(fail);refine wp_region_T [1,1,0] hK ?_;clear hK;refine eL m1 ?_;obtain⟨z2,hz2⟩:=nmI (sgQ y);refine eQ (v:=.int .i64 z2) (fun w k=>sign_any _ _ w (h1_0.below k.old)) ?_ (hv:=by rw[hz2.out]);refine eB (z2==0) (fun b2 hb2=>?_);refine sxEnd (fun W6 hK=>?_)
   cases b2
   . --
    go_upto_region 5 with(fail);refine wp_region_S _ [0,0,0,0,0,0,2,0,0,0,0,0,0,2,2,0,0,0,3,0,4] hK ?_ (sR);clear hK;refine e0 ?_;refine eL0 m2 ?_;refine e0 ?_;refine eL0 m2 ?_;refine e0 ?_;refine eL0 m1 ?_;refine eC (fun w k=>nat_S (qtimes_any _ _ _ _ w (h0_1.below k.old) (h1_2.below k.old) (by omega))) (fun x8=>?_);obtain⟨p7,l7,c7⟩:=x8;dsimp only;refine e0 ?_;refine eL0 m1 ?_;refine e0 ?_;refine eL0 m1 ?_;refine e0 ?_;refine eL0 m2 ?_;refine eC (fun w k=>nat_S (qtimes_any _ _ _ _ w (h1_1.below k.old) (h0_2.below k.old) (by omega))) (fun x10=>?_);obtain⟨p9,l9,c9⟩:=x10;dsimp only;obtain⟨b3,hb3⟩:=nmB ((sgnd (isN x) (x.num.natAbs*one0 (den0 y)) (isN y) (y.num.natAbs*one0 (den0 x))).1);refine eC (fun w k=>(by have q:=nat_S (signed_any _ _ (isN x) _ (isN y) _ w (k.nf m1) (k.nf m0) (by omega) (by omega));rw[hb3.out]at q;exact q)) (fun x12=>?_);obtain⟨p11,l11,c11⟩:=x12;dsimp only
    iterate 3 refine e0 ?_
    refine eA (.cells #[.slice none 0 0] 68) (fun R13=>?_);refine e0 ?_;refine eP 0 0 [.slice p11 l11 c11] ?_ (hs:=(sC2 (sC2 (sC2 (sC2 (sR))))));refine sxEnd (fun W14 hK=>?_);go_upto_region 6 with(fail);refine wp_region_T [0,1,1,0,0,1,1,0] hK ?_;clear hK;refine e0 ?_;refine eL m6 ?_;obtain⟨b4,hb4⟩:=nmB ((den0 x)==0);refine eQ (v:=.bool b4) (fun w k=>isZero_any _ _ w (h0_2.below k.old)) ?_ (hv:=by rw[hb4.out]);refine e0 ?_
    cases b4
    . --
     iterate 3 refine eN ?_
     refine e0 ?_;refine sxEnd (fun W15 hK=>?_);go_upto_region 8 with(fail);refine wp_region_S _ [0,0,0,2,0,0,2,2,4] hK ?_ (sK2 (sK2 (sK2 (sK2 (sC2 (sR))))));clear hK;refine e0 ?_;refine eL0 m0 ?_;refine eL0 m5 ?_;refine eC (fun w k=>nat_S (den_any _ _ w (h0_0.below k.old))) (fun x17=>?_);obtain⟨p16,l16,c16⟩:=x17;dsimp only;refine e0 ?_;refine eL0 m4 ?_;refine eC (fun w k=>nat_S (qtimes_any _ _ _ _ w (k.nf m0) (h1_2.below k.old) (by omega))) (fun x19=>?_);obtain⟨p18,l18,c18⟩:=x19;dsimp only;refine eC (fun w k=>rat_S (reduced_any _ _ b3 _ _ w (k.nf m3) (k.nf m0) (by omega) (by omega) (by omega))) (fun x21=>?_);obtain⟨⟨p20,l20,c20⟩,⟨q20,u20,d20⟩⟩:=x21;dsimp only;refine eP 7 0 [.bool (isN (ofS b3 ((sgnd (isN x) (x.num.natAbs*one0 (den0 y)) (isN y) (y.num.natAbs*one0 (den0 x))).2) (x.den*one0 (den0 y)))),.slice p20 l20 c20,.slice q20 u20 d20] ?_ (hs:=(sC2 (sC2 (sC2 (sK2 (sK2 (sK2 (sK2 (sC2 (sR)))))))))) (hq:=.inr ⟨rfl,rfl,rfl,rfl,rfl,rfl,rfl,rfl,rfl,trivial⟩);refine sxEnd (fun W22 hK=>?_);have⟨c90,c91,c92⟩:=(hK.box m7).c3;go_wp2;exact bodyPost_ret (v:=.agg #[.bool (isN (ofS b3 ((sgnd (isN x) (x.num.natAbs*one0 (den0 y)) (isN y) (y.num.natAbs*one0 (den0 x))).2) (x.den*one0 (den0 y)))),.slice p20 l20 c20,.slice q20 u20 d20]) (by simp[results,Tryz.results85,go_sem,c90,c91,c92]) rfl (qo hQ0 ⟨_,rfl,((congrArg (RatV _ _) (add_made x y hb3.out)).mp (hK.q m0)),hK.old⟩)
    refine e0 ?_;refine eL m5 ?_;obtain⟨b5,hb5⟩:=nmB ((den0 y)==0);refine eQ (v:=.bool b5) (fun w k=>isZero_any _ _ w (h1_2.below k.old)) ?_ (hv:=by rw[hb5.out]);refine e0 ?_;refine sxEnd (fun W23 hK=>?_)
    cases b5
    . --
     go_upto_region 8 with(fail);refine wp_region_S _ [0,0,0,2,0,0,2,2,4] hK ?_ (sK2 (sK2 (sK2 (sK2 (sC2 (sR))))));clear hK;refine e0 ?_;refine eL0 m0 ?_;refine eL0 m5 ?_;refine eC (fun w k=>nat_S (den_any _ _ w (h0_0.below k.old))) (fun x25=>?_);obtain⟨p24,l24,c24⟩:=x25;dsimp only;refine e0 ?_;refine eL0 m4 ?_;refine eC (fun w k=>nat_S (qtimes_any _ _ _ _ w (k.nf m0) (h1_2.below k.old) (by omega))) (fun x27=>?_);obtain⟨p26,l26,c26⟩:=x27;dsimp only;refine eC (fun w k=>rat_S (reduced_any _ _ b3 _ _ w (k.nf m3) (k.nf m0) (by omega) (by omega) (by omega))) (fun x29=>?_);obtain⟨⟨p28,l28,c28⟩,⟨q28,u28,d28⟩⟩:=x29;dsimp only;refine eP 7 0 [.bool (isN (ofS b3 ((sgnd (isN x) (x.num.natAbs*one0 (den0 y)) (isN y) (y.num.natAbs*one0 (den0 x))).2) (x.den*one0 (den0 y)))),.slice p28 l28 c28,.slice q28 u28 d28] ?_ (hs:=(sC2 (sC2 (sC2 (sK2 (sK2 (sK2 (sK2 (sC2 (sR)))))))))) (hq:=.inr ⟨rfl,rfl,rfl,rfl,rfl,rfl,rfl,rfl,rfl,trivial⟩);refine sxEnd (fun W30 hK=>?_);have⟨c90,c91,c92⟩:=(hK.box m7).c3;go_wp2;exact bodyPost_ret (v:=.agg #[.bool (isN (ofS b3 ((sgnd (isN x) (x.num.natAbs*one0 (den0 y)) (isN y) (y.num.natAbs*one0 (den0 x))).2) (x.den*one0 (den0 y)))),.slice p28 l28 c28,.slice q28 u28 d28]) (by simp[results,Tryz.results85,go_sem,c90,c91,c92]) rfl (qo hQ0 ⟨_,rfl,((congrArg (RatV _ _) (add_made x y hb3.out)).mp (hK.q m0)),hK.old⟩)
    go_upto_region 7 with(fail);refine wp_region_T [0,1,2,4] hK ?_;clear hK;refine e0 ?_;refine eL m0 ?_;refine eC (fun w k=>rat_S (whole_q _ b3 _ w (k.nf m1))) (fun x32=>?_);obtain⟨⟨p31,l31,c31⟩,⟨q31,u31,d31⟩⟩:=x32;dsimp only;refine eP 5 0 [.bool (isN (ofS b3 ((sgnd (isN x) (x.num.natAbs*one0 (den0 y)) (isN y) (y.num.natAbs*one0 (den0 x))).2) 1)),.slice p31 l31 c31,.slice q31 u31 d31] ?_ (hq:=.inr ⟨rfl,rfl,rfl,rfl,rfl,rfl,rfl,trivial⟩);refine sxEnd (fun W33 hK=>?_);have⟨c90,c91,c92⟩:=(hK.box m5).c3;go_wp2;exact bodyPost_ret (v:=.agg #[.bool (isN (ofS b3 ((sgnd (isN x) (x.num.natAbs*one0 (den0 y)) (isN y) (y.num.natAbs*one0 (den0 x))).2) 1)),.slice p31 l31 c31,.slice q31 u31 d31]) (by simp[results,Tryz.results85,go_sem,c90,c91,c92]) rfl (qo hQ0 ⟨_,rfl,((congrArg (RatV _ _) (add_whole x y hb3.out hb4.out hb5.out)).mp (hK.q m0)),hK.old⟩)
   go_upto_region 4 with(fail);refine wp_region_T [1,4] hK ?_;clear hK;refine eL m2 ?_;refine eP 0 0 [.bool (isN x),.slice p_h0 l_h0 c_h0,.slice q_h0 m_h0 d_h0] ?_;refine sxEnd (fun W34 hK=>?_);have⟨c90,c91,c92⟩:=(hK.box m0).c3;go_wp2;exact bodyPost_ret (v:=.agg #[.bool (isN x),.slice p_h0 l_h0 c_h0,.slice q_h0 m_h0 d_h0]) (by simp[results,Tryz.results85,go_sem,c90,c91,c92]) rfl (qo hQ0 ⟨_,rfl,((congrArg (RatV _ _) (by rw[(sgQ_zero.1 (hz2.out.trans (by simpa using hb2.out))),Rat.add_zero])).mp (h0_0.below hK.old)),hK.old⟩)
  go_upto_region 2 with(fail);refine wp_region_T [1,4] hK ?_;clear hK;refine eL m1 ?_;refine eP 0 0 [.bool (isN y),.slice p_h1 l_h1 c_h1,.slice q_h1 m_h1 d_h1] ?_;refine sxEnd (fun W35 hK=>?_);have⟨c90,c91,c92⟩:=(hK.box m0).c3;go_wp2;exact bodyPost_ret (v:=.agg #[.bool (isN y),.slice p_h1 l_h1 c_h1,.slice q_h1 m_h1 d_h1]) (by simp[results,Tryz.results85,go_sem,c90,c91,c92]) rfl (qo hQ0 ⟨_,rfl,((congrArg (RatV _ _) (by rw[(sgQ_zero.1 (hz1.out.trans (by simpa using hb1.out))),Rat.zero_add])).mp (h1_0.below hK.old)),hK.old⟩)
set_option maxRecDepth 100000 in
theorem qsub_any(v0:Value)(v1:Value)(x:Rat)(y:Rat)(w:World)(h0:RatV w v0 x)(h1:RatV w v1 y) {k:Nat}(hx:LmQ k x)(hy:LmQ k y)(hk:k<=10000):
    Calls Tryz.prog 87 #[v0,v1] w fun e w'=> ∃y0,e=.returned y0/\RatV w' y0 (x-y)/\Below w.heap.size w w':=by
  have h0_0:=h0;obtain⟨p_h0,l_h0,c_h0,q_h0,m_h0,d_h0,rfl,h0_1,h0_2⟩:=h0;have h1_0:=h1;obtain⟨p_h1,l_h1,c_h1,q_h1,m_h1,d_h1,rfl,h1_1,h1_2⟩:=h1;have hK:=SS.start w;refine Calls.hide (fun Q0 hQ0=>?_);go_enter Tryz.func87,Tryz.ntmps87;go_upto_region 0 with(fail);refine wp_region_T [3,3,3] hK ?_;clear hK;refine eA (.cells #[.bool (isN x),.slice p_h0 l_h0 c_h0,.slice q_h0 m_h0 d_h0] 70) (fun R1=>?_);refine eA (.cells #[.bool (isN y),.slice p_h1 l_h1 c_h1,.slice q_h1 m_h1 d_h1] 70) (fun R2=>?_);refine eA (.cells #[.bool false,.slice none 0 0,.slice none 0 0] 70) (fun R3=>?_);refine sxEnd (fun W4 hK=>?_);go_upto_region 1 with(fail);refine wp_region_S _ [0,0,2,2,4] hK ?_ (sC2 (sR));clear hK;refine eL0 m1 ?_;refine eL0 m0 ?_;refine eC (fun w k=>rat_S (qneg_any _ _ w (h1_0.below k.old))) (fun x6=>?_);obtain⟨⟨p5,l5,c5⟩,⟨q5,u5,d5⟩⟩:=x6;dsimp only;refine eC (fun w k=>rat_S (qadd_any _ _ _ _ w (h0_0.below k.old) (k.q m0) hx hy.neg hk)) (fun x8=>?_);obtain⟨⟨p7,l7,c7⟩,⟨q7,u7,d7⟩⟩:=x8;dsimp only;refine eP 2 0 [.bool (isN (x+(-y))),.slice p7 l7 c7,.slice q7 u7 d7] ?_ (hs:=(sC2 (sC2 (sC2 (sR))))) (hq:=.inr ⟨rfl,rfl,rfl,rfl,trivial⟩);refine sxEnd (fun W9 hK=>?_);have⟨c90,c91,c92⟩:=(hK.box m2).c3;go_wp2;exact bodyPost_ret (v:=.agg #[.bool (isN (x+(-y))),.slice p7 l7 c7,.slice q7 u7 d7]) (by simp[results,Tryz.results87,go_sem,c90,c91,c92]) rfl (qo hQ0 ⟨_,rfl,((congrArg (RatV _ _) (Rat.sub_eq_add_neg x y).symm).mp (hK.q m0)),hK.old⟩)
set_option maxRecDepth 100000 in
theorem qmul_any(v0:Value)(v1:Value)(x:Rat)(y:Rat)(w:World)(h0:RatV w v0 x)(h1:RatV w v1 y) {k:Nat}(hx:LmQ k x)(hy:LmQ k y)(hk:k<=10000):
    Calls Tryz.prog 86 #[v0,v1] w fun e w'=> ∃y0,e=.returned y0/\RatV w' y0 (x*y)/\Below w.heap.size w w':=by
  have h0_0:=h0;obtain⟨p_h0,l_h0,c_h0,q_h0,m_h0,d_h0,rfl,h0_1,h0_2⟩:=h0;have h1_0:=h1;obtain⟨p_h1,l_h1,c_h1,q_h1,m_h1,d_h1,rfl,h1_1,h1_2⟩:=h1;have hK:=SS.start w;have e1:=hx.n.len;have e2:=hy.n.len;have e3:=hx.d0.len;have e4:=hy.d0.len;have e5:(digs B32 (x.num.natAbs*one0 (den0 y))).length<=k+k:=by rw[one0_den0];exact(hx.n.mul hy.d).len
  have e6:(digs B32 (y.num.natAbs*one0 (den0 x))).length<=k+k:=by rw[one0_den0];exact(hy.n.mul hx.d).len
  have e8:(digs B32 (x.den*one0 (den0 y))).length<=k+k:=by rw[one0_den0];exact(hx.d.mul hy.d).len
  have e9:x.den*one0 (den0 y)≠0:=by rw[one0_den0];exact Nat.mul_ne_zero x.den_nz y.den_nz
  have e7:(digs B32 (sgnd (isN x) (x.num.natAbs*one0 (den0 y)) (isN y) (y.num.natAbs*one0 (den0 x))).2).length<=k+k+1:=Lm.len (sgnd_lm (by rw[one0_den0];exact hx.n.mul hy.d) (by rw[one0_den0];exact hy.n.mul hx.d));have e12:(digs B32 (x.num.natAbs*y.num.natAbs)).length<=k+k:=(hx.n.mul hy.n).len;have e10:=hx.d.len;have e11:=hy.d.len;refine Calls.hide (fun Q0 hQ0=>?_);go_enter Tryz.func86,Tryz.ntmps86;go_upto_region 0 with(fail);refine wp_region_T [3,3,3] hK ?_;clear hK;refine eA (.cells #[.bool (isN x),.slice p_h0 l_h0 c_h0,.slice q_h0 m_h0 d_h0] 70) (fun R1=>?_);refine eA (.cells #[.bool (isN y),.slice p_h1 l_h1 c_h1,.slice q_h1 m_h1 d_h1] 70) (fun R2=>?_);refine eA (.cells #[.bool false,.slice none 0 0,.slice none 0 0] 70) (fun R3=>?_);refine sxEnd (fun W4 hK=>?_);go_upto_region 1 with(fail);refine wp_region_T [0,1,0,1,2,3,4] hK ?_;clear hK;refine e0 ?_;refine eL m2 ?_;refine e0 ?_;refine eL m1 ?_;refine eC (fun w k=>nat_S (mul_any _ _ _ _ w (h0_1.below k.old) (h1_1.below k.old) (by omega))) (fun x6=>?_);obtain⟨p5,l5,c5⟩:=x6;dsimp only;refine eA (.cells #[.slice none 0 0] 68) (fun R7=>?_);refine eP 0 0 [.slice p5 l5 c5] ?_;refine sxEnd (fun W8 hK=>?_);go_upto_region 2 with(fail);refine wp_region_T [0,1,1,0,0,1,1,0] hK ?_;clear hK;refine e0 ?_;refine eL m4 ?_;obtain⟨b1,hb1⟩:=nmB ((den0 x)==0);refine eQ (v:=.bool b1) (fun w k=>isZero_any _ _ w (h0_2.below k.old)) ?_ (hv:=by rw[hb1.out]);refine e0 ?_
  cases b1
  . --
   iterate 3 refine eN ?_
   refine e0 ?_;refine sxEnd (fun W9 hK=>?_);go_upto_region 4 with(fail);refine wp_region_S _ [0,0,0,0,0,0,0,2,0,0,2,2,4] hK ?_ (sK2 (sK2 (sC2 (sR))));clear hK;refine e0 ?_;refine eL0 m3 ?_;refine e0 ?_;refine eL0 m2 ?_;refine e0 ?_;refine eL0 m0 ?_;refine eL0 m3 ?_;refine eC (fun w k=>nat_S (den_any _ _ w (h0_0.below k.old))) (fun x11=>?_);obtain⟨p10,l10,c10⟩:=x11;dsimp only;refine e0 ?_;refine eL0 m2 ?_;refine eC (fun w k=>nat_S (qtimes_any _ _ _ _ w (k.nf m0) (h1_2.below k.old) (by omega))) (fun x13=>?_);obtain⟨p12,l12,c12⟩:=x13;dsimp only;refine eC (fun w k=>rat_S (reduced_any _ _ (((isN x)) !=((isN y))) _ _ w (k.nf m3) (k.nf m0) (by omega) (by omega) (by omega))) (fun x15=>?_);obtain⟨⟨p14,l14,c14⟩,⟨q14,u14,d14⟩⟩:=x15;dsimp only;refine eP 5 0 [.bool (isN (ofS (((isN x)) !=((isN y))) (x.num.natAbs*y.num.natAbs) (x.den*one0 (den0 y)))),.slice p14 l14 c14,.slice q14 u14 d14] ?_ (hs:=(sC2 (sC2 (sC2 (sK2 (sK2 (sC2 (sR)))))))) (hq:=.inr ⟨rfl,rfl,rfl,rfl,rfl,rfl,rfl,trivial⟩);refine sxEnd (fun W16 hK=>?_);have⟨c90,c91,c92⟩:=(hK.box m5).c3;go_wp2;exact bodyPost_ret (v:=.agg #[.bool (isN (ofS (((isN x)) !=((isN y))) (x.num.natAbs*y.num.natAbs) (x.den*one0 (den0 y)))),.slice p14 l14 c14,.slice q14 u14 d14]) (by simp[results,Tryz.results86,go_sem,c90,c91,c92]) rfl (qo hQ0 ⟨_,rfl,((congrArg (RatV _ _) (mul_made x y)).mp (hK.q m0)),hK.old⟩)
  refine e0 ?_;refine eL m3 ?_;obtain⟨b2,hb2⟩:=nmB ((den0 y)==0);refine eQ (v:=.bool b2) (fun w k=>isZero_any _ _ w (h1_2.below k.old)) ?_ (hv:=by rw[hb2.out]);refine e0 ?_;refine sxEnd (fun W17 hK=>?_)
  cases b2
  . --
   go_upto_region 4 with(fail);refine wp_region_S _ [0,0,0,0,0,0,0,2,0,0,2,2,4] hK ?_ (sK2 (sK2 (sC2 (sR))));clear hK;refine e0 ?_;refine eL0 m3 ?_;refine e0 ?_;refine eL0 m2 ?_;refine e0 ?_;refine eL0 m0 ?_;refine eL0 m3 ?_;refine eC (fun w k=>nat_S (den_any _ _ w (h0_0.below k.old))) (fun x19=>?_);obtain⟨p18,l18,c18⟩:=x19;dsimp only;refine e0 ?_;refine eL0 m2 ?_;refine eC (fun w k=>nat_S (qtimes_any _ _ _ _ w (k.nf m0) (h1_2.below k.old) (by omega))) (fun x21=>?_);obtain⟨p20,l20,c20⟩:=x21;dsimp only;refine eC (fun w k=>rat_S (reduced_any _ _ (((isN x)) !=((isN y))) _ _ w (k.nf m3) (k.nf m0) (by omega) (by omega) (by omega))) (fun x23=>?_);obtain⟨⟨p22,l22,c22⟩,⟨q22,u22,d22⟩⟩:=x23;dsimp only;refine eP 5 0 [.bool (isN (ofS (((isN x)) !=((isN y))) (x.num.natAbs*y.num.natAbs) (x.den*one0 (den0 y)))),.slice p22 l22 c22,.slice q22 u22 d22] ?_ (hs:=(sC2 (sC2 (sC2 (sK2 (sK2 (sC2 (sR)))))))) (hq:=.inr ⟨rfl,rfl,rfl,rfl,rfl,rfl,rfl,trivial⟩);refine sxEnd (fun W24 hK=>?_);have⟨c90,c91,c92⟩:=(hK.box m5).c3;go_wp2;exact bodyPost_ret (v:=.agg #[.bool (isN (ofS (((isN x)) !=((isN y))) (x.num.natAbs*y.num.natAbs) (x.den*one0 (den0 y)))),.slice p22 l22 c22,.slice q22 u22 d22]) (by simp[results,Tryz.results86,go_sem,c90,c91,c92]) rfl (qo hQ0 ⟨_,rfl,((congrArg (RatV _ _) (mul_made x y)).mp (hK.q m0)),hK.old⟩)
  go_upto_region 3 with(fail);refine wp_region_T [0,1,0,1,0,1,2,4] hK ?_;clear hK;refine e0 ?_;refine eL m4 ?_;refine e0 ?_;refine eL m3 ?_;refine e0 ?_;refine eL m0 ?_;refine eC (fun w k=>rat_S (whole_q _ (((isN x)) !=((isN y))) _ w (k.nf m1))) (fun x26=>?_);obtain⟨⟨p25,l25,c25⟩,⟨q25,u25,d25⟩⟩:=x26;dsimp only;refine eP 3 0 [.bool (isN (ofS (((isN x)) !=((isN y))) (x.num.natAbs*y.num.natAbs) 1)),.slice p25 l25 c25,.slice q25 u25 d25] ?_ (hq:=.inr ⟨rfl,rfl,rfl,rfl,rfl,trivial⟩);refine sxEnd (fun W27 hK=>?_);have⟨c90,c91,c92⟩:=(hK.box m3).c3;go_wp2;exact bodyPost_ret (v:=.agg #[.bool (isN (ofS (((isN x)) !=((isN y))) (x.num.natAbs*y.num.natAbs) 1)),.slice p25 l25 c25,.slice q25 u25 d25]) (by simp[results,Tryz.results86,go_sem,c90,c91,c92]) rfl (qo hQ0 ⟨_,rfl,((congrArg (RatV _ _) (mul_whole x y hb1.out hb2.out)).mp (hK.q m0)),hK.old⟩)
set_option maxRecDepth 100000 in
theorem qdiv_any(v0:Value)(v1:Value)(x:Rat)(y:Rat)(w:World)(h0:RatV w v0 x)(h1:RatV w v1 y) {k:Nat}(hx:LmQ k x)(hy:LmQ k y)(hk:k<=10000):
    Calls Tryz.prog 117 #[v0,v1] w fun e w'=> ∃y0,e=.returned (.tuple #[y0,.int .i64 (if y=0 then 10 else 0)])/\RatV w' y0 (x/y)/\Below w.heap.size w w':=by
  have h0_0:=h0;obtain⟨p_h0,l_h0,c_h0,q_h0,m_h0,d_h0,rfl,h0_1,h0_2⟩:=h0;have h1_0:=h1;obtain⟨p_h1,l_h1,c_h1,q_h1,m_h1,d_h1,rfl,h1_1,h1_2⟩:=h1;have hK:=SS.start w;have e1:=hx.n.len;have e2:=hy.n.len;have e3:=hx.d0.len;have e4:=hy.d0.len;have e5:(digs B32 (x.num.natAbs*one0 (den0 y))).length<=k+k:=by rw[one0_den0];exact(hx.n.mul hy.d).len
  have e6:(digs B32 (y.num.natAbs*one0 (den0 x))).length<=k+k:=by rw[one0_den0];exact(hy.n.mul hx.d).len
  have e8:(digs B32 (x.den*one0 (den0 y))).length<=k+k:=by rw[one0_den0];exact(hx.d.mul hy.d).len
  have e9:x.den*one0 (den0 y)≠0:=by rw[one0_den0];exact Nat.mul_ne_zero x.den_nz y.den_nz
  have e7:(digs B32 (sgnd (isN x) (x.num.natAbs*one0 (den0 y)) (isN y) (y.num.natAbs*one0 (den0 x))).2).length<=k+k+1:=Lm.len (sgnd_lm (by rw[one0_den0];exact hx.n.mul hy.d) (by rw[one0_den0];exact hy.n.mul hx.d));have e12:(digs B32 (x.num.natAbs*y.num.natAbs)).length<=k+k:=(hx.n.mul hy.n).len;have e10:=hx.d.len;have e11:=hy.d.len;refine Calls.hide (fun Q0 hQ0=>?_);go_enter Tryz.func117,Tryz.ntmps117;go_upto_region 0 with(fail);refine wp_region_T [3,3,3,0] hK ?_;clear hK;refine eA (.cells #[.bool (isN x),.slice p_h0 l_h0 c_h0,.slice q_h0 m_h0 d_h0] 70) (fun R1=>?_);refine eA (.cells #[.bool (isN y),.slice p_h1 l_h1 c_h1,.slice q_h1 m_h1 d_h1] 70) (fun R2=>?_);refine eA (.cells #[.bool false,.slice none 0 0,.slice none 0 0] 70) (fun R3=>?_);refine e0 ?_;refine sxEnd (fun W4 hK=>?_);go_upto_region 1 with(fail);refine wp_region_T [1,1,0] hK ?_;clear hK;refine eL m1 ?_;obtain⟨z1,hz1⟩:=nmI (sgQ y);refine eQ (v:=.int .i64 z1) (fun w k=>sign_any _ _ w (h1_0.below k.old)) ?_ (hv:=by rw[hz1.out]);refine eB (z1==0) (fun b1 hb1=>?_);refine sxEnd (fun W5 hK=>?_)
  cases b1
  . --
   go_upto_region 3 with(fail);refine wp_region_S _ [0,0,0,0,0,0,0,0,0,2,0,0,0,0,2,2,4,0] hK ?_ (sC2 (sR));clear hK;refine e0 ?_;refine eL0 m1 ?_;refine e0 ?_;refine eL0 m0 ?_
   iterate 2 refine e0 ?_
   refine eL0 m1 ?_;refine e0 ?_;refine eL0 m0 ?_;refine eC (fun w k=>nat_S (qtimes_any _ _ _ _ w (h0_1.below k.old) (h1_2.below k.old) (by omega))) (fun x7=>?_);obtain⟨p6,l6,c6⟩:=x7;dsimp only;refine e0 ?_;refine eL0 m0 ?_;refine e0 ?_;refine eL0 m1 ?_;refine eC (fun w k=>nat_S (qtimes_any _ _ _ _ w (h1_1.below k.old) (h0_2.below k.old) (by omega))) (fun x9=>?_);obtain⟨p8,l8,c8⟩:=x9;dsimp only;refine eC (fun w k=>rat_S (reduced_any _ _ (((isN x)) !=((isN y))) _ _ w (k.nf m1) (k.nf m0) (Nat.mul_ne_zero (fun e=>absurd ((natAbs_zero y).1 e) (fun e=>by have q:=hb1.out;rw[<-hz1.out,sgQ_zero.2 e]at q;cases q)) (by rw[one0_den0];exact x.den_nz)) (by omega) (by omega))) (fun x11=>?_);obtain⟨⟨p10,l10,c10⟩,⟨q10,u10,d10⟩⟩:=x11;dsimp only;refine eP 3 0 [.bool (isN (ofS (((isN x)) !=((isN y))) (x.num.natAbs*one0 (den0 y)) (y.num.natAbs*one0 (den0 x)))),.slice p10 l10 c10,.slice q10 u10 d10] ?_ (hs:=(sC2 (sC2 (sC2 (sC2 (sR)))))) (hq:=.inr ⟨rfl,rfl,rfl,rfl,rfl,trivial⟩);refine e0 ?_;refine sxEnd (fun W12 hK=>?_);have⟨c90,c91,c92⟩:=(hK.box m3).c3;go_wp2;exact bodyPost_ret (v:=.tuple #[.agg #[.bool (isN (ofS (((isN x)) !=((isN y))) (x.num.natAbs*one0 (den0 y)) (y.num.natAbs*one0 (den0 x)))),.slice p10 l10 c10,.slice q10 u10 d10],.int .i64 0]) (by simp[results,Tryz.results117,go_sem,c90,c91,c92]) rfl (by obtain rfl:=hQ0.out;exact⟨_,(by rw[if_neg (fun e=>by have q:=hb1.out;rw[<-hz1.out,sgQ_zero.2 e]at q;cases q)]),((congrArg (RatV _ _) (div_made x (fun e=>by have q:=hb1.out;rw[<-hz1.out,sgQ_zero.2 e]at q;cases q))).mp (hK.q m0)),hK.old⟩)
  go_upto_region 2 with(fail);refine wp_region_T [0,4,0] hK ?_;clear hK;refine e0 ?_;refine eP 0 0 [.bool false,.slice none 0 0,.slice none 0 0] ?_;refine e0 ?_;refine sxEnd (fun W13 hK=>?_);have⟨c90,c91,c92⟩:=(hK.box m0).c3;go_wp2;exact bodyPost_ret (v:=.tuple #[.agg #[.bool false,.slice none 0 0,.slice none 0 0],.int .i64 10]) (by simp[results,Tryz.results117,go_sem,c90,c91,c92]) rfl (by obtain rfl:=hQ0.out;exact⟨_,(by rw[if_pos (sgQ_zero.1 (hz1.out.trans (by simpa using hb1.out)))]),(by rw[(sgQ_zero.1 (hz1.out.trans (by simpa using hb1.out))),div_zero'];exact RatV.zero _),hK.old⟩)
set_option maxRecDepth 100000 in
theorem qcmp_any(v0:Value)(v1:Value)(x:Rat)(y:Rat)(w:World)(h0:RatV w v0 x)(h1:RatV w v1 y) {k:Nat}(hx:LmQ k x)(hy:LmQ k y)(hk:k<=10000):
    Calls Tryz.prog 88 #[v0,v1] w fun e w'=>e=.returned (.int .i64 (sgQ (x-y)))/\Below w.heap.size w w':=by
  have h0_0:=h0;obtain⟨p_h0,l_h0,c_h0,q_h0,m_h0,d_h0,rfl,h0_1,h0_2⟩:=h0;have h1_0:=h1;obtain⟨p_h1,l_h1,c_h1,q_h1,m_h1,d_h1,rfl,h1_1,h1_2⟩:=h1;have hK:=SS.start w;have e1:=hx.n.len;have e2:=hy.n.len;have e3:=hx.d0.len;have e4:=hy.d0.len;have e5:(digs B32 (x.num.natAbs*one0 (den0 y))).length<=k+k:=by rw[one0_den0];exact(hx.n.mul hy.d).len
  have e6:(digs B32 (y.num.natAbs*one0 (den0 x))).length<=k+k:=by rw[one0_den0];exact(hy.n.mul hx.d).len
  have e8:(digs B32 (x.den*one0 (den0 y))).length<=k+k:=by rw[one0_den0];exact(hx.d.mul hy.d).len
  have e9:x.den*one0 (den0 y)≠0:=by rw[one0_den0];exact Nat.mul_ne_zero x.den_nz y.den_nz
  have e7:(digs B32 (sgnd (isN x) (x.num.natAbs*one0 (den0 y)) (isN y) (y.num.natAbs*one0 (den0 x))).2).length<=k+k+1:=Lm.len (sgnd_lm (by rw[one0_den0];exact hx.n.mul hy.d) (by rw[one0_den0];exact hy.n.mul hx.d));have e12:(digs B32 (x.num.natAbs*y.num.natAbs)).length<=k+k:=(hx.n.mul hy.n).len;have e10:=hx.d.len;have e11:=hy.d.len;refine Calls.hide (fun Q0 hQ0=>?_);go_enter Tryz.func88,Tryz.ntmps88;go_upto_region 0 with(fail);refine wp_region_T [3,3,0] hK ?_;clear hK;refine eA (.cells #[.bool (isN x),.slice p_h0 l_h0 c_h0,.slice q_h0 m_h0 d_h0] 70) (fun R1=>?_);refine eA (.cells #[.bool (isN y),.slice p_h1 l_h1 c_h1,.slice q_h1 m_h1 d_h1] 70) (fun R2=>?_);refine e0 ?_;refine sxEnd (fun W3 hK=>?_);go_upto_region 1 with(fail);refine wp_region_S _ [0,1,0,1,0,0] hK ?_ (sR);clear hK;refine eL0 m1 ?_;obtain⟨z1,hz1⟩:=nmI (sgQ x);refine eQ (v:=.int .i64 z1) (fun w k=>sign_any _ _ w (h0_0.below k.old)) ?_ (hv:=by rw[hz1.out]);refine eL0 m0 ?_;obtain⟨z2,hz2⟩:=nmI (sgQ y);refine eQ (v:=.int .i64 z2) (fun w k=>sign_any _ _ w (h1_0.below k.old)) ?_ (hv:=by rw[hz2.out])
  iterate 2 refine e0 ?_
  refine sxEnd (fun W4 hK=>?_);go_upto_region 2 with(fail);refine wp_region_T [0,0,0] hK ?_;clear hK
  iterate 2 refine e0 ?_
  refine eB (z1 !=z2) (fun b1 hb1=>?_);refine sxEnd (fun W5 hK=>?_)
  cases b1
  . --
   go_upto_region 6 with(fail);refine wp_region_T [0,0] hK ?_;clear hK;refine e0 ?_;refine eB (z1==0) (fun b2 hb2=>?_);refine sxEnd (fun W6 hK=>?_)
   cases b2
   . --
    go_upto_region 8 with(fail);refine wp_region_S _ [0,0,0,0,0,2,0,0,0,0,2,1,0,0] hK ?_ (sR);clear hK
    iterate 2 refine e0 ?_
    refine eL0 m1 ?_;refine e0 ?_;refine eL0 m0 ?_;refine eC (fun w k=>nat_S (qtimes_any _ _ _ _ w (h0_1.below k.old) (h1_2.below k.old) (by omega))) (fun x8=>?_);obtain⟨p7,l7,c7⟩:=x8;dsimp only;refine e0 ?_;refine eL0 m0 ?_;refine e0 ?_;refine eL0 m1 ?_;refine eC (fun w k=>nat_S (qtimes_any _ _ _ _ w (h1_1.below k.old) (h0_2.below k.old) (by omega))) (fun x10=>?_);obtain⟨p9,l9,c9⟩:=x10;dsimp only;obtain⟨z3,hz3⟩:=nmI (cmpN (x.num.natAbs*one0 (den0 y)) (y.num.natAbs*one0 (den0 x)));refine eQ (v:=.int .i64 z3) (fun w k=>cmp_any _ _ _ _ w (k.nf m1) (k.nf m0) (by omega) (by omega)) ?_ (hv:=by rw[hz3.out]);refine eV (.int .i64 (sgQ (x-y))) (fun w'=>by go_simp;(try go_bits);have q3:=(cmpN_rng hz3.out).1;have q4:=(cmpN_rng hz3.out).2;have q5:=(by have q:=hb1.out;simp at q;exact q);exact⟨congrArg _ (by rw[cmp_made (by rw[hz1.out,hz2.out,q5]) (by rw[hz1.out];have q:=hb2.out;simpa using q) hz3.out,hz1.out];rcases sg_cases hz1.out with e|e|e<;>rw[e]<;>unfold wrap64<;>omega),rfl⟩) ?_;refine e0 ?_;refine sxEnd (fun W11 hK=>?_);go_wp2
    try go_ret
    show Q0 (.returned (.int .i64 (sgQ (x-y)))) _
    exact(qo hQ0 ⟨rfl,hK.old⟩)
   go_wp2
   try go_ret
   show Q0 (.returned (.int .i64 0)) _
   exact(qo hQ0 ⟨(by have q:=(by have q:=hb1.out;simp at q;exact q);have q2:=hb2.out;simp at q2;rw[sgQ_zero.1 (hz1.out.trans q2),sgQ_zero.1 (hz2.out.trans (q▸q2)),Rat.sub_self,sgQ_zero.2 rfl]),hK.old⟩)
  go_upto_region 3 with(fail);refine wp_region_T [0,0,0] hK ?_;clear hK
  iterate 2 refine e0 ?_
  refine eB (decide (z1<z2)) (fun b2 hb2=>?_);refine sxEnd (fun W12 hK=>?_)
  cases b2
  . --
   have q_b2:=nlt hb2;go_wp2
   try go_ret
   show Q0 (.returned (.int .i64 1)) _
   exact(qo hQ0 ⟨(by rw[cmp_signs_gt (by rw[hz1.out,hz2.out];have q:=hb1.out;simp at q;omega)]),hK.old⟩)
  have q_b2:=ylt hb2;go_wp2
  try go_ret
  show Q0 (.returned (.int .i64 (-1))) _
  exact(qo hQ0 ⟨(by rw[cmp_signs_lt (by rw[hz1.out,hz2.out];exact q_b2)]),hK.old⟩)
end
section
theorem d6_of{k n:Nat}(h:Lm k n)(hk:k<=25000):(digs B6 n).length<=50000:=Nat.le_trans h.len6 (by omega)
theorem int_len6{z:Int}(h0: -9223372036854775808<=z)(h1:z<=9223372036854775807):(digs B6 z.natAbs).length<=50000:=d6_of (k:=2) (by
  have:B32^2=18446744073709551616:=by decide
  show _<_
  omega) (by decide)
theorem Lm.one:Lm 1 1:=by show _<_;decide
theorem den_t{x:Rat}(h:(((digs B6 (den0 x)).length:Int)==0)=true):1=x.den:=((den0_zero x).1 (len6_zero h)).symm
theorem den_f{x:Rat}(h:(((digs B6 (den0 x)).length:Int)==0)=false):den0 x=x.den:=by
  have:=len6_pos h;have h2:=one0_den0 x;unfold one0 at h2
  rwa [if_neg this]at h2
theorem digs6_1:digs B6 1=[1]:=by
  rw[digs_pos b6_2 (by decide),Nat.mod_eq_of_lt (by decide),Nat.div_eq_of_lt (by decide),digs_zero]
theorem beq1_t{a:Nat}(h:((a:Int)==1)=true):a=1:=by
  have:(a:Int)=1:=by simpa using h
  omega
theorem beq1_f{a:Nat}(h:((a:Int)==1)=false):a≠1:=fun e=>by subst e;cases h
theorem gcd6_len{n d:Nat}(h1:(digs B6 n).length<=50000)(h2:(digs B6 d).length<=50000):(digs B6 (Nat.gcd n d)).length<=50000:=by
  rcases Nat.eq_zero_or_pos d with h|h
  . rw[h,Nat.gcd_zero_right];exact h1
  exact digs6_mono (Nat.le_of_dvd h (Nat.gcd_dvd_right n d)) h2
theorem make_b0(s:Bool){n d:Nat}(_hd:d≠0)(h:n/Nat.gcd n d=0):false=(s&&decide (n≠0)):=by
  have:n=0:=by
    rcases Nat.eq_zero_or_pos n with h1|h1
    . exact h1
    have:=Nat.div_pos (Nat.le_of_dvd h1 (Nat.gcd_dvd_left n d)) (Nat.gcd_pos_of_pos_left d h1);omega
  simp[this]
theorem make_b1(s:Bool){n g:Nat}(h:n/g≠0):s=(s&&decide (n≠0)):=by
  have:n≠0:=fun e=>h (by rw[e];simp)
  simp[this]
theorem ofS_00(s:Bool)(n:Nat):ofS s n 0=0:=ofS_d0 s n
theorem radd_t{x y:Rat}(h:(isN x==isN y)=true):ofS (isN x) (x.num.natAbs*y.den+y.num.natAbs*x.den) (x.den*y.den)=x+y:=add_of (by
  have e:isN x=isN y:=by simpa using h
  rw[<-e];exact(sgn_add _ _ _).symm)
theorem cmpN_ge{n m:Nat}{z:Int}(hz:cmpN n m=z)(h:decide (0<=z)=true):m<=n:=by
  have:0<=z:=by simpa using h
  rw[<-hz]at this;unfold cmpN at this
  split at this<;>omega
theorem cmpN_lt'{n m:Nat}{z:Int}(hz:cmpN n m=z)(h:decide (0<=z)=false):n<m:=by
  have:¬0<=z:=by simpa using h
  rw[<-hz]at this;unfold cmpN at this
  split at this
  . assumption
  split at this<;>omega
theorem not_of_beq{a b:Bool}(h:(a==b)=false):b= !a:=by revert h;cases a<;>cases b<;>decide
theorem radd_ft{x y:Rat}{z:Int}(h:(isN x==isN y)=false)(hz:cmpN (x.num.natAbs*y.den) (y.num.natAbs*x.den)=z)(h2:decide (0<=z)=true):ofS (isN x) (x.num.natAbs*y.den-y.num.natAbs*x.den) (x.den*y.den)=x+y:=add_of (by
  rw[not_of_beq h];exact(sgn_sub _ (cmpN_ge hz h2)).symm)
theorem radd_ff{x y:Rat}{z:Int}(h:(isN x==isN y)=false)(hz:cmpN (x.num.natAbs*y.den) (y.num.natAbs*x.den)=z)(h2:decide (0<=z)=false):ofS (isN y) (y.num.natAbs*x.den-x.num.natAbs*y.den) (x.den*y.den)=x+y:=add_of (by
  have e:isN x= !isN y:=by rw[not_of_beq h];simp
  rw[e,Int.add_comm];exact(sgn_sub _ (Nat.le_of_lt (cmpN_lt' hz h2))).symm)
theorem sgQ_n0{x:Rat}(h:x.num.natAbs=0):sgQ x=0:=by unfold sgQ;rw[if_pos h]
theorem sgQ_n1{x:Rat}{b:Bool}(h:x.num.natAbs≠0)(hb:isN x=b):sgQ x=if b then-1 else 1:=by unfold sgQ;rw[if_neg h,hb]
theorem len6_lt{n:Nat}{b:Bool}(h:decide (0<((digs B6 n).length:Int))=b):(n=0↔b=false):=by
  rw[<-h];constructor
  . intro e;rw[e,digs_zero];rfl
  intro e;have:¬0<((digs B6 n).length:Int):=by simpa using e
  exact(digs_eq_nil b6_2).1 (List.eq_nil_of_length_eq_zero (by omega))
set_option maxRecDepth 100000 in
theorem rone_q(v0:Value)(x:Rat)(w:World)(h0:RefR w v0 x):
    Calls Tryz.prog 45 #[v0] w fun e w'=> ∃y0,e=.returned y0/\RefV w' y0 (x.den)/\Below w.heap.size w w':=by
  have h0_0:=h0;obtain⟨p_h0,c_h0,q_h0,d_h0,rfl,h0_1,h0_2⟩:=h0.slr;have hK:=SS.start w;refine Calls.hide (fun Q0 hQ0=>?_);go_enter Tryz.func45,Tryz.ntmps45;go_upto_region 0 with(fail);refine wp_region_T [3,0] hK ?_;clear hK;refine eA (.cells #[.bool (isN x),.slice p_h0 (digs B6 (numQ x)).length c_h0,.slice q_h0 (digs B6 (den0 x)).length d_h0] 34) (fun R1=>?_);refine e0 ?_;refine sxEnd (fun W2 hK=>?_);go_upto_region 1 with(fail);refine wp_region_T [0,1,0,0] hK ?_;clear hK;refine e0 ?_;refine eL m0 ?_;refine e0 ?_;refine eB ((((digs B6 (den0 x)).length:Int))==0) (fun b1 hb1=>?_);refine sxEnd (fun W3 hK=>?_)
  cases b1
  . --
   go_upto_region 3 with(fail);refine wp_region_T [0,1,0] hK ?_;clear hK;refine e0 ?_;refine eL m0 ?_;refine e0 ?_;refine sxEnd (fun W4 hK=>?_);go_wp2
   try go_ret
   show Q0 (.returned (.slice q_h0 (digs B6 (den0 x)).length d_h0)) _
   exact(qo hQ0 ⟨_,rfl,((congrArg (RefV _ _) (den_f hb1.out)).mp (h0_2.below hK.old)),hK.old⟩)
  go_upto_region 2 with(fail);refine wp_region_T [2,0] hK ?_;clear hK;refine eC (fun w k=>ref_V (rof_any 1 w (by omega))) (fun x6=>?_);obtain⟨p5,c5⟩:=x6;dsimp only;refine e0 ?_;refine sxEnd (fun W7 hK=>?_);go_wp2
  try go_ret
  show Q0 (.returned (.slice p5 (digs B6 1).length c5)) _
  exact(qo hQ0 ⟨_,rfl,((congrArg (RefV _ _) (den_t hb1.out)).mp (hK.vf m0)),hK.old⟩)
theorem RefV.oneC{W:World}{p:Option Addr}{n c:Nat}(h:RefV W (.slice p (digs B6 n).length c) n):Hid ((((digs B6 n).length:Int)==1)=false)\/ ∃g,p=some ⟨g,0,none⟩/\Hid ((((digs B6 n).length:Int)==1)=true):=by
  cases e:(((digs B6 n).length:Int)==1)with
  |false=>exact .inl (hid rfl)
  |true=>obtain⟨g,rfl⟩:=h.one e;exact .inr ⟨g,rfl,hid rfl⟩
theorem one6{n:Nat}(h:(((digs B6 n).length:Int)==1)=false):n≠1:=fun e=>by subst e;rw[digs6_1]at h;cases h
theorem vF_eq{V w:World}{l:List Ft}{v:Value}{n m:Nat}(h:SS V (vF v n::l) w)(e:n=m):SS V (vF v m::l) w:=e▸h
set_option maxRecDepth 100000 in
theorem rmake_q(v1:Value)(v2:Value)(s:Bool)(n:Nat)(d:Nat)(w:World)(h1:RefV w v1 n)(h2:RefV w v2 d)(l1:(digs B6 n).length<=50000)(l2:(digs B6 d).length<=50000):
    Calls Tryz.prog 73 #[.bool s,v1,v2] w fun e w'=> ∃y0,e=.returned (.tuple #[y0,.int .i64 (if d=0 then 10 else 0)])/\RefR w' y0 (ofS s n d)/\Below w.heap.size w w':=by
  obtain⟨p_h1,c_h1,rfl⟩:=h1.slr;obtain⟨p_h2,c_h2,rfl⟩:=h2.slr;have hK:=SS.start w;have l3:(digs B6 (Nat.gcd n d)).length<=50000:=gcd6_len l1 l2;refine Calls.hide (fun Q0 hQ0=>?_);go_enter Tryz.func73,Tryz.ntmps73;go_upto_region 0 with(fail);refine wp_region_T [3,0] hK ?_;clear hK;refine eA (.cells #[.bool false,.slice none 0 0,.slice none 0 0] 34) (fun R1=>?_);refine e0 ?_;refine sxEnd (fun W2 hK=>?_);go_upto_region 1 with(fail);refine wp_region_T [0,0,0] hK ?_;clear hK
  iterate 2 refine e0 ?_
  refine eB ((((digs B6 d).length:Int))==0) (fun b1 hb1=>?_);refine sxEnd (fun W3 hK=>?_)
  cases b1
  . --
   have hd0:d≠0:=len6_pos hb1.out;go_upto_region 3 with(fail);refine wp_region_T [0,0,2,0] hK ?_;clear hK
   iterate 2 refine e0 ?_
   refine eC (fun w k=>ref_V (rgcd_any _ _ _ _ w (h1.below k.old) (h2.below k.old) (by omega) (by omega))) (fun x5=>?_);obtain⟨p4,c4⟩:=x5;dsimp only;refine e0 ?_;refine sxEnd (fun W6 hK=>?_);go_upto_region 4 with(fail);refine wp_region_T [0,0,2,0,0,0,0,0,0,0] hK ?_;clear hK
   iterate 2 refine e0 ?_
   refine eC (fun w k=>ref2_V (rdm_any _ _ _ _ w (h1.below k.old) (k.vf m0) (by omega) (by omega))) (fun x9=>?_);obtain⟨⟨p7,c7⟩,⟨p8,c8⟩⟩:=x9;dsimp only
   iterate 7 refine e0 ?_
   refine sxEnd (fun W10 hK=>?_);go_upto_region 5 with(fail);refine wp_region_T [0,0,2,0,0,0,0,0,0,0] hK ?_;clear hK
   iterate 2 refine e0 ?_
   refine eC (fun w k=>ref2_V (rdm_any _ _ _ _ w (h2.below k.old) (k.vf m2) (by omega) (by omega))) (fun x13=>?_);obtain⟨⟨p11,c11⟩,⟨p12,c12⟩⟩:=x13;dsimp only
   iterate 7 refine e0 ?_
   refine sxEnd (fun W14 hK=>?_)
   rcases(hK.vf m0).oneC with hbl|⟨g1,rfl,hbl⟩
   . --
    go_upto_region 6 with(fail);refine wp_region_T [0,0,0,0,0,0,0,0,0] hK ?_;clear hK
    iterate 2 refine e0 ?_
    refine eV (.bool false) (fun w'=>by go_simp;(try go_bits);exact⟨congrArg Value.bool hbl.out,rfl⟩) ?_;refine e0 ?_
    iterate 4 refine eN ?_
    refine e0 ?_;refine sxEnd (fun W15 hK=>?_);go_upto_if 44 with(fail);go_cut [12]from 9999 to 9999 (fun s12 wl=> ∃(dp:Option Addr) (dl:Nat) (dc:Nat),s12=.slice dp dl dc/\SS w ([vF (.slice dp dl dc) (if d/Nat.gcd n d=1 then 0 else d/Nat.gcd n d),vF (.slice p12 (digs B6 (rem0 d (Nat.gcd n d))).length c12) (rem0 d (Nat.gcd n d)),vF (.slice p7 (digs B6 (n/(Nat.gcd n d))).length c7) (n/(Nat.gcd n d)),vF (.slice p8 (digs B6 (rem0 n (Nat.gcd n d))).length c8) (rem0 n (Nat.gcd n d)),vF (.slice p4 (digs B6 (Nat.gcd n d)).length c4) (Nat.gcd n d),bx R1 (.cells #[.bool false,.slice none 0 0,.slice none 0 0] 34)]) wl)
    case first=>
     replace hK:=vF_eq (m:=(if d/Nat.gcd n d=1 then 0 else d/Nat.gcd n d)) hK (if_neg (one6 hbl.out)).symm
     (try go_wp2)
     go_meet
     case rel=>exact⟨p11,(digs B6 (d/(Nat.gcd n d))).length,c11,(by first|rfl|go_num),hK⟩
    clear hK;obtain⟨dp,dl,dc,rfl,hK⟩:=hcut;generalize wc=W16 at hK⊢;go_upto_region 8 with(fail);refine wp_region_T [0,0,0] hK ?_;clear hK
    iterate 2 refine e0 ?_
    refine eB ((((digs B6 (n/(Nat.gcd n d))).length:Int))==0) (fun b2 hb2=>?_);refine sxEnd (fun W17 hK=>?_);go_upto_if 47 with(fail);go_cut [9,0]from 9999 to 9999 (fun s9 s0 wl=> ∃(np:Option Addr) (nl:Nat) (nc:Nat),s9=.slice np nl nc/\s0=.bool (s&&decide (n≠0))/\SS w ([vF (.slice np nl nc) (n/Nat.gcd n d),vF (.slice dp dl dc) (if d/Nat.gcd n d=1 then 0 else d/Nat.gcd n d),vF (.slice p12 (digs B6 (rem0 d (Nat.gcd n d))).length c12) (rem0 d (Nat.gcd n d)),vF (.slice p8 (digs B6 (rem0 n (Nat.gcd n d))).length c8) (rem0 n (Nat.gcd n d)),vF (.slice p4 (digs B6 (Nat.gcd n d)).length c4) (Nat.gcd n d),bx R1 (.cells #[.bool false,.slice none 0 0,.slice none 0 0] 34)]) wl)
    case first=>
     cases b2
     . --
      (try go_wp2)
      go_meet
      case rel=>exact⟨p7,(digs B6 (n/(Nat.gcd n d))).length,c7,(by first|rfl|go_num),(congrArg Value.bool (make_b1 s (len6_pos hb2.out))),hK.up5.up5.up5.up4.up4.up5⟩
     have hz9:=len6_zero hb2.out;replace hK:=hK.fact (vF (.slice none 0 0) 0) (RefV.zero _);replace hK:=vF_eq (m:=n/Nat.gcd n d) hK hz9.symm
     (try go_wp2)
     go_meet
     case rel=>exact⟨none,0,0,(by first|rfl|go_num),(congrArg Value.bool (make_b0 s hd0 hz9)),(hK.subl (sK2 (sK2 (sK2 (sC2 (sR))))))⟩
    clear hK;obtain⟨np,nl,nc,rfl,rfl,hK⟩:=hcut;generalize wc=W18 at hK⊢;go_upto_region 10 with(fail);refine wp_region_T [0,0,0,0,4,0] hK ?_;clear hK
    iterate 4 refine e0 ?_
    refine eP 5 0 [.bool (s&&decide (n≠0)),.slice np nl nc,.slice dp dl dc] ?_;refine e0 ?_;refine sxEnd (fun W19 hK=>?_);have⟨c90,c91,c92⟩:=(hK.box m5).c3;go_wp2;exact bodyPost_ret (v:=.tuple #[.agg #[.bool (s&&decide (n≠0)),.slice np nl nc,.slice dp dl dc],.int .i64 0]) (by simp[results,Tryz.results73,go_sem,c90,c91,c92]) rfl (qo hQ0 ⟨_,(by rw[if_neg hd0]),(RefR.make hd0 rfl rfl rfl (hK.vf m0) (hK.vf m1)),hK.old⟩)
   go_upto_region 6 with(fail);refine wp_region_T [0,0,0,0,0,0,1,0,0] hK ?_;clear hK
   iterate 2 refine e0 ?_
   refine eV (.bool true) (fun w'=>by go_simp;(try go_bits);exact⟨congrArg Value.bool hbl.out,rfl⟩) ?_
   iterate 2 refine e0 ?_
   refine eV (.pointer (some ⟨g1,0,none⟩)) (fun w'=>by go_simp;(try go_bits);(have hq:=digs6_one hbl.out);rw[hq];exact⟨rfl,rfl⟩) ?_;refine eR (fun w k=>RefV.cell1 (k.vf m0) hbl.out) ?_;refine eB ((((d/Nat.gcd n d:Nat):Int))==1) (fun b2 hb2=>?_);refine e0 ?_;refine sxEnd (fun W20 hK=>?_);go_upto_if 44 with(fail);go_cut [12]from 9999 to 9999 (fun s12 wl=> ∃(dp:Option Addr) (dl:Nat) (dc:Nat),s12=.slice dp dl dc/\SS w ([vF (.slice dp dl dc) (if d/Nat.gcd n d=1 then 0 else d/Nat.gcd n d),vF (.slice p12 (digs B6 (rem0 d (Nat.gcd n d))).length c12) (rem0 d (Nat.gcd n d)),vF (.slice p7 (digs B6 (n/(Nat.gcd n d))).length c7) (n/(Nat.gcd n d)),vF (.slice p8 (digs B6 (rem0 n (Nat.gcd n d))).length c8) (rem0 n (Nat.gcd n d)),vF (.slice p4 (digs B6 (Nat.gcd n d)).length c4) (Nat.gcd n d),bx R1 (.cells #[.bool false,.slice none 0 0,.slice none 0 0] 34)]) wl)
   case first=>
    cases b2
    . --
     replace hK:=vF_eq (m:=(if d/Nat.gcd n d=1 then 0 else d/Nat.gcd n d)) hK (if_neg (beq1_f hb2.out)).symm
     (try go_wp2)
     go_meet
     case rel=>exact⟨(some ⟨g1,0,none⟩),(digs B6 (d/(Nat.gcd n d))).length,c11,(by first|rfl|go_num),hK⟩
    replace hK:=hK.fact (vF (.slice none 0 0) 0) (RefV.zero _);replace hK:=vF_eq (m:=(if d/Nat.gcd n d=1 then 0 else d/Nat.gcd n d)) hK (if_pos (beq1_t hb2.out)).symm
    (try go_wp2)
    go_meet
    case rel=>exact⟨none,0,0,(by first|rfl|go_num),(hK.subl (sK2 (sC2 (sR))))⟩
   clear hK;obtain⟨dp,dl,dc,rfl,hK⟩:=hcut;generalize wc=W21 at hK⊢;go_upto_region 8 with(fail);refine wp_region_T [0,0,0] hK ?_;clear hK
   iterate 2 refine e0 ?_
   refine eB ((((digs B6 (n/(Nat.gcd n d))).length:Int))==0) (fun b3 hb3=>?_);refine sxEnd (fun W22 hK=>?_);go_upto_if 47 with(fail);go_cut [9,0]from 9999 to 9999 (fun s9 s0 wl=> ∃(np:Option Addr) (nl:Nat) (nc:Nat),s9=.slice np nl nc/\s0=.bool (s&&decide (n≠0))/\SS w ([vF (.slice np nl nc) (n/Nat.gcd n d),vF (.slice dp dl dc) (if d/Nat.gcd n d=1 then 0 else d/Nat.gcd n d),vF (.slice p12 (digs B6 (rem0 d (Nat.gcd n d))).length c12) (rem0 d (Nat.gcd n d)),vF (.slice p8 (digs B6 (rem0 n (Nat.gcd n d))).length c8) (rem0 n (Nat.gcd n d)),vF (.slice p4 (digs B6 (Nat.gcd n d)).length c4) (Nat.gcd n d),bx R1 (.cells #[.bool false,.slice none 0 0,.slice none 0 0] 34)]) wl)
   case first=>
    cases b3
    . --
     (try go_wp2)
     go_meet
     case rel=>exact⟨p7,(digs B6 (n/(Nat.gcd n d))).length,c7,(by first|rfl|go_num),(congrArg Value.bool (make_b1 s (len6_pos hb3.out))),hK.up5.up5.up5.up4.up4.up5⟩
    have hz9:=len6_zero hb3.out;replace hK:=hK.fact (vF (.slice none 0 0) 0) (RefV.zero _);replace hK:=vF_eq (m:=n/Nat.gcd n d) hK hz9.symm
    (try go_wp2)
    go_meet
    case rel=>exact⟨none,0,0,(by first|rfl|go_num),(congrArg Value.bool (make_b0 s hd0 hz9)),(hK.subl (sK2 (sK2 (sK2 (sC2 (sR))))))⟩
   clear hK;obtain⟨np,nl,nc,rfl,rfl,hK⟩:=hcut;generalize wc=W23 at hK⊢;go_upto_region 10 with(fail);refine wp_region_T [0,0,0,0,4,0] hK ?_;clear hK
   iterate 4 refine e0 ?_
   refine eP 5 0 [.bool (s&&decide (n≠0)),.slice np nl nc,.slice dp dl dc] ?_;refine e0 ?_;refine sxEnd (fun W24 hK=>?_);have⟨c90,c91,c92⟩:=(hK.box m5).c3;go_wp2;exact bodyPost_ret (v:=.tuple #[.agg #[.bool (s&&decide (n≠0)),.slice np nl nc,.slice dp dl dc],.int .i64 0]) (by simp[results,Tryz.results73,go_sem,c90,c91,c92]) rfl (qo hQ0 ⟨_,(by rw[if_neg hd0]),(RefR.make hd0 rfl rfl rfl (hK.vf m0) (hK.vf m1)),hK.old⟩)
  go_upto_region 2 with(fail);refine wp_region_T [0,4,0] hK ?_;clear hK;refine e0 ?_;refine eP 0 0 [.bool false,.slice none 0 0,.slice none 0 0] ?_;refine e0 ?_;refine sxEnd (fun W25 hK=>?_);have⟨c90,c91,c92⟩:=(hK.box m0).c3;go_wp2;exact bodyPost_ret (v:=.tuple #[.agg #[.bool false,.slice none 0 0,.slice none 0 0],.int .i64 10]) (by simp[results,Tryz.results73,go_sem,c90,c91,c92]) rfl (qo hQ0 ⟨_,(by rw[if_pos (len6_zero hb1.out)]),(by rw[len6_zero hb1.out,ofS_00];exact RefR.zero _),hK.old⟩)
set_option maxRecDepth 100000 in
theorem rmade_q(v1:Value)(v2:Value)(s:Bool)(n:Nat)(d:Nat)(w:World)(h1:RefV w v1 n)(h2:RefV w v2 d)(l1:(digs B6 n).length<=50000)(l2:(digs B6 d).length<=50000):
    Calls Tryz.prog 40 #[.bool s,v1,v2] w fun e w'=> ∃y0,e=.returned y0/\RefR w' y0 (ofS s n d)/\Below w.heap.size w w':=by
  obtain⟨p_h1,c_h1,rfl⟩:=h1.slr;obtain⟨p_h2,c_h2,rfl⟩:=h2.slr;have hK:=SS.start w;refine Calls.hide (fun Q0 hQ0=>?_);go_enter Tryz.func40,Tryz.ntmps40;go_upto_region 0 with(fail);refine wp_region_T [3] hK ?_;clear hK;refine eA (.cells #[.bool false,.slice none 0 0,.slice none 0 0] 34) (fun R1=>?_);refine sxEnd (fun W2 hK=>?_);go_upto_region 1 with(fail);refine wp_region_T [0,0,0,2,0,0,0,3,4,0] hK ?_;clear hK
  iterate 3 refine e0 ?_
  obtain⟨z1,hz1⟩:=nmI (if d=0 then 10 else 0);refine eC (fun w k=>(by have q:=ref2_S (rmake_q _ _ s _ _ w (h1.below k.old) (h2.below k.old) (by omega) (by omega));rw[hz1.out]at q;exact q)) (fun x4=>?_);obtain⟨⟨p3,l3,c3⟩,⟨q3,u3,d3⟩⟩:=x4;dsimp only
  iterate 3 refine e0 ?_
  refine eA (.cells #[.bool false,.slice none 0 0,.slice none 0 0] 34) (fun R5=>?_);refine eP 0 0 [.bool (isN (ofS s n d)),.slice p3 l3 c3,.slice q3 u3 d3] ?_ (hq:=.inr ⟨rfl,rfl,trivial⟩);refine e0 ?_;refine sxEnd (fun W6 hK=>?_);go_upto_region 2 with(fail);refine wp_region_T [1,4] hK ?_;clear hK;refine eL m0 ?_;refine eP 2 0 [.bool (isN (ofS s n d)),.slice p3 l3 c3,.slice q3 u3 d3] ?_ (hq:=.inr ⟨rfl,rfl,trivial⟩);refine sxEnd (fun W7 hK=>?_);have⟨c90,c91,c92⟩:=(hK.box m2).c3;go_wp2;exact bodyPost_ret (v:=.agg #[.bool (isN (ofS s n d)),.slice p3 l3 c3,.slice q3 u3 d3]) (by simp[results,Tryz.results40,go_sem,c90,c91,c92]) rfl (qo hQ0 ⟨_,rfl,(hK.rq m1),hK.old⟩)
set_option maxRecDepth 100000 in
theorem rsize_q (n:Int)(w:World) (n0: -9223372036854775808<=n)(n1:n<=9223372036854775807):
    Calls Tryz.prog 41 #[.int .i64 n] w fun e w'=> ∃y0,e=.returned y0/\RefV w' y0 (n.natAbs)/\Below w.heap.size w w':=by
  have hK:=SS.start w;refine Calls.hide (fun Q0 hQ0=>?_);go_enter Tryz.func41,Tryz.ntmps41;go_upto_region 1 with(fail);refine wp_region_T [0,0] hK ?_;clear hK;refine e0 ?_;refine eB (decide (n<0)) (fun b1 hb1=>?_);refine sxEnd (fun W1 hK=>?_)
  cases b1
  . --
   have q_b1:=nlt hb1;go_upto_region 3 with(fail);refine wp_region_T [0,0,2,0] hK ?_;clear hK;refine e0 ?_;refine eV (.int .u64 (n.natAbs:Int)) (fun w'=>by go_simp;(try go_bits);exact⟨congrArg _ (by omega),rfl⟩) ?_;refine eC (fun w k=>ref_V (rof_any n.natAbs w (by omega))) (fun x3=>?_);obtain⟨p2,c2⟩:=x3;dsimp only;refine e0 ?_;refine sxEnd (fun W4 hK=>?_);go_wp2
   try go_ret
   show Q0 (.returned (.slice p2 (digs B6 n.natAbs).length c2)) _
   exact(qo hQ0 ⟨_,rfl,(hK.vf m0),hK.old⟩)
  have q_b1:=ylt hb1;go_upto_region 2 with(fail);refine wp_region_T [0,0,0,0,0,2,0] hK ?_;clear hK
  iterate 4 refine e0 ?_
  refine eV (.int .u64 (n.natAbs:Int)) (fun w'=>by go_simp;(try go_bits);exact⟨congrArg _ (by omega),rfl⟩) ?_;refine eC (fun w k=>ref_V (rof_any n.natAbs w (by omega))) (fun x6=>?_);obtain⟨p5,c5⟩:=x6;dsimp only;refine e0 ?_;refine sxEnd (fun W7 hK=>?_);go_wp2
  try go_ret
  show Q0 (.returned (.slice p5 (digs B6 n.natAbs).length c5)) _
  exact(qo hQ0 ⟨_,rfl,(hK.vf m0),hK.old⟩)
set_option maxRecDepth 100000 in
theorem rof_q (n:Int)(d:Int)(w:World) (n0: -9223372036854775808<=n)(n1:n<=9223372036854775807)(d0: -9223372036854775808<=d)(d1:d<=9223372036854775807):
    Calls Tryz.prog 16 #[.int .i64 n,.int .i64 d] w fun e w'=> ∃y0,e=.returned y0/\RefR w' y0 (((n:Int):Rat)/((d:Int):Rat))/\Below w.heap.size w w':=by
  have hK:=SS.start w;have l1:=int_len6 n0 n1;have l2:=int_len6 d0 d1;refine Calls.hide (fun Q0 hQ0=>?_);go_enter Tryz.func16,Tryz.ntmps16;go_upto_region 0 with(fail);refine wp_region_T [3] hK ?_;clear hK;refine eA (.cells #[.bool false,.slice none 0 0,.slice none 0 0] 34) (fun R1=>?_);refine sxEnd (fun W2 hK=>?_);go_upto_region 1 with(fail);refine wp_region_T [0,0,0,0,0,0,2,0,2,2,4] hK ?_;clear hK;refine e0 ?_;refine eB (decide (n<0)) (fun b1 hb1=>?_);refine e0 ?_;refine eB (decide (d<0)) (fun b2 hb2=>?_)
  iterate 2 refine e0 ?_
  refine eC (fun w k=>ref_V (rsize_q n w (by omega) (by omega))) (fun x4=>?_);obtain⟨p3,c3⟩:=x4;dsimp only;refine e0 ?_;refine eC (fun w k=>ref_V (rsize_q d w (by omega) (by omega))) (fun x6=>?_);obtain⟨p5,c5⟩:=x6;dsimp only;refine eC (fun w k=>ref_S (rmade_q _ _ (b1 !=b2) _ _ w (k.vf m1) (k.vf m0) (by omega) (by omega))) (fun x8=>?_);obtain⟨⟨p7,l7,c7⟩,⟨q7,u7,d7⟩⟩:=x8;dsimp only;refine eP 3 0 [.bool (isN (ofS (b1 !=b2) n.natAbs d.natAbs)),.slice p7 l7 c7,.slice q7 u7 d7] ?_ (hq:=.inr ⟨rfl,rfl,rfl,trivial⟩);refine sxEnd (fun W9 hK=>?_);have⟨c90,c91,c92⟩:=(hK.box m3).c3;go_wp2;exact bodyPost_ret (v:=.agg #[.bool (isN (ofS (b1 !=b2) n.natAbs d.natAbs)),.slice p7 l7 c7,.slice q7 u7 d7]) (by simp[results,Tryz.results16,go_sem,c90,c91,c92]) rfl (qo hQ0 ⟨_,rfl,((congrArg (RefR _ _) (by rw[<-hb1.out, <-hb2.out];exact quo_ints n d)).mp (hK.rq m0)),hK.old⟩)
set_option maxRecDepth 100000 in
theorem rint_q (n:Int)(w:World) (n0: -9223372036854775808<=n)(n1:n<=9223372036854775807):
    Calls Tryz.prog 49 #[.int .i64 n] w fun e w'=> ∃y0,e=.returned y0/\RefR w' y0 (((n:Int):Rat))/\Below w.heap.size w w':=by
  have hK:=SS.start w;refine Calls.hide (fun Q0 hQ0=>?_);go_enter Tryz.func49,Tryz.ntmps49;go_upto_region 0 with(fail);refine wp_region_T [3] hK ?_;clear hK;refine eA (.cells #[.bool false,.slice none 0 0,.slice none 0 0] 34) (fun R1=>?_);refine sxEnd (fun W2 hK=>?_);go_upto_region 1 with(fail);refine wp_region_T [0,2,4] hK ?_;clear hK;refine e0 ?_;refine eC (fun w k=>ref_S (rof_q n 1 w (by omega) (by omega) (by omega) (by omega))) (fun x4=>?_);obtain⟨⟨p3,l3,c3⟩,⟨q3,u3,d3⟩⟩:=x4;dsimp only;refine eP 1 0 [.bool (isN (((n:Int):Rat)/((1:Int):Rat))),.slice p3 l3 c3,.slice q3 u3 d3] ?_ (hq:=.inr ⟨rfl,trivial⟩);refine sxEnd (fun W5 hK=>?_);have⟨c90,c91,c92⟩:=(hK.box m1).c3;go_wp2;exact bodyPost_ret (v:=.agg #[.bool (isN (((n:Int):Rat)/((1:Int):Rat))),.slice p3 l3 c3,.slice q3 u3 d3]) (by simp[results,Tryz.results49,go_sem,c90,c91,c92]) rfl (qo hQ0 ⟨_,rfl,((congrArg (RefR _ _) (by rw[<-quo_ints n 1];show ofS (decide (n<0) !=false) n.natAbs 1=_;rw[Bool.bne_false];exact int_of n)).mp (hK.rq m0)),hK.old⟩)
set_option maxRecDepth 100000 in
theorem rneg_q(v0:Value)(x:Rat)(w:World)(h0:RefR w v0 x) {k:Nat}(hx:LmQ k x)(hk:k<=10000):
    Calls Tryz.prog 53 #[v0] w fun e w'=> ∃y0,e=.returned y0/\RefR w' y0 (-x)/\Below w.heap.size w w':=by
  have h0_0:=h0;obtain⟨p_h0,c_h0,q_h0,d_h0,rfl,h0_1,h0_2⟩:=h0.slr;have hK:=SS.start w;have e1:(digs B6 (numQ x)).length<=50000:=d6_of hx.n (by omega);have e2:=d6_of hx.d (by omega);refine Calls.hide (fun Q0 hQ0=>?_);go_enter Tryz.func53,Tryz.ntmps53;go_upto_region 0 with(fail);refine wp_region_T [3,3] hK ?_;clear hK;refine eA (.cells #[.bool (isN x),.slice p_h0 (digs B6 (numQ x)).length c_h0,.slice q_h0 (digs B6 (den0 x)).length d_h0] 34) (fun R1=>?_);refine eA (.cells #[.bool false,.slice none 0 0,.slice none 0 0] 34) (fun R2=>?_);refine sxEnd (fun W3 hK=>?_);go_upto_region 1 with(fail);refine wp_region_S _ [0,0,0,0,0,0,2,2,4] hK ?_ (sC2 (sR));clear hK;refine e0 ?_;refine eL0 m0 ?_
  iterate 2 refine e0 ?_
  iterate 2 refine eL0 m0 ?_
  refine eC (fun w k=>ref_V (rone_q _ _ w (h0_0.below k.old))) (fun x5=>?_);obtain⟨p4,c4⟩:=x5;dsimp only;refine eC (fun w k=>ref_S (rmade_q _ _ (!(isN x)) _ _ w (h0_1.below k.old) (k.vf m0) (by omega) (by omega))) (fun x7=>?_);obtain⟨⟨p6,l6,c6⟩,⟨q6,u6,d6⟩⟩:=x7;dsimp only;refine eP 2 0 [.bool (isN (ofS (!(isN x)) (numQ x) x.den)),.slice p6 l6 c6,.slice q6 u6 d6] ?_ (hs:=(sC2 (sC2 (sC2 (sR))))) (hq:=.inr ⟨rfl,rfl,rfl,trivial⟩);refine sxEnd (fun W8 hK=>?_);have⟨c90,c91,c92⟩:=(hK.box m2).c3;go_wp2;exact bodyPost_ret (v:=.agg #[.bool (isN (ofS (!(isN x)) (numQ x) x.den)),.slice p6 l6 c6,.slice q6 u6 d6]) (by simp[results,Tryz.results53,go_sem,c90,c91,c92]) rfl (qo hQ0 ⟨_,rfl,((congrArg (RefR _ _) (by rw[<-ofS_neg];exact congrArg _ (ofS_self x))).mp (hK.rq m0)),hK.old⟩)
set_option maxRecDepth 100000 in
theorem radd_q(v0:Value)(v1:Value)(x:Rat)(y:Rat)(w:World)(h0:RefR w v0 x)(h1:RefR w v1 y) {k:Nat}(hx:LmQ k x)(hy:LmQ k y)(hk:k<=10000):
    Calls Tryz.prog 22 #[v0,v1] w fun e w'=> ∃y0,e=.returned y0/\RefR w' y0 (x+y)/\Below w.heap.size w w':=by
  have h0_0:=h0;obtain⟨p_h0,c_h0,q_h0,d_h0,rfl,h0_1,h0_2⟩:=h0.slr;have h1_0:=h1;obtain⟨p_h1,c_h1,q_h1,d_h1,rfl,h1_1,h1_2⟩:=h1.slr;have hK:=SS.start w;have e1:(digs B6 (numQ x)).length<=50000:=d6_of hx.n (by omega);have e2:=d6_of hx.d (by omega);have e3:(digs B6 (numQ y)).length<=50000:=d6_of hy.n (by omega);have e4:=d6_of hy.d (by omega);have e5:(digs B6 (numQ x*y.den)).length<=50000:=d6_of (hx.n.mul hy.d) (by omega);have e6:(digs B6 (numQ y*x.den)).length<=50000:=d6_of (hy.n.mul hx.d) (by omega);have e7:=d6_of (hx.d.mul hy.d) (by omega);have e8:(digs B6 (numQ x*y.den+numQ y*x.den)).length<=50000:=d6_of ((hx.n.mul hy.d).add (hy.n.mul hx.d)) (by omega);have e9:(digs B6 (numQ x*y.den-numQ y*x.den)).length<=50000:=d6_of (hx.n.mul hy.d).sub (by omega);have e10:(digs B6 (numQ y*x.den-numQ x*y.den)).length<=50000:=d6_of (hy.n.mul hx.d).sub (by omega);have e11:(digs B6 (numQ x*numQ y)).length<=50000:=d6_of (hx.n.mul hy.n) (by omega);have e12:(digs B6 (x.den*numQ y)).length<=50000:=d6_of (hx.d.mul hy.n) (by omega);refine Calls.hide (fun Q0 hQ0=>?_);go_enter Tryz.func22,Tryz.ntmps22;go_upto_region 0 with(fail);refine wp_region_T [3,3,3] hK ?_;clear hK;refine eA (.cells #[.bool (isN x),.slice p_h0 (digs B6 (numQ x)).length c_h0,.slice q_h0 (digs B6 (den0 x)).length d_h0] 34) (fun R1=>?_);refine eA (.cells #[.bool (isN y),.slice p_h1 (digs B6 (numQ y)).length c_h1,.slice q_h1 (digs B6 (den0 y)).length d_h1] 34) (fun R2=>?_);refine eA (.cells #[.bool false,.slice none 0 0,.slice none 0 0] 34) (fun R3=>?_);refine sxEnd (fun W4 hK=>?_);go_upto_region 1 with(fail);refine wp_region_S _ [0,0,0,2,2,0,0,0,2,2,0,0] hK ?_ (sR);clear hK;refine e0 ?_;refine eL0 m2 ?_;refine eL0 m1 ?_;refine eC (fun w k=>ref_V (rone_q _ _ w (h1_0.below k.old))) (fun x6=>?_);obtain⟨p5,c5⟩:=x6;dsimp only;refine eC (fun w k=>ref_V (rmul_any _ _ _ _ w (h0_1.below k.old) (k.vf m0) (by omega) (by omega))) (fun x8=>?_);obtain⟨p7,c7⟩:=x8;dsimp only;refine e0 ?_;refine eL0 m1 ?_;refine eL0 m2 ?_;refine eC (fun w k=>ref_V (rone_q _ _ w (h0_0.below k.old))) (fun x10=>?_)
  obtain⟨p9,c9⟩:=x10;dsimp only;refine eC (fun w k=>ref_V (rmul_any _ _ _ _ w (h1_1.below k.old) (k.vf m0) (by omega) (by omega))) (fun x12=>?_);obtain⟨p11,c11⟩:=x12;dsimp only
  iterate 2 refine e0 ?_
  refine sxEnd (fun W13 hK=>?_);go_upto_region 2 with(fail);refine wp_region_S _ [0,2,0,2,2,0] hK ?_ (sR);clear hK;refine eL0 m6 ?_;refine eC (fun w k=>ref_V (rone_q _ _ w (h0_0.below k.old))) (fun x15=>?_);obtain⟨p14,c14⟩:=x15;dsimp only;refine eL0 m5 ?_;refine eC (fun w k=>ref_V (rone_q _ _ w (h1_0.below k.old))) (fun x17=>?_);obtain⟨p16,c16⟩:=x17;dsimp only;refine eC (fun w k=>ref_V (rmul_any _ _ _ _ w (k.vf m1) (k.vf m0) (by omega) (by omega))) (fun x19=>?_);obtain⟨p18,c18⟩:=x19;dsimp only;refine e0 ?_;refine sxEnd (fun W20 hK=>?_);go_upto_region 3 with(fail);refine wp_region_T [0,1,0,1,0,0] hK ?_;clear hK;refine e0 ?_;refine eL m9 ?_;refine e0 ?_;refine eL m8 ?_;refine eB (((isN x))==((isN y))) (fun b1 hb1=>?_);refine e0 ?_;refine sxEnd (fun W21 hK=>?_)
  cases b1
  . --
   go_upto_region 5 with(fail);refine wp_region_T [0,0,1,0,0] hK ?_;clear hK
   iterate 2 refine e0 ?_
   obtain⟨z1,hz1⟩:=nmI (cmpN ((numQ x)*y.den) ((numQ y)*x.den));refine eQ (v:=.int .i64 z1) (fun w k=>rcmp_any _ _ _ _ w (k.vf m5) (k.vf m3) (by omega) (by omega)) ?_ (hv:=by rw[hz1.out]);refine eB (decide (0<=z1)) (fun b2 hb2=>?_);refine e0 ?_;refine sxEnd (fun W22 hK=>?_)
   cases b2
   . --
    have q_b2:=nle hb2;go_upto_region 8 with(fail);refine wp_region_T [0,0,2,0,0,0,0,0] hK ?_;clear hK
    iterate 2 refine e0 ?_
    obtain⟨z2,hz2⟩:=nmI (if((numQ y)*x.den)<((numQ x)*y.den)then 2 else 0);refine eC (fun w k=>(by have q:=ref_V (rsub_any _ _ _ _ w (k.vf m3) (k.vf m5) (by omega) (by omega));rw[hz2.out]at q;exact q)) (fun x24=>?_);obtain⟨p23,c23⟩:=x24;dsimp only
    iterate 5 refine e0 ?_
    refine sxEnd (fun W25 hK=>?_);go_upto_region 9 with(fail);refine wp_region_T [0,1,0,0,2,4] hK ?_;clear hK;refine e0 ?_;refine eL m9 ?_
    iterate 2 refine e0 ?_
    refine eC (fun w k=>ref_S (rmade_q _ _ (isN y) _ _ w (k.vf m0) (k.vf m1) (by omega) (by omega))) (fun x27=>?_);obtain⟨⟨p26,l26,c26⟩,⟨q26,u26,d26⟩⟩:=x27;dsimp only;refine eP 9 0 [.bool (isN (ofS (isN y) (((numQ y)*x.den)-((numQ x)*y.den)) (x.den*y.den))),.slice p26 l26 c26,.slice q26 u26 d26] ?_ (hq:=.inr ⟨rfl,rfl,rfl,rfl,rfl,rfl,rfl,rfl,rfl,rfl,rfl,trivial⟩);refine sxEnd (fun W28 hK=>?_);have⟨c90,c91,c92⟩:=(hK.box m9).c3;go_wp2;exact bodyPost_ret (v:=.agg #[.bool (isN (ofS (isN y) (((numQ y)*x.den)-((numQ x)*y.den)) (x.den*y.den))),.slice p26 l26 c26,.slice q26 u26 d26]) (by simp[results,Tryz.results22,go_sem,c90,c91,c92]) rfl (qo hQ0 ⟨_,rfl,((congrArg (RefR _ _) (radd_ff hb1.out hz1.out hb2.out)).mp (hK.rq m0)),hK.old⟩)
   have q_b2:=ylt hb2;go_upto_region 6 with(fail);refine wp_region_T [0,0,2,0,0,0,0,0] hK ?_;clear hK
   iterate 2 refine e0 ?_
   obtain⟨z2,hz2⟩:=nmI (if((numQ x)*y.den)<((numQ y)*x.den)then 2 else 0);refine eC (fun w k=>(by have q:=ref_V (rsub_any _ _ _ _ w (k.vf m5) (k.vf m3) (by omega) (by omega));rw[hz2.out]at q;exact q)) (fun x30=>?_);obtain⟨p29,c29⟩:=x30;dsimp only
   iterate 5 refine e0 ?_
   refine sxEnd (fun W31 hK=>?_);go_upto_region 7 with(fail);refine wp_region_T [0,1,0,0,2,4] hK ?_;clear hK;refine e0 ?_;refine eL m10 ?_
   iterate 2 refine e0 ?_
   refine eC (fun w k=>ref_S (rmade_q _ _ (isN x) _ _ w (k.vf m0) (k.vf m1) (by omega) (by omega))) (fun x33=>?_);obtain⟨⟨p32,l32,c32⟩,⟨q32,u32,d32⟩⟩:=x33;dsimp only;refine eP 9 0 [.bool (isN (ofS (isN x) (((numQ x)*y.den)-((numQ y)*x.den)) (x.den*y.den))),.slice p32 l32 c32,.slice q32 u32 d32] ?_ (hq:=.inr ⟨rfl,rfl,rfl,rfl,rfl,rfl,rfl,rfl,rfl,rfl,rfl,trivial⟩);refine sxEnd (fun W34 hK=>?_);have⟨c90,c91,c92⟩:=(hK.box m9).c3;go_wp2;exact bodyPost_ret (v:=.agg #[.bool (isN (ofS (isN x) (((numQ x)*y.den)-((numQ y)*x.den)) (x.den*y.den))),.slice p32 l32 c32,.slice q32 u32 d32]) (by simp[results,Tryz.results22,go_sem,c90,c91,c92]) rfl (qo hQ0 ⟨_,rfl,((congrArg (RefR _ _) (radd_ft hb1.out hz1.out hb2.out)).mp (hK.rq m0)),hK.old⟩)
  go_upto_region 4 with(fail);refine wp_region_S _ [0,0,0,0,2,0,2,4] hK ?_ (sK2 (sK2 (sK2 (sK2 (sK2 (sK2 (sK2 (sC2 (sR)))))))));clear hK;refine e0 ?_;refine eL0 m8 ?_
  iterate 2 refine e0 ?_
  refine eC (fun w k=>ref_V (radd_any _ _ _ _ w (k.vf m5) (k.vf m3) (by omega) (by omega))) (fun x36=>?_);obtain⟨p35,c35⟩:=x36;dsimp only;refine e0 ?_;refine eC (fun w k=>ref_S (rmade_q _ _ (isN x) _ _ w (k.vf m0) (k.vf m1) (by omega) (by omega))) (fun x38=>?_);obtain⟨⟨p37,l37,c37⟩,⟨q37,u37,d37⟩⟩:=x38;dsimp only;refine eP 9 0 [.bool (isN (ofS (isN x) (((numQ x)*y.den)+((numQ y)*x.den)) (x.den*y.den))),.slice p37 l37 c37,.slice q37 u37 d37] ?_ (hs:=(sC2 (sC2 (sK2 (sK2 (sK2 (sK2 (sK2 (sK2 (sK2 (sC2 (sR)))))))))))) (hq:=.inr ⟨rfl,rfl,rfl,rfl,rfl,rfl,rfl,rfl,rfl,rfl,rfl,trivial⟩);refine sxEnd (fun W39 hK=>?_);have⟨c90,c91,c92⟩:=(hK.box m9).c3;go_wp2;exact bodyPost_ret (v:=.agg #[.bool (isN (ofS (isN x) (((numQ x)*y.den)+((numQ y)*x.den)) (x.den*y.den))),.slice p37 l37 c37,.slice q37 u37 d37]) (by simp[results,Tryz.results22,go_sem,c90,c91,c92]) rfl (qo hQ0 ⟨_,rfl,((congrArg (RefR _ _) (radd_t hb1.out)).mp (hK.rq m0)),hK.old⟩)
set_option maxRecDepth 100000 in
theorem rsub_q(v0:Value)(v1:Value)(x:Rat)(y:Rat)(w:World)(h0:RefR w v0 x)(h1:RefR w v1 y) {k:Nat}(hx:LmQ k x)(hy:LmQ k y)(hk:k<=10000):
    Calls Tryz.prog 43 #[v0,v1] w fun e w'=> ∃y0,e=.returned y0/\RefR w' y0 (x-y)/\Below w.heap.size w w':=by
  have h0_0:=h0;obtain⟨p_h0,c_h0,q_h0,d_h0,rfl,h0_1,h0_2⟩:=h0.slr;have h1_0:=h1;obtain⟨p_h1,c_h1,q_h1,d_h1,rfl,h1_1,h1_2⟩:=h1.slr;have hK:=SS.start w;refine Calls.hide (fun Q0 hQ0=>?_);go_enter Tryz.func43,Tryz.ntmps43;go_upto_region 0 with(fail);refine wp_region_T [3,3,3] hK ?_;clear hK;refine eA (.cells #[.bool (isN x),.slice p_h0 (digs B6 (numQ x)).length c_h0,.slice q_h0 (digs B6 (den0 x)).length d_h0] 34) (fun R1=>?_);refine eA (.cells #[.bool (isN y),.slice p_h1 (digs B6 (numQ y)).length c_h1,.slice q_h1 (digs B6 (den0 y)).length d_h1] 34) (fun R2=>?_);refine eA (.cells #[.bool false,.slice none 0 0,.slice none 0 0] 34) (fun R3=>?_);refine sxEnd (fun W4 hK=>?_);go_upto_region 1 with(fail);refine wp_region_S _ [0,0,2,2,4] hK ?_ (sC2 (sR));clear hK;refine eL0 m1 ?_;refine eL0 m0 ?_;refine eC (fun w k=>ref_S (rneg_q _ _ w (h1_0.below k.old) hy hk)) (fun x6=>?_);obtain⟨⟨p5,l5,c5⟩,⟨q5,u5,d5⟩⟩:=x6;dsimp only;refine eC (fun w k=>ref_S (radd_q _ _ _ _ w (h0_0.below k.old) (k.rq m0) hx hy.neg hk)) (fun x8=>?_);obtain⟨⟨p7,l7,c7⟩,⟨q7,u7,d7⟩⟩:=x8;dsimp only;refine eP 2 0 [.bool (isN (x+(-y))),.slice p7 l7 c7,.slice q7 u7 d7] ?_ (hs:=(sC2 (sC2 (sC2 (sR))))) (hq:=.inr ⟨rfl,rfl,rfl,rfl,trivial⟩);refine sxEnd (fun W9 hK=>?_);have⟨c90,c91,c92⟩:=(hK.box m2).c3;go_wp2;exact bodyPost_ret (v:=.agg #[.bool (isN (x+(-y))),.slice p7 l7 c7,.slice q7 u7 d7]) (by simp[results,Tryz.results43,go_sem,c90,c91,c92]) rfl (qo hQ0 ⟨_,rfl,((congrArg (RefR _ _) (Rat.sub_eq_add_neg x y).symm).mp (hK.rq m0)),hK.old⟩)
set_option maxRecDepth 100000 in
theorem rmul_q(v0:Value)(v1:Value)(x:Rat)(y:Rat)(w:World)(h0:RefR w v0 x)(h1:RefR w v1 y) {k:Nat}(hx:LmQ k x)(hy:LmQ k y)(hk:k<=10000):
    Calls Tryz.prog 21 #[v0,v1] w fun e w'=> ∃y0,e=.returned y0/\RefR w' y0 (x*y)/\Below w.heap.size w w':=by
  have h0_0:=h0;obtain⟨p_h0,c_h0,q_h0,d_h0,rfl,h0_1,h0_2⟩:=h0.slr;have h1_0:=h1;obtain⟨p_h1,c_h1,q_h1,d_h1,rfl,h1_1,h1_2⟩:=h1.slr;have hK:=SS.start w;have e1:(digs B6 (numQ x)).length<=50000:=d6_of hx.n (by omega);have e2:=d6_of hx.d (by omega);have e3:(digs B6 (numQ y)).length<=50000:=d6_of hy.n (by omega);have e4:=d6_of hy.d (by omega);have e5:(digs B6 (numQ x*y.den)).length<=50000:=d6_of (hx.n.mul hy.d) (by omega);have e6:(digs B6 (numQ y*x.den)).length<=50000:=d6_of (hy.n.mul hx.d) (by omega);have e7:=d6_of (hx.d.mul hy.d) (by omega);have e8:(digs B6 (numQ x*y.den+numQ y*x.den)).length<=50000:=d6_of ((hx.n.mul hy.d).add (hy.n.mul hx.d)) (by omega);have e9:(digs B6 (numQ x*y.den-numQ y*x.den)).length<=50000:=d6_of (hx.n.mul hy.d).sub (by omega);have e10:(digs B6 (numQ y*x.den-numQ x*y.den)).length<=50000:=d6_of (hy.n.mul hx.d).sub (by omega);have e11:(digs B6 (numQ x*numQ y)).length<=50000:=d6_of (hx.n.mul hy.n) (by omega);have e12:(digs B6 (x.den*numQ y)).length<=50000:=d6_of (hx.d.mul hy.n) (by omega);refine Calls.hide (fun Q0 hQ0=>?_);go_enter Tryz.func21,Tryz.ntmps21;go_upto_region 0 with(fail);refine wp_region_T [3,3,3] hK ?_;clear hK;refine eA (.cells #[.bool (isN x),.slice p_h0 (digs B6 (numQ x)).length c_h0,.slice q_h0 (digs B6 (den0 x)).length d_h0] 34) (fun R1=>?_);refine eA (.cells #[.bool (isN y),.slice p_h1 (digs B6 (numQ y)).length c_h1,.slice q_h1 (digs B6 (den0 y)).length d_h1] 34) (fun R2=>?_);refine eA (.cells #[.bool false,.slice none 0 0,.slice none 0 0] 34) (fun R3=>?_);refine sxEnd (fun W4 hK=>?_);go_upto_region 1 with(fail);refine wp_region_S _ [0,0,0,0,0,0,0,0,0,2,0,2,0,2,2,2,4] hK ?_ (sC2 (sR));clear hK;refine e0 ?_;refine eL0 m1 ?_;refine e0 ?_;refine eL0 m0 ?_
  iterate 2 refine e0 ?_
  refine eL0 m1 ?_;refine e0 ?_;refine eL0 m0 ?_;refine eC (fun w k=>ref_V (rmul_any _ _ _ _ w (h0_1.below k.old) (h1_1.below k.old) (by omega) (by omega))) (fun x6=>?_);obtain⟨p5,c5⟩:=x6;dsimp only;refine eL0 m1 ?_;refine eC (fun w k=>ref_V (rone_q _ _ w (h0_0.below k.old))) (fun x8=>?_);obtain⟨p7,c7⟩:=x8;dsimp only;refine eL0 m0 ?_;refine eC (fun w k=>ref_V (rone_q _ _ w (h1_0.below k.old))) (fun x10=>?_);obtain⟨p9,c9⟩:=x10;dsimp only;refine eC (fun w k=>ref_V (rmul_any _ _ _ _ w (k.vf m1) (k.vf m0) (by omega) (by omega))) (fun x12=>?_);obtain⟨p11,c11⟩:=x12;dsimp only;refine eC (fun w k=>ref_S (rmade_q _ _ (((isN x)) !=((isN y))) _ _ w (k.vf m3) (k.vf m0) (by omega) (by omega))) (fun x14=>?_);obtain⟨⟨p13,l13,c13⟩,⟨q13,u13,d13⟩⟩:=x14;dsimp only;refine eP 5 0 [.bool (isN (ofS (((isN x)) !=((isN y))) ((numQ x)*(numQ y)) (x.den*y.den))),.slice p13 l13 c13,.slice q13 u13 d13] ?_ (hs:=(sC2 (sC2 (sC2 (sC2 (sC2 (sC2 (sR)))))))) (hq:=.inr ⟨rfl,rfl,rfl,rfl,rfl,rfl,rfl,trivial⟩);refine sxEnd (fun W15 hK=>?_);have⟨c90,c91,c92⟩:=(hK.box m5).c3;go_wp2;exact bodyPost_ret (v:=.agg #[.bool (isN (ofS (((isN x)) !=((isN y))) ((numQ x)*(numQ y)) (x.den*y.den))),.slice p13 l13 c13,.slice q13 u13 d13]) (by simp[results,Tryz.results21,go_sem,c90,c91,c92]) rfl (qo hQ0 ⟨_,rfl,((congrArg (RefR _ _) (mul_of x y)).mp (hK.rq m0)),hK.old⟩)
set_option maxRecDepth 100000 in
theorem rsign_q(v0:Value)(x:Rat)(w:World)(h0:RefR w v0 x):
    Calls Tryz.prog 29 #[v0] w fun e w'=>e=.returned (.int .i64 (sgQ x))/\Below w.heap.size w w':=by
  have h0_0:=h0;obtain⟨p_h0,c_h0,q_h0,d_h0,rfl,h0_1,h0_2⟩:=h0.slr;have hK:=SS.start w;obtain⟨b0,hb0⟩:∃b,Hid (isN x=b):=⟨_,hid rfl⟩;rw[hb0.out]at h0_0⊢;refine Calls.hide (fun Q0 hQ0=>?_);go_enter Tryz.func29,Tryz.ntmps29;go_upto_region 0 with(fail);refine wp_region_T [3,0] hK ?_;clear hK;refine eA (.cells #[.bool b0,.slice p_h0 (digs B6 (numQ x)).length c_h0,.slice q_h0 (digs B6 (den0 x)).length d_h0] 34) (fun R1=>?_);refine e0 ?_;refine sxEnd (fun W2 hK=>?_);go_upto_region 1 with(fail);refine wp_region_T [0,1,0,0,0] hK ?_;clear hK;refine e0 ?_;refine eL m0 ?_;refine e0 ?_;refine eB ((((digs B6 (numQ x)).length:Int))==0) (fun b1 hb1=>?_);refine e0 ?_;refine sxEnd (fun W3 hK=>?_)
  cases b1
  . --
   go_upto_region 3 with(fail);refine wp_region_T [0,1,0] hK ?_;clear hK;refine e0 ?_;refine eL m0 ?_;refine e0 ?_;refine sxEnd (fun W4 hK=>?_)
   cases b0
   . --
    go_wp2
    try go_ret
    show Q0 (.returned (.int .i64 1)) _
    exact(qo hQ0 ⟨(by rw[sgQ_n1 (len6_pos hb1.out) hb0.out];rfl),hK.old⟩)
   go_wp2
   try go_ret
   show Q0 (.returned (.int .i64 (-1))) _
   exact(qo hQ0 ⟨(by rw[sgQ_n1 (len6_pos hb1.out) hb0.out];rfl),hK.old⟩)
  go_wp2
  try go_ret
  show Q0 (.returned (.int .i64 0)) _
  exact(qo hQ0 ⟨(by rw[sgQ_n0 (len6_zero hb1.out)]),hK.old⟩)
set_option maxRecDepth 100000 in
theorem rcmp_q(v0:Value)(v1:Value)(x:Rat)(y:Rat)(w:World)(h0:RefR w v0 x)(h1:RefR w v1 y) {k:Nat}(hx:LmQ k x)(hy:LmQ k y)(hk:k<=10000):
    Calls Tryz.prog 18 #[v0,v1] w fun e w'=>e=.returned (.int .i64 (sgQ (x-y)))/\Below w.heap.size w w':=by
  have h0_0:=h0;obtain⟨p_h0,c_h0,q_h0,d_h0,rfl,h0_1,h0_2⟩:=h0.slr;have h1_0:=h1;obtain⟨p_h1,c_h1,q_h1,d_h1,rfl,h1_1,h1_2⟩:=h1.slr;have hK:=SS.start w;refine Calls.hide (fun Q0 hQ0=>?_);go_enter Tryz.func18,Tryz.ntmps18;go_upto_region 0 with(fail);refine wp_region_T [3,3,0] hK ?_;clear hK;refine eA (.cells #[.bool (isN x),.slice p_h0 (digs B6 (numQ x)).length c_h0,.slice q_h0 (digs B6 (den0 x)).length d_h0] 34) (fun R1=>?_);refine eA (.cells #[.bool (isN y),.slice p_h1 (digs B6 (numQ y)).length c_h1,.slice q_h1 (digs B6 (den0 y)).length d_h1] 34) (fun R2=>?_);refine e0 ?_;refine sxEnd (fun W3 hK=>?_);go_upto_region 1 with(fail);refine wp_region_T [1,1,2,1,0] hK ?_;clear hK;refine eL m1 ?_;refine eL m0 ?_;refine eC (fun w k=>ref_S (rsub_q _ _ _ _ w (h0_0.below k.old) (h1_0.below k.old) hx hy hk)) (fun x5=>?_);obtain⟨⟨p4,l4,c4⟩,⟨q4,u4,d4⟩⟩:=x5;dsimp only;obtain⟨z1,hz1⟩:=nmI (sgQ (x-y));refine eQ (v:=.int .i64 z1) (fun w k=>rsign_q _ _ w (k.rq m0)) ?_ (hv:=by rw[hz1.out]);refine e0 ?_;refine sxEnd (fun W6 hK=>?_);go_wp2
  try go_ret
  show Q0 (.returned (.int .i64 z1)) _
  exact(qo hQ0 ⟨(by rw[hz1.out]),hK.old⟩)
end
section
def slcK:EK Sl where
  sz:=1
  pos:=by decide
  R:=fun _ cs s=>cs=[.slice s.p s.l s.c]
  len:=fun e=>by rw[e];rfl
  one:=fun e u hu=>by
    subst e;simp only[List.mem_cons,List.not_mem_nil,or_false]at hu;subst hu;rfl
  below:=fun e _=>e
theorem slcK_free:slcK.Free:=fun _ _ _ _ h=>h
instance :OwnK slcK:=⟨[],fun h _ _ _ _ _ _=>h,.inl slcK_free⟩
structure FamO{α:Type}(K:EK α)(tt t:TypeId)(k:Nat)(p:Option Addr)(n c:Nat)(ss:List Sl)(xss:List (List α))(w:World):Prop where
  out:OwV slcK tt 0 w (.slice p n c) ss
  len:ss.length=xss.length
  row:∀j s xs,j≠k->ss[j]?=some s->xss[j]?=some xs->OwV K t 0 w (.slice s.p s.l s.c) xs
  ap:∀i j s u g,i≠j->i≠k->j≠k->ss[i]?=some s->ss[j]?=some u->ob s.p=some g->ob u.p≠some g
  ao:∀j s g,j≠k->ss[j]?=some s->ob s.p=some g->ob p≠some g
theorem FamO.slv{α:Type}{K:EK α}{w:World}{tt t:TypeId}{k:Nat}{p:Option Addr}{n c i:Nat}{ss:List Sl}{xss:List (List α)}{s:Sl}{xs:List α}(h:FamO K tt t k p n c ss xss w)(hi:i≠k)(hs:ss[i]?=some s)(hx:xss[i]?=some xs):SlV K w (.slice s.p s.l s.c) xs:=(h.row i s xs hi hs hx).slv
section
variable {α:Type}{K:EK α}[OwnK K]{V w:World}{l:List Ft}{tt t:TypeId}{k m:Nat}{p:Option Addr}{n c i:Nat}{ss:List Sl}{xss:List (List α)}{s:Sl}{xs:List α}
end
section
variable {w:World}{g n c i b:Nat}{t:TypeId}
end
section
variable {α:Type}{K:EK α}[OwnK K]{P:Program}{V:World}{ops:Array Oper}{Q:Act->World->Prop}{f0 fs fs':List Ft}{ks:List Nat}{o:Oper}{rest:List Oper}{a a':Act}{tt t:TypeId}{ss:List Sl}{xss:List (List α)}
end
end
end Go.Proofs.YtjhaedfpigebdaaGreatDoor
namespace Go.Proofs.YtjhaedfpigebdaaGreatDoor
open Go.RowKit Go.ChangeMaps
section
variable {P:Program}{M K E:TypeId}{z:Value}{w:World}{R:Nat}{l:List (Int × Value)}
end
section
variable {P:Program}{V:World}{ops:Array Oper}{Q:Act->World->Prop}{f0 fs fs':List Ft}{n:Nat}{ks:List Nat}{o:Oper}{rest:List Oper}{a a':Act}{z v:Value}{R:Nat}{l:List (Int × Value)}{M K E:TypeId}{x y u:Operand}{k:Int}
end
end Go.Proofs.YtjhaedfpigebdaaGreatDoor
namespace Go.Proofs.YtjhaedfpigebdaaGreatDoor
open Go.RowKit
open Go.Lib (decDigits)
section
theorem ratV_cells'{w:World}{a b d:Value}{x:Rat}(h:RatV w (.agg #[a,b,d]) x):a=.bool (isN x)/\(∃p n c,b=.slice p n c)/\ ∃p n c,d=.slice p n c:=by
  obtain⟨p,l,c,q,m,e,e1,_,_⟩:=h
  injection e1 with e1
  have:=congrArg Array.toList e1;simp at this;exact⟨this.1,⟨p,l,c,this.2.1⟩,q,m,e,this.2.2⟩
theorem SS.up8{V w:World}{l:List Ft}{x0 x1 x2 x3 x4 x5 x6 x7 x8:Ft}(h0:SS V (x0::x1::x2::x3::x4::x5::x6::x7::x8::l) w):SS V (x8::x0::x1::x2::x3::x4::x5::x6::x7::l) w:=h0.perm (up_cons (up_cons (up_cons (up_cons (up_cons (up_cons (up_cons (up_cons (.refl _)))))))))
theorem SS.up9{V w:World}{l:List Ft}{x0 x1 x2 x3 x4 x5 x6 x7 x8 x9:Ft}(h0:SS V (x0::x1::x2::x3::x4::x5::x6::x7::x8::x9::l) w):SS V (x9::x0::x1::x2::x3::x4::x5::x6::x7::x8::l) w:=h0.perm (up_cons (up_cons (up_cons (up_cons (up_cons (up_cons (up_cons (up_cons (up_cons (.refl _))))))))))
theorem SS.up10{V w:World}{l:List Ft}{x0 x1 x2 x3 x4 x5 x6 x7 x8 x9 x10:Ft}(h0:SS V (x0::x1::x2::x3::x4::x5::x6::x7::x8::x9::x10::l) w):SS V (x10::x0::x1::x2::x3::x4::x5::x6::x7::x8::x9::l) w:=h0.perm (up_cons (up_cons (up_cons (up_cons (up_cons (up_cons (up_cons (up_cons (up_cons (up_cons (.refl _)))))))))))
theorem SS.up11{V w:World}{l:List Ft}{x0 x1 x2 x3 x4 x5 x6 x7 x8 x9 x10 x11:Ft}(h0:SS V (x0::x1::x2::x3::x4::x5::x6::x7::x8::x9::x10::x11::l) w):SS V (x11::x0::x1::x2::x3::x4::x5::x6::x7::x8::x9::x10::l) w:=h0.perm (up_cons (up_cons (up_cons (up_cons (up_cons (up_cons (up_cons (up_cons (up_cons (up_cons (up_cons (.refl _))))))))))))
theorem SS.up12{V w:World}{l:List Ft}{x0 x1 x2 x3 x4 x5 x6 x7 x8 x9 x10 x11 x12:Ft}(h0:SS V (x0::x1::x2::x3::x4::x5::x6::x7::x8::x9::x10::x11::x12::l) w):SS V (x12::x0::x1::x2::x3::x4::x5::x6::x7::x8::x9::x10::x11::l) w:=h0.perm (up_cons (up_cons (up_cons (up_cons (up_cons (up_cons (up_cons (up_cons (up_cons (up_cons (up_cons (up_cons (.refl _)))))))))))))
def ratK:EK Rat where
  sz:=3
  pos:=by decide
  R:=fun w cs x=> ∃a b d,cs=[a,b,d]/\RatV w (.agg #[a,b,d]) x
  len:=fun⟨_,_,_,e,_⟩=>by rw[e];rfl
  one:=fun⟨a,b,d,e,h⟩ u hu=>by
    obtain⟨rfl,⟨_,_,_,rfl⟩,_,_,_,rfl⟩:=ratV_cells' h;subst e;simp only[List.mem_cons,List.not_mem_nil,or_false]at hu
    rcases hu with rfl|rfl|rfl<;>rfl
  below:=fun⟨a,b,d,e,h⟩ hb=>⟨a,b,d,e,h.below hb⟩
theorem ratK_hd{w:World}{cs:List Value}{x:Rat}{u:Value}(h:ratK.R w cs x)(hu:cs[0]?=some u):rkV u=2:=by
  obtain⟨a,b,c,rfl,h⟩:=h;obtain⟨rfl,_⟩:=ratV_cells' h
  cases hu;rfl
instance :OwnK ratK:=⟨[0],fun⟨a,b,c,e,h⟩ hg w1 h2 h3 w2 h4=>⟨a,b,c,e,rat_spare h hg w1 h2 h3 w2 h4⟩,.inr ⟨2,rfl,ratK_hd⟩⟩
section
variable {V w:World}{l:List Ft}{m:List (Int × Value)}{F:Int->Rat}{z v:Value}{x:Rat}{k:Int}
end
section
variable {P:Program}{V:World}{ops:Array Oper}{Q:Act->World->Prop}{f0 fs fs':List Ft}{ks:List Nat}{o:Oper}{rest:List Oper}{a a':Act}
theorem eWQ{g n c j:Nat}{t:TypeId}{xs:List Rat}{y:Rat}{v0 v1 v2:Value}(i:Nat)(hj:j<xs.length)(hv:qF (.agg #[v0,v1,v2]) y∈fs)(h:Sx P V ops Q f0 ks rest fs' a')(hi:fs[i]?=some (rO ratK t (some ⟨g,0,none⟩) n c xs):=by rfl)(hf:fs.set i (rO ratK t (some ⟨g,0,none⟩) n c (xs.set j y))=fs':=by(simp only[pB,pC])<;>exact rfl)(hs:f0.Sublist fs':=by exact List.nil_sublist _)(hq:OkL 2 i fs:=by repeat (first|exact trivial|(show OkA _ _;assumption)|refine⟨rfl,?_⟩))(hg:Wants ops o a:=by first|exact wants0 rfl|exact wantsg rfl rfl rfl rfl)
    (h1:∀w u0 u1 u2,w.cell? ⟨g,j*3,none⟩=some u0->w.cell? ⟨g,j*3+1,none⟩=some u1->w.cell? ⟨g,j*3+2,none⟩=some u2->(∀o,w.frozen? ⟨g,o,none⟩=false)->Does P (fun u w'=>u=undef/\w'=putAt g (j*3) [v0,v1,v2] w) ((execOp a.eval o).run P w):=by intro w' u0 u1 u2 c0 c1 c2 f;go_simp;exact⟨rfl,rfl⟩) (ha:a.put o.dst undef=a':=by(simp only[mkOf,Act.put,pA,pB,pC,pD,pE])<;>exact rfl):Sx P V ops Q f0 (4::ks) (o::rest) fs a:=
  sxS (R:=g) (f2:=rO ratK t (some ⟨g,0,none⟩) n c (xs.set j y)) hi rfl (fun _ h=>h) (fun w k=>qtN (fun R' e=>by injection e with e;subst e;exact OwV.hd k (List.ne_nil_of_length_pos (by omega)) (fun{_ _ _ _} h hu=>ratK_hd h hu)) hq) (by rw[hf];exact hs) hg (fun w hw k=>by
    obtain⟨u0,hu0⟩:=OwV.some_cell k hj (j:=0) (by decide);obtain⟨u1,hu1⟩:=OwV.some_cell k hj (j:=1) (by decide);obtain⟨u2,hu2⟩:=OwV.some_cell k hj (j:=2) (by decide);refine(h1 w u0 u1 u2 hu0 hu1 hu2 (OwV.fz k)).mono fun u w' ⟨e1,e2⟩=>?_
    subst e2;exact⟨e1,⟨_,_,rfl⟩,OwV.put k ⟨_,_,_,rfl,hw.q hv⟩ hj _ (Below.refl _ _)⟩) (by rw[hf,ha];exact h)
end
end
section
section
variable {w w' V:World}{l:List Ft}
def C3(w:World)(g o:Nat)(a b d:Value):Prop:=g<w.heap.size/\w.cell? ⟨g,o,none⟩=some a/\w.cell? ⟨g,o+1,none⟩=some b/\w.cell? ⟨g,o+2,none⟩=some d
theorem C3.below{g o:Nat}{a b d:Value}(h:C3 w g o a b d)(hb:Below w.heap.size w w'):C3 w' g o a b d:=
  ⟨Nat.lt_of_lt_of_le h.1 hb.size,(hb.cell (p:=⟨g,_,none⟩) h.1).trans h.2.1,(hb.cell (p:=⟨g,_,none⟩) h.1).trans h.2.2.1,(hb.cell (p:=⟨g,_,none⟩) h.1).trans h.2.2.2⟩
theorem SlV.rat{g o n c i:Nat}{sh:List Rat}{x:Rat}(h:SlV ratK w (.slice (some ⟨g,o,none⟩) n c) sh)(hx:sh[i]?=some x):∃a b d,C3 w g (o+i*3) a b d/\RatV w (.agg #[a,b,d]) x:=by
  obtain⟨cs,h1,a,b,d,rfl,h2⟩:=h.at hx;exact⟨a,b,d,⟨h1.1,h1.2 0 _ rfl,h1.2 1 _ rfl,h1.2 2 _ rfl⟩,h2⟩
section
variable {α:Type}{K:EK α}{xs:List α}{g o n c i m:Nat}
theorem SlV.part(h:SlV K w (.slice (some ⟨g,o,none⟩) n c) xs)(hn:n<=c)(hi:i<=m)(hm:m<=n):∃q:Option Addr,Hid ((if c=i then some (⟨g,o,none⟩:Addr)else some ⟨g,o+i*K.sz,none⟩)=q)/\SlV K w (.slice q (m-i) (c-i)) ((xs.take m).drop i):=by
  have hx:=h.one0;have ht:=h.take (m:=m) (by omega);have hl:(xs.take m).length=m:=by rw[List.length_take];omega
  refine⟨_,hid rfl,?_⟩
  by_cases e:c=i
  . rw[if_pos e,List.drop_eq_nil_of_le (by omega),show m-i=0 by omega];exact .nil
  rw[if_neg e];have:=ht.drop (m:=i) (by omega);rw[hl]at this;exact this
theorem SlV.rest(h:SlV K w (.slice (some ⟨g,o,none⟩) n c) xs)(hn:n<=c)(hi:i<=n):∃q:Option Addr,Hid ((if c=i then some (⟨g,o,none⟩:Addr)else some ⟨g,o+i*K.sz,none⟩)=q)/\SlV K w (.slice q (n-i) (c-i)) (xs.drop i):=by
  have:=h.part (i:=i) (m:=n) hn hi (Nat.le_refl n)
  rwa [List.take_of_length_le (Nat.le_of_eq h.one0.symm)]at this
end
end
end
section
theorem setL_len:∀(cs:List Value) (l:List Value) (o:Nat),(setL l o cs).length=l.length
  |[],_,_=>rfl
  |c::cs,l,o=>by rw[setL,setL_len cs];simp
theorem setL_get:∀(cs:List Value) (l:List Value) (o i:Nat),o+cs.length<=l.length->(setL l o cs)[i]?=if o<=i/\i<o+cs.length then cs[i-o]? else l[i]?
  |[],l,o,i,_=>by rw[setL,if_neg (by simp)]
  | c ::cs,l,o,i,h=>by
    rw[List.length_cons]at h;rw[setL,setL_get cs _ (o+1) i (by simp;omega),List.length_cons]
    by_cases h1:o+1<=i/\i<o+1+cs.length
    . rw[if_pos h1,if_pos (by omega)];obtain⟨j,rfl⟩:∃j,i=o+1+j:=⟨i-(o+1),by omega⟩;rw[show o+1+j-o=j+1 by omega,show o+1+j-(o+1)=j by omega,List.getElem?_cons_succ]
    rw[if_neg h1]
    by_cases h2:i=o
    . subst h2;simp[show i<l.length by omega]
    rw[if_neg (by omega),List.getElem?_set_ne (by omega)]
theorem setL_part{l cs ds:List Value}{a o:Nat}(hl:a+cs.length<=l.length)(hc:∀j u,cs[j]?=some u->l[a+j]?=some u)(ho:o+ds.length<=cs.length):setL l (a+o) ds=setL l a (setL cs o ds):=by
  refine List.ext_getElem? fun i=>?_
  rw[setL_get _ _ _ _ (by omega),setL_get _ _ _ _ (by rw[setL_len];exact hl),setL_len,setL_get _ _ _ _ ho]
  by_cases h1:a<=i/\i<a+cs.length
  . rw[if_pos h1]
    by_cases h2:a+o<=i/\i<a+o+ds.length
    . rw[if_pos h2,if_pos (by omega),show i-(a+o)=i-a-o by omega]
    rw[if_neg h2,if_neg (by omega)];have h3:i-a<cs.length:=by omega
    have h4:=hc (i-a) _ (List.getElem?_eq_getElem h3);rw[show a+(i-a)=i by omega]at h4;rw[h4,List.getElem?_eq_getElem h3]
  rw[if_neg h1,if_neg (by omega)]
theorem OwV.putF{α:Type}{K:EK α}[OwnK K]{f:α->List Value}{t:TypeId}{base g n c k o:Nat}{ds:List Value}{w:World}{xs:List α}{x x':α}(hR:∀w cs x,K.R w cs x↔cs=f x)(h:OwV K t base w (.slice (some ⟨g,0,none⟩) n c) xs)(hx:xs[k]?=some x)(hd:setL (f x) o ds=f x')(ho:o+ds.length<=K.sz):
    ∀w',Below (putAt g (k*K.sz+o) ds w).heap.size (putAt g (k*K.sz+o) ds w) w'->OwV K t base w' (.slice (some ⟨g,0,none⟩) n c) (xs.set k x'):=by
  intro w' hb;obtain⟨hk,rfl⟩:=List.getElem?_eq_some_iff.1 hx;have hcell:=(h.slv.at hx);obtain⟨css,h1,h2⟩:=h;have hK:K.Free:=fun w w' cs x hc=>(hR w' cs x).2 ((hR w cs x).1 hc)
  have hr':K.R w (f x') x':=(hR _ _ _).2 rfl;have hs:=h1.set hr' k;have hs':Els K w' (css.set k (f x')) (xs.set k x'):=hs.free hK;have hkc:k<css.length:=by rw[h1.len];exact hk
  have hcs:css[k]=f xs[k]:=(hR _ _ _).1 (h1.el k _ _ (List.getElem?_eq_getElem hkc) (List.getElem?_eq_getElem hk));have hlf:∀y,(f y).length=K.sz:=fun y=>K.len ((hR w (f y) y).2 rfl)
  refine⟨_,hs',?_⟩
  rcases h2.2 with⟨e,h0⟩|⟨g',cap,cur,e,hb',hg,hc1,hc2,hsz,ht⟩
  . cases e
  injection e with e1 e2 e3
  injection e1 with e1
  injection e1 with e1 _ _
  subst e1;subst e2;subst e3;have hg2:w.heap[g]?=some (.cells cur.toList.toArray t):=by simpa using hg
  have hput:=put_at ds (k*K.sz+o) cur.toList w hg2;have hlen:=h1.len;have hlt:g<(putAt g (k*K.sz+o) ds w).heap.size:=Nat.lt_of_lt_of_le (Array.getElem?_eq_some_iff.1 hg).1 (put_size g ds _ w);have hfl:=flat_len css h1.sizes;have hkk:(k+1)*K.sz<=xs.length*K.sz:=Nat.mul_le_mul_right _ hk;rw[Nat.succ_mul]at hkk;have hcap:xs.length*K.sz<=c*K.sz:=Nat.mul_le_mul_right _ hc1;have hcl:cur.toList.length=c*K.sz:=by simpa using hsz
  have hseg:∀j u,(f xs[k])[j]?=some u->cur.toList[k*K.sz+j]?=some u:=fun j u hu=>by
    have hj:j<K.sz:=by have:=(List.getElem?_eq_some_iff.1 hu).1;rwa [hlf]at this
    have h3:=flat_at css h1.sizes k j _ (List.getElem?_eq_getElem hkc) hj;rw[hcs,hu, <-ht,List.getElem?_take,if_pos (by omega)]at h3;exact h3
  have heq:=setL_part (l:=cur.toList) (a:=k*K.sz) (o:=o) (ds:=ds) (by rw[hlf];omega) hseg (by rw[hlf];exact ho);rw[hd]at heq;rw[heq]at hput
  have key:∀(cs:List Value) (l:List Value) (o m:Nat),o+cs.length<=m->(setL l o cs).take m=setL (l.take m) o cs:=by
    intro cs
    induction cs with
    |nil=>intro l o m _;rfl
    | cons c cs ih=>
      intro l o m hm;simp at hm;unfold setL;rw[ih (l.set o c) (o+1) m (by omega),List.take_set]
  refine⟨?_,.inr ⟨g,c,(setL cur.toList (k*K.sz) (f x')).toArray,by simp,hb',?_,by simpa using hc1,hc2,?_,?_⟩⟩
  . rw[flat_len (sz:=K.sz) _ hs.sizes,hs.len]
  . rw[hb.block g hlt];exact hput
  . simp[setL_len,hsz]
  rw[flat_set css h1.sizes k (f x') (hlf x') hkc];simp only[List.length_set];rw[key _ _ _ _ (by rw[hlf];omega),ht]
end
section
structure LRow where
  cs:List Rat
  r:Rat
instance :Inhabited LRow:=⟨⟨[],0⟩⟩
def dotV(v:Int->Rat):List Rat->List Int->Rat
  |c::cs,f::fs=>c*v f+dotV v cs fs
  |_,_=>0
def LRow.ev(v:Int->Rat)(fs:List Int)(x:LRow):Rat:=x.r-dotV v x.cs fs
def subCs(f:Rat):List Rat->List Rat->List Rat
  |a::az,b::bs=>(a-f*b)::subCs f az bs
  |az,_=>az
def LRow.subst(x:LRow)(j:Nat)(p:LRow):LRow:=⟨subCs (x.cs.getD j 0) (x.cs.set j 0) p.cs,x.r-x.cs.getD j 0*p.r⟩
def LRow.scale(x:LRow)(j:Nat):LRow:=⟨(x.cs.set j 1).map (· *(1/x.cs.getD j 0)),x.r*(1/x.cs.getD j 0)⟩
theorem dotV_nil(v:Int->Rat)(fs:List Int):dotV v [] fs=0:=by cases fs<;>rfl
theorem dotV_set(v:Int->Rat)(c:Rat):∀(cs:List Rat) (fs:List Int) (j:Nat),j<cs.length->j<fs.length->dotV v (cs.set j c) fs=dotV v cs fs+(c-cs.getD j 0)*v (fs.getD j 0)
  |[],_,_,h,_=>absurd h (Nat.not_lt_zero _)
  |_::_,[],_,_,h=>absurd h (Nat.not_lt_zero _)
  |a::cs,f::fs,0,_,_=>by simp[dotV];grind
  | a::cs,f::fs,j+1,h,h'=>by
    have ih:=dotV_set v c cs fs j (by simpa using h) (by simpa using h');simp only[List.set_cons_succ,dotV,List.getD_cons_succ];rw[ih];grind
theorem dotV_fset(v:Int->Rat)(b:Int):∀(cs:List Rat) (fs:List Int) (j:Nat),j<cs.length->j<fs.length->dotV v cs (fs.set j b)=dotV v cs fs+cs.getD j 0*(v b-v (fs.getD j 0))
  |[],_,_,h,_=>absurd h (Nat.not_lt_zero _)
  |_::_,[],_,_,h=>absurd h (Nat.not_lt_zero _)
  |a::cs,f::fs,0,_,_=>by simp[dotV];grind
  | a::cs,f::fs,j+1,h,h'=>by
    have ih:=dotV_fset v b cs fs j (by simpa using h) (by simpa using h');simp only[List.set_cons_succ,dotV,List.getD_cons_succ];rw[ih];grind
theorem dotV_map(v:Int->Rat)(s:Rat):∀(cs:List Rat) (fs:List Int),dotV v (cs.map (· *s)) fs=dotV v cs fs*s
  |[],fs=>by simp[dotV_nil]
  |a::cs,[]=>by simp[dotV]
  | a::cs,f::fs=>by
    have ih:=dotV_map v s cs fs;simp only[List.map_cons,dotV];rw[ih];grind
theorem dotV_sub(v:Int->Rat)(f:Rat):∀(az bs:List Rat) (fs:List Int),bs.length=az.length->dotV v (subCs f az bs) fs=dotV v az fs-f*dotV v bs fs
  |[],[],fs,_=>by simp[subCs,dotV_nil];grind
  |[],b::bs,fs,h=>by simp at h
  |a::az,[],fs,h=>by simp at h
  |a::az,b::bs,[],_=>by simp[subCs,dotV];grind
  | a::az,b::bs,e::fs,h=>by
    have ih:=dotV_sub v f az bs fs (by simpa using h);simp only[subCs,dotV];rw[ih];grind
theorem subCs_len(f:Rat):∀(az bs:List Rat),(subCs f az bs).length=az.length
  |[],[]=>rfl
  |[],_::_=>rfl
  |_::_,[]=>rfl
  |a::az,b::bs=>by simp[subCs,subCs_len f az bs]
theorem subCs_at(f:Rat):∀(az bs:List Rat) (k:Nat),bs.length=az.length->(subCs f az bs).getD k 0=az.getD k 0-f*bs.getD k 0
  |[],[],k,_=>by simp[subCs];grind
  |[],b::bs,k,h=>by simp at h
  |a::az,[],k,h=>by simp at h
  |a::az,b::bs,0,_=>by simp[subCs]
  |a::az,b::bs,k+1,h=>by simpa[subCs]using subCs_at f az bs k (by simpa using h)
theorem subCs_zero:∀(az bs:List Rat),subCs 0 az bs=az
  |[],[]=>rfl
  |[],_::_=>rfl
  |_::_,[]=>rfl
  |a::az,b::bs=>by simp only[subCs,subCs_zero az bs,Rat.zero_mul];rw[show a-0=a by grind]
theorem LRow.subst_len(x:LRow)(j:Nat)(p:LRow):(x.subst j p).cs.length=x.cs.length:=by simp[LRow.subst,subCs_len]
theorem LRow.scale_len(x:LRow)(j:Nat):(x.scale j).cs.length=x.cs.length:=by simp[LRow.scale]
theorem LRow.scale_ev{x:LRow}{fs:List Int}{j:Nat}{b:Int}(v:Int->Rat)(hl:x.cs.length=fs.length)(hj:j<fs.length)(ha:x.cs.getD j 0≠0):(v b=x.ev v fs)↔(v (fs.getD j 0)=(x.scale j).ev v (fs.set j b)):=by
  have h1:=dotV_map v (1/x.cs.getD j 0) (x.cs.set j 1) (fs.set j b);have h2:=dotV_set v 1 x.cs (fs.set j b) j (by omega) (by simpa using hj);have h3:=dotV_fset v b x.cs fs j (by omega) hj;have h4:(fs.set j b).getD j 0=b:=by simp[List.getD,List.getElem?_set_self hj]
  rw[h4]at h2;unfold LRow.ev LRow.scale;simp only[h1,h2,h3];generalize x.cs.getD j 0=a at*;generalize v (fs.getD j 0)=e at*;generalize dotV v x.cs fs=d at*;constructor
  . intro h;grind
  intro h;grind
theorem LRow.subst_ev{x p:LRow}{fs:List Int}{j:Nat}{b:Int}(v:Int->Rat)(hl:x.cs.length=fs.length)(hp:p.cs.length=fs.length)(hj:j<fs.length)(he:v (fs.getD j 0)=p.ev v (fs.set j b)):(x.subst j p).ev v (fs.set j b)=x.ev v fs:=by
  unfold LRow.ev LRow.subst;have h1:=dotV_sub v (x.cs.getD j 0) (x.cs.set j 0) p.cs (fs.set j b) (by simp[hl,hp]);have h2:=dotV_set v 0 x.cs (fs.set j b) j (by omega) (by simpa using hj);have h3:=dotV_fset v b x.cs fs j (by omega) hj;have h4:(fs.set j b).getD j 0=b:=by simp[List.getD,List.getElem?_set_self hj]
  rw[h4]at h2;unfold LRow.ev at he;simp only[h1,h2,h3];generalize x.cs.getD j 0=a at*;generalize v (fs.getD j 0)=e at*;generalize dotV v x.cs fs=d at*
  grind
structure LTab where
  rows:List LRow
  basic:List Int
  free:List Int
structure LTab.Ok(T:LTab):Prop where
  nb:T.basic.length=T.rows.length
  cl:∀x∈T.rows,x.cs.length=T.free.length
  nd:(T.basic++T.free).Nodup
def LTab.Sat(T:LTab)(v:Int->Rat):Prop:= ∀(i:Nat) (b:Int) (x:LRow),T.basic[i]?=some b->T.rows[i]?=some x->v b=x.ev v T.free
def LTab.pivot(T:LTab)(i j:Nat):LTab:=
  ⟨T.rows.mapIdx fun k x=>if k=i then x.scale j else x.subst j ((T.rows.getD i default).scale j),T.basic.set i (T.free.getD j 0),T.free.set j (T.basic.getD i 0)⟩
def LTab.obj(T:LTab)(i j:Nat)(g:LRow):LRow:=g.subst j ((T.rows.getD i default).scale j)
section
variable {T:LTab}{i j:Nat}
theorem getD_of{α:Type _}{l:List α}{i:Nat}{x d:α}(h:l[i]?=some x):l.getD i d=x:=by simp[List.getD,h]
theorem pivot_rows(k:Nat):(T.pivot i j).rows[k]?=T.rows[k]?.map fun x=>if k=i then x.scale j else x.subst j ((T.rows.getD i default).scale j):=by
  unfold LTab.pivot;simp[List.getElem?_mapIdx]
theorem LTab.Ok.row(h:T.Ok){x:LRow}(hx:T.rows[i]?=some x):x.cs.length=T.free.length:=h.cl x (List.mem_of_getElem? hx)
theorem swap_nodup{az bs:List Int}{i j:Nat}(hn:(az++bs).Nodup)(hi:i<az.length)(hj:j<bs.length):(az.set i bs[j]++bs.set j az[i]).Nodup:=by
  have hp:(az.set i bs[j]++bs.set j az[i]).Perm (az++bs):=by
    have h1:az=az.take i++az[i]::az.drop (i+1):=by rw[<-List.drop_eq_getElem_cons,List.take_append_drop]
    have h2:bs=bs.take j++bs[j]::bs.drop (j+1):=by rw[<-List.drop_eq_getElem_cons,List.take_append_drop]
    rw[List.set_eq_take_append_cons_drop,if_pos hi,List.set_eq_take_append_cons_drop,if_pos hj];refine List.Perm.trans ?_ (List.Perm.of_eq (congr (congrArg HAppend.hAppend h1.symm) h2.symm));generalize az.take i=a1;generalize az.drop (i+1)=a2;generalize bs.take j=b1;generalize bs.drop (j+1)=b2;generalize az[i]=x;generalize bs[j]=y;rw[List.perm_iff_count];intro z;simp[List.count_append,List.count_cons];omega
  exact hp.nodup_iff.2 hn
theorem LTab.Ok.pivot(h:T.Ok)(hi:i<T.rows.length)(hj:j<T.free.length):(T.pivot i j).Ok:=by
  have hi':i<T.basic.length:=h.nb▸hi;refine⟨by simp[LTab.pivot,h.nb],fun x hx=>?_,?_⟩
  . obtain⟨k,hk⟩:=List.mem_iff_getElem?.1 hx;rw[pivot_rows]at hk
    cases e:T.rows[k]? with
    |none=>rw[e]at hk;cases hk
    | some y=>
      rw[e]at hk;simp only[Option.map_some,Option.some.injEq]at hk;subst hk;have:=h.row e;simp only[LTab.pivot,List.length_set]
      split
      . rw[LRow.scale_len,this]
      rw[LRow.subst_len,this]
  have:=swap_nodup h.nd hi' hj
  simpa[LTab.pivot,List.getD,List.getElem?_eq_getElem hi',List.getElem?_eq_getElem hj]using this
theorem LTab.Ok.sat_pivot(h:T.Ok){x:LRow}(hx:T.rows[i]?=some x)(hj:j<T.free.length)(ha:x.cs.getD j 0≠0)(v:Int->Rat):(T.pivot i j).Sat v↔T.Sat v:=by
  have hi:i<T.rows.length:=(List.getElem?_eq_some_iff.1 hx).1;have hi':i<T.basic.length:=h.nb▸hi;obtain⟨b,hb⟩:∃b,T.basic[i]?=some b:=⟨_,List.getElem?_eq_getElem hi'⟩;have key:=LRow.scale_ev (x:=x) (fs:=T.free) (j:=j) (b:=b) v (h.row hx) hj ha;have hxd:T.rows.getD i default=x:=getD_of hx
  have he:∀(y:LRow) (k:Nat),T.rows[k]?=some y->v (T.free.getD j 0)=(x.scale j).ev v (T.free.set j b)->(y.subst j (x.scale j)).ev v (T.free.set j b)=y.ev v T.free:=fun y k hy hh=>
    LRow.subst_ev v (h.row hy) ((LRow.scale_len x j).trans (h.row hx)) hj hh
  constructor
  . intro hs;have h0:=hs i (T.free.getD j 0) (x.scale j) (by simp[LTab.pivot,List.getElem?_set_self hi']) (by rw[pivot_rows,hx];simp);rw[show(T.pivot i j).free=T.free.set j b by simp[LTab.pivot,hb]]at h0;intro k c y hc hy
    by_cases hk:k=i
    . subst hk;rw[hb]at hc;rw[hx]at hy;cases hc;cases hy
      exact key.2 h0
    have h1:=hs k c (y.subst j (x.scale j)) (by simp[LTab.pivot,List.getElem?_set_ne (Ne.symm hk),hc]) (by rw[pivot_rows,hy];simp[hk,hx]);rw[show(T.pivot i j).free=T.free.set j b by simp[LTab.pivot,hb],he y k hy h0]at h1;exact h1
  intro hs;have h0:=key.1 (hs i b x hb hx);intro k c y hc hy;rw[show(T.pivot i j).free=T.free.set j b by simp[LTab.pivot,hb]];rw[pivot_rows]at hy
  cases e:T.rows[k]? with
  |none=>rw[e]at hy;cases hy
  | some z=>
    rw[e]at hy;simp only[Option.map_some,Option.some.injEq]at hy;subst hy
    by_cases hk:k=i
    . subst hk;rw[hx]at e;cases e
      rw[if_pos rfl];have:(T.pivot k j).basic[k]?=some (T.free.getD j 0):=by simp[LTab.pivot,List.getElem?_set_self hi']
      rw[this]at hc;cases hc
      exact h0
    rw[if_neg hk,hxd,he z k e h0];refine hs k c z ?_ e;have:(T.pivot i j).basic[k]?=T.basic[k]?:=by simp[LTab.pivot,List.getElem?_set_ne (Ne.symm hk)]
    rwa [this]at hc
theorem LTab.Ok.obj_ev(h:T.Ok){x g:LRow}(hx:T.rows[i]?=some x)(hj:j<T.free.length)(ha:x.cs.getD j 0≠0)(hg:g.cs.length=T.free.length){v:Int->Rat}(hs:T.Sat v):(T.obj i j g).ev v (T.pivot i j).free=g.ev v T.free:=by
  have hi:i<T.rows.length:=(List.getElem?_eq_some_iff.1 hx).1;have hi':i<T.basic.length:=h.nb▸hi;obtain⟨b,hb⟩:∃b,T.basic[i]?=some b:=⟨_,List.getElem?_eq_getElem hi'⟩;have hxd:T.rows.getD i default=x:=getD_of hx;have h0:=(LRow.scale_ev (x:=x) (fs:=T.free) (j:=j) (b:=b) v (h.row hx) hj ha).1 (hs i b x hb hx);rw[show(T.pivot i j).free=T.free.set j b by simp[LTab.pivot,List.getD,hb]];unfold LTab.obj;rw[hxd];exact LRow.subst_ev v hg ((LRow.scale_len x j).trans (h.row hx)) hj h0
end
end
section
structure Rw4 where
  s:Sl
  n:Bool
  y:Sl
  z:Sl
def Rw4.cs(x:Rw4):List Value:=[.slice x.s.p x.s.l x.s.c,.bool x.n,.slice x.y.p x.y.l x.y.c,.slice x.z.p x.z.l x.z.c]
def Rw4.q(x:Rw4):Value:=.agg #[.bool x.n,.slice x.y.p x.y.l x.y.c,.slice x.z.p x.z.l x.z.c]
def rw4K:EK Rw4 where
  sz:=4
  pos:=by decide
  R:=fun _ cs x=>cs=x.cs
  len:=fun e=>by rw[e];rfl
  one:=fun e u hu=>by
    subst e;simp only[Rw4.cs,List.mem_cons,List.not_mem_nil,or_false]at hu
    rcases hu with rfl|rfl|rfl|rfl<;>rfl
  below:=fun e _=>e
theorem rw4K_free:rw4K.Free:=fun _ _ _ _ h=>h
instance :OwnK rw4K:=⟨[],fun h _ _ _ _ _ _=>h,.inl rw4K_free⟩
structure Lns where
  g:Nat
  o:Nat
  ow:Nat->Prop
  F:Rw4->World->Prop
  lt:∀{x w r},F x w->ow r->r<w.heap.size
  bel:∀{x w w'},F x w->Below w.heap.size w w'->F x w'
  spa:∀{x w R},F x w-> ¬ow R->Spares R w (F x)
  og:ow g
  hd:∀{x w},F x w->HdIs g 3 w
  rd:∀{x w},F x w-> ∀j u,x.cs[j]?=some u->w.cell? ⟨g,o+j,none⟩=some u
  fz:∀{x w},F x w-> ∀i,w.frozen? ⟨g,i,none⟩=false
  wr:∀{x x' w} (i:Nat) (ds:List Value),F x w->setL x.cs i ds=x'.cs->i+ds.length<=4->F x' (putAt g (o+i) ds w)
def Lns.f(L:Lns)(x:Rw4):Ft:=⟨L.ow,[],L.F x,L.lt,L.bel,fun h hn _=>L.spa h hn⟩
section
theorem setL_app(pre post:List Value):∀(ds l:List Value) (i:Nat),i+ds.length<=l.length->setL (pre++l++post) (pre.length+i) ds=pre++setL l i ds++post
  |[],_,_,_=>rfl
  | d::ds,l,i,h=>by
    have h:i+(ds.length+1)<=l.length:=h;rw[setL,setL,List.append_assoc,List.set_append_right _ _ (by omega),show pre.length+i-pre.length=i by omega,List.set_append_left _ _ (by omega), <-List.append_assoc];exact setL_app pre post ds (l.set i d) (i+1) (by rw[List.length_set];omega)
def lnB(R:Nat)(pre post:List Value)(hc:∀x:Rw4,(pre++x.cs++post)[0]?.map rkV=some 3)(ty:TypeId):Lns where
  g:=R
  o:=pre.length
  ow:=fun g=>g=R
  F:=fun x=>Has 0 R (.cells (pre++x.cs++post).toArray ty)
  lt:=fun h e=>e▸Has.ltS (base:=0) h
  bel:=fun h hb=>Has.below (base:=0) h hb
  spa:=fun h hn=>has_spare (base:=0) h fun e=>hn e.symm
  og:=rfl
  hd:=fun{x w} h v hv=>by
    have hx:=hc x
    cases e:(pre++x.cs++post)[0]? with
    |none=>rw[e]at hx;cases hx
    | some u=>
      rw[e]at hx;rw[Has.at (base:=0) h 0 e]at hv
      cases hv
      exact Option.some.inj hx
  rd:=fun{x w} h j u hu=>Has.at (base:=0) h (pre.length+j) (by
    have hj:=(List.getElem?_eq_some_iff.1 hu).1;rw[List.append_assoc,List.getElem?_append_right (by omega),show pre.length+j-pre.length=j by omega,List.getElem?_append_left hj];exact hu)
  fz:=fun h=>Has.fz (base:=0) h
  wr:=fun{x x' w} i ds h hs hi=>by
    have:=has_put (base:=0) h (pre.length+i) ds (Below.refl _ _);rw[setL_app _ _ _ _ _ (by show i+ds.length<=4;exact hi),hs]at this;exact this
end
section
variable {P:Program}{V:World}{ops:Array Oper}{Q:Act->World->Prop}{f0 fs fs':List Ft}{ks:List Nat}{o:Oper}{rest:List Oper}{a a':Act}
theorem eLw{L:Lns}{x:Rw4}(x':Rw4)(i j:Nat)(ds:List Value)(h:Sx P V ops Q f0 ks rest fs' a')(hi:fs[i]?=some (L.f x):=by rfl)(hx:setL x.cs j ds=x'.cs:=by rfl)(hj:j+ds.length<=4:=by exact Nat.le_of_ble_eq_true rfl)(hf:fs.set i (L.f x')=fs':=by(simp only[pB,pC])<;>exact rfl)(hs:f0.Sublist fs':=by exact List.nil_sublist _)(hq:OzL i fs\/OkL 3 i fs:=by first|(refine .inl ?_;(repeat (first|exact trivial|(show OzA _;assumption)|refine⟨rfl,?_⟩))<;>fail)|(refine .inr ?_;(repeat (first|exact trivial|(show OkA _ _;assumption)|refine⟨rfl,?_⟩))<;>fail))(hg:Wants ops o a:=by first|exact wants0 rfl|exact wantsg rfl rfl rfl rfl)
    (h1:∀w,(L.f x).F w->Does P (fun u w'=>u=undef/\w'=putAt L.g (L.o+j) ds w) ((execOp a.eval o).run P w):=by intro w' k;have c0:=L.rd k 0 _ rfl;have c1:=L.rd k 1 _ rfl;have c2:=L.rd k 2 _ rfl;have c3:=L.rd k 3 _ rfl;have f:=L.fz k;go_simp;exact⟨rfl,rfl⟩) (ha:a.put o.dst undef=a':=by(simp only[mkOf,Act.put,pA,pB,pC,pD,pE])<;>exact rfl):Sx P V ops Q f0 (4::ks) (o::rest) fs a:=
  sxS (R:=L.g) (f2:=L.f x') hi L.og (fun _ h=>h) (fun w k=>hq.elim qtZ fun hk=>qtN (fun R' e=>by injection e with e;subst e;exact L.hd k) hk) (by rw[hf];exact hs) hg (fun w _ k=>(h1 w k).mono fun u w' ⟨e1,e2⟩=>by subst e2;exact⟨e1,⟨_,_,rfl⟩,L.wr j ds k hx hj⟩) (by rw[hf,ha];exact h)
end
def stF(S:List Nat)(fs:List Ft)(hS:∀f∈fs,∀n,f.ln.contains n=true->S.contains n=true):Ft:=
  ⟨fun g=> ∃f∈fs,f.own g,S,fun w=>(∀f∈fs,f.F w)/\fs.Pairwise fun f f'=> ∀g,f.own g-> ¬f'.own g,
    fun⟨h,_⟩ ⟨f,hf,hg⟩=>f.lt (h f hf) hg,fun⟨h,ha⟩ hb=>⟨fun f hf=>f.bel (h f hf) hb,ha⟩,
    fun{w R} ⟨h,ha⟩ hn hS' w1 h1 h2 w2 h3=>⟨fun f hf=>f.spa (h f hf) (fun e=>hn ⟨f,hf,e⟩) (fun v hv=>by
      have:=hS' v hv
      cases e:f.ln.contains (rkV v)with
      |false=>rfl
      |true=>rw[hS f hf _ e]at this;cases this) w1 h1 h2 w2 h3,ha⟩⟩
section
variable {V w:World}{l fs:List Ft}{S:List Nat}{hS:∀f∈fs,∀n,f.ln.contains n=true->S.contains n=true}
theorem SS.star:SS V (stF S fs hS::l) w↔SS V (fs++l) w:=by
  constructor
  . intro h;obtain⟨h1,h2⟩:=List.pairwise_cons.1 h.ap;obtain⟨h3,h4⟩:=h.get m0;refine⟨h.old,fun f hf=>(List.mem_append.1 hf).elim (h3 f) fun hf=>h.has f (List.mem_cons_of_mem _ hf),fun f hf g hg=>(List.mem_append.1 hf).elim (fun hf=>h.lo _ (List.mem_cons_self ..) g ⟨f,hf,hg⟩) fun hf=>h.lo f (List.mem_cons_of_mem _ hf) g hg,List.pairwise_append.2 ⟨h4,h2,fun f hf f' hf' g hg=>h1 f' hf' g ⟨f,hf,hg⟩⟩⟩
  intro h;obtain⟨h1,h2,h3⟩:=List.pairwise_append.1 h.ap;refine⟨h.old,fun f hf=>?_,fun f hf g hg=>?_,.cons (fun f' hf' g ⟨f,hf,hg⟩=>h3 f hf f' hf' g hg) h2⟩
  . rcases List.mem_cons.1 hf with rfl|hf
    . exact⟨fun f hf=>h.has f (List.mem_append_left _ hf),h1⟩
    exact h.has f (List.mem_append_right _ hf)
  rcases List.mem_cons.1 hf with rfl|hf
  . obtain⟨f',hf',hg⟩:=hg;exact h.lo f' (List.mem_append_left _ hf') g hg
  exact h.lo f (List.mem_append_right _ hf) g hg
end
instance :Inhabited Rw4:=⟨⟨⟨none,0,0⟩,false,⟨none,0,0⟩,⟨none,0,0⟩⟩⟩
def rw1(t:TypeId)(x:Rw4)(y:LRow):List Ft:=[rO ratK t x.s.p x.s.l x.s.c y.cs,qF x.q y.r]
def fmL(t:TypeId)(rs:List Rw4)(T:List LRow)(js:List Nat):List Ft:=js.flatMap fun j=>rw1 t (rs.getD j default) (T.getD j default)
theorem fm_ln{t:TypeId}{rs:List Rw4}{T:List LRow}{js:List Nat}:∀f∈fmL t rs T js,∀n,f.ln.contains n=true->[0].contains n=true:=fun f hf n hn=>by
  obtain⟨j,_,h⟩:=List.mem_flatMap.1 hf
  rcases List.mem_cons.1 h with rfl|h
  . exact hn
  rcases List.mem_cons.1 h with rfl|h
  . exact hn
  cases h
def fmJ(n:Nat)(ex:List Nat):List Nat:=(List.range n).filter fun j=> !ex.contains j
def fmF(t:TypeId)(rs:List Rw4)(T:List LRow)(ex:List Nat):Ft:=stF [0] (fmL t rs T (fmJ T.length ex)) fm_ln
section
variable {V w:World}{l:List Ft}{t:TypeId}{rs:List Rw4}{T:List LRow}{k:Nat}{ex:List Nat}{x:Rw4}{y:LRow}
theorem fmJ_mem{n j:Nat}:j∈fmJ n ex↔j<n/\j∉ex:=by
  unfold fmJ;rw[List.mem_filter,List.mem_range];simp
theorem fmJ_all{n:Nat}:fmJ n []=List.range n:=List.filter_eq_self.2 fun _j _hj=>rfl
theorem fmJ_perm{n:Nat}(h:k<n)(hk:k∉ex):(fmJ n ex).Perm (k::fmJ n (k::ex)):=by
  refine(List.perm_ext_iff_of_nodup (List.Pairwise.filter _ List.nodup_range) (List.nodup_cons.2 ⟨fun w=>(fmJ_mem.1 w).2 (List.mem_cons_self ..),List.Pairwise.filter _ List.nodup_range⟩)).2 fun j=>?_
  show j∈fmJ n ex↔j∈k::fmJ n (k::ex)
  rw[List.mem_cons,fmJ_mem,fmJ_mem,List.mem_cons];constructor
  . intro hj
    by_cases e:j=k
    . exact .inl e
    exact .inr ⟨hj.1,fun w=>w.elim e hj.2⟩
  rintro(rfl|⟨h1,h2⟩)
  . exact⟨h,hk⟩
  exact⟨h1,fun w=>h2 (.inr w)⟩
theorem fmL_perm{js js':List Nat}(h:js.Perm js'):(fmL t rs T js).Perm (fmL t rs T js'):=h.flatMap_right _
theorem getD_at{α:Type}[Inhabited α]{l:List α}{k:Nat}{x:α}(h:l[k]?=some x):l.getD k default=x:=by rw[List.getD_eq_getElem?_getD,h];rfl
theorem SS.rwO(h:SS V (fmF t rs T ex::l) w)(hk:k∉ex)(hx:rs[k]?=some x)(hy:T[k]?=some y):SS V (rO ratK t x.s.p x.s.l x.s.c y.cs::qF x.q y.r::fmF t rs T (k::ex)::l) w:=by
  have hkl:=(List.getElem?_eq_some_iff.1 hy).1;have h2:=(SS.star.1 h).perm ((fmL_perm (t:=t) (rs:=rs) (T:=T) (fmJ_perm hkl hk)).append_right l)
  have e:fmL t rs T (k::fmJ T.length (k::ex))=rO ratK t x.s.p x.s.l x.s.c y.cs::qF x.q y.r::fmL t rs T (fmJ T.length (k::ex)):=by
    show rw1 t (rs.getD k default) (T.getD k default)++_=_
    rw[getD_at hx,getD_at hy];rfl
  rw[e]at h2;have h3:SS V (fmL t rs T (fmJ T.length (k::ex))++(rO ratK t x.s.p x.s.l x.s.c y.cs::qF x.q y.r::l)) w:=h2.perm (List.perm_middle.trans (List.perm_middle.cons _)).symm;have h4:SS V (fmF t rs T (k::ex)::rO ratK t x.s.p x.s.l x.s.c y.cs::qF x.q y.r::l) w:=SS.star.2 h3;exact h4.perm ((List.Perm.swap ..).trans ((List.Perm.swap ..).cons _))
theorem fm_other{js:List Nat}(hk:k∉js):fmL t (rs.set k x) (T.set k y) js=fmL t rs T js:=by
  unfold fmL
  induction js with
  |nil=>rfl
  | cons j js ih=>
    have hne:k≠j:=fun e=>hk (e▸List.mem_cons_self ..)
    rw[List.flatMap_cons,List.flatMap_cons,ih (fun w=>hk (List.mem_cons_of_mem _ w)),List.getD_eq_getElem?_getD,List.getD_eq_getElem?_getD,List.getElem?_set_ne hne,List.getElem?_set_ne hne, <-List.getD_eq_getElem?_getD, <-List.getD_eq_getElem?_getD]
theorem SS.rwB(h:SS V (rO ratK t x.s.p x.s.l x.s.c y.cs::qF x.q y.r::fmF t rs T (k::ex)::l) w)(hk:k∉ex)(hk1:k<T.length)(hk2:k<rs.length):SS V (fmF t (rs.set k x) (T.set k y) ex::l) w:=by
  have h1:SS V (fmF t rs T (k::ex)::rO ratK t x.s.p x.s.l x.s.c y.cs::qF x.q y.r::l) w:=h.perm (((List.Perm.swap ..).cons _).trans (List.Perm.swap ..));have h2:=SS.star.1 h1;have hnk:k∉fmJ T.length (k::ex):=fun w=>(fmJ_mem.1 w).2 (List.mem_cons_self ..)
  rw[<-fm_other (x:=x) (y:=y) hnk]at h2;refine SS.star.2 (h2.perm ?_);rw[List.length_set]
  have e:fmL t (rs.set k x) (T.set k y) (k::fmJ T.length (k::ex))=rO ratK t x.s.p x.s.l x.s.c y.cs::qF x.q y.r::fmL t (rs.set k x) (T.set k y) (fmJ T.length (k::ex)):=by
    show rw1 t ((rs.set k x).getD k default) ((T.set k y).getD k default)++_=_
    rw[getD_at (List.getElem?_set_self hk2),getD_at (List.getElem?_set_self hk1)];rfl
  have hp:=(fmL_perm (t:=t) (rs:=rs.set k x) (T:=T.set k y) (fmJ_perm hk1 hk)).symm;rw[e]at hp;refine List.Perm.trans ?_ (hp.append_right l);exact List.perm_middle.trans (List.perm_middle.cons _)
theorem SS.rwX(h:SS V (fmF t rs T (k::ex)::l) w)(x:Rw4)(y:LRow):SS V (fmF t (rs.set k x) (T.set k y) (k::ex)::l) w:=by
  have h2:=SS.star.1 h;have hnk:k∉fmJ T.length (k::ex):=fun w=>(fmJ_mem.1 w).2 (List.mem_cons_self ..)
  rw[<-fm_other (x:=x) (y:=y) hnk]at h2;refine SS.star.2 ?_;rw[List.length_set];exact h2
theorem SS.rwZ(h:SS V l w)(t:TypeId):SS V (fmF t [] [] []::l) w:=SS.star.2 h
theorem SS.rwN(h:SS V (rO ratK t x.s.p x.s.l x.s.c y.cs::qF x.q y.r::fmF t rs T []::l) w)(hl:rs.length=T.length):SS V (fmF t (rs++[x]) (T++[y]) []::l) w:=by
  have h1:SS V (fmF t rs T []::rO ratK t x.s.p x.s.l x.s.c y.cs::qF x.q y.r::l) w:=h.perm (((List.Perm.swap ..).cons _).trans (List.Perm.swap ..));have h2:=SS.star.1 h1;refine SS.star.2 ?_;rw[List.length_append,List.length_singleton,fmJ_all,List.range_succ];rw[fmJ_all]at h2
  have e:fmL t (rs++[x]) (T++[y]) (List.range T.length++[T.length])=fmL t rs T (List.range T.length)++rw1 t x y:=by
    have e1:∀js:List Nat,(∀j∈js,j<T.length)->fmL t (rs++[x]) (T++[y]) js=fmL t rs T js:=fun js=>by
      induction js with
      |nil=>intro _;rfl
      | cons j js ih=>
        intro hj;have h0:=hj j (List.mem_cons_self ..);have h3:=ih fun b hb=>hj b (List.mem_cons_of_mem _ hb)
        unfold fmL at h3⊢;rw[List.flatMap_cons,List.flatMap_cons,h3,List.getD_eq_getElem?_getD,List.getD_eq_getElem?_getD,List.getElem?_append_left (by omega),List.getElem?_append_left h0, <-List.getD_eq_getElem?_getD, <-List.getD_eq_getElem?_getD]
    have e2:∀js js':List Nat,fmL t (rs++[x]) (T++[y]) (js++js')=fmL t (rs++[x]) (T++[y]) js++fmL t (rs++[x]) (T++[y]) js':=fun js js'=>List.flatMap_append ..
    rw[e2,e1 _ fun j hj=>List.mem_range.1 hj]
    congr 1
    show rw1 t ((rs++[x]).getD T.length default) ((T++[y]).getD T.length default)++[]=_
    rw[List.append_nil,getD_at (show(rs++[x])[T.length]?=some x by rw[<-hl];simp),getD_at (show(T++[y])[T.length]?=some y by simp)]
  rw[e,List.append_assoc];exact h2
theorem SS.rwQ(h:SS V l w)(hf:fmF t rs T ex∈l)(hk:k∉ex)(hx:rs[k]?=some x)(hy:T[k]?=some y):RatV w x.q y.r:=by
  have:=(h.get hf).1 (qF x.q y.r) (List.mem_flatMap.2 ⟨k,fmJ_mem.2 ⟨(List.getElem?_eq_some_iff.1 hy).1,hk⟩,by rw[getD_at hx,getD_at hy];exact List.mem_cons_of_mem _ (List.mem_cons_self ..)⟩);exact this
theorem SS.rwR(h:SS V l w)(hf:fmF t rs T ex∈l)(hk:k∉ex)(hx:rs[k]?=some x)(hy:T[k]?=some y):OwV ratK t 0 w (.slice x.s.p x.s.l x.s.c) y.cs:=by
  have:=(h.get hf).1 (rO ratK t x.s.p x.s.l x.s.c y.cs) (List.mem_flatMap.2 ⟨k,fmJ_mem.2 ⟨(List.getElem?_eq_some_iff.1 hy).1,hk⟩,by rw[getD_at hx,getD_at hy];exact List.mem_cons_self ..⟩);exact this
end
def lnE(tt:TypeId)(g n c:Nat)(rs:List Rw4)(k:Nat)(hk:k<rs.length):Lns where
  g:=g
  o:=k*4
  ow:=fun r=>ob (some ⟨g,0,none⟩)=some r
  F:=fun x w=>OwV rw4K tt 0 w (.slice (some ⟨g,0,none⟩) n c) (rs.set k x)
  lt:=fun h e=>(OwV.block (K:=rw4K) h e).2
  bel:=fun h hb=>OwV.below (K:=rw4K) h hb
  spa:=fun h hn=>OwV.spare (K:=rw4K) h (by rw[ob_eq];exact hn) (.inl rw4K_free)
  og:=rfl
  hd:=fun{x w} h=>OwV.hd (K:=rw4K) h (List.ne_nil_of_length_pos (by rw[List.length_set];omega)) fun h hu=>by cases h;cases hu;rfl
  rd:=fun{x w} h j u hu=>by
    have:=h.slv.cel (f:=Rw4.cs) (fun e=>e) (List.getElem?_set_self hk) j hu
    rwa [show 0+k*rw4K.sz+j=k*4+j by show 0+k*4+j=_;omega]at this
  fz:=fun h=>OwV.fz (K:=rw4K) h
  wr:=fun{x x' w} i ds h hs hi=>by
    have:=OwV.putF (K:=rw4K) (f:=Rw4.cs) (fun _ _ _=>Iff.rfl) h (List.getElem?_set_self hk) hs hi _ (Below.refl _ _);rw[List.set_set]at this;exact this
section
variable {P:Program}{V:World}{ops:Array Oper}{Q:Act->World->Prop}{f0 fs fs':List Ft}{ks:List Nat}{o:Oper}{rest:List Oper}{a a':Act}{t:TypeId}
theorem eRq{g n c j:Nat}{xs:List Rat}{q:Rat}{a2:Duo Sl Sl->Act}(hm:rO ratK t (some ⟨g,0,none⟩) n c xs∈fs)(hx:xs[j]?=some q)(h:∀x:Duo Sl Sl,Sx P V ops Q f0 ks rest (qF (.agg #[.bool (isN q),.slice x.a.p x.a.l x.a.c,.slice x.b.p x.b.l x.b.c]) q::fs) (a2 x))(hg:Wants ops o a:=by first|exact wants0 rfl|exact wantsg rfl rfl rfl rfl)
    (h1:∀w v0 v1 v2,w.cell? ⟨g,j*3,none⟩=some v0->w.cell? ⟨g,j*3+1,none⟩=some v1->w.cell? ⟨g,j*3+2,none⟩=some v2->Flt (.agg #[v0,v1,v2]) w ((execOp a.eval o).run P w):=by intro w' v0 v1 v2 c0 c1 c2;go_simp;(try go_bits);exact⟨rfl,rfl⟩) (ha:∀x:Duo Sl Sl,a.put o.dst (.agg #[.bool (isN q),.slice x.a.p x.a.l x.a.c,.slice x.b.p x.b.l x.b.c])=a2 x:=by intro x;(simp only[mkOf,Act.put,pA,pB,pC,pD,pE])<;>exact rfl):Sx P V ops Q f0 (2::ks) (o::rest) fs a:=
  sx2 (α:=Duo Sl Sl) (f:=fun x=>.agg #[.bool (isN q),.slice x.a.p x.a.l x.a.c,.slice x.b.p x.b.l x.b.c]) (l':=fun x=>[qF (.agg #[.bool (isN q),.slice x.a.p x.a.l x.a.c,.slice x.b.p x.b.l x.b.c]) q]) hg (fun w hw=>by
    obtain⟨v0,v1,v2,hc,hr⟩:=(hw.own hm).slv.rat hx;have hf:=h1 w v0 v1 v2 (by have:=hc.2.1;rwa [show 0+j*3=j*3 by omega]at this) (by have:=hc.2.2.1;rwa [show 0+j*3=j*3 by omega]at this) (by have:=hc.2.2.2;rwa [show 0+j*3=j*3 by omega]at this);obtain⟨rfl,⟨p,l,d,rfl⟩,p',l',d',rfl⟩:=ratV_cells' hr;exact Flt.does ⟨⟨⟨p,l,d⟩,⟨p',l',d'⟩⟩,rfl,(SS.start w).fact (qF _ _) hr⟩ hf) fun x=>by rw[ha];exact h x
end
section
variable {L:Lns}{x:Rw4}{w:World}
theorem Lns.rd0(h:(L.f x).F w):w.cell? ⟨L.g,L.o,none⟩=some (.slice x.s.p x.s.l x.s.c):=L.rd h 0 _ rfl
theorem Lns.rd1(h:(L.f x).F w):w.cell? ⟨L.g,L.o+1,none⟩=some (.bool x.n):=L.rd h 1 _ rfl
theorem Lns.rd2(h:(L.f x).F w):w.cell? ⟨L.g,L.o+2,none⟩=some (.slice x.y.p x.y.l x.y.c):=L.rd h 2 _ rfl
theorem Lns.rd3(h:(L.f x).F w):w.cell? ⟨L.g,L.o+3,none⟩=some (.slice x.z.p x.z.l x.z.c):=L.rd h 3 _ rfl
end
section
variable {w:World}{g n c i b:Nat}{t:TypeId}
theorem OwV.rwc{rs:List Rw4}{x:Rw4}(h:OwV rw4K t b w (.slice (some ⟨g,0,none⟩) n c) rs)(hx:rs[i]?=some x)(j:Nat){u:Value}(hu:x.cs[j]?=some u):w.cell? ⟨g,i*4+j,none⟩=some u:=by
  have h1:=h.slv.cel (f:=Rw4.cs) (fun e=>e) hx j hu
  rwa [show 0+i*rw4K.sz+j=i*4+j from by show 0+i*4+j=_;omega]at h1
theorem OwV.rwc0{rs:List Rw4}{x:Rw4}(h:OwV rw4K t b w (.slice (some ⟨g,0,none⟩) n c) rs)(hx:rs[i]?=some x):w.cell? ⟨g,i*4,none⟩=some (.slice x.s.p x.s.l x.s.c):=h.rwc hx 0 rfl
end
section
variable {P:Program}{V:World}{ops:Array Oper}{Q:Act->World->Prop}{f0 fs fs':List Ft}{ks:List Nat}{o:Oper}{rest:List Oper}{a a':Act}{t:TypeId}
theorem eWr{g n c m:Nat}{rs:List Rw4}{x:Rw4}(x':Rw4)(i j:Nat)(ds:List Value)(hm:rs[m]?=some x)(h:Sx P V ops Q f0 ks rest fs' a')(hi:fs[i]?=some (rO rw4K t (some ⟨g,0,none⟩) n c rs):=by rfl)(hx:setL x.cs j ds=x'.cs:=by rfl)(hj:j+ds.length<=4:=by exact Nat.le_of_ble_eq_true rfl)(hf:fs.set i (rO rw4K t (some ⟨g,0,none⟩) n c (rs.set m x'))=fs':=by(simp only[pB,pC])<;>exact rfl)(hs:f0.Sublist fs':=by exact List.nil_sublist _)(hq:OzL i fs\/OkL 3 i fs:=by first|(refine .inl ?_;(repeat (first|exact trivial|(show OzA _;assumption)|refine⟨rfl,?_⟩))<;>fail)|(refine .inr ?_;(repeat (first|exact trivial|(show OkA _ _;assumption)|refine⟨rfl,?_⟩))<;>fail))(hg:Wants ops o a:=by first|exact wants0 rfl|exact wantsg rfl rfl rfl rfl)
    (h1:∀w,OwV rw4K t 0 w (.slice (some ⟨g,0,none⟩) n c) rs->Does P (fun u w'=>u=undef/\w'=putAt g (m*4+j) ds w) ((execOp a.eval o).run P w):=by intro w' k;have c0:=k.rwc0 hm;have c1:=k.rwc hm 1 rfl;have c2:=k.rwc hm 2 rfl;have c3:=k.rwc hm 3 rfl;have f:=OwV.fz k;go_simp;exact⟨rfl,rfl⟩) (ha:a.put o.dst undef=a':=by(simp only[mkOf,Act.put,pA,pB,pC,pD,pE])<;>exact rfl):Sx P V ops Q f0 (4::ks) (o::rest) fs a:=
  sxS (R:=g) (f2:=rO rw4K t (some ⟨g,0,none⟩) n c (rs.set m x')) hi rfl (fun _ h=>h) (fun w k=>hq.elim qtZ fun hk=>qtN (fun R' e=>by injection e with e;subst e;exact OwV.hd (K:=rw4K) k (List.ne_nil_of_length_pos (by have:=(List.getElem?_eq_some_iff.1 hm).1;omega)) (fun h hu=>by cases h;cases hu;rfl)) hk) (by rw[hf];exact hs) hg (fun w _ k=>(h1 w k).mono fun u w' ⟨e1,e2⟩=>by
    subst e2;exact⟨e1,⟨_,_,rfl⟩,OwV.putF (K:=rw4K) (f:=Rw4.cs) (fun _ _ _=>Iff.rfl) k hm hx hj _ (Below.refl _ _)⟩) (by rw[hf,ha];exact h)
end
end
section
def entN(cs:List Rat)(fs:List Int):Nat->Int
  |0=> -1
  |k+1=>if cs.getD k 0<0/\(entN cs fs k<0\/fs.getD k 0<fs.getD (entN cs fs k).toNat 0)then(k:Int)else entN cs fs k
theorem entN_spec(cs:List Rat)(fs:List Int)(k:Nat):(entN cs fs k= -1/\ ∀m,m<k->0<=cs.getD m 0)\/ ∃j:Nat,j<k/\entN cs fs k=(j:Int)/\cs.getD j 0<0/\ ∀m,m<k->cs.getD m 0<0->fs.getD j 0<=fs.getD m 0:=by
  induction k with
  |zero=>exact .inl ⟨rfl,fun m h=>absurd h (Nat.not_lt_zero _)⟩
  | succ k ih=>
    unfold entN
    rcases ih with⟨h1,h2⟩|⟨j,hj,h1,h2,h3⟩
    . rw[h1]
      by_cases hc:cs.getD k 0<0
      . rw[if_pos ⟨hc,.inl (by decide)⟩];refine .inr ⟨k,Nat.lt_succ_self _,rfl,hc,fun m hm hn=>?_⟩
        rcases Nat.lt_or_eq_of_le (Nat.le_of_lt_succ hm)with h|rfl
        . have:=h2 m h;grind
        exact Int.le_refl _
      rw[if_neg (fun h=>hc h.1)];refine .inl ⟨rfl,fun m hm=>?_⟩
      rcases Nat.lt_or_eq_of_le (Nat.le_of_lt_succ hm)with h|rfl
      . exact h2 m h
      grind
    rw[h1]
    by_cases hc:cs.getD k 0<0/\((j:Int)<0\/fs.getD k 0<fs.getD (j:Int).toNat 0)
    . rw[if_pos hc];obtain⟨hc,hd⟩:=hc;rw[Int.toNat_natCast]at hd;refine .inr ⟨k,Nat.lt_succ_self _,rfl,hc,fun m hm hn=>?_⟩
      rcases Nat.lt_or_eq_of_le (Nat.le_of_lt_succ hm)with h|rfl
      . have:=h3 m h hn;omega
      exact Int.le_refl _
    rw[if_neg hc];refine .inr ⟨j,by omega,rfl,h2,fun m hm hn=>?_⟩
    rcases Nat.lt_or_eq_of_le (Nat.le_of_lt_succ hm)with h|rfl
    . exact h3 m h hn
    rw[Int.toNat_natCast]at hc
    rcases Int.lt_or_le (fs.getD m 0) (fs.getD j 0)with h|h
    . exact absurd ⟨hn,.inr h⟩ hc
    exact h
def leaN(rs:List LRow)(bs:List Int)(j:Nat):Nat->Int × Rat
  |0=>(-1,0)
  | k +1=>if(rs.getD k default).cs.getD j 0<=0 then leaN rs bs j k else
      if(leaN rs bs j k).1<0\/(rs.getD k default).r/(rs.getD k default).cs.getD j 0<(leaN rs bs j k).2\/((rs.getD k default).r/(rs.getD k default).cs.getD j 0=(leaN rs bs j k).2/\bs.getD k 0<bs.getD (leaN rs bs j k).1.toNat 0)
      then((k:Int),(rs.getD k default).r/(rs.getD k default).cs.getD j 0)else leaN rs bs j k
def quoR(rs:List LRow)(j k:Nat):Rat:=(rs.getD k default).r/(rs.getD k default).cs.getD j 0
def cofR(rs:List LRow)(j k:Nat):Rat:=(rs.getD k default).cs.getD j 0
theorem leaN_succ(rs:List LRow)(bs:List Int)(j k:Nat):leaN rs bs j (k+1)=if cofR rs j k<=0 then leaN rs bs j k else
      if(leaN rs bs j k).1<0\/quoR rs j k<(leaN rs bs j k).2\/(quoR rs j k=(leaN rs bs j k).2/\bs.getD k 0<bs.getD (leaN rs bs j k).1.toNat 0)then((k:Int),quoR rs j k)else leaN rs bs j k:=rfl
theorem leaN_spec(rs:List LRow)(bs:List Int)(j k:Nat):(leaN rs bs j k=(-1,0)/\ ∀m,m<k->cofR rs j m<=0)\/ ∃i:Nat,i<k/\leaN rs bs j k=((i:Int),quoR rs j i)/\0<cofR rs j i/\
    ∀m,m<k->0<cofR rs j m->quoR rs j i<=quoR rs j m/\(quoR rs j i=quoR rs j m->bs.getD i 0<=bs.getD m 0):=by
  induction k with
  |zero=>exact .inl ⟨rfl,fun m h=>absurd h (Nat.not_lt_zero _)⟩
  | succ k ih=>
    rw[leaN_succ]
    by_cases ha:cofR rs j k<=0
    . rw[if_pos ha]
      rcases ih with⟨h1,h2⟩|⟨i,hi,h1,h2,h3⟩
      . refine .inl ⟨h1,fun m hm=>?_⟩
        rcases Nat.lt_or_eq_of_le (Nat.le_of_lt_succ hm)with h|rfl
        . exact h2 m h
        exact ha
      refine .inr ⟨i,by omega,h1,h2,fun m hm hn=>?_⟩
      rcases Nat.lt_or_eq_of_le (Nat.le_of_lt_succ hm)with h|rfl
      . exact h3 m h hn
      grind
    rw[if_neg ha];have ha':0<cofR rs j k:=by grind
    rcases ih with⟨h1,h2⟩|⟨i,hi,h1,h2,h3⟩
    . rw[h1,if_pos (.inl (by show(-1:Int)<0;decide))];refine .inr ⟨k,Nat.lt_succ_self _,rfl,ha',fun m hm hn=>?_⟩
      rcases Nat.lt_or_eq_of_le (Nat.le_of_lt_succ hm)with h|rfl
      . have:=h2 m h;grind
      exact⟨Rat.le_refl,fun _=>Int.le_refl _⟩
    rw[h1];dsimp only;rw[Int.toNat_natCast]
    by_cases hc:quoR rs j k<quoR rs j i\/(quoR rs j k=quoR rs j i/\bs.getD k 0<bs.getD i 0)
    . rw[if_pos (.inr hc)];refine .inr ⟨k,Nat.lt_succ_self _,rfl,ha',fun m hm hn=>?_⟩
      rcases Nat.lt_or_eq_of_le (Nat.le_of_lt_succ hm)with h|rfl
      . obtain⟨h4,h5⟩:=h3 m h hn
        rcases hc with hc|⟨hc,hd⟩
        . exact⟨by grind,fun e=>by grind⟩
        rw[hc];exact⟨h4,fun e=>by have:=h5 e;omega⟩
      exact⟨Rat.le_refl,fun _=>Int.le_refl _⟩
    rw[if_neg (fun h=>h.elim (fun h=>by omega) hc)];refine .inr ⟨i,by omega,rfl,h2,fun m hm hn=>?_⟩
    rcases Nat.lt_or_eq_of_le (Nat.le_of_lt_succ hm)with h|rfl
    . exact h3 m h hn
    refine⟨by grind,fun e=>?_⟩
    rcases Int.lt_or_le (bs.getD m 0) (bs.getD i 0)with h|h
    . exact absurd (.inr ⟨e.symm,h⟩) hc
    exact h
def asg:List Int->List Rat->Int->Rat
  |b::bs,x::xs,n=>if n=b then x else asg bs xs n
  |_,_,_=>0
theorem asg_out:∀(bs:List Int) (xs:List Rat) (n:Int),n∉bs->asg bs xs n=0
  |[],_,_,_=>by simp[asg]
  |b::bs,[],n,_=>by simp[asg]
  | b::bs,x::xs,n,h=>by
    rw[asg,if_neg (fun e=>h (by simp[e]))];exact asg_out bs xs n (fun h2=>h (List.mem_cons_of_mem _ h2))
theorem asg_at:∀(bs:List Int) (xs:List Rat) (i:Nat) (b:Int) (x:Rat),bs.Nodup->bs[i]?=some b->xs[i]?=some x->asg bs xs b=x
  |[],_,_,_,_,_,h,_=>by simp at h
  |b::bs,[],i,_,_,_,_,h=>by simp at h
  |b::bs,x::xs,0,b',x',_,h,h'=>by simp at h h';subst h;subst h';simp[asg]
  | b::bs,x::xs,i+1,b',x',hn,h,h'=>by
    have hn2:=List.nodup_cons.1 hn;simp only[List.getElem?_cons_succ]at h h';rw[asg,if_neg (fun(e:b'=b)=>hn2.1 (e▸List.mem_of_getElem? h))];exact asg_at bs xs i b' x' hn2.2 h h'
theorem dotV_zero{v:Int->Rat}:∀{cs:List Rat} {fs:List Int},(∀f∈fs,v f=0)->dotV v cs fs=0
  |[],fs,_=>dotV_nil v fs
  |_::_,[],_=>rfl
  | c::cs,f::fs,h=>by
    have ih:=dotV_zero (cs:=cs) (fun g hg=>h g (List.mem_cons_of_mem _ hg));simp only[dotV];rw[ih,h f (List.mem_cons_self ..)];grind
theorem dotV_one{v:Int->Rat}:∀{cs:List Rat} {fs:List Int} {j:Nat},j<fs.length->j<cs.length->(∀k f,k≠j->fs[k]?=some f->v f=0)->dotV v cs fs=cs.getD j 0*v (fs.getD j 0)
  |[],_,_,_,h,_=>absurd h (Nat.not_lt_zero _)
  |_::_,[],_,h,_,_=>absurd h (Nat.not_lt_zero _)
  | c ::cs,f::fs,0,_,_,h=>by
    have h0:dotV v cs fs=0:=dotV_zero fun g hg=>by
      obtain⟨k,hk⟩:=List.mem_iff_getElem?.1 hg;exact h (k+1) g (by omega) (by simpa using hk)
    simp only[dotV,List.getD_cons_zero];rw[h0];grind
  | c::cs,f::fs,j+1,h1,h2,h=>by
    have ih:=dotV_one (cs:=cs) (fs:=fs) (j:=j) (by simpa using h1) (by simpa using h2) fun k g hk hg=>h (k+1) g (by omega) (by simpa using hg)
    have h0:v f=0:=h 0 f (by omega) rfl;simp only[dotV,List.getD_cons_succ];rw[ih,h0];grind
theorem dotV_subv(v u:Int->Rat):∀(cs:List Rat) (fs:List Int),dotV (fun n=>v n-u n) cs fs=dotV v cs fs-dotV u cs fs
  |[],fs=>by simp only[dotV_nil];grind
  |c::cs,[]=>by simp only[dotV];grind
  | c::cs,f::fs=>by
    simp only[dotV];rw[dotV_subv v u cs fs];grind
theorem dotV_neg{v:Int->Rat}:∀{cs:List Rat} {fs:List Int},dotV v cs fs<0-> ∃k f,fs[k]?=some f/\k<cs.length/\cs.getD k 0*v f<0
  |[],fs,h=>by rw[dotV_nil]at h;grind
  |c::cs,[],h=>by simp only[dotV]at h;grind
  | c::cs,f::fs,h=>by
    simp only[dotV]at h
    by_cases h1:c*v f<0
    . exact⟨0,f,rfl,by simp,by simpa using h1⟩
    obtain⟨k,g,h2,h3,h4⟩:=dotV_neg (v:=v) (cs:=cs) (fs:=fs) (by grind);exact⟨k+1,g,by simpa using h2,by simpa using h3,by simpa using h4⟩
theorem nodup_inj{l:List Int}(h:l.Nodup){i j:Nat}(hi:i<l.length)(hj:j<l.length)(e:l[i]=l[j]):i=j:=by
  rcases Nat.lt_trichotomy i j with h1|h1|h1
  . exact absurd e (List.pairwise_iff_getElem.1 h i j hi hj h1)
  . exact h1
  exact absurd e.symm (List.pairwise_iff_getElem.1 h j i hj hi h1)
section
variable {T:LTab}
theorem LTab.Ok.nd1(h:T.Ok):T.basic.Nodup:=(List.nodup_append.1 h.nd).1
theorem LTab.Ok.nd2(h:T.Ok):T.free.Nodup:=(List.nodup_append.1 h.nd).2.1
theorem LTab.Ok.apart(h:T.Ok){n:Int}(h1:n∈T.basic)(h2:n∈T.free):False:=(List.nodup_append.1 h.nd).2.2 n h1 n h2 rfl
def LTab.sol(T:LTab):Int->Rat:=asg T.basic (T.rows.map (·.r))
def LTab.pt(T:LTab)(j:Nat)(y:Rat)(n:Int):Rat:=if n=T.free.getD j 0 then y else asg T.basic (T.rows.map fun x=>x.r-x.cs.getD j 0*y) n
theorem LTab.Ok.sol_free(h:T.Ok){n:Int}(hn:n∈T.free):T.sol n=0:=asg_out _ _ _ fun hb=>h.apart hb hn
theorem LTab.Ok.sol_at(h:T.Ok){i:Nat}{b:Int}{x:LRow}(hb:T.basic[i]?=some b)(hx:T.rows[i]?=some x):T.sol b=x.r:=asg_at _ _ i b x.r h.nd1 hb (by simp[hx])
theorem LTab.Ok.sat_sol(h:T.Ok):T.Sat T.sol:=fun i b x hb hx=>by
  rw[h.sol_at hb hx];unfold LRow.ev;rw[dotV_zero fun f hf=>h.sol_free hf];grind
theorem mem_getD{l:List Int}{j:Nat}(h:j<l.length):l.getD j 0∈l:=by
  rw[List.getD,List.getElem?_eq_getElem h];exact List.getElem_mem h
theorem LTab.Ok.pt_at(h:T.Ok){i j:Nat}(hj:j<T.free.length)(y:Rat){b:Int}{x:LRow}(hb:T.basic[i]?=some b)(hx:T.rows[i]?=some x):T.pt j y b=x.r-x.cs.getD j 0*y:=by
  unfold LTab.pt;rw[if_neg (fun(e:b=T.free.getD j 0)=>h.apart (List.mem_of_getElem? hb) (e▸mem_getD hj))];exact asg_at _ _ i b _ h.nd1 hb (by simp[hx])
theorem LTab.pt_j(T:LTab)(j:Nat)(y:Rat):T.pt j y (T.free.getD j 0)=y:=by unfold LTab.pt;rw[if_pos rfl]
theorem LTab.pt_out{j:Nat}(y:Rat){n:Int}(hn:n∉T.basic)(hne:n≠T.free.getD j 0):T.pt j y n=0:=by
  unfold LTab.pt;rw[if_neg hne];exact asg_out _ _ _ hn
theorem LTab.Ok.pt_free(h:T.Ok){j k:Nat}(hj:j<T.free.length)(y:Rat){f:Int}(hk:k≠j)(hf:T.free[k]?=some f):T.pt j y f=0:=by
  refine LTab.pt_out y (fun hb=>h.apart hb (List.mem_of_getElem? hf)) fun e=>hk ?_
  obtain⟨hk',rfl⟩:=List.getElem?_eq_some_iff.1 hf;rw[List.getD,List.getElem?_eq_getElem hj,Option.getD_some]at e;exact nodup_inj h.nd2 hk' hj e
theorem LTab.Ok.pt_dot(h:T.Ok){j:Nat}(hj:j<T.free.length)(y:Rat){cs:List Rat}(hc:cs.length=T.free.length):dotV (T.pt j y) cs T.free=cs.getD j 0*y:=by
  rw[dotV_one hj (by omega) fun k f hk hf=>h.pt_free hj y hk hf,T.pt_j]
theorem LTab.Ok.sat_pt(h:T.Ok){j:Nat}(hj:j<T.free.length)(y:Rat):T.Sat (T.pt j y):=fun i b x hb hx=>by
  rw[h.pt_at hj y hb hx];unfold LRow.ev;rw[h.pt_dot hj y (h.row hx)]
theorem LTab.Sat.at{v:Int->Rat}(hs:T.Sat v)(hz:∀n∈T.free,v n=0){i:Nat}{b:Int}{x:LRow}(hb:T.basic[i]?=some b)(hx:T.rows[i]?=some x):v b=x.r:=by
  rw[hs i b x hb hx];unfold LRow.ev;rw[dotV_zero hz];grind
def LTab.Feas(T:LTab):Prop:= ∀x∈T.rows,0<=x.r
structure Pick(T:LTab)(g:LRow)(i j:Nat):Prop where
  hi:i<T.rows.length
  hj:j<T.free.length
  c:g.cs.getD j 0<0
  least:∀m,m<T.free.length->g.cs.getD m 0<0->T.free.getD j 0<=T.free.getD m 0
  a:0<cofR T.rows j i
  quo:∀m,m<T.rows.length->0<cofR T.rows j m->quoR T.rows j i<=quoR T.rows j m/\(quoR T.rows j i=quoR T.rows j m->T.basic.getD i 0<=T.basic.getD m 0)
theorem row_getD{i:Nat}(h:i<T.rows.length):T.rows[i]?=some (T.rows.getD i default):=by rw[List.getD,List.getElem?_eq_getElem h];rfl
theorem getD_some{l:List Int}{i:Nat}(h:i<l.length):l[i]?=some (l.getD i 0):=by rw[List.getD,List.getElem?_eq_getElem h];rfl
theorem pos_ne{a:Rat}(h:0<a):a≠0:=by grind
theorem div_nn{a b:Rat}(ha:0<=a)(hb:0<b):0<=a/b:=by
  rw[Rat.div_def];exact Rat.mul_nonneg ha (Rat.le_of_lt (Rat.inv_pos.2 hb))
theorem pivot_r(i j k:Nat){x:LRow}(hx:T.rows[k]?=some x):((T.pivot i j).rows[k]?.getD default).r=if k=i then x.r*(1/x.cs.getD j 0)else x.r-x.cs.getD j 0*((T.rows.getD i default).r*(1/(T.rows.getD i default).cs.getD j 0)):=by
  rw[pivot_rows,hx];simp only[Option.map_some,Option.getD_some]
  split<;>simp[LRow.scale,LRow.subst]
theorem LTab.Feas.pivot{i j:Nat}(hF:T.Feas)(hi:i<T.rows.length)(ha:0<cofR T.rows j i)(hq:∀m,m<T.rows.length->0<cofR T.rows j m->quoR T.rows j i<=quoR T.rows j m):(T.pivot i j).Feas:=fun x hx=>by
  obtain⟨k,hk⟩:=List.mem_iff_getElem?.1 hx
  have hk':k<T.rows.length:=by
    have:=(List.getElem?_eq_some_iff.1 hk).1
    simpa[LTab.pivot]using this
  have h1:=pivot_r i j k (row_getD hk');rw[hk,Option.getD_some]at h1;rw[h1];have hri:=hF _ (List.mem_of_getElem? (row_getD hi));have hrk:=hF _ (List.mem_of_getElem? (row_getD hk'));have hqi:(T.rows.getD i default).r*(1/(T.rows.getD i default).cs.getD j 0)=quoR T.rows j i:=by unfold quoR;grind
  split
  . rename_i e;subst e;rw[hqi];exact div_nn hri ha
  rw[hqi];have hq0:0<=quoR T.rows j i:=div_nn hri ha
  by_cases hc:0<cofR T.rows j k
  . have h2:=hq k hk' hc;have h3:quoR T.rows j k*cofR T.rows j k=(T.rows.getD k default).r:=by unfold quoR cofR at*;exact Rat.div_mul_cancel (pos_ne hc)
    have h4:=Rat.mul_le_mul_of_nonneg_right h2 (Rat.le_of_lt hc);unfold cofR at*
    grind
  have h2:0<= -(cofR T.rows j k)*quoR T.rows j i:=Rat.mul_nonneg (by grind) hq0;unfold cofR at*
  grind
end
end
section
structure LSt where
  T:LTab
  g:LRow
structure LSt.Ok(s:LSt):Prop where
  ok:s.T.Ok
  feas:s.T.Feas
  len:s.g.cs.length=s.T.free.length
def LSt.next(s:LSt)(i j:Nat):LSt:=⟨s.T.pivot i j,s.T.obj i j s.g⟩
theorem LSt.Ok.next{s:LSt}{i j:Nat}(h:s.Ok)(hp:Pick s.T s.g i j):(s.next i j).Ok:=
  ⟨h.ok.pivot hp.hi hp.hj,h.feas.pivot hp.hi hp.a fun m hm ha=>(hp.quo m hm ha).1,by simp[LSt.next,LTab.obj,LTab.pivot,LRow.subst_len,h.len]⟩
theorem LSt.Ok.sat{s:LSt}{i j:Nat}(h:s.Ok)(hp:Pick s.T s.g i j)(v:Int->Rat):(s.next i j).T.Sat v↔s.T.Sat v:=h.ok.sat_pivot (row_getD hp.hi) hp.hj (pos_ne hp.a) v
theorem LSt.Ok.val{s:LSt}{i j:Nat}(h:s.Ok)(hp:Pick s.T s.g i j){v:Int->Rat}(hs:s.T.Sat v):(s.next i j).g.ev v (s.next i j).T.free=s.g.ev v s.T.free:=h.ok.obj_ev (row_getD hp.hi) hp.hj (pos_ne hp.a) h.len hs
structure Run(f:Nat->LSt)(i j:Nat->Nat):Prop where
  ok:(f 0).Ok
  pick:∀k,Pick (f k).T (f k).g (i k) (j k)
  step:∀k,f (k+1)=(f k).next (i k) (j k)
section
variable {f:Nat->LSt}{i j:Nat->Nat}
theorem Run.oks(h:Run f i j)(k:Nat):(f k).Ok:=by
  induction k with
  |zero=>exact h.ok
  |succ k ih=>rw[h.step];exact ih.next (h.pick k)
theorem Run.sat(h:Run f i j)(v:Int->Rat)(k:Nat):(f k).T.Sat v↔(f 0).T.Sat v:=by
  induction k with
  |zero=>exact Iff.rfl
  |succ k ih=>rw[h.step, <-ih];exact(h.oks k).sat (h.pick k) v
theorem Run.val(h:Run f i j){v:Int->Rat}(hs:(f 0).T.Sat v)(k:Nat):(f k).g.ev v (f k).T.free=(f 0).g.ev v (f 0).T.free:=by
  induction k with
  |zero=>rfl
  |succ k ih=>rw[h.step, <-ih];exact(h.oks k).val (h.pick k) ((h.sat v k).2 hs)
def entV(f:Nat->LSt)(j:Nat->Nat)(k:Nat):Int:=(f k).T.free.getD (j k) 0
def leaV(f:Nat->LSt)(i:Nat->Nat)(k:Nat):Int:=(f k).T.basic.getD (i k) 0
theorem Run.free(h:Run f i j)(k:Nat):(f (k+1)).T.free=(f k).T.free.set (j k) (leaV f i k):=by rw[h.step];rfl
theorem Run.basic(h:Run f i j)(k:Nat):(f (k+1)).T.basic=(f k).T.basic.set (i k) (entV f j k):=by rw[h.step];rfl
theorem Run.ib(h:Run f i j)(k:Nat):i k<(f k).T.basic.length:=by rw[(h.oks k).ok.nb];exact(h.pick k).hi
theorem mem_set_ne{l:List Int}{k:Nat}{a n:Int}(hn:n∈l)(hne:n≠l.getD k 0):n∈l.set k a:=by
  obtain⟨m,hm⟩:=List.mem_iff_getElem?.1 hn
  by_cases e:k=m
  . subst e;exact absurd (getD_of hm).symm hne
  exact List.mem_of_getElem? (i:=m) (by rw[List.getElem?_set_ne e,hm])
theorem mem_set_self{l:List Int}{k:Nat}{a:Int}(hk:k<l.length):a∈l.set k a:=List.mem_of_getElem? (i:=k) (by rw[List.getElem?_set_self hk])
theorem Run.stays_free(h:Run f i j){k:Nat}{n:Int}(hn:n∈(f k).T.free)(hne:n≠entV f j k):n∈(f (k+1)).T.free:=by rw[h.free];exact mem_set_ne hn hne
theorem Run.stays_basic(h:Run f i j){k:Nat}{n:Int}(hn:n∈(f k).T.basic)(hne:n≠leaV f i k):n∈(f (k+1)).T.basic:=by rw[h.basic];exact mem_set_ne hn hne
theorem Run.in_basic(h:Run f i j)(k:Nat):entV f j k∈(f (k+1)).T.basic:=by rw[h.basic];exact mem_set_self (h.ib k)
theorem Run.ent_free(h:Run f i j)(k:Nat):entV f j k∈(f k).T.free:=mem_getD (h.pick k).hj
theorem Run.lea_basic(h:Run f i j)(k:Nat):leaV f i k∈(f k).T.basic:=mem_getD (h.ib k)
theorem Run.enters(h:Run f i j){p q:Nat}(hf:(f p).T.free=(f q).T.free){n:Int}{k1 k2:Nat}(h1:p<=k1)(h2:k1<=q)(h3:p<=k2)(h4:k2<=q)(hfr:n∈(f k1).T.free)(hba:n∈(f k2).T.basic):∃k,p<=k/\k<q/\entV f j k=n:=Classical.byContradiction fun hno=>by
  have hgo:∀a d:Nat,p<=a->a+d<=q->n∈(f a).T.free->n∈(f (a+d)).T.free:=fun a d ha hd hn=>by
    induction d with
    |zero=>exact hn
    |succ d ih=>exact h.stays_free (ih (by omega)) fun e=>hno ⟨a+d,by omega,by omega,e.symm⟩
  rcases Nat.le_total k1 k2 with hk|hk
  . have:=hgo k1 (k2-k1) h1 (by omega) hfr;rw[show k1+(k2-k1)=k2 by omega]at this;exact(h.oks k2).ok.apart hba this
  have h5:=hgo k1 (q-k1) h1 (by omega) hfr;rw[show k1+(q-k1)=q by omega, <-hf]at h5;have:=hgo p (k2-p) (Nat.le_refl _) (by omega) h5;rw[show p+(k2-p)=k2 by omega]at this;exact(h.oks k2).ok.apart hba this
theorem Run.leaves(h:Run f i j){p q:Nat}(hf:(f p).T.basic=(f q).T.basic){n:Int}{k1 k2:Nat}(h1:p<=k1)(h2:k1<=q)(h3:p<=k2)(h4:k2<=q)(hba:n∈(f k1).T.basic)(hfr:n∈(f k2).T.free):∃k,p<=k/\k<q/\leaV f i k=n:=Classical.byContradiction fun hno=>by
  have hgo:∀a d:Nat,p<=a->a+d<=q->n∈(f a).T.basic->n∈(f (a+d)).T.basic:=fun a d ha hd hn=>by
    induction d with
    |zero=>exact hn
    |succ d ih=>exact h.stays_basic (ih (by omega)) fun e=>hno ⟨a+d,by omega,by omega,e.symm⟩
  rcases Nat.le_total k1 k2 with hk|hk
  . have:=hgo k1 (k2-k1) h1 (by omega) hba;rw[show k1+(k2-k1)=k2 by omega]at this;exact(h.oks k2).ok.apart this hfr
  have h5:=hgo k1 (q-k1) h1 (by omega) hba;rw[show k1+(q-k1)=q by omega, <-hf]at h5;have:=hgo p (k2-p) (Nat.le_refl _) (by omega) h5;rw[show p+(k2-p)=k2 by omega]at this;exact(h.oks k2).ok.apart this hfr
theorem Run.grow(h:Run f i j)(k:Nat):(f (k+1)).g.r=(f k).g.r-(f k).g.cs.getD (j k) 0*quoR (f k).T.rows (j k) (i k):=by
  rw[h.step];simp only[LSt.next,LTab.obj,LRow.subst,LRow.scale,quoR]
  grind
theorem Run.quo0(h:Run f i j)(k:Nat):0<=quoR (f k).T.rows (j k) (i k):=div_nn ((h.oks k).feas _ (List.mem_of_getElem? (row_getD (h.pick k).hi))) (h.pick k).a
theorem Run.mono1(h:Run f i j)(k:Nat):(f k).g.r<=(f (k+1)).g.r:=by
  rw[h.grow];have h1:=(h.pick k).c;have h2:0<= -((f k).g.cs.getD (j k) 0)*quoR (f k).T.rows (j k) (i k):=Rat.mul_nonneg (by grind) (h.quo0 k)
  grind
theorem Run.mono(h:Run f i j)(k d:Nat):(f k).g.r<=(f (k+d)).g.r:=by
  induction d with
  |zero=>exact Rat.le_refl
  |succ d ih=>exact Rat.le_trans ih (h.mono1 (k+d))
theorem Run.still(h:Run f i j){p q:Nat}(_hpq:p<=q)(hz:(f p).g.r=(f q).g.r){k:Nat}(h1:p<=k)(h2:k<q):quoR (f k).T.rows (j k) (i k)=0:=by
  have a1:=h.mono p (k-p);have a2:=h.mono (k+1) (q-(k+1));rw[show p+(k-p)=k by omega]at a1;rw[show k+1+(q-(k+1))=q by omega]at a2;have a3:=h.mono1 k;have a4:=h.grow k;have a5:=(h.pick k).c;have a6:(f k).g.cs.getD (j k) 0*quoR (f k).T.rows (j k) (i k)=0:=by grind
  rcases Rat.mul_eq_zero.1 a6 with e|e
  . rw[e]at a5;exact absurd a5 (by decide)
  exact e
theorem Run.zero(h:Run f i j){p q:Nat}(hpq:p<=q)(hz:(f p).g.r=(f q).g.r)(d:Nat)(hd:p+d<=q):∀n∈(f (p+d)).T.free,(f p).T.sol n=0:=by
  have hs:∀k,(f k).T.Sat (f p).T.sol:=fun k=>(h.sat _ k).2 ((h.sat _ p).1 (h.oks p).ok.sat_sol)
  induction d with
  |zero=>exact fun n hn=>(h.oks p).ok.sol_free hn
  | succ d ih=>
    intro n hn;have ih:=ih (by omega);rw[<-Nat.add_assoc,h.free]at hn
    rcases List.mem_or_eq_of_mem_set hn with hn|rfl
    . exact ih n hn
    have h1:=(hs (p+d)).at ih (getD_some (h.ib (p+d))) (row_getD (h.pick (p+d)).hi);have h2:=h.still hpq hz (k:=p+d) (by omega) (by omega)
    have h3:quoR (f (p+d)).T.rows (j (p+d)) (i (p+d))*cofR (f (p+d)).T.rows (j (p+d)) (i (p+d))=((f (p+d)).T.rows.getD (i (p+d)) default).r:=by
      unfold quoR;exact Rat.div_mul_cancel (pos_ne (h.pick (p+d)).a)
    rw[h2,Rat.zero_mul]at h3;exact h1.trans h3.symm
theorem greatest(e:Nat->Int):∀(p d:Nat),0<d-> ∃k,p<=k/\k<p+d/\ ∀m,p<=m->m<p+d->e m<=e k
  |p,0,h=>absurd h (Nat.lt_irrefl _)
  | p,d+1,_=>by
    rcases Nat.eq_zero_or_pos d with rfl|hd
    . exact⟨p,Nat.le_refl _,by omega,fun m h1 h2=>by rw[show m=p by omega];exact Int.le_refl _⟩
    obtain⟨k,h1,h2,h3⟩:=greatest e p d hd
    by_cases hc:e k<=e (p+d)
    . refine⟨p+d,by omega,by omega,fun m h4 h5=>?_⟩
      by_cases hm:m=p+d
      . rw[hm];exact Int.le_refl _
      exact Int.le_trans (h3 m h4 (by omega)) hc
    refine⟨k,h1,by omega,fun m h4 h5=>?_⟩
    by_cases hm:m=p+d
    . rw[hm];omega
    exact h3 m h4 (by omega)
theorem Run.no_round(h:Run f i j){p q:Nat}(hpq:p<q)(hb:(f p).T.basic=(f q).T.basic)(hf:(f p).T.free=(f q).T.free):False:=by
  have hsat:∀k v,(f k).T.Sat v↔(f 0).T.Sat v:=fun k v=>h.sat v k
  have hz:(f p).g.r=(f q).g.r:=by
    have h0:(f 0).T.Sat (f p).T.sol:=(hsat p _).1 (h.oks p).ok.sat_sol;have h1:=h.val h0 p;have h2:=h.val h0 q;have hfree:∀n∈(f p).T.free,(f p).T.sol n=0:=fun n hn=>(h.oks p).ok.sol_free hn
    unfold LRow.ev at h1 h2;rw[dotV_zero hfree]at h1;rw[dotV_zero (fs:=(f q).T.free) (fun n hn=>hfree n (hf▸hn))]at h2
    grind
  obtain⟨kt,ht1,ht2,hmax⟩:=greatest (entV f j) p (q-p) (by omega);have hle:∀m,p<=m->m<q->entV f j m<=entV f j kt:=fun m h1 h2=>hmax m h1 (by omega)
  have ht2:kt<q:=by omega
  obtain⟨k,hk1,hk2,hlea⟩:=h.leaves hb (n:=entV f j kt) (k1:=kt+1) (k2:=kt) (by omega) (by omega) ht1 (by omega) (h.in_basic kt) (h.ent_free kt);have hokk:=(h.oks k).ok;have hokt:=(h.oks kt).ok
  --the two assignments
  have hs1:=(hsat kt _).2 ((hsat k _).1 (hokk.sat_pt (h.pick k).hj 1));have hs0:=(hsat kt _).2 ((hsat k _).1 (hokk.sat_pt (h.pick k).hj 0));have e1:=(h.val ((hsat kt _).1 hs1) kt).trans (h.val ((hsat kt _).1 hs1) k).symm;have e0:=(h.val ((hsat kt _).1 hs0) kt).trans (h.val ((hsat kt _).1 hs0) k).symm;unfold LRow.ev at e1 e0;rw[hokk.pt_dot (h.pick k).hj 1 (h.oks k).len]at e1;rw[hokk.pt_dot (h.pick k).hj 0 (h.oks k).len]at e0;have e2:=dotV_subv ((f k).T.pt (j k) 1) ((f k).T.pt (j k) 0) (f kt).g.cs (f kt).T.free;have hck:=(h.pick k).c;obtain⟨m,n,hm,hml,hneg⟩:=dotV_neg (v:=fun n=>(f k).T.pt (j k) 1 n-(f k).T.pt (j k) 0 n) (cs:=(f kt).g.cs) (fs:=(f kt).T.free) (by rw[e2];grind);have hml':m<(f kt).T.free.length:=(List.getElem?_eq_some_iff.1 hm).1;have hnd:(f kt).T.free.getD m 0=n:=getD_of hm;have hnfree:n∈(f kt).T.free:=List.mem_of_getElem? hm;have hets:entV f j k≠entV f j kt:=fun e=>hokk.apart (hlea▸h.lea_basic k) (e▸h.ent_free k)
  have hlet:=hle k hk1 hk2
  --Who is n?
  by_cases hns:n=entV f j k
  . subst hns;have d1:(f k).T.pt (j k) 1 (entV f j k)=1:=LTab.pt_j _ _ _;have d0:(f k).T.pt (j k) 0 (entV f j k)=0:=LTab.pt_j _ _ _;rw[d1,d0]at hneg;have:=(h.pick kt).least m hml' (by grind);rw[hnd]at this;exact hets (Int.le_antisymm hlet this)
  by_cases hnb:n∈(f k).T.basic
  . obtain⟨r,hr⟩:=List.mem_iff_getElem?.1 hnb;have hrl:r<(f k).T.rows.length:=by rw[<-hokk.nb];exact(List.getElem?_eq_some_iff.1 hr).1
    have d1:=hokk.pt_at (h.pick k).hj 1 hr (row_getD hrl);have d0:=hokk.pt_at (h.pick k).hj 0 hr (row_getD hrl);rw[d1,d0]at hneg;have hneg2:(f kt).g.cs.getD m 0*cofR (f k).T.rows (j k) r>0:=by unfold cofR;grind
    obtain⟨ke,hke1,hke2,hke⟩:=h.enters hf (n:=n) (k1:=kt) (k2:=k) ht1 (by omega) hk1 (by omega) hnfree hnb;have hnle:n<=entV f j kt:=hke▸hle ke hke1 hke2
    by_cases hc:(f kt).g.cs.getD m 0<0
    . have h5:=(h.pick kt).least m hml' hc;rw[hnd]at h5;have hnt:n=entV f j kt:=Int.le_antisymm hnle h5
      --n is t:its coefficient in k is above 0
      have hri:r=i k:=by
        have e3:(f k).T.basic.getD (i k) 0=n:=hlea.trans hnt.symm;have e4:=getD_some (h.ib k);rw[e3]at e4;obtain⟨x1,x2⟩:=List.getElem?_eq_some_iff.1 hr;obtain⟨y1,y2⟩:=List.getElem?_eq_some_iff.1 e4;exact nodup_inj hokk.nd1 x1 y1 (x2.trans y2.symm)
      subst hri;have h6:=(h.pick k).a;have h7:0<= -((f kt).g.cs.getD m 0)*cofR (f k).T.rows (j k) (i k):=Rat.mul_nonneg (by grind) (Rat.le_of_lt h6)
      grind
    have hcp:0<=(f kt).g.cs.getD m 0:=by grind
    have hap:0<cofR (f k).T.rows (j k) r:=Classical.byContradiction fun hx=>by
      have:0<=(f kt).g.cs.getD m 0* -(cofR (f k).T.rows (j k) r):=Rat.mul_nonneg hcp (by grind)
      grind
    --n is 0 in the basic solution
    have hzero:=h.zero (Nat.le_of_lt hpq) hz (kt-p) (by omega) n (by rw[show p+(kt-p)=kt by omega];exact hnfree);have hzk:=h.zero (Nat.le_of_lt hpq) hz (k-p) (by omega);rw[show p+(k-p)=k by omega]at hzk;have hrest:=LTab.Sat.at ((hsat k _).2 ((hsat p _).1 (h.oks p).ok.sat_sol)) hzk hr (row_getD hrl);rw[hzero]at hrest;have hq0:quoR (f k).T.rows (j k) r=0:=by unfold quoR;rw[<-hrest,Rat.div_def,Rat.zero_mul]
    have h8:=((h.pick k).quo r hrl hap).2 ((h.still (Nat.le_of_lt hpq) hz hk1 hk2).trans hq0.symm);have h9:(f k).T.basic.getD r 0=n:=getD_of hr;rw[h9,show(f k).T.basic.getD (i k) 0=entV f j kt from hlea]at h8;have hnt:n=entV f j kt:=Int.le_antisymm hnle h8
    --then t's coefficient in kt is below 0
    have hjm:m=j kt:=by
      have e4:=getD_some (h.pick kt).hj;rw[show(f kt).T.free.getD (j kt) 0=n from hnt.symm]at e4;obtain⟨x1,x2⟩:=List.getElem?_eq_some_iff.1 hm;obtain⟨y1,y2⟩:=List.getElem?_eq_some_iff.1 e4;exact nodup_inj hokt.nd2 x1 y1 (x2.trans y2.symm)
    subst hjm;exact hc (h.pick kt).c
  rw[LTab.pt_out _ hnb hns,LTab.pt_out _ hnb hns]at hneg
  grind
theorem pigeon{α:Type _}:∀(S:List α) (f:Nat->α),(∀k,f k∈S)-> ∃p q,p<q/\f p=f q
  |[],f,h=>absurd (h 0) List.not_mem_nil
  | x ::S,f,h=>by
    by_cases h1:∃p q,p<q/\f p=x/\f q=x
    . obtain⟨p,q,h2,h3,h4⟩:=h1;exact⟨p,q,h2,h3.trans h4.symm⟩
    obtain⟨k0,hk0⟩:∃k0,∀k,k0<=k->f k≠x:=by
      by_cases h2:∃p,f p=x
      . obtain⟨p,hp⟩:=h2;exact⟨p+1,fun k hk e=>h1 ⟨p,k,by omega,hp,e⟩⟩
      exact⟨0,fun k _ e=>h2 ⟨k,e⟩⟩
    obtain⟨p,q,h2,h3⟩:=pigeon S (fun k=>f (k0+k)) fun k=>(List.mem_cons.1 (h (k0+k))).resolve_left (hk0 _ (by omega))
    exact⟨k0+p,k0+q,by omega,h3⟩
def lsts(U:List Int):Nat->List (List Int)
  |0=>[[]]
  |n+1=>(lsts U n).flatMap fun l=>U.map fun u=>u::l
theorem mem_lsts{U:List Int}:∀{l:List Int},(∀x∈l,x∈U)->l∈lsts U l.length
  |[],_=>by simp[lsts]
  | x::l,h=>by
    simp only[List.length_cons,lsts,List.mem_flatMap,List.mem_map];exact⟨l,mem_lsts fun y hy=>h y (List.mem_cons_of_mem _ hy),x,h x (List.mem_cons_self ..),rfl⟩
theorem Run.lens(h:Run f i j)(k:Nat):(f k).T.basic.length=(f 0).T.basic.length/\(f k).T.free.length=(f 0).T.free.length/\ ∀n,n∈(f k).T.basic++(f k).T.free->n∈(f 0).T.basic++(f 0).T.free:=by
  induction k with
  |zero=>exact⟨rfl,rfl,fun _ h=>h⟩
  | succ k ih=>
    obtain⟨h1,h2,h3⟩:=ih;refine⟨by rw[h.basic,List.length_set,h1],by rw[h.free,List.length_set,h2],fun n hn=>h3 n ?_⟩
    rcases List.mem_append.1 hn with hn|hn
    . rw[h.basic]at hn
      rcases List.mem_or_eq_of_mem_set hn with hn|rfl
      . exact List.mem_append_left _ hn
      exact List.mem_append_right _ (h.ent_free k)
    rw[h.free]at hn
    rcases List.mem_or_eq_of_mem_set hn with hn|rfl
    . exact List.mem_append_right _ hn
    exact List.mem_append_left _ (h.lea_basic k)
theorem Run.ends(h:Run f i j):False:=by
  obtain⟨p,q,hpq,he⟩:=pigeon (lsts ((f 0).T.basic++(f 0).T.free) ((f 0).T.basic.length+(f 0).T.free.length)) (fun k=>(f k).T.basic++(f k).T.free) fun k=>by
    obtain⟨h1,h2,h3⟩:=h.lens k;rw[<-h1, <-h2, <-List.length_append];exact mem_lsts h3
  have h1:(f p).T.basic.length=(f q).T.basic.length:=(h.lens p).1.trans (h.lens q).1.symm;obtain⟨e1,e2⟩:=List.append_inj he h1;exact h.no_round hpq e1 e2
end
end
section
def stepS(s:LSt):Option LSt:=
  if entN s.g.cs s.T.free s.g.cs.length<0 then none else
    if(leaN s.T.rows s.T.basic (entN s.g.cs s.T.free s.g.cs.length).toNat s.T.rows.length).1<0 then none else
      some (s.next (leaN s.T.rows s.T.basic (entN s.g.cs s.T.free s.g.cs.length).toNat s.T.rows.length).1.toNat (entN s.g.cs s.T.free s.g.cs.length).toNat)
theorem pick_of{s:LSt}(h:s.Ok){j i:Nat}(hj:entN s.g.cs s.T.free s.g.cs.length=(j:Int))(hi:(leaN s.T.rows s.T.basic j s.T.rows.length).1=(i:Int)):Pick s.T s.g i j:=by
  rcases entN_spec s.g.cs s.T.free s.g.cs.length with⟨h1,_⟩|⟨j',h1,h2,h3,h4⟩
  . omega
  rcases leaN_spec s.T.rows s.T.basic j s.T.rows.length with⟨h5,_⟩|⟨i',h5,h6,h7,h8⟩
  . rw[h5]at hi;exact absurd hi (by simp)
  obtain rfl:j=j':=by omega
  obtain rfl:i=i':=by rw[h6]at hi;exact(Int.ofNat.inj hi).symm
  have:=h.len;exact⟨h5,by omega,h3,fun m hm=>h4 m (by omega),h7,h8⟩
theorem stepS_pick{s s':LSt}(h:s.Ok)(hs:stepS s=some s'):∃i j,Pick s.T s.g i j/\s'=s.next i j:=by
  unfold stepS at hs
  split at hs
  . cases hs
  rename_i h1
  split at hs
  . cases hs
  rename_i h2
  exact⟨_,_,pick_of h (j:=(entN s.g.cs s.T.free s.g.cs.length).toNat) (by omega) (i:=(leaN s.T.rows s.T.basic (entN s.g.cs s.T.free s.g.cs.length).toNat s.T.rows.length).1.toNat) (by omega),(Option.some.inj hs).symm⟩
def itS:Nat->LSt->Option LSt
  |0,s=>some s
  |n+1,s=>(stepS s).bind (itS n)
theorem itS_succ(n:Nat)(s:LSt):itS (n+1) s=(itS n s).bind stepS:=by
  induction n generalizing s with
  |zero=>simp[itS]
  | succ n ih=>
    rw[itS]
    cases e:stepS s with
    |none=>simp[itS,e]
    |some t=>simp only[Option.bind_some,itS,e];exact ih t
theorem itS_ok{s t:LSt}(h:s.Ok){n:Nat}(ht:itS n s=some t):t.Ok:=by
  induction n generalizing t with
  |zero=>cases ht;exact h
  | succ n ih=>
    rw[itS_succ]at ht
    cases e:itS n s with
    |none=>rw[e]at ht;cases ht
    | some u=>
      rw[e]at ht;obtain⟨i,j,hp,rfl⟩:=stepS_pick (ih e) ht;exact(ih e).next hp
theorem ends(s:LSt)(h:s.Ok):∃n,itS n s=none:=Classical.byContradiction fun hno=>by
  have hs:∀n,∃t,itS n s=some t:=fun n=>by
    cases e:itS n s with
    |none=>exact absurd ⟨n,e⟩ hno
    |some t=>exact⟨t,rfl⟩
  obtain⟨f,hf⟩:∃f:Nat->LSt,∀n,itS n s=some (f n):=⟨fun n=>(hs n).choose,fun n=>(hs n).choose_spec⟩;have hok:∀n,(f n).Ok:=fun n=>itS_ok h (hf n)
  have hstep:∀n,stepS (f n)=some (f (n+1)):=fun n=>by
    have:=itS_succ n s;rw[hf,hf]at this;exact this.symm
  have hp:∀n,∃i j,Pick (f n).T (f n).g i j/\f (n+1)=(f n).next i j:=fun n=>stepS_pick (hok n) (hstep n)
  exact Run.ends (f:=f) (i:=fun n=>(hp n).choose) (j:=fun n=>(hp n).choose_spec.choose) ⟨hok 0,fun k=>(hp k).choose_spec.choose_spec.1,fun k=>(hp k).choose_spec.choose_spec.2⟩
theorem least_of{p:Nat->Prop}:∀n,p n-> ∃k,p k/\ ∀m,m<k-> ¬p m:=fun n=>by
  induction n using Nat.strongRecOn with
  | _ n ih=>
    intro h
    by_cases hk:∃m,m<n/\p m
    . obtain⟨m,h1,h2⟩:=hk;exact ih m h1 h2
    exact⟨n,h,fun m h1 h2=>hk ⟨m,h1,h2⟩⟩
open Classical in
noncomputable def muS(s:LSt):Nat:=if h:∃k,itS k s=none/\ ∀m,m<k-> ¬itS m s=none then h.choose else 0
theorem muS_spec{s:LSt}(h:s.Ok):itS (muS s) s=none/\ ∀m,m<muS s-> ¬itS m s=none:=by
  obtain⟨n,hn⟩:=ends s h;have hx:=least_of (p:=fun k=>itS k s=none) n hn;unfold muS;rw[dif_pos hx];exact hx.choose_spec
theorem muS_lt{s s':LSt}(h:s.Ok)(hs:stepS s=some s'):muS s'<muS s:=by
  obtain⟨i,j,hp,e⟩:=stepS_pick h hs;have h':s'.Ok:=e▸h.next hp;obtain⟨h1,h2⟩:=muS_spec h;obtain⟨h3,h4⟩:=muS_spec h'
  obtain⟨k,hk⟩:∃k,muS s=k+1:=by
    refine⟨muS s-1,?_⟩;have:muS s≠0:=fun e0=>by rw[e0]at h1;cases h1
    omega
  rw[hk]at h1⊢;rw[itS,hs,Option.bind_some]at h1;exact Nat.lt_succ_of_le (Nat.le_of_not_lt fun h5=>h4 k h5 h1)
def Fra(D:Int)(X:Nat)(e:Rat):Prop:= ∃M:Int,M.natAbs<=X/\e*(D:Rat)=(M:Rat)
structure Bd(D:Int)(X:Nat)(x:LRow):Prop where
  r:Fra D X x.r
  cs:∀c∈x.cs,Fra D X c
structure Den(D:Int)(X:Nat):Prop where
  nz:D≠0
  le:D.natAbs<=X
theorem Fra.zero(D:Int)(X:Nat):Fra D X 0:=⟨0,by simp,by rw[Rat.zero_mul];rfl⟩
theorem Bd.at{D:Int}{X:Nat}{x:LRow}(h:Bd D X x)(k:Nat):Fra D X (x.cs.getD k 0):=by
  cases e:x.cs[k]? with
  |none=>rw[List.getD,e];exact Fra.zero D X
  |some c=>rw[getD_of e];exact h.cs c (List.mem_of_getElem? e)
theorem natAbs_mul_le{a b:Int}{X Y:Nat}(h:a.natAbs<=X)(h':b.natAbs<=Y):(a*b).natAbs<=X*Y:=by rw[Int.natAbs_mul];exact Nat.mul_le_mul h h'
theorem natAbs_sub_le{a b:Int}{X Y:Nat}(h:a.natAbs<=X)(h':b.natAbs<=Y):(a-b).natAbs<=X+Y:=by omega
section
variable {D:Int}{X:Nat}
theorem Fra.nz{α:Rat}{M:Int}(hD:Den D X)(hM:α*(D:Rat)=(M:Rat))(ha:α≠0):(M:Rat)≠0/\(D:Rat)≠0:=by
  have h1:(D:Rat)≠0:=fun e=>hD.nz (by exact_mod_cast e)
  refine⟨fun e=>?_,h1⟩;rw[e]at hM;exact(Rat.mul_eq_zero.1 hM).elim ha h1
theorem Den.step{α:Rat}{M:Int}(hD:Den D X)(hM:α*(D:Rat)=(M:Rat))(hX:M.natAbs<=X)(ha:α≠0):Den (D*M) (2*(X*X)):=by
  obtain⟨h1,h2⟩:=Fra.nz hD hM ha;refine⟨fun e=>?_,by have:=natAbs_mul_le hD.le hX;omega⟩
  rcases Int.mul_eq_zero.1 e with e|e
  . exact hD.nz e
  subst e;exact h1 rfl
theorem Fra.quo{α b:Rat}{M:Int}(hD:Den D X)(hM:α*(D:Rat)=(M:Rat))(ha:α≠0)(hb:Fra D X b):Fra (D*M) (2*(X*X)) (b*(1/α)):=by
  obtain⟨N,hN,e⟩:=hb;obtain⟨h1,h2⟩:=Fra.nz hD hM ha;refine⟨N*D,by have:=natAbs_mul_le hN hD.le;omega,?_⟩;rw[Rat.intCast_mul,Rat.intCast_mul]
  grind
theorem Fra.one_quo{α:Rat}{M:Int}(hD:Den D X)(hM:α*(D:Rat)=(M:Rat))(ha:α≠0):Fra (D*M) (2*(X*X)) (1*(1/α)):=by
  obtain⟨h1,h2⟩:=Fra.nz hD hM ha;refine⟨D*D,by have:=natAbs_mul_le hD.le hD.le;omega,?_⟩;rw[Rat.intCast_mul,Rat.intCast_mul]
  grind
theorem Fra.sub{α a c b:Rat}{M:Int}(hD:Den D X)(hM:α*(D:Rat)=(M:Rat))(hX:M.natAbs<=X)(ha:α≠0)(h1:Fra D X a)(h2:Fra D X c)(h3:Fra D X b):Fra (D*M) (2*(X*X)) (a-c*(b*(1/α))):=by
  obtain⟨N1,g1,e1⟩:=h1;obtain⟨N2,g2,e2⟩:=h2;obtain⟨N3,g3,e3⟩:=h3;obtain⟨k1,k2⟩:=Fra.nz hD hM ha;refine⟨N1*M-N2*N3,by have:=natAbs_sub_le (natAbs_mul_le g1 hX) (natAbs_mul_le g2 g3);omega,?_⟩;rw[Rat.intCast_mul,Rat.intCast_sub,Rat.intCast_mul,Rat.intCast_mul]
  grind
theorem Fra.sub1{α c:Rat}{M:Int}(hD:Den D X)(hM:α*(D:Rat)=(M:Rat))(ha:α≠0)(h2:Fra D X c):Fra (D*M) (2*(X*X)) (0-c*(1*(1/α))):=by
  obtain⟨N2,g2,e2⟩:=h2;obtain⟨k1,k2⟩:=Fra.nz hD hM ha;refine⟨-(N2*D),by have:=natAbs_mul_le g2 hD.le;omega,?_⟩;rw[Rat.intCast_mul,Rat.intCast_neg,Rat.intCast_mul]
  grind
theorem mem_map_at{cs:List Rat}{s c:Rat}{j:Nat}(h:c∈(cs.set j 1).map (· *s)):c=1*s\/ ∃b∈cs,c=b*s:=by
  obtain⟨b,hb,rfl⟩:=List.mem_map.1 h
  rcases List.mem_or_eq_of_mem_set hb with h|rfl
  . exact .inr ⟨b,h,rfl⟩
  exact .inl rfl
theorem Bd.scale{x:LRow}{j:Nat}{M:Int}(hD:Den D X)(h:Bd D X x)(ha:x.cs.getD j 0≠0)(hM:x.cs.getD j 0*(D:Rat)=(M:Rat)):Bd (D*M) (2*(X*X)) (x.scale j):=by
  refine⟨Fra.quo hD hM ha h.r,fun c hc=>?_⟩
  rcases mem_map_at hc with rfl|⟨b,hb,rfl⟩
  . exact Fra.one_quo hD hM ha
  exact Fra.quo hD hM ha (h.cs b hb)
theorem mem_getD_r{cs:List Rat}{c:Rat}(h:c∈cs):∃k,k<cs.length/\cs.getD k 0=c:=by
  obtain⟨k,hk⟩:=List.mem_iff_getElem?.1 h;exact⟨k,(List.getElem?_eq_some_iff.1 hk).1,getD_of hk⟩
theorem getD_set_r{cs:List Rat}{j k:Nat}{a:Rat}(hk:k<cs.length):(cs.set j a).getD k 0=if j=k then a else cs.getD k 0:=by
  rw[List.getD,List.getElem?_set]
  split
  . rename_i h;subst h;rw[if_pos hk];rfl
  rfl
theorem Bd.subst{x p:LRow}{j:Nat}{M:Int}(hD:Den D X)(hx:Bd D X x)(hp:Bd D X p)(hl:p.cs.length=x.cs.length)(ha:p.cs.getD j 0≠0)(hM:p.cs.getD j 0*(D:Rat)=(M:Rat))(hX:M.natAbs<=X):Bd (D*M) (2*(X*X)) (x.subst j (p.scale j)):=by
  refine⟨Fra.sub hD hM hX ha hx.r (hx.at j) hp.r,fun c hc=>?_⟩;obtain⟨k,hk,rfl⟩:=mem_getD_r hc;rw[LRow.subst_len]at hk;unfold LRow.subst;rw[subCs_at _ _ _ _ (by simp[LRow.scale,hl]),getD_set_r hk]
  have hs:(p.scale j).cs.getD k 0=(if j=k then 1 else p.cs.getD k 0)*(1/p.cs.getD j 0):=by
    unfold LRow.scale;simp only[List.getD,List.getElem?_map];have hk2:k<p.cs.length:=by omega
    have:=getD_set_r (cs:=p.cs) (j:=j) (a:=1) hk2;rw[List.getD]at this
    have h3:((p.cs.set j 1)[k]?)=some ((p.cs.set j 1)[k]?.getD 0):=by
      rw[List.getElem?_eq_getElem (by simpa using hk2)];rfl
    rw[h3,Option.map_some,Option.getD_some,this];rfl
  rw[hs]
  split
  . exact Fra.sub1 hD hM ha (hx.at j)
  exact Fra.sub hD hM hX ha (hx.at k) (hx.at j) (hp.at k)
end
def bdN:Nat->Nat->Nat
  |0,X=>X
  |n+1,X=>bdN n (2*(X*X))
theorem bdN_ge(n:Nat){X:Nat}(h:0<X):X<=bdN n X:=by
  induction n generalizing X with
  |zero=>exact Nat.le_refl _
  | succ n ih=>
    have h1:X<=X*X:=Nat.le_mul_of_pos_left X h;have:=ih (X:=2*(X*X)) (by omega)
    show X<=bdN n (2*(X*X))
    omega
structure LObj where
  T:LTab
  os:List LRow
structure LObj.Ok(s:LObj):Prop where
  ok:s.T.Ok
  len:∀g∈s.os,g.cs.length=s.T.free.length
structure LObj.Bd(D:Int)(X:Nat)(s:LObj):Prop where
  den:Den D X
  rows:∀x∈s.T.rows,Go.Proofs.YtjhaedfpigebdaaGreatDoor.Bd D X x
  os:∀x∈s.os,Go.Proofs.YtjhaedfpigebdaaGreatDoor.Bd D X x
def LObj.piv(s:LObj)(i j:Nat):LObj:=⟨s.T.pivot i j,s.os.map (s.T.obj i j)⟩
theorem LObj.Ok.piv{s:LObj}(h:s.Ok){i j:Nat}(hi:i<s.T.rows.length)(hj:j<s.T.free.length):(s.piv i j).Ok:=
  ⟨h.ok.pivot hi hj,fun g hg=>by
    obtain⟨g',hg',rfl⟩:=List.mem_map.1 hg;simp[LObj.piv,LTab.obj,LTab.pivot,LRow.subst_len,h.len g' hg']⟩
theorem LObj.Bd.piv{D:Int}{X:Nat}{s:LObj}(h:s.Bd D X)(hok:s.Ok){i j:Nat}{x:LRow}(hx:s.T.rows[i]?=some x)(ha:x.cs.getD j 0≠0):∃D',(s.piv i j).Bd D' (2*(X*X)):=by
  have hxb:=h.rows x (List.mem_of_getElem? hx);obtain⟨M,hX,hM⟩:=hxb.at j;have hxd:s.T.rows.getD i default=x:=getD_of hx;refine⟨D*M,h.den.step hM hX ha,fun y hy=>?_,fun y hy=>?_⟩
  . obtain⟨k,hk⟩:=List.mem_iff_getElem?.1 hy;rw[show(s.piv i j).T=s.T.pivot i j from rfl,pivot_rows]at hk
    cases e:s.T.rows[k]? with
    |none=>rw[e]at hk;cases hk
    | some z=>
      rw[e]at hk;simp only[Option.map_some,Option.some.injEq]at hk;subst hk
      split
      . rename_i hki;subst hki;rw[hx]at e;cases e;exact hxb.scale h.den ha hM
      rw[hxd];exact Go.Proofs.YtjhaedfpigebdaaGreatDoor.Bd.subst h.den (h.rows z (List.mem_of_getElem? e)) hxb ((hok.ok.row hx).trans (hok.ok.row e).symm) ha hM hX
  obtain⟨g,hg,rfl⟩:=List.mem_map.1 hy;unfold LTab.obj;rw[hxd];exact Go.Proofs.YtjhaedfpigebdaaGreatDoor.Bd.subst h.den (h.os g hg) hxb ((hok.ok.row hx).trans (hok.len g hg).symm) ha hM hX
structure Alike(s t:LObj):Prop where
  sat:∀v,s.T.Sat v↔t.T.Sat v
  n:s.os.length=t.os.length
  val:∀(k:Nat) (g g':LRow) (v:Int->Rat),s.os[k]?=some g->t.os[k]?=some g'->t.T.Sat v->g.ev v s.T.free=g'.ev v t.T.free
  mem:∀n,n∈s.T.basic++s.T.free↔n∈t.T.basic++t.T.free
  nb:s.T.basic.length=t.T.basic.length
  nf:s.T.free.length=t.T.free.length
theorem Alike.refl(s:LObj):Alike s s:=⟨fun _=>Iff.rfl,rfl,fun k g g' v h1 h2 _=>by rw[h1]at h2;cases h2;rfl,fun _=>Iff.rfl,rfl,rfl⟩
theorem Alike.trans{s t u:LObj}(h:Alike s t)(h':Alike t u):Alike s u:=by
  refine⟨fun v=>(h.sat v).trans (h'.sat v),h.n.trans h'.n,fun k g g' v h1 h2 hs=>?_,fun n=>(h.mem n).trans (h'.mem n),h.nb.trans h'.nb,h.nf.trans h'.nf⟩;have hk:k<t.os.length:=h.n▸(List.getElem?_eq_some_iff.1 h1).1;exact(h.val k g _ v h1 (List.getElem?_eq_getElem hk) ((h'.sat v).2 hs)).trans (h'.val k _ g' v (List.getElem?_eq_getElem hk) h2 hs)
theorem Alike.symm{s t:LObj}(h:Alike s t):Alike t s:=
  ⟨fun v=>(h.sat v).symm,h.n.symm,fun k g g' v h1 h2 hs=>(h.val k g' g v h2 h1 ((h.sat v).1 hs)).symm,fun n=>(h.mem n).symm,h.nb.symm,h.nf.symm⟩
theorem LObj.Ok.alike{s:LObj}(h:s.Ok){i j:Nat}{x:LRow}(hx:s.T.rows[i]?=some x)(hj:j<s.T.free.length)(ha:x.cs.getD j 0≠0):Alike (s.piv i j) s:=by
  have hi:i<s.T.rows.length:=(List.getElem?_eq_some_iff.1 hx).1;have hi':i<s.T.basic.length:=h.ok.nb▸hi;refine⟨h.ok.sat_pivot hx hj ha,by simp[LObj.piv],fun k g g' v h1 h2 hs=>?_,fun n=>?_,by simp[LObj.piv,LTab.pivot],by simp[LObj.piv,LTab.pivot]⟩
  . simp only[LObj.piv,List.getElem?_map,h2,Option.map_some,Option.some.injEq]at h1;subst h1;exact h.ok.obj_ev hx hj ha (h.len g' (List.mem_of_getElem? h2)) hs
  have hb:=getD_some hi';have hf:=getD_some hj;simp only[LObj.piv,LTab.pivot,List.mem_append];constructor
  . rintro(h|h)
    . rcases List.mem_or_eq_of_mem_set h with h|rfl
      . exact .inl h
      exact .inr (List.mem_of_getElem? hf)
    rcases List.mem_or_eq_of_mem_set h with h|rfl
    . exact .inr h
    exact .inl (List.mem_of_getElem? hb)
  rintro(h|h)
  . by_cases e:n=s.T.basic.getD i 0
    . exact .inr (e▸mem_set_self hj)
    exact .inl (mem_set_ne h e)
  by_cases e:n=s.T.free.getD j 0
  . exact .inl (e▸mem_set_self hi')
  exact .inr (mem_set_ne h e)
theorem filter_lt{l:List Int}{p q:Int->Bool}{e:Int}(he:e∈l)(hp:p e=true)(hq:q e=false)(h:∀x∈l,q x=true->p x=true):(l.filter q).length<(l.filter p).length:=by
  have h1:l.filter q=(l.filter p).filter q:=by
    rw[List.filter_filter];refine List.filter_congr fun x hx=>?_
    cases hqx:q x with
    |true=>simp[h x hx hqx]
    |false=>simp
  rw[h1];refine List.length_filter_lt_length_iff_exists.2 ⟨e,List.mem_filter.2 ⟨he,hp⟩,by simp[hq]⟩
theorem exch{t:LObj}(ht:t.Ok):∀(n:Nat) (s:LObj) (D:Int) (X:Nat),s.Ok->Alike s t->s.Bd D X->0<X->(t.T.basic.filter fun b=> !s.T.basic.contains b).length<=n-> ∃u D',u.Ok/\Alike u t/\u.Bd D' (bdN n X)/\ ∀b∈t.T.basic,b∈u.T.basic:=by
  intro n
  induction n with
  | zero=>
    intro s D X hs ha hb hX hn;refine⟨s,D,hs,ha,hb,fun b hm=>?_⟩;have h0:=List.eq_nil_of_length_eq_zero (Nat.le_zero.1 hn);have:=List.filter_eq_nil_iff.1 h0 b hm
    simpa using this
  | succ n ih=>
    intro s D X hs ha hb hX hn
    by_cases hall:∀b∈t.T.basic,b∈s.T.basic
    . refine⟨s,D,hs,ha,?_,hall⟩;have hle:=bdN_ge (n+1) hX
      exact⟨⟨hb.den.nz,Nat.le_trans hb.den.le hle⟩,fun x hx=>⟨(hb.rows x hx).r.imp fun M h=>⟨Nat.le_trans h.1 hle,h.2⟩,fun c hc=>((hb.rows x hx).cs c hc).imp fun M h=>⟨Nat.le_trans h.1 hle,h.2⟩⟩,
        fun x hx=>⟨(hb.os x hx).r.imp fun M h=>⟨Nat.le_trans h.1 hle,h.2⟩,fun c hc=>((hb.os x hx).cs c hc).imp fun M h=>⟨Nat.le_trans h.1 hle,h.2⟩⟩⟩
    obtain⟨e,he⟩:=Classical.not_forall.1 hall;obtain⟨he1,he2⟩:=Classical.not_imp.1 he
    have hef:e∈s.T.free:=by
      rcases List.mem_append.1 ((ha.mem e).2 (List.mem_append_left _ he1))with h|h
      . exact absurd h he2
      exact h
    obtain⟨j,hj⟩:=List.mem_iff_getElem?.1 hef;have hjl:j<s.T.free.length:=(List.getElem?_eq_some_iff.1 hj).1;have hjd:s.T.free.getD j 0=e:=getD_of hj
    obtain⟨i,x,b,hx,hbi,hbt,hne⟩:∃(i:Nat) (x:LRow) (b:Int),s.T.rows[i]?=some x/\s.T.basic[i]?=some b/\b∉t.T.basic/\x.cs.getD j 0≠0:=Classical.byContradiction fun hno=>by
      have s1:=(ha.sat _).1 (hs.ok.sat_pt hjl 1);have s0:=(ha.sat _).1 (hs.ok.sat_pt hjl 0);obtain⟨r,hr⟩:=List.mem_iff_getElem?.1 he1;have hrl:r<t.T.rows.length:=by rw[<-ht.ok.nb];exact(List.getElem?_eq_some_iff.1 hr).1
      have q1:=s1 r e _ hr (row_getD hrl);have q0:=s0 r e _ hr (row_getD hrl);have d1:s.T.pt j 1 e=1:=by rw[<-hjd];exact LTab.pt_j _ _ _
      have d0:s.T.pt j 0 e=0:=by rw[<-hjd];exact LTab.pt_j _ _ _
      unfold LRow.ev at q1 q0
      have hz:dotV (fun n=>s.T.pt j 1 n-s.T.pt j 0 n) (t.T.rows.getD r default).cs t.T.free=0:=dotV_zero fun n hn=>by
        have hnt:n∉t.T.basic:=fun h=>ht.ok.apart h hn
        by_cases hnb:n∈s.T.basic
        . obtain⟨i,hi⟩:=List.mem_iff_getElem?.1 hnb;have hil:i<s.T.rows.length:=by rw[<-hs.ok.nb];exact(List.getElem?_eq_some_iff.1 hi).1
          have hc:(s.T.rows.getD i default).cs.getD j 0=0:=Classical.byContradiction fun h=>hno ⟨i,_,n,row_getD hil,hi,hnt,h⟩
          show s.T.pt j 1 n-s.T.pt j 0 n=0
          rw[hs.ok.pt_at hjl 1 hi (row_getD hil),hs.ok.pt_at hjl 0 hi (row_getD hil),hc]
          grind
        have hne:n≠s.T.free.getD j 0:=fun h=>hnt (by rw[h,hjd];exact he1)
        show s.T.pt j 1 n-s.T.pt j 0 n=0
        rw[LTab.pt_out 1 hnb hne,LTab.pt_out 0 hnb hne]
        grind
      rw[dotV_subv]at hz;rw[d1]at q1;rw[d0]at q0
      grind
    have hil:i<s.T.rows.length:=(List.getElem?_eq_some_iff.1 hx).1;obtain⟨D',hb'⟩:=hb.piv hs hx hne;refine ih (s.piv i j) D' (2*(X*X)) (hs.piv hil hjl) ((hs.alike hx hjl hne).trans ha) hb' (by have:=Nat.mul_pos hX hX;omega) ?_;refine Nat.le_of_lt_succ (Nat.lt_of_lt_of_le (filter_lt (e:=e) he1 (by simpa using he2) ?_ fun y hy hq=>?_) hn)
    . have:e∈(s.piv i j).T.basic:=by
        show e∈s.T.basic.set i (s.T.free.getD j 0)
        rw[hjd];exact mem_set_self (by rw[hs.ok.nb];exact hil)
      simpa using this
    have hy2:y∉(s.piv i j).T.basic:=by simpa using hq
    have:y∉s.T.basic:=fun hm=>hy2 (by
      show y∈s.T.basic.set i (s.T.free.getD j 0)
      refine mem_set_ne hm fun h=>hbt ?_
      rw[getD_of hbi]at h;exact h▸hy)
    simpa using this
end
section
theorem subset_full{α:Type _}[DecidableEq α]:∀{l1 l2:List α},l1.Nodup->(∀x∈l1,x∈l2)->l2.length<=l1.length-> ∀x∈l2,x∈l1
  |[],l2,_,_,h,x,hx=>by obtain rfl:=List.eq_nil_of_length_eq_zero (Nat.le_zero.1 h);exact hx
  | a::l1,l2,hn,hs,hl,x,hx=>by
    by_cases e:x=a
    . exact e▸List.mem_cons_self ..
    have hn2:=List.nodup_cons.1 hn;have hl2:=List.length_erase_of_mem (hs a (List.mem_cons_self ..));have:=subset_full (l1:=l1) (l2:=l2.erase a) hn2.2 (fun y hy=>(List.mem_erase_of_ne (fun(h:y=a)=>hn2.1 (h▸hy))).2 (hs y (List.mem_cons_of_mem _ hy))) (by simp at hl;omega) x ((List.mem_erase_of_ne e).2 hx);exact List.mem_cons_of_mem _ this
section
variable {u t:LObj}{D:Int}{X:Nat}
theorem same_free(ht:t.Ok)(ha:Alike u t)(hb:∀b∈t.T.basic,b∈u.T.basic){n:Int}(hn:n∈t.T.free):n∈u.T.free:=by
  have h1:=subset_full ht.ok.nd1 hb (Nat.le_of_eq ha.nb)
  rcases List.mem_append.1 ((ha.mem n).2 (List.mem_append_right _ hn))with h|h
  . exact(ht.ok.apart (h1 n h) hn).elim
  exact h
theorem Alike.bd(ht:t.Ok)(hu:u.Ok)(ha:Alike u t)(hb:∀b∈t.T.basic,b∈u.T.basic)(hB:u.Bd D X):t.Bd D X:=by
  have hfr:∀n∈u.T.free,n∈t.T.free:=fun n hn=>by
    rcases List.mem_append.1 ((ha.mem n).1 (List.mem_append_right _ hn))with h|h
    . exact(hu.ok.apart (hb n h) hn).elim
    exact h
  have hzero:∀n∈u.T.free,t.T.sol n=0:=fun n hn=>ht.ok.sol_free (hfr n hn)
  --a free variable's place in u
  have place:∀k,k<t.T.free.length-> ∃k',k'<u.T.free.length/\u.T.free.getD k' 0=t.T.free.getD k 0/\ ∀m f,m≠k'->u.T.free[m]?=some f->t.T.pt k 1 f=0:=fun k hk=>by
    obtain⟨k',hk'⟩:=List.mem_iff_getElem?.1 (same_free ht ha hb (mem_getD hk));refine⟨k',(List.getElem?_eq_some_iff.1 hk').1,getD_of hk',fun m f hm hf=>?_⟩;have hff:=hfr f (List.mem_of_getElem? hf);refine LTab.pt_out 1 (fun h=>ht.ok.apart h hff) fun e=>hm ?_
    obtain⟨x1,x2⟩:=List.getElem?_eq_some_iff.1 hf;obtain⟨y1,y2⟩:=List.getElem?_eq_some_iff.1 hk';exact nodup_inj hu.ok.nd2 x1 y1 (x2.trans (e.trans y2.symm))
  refine⟨hB.den,fun y hy=>?_,fun y hy=>?_⟩
  . obtain⟨r,hr⟩:=List.mem_iff_getElem?.1 hy;have hrl:r<t.T.basic.length:=by rw[ht.ok.nb];exact(List.getElem?_eq_some_iff.1 hr).1
    have hbr:=getD_some hrl;obtain⟨i,hi⟩:=List.mem_iff_getElem?.1 (hb _ (List.mem_of_getElem? hbr));have hil:i<u.T.rows.length:=by rw[<-hu.ok.nb];exact(List.getElem?_eq_some_iff.1 hi).1
    have hx:=row_getD hil;have hxB:=hB.rows _ (List.mem_of_getElem? hx);refine⟨?_,fun c hc=>?_⟩
    . have h1:=LTab.Sat.at ((ha.sat _).2 ht.ok.sat_sol) hzero hi hx;rw[ht.ok.sol_at hbr hr]at h1;rw[h1];exact hxB.r
    obtain⟨k,hk,rfl⟩:=mem_getD_r hc;rw[ht.ok.row hr]at hk;obtain⟨k',h1,h2,h3⟩:=place k hk;have h4:=(ha.sat _).2 (ht.ok.sat_pt hk 1) i _ _ hi hx;have h4':=LTab.Sat.at ((ha.sat _).2 ht.ok.sat_sol) hzero hi hx;rw[ht.ok.sol_at hbr hr]at h4';rw[ht.ok.pt_at hk 1 hbr hr]at h4;unfold LRow.ev at h4;rw[dotV_one h1 (by rw[hu.ok.row hx];exact h1) h3,h2,LTab.pt_j]at h4;rw[show y.cs.getD k 0=(u.T.rows.getD i default).cs.getD k' 0 by grind];exact hxB.at k'
  obtain⟨o,ho⟩:=List.mem_iff_getElem?.1 hy;have hol:o<u.os.length:=by rw[ha.n];exact(List.getElem?_eq_some_iff.1 ho).1
  obtain⟨g,hg⟩:∃g,u.os[o]?=some g:=⟨_,List.getElem?_eq_getElem hol⟩;have hgB:=hB.os g (List.mem_of_getElem? hg);have hyl:=ht.len y hy;have hgl:=hu.len g (List.mem_of_getElem? hg);have h0:=ha.val o g y t.T.sol hg ho ht.ok.sat_sol;unfold LRow.ev at h0;rw[dotV_zero hzero,dotV_zero (fun n hn=>ht.ok.sol_free hn)]at h0;refine⟨by rw[show y.r=g.r by grind];exact hgB.r,fun c hc=>?_⟩;obtain⟨k,hk,rfl⟩:=mem_getD_r hc;rw[hyl]at hk;obtain⟨k',h1,h2,h3⟩:=place k hk;have h4:=ha.val o g y _ hg ho (ht.ok.sat_pt hk 1);unfold LRow.ev at h4;rw[dotV_one h1 (by rw[hgl];exact h1) h3,h2,LTab.pt_j,ht.ok.pt_dot hk 1 hyl]at h4;rw[show y.cs.getD k 0=g.cs.getD k' 0 by grind];exact hgB.at k'
theorem Alike.small{s:LObj}(hs:s.Ok)(ht:t.Ok)(ha:Alike s t)(hB:s.Bd D X)(hX:0<X){n:Nat}(hn:s.T.basic.length<=n\/s.T.free.length<=n):∃D',t.Bd D' (bdN n X):=by
  obtain⟨u,D',h1,h2,h3,h4⟩:=exch ht n s D X hs ha hB hX (by
    rcases hn with hn|hn
    . exact Nat.le_trans (List.length_filter_le _ _) (by rw[<-ha.nb];exact hn)
    refine Nat.le_trans ?_ hn;have hnd:(t.T.basic.filter fun b=> !s.T.basic.contains b).Nodup:=ht.ok.nd1.filter _
    have hsub:∀x∈t.T.basic.filter (fun b=> !s.T.basic.contains b),x∈s.T.free:=fun x hx=>by
      obtain⟨hx1,hx2⟩:=List.mem_filter.1 hx
      rcases List.mem_append.1 ((ha.mem x).2 (List.mem_append_left _ hx1))with h|h
      . simp[h]at hx2
      exact h
    exact Classical.byContradiction fun hc=>by
      generalize hF:t.T.basic.filter (fun b=> !s.T.basic.contains b)=F at hnd hsub hc
      obtain⟨a,l,rfl⟩:∃a l,F=a::l:=by
        cases F with
        |nil=>simp at hc
        |cons a l=>exact⟨a,l,rfl⟩
      have hn2:=List.nodup_cons.1 hnd;have:=subset_full (l1:=l) (l2:=s.T.free) hn2.2 (fun x hx=>hsub x (List.mem_cons_of_mem _ hx)) (by simp at hc;omega) a (hsub a (List.mem_cons_self ..));exact hn2.1 this)
  exact⟨D',Alike.bd ht h1 h2 h4 h3⟩
end
def dotQ:List Rat->List Rat->Rat
  |a::az,b::bs=>a*b+dotQ az bs
  |_,_=>0
theorem dotQ_nil(b:List Rat):dotQ [] b=0:=by cases b<;>rfl
theorem dotQ_nil'(a:List Rat):dotQ a []=0:=by cases a<;>rfl
theorem dotQ_comm:∀a b:List Rat,dotQ a b=dotQ b a
  |[],b=>by rw[dotQ_nil,dotQ_nil']
  |a::az,[]=>rfl
  |a::az,b::bs=>by simp only[dotQ];rw[dotQ_comm az bs];grind
theorem dotV_dot(v:Int->Rat):∀(cs:List Rat) (fs:List Int),dotV v cs fs=dotQ cs (fs.map v)
  |[],fs=>by rw[dotV_nil,dotQ_nil]
  |c::cs,[]=>rfl
  |c::cs,f::fs=>by simp only[dotV,List.map_cons,dotQ];rw[dotV_dot v cs fs]
theorem dotQ_append:∀(a c b d:List Rat),a.length=b.length->dotQ (a++c) (b++d)=dotQ a b+dotQ c d
  |[],c,[],d,_=>by simp only[List.nil_append,dotQ];grind
  |[],c,_::_,d,h=>by simp at h
  |_::_,c,[],d,h=>by simp at h
  | x::a,c,y::b,d,h=>by
    have:=dotQ_append a c b d (by simpa using h);simp only[List.cons_append,dotQ];rw[this];grind
theorem dotQ_sub{α:Type _}(p q:α->Rat):∀(Y:List Rat) (l:List α),dotQ Y (l.map fun x=>p x-q x)=dotQ Y (l.map p)-dotQ Y (l.map q)
  |[],l=>by simp only[dotQ_nil];grind
  |y::Y,[]=>by simp only[List.map_nil,dotQ];grind
  |y::Y,x::l=>by simp only[List.map_cons,dotQ];rw[dotQ_sub p q Y l];grind
theorem dotQ_neg:∀(a b:List Rat),dotQ (a.map fun x=>0-x) b=0-dotQ a b
  |[],b=>by simp only[List.map_nil,dotQ_nil];grind
  |a::az,[]=>by simp only[List.map_cons,dotQ];grind
  |a::az,b::bs=>by simp only[List.map_cons,dotQ];rw[dotQ_neg az bs];grind
theorem dotQ_zeros:∀(a:List Rat) (n:Nat),dotQ a (List.replicate n 0)=0
  |[],n=>dotQ_nil _
  |a::az,0=>rfl
  |a::az,n+1=>by simp only[List.replicate_succ,dotQ];rw[dotQ_zeros az n];grind
def unitQ(n k:Nat):List Rat:=(List.replicate n 0).set k 1
theorem dotQ_unit:∀(a:List Rat) (n k:Nat),a.length=n->k<n->dotQ a (unitQ n k)=a.getD k 0
  |[],n,k,h,hk=>by simp at h;omega
  |a::az,0,k,h,hk=>by omega
  | a::az,n+1,0,h,hk=>by
    unfold unitQ;simp only[List.replicate_succ,List.set_cons_zero,dotQ,List.getD_cons_zero];rw[dotQ_zeros];grind
  | a::az,n+1,k+1,h,hk=>by
    have:=dotQ_unit az n k (by simpa using h) (by omega);unfold unitQ at this⊢;simp only[List.replicate_succ,List.set_cons_succ,dotQ,List.getD_cons_succ];rw[this];grind
theorem dotQ_mono:∀{y a b:List Rat},a.length=b.length->(∀e∈y,0<=e)->(∀(k:Nat) p q,a[k]?=some p->b[k]?=some q->p<=q)->dotQ y a<=dotQ y b
  |[],a,b,_,_,_=>by simp only[dotQ_nil];exact Rat.le_refl
  |y::ys,[],b,h,_,_=>by obtain rfl:=List.eq_nil_of_length_eq_zero h.symm;exact Rat.le_refl
  |y::ys,a::az,[],h,_,_=>by simp at h
  | y::ys,a::az,b::bs,h,hy,hk=>by
    have ih:=dotQ_mono (y:=ys) (a:=az) (b:=bs) (by simpa using h) (fun e he=>hy e (List.mem_cons_of_mem _ he)) fun k p q h1 h2=>hk (k+1) p q h1 h2
    have h0:=Rat.mul_le_mul_of_nonneg_left (hk 0 a b rfl rfl) (hy y (List.mem_cons_self ..));simp only[dotQ]
    grind
theorem asg_sum(v:Int->Rat):∀(fs:List Int) (cs:List Rat) (L:List Int),cs.length=fs.length->fs.Nodup->L.Nodup->(∀f∈fs,f∈L)->dotV v cs fs=dotQ (L.map (asg fs cs)) (L.map v):=by
  have h0:∀L:List Int,dotQ (L.map fun _=>(0:Rat)) (L.map v)=0:=fun L=>by
    induction L with
    |nil=>rfl
    |cons a L ih=>simp only[List.map_cons,dotQ];rw[ih];grind
  have h1:∀(L:List Int) (f:Int) (c:Rat) (h:Int->Rat),f∉L->dotQ (L.map fun n=>if n=f then c else h n) (L.map v)=dotQ (L.map h) (L.map v):=fun L f c h hf=>by
    have:(L.map fun n=>if n=f then c else h n)=L.map h:=List.map_congr_left fun n hn=>if_neg fun(e:n=f)=>hf (e▸hn)
    rw[this]
  have h2:∀(L:List Int) (f:Int) (c:Rat) (h:Int->Rat),L.Nodup->f∈L->h f=0->dotQ (L.map fun n=>if n=f then c else h n) (L.map v)=c*v f+dotQ (L.map h) (L.map v):=fun L f c h=>by
    induction L with
    |nil=>intro _ hf;simp at hf
    | cons a L ih=>
      intro hn hf hz;have hn2:=List.nodup_cons.1 hn;simp only[List.map_cons,dotQ]
      by_cases e:a=f
      . subst e;rw[if_pos rfl,h1 L a c h hn2.1,hz];grind
      rw[if_neg e,ih hn2.2 ((List.mem_cons.1 hf).resolve_left (Ne.symm e)) hz];grind
  intro fs
  induction fs with
  | nil=>
    intro cs L hl _ _ _;obtain rfl:=List.eq_nil_of_length_eq_zero hl;rw[dotV_nil];exact(h0 L).symm
  | cons f fs ih=>
    intro cs L hl hn hL hm
    cases cs with
    |nil=>simp at hl
    | cons c cs=>
      have hn2:=List.nodup_cons.1 hn;have i1:=ih cs L (by simpa using hl) hn2.2 hL fun g hg=>hm g (List.mem_cons_of_mem _ hg)
      have i2:=h2 L f c (asg fs cs) hL (hm f (List.mem_cons_self ..)) (asg_out _ _ _ hn2.1);simp only[dotV];rw[i1, <-i2];rfl
end
section
structure LPd where
  c:List Rat
  A:List (List Rat)
  b:List Rat
structure LPd.Ok(P:LPd):Prop where
  hb:P.b.length=P.A.length
  ha:∀a∈P.A,a.length=P.c.length
def slk(m:Nat):List Int:=(List.range m).map fun i=>((i:Nat):Int)
def cls(m n:Nat):List Int:=(List.range n).map fun k=>((m+k:Nat):Int)
theorem mem_slk{m:Nat}{x:Int}:x∈slk m↔0<=x/\x<(m:Int):=by
  simp only[slk,List.mem_map,List.mem_range];exact⟨fun⟨i,hi,e⟩=>by omega,fun h=>⟨x.toNat,by omega,by omega⟩⟩
theorem mem_cls{m n:Nat}{x:Int}:x∈cls m n↔(m:Int)<=x/\x<(m:Int)+(n:Int):=by
  simp only[cls,List.mem_map,List.mem_range];exact⟨fun⟨i,hi,e⟩=>by omega,fun h=>⟨x.toNat-m,by omega,by omega⟩⟩
theorem slk_len(m:Nat):(slk m).length=m:=by simp[slk]
theorem cls_len(m n:Nat):(cls m n).length=n:=by simp[cls]
theorem slk_at{m i:Nat}(h:i<m):(slk m)[i]?=some (i:Int):=by simp[slk,h]
theorem cls_at{m n k:Nat}(h:k<n):(cls m n)[k]?=some ((m+k:Nat):Int):=by simp[cls,h]
theorem slk_nd(m:Nat):(slk m).Nodup:=by
  refine List.pairwise_map.2 (List.Pairwise.imp ?_ List.nodup_range);intro a b h e;exact h (by omega)
theorem cls_nd(m n:Nat):(cls m n).Nodup:=by
  refine List.pairwise_map.2 (List.Pairwise.imp ?_ List.nodup_range);intro a b h e;exact h (by omega)
theorem all_nd(m n:Nat):(slk m++cls m n).Nodup:=List.nodup_append.2 ⟨slk_nd m,cls_nd m n,fun a ha b hb e=>by
  have:=mem_slk.1 ha;have:=mem_cls.1 hb;omega⟩
theorem allA_nd(m n:Nat):(slk m++(cls m n++[-1])).Nodup:=by
  rw[<-List.append_assoc];refine List.nodup_append.2 ⟨all_nd m n,by simp,fun a ha b hb e=>?_⟩;simp at hb
  rcases List.mem_append.1 ha with h|h
  . have:=mem_slk.1 h;omega
  have:=mem_cls.1 h;omega
section
variable {P:LPd}
def LPd.asn(P:LPd)(x:List Rat)(t:Rat)(n:Int):Rat:=
  if n<0 then t else if n<(P.A.length:Int)then P.b.getD n.toNat 0-dotQ (P.A.getD n.toNat []) x+t else x.getD (n.toNat-P.A.length) 0
def LPd.rows0(P:LPd):List LRow:=(List.range P.A.length).map fun i=>⟨P.A.getD i [],P.b.getD i 0⟩
def LPd.rowsA(P:LPd):List LRow:=(List.range P.A.length).map fun i=>⟨P.A.getD i []++[-1],P.b.getD i 0⟩
def LPd.init(P:LPd):LObj:=⟨⟨P.rows0,slk P.A.length,cls P.A.length P.c.length⟩,[⟨P.c.map fun x=>0-x,0⟩]⟩
def LPd.initA(P:LPd):LObj:=⟨⟨P.rowsA,slk P.A.length,cls P.A.length P.c.length++[-1]⟩,[⟨(P.c.map fun x=>0-x)++[0],0⟩,⟨List.replicate P.c.length 0++[1],0⟩]⟩
theorem LPd.Ok.row(h:P.Ok){i:Nat}(hi:i<P.A.length):(P.A.getD i []).length=P.c.length:=by
  rw[List.getD,List.getElem?_eq_getElem hi];exact h.ha _ (List.getElem_mem hi)
theorem LPd.Ok.init(h:P.Ok):P.init.Ok:=by
  refine⟨⟨by simp[LPd.init,LPd.rows0,slk_len],fun x hx=>?_,all_nd _ _⟩,fun g hg=>?_⟩
  . obtain⟨i,hi,rfl⟩:=List.mem_map.1 hx;simp only[LPd.init,cls_len];exact h.row (by simpa using hi)
  simp only[LPd.init,List.mem_singleton]at hg;subst hg;simp[LPd.init,cls_len]
theorem LPd.Ok.initA(h:P.Ok):P.initA.Ok:=by
  refine⟨⟨by simp[LPd.initA,LPd.rowsA,slk_len],fun x hx=>?_,allA_nd _ _⟩,fun g hg=>?_⟩
  . obtain⟨i,hi,rfl⟩:=List.mem_map.1 hx;have:=h.row (i:=i) (by simpa using hi);simp only[LPd.initA,List.length_append,cls_len,this,List.length_singleton]
  simp only[LPd.initA,List.mem_cons,List.not_mem_nil,or_false]at hg
  rcases hg with rfl|rfl
  . simp[LPd.initA,cls_len]
  simp[LPd.initA,cls_len]
theorem asn_cls(x:List Rat)(t:Rat){n:Nat}(hx:x.length=n):(cls P.A.length n).map (P.asn x t)=x:=by
  refine List.ext_getElem? fun k=>?_
  by_cases hk:k<n
  . rw[List.getElem?_map,cls_at hk,Option.map_some];unfold LPd.asn;rw[if_neg (by omega),if_neg (by omega),Int.toNat_natCast,Nat.add_sub_cancel_left,List.getD,List.getElem?_eq_getElem (by omega)];rfl
  rw[List.getElem?_eq_none (by simp[cls_len];omega),List.getElem?_eq_none (by omega)]
theorem asn_slk(x:List Rat)(t:Rat):(slk P.A.length).map (P.asn x t)=(List.range P.A.length).map fun i=>P.b.getD i 0-dotQ (P.A.getD i []) x+t:=by
  unfold slk;rw[List.map_map];refine List.map_congr_left fun i hi=>?_
  have hi:=List.mem_range.1 hi
  show P.asn x t ((i:Nat):Int)=_
  unfold LPd.asn;rw[if_neg (by omega),if_pos (by omega),Int.toNat_natCast]
theorem asn_at(x:List Rat)(t:Rat){i:Nat}(hi:i<P.A.length):P.asn x t (i:Int)=P.b.getD i 0-dotQ (P.A.getD i []) x+t:=by
  unfold LPd.asn;rw[if_neg (by omega),if_pos (by omega),Int.toNat_natCast]
theorem asn_art(x:List Rat)(t:Rat):P.asn x t (-1)=t:=by unfold LPd.asn;rw[if_pos (by decide)]
theorem rows0_at{i:Nat}(hi:i<P.A.length):P.rows0[i]?=some ⟨P.A.getD i [],P.b.getD i 0⟩:=by unfold LPd.rows0;rw[List.getElem?_map,List.getElem?_range hi];rfl
theorem rowsA_at{i:Nat}(hi:i<P.A.length):P.rowsA[i]?=some ⟨P.A.getD i []++[-1],P.b.getD i 0⟩:=by unfold LPd.rowsA;rw[List.getElem?_map,List.getElem?_range hi];rfl
theorem init_sat{v:Int->Rat}:P.init.T.Sat v↔ ∀i,i<P.A.length->v (i:Int)=P.b.getD i 0-dotQ (P.A.getD i []) ((cls P.A.length P.c.length).map v):=by
  constructor
  . intro h i hi;have:=h i _ _ (slk_at hi) (rows0_at hi);unfold LRow.ev at this;rw[dotV_dot]at this;exact this
  intro h i b x hb hx
  have hi:i<P.A.length:=by
    have:=(List.getElem?_eq_some_iff.1 hb).1
    simpa[LPd.init,slk_len]using this
  have e1:P.init.T.basic[i]?=some (i:Int):=slk_at hi;have e2:P.init.T.rows[i]?=_:=rows0_at hi;rw[e1]at hb;rw[e2]at hx
  cases hb;cases hx
  unfold LRow.ev;rw[dotV_dot];exact h i hi
theorem sat_asn{x:List Rat}(hx:x.length=P.c.length):P.init.T.Sat (P.asn x 0):=init_sat.2 fun i hi=>by
  rw[asn_cls x 0 hx,asn_at x 0 hi];grind
theorem sat_asnA(hP:P.Ok){x:List Rat}(hx:x.length=P.c.length)(t:Rat):P.initA.T.Sat (P.asn x t):=fun i b y hb hy=>by
  have hi:i<P.A.length:=by
    have:=(List.getElem?_eq_some_iff.1 hb).1
    simpa[LPd.initA,slk_len]using this
  have e1:P.initA.T.basic[i]?=some (i:Int):=slk_at hi;have e2:P.initA.T.rows[i]?=_:=rowsA_at hi;rw[e1]at hb;rw[e2]at hy
  cases hb;cases hy
  unfold LRow.ev;rw[dotV_dot,show P.initA.T.free=cls P.A.length P.c.length++[-1]from rfl,List.map_append,asn_cls x t hx,asn_at x t hi];have h1:=dotQ_append (P.A.getD i []) [-1] x [t] (by rw[hP.row hi,hx]);simp only[List.map_cons,List.map_nil,asn_art];rw[h1];simp only[dotQ]
  grind
structure OptC(P:LPd)(x y:List Rat)(z:Rat):Prop where
  xl:x.length=P.c.length
  x0:∀e∈x,0<=e
  ax:∀i,i<P.A.length->dotQ (P.A.getD i []) x<=P.b.getD i 0
  yl:y.length=P.A.length
  y0:∀e∈y,0<=e
  ya:∀k,k<P.c.length->P.c.getD k 0<=dotQ y (P.A.map fun a=>a.getD k 0)
  cx:dotQ P.c x=z
  yb:dotQ P.b y=z
structure InfC(P:LPd)(y:List Rat):Prop where
  yl:y.length=P.A.length
  y0:∀e∈y,0<=e
  ya:∀k,k<P.c.length->0<=dotQ y (P.A.map fun a=>a.getD k 0)
  yb:dotQ P.b y<0
structure UnbC(P:LPd)(x r:List Rat):Prop where
  xl:x.length=P.c.length
  x0:∀e∈x,0<=e
  ax:∀i,i<P.A.length->dotQ (P.A.getD i []) x<=P.b.getD i 0
  rl:r.length=P.c.length
  r0:∀e∈r,0<=e
  ar:∀i,i<P.A.length->dotQ (P.A.getD i []) r<=0
  cr:0<dotQ P.c r
theorem col_eq(_h:P.Ok)(k:Nat):(P.A.map fun a=>a.getD k 0)=(List.range P.A.length).map fun i=>(P.A.getD i []).getD k 0:=by
  refine List.ext_getElem? fun i=>?_
  rw[List.getElem?_map,List.getElem?_map]
  by_cases hi:i<P.A.length
  . rw[List.getElem?_range hi,List.getElem?_eq_getElem hi,Option.map_some,Option.map_some,List.getD_eq_getElem?_getD (l:=P.A),List.getElem?_eq_getElem hi];rfl
  rw[List.getElem?_eq_none (l:=P.A) (by omega),List.getElem?_eq_none (by simp;omega)];rfl
theorem b_eq(h:P.Ok):P.b=(List.range P.A.length).map fun i=>P.b.getD i 0:=by
  refine List.ext_getElem? fun i=>?_
  rw[List.getElem?_map]
  by_cases hi:i<P.A.length
  . rw[List.getElem?_range hi,Option.map_some,List.getD,List.getElem?_eq_getElem (by rw[h.hb];exact hi)];rfl
  rw[List.getElem?_eq_none (by rw[h.hb];omega),List.getElem?_eq_none (by simp;omega)];rfl
def pricesL(m:Nat)(fs:List Int)(cs:List Rat):List Rat:=(slk m).map (asg fs cs)
def pointL(m n:Nat)(T:LTab):List Rat:=(cls m n).map T.sol
theorem asg_nn{fs:List Int}{cs:List Rat}(hc:∀k,0<=cs.getD k 0)(n:Int):0<=asg fs cs n:=by
  induction fs generalizing cs with
  |nil=>simp only[asg];exact Rat.le_refl
  | cons f fs ih=>
    cases cs with
    |nil=>simp only[asg];exact Rat.le_refl
    | cons c cs=>
      rw[asg]
      split
      . simpa using hc 0
      exact ih fun k=>by simpa using hc (k+1)
variable {s:LObj}{g:LRow}
theorem val_split(hs:s.Ok)(hm:∀n∈s.T.free,n∈slk P.A.length++(cls P.A.length P.c.length++[-1]))(hg:g.cs.length=s.T.free.length){x:List Rat}(hx:x.length=P.c.length)(t:Rat):
    g.ev (P.asn x t) s.T.free=g.r-dotQ (pricesL P.A.length s.T.free g.cs) ((List.range P.A.length).map fun i=>P.b.getD i 0-dotQ (P.A.getD i []) x+t)-dotQ ((cls P.A.length P.c.length).map (asg s.T.free g.cs)) x-asg s.T.free g.cs (-1)*t:=by
  unfold LRow.ev pricesL;rw[asg_sum (P.asn x t) s.T.free g.cs _ hg hs.ok.nd2 (allA_nd P.A.length P.c.length) hm];rw[List.map_append,List.map_append,List.map_append,List.map_append,dotQ_append _ _ _ _ (by simp),dotQ_append _ _ _ _ (by simp),asn_cls x t hx,asn_slk];simp only[List.map_cons,List.map_nil,asn_art,dotQ]
  grind
theorem map_add0{α:Type _}(l:List α)(f:α->Rat):(l.map fun x=>f x+0)=l.map f:=List.map_congr_left fun x _=>by grind
theorem optimal_of(hP:P.Ok)(hs:s.Ok)(ha:Alike s P.init)(hg:s.os[0]?=some g)(hF:s.T.Feas)(hc:∀k,0<=g.cs.getD k 0):
    OptC P (pointL P.A.length P.c.length s.T) (pricesL P.A.length s.T.free g.cs) g.r:=by
  have hgl:=hs.len g (List.mem_of_getElem? hg)
  have hm:∀n∈s.T.free,n∈slk P.A.length++(cls P.A.length P.c.length++[-1]):=fun n hn=>by
    have:=(ha.mem n).1 (List.mem_append_right _ hn);rw[<-List.append_assoc];exact List.mem_append_left _ this
  have key:∀x:List Rat,x.length=P.c.length->dotQ P.c x=g.r-dotQ (pricesL P.A.length s.T.free g.cs) ((List.range P.A.length).map fun i=>P.b.getD i 0-dotQ (P.A.getD i []) x)-dotQ ((cls P.A.length P.c.length).map (asg s.T.free g.cs)) x:=fun x hx=>by
    have h1:=val_split hs hm hgl hx 0;have h2:=ha.val 0 g _ (P.asn x 0) hg rfl (sat_asn hx);rw[h1]at h2;unfold LRow.ev at h2;rw[dotV_dot,show P.init.T.free=cls P.A.length P.c.length from rfl,asn_cls x 0 hx,dotQ_neg,map_add0]at h2
    grind
  have k0:=key (List.replicate P.c.length 0) (by simp);rw[dotQ_zeros,dotQ_zeros]at k0
  have hb0:((List.range P.A.length).map fun i=>P.b.getD i 0-dotQ (P.A.getD i []) (List.replicate P.c.length 0))=P.b:=by
    conv=>rhs;rw[b_eq hP]
    exact List.map_congr_left fun i _=>by rw[dotQ_zeros];grind
  rw[hb0]at k0;have hsol:=init_sat.1 ((ha.sat _).1 hs.ok.sat_sol)
  have hsol0:∀n,0<=s.T.sol n:=fun n=>by
    by_cases hn:n∈s.T.basic
    . obtain⟨i,hi⟩:=List.mem_iff_getElem?.1 hn;have hil:i<s.T.rows.length:=by rw[<-hs.ok.nb];exact(List.getElem?_eq_some_iff.1 hi).1
      rw[hs.ok.sol_at hi (row_getD hil)];exact hF _ (List.mem_of_getElem? (row_getD hil))
    unfold LTab.sol;rw[asg_out _ _ _ hn];exact Rat.le_refl
  refine⟨by simp[pointL,cls_len],fun e he=>?_,fun i hi=>?_,by simp[pricesL,slk_len],fun e he=>?_,fun k hk=>?_,?_,?_⟩
  . obtain⟨n,_,rfl⟩:=List.mem_map.1 he;exact hsol0 n
  . have h1:=hsol i hi;have h2:=hsol0 (i:Int);unfold pointL
    grind
  . obtain⟨n,_,rfl⟩:=List.mem_map.1 he;exact asg_nn hc n
  . have k1:=key (unitQ P.c.length k) (by simp[unitQ]);rw[dotQ_unit _ _ _ rfl hk,dotQ_unit _ _ _ (by simp[cls_len]) hk]at k1
    have e1:((List.range P.A.length).map fun i=>P.b.getD i 0-dotQ (P.A.getD i []) (unitQ P.c.length k))=(List.range P.A.length).map fun i=>P.b.getD i 0-(P.A.getD i []).getD k 0:=
      List.map_congr_left fun i hi=>by rw[dotQ_unit _ _ _ (hP.row (List.mem_range.1 hi)) hk]
    rw[e1,dotQ_sub, <-b_eq hP, <-col_eq hP]at k1
    have h3:0<=((cls P.A.length P.c.length).map (asg s.T.free g.cs)).getD k 0:=by
      rw[List.getD,List.getElem?_map,cls_at hk];exact asg_nn hc _
    grind
  . have h2:=ha.val 0 g _ s.T.sol hg rfl ((ha.sat _).1 hs.ok.sat_sol);unfold LRow.ev at h2;rw[dotV_zero (fun n hn=>hs.ok.sol_free hn),dotV_dot,dotQ_neg]at h2
    show dotQ P.c ((cls P.A.length P.c.length).map s.T.sol)=g.r
    have:P.init.T.free=cls P.A.length P.c.length:=rfl;rw[this]at h2
    grind
  rw[dotQ_comm];grind
theorem infeasible_of(hP:P.Ok)(hs:s.Ok)(ha:Alike s P.initA)(hg:s.os[1]?=some g)(hc:∀k,0<=g.cs.getD k 0)(hr:g.r<0):InfC P (pricesL P.A.length s.T.free g.cs):=by
  have hgl:=hs.len g (List.mem_of_getElem? hg);have hm:∀n∈s.T.free,n∈slk P.A.length++(cls P.A.length P.c.length++[-1]):=fun n hn=>(ha.mem n).1 (List.mem_append_right _ hn)
  have key:∀x:List Rat,x.length=P.c.length->0=g.r-dotQ (pricesL P.A.length s.T.free g.cs) ((List.range P.A.length).map fun i=>P.b.getD i 0-dotQ (P.A.getD i []) x)-dotQ ((cls P.A.length P.c.length).map (asg s.T.free g.cs)) x:=fun x hx=>by
    have h1:=val_split hs hm hgl hx 0;have h2:=ha.val 1 g _ (P.asn x 0) hg rfl (sat_asnA hP hx 0);rw[h1]at h2;unfold LRow.ev at h2;rw[dotV_dot,show P.initA.T.free=cls P.A.length P.c.length++[-1]from rfl,List.map_append,asn_cls x 0 hx,dotQ_append _ _ _ _ (by simp[hx]),map_add0]at h2;simp only[List.map_cons,List.map_nil,asn_art,dotQ]at h2;rw[dotQ_comm (List.replicate _ _),dotQ_zeros]at h2
    grind
  have k0:=key (List.replicate P.c.length 0) (by simp);rw[dotQ_zeros]at k0
  have hb0:((List.range P.A.length).map fun i=>P.b.getD i 0-dotQ (P.A.getD i []) (List.replicate P.c.length 0))=P.b:=by
    conv=>rhs;rw[b_eq hP]
    exact List.map_congr_left fun i _=>by rw[dotQ_zeros];grind
  rw[hb0]at k0;refine⟨by simp[pricesL,slk_len],fun e he=>?_,fun k hk=>?_,?_⟩
  . obtain⟨n,_,rfl⟩:=List.mem_map.1 he;exact asg_nn hc n
  . have k1:=key (unitQ P.c.length k) (by simp[unitQ]);rw[dotQ_unit _ _ _ (by simp[cls_len]) hk]at k1
    have e1:((List.range P.A.length).map fun i=>P.b.getD i 0-dotQ (P.A.getD i []) (unitQ P.c.length k))=(List.range P.A.length).map fun i=>P.b.getD i 0-(P.A.getD i []).getD k 0:=
      List.map_congr_left fun i hi=>by rw[dotQ_unit _ _ _ (hP.row (List.mem_range.1 hi)) hk]
    rw[e1,dotQ_sub, <-b_eq hP, <-col_eq hP]at k1
    have h3:0<=((cls P.A.length P.c.length).map (asg s.T.free g.cs)).getD k 0:=by
      rw[List.getD,List.getElem?_map,cls_at hk];exact asg_nn hc _
    grind
  rw[dotQ_comm];grind
def rayL(m n:Nat)(T:LTab)(j:Nat):List Rat:=(cls m n).map fun k=>T.pt j 1 k-T.pt j 0 k
theorem unbounded_of(hs:s.Ok)(ha:Alike s P.init)(hg:s.os[0]?=some g)(hF:s.T.Feas){j:Nat}(hj:j<s.T.free.length)(hc:g.cs.getD j 0<0)(hr:∀i,i<s.T.rows.length->cofR s.T.rows j i<=0):
    UnbC P (pointL P.A.length P.c.length s.T) (rayL P.A.length P.c.length s.T j):=by
  have hgl:=hs.len g (List.mem_of_getElem? hg);have hsol:=init_sat.1 ((ha.sat _).1 hs.ok.sat_sol)
  have hsol0:∀n,0<=s.T.sol n:=fun n=>by
    by_cases hn:n∈s.T.basic
    . obtain⟨i,hi⟩:=List.mem_iff_getElem?.1 hn;have hil:i<s.T.rows.length:=by rw[<-hs.ok.nb];exact(List.getElem?_eq_some_iff.1 hi).1
      rw[hs.ok.sol_at hi (row_getD hil)];exact hF _ (List.mem_of_getElem? (row_getD hil))
    unfold LTab.sol;rw[asg_out _ _ _ hn];exact Rat.le_refl
  have hd0:∀n,0<=s.T.pt j 1 n-s.T.pt j 0 n:=fun n=>by
    by_cases hn:n∈s.T.basic
    . obtain⟨i,hi⟩:=List.mem_iff_getElem?.1 hn;have hil:i<s.T.rows.length:=by rw[<-hs.ok.nb];exact(List.getElem?_eq_some_iff.1 hi).1
      rw[hs.ok.pt_at hj 1 hi (row_getD hil),hs.ok.pt_at hj 0 hi (row_getD hil)];have:=hr i hil;unfold cofR at this
      grind
    by_cases e:n=s.T.free.getD j 0
    . subst e;rw[LTab.pt_j,LTab.pt_j];grind
    rw[LTab.pt_out 1 hn e,LTab.pt_out 0 hn e];grind
  have s1:=(ha.sat _).1 (hs.ok.sat_pt hj 1);have s0:=(ha.sat _).1 (hs.ok.sat_pt hj 0);refine⟨by simp[pointL,cls_len],fun e he=>?_,fun i hi=>?_,by simp[rayL,cls_len],fun e he=>?_,fun i hi=>?_,?_⟩
  . obtain⟨n,_,rfl⟩:=List.mem_map.1 he;exact hsol0 n
  . have h1:=hsol i hi;have h2:=hsol0 (i:Int);unfold pointL
    grind
  . obtain⟨n,_,rfl⟩:=List.mem_map.1 he;exact hd0 n
  . have h1:=init_sat.1 s1 i hi;have h0:=init_sat.1 s0 i hi;have h2:=hd0 (i:Int);unfold rayL;rw[dotQ_sub]
    grind
  have h1:=ha.val 0 g _ _ hg rfl s1;have h0:=ha.val 0 g _ _ hg rfl s0;unfold LRow.ev at h1 h0;rw[hs.ok.pt_dot hj 1 hgl,dotV_dot,dotQ_neg,show P.init.T.free=cls P.A.length P.c.length from rfl]at h1;rw[hs.ok.pt_dot hj 0 hgl,dotV_dot,dotQ_neg,show P.init.T.free=cls P.A.length P.c.length from rfl]at h0;unfold rayL;rw[dotQ_sub]
  grind
end
end
section
def allN(p:Nat->Bool):Nat->Bool
  |0=>true
  |k+1=>allN p k&&p k
theorem allN_iff{p:Nat->Bool}{n:Nat}:allN p n=true↔ ∀k,k<n->p k=true:=by
  induction n with
  |zero=>exact⟨fun _ k h=>absurd h (Nat.not_lt_zero _),fun _=>rfl⟩
  | succ n ih=>
    rw[allN,Bool.and_eq_true,ih];exact⟨fun h k hk=>(Nat.lt_or_eq_of_le (Nat.le_of_lt_succ hk)).elim (h.1 k) fun e=>e▸h.2,fun h=>⟨fun k hk=>h k (by omega),h n (by omega)⟩⟩
theorem allN_step{p:Nat->Bool}{k:Nat}(h:allN p k=true)(hk:p k=true):allN p (k+1)=true:=by rw[allN,h,hk];rfl
theorem allN_no{p:Nat->Bool}{k n:Nat}(hk:k<n)(h:p k=false):allN p n=false:=by
  cases e:allN p n with
  |false=>rfl
  |true=>rw[allN_iff.1 e k hk]at h;cases h
def nnP(xs:List Rat)(k:Nat):Bool:=decide (0<=xs.getD k 0)
def nnB(xs:List Rat):Bool:=allN (nnP xs) xs.length
def rowP(P:LPd)(i:Nat):Bool:=decide ((P.A.getD i []).length=P.c.length)
def vldH(P:LPd):Bool:=decide (1<=P.c.length)&&decide (P.c.length<=1024)&&decide (P.A.length<=1024)&&decide (P.b.length=P.A.length)
def vldP(P:LPd):Bool:=vldH P&&allN (rowP P) P.A.length
def colQ(P:LPd)(y:List Rat)(k:Nat):Rat:=dotQ y (P.A.map fun a=>a.getD k 0)
def feaP(P:LPd)(x:List Rat)(i:Nat):Bool:=decide (dotQ (P.A.getD i []) x<=P.b.getD i 0)
def feaB(P:LPd)(x:List Rat):Bool:=decide (x.length=P.c.length)&&nnB x&&allN (feaP P x) P.A.length
def covP(P:LPd)(y l:List Rat)(k:Nat):Bool:=decide (l.getD k 0<=colQ P y k)
def covB(P:LPd)(y l:List Rat):Bool:=decide (y.length=P.A.length)&&nnB y&&allN (covP P y l) P.c.length
def falP(P:LPd)(r:List Rat)(i:Nat):Bool:=decide (dotQ (P.A.getD i []) r<=0)
def falB(P:LPd)(r:List Rat):Bool:=allN (falP P r) P.A.length
def zerosQ(n:Nat):List Rat:=List.replicate n 0
structure LpRes where
  k:Int
  x:List Rat
  y:List Rat
  r:List Rat
  z:Rat
def acc1(P:LPd)(R:LpRes):Bool:=feaB P R.x&&covB P R.y P.c&&decide (R.r.length=0)&&decide (dotQ P.c R.x=R.z)&&decide (dotQ P.b R.y=R.z)
def acc2(P:LPd)(R:LpRes):Bool:=covB P R.y (zerosQ P.c.length)&&decide (R.x.length=0)&&decide (R.r.length=0)&&decide (dotQ P.b R.y<0)&&decide (R.z=0)
def acc3(P:LPd)(R:LpRes):Bool:=feaB P R.x&&decide (R.y.length=0)&&decide (R.r.length=P.c.length)&&nnB R.r&&falB P R.r&&decide (0<dotQ P.c R.r)&&decide (R.z=0)
def accB(P:LPd)(R:LpRes):Bool:=vldP P&&(if R.k=1 then acc1 P R else if R.k=2 then acc2 P R else if R.k=3 then acc3 P R else false)
theorem nn_iff{xs:List Rat}:nnB xs=true↔ ∀e∈xs,0<=e:=by
  unfold nnB;rw[allN_iff];constructor
  . intro h e he;obtain⟨k,hk,rfl⟩:=mem_getD_r he;exact of_decide_eq_true (h k hk)
  intro h k hk;refine decide_eq_true (h _ ?_);rw[List.getD,List.getElem?_eq_getElem hk];exact List.getElem_mem hk
theorem fea_iff{P:LPd}{x:List Rat}:feaB P x=true↔x.length=P.c.length/\(∀e∈x,0<=e)/\ ∀i,i<P.A.length->dotQ (P.A.getD i []) x<=P.b.getD i 0:=by
  unfold feaB;rw[Bool.and_eq_true,Bool.and_eq_true,decide_eq_true_eq,nn_iff,allN_iff,and_assoc];exact and_congr_right fun _=>and_congr_right fun _=>⟨fun h i hi=>of_decide_eq_true (h i hi),fun h i hi=>decide_eq_true (h i hi)⟩
theorem cov_iff{P:LPd}{y l:List Rat}:covB P y l=true↔y.length=P.A.length/\(∀e∈y,0<=e)/\ ∀k,k<P.c.length->l.getD k 0<=dotQ y (P.A.map fun a=>a.getD k 0):=by
  unfold covB;rw[Bool.and_eq_true,Bool.and_eq_true,decide_eq_true_eq,nn_iff,allN_iff,and_assoc];exact and_congr_right fun _=>and_congr_right fun _=>⟨fun h i hi=>of_decide_eq_true (h i hi),fun h i hi=>decide_eq_true (h i hi)⟩
theorem vld_ok{P:LPd}(h:vldP P=true):P.Ok:=by
  unfold vldP vldH at h;simp only[Bool.and_eq_true,decide_eq_true_eq]at h;refine⟨h.1.2,fun a ha=>?_⟩;obtain⟨i,hi⟩:=List.mem_iff_getElem?.1 ha;have:=allN_iff.1 h.2 i (List.getElem?_eq_some_iff.1 hi).1;unfold rowP at this;rw[decide_eq_true_eq,List.getD,hi]at this;exact this
theorem dotQ_addr(y:List Rat):∀(a b:List Rat),a.length=b.length->dotQ y (List.zipWith (· + ·) a b)=dotQ y a+dotQ y b:=by
  induction y with
  |nil=>intro a b _;simp only[dotQ_nil];grind
  | cons q y ih=>
    intro a b hab
    cases a with
    |nil=>obtain rfl:=List.eq_nil_of_length_eq_zero (l:=b) (by simpa using hab.symm);simp only[List.zipWith_nil_left,dotQ];grind
    | cons a az=>
      cases b with
      |nil=>simp at hab
      | cons b bs=>
        simp only[List.zipWith_cons_cons,dotQ];rw[ih az bs (by simpa using hab)];grind
theorem dotQ_smul(y:List Rat)(s:Rat):∀(a:List Rat),dotQ y (a.map fun e=>s*e)=s*dotQ y a:=by
  induction y with
  |nil=>intro a;simp only[dotQ_nil];grind
  | cons q y ih=>
    intro a
    cases a with
    |nil=>simp only[List.map_nil,dotQ];grind
    |cons a az=>simp only[List.map_cons,dotQ];rw[ih az];grind
theorem dot_swap:∀(n:Nat) (A:List (List Rat)) (y x:List Rat),(∀a∈A,a.length=n)->x.length=n->dotQ y (A.map fun a=>dotQ a x)=dotQ ((List.range n).map fun k=>dotQ y (A.map fun a=>a.getD k 0)) x:=by
  intro n A
  induction A with
  | nil=>
    intro y x _ hx;simp only[List.map_nil,dotQ_nil'];rw[show((List.range n).map fun _=>(0:Rat))=List.replicate n 0 from by simp[List.map_const']];rw[dotQ_comm,dotQ_zeros]
  | cons a A ih=>
    intro y x hA hx
    cases y with
    | nil=>
      simp only[dotQ_nil];rw[show((List.range n).map fun _=>(0:Rat))=List.replicate n 0 from by simp[List.map_const']];rw[dotQ_comm,dotQ_zeros]
    | cons q y=>
      have ha:=hA a (List.mem_cons_self ..);have ih:=ih y x (fun b hb=>hA b (List.mem_cons_of_mem _ hb)) hx;simp only[List.map_cons,dotQ];rw[ih]
      have e1:((List.range n).map fun k=>q*a.getD k 0+dotQ y (A.map fun a=>a.getD k 0))=List.zipWith (· + ·) (a.map fun e=>q*e) ((List.range n).map fun k=>dotQ y (A.map fun a=>a.getD k 0)):=by
        refine List.ext_getElem? fun k=>?_
        rw[List.getElem?_map,List.getElem?_zipWith]
        by_cases hk:k<n
        . rw[List.getElem?_range hk,List.getElem?_map,List.getElem?_map,List.getElem?_range hk,List.getElem?_eq_getElem (by omega:k<a.length)];simp[List.getD,List.getElem?_eq_getElem (by omega:k<a.length)]
        rw[List.getElem?_eq_none (by simp;omega),List.getElem?_eq_none (by simp;omega)];rfl
      rw[e1,dotQ_comm (List.zipWith _ _ _) x,dotQ_addr _ _ _ (by simp;omega),dotQ_smul,dotQ_comm x a,dotQ_comm x]
theorem weak{P:LPd}(hP:P.Ok){x y:List Rat}(hx:feaB P x=true)(hy:covB P y P.c=true):dotQ P.c x<=dotQ P.b y:=by
  obtain⟨h1,h2,h3⟩:=fea_iff.1 hx;obtain⟨h4,h5,h6⟩:=cov_iff.1 hy;have e1:=dot_swap P.c.length P.A y x hP.ha h1
  have e2:dotQ y (P.A.map fun a=>dotQ a x)<=dotQ y P.b:=dotQ_mono (by simp[hP.hb]) h5 fun k p q hp hq=>by
    rw[List.getElem?_map]at hp;have hk:k<P.A.length:=by rw[<-hP.hb];exact(List.getElem?_eq_some_iff.1 hq).1
    have:=h3 k hk;rw[List.getElem?_eq_getElem hk,Option.map_some,Option.some.injEq]at hp;rw[List.getD,List.getElem?_eq_getElem hk,List.getD,hq,Option.getD_some,Option.getD_some,hp]at this;exact this
  have e3:dotQ x P.c<=dotQ x ((List.range P.c.length).map fun k=>dotQ y (P.A.map fun a=>a.getD k 0)):=dotQ_mono (by simp) h2 fun k p q hp hq=>by
    have hk:=(List.getElem?_eq_some_iff.1 hp).1;have:=h6 k hk;rw[List.getElem?_map,List.getElem?_range hk,Option.map_some,Option.some.injEq]at hq;rw[List.getD,hp,Option.getD_some,hq]at this;exact this
  rw[dotQ_comm P.c,dotQ_comm P.b];rw[dotQ_comm _ x]at e1
  grind
end
section
structure Ph1(P:LPd)(s:LObj):Prop where
  ok:s.Ok
  al:Alike s P.initA
  fe:s.T.Feas
section
variable {P:LPd}{s:LObj}{g z:LRow}{i j:Nat}
theorem getD_app_end(a:List Rat)(c:Rat){n:Nat}(h:a.length=n):(a++[c]).getD n 0=c:=by subst h;simp
theorem initA_len:P.initA.T.rows.length=P.A.length:=by simp[LPd.initA,LPd.rowsA]
theorem initA_free:P.initA.T.free.length=P.c.length+1:=by simp[LPd.initA,cls_len]
theorem initA_cof(hP:P.Ok)(hi:i<P.A.length):(P.A.getD i []++[-1]).getD P.c.length 0= -1:=getD_app_end _ _ (hP.row hi)
theorem Ph1.start(hP:P.Ok)(hi:i<P.A.length)(hn:P.b.getD i 0<0)(hw:∀k,k<P.A.length->P.b.getD i 0<=P.b.getD k 0):Ph1 P (P.initA.piv i P.c.length):=by
  have hx:P.initA.T.rows[i]?=_:=rowsA_at hi;have hj:P.c.length<P.initA.T.free.length:=by rw[initA_free];omega
  have hne:(⟨P.A.getD i []++[-1],P.b.getD i 0⟩:LRow).cs.getD P.c.length 0≠0:=by rw[initA_cof hP hi];decide
  refine⟨hP.initA.piv (by rw[initA_len];exact hi) hj,hP.initA.alike hx hj hne,fun x hxm=>?_⟩;obtain⟨k,hk⟩:=List.mem_iff_getElem?.1 hxm
  have hk':k<P.A.length:=by
    have:=(List.getElem?_eq_some_iff.1 hk).1
    simpa[LObj.piv,LTab.pivot,initA_len]using this
  have h1:=pivot_r (T:=P.initA.T) i P.c.length k (rowsA_at hk');rw[show(P.initA.T.pivot i P.c.length).rows=(P.initA.piv i P.c.length).T.rows from rfl,hk,Option.getD_some,getD_of hx]at h1;simp only[initA_cof hP hi,initA_cof hP hk']at h1;have hkw:=hw k hk';rw[h1]
  split<;>grind
theorem Ph1.zero(h:Ph1 P s)(hz:s.os[1]?=some z){v:Int->Rat}(hv:s.T.Sat v):z.ev v s.T.free=0-v (-1):=by
  rw[h.al.val 1 z _ v hz rfl ((h.al.sat v).1 hv)];unfold LRow.ev;rw[dotV_dot,show P.initA.T.free=cls P.A.length P.c.length++[-1]from rfl,List.map_append,dotQ_append _ _ _ _ (by simp[cls_len])];simp only[List.map_cons,List.map_nil,dotQ];rw[dotQ_comm (List.replicate _ _),dotQ_zeros]
  grind
theorem Ph1.sol0(h:Ph1 P s)(n:Int):0<=s.T.sol n:=by
  by_cases hn:n∈s.T.basic
  . obtain⟨i,hi⟩:=List.mem_iff_getElem?.1 hn;have hil:i<s.T.rows.length:=by rw[<-h.ok.ok.nb];exact(List.getElem?_eq_some_iff.1 hi).1
    rw[h.ok.ok.sol_at hi (row_getD hil)];exact h.fe _ (List.mem_of_getElem? (row_getD hil))
  unfold LTab.sol;rw[asg_out _ _ _ hn];exact Rat.le_refl
theorem Ph1.rest(h:Ph1 P s)(hz:s.os[1]?=some z):z.r=0-s.T.sol (-1):=by
  have h1:=h.zero hz h.ok.ok.sat_sol;unfold LRow.ev at h1;rw[dotV_zero (fun n hn=>h.ok.ok.sol_free hn)]at h1
  grind
theorem Ph1.stop(h:Ph1 P s)(hz:s.os[1]?=some z)(hj:j<s.T.free.length)(hc:z.cs.getD j 0<0):∃i,i<s.T.rows.length/\0<cofR s.T.rows j i:=Classical.byContradiction fun hno=>by
  have hall:∀i,i<s.T.rows.length->cofR s.T.rows j i<=0:=fun i hi=>Rat.not_lt.1 fun h2=>hno ⟨i,hi,h2⟩
  have hr:=h.rest hz;have hs0:=h.sol0 (-1)
  obtain⟨y,hy0,hy⟩:∃y:Rat,0<=y/\0<z.r-z.cs.getD j 0*y:=by
    refine⟨(1-z.r)/(-z.cs.getD j 0),div_nn (by grind) (by grind),?_⟩
    have e:z.cs.getD j 0*((1-z.r)/(-z.cs.getD j 0))= -(1-z.r):=by
      have hne:z.cs.getD j 0≠0:=by grind
      grind
    rw[e];grind
  have h1:=h.zero hz (h.ok.ok.sat_pt hj y);unfold LRow.ev at h1;rw[h.ok.ok.pt_dot hj y (h.ok.len z (List.mem_of_getElem? hz))]at h1
  have h2:0<=s.T.pt j y (-1):=by
    by_cases hn:(-1:Int)∈s.T.basic
    . obtain⟨i,hi⟩:=List.mem_iff_getElem?.1 hn;have hil:i<s.T.rows.length:=by rw[<-h.ok.ok.nb];exact(List.getElem?_eq_some_iff.1 hi).1
      rw[h.ok.ok.pt_at hj y hi (row_getD hil)];have h3:=hall i hil;have h4:=h.fe _ (List.mem_of_getElem? (row_getD hil));unfold cofR at h3;have h5:0<= -((s.T.rows.getD i default).cs.getD j 0)*y:=Rat.mul_nonneg (by grind) hy0
      grind
    by_cases e:(-1:Int)=s.T.free.getD j 0
    . rw[e,LTab.pt_j];exact hy0
    rw[LTab.pt_out y hn e];exact Rat.le_refl
  grind
theorem Ph1.next(h:Ph1 P s)(hp:Pick s.T z i j):Ph1 P (s.piv i j):=
  ⟨h.ok.piv hp.hi hp.hj,(h.ok.alike (row_getD hp.hi) hp.hj (pos_ne hp.a)).trans h.al,h.fe.pivot hp.hi hp.a fun m hm ha=>(hp.quo m hm ha).1⟩
theorem Ph1.lst(h:Ph1 P s)(hz:s.os[1]?=some z):(⟨s.T,z⟩:LSt).Ok:=⟨h.ok.ok,h.fe,h.ok.len z (List.mem_of_getElem? hz)⟩
theorem Ph1.out(h:Ph1 P s)(hz:s.os[1]?=some z)(hb:(-1:Int)∉s.T.basic):z.r=0:=by
  rw[h.rest hz];unfold LTab.sol;rw[asg_out _ _ _ hb];grind
theorem Ph1.infeasible(hP:P.Ok)(h:Ph1 P s)(hz:s.os[1]?=some z)(hc:∀k,0<=z.cs.getD k 0)(hr:z.r<0):InfC P (pricesL P.A.length s.T.free z.cs):=infeasible_of hP h.ok h.al hz hc hr
theorem dotV_coef0{v:Int->Rat}:∀{cs:List Rat} {fs:List Int},(∀k,k<fs.length->cs.getD k 0=0)->dotV v cs fs=0
  |[],fs,_=>dotV_nil v fs
  |_::_,[],_=>rfl
  | c::cs,f::fs,h=>by
    have ih:=dotV_coef0 (v:=v) (cs:=cs) (fs:=fs) fun k hk=>by simpa using h (k+1) (by simpa using hk)
    have h0:c=0:=by simpa using h 0 (by simp)
    simp only[dotV];rw[ih,h0];grind
theorem Ph1.find(hP:P.Ok)(h:Ph1 P s)(hz:s.os[1]?=some z)(hr:0<=z.r)(hb:s.T.basic[i]?=some (-1)):∃j,j<s.T.free.length/\(s.T.rows.getD i default).cs.getD j 0≠0:=Classical.byContradiction fun hno=>by
  have hall:∀k,k<s.T.free.length->(s.T.rows.getD i default).cs.getD k 0=0:=fun k hk=>Classical.byContradiction fun h2=>hno ⟨k,hk,h2⟩
  have hil:i<s.T.rows.length:=by rw[<-h.ok.ok.nb];exact(List.getElem?_eq_some_iff.1 hb).1
  have hs0:=h.sol0 (-1);have h0:=h.rest hz;have h1:=h.ok.ok.sol_at hb (row_getD hil);have hv:=(h.al.sat _).2 (sat_asnA hP (x:=List.replicate P.c.length 0) (by simp) 1);have h2:=hv i _ _ hb (row_getD hil);unfold LRow.ev at h2;rw[asn_art,dotV_coef0 hall]at h2
  grind
theorem Ph1.row0(h:Ph1 P s)(hz:s.os[1]?=some z)(hr:0<=z.r)(hb:s.T.basic[i]?=some (-1)):(s.T.rows.getD i default).r=0:=by
  have hil:i<s.T.rows.length:=by rw[<-h.ok.ok.nb];exact(List.getElem?_eq_some_iff.1 hb).1
  have hs0:=h.sol0 (-1);have h0:=h.rest hz;have h1:=h.ok.ok.sol_at hb (row_getD hil)
  grind
theorem Ph1.take(h:Ph1 P s)(hz:s.os[1]?=some z)(hr:0<=z.r)(hb:s.T.basic[i]?=some (-1))(hj:j<s.T.free.length)(ha:(s.T.rows.getD i default).cs.getD j 0≠0):Ph1 P (s.piv i j):=by
  have hil:i<s.T.rows.length:=by rw[<-h.ok.ok.nb];exact(List.getElem?_eq_some_iff.1 hb).1
  have h0:=h.row0 hz hr hb;refine⟨h.ok.piv hil hj,(h.ok.alike (row_getD hil) hj ha).trans h.al,fun x hxm=>?_⟩;obtain⟨k,hk⟩:=List.mem_iff_getElem?.1 hxm
  have hk':k<s.T.rows.length:=by
    have:=(List.getElem?_eq_some_iff.1 hk).1
    simpa[LObj.piv,LTab.pivot]using this
  have h1:=pivot_r (T:=s.T) i j k (row_getD hk');rw[show(s.T.pivot i j).rows=(s.piv i j).T.rows from rfl,hk,Option.getD_some,h0]at h1;have h2:=h.fe _ (List.mem_of_getElem? (row_getD hk'));rw[h1]
  split
  . rename_i e;subst e;rw[h0];grind
  grind
def LRow.strike(j:Nat)(x:LRow):LRow:=⟨x.cs.eraseIdx j,x.r⟩
def LTab.strike(T:LTab)(j:Nat):LTab:=⟨T.rows.map (LRow.strike j),T.basic,T.free.eraseIdx j⟩
theorem dotV_erase(v:Int->Rat):∀(cs:List Rat) (fs:List Int) (j:Nat),j<cs.length->j<fs.length->v (fs.getD j 0)=0->dotV v (cs.eraseIdx j) (fs.eraseIdx j)=dotV v cs fs
  |[],_,_,h,_,_=>absurd h (Nat.not_lt_zero _)
  |_::_,[],_,_,h,_=>absurd h (Nat.not_lt_zero _)
  | c::cs,f::fs,0,_,_,h=>by
    simp only[List.getD_cons_zero]at h;simp only[List.eraseIdx_cons_zero,dotV];rw[h];grind
  | c::cs,f::fs,j+1,h1,h2,h=>by
    have ih:=dotV_erase v cs fs j (by simpa using h1) (by simpa using h2) (by simpa using h);simp only[List.eraseIdx_cons_succ,dotV];rw[ih]
theorem dotV_congr{v u:Int->Rat}:∀{cs:List Rat} {fs:List Int},(∀f∈fs,v f=u f)->dotV v cs fs=dotV u cs fs
  |[],fs,_=>by rw[dotV_nil,dotV_nil]
  |_::_,[],_=>rfl
  | c::cs,f::fs,h=>by
    simp only[dotV];rw[dotV_congr (cs:=cs) (fun g hg=>h g (List.mem_cons_of_mem _ hg)),h f (List.mem_cons_self ..)]
theorem LTab.sat_congr{T:LTab}{v u:Int->Rat}(h:∀n∈T.basic++T.free,v n=u n):T.Sat v↔T.Sat u:=by
  have key:∀{v u:Int->Rat},(∀n∈T.basic++T.free,v n=u n)->T.Sat v->T.Sat u:=fun{v u} h hs i b x hb hx=>by
    have h1:=hs i b x hb hx;unfold LRow.ev at h1⊢;rw[<-h b (List.mem_append_left _ (List.mem_of_getElem? hb)), <-dotV_congr fun f hf=>h f (List.mem_append_right _ hf)];exact h1
  exact⟨key h,key fun n hn=>(h n hn).symm⟩
theorem LTab.Ok.strike_sat{T:LTab}(h:T.Ok){v:Int->Rat}(hj:j<T.free.length)(hv:v (T.free.getD j 0)=0):(T.strike j).Sat v↔T.Sat v:=by
  have e:∀x∈T.rows,(x.strike j).ev v (T.free.eraseIdx j)=x.ev v T.free:=fun x hx=>by
    unfold LRow.ev LRow.strike;dsimp only;rw[dotV_erase v x.cs T.free j (by rw[h.cl x hx];exact hj) hj hv]
  constructor
  . intro hs i b x hb hx;have h1:=hs i b (x.strike j) hb (by simp[LTab.strike,hx]);rw[show(T.strike j).free=T.free.eraseIdx j from rfl,e x (List.mem_of_getElem? hx)]at h1;exact h1
  intro hs i b x hb hx;simp only[LTab.strike,List.getElem?_map]at hx
  cases e2:T.rows[i]? with
  |none=>rw[e2]at hx;cases hx
  | some y=>
    rw[e2]at hx;simp only[Option.map_some,Option.some.injEq]at hx;subst hx;rw[show(T.strike j).free=T.free.eraseIdx j from rfl,e y (List.mem_of_getElem? e2)];exact hs i b y hb e2
theorem mem_erase_idx{l:List Int}(hn:l.Nodup){j:Nat}{a:Int}(hj:l[j]?=some a){n:Int}:n∈l.eraseIdx j↔n∈l/\n≠a:=by
  constructor
  . intro h;refine⟨List.mem_of_mem_eraseIdx h,fun e=>?_⟩;subst e;obtain⟨k,hk,h2⟩:=List.mem_eraseIdx_iff_getElem.1 h;obtain⟨hj',e2⟩:=List.getElem?_eq_some_iff.1 hj;exact h2.1 (nodup_inj hn hk hj' (h2.2.trans e2.symm))
  rintro⟨h,hne⟩
  obtain⟨k,hk⟩:=List.mem_iff_getElem?.1 h;obtain⟨hk',e2⟩:=List.getElem?_eq_some_iff.1 hk;exact List.mem_eraseIdx_iff_getElem.2 ⟨k,hk',fun e=>hne (by subst e;rw[hk]at hj;exact Option.some.inj hj),e2⟩
theorem initA_strike(hP:P.Ok):P.initA.T.strike P.c.length=P.init.T:=by
  unfold LTab.strike
  have e1:P.initA.T.rows.map (LRow.strike P.c.length)=P.init.T.rows:=by
    show P.rowsA.map _=P.rows0
    unfold LPd.rowsA LPd.rows0;rw[List.map_map];refine List.map_congr_left fun i hi=>?_
    have:=hP.row (List.mem_range.1 hi)
    show LRow.mk ((P.A.getD i []++[-1]).eraseIdx P.c.length) _=_
    rw[List.eraseIdx_append_of_length_le (by omega),this];simp
  have e2:P.initA.T.free.eraseIdx P.c.length=P.init.T.free:=by
    show(cls P.A.length P.c.length++[-1]).eraseIdx P.c.length=cls P.A.length P.c.length
    rw[List.eraseIdx_append_of_length_le (by rw[cls_len];omega),cls_len];simp
  rw[e1,e2];rfl
theorem Ph1.strike(hP:P.Ok)(h:Ph1 P s)(hg:s.os[0]?=some g)(hj:s.T.free[j]?=some (-1)):(⟨s.T.strike j,[g.strike j]⟩:LObj).Ok/\Alike ⟨s.T.strike j,[g.strike j]⟩ P.init/\(s.T.strike j).Feas:=by
  obtain⟨hj',ej⟩:=List.getElem?_eq_some_iff.1 hj;have hgd:s.T.free.getD j 0= -1:=getD_of hj;have hnb:(-1:Int)∉s.T.basic:=fun hb=>h.ok.ok.apart hb (List.mem_of_getElem? hj)
  have hfm:∀n,n∈s.T.free.eraseIdx j↔n∈s.T.free/\n≠ -1:=fun n=>mem_erase_idx h.ok.ok.nd2 hj
  have hgl:=h.ok.len g (List.mem_of_getElem? hg);have hel:(s.T.free.eraseIdx j).length=s.T.free.length-1:=List.length_eraseIdx_of_lt hj'
  have okT:(s.T.strike j).Ok:=by
    refine⟨by simp[LTab.strike,h.ok.ok.nb],fun x hx=>?_,?_⟩
    . obtain⟨y,hy,rfl⟩:=List.mem_map.1 hx;have:=h.ok.ok.cl y hy
      show(y.cs.eraseIdx j).length=(s.T.free.eraseIdx j).length
      rw[hel,List.length_eraseIdx_of_lt (by omega)];omega
    show(s.T.basic++s.T.free.eraseIdx j).Nodup
    refine List.nodup_append.2 ⟨h.ok.ok.nd1,?_,fun a ha b hb e=>h.ok.ok.apart ha (e▸((hfm b).1 hb).1)⟩;exact(List.eraseIdx_sublist s.T.free j).nodup h.ok.ok.nd2
  have hi0:∀n∈P.init.T.basic++P.init.T.free,n≠ -1:=fun n hn=>by
    rcases List.mem_append.1 hn with h|h
    . have:=mem_slk.1 (show n∈slk _ from h);omega
    have:=mem_cls.1 (show n∈cls _ _ from h);omega
  have hs0:∀n∈(s.T.strike j).basic++(s.T.strike j).free,n≠ -1:=fun n hn=>by
    rcases List.mem_append.1 hn with h|h
    . exact fun e=>hnb (e▸h)
    exact((hfm n).1 h).2
  have hu:∀v:Int->Rat,∃u:Int->Rat,u (-1)=0/\ ∀n,n≠ -1->v n=u n:=fun v=>⟨fun n=>if n= -1 then 0 else v n,by simp,fun n hn=>by simp[hn]⟩
  have hA1:P.c.length<P.initA.T.free.length:=by rw[initA_free];omega
  have hA2:P.initA.T.free.getD P.c.length 0= -1:=by
    show(cls P.A.length P.c.length++[-1]).getD P.c.length 0= -1
    rw[List.getD,List.getElem?_append_right (by rw[cls_len];omega),cls_len];simp
  have satA:∀{u:Int->Rat},u (-1)=0->(P.init.T.Sat u↔P.initA.T.Sat u):=fun{u} hu1=>by
    rw[<-initA_strike hP];exact hP.initA.ok.strike_sat hA1 (by rw[hA2];exact hu1)
  have sat1:∀v,(s.T.strike j).Sat v↔P.init.T.Sat v:=fun v=>by
    obtain⟨u,hu1,hu2⟩:=hu v;rw[LTab.sat_congr fun n hn=>hu2 n (hs0 n hn),h.ok.ok.strike_sat hj' (by rw[hgd];exact hu1),h.al.sat u, <-satA hu1,LTab.sat_congr fun n hn=>(hu2 n (hi0 n hn)).symm]
  refine⟨⟨okT,fun x hx=>?_⟩,⟨sat1,rfl,fun k g1 g2 v h1 h2 hv=>?_,fun n=>?_,?_,?_⟩,fun x hx=>?_⟩
  . rw[List.mem_singleton.1 hx]
    show(g.cs.eraseIdx j).length=(s.T.free.eraseIdx j).length
    rw[hel,List.length_eraseIdx_of_lt (by omega)];omega
  . obtain rfl:k=0:=by
      have:=(List.getElem?_eq_some_iff.1 h1).1
      simpa using this
    cases h1;cases h2
    obtain⟨u,hu1,hu2⟩:=hu v;have hvu:=(LTab.sat_congr fun n hn=>hu2 n (hi0 n hn)).1 hv
    have e1:(g.strike j).ev v (s.T.strike j).free=g.ev u s.T.free:=by
      unfold LRow.ev LRow.strike LTab.strike;dsimp only;rw[dotV_congr fun f hf=>hu2 f ((hfm f).1 hf).2,dotV_erase u g.cs s.T.free j (by rw[hgl];exact hj') hj' (by rw[hgd];exact hu1)]
    have e2:=h.al.val 0 g _ u hg rfl ((satA hu1).1 hvu)
    have e3:(⟨P.c.map fun x=>0-x,0⟩:LRow).ev v P.init.T.free=(⟨(P.c.map fun x=>0-x)++[0],0⟩:LRow).ev u P.initA.T.free:=by
      unfold LRow.ev;dsimp only;rw[dotV_congr fun f hf=>hu2 f (hi0 f (List.mem_append_right _ hf)),dotV_dot,dotV_dot,show P.initA.T.free=P.init.T.free++[-1]from rfl,List.map_append,dotQ_append _ _ _ _ (by simp[LPd.init,cls_len])];simp only[List.map_cons,List.map_nil,dotQ]
      grind
    rw[e1,e2];exact e3.symm
  . have hm:=h.al.mem n
    show n∈s.T.basic++s.T.free.eraseIdx j↔n∈slk P.A.length++cls P.A.length P.c.length
    rw[List.mem_append,hfm];rw[List.mem_append,show P.initA.T.basic++P.initA.T.free=slk P.A.length++(cls P.A.length P.c.length++[-1])from rfl, <-List.append_assoc,List.mem_append (s:=slk _++cls _ _),List.mem_singleton]at hm;constructor
    . rintro(h1|⟨h1,h2⟩)
      . rcases hm.1 (.inl h1)with h3|h3
        . exact h3
        exact(hnb (h3▸h1)).elim
      rcases hm.1 (.inr h1)with h3|h3
      . exact h3
      exact(h2 h3).elim
    intro h1
    rcases hm.2 (.inl h1)with h3|h3
    . exact .inl h3
    exact .inr ⟨h3,hi0 n h1⟩
  . exact h.al.nb
  . have:=h.al.nf
    show(s.T.free.eraseIdx j).length=P.init.T.free.length
    rw[hel,this];simp[LPd.initA,LPd.init]
  obtain⟨y,hy,rfl⟩:=List.mem_map.1 hx;exact h.fe y hy
end
end
section
def CertR(P:LPd)(R:LpRes):Prop:=
  (R.k=1/\OptC P R.x R.y R.z/\R.r=[])\/(R.k=2/\InfC P R.y/\R.x=[]/\R.r=[]/\R.z=0)\/(R.k=3/\UnbC P R.x R.r/\R.y=[]/\R.z=0)
section
variable {P Q:LPd}{R:LpRes}{x y r x' y' r':List Rat}{z z':Rat}
theorem OptC.fea(h:OptC P x y z):feaB P x=true:=fea_iff.2 ⟨h.xl,h.x0,h.ax⟩
theorem OptC.cov(h:OptC P x y z):covB P y P.c=true:=cov_iff.2 ⟨h.yl,h.y0,h.ya⟩
theorem UnbC.fea(h:UnbC P x r):feaB P x=true:=fea_iff.2 ⟨h.xl,h.x0,h.ax⟩
theorem zeros_at(n k:Nat):(zerosQ n).getD k 0=0:=by
  unfold zerosQ
  by_cases h:k<n
  . simp[List.getD,h]
  rw[List.getD,List.getElem?_eq_none (by simp;omega)];rfl
theorem InfC.cov(h:InfC P y):covB P y (zerosQ P.c.length)=true:=cov_iff.2 ⟨h.yl,h.y0,fun k hk=>by rw[zeros_at];exact h.ya k hk⟩
theorem fal_iff{r:List Rat}:falB P r=true↔ ∀i,i<P.A.length->dotQ (P.A.getD i []) r<=0:=by
  unfold falB;rw[allN_iff];exact⟨fun h i hi=>of_decide_eq_true (h i hi),fun h i hi=>decide_eq_true (h i hi)⟩
theorem acc_cert(hv:vldP P=true):accB P R=true↔CertR P R:=by
  unfold accB CertR;rw[hv,Bool.true_and];constructor
  . intro h
    split at h
    . rename_i hk
      unfold acc1 at h;simp only[Bool.and_eq_true,decide_eq_true_eq]at h;obtain⟨⟨⟨⟨h1,h2⟩,h3⟩,h4⟩,h5⟩:=h;obtain⟨a1,a2,a3⟩:=fea_iff.1 h1;obtain⟨b1,b2,b3⟩:=cov_iff.1 h2;exact .inl ⟨hk,⟨a1,a2,a3,b1,b2,b3,h4,h5⟩,List.eq_nil_of_length_eq_zero h3⟩
    split at h
    . rename_i hk
      unfold acc2 at h;simp only[Bool.and_eq_true,decide_eq_true_eq]at h;obtain⟨⟨⟨⟨h1,h2⟩,h3⟩,h4⟩,h5⟩:=h;obtain⟨b1,b2,b3⟩:=cov_iff.1 h1;exact .inr (.inl ⟨hk,⟨b1,b2,fun k hk=>by have:=b3 k hk;rwa [zeros_at]at this,h4⟩,List.eq_nil_of_length_eq_zero h2,List.eq_nil_of_length_eq_zero h3,h5⟩)
    split at h
    . rename_i hk
      unfold acc3 at h;simp only[Bool.and_eq_true,decide_eq_true_eq]at h;obtain⟨⟨⟨⟨⟨⟨h1,h2⟩,h3⟩,h4⟩,h5⟩,h6⟩,h7⟩:=h;obtain⟨a1,a2,a3⟩:=fea_iff.1 h1;exact .inr (.inr ⟨hk,⟨a1,a2,a3,h3,nn_iff.1 h4,fal_iff.1 h5,h6⟩,List.eq_nil_of_length_eq_zero h2,h7⟩)
    cases h
  rintro(⟨hk,h1,h2⟩|⟨hk,h1,h2,h3,h4⟩|⟨hk,h1,h2,h3⟩)
  . rw[if_pos hk];unfold acc1;rw[h1.fea,h1.cov,h2,decide_eq_true h1.cx,decide_eq_true h1.yb];rfl
  . rw[if_neg (by omega),if_pos hk];unfold acc2;rw[h1.cov,h2,h3,decide_eq_true h1.yb,decide_eq_true h4];rfl
  rw[if_neg (by omega),if_neg (by omega),if_pos hk];unfold acc3;rw[h1.fea,h2,decide_eq_true h1.rl,nn_iff.2 h1.r0,fal_iff.2 h1.ar,decide_eq_true h1.cr,decide_eq_true h3];rfl
theorem dot_mid(hP:P.Ok)(hx:x.length=P.c.length):dotQ y (P.A.map fun a=>dotQ a x)=dotQ x ((List.range P.c.length).map fun k=>dotQ y (P.A.map fun a=>a.getD k 0)):=by
  rw[dot_swap P.c.length P.A y x hP.ha hx,dotQ_comm]
theorem dot_le_of{n:Nat}{b:Nat->Rat}{a:List Rat}(hy:∀e∈y,0<=e)(hl:a.length=n)(h:∀k,k<n->a.getD k 0<=b k):dotQ y a<=dotQ y ((List.range n).map b):=
  dotQ_mono (by simp[hl]) hy fun k p q hp hq=>by
    have hk:k<n:=by have:=(List.getElem?_eq_some_iff.1 hp).1;omega
    rw[List.getElem?_map,List.getElem?_range hk,Option.map_some,Option.some.injEq]at hq;have:=h k hk
    rwa [getD_of hp,hq]at this
theorem rowsQ(_hP:P.Ok)(x:List Rat):(P.A.map fun a=>dotQ a x)=(List.range P.A.length).map fun i=>dotQ (P.A.getD i []) x:=by
  refine List.ext_getElem? fun i=>?_
  rw[List.getElem?_map,List.getElem?_map]
  by_cases hi:i<P.A.length
  . rw[List.getElem?_range hi,List.getElem?_eq_getElem hi,Option.map_some,Option.map_some,List.getD_eq_getElem?_getD (l:=P.A),List.getElem?_eq_getElem hi];rfl
  rw[List.getElem?_eq_none (l:=P.A) (by omega),List.getElem?_eq_none (by simp;omega)];rfl
theorem dot_ge_of{n:Nat}{b:Nat->Rat}{a:List Rat}(hy:∀e∈y,0<=e)(hl:a.length=n)(h:∀k,k<n->b k<=a.getD k 0):dotQ y ((List.range n).map b)<=dotQ y a:=
  dotQ_mono (by simp[hl]) hy fun k p q hp hq=>by
    have hk:k<n:=by have:=(List.getElem?_eq_some_iff.1 hq).1;omega
    rw[List.getElem?_map,List.getElem?_range hk,Option.map_some,Option.some.injEq]at hp;have:=h k hk
    rwa [getD_of hq,hp]at this
theorem dot_nn{a:List Rat}(hy:∀e∈y,0<=e)(h:∀e∈a,0<=e):0<=dotQ y a:=by
  induction y generalizing a with
  |nil=>rw[dotQ_nil];exact Rat.le_refl
  | cons q y ih=>
    cases a with
    |nil=>rw[dotQ_nil'];exact Rat.le_refl
    | cons b a=>
      have h1:=Rat.mul_nonneg (hy q (List.mem_cons_self ..)) (h b (List.mem_cons_self ..));have h2:=ih (fun e he=>hy e (List.mem_cons_of_mem _ he)) (fun e he=>h e (List.mem_cons_of_mem _ he));simp only[dotQ];grind
theorem inf_no(hP:P.Ok)(h:InfC P y)(hx:feaB P x=true):False:=by
  obtain⟨h1,h2,h3⟩:=fea_iff.1 hx;have e1:=dot_mid (y:=y) hP h1;have e2:=dot_ge_of (a:=P.b) (n:=P.A.length) h.y0 hP.hb h3;rw[<-rowsQ hP x,e1]at e2
  have e3:0<=dotQ x ((List.range P.c.length).map fun k=>dotQ y (P.A.map fun a=>a.getD k 0)):=dot_nn h2 fun e he=>by
    obtain⟨k,hk,rfl⟩:=List.mem_map.1 he;exact h.ya k (List.mem_range.1 hk)
  have e4:=h.yb;rw[dotQ_comm]at e4
  grind
theorem unb_no(hP:P.Ok)(h:UnbC P x r)(hy:covB P y P.c=true):False:=by
  obtain⟨h1,h2,h3⟩:=cov_iff.1 hy;have e1:=dot_mid (y:=y) hP h.rl;have e2:=dot_le_of (a:=P.c) (n:=P.c.length) h.r0 rfl h3
  have e3:0<=dotQ y ((P.A.map fun a=>dotQ a r).map fun e=>0-e):=dot_nn h2 fun e he=>by
    obtain⟨k,hk,rfl⟩:=List.mem_map.1 he;rw[rowsQ hP r]at hk;obtain⟨i,hi,rfl⟩:=List.mem_map.1 hk;have:=h.ar i (List.mem_range.1 hi)
    grind
  rw[dotQ_comm,dotQ_neg,dotQ_comm]at e3;have e4:=h.cr;rw[dotQ_comm]at e4
  grind
theorem opt_one(hP:P.Ok)(h:OptC P x y z)(h':OptC P x' y' z'):z=z':=by
  have e1:=weak hP h.fea h'.cov;have e2:=weak hP h'.fea h.cov;rw[h.cx,h'.yb]at e1;rw[h'.cx,h.yb]at e2
  grind
theorem opt_top(hP:P.Ok)(h:OptC P x y z)(hx:feaB P x'=true):dotQ P.c x'<=z:=by
  have:=weak hP hx h.cov
  rwa [h.yb]at this
structure Over(f:Rat->Rat)(P Q:LPd):Prop where
  opt:∀x y z,OptC P x y z-> ∃x' y',OptC Q x' y' (f z)
  inf:∀y,InfC P y-> ∃y',InfC Q y'
  unb:∀x r,UnbC P x r-> ∃x' r',UnbC Q x' r'
theorem Over.same{f:Rat->Rat}(h:Over f P Q)(hQ:Q.Ok)(f0:f 0=0){a b:LpRes}(ha:CertR P a)(hb:CertR Q b):a.k=b.k/\f a.z=b.z:=by
  rcases ha with⟨k1,c1,_⟩|⟨k1,c1,_,_,z1⟩|⟨k1,c1,_,z1⟩
  . obtain⟨x',y',c⟩:=h.opt _ _ _ c1
    rcases hb with⟨k2,c2,_⟩|⟨k2,c2,_,_,z2⟩|⟨k2,c2,_,z2⟩
    . exact⟨by omega,opt_one hQ c c2⟩
    . exact(inf_no hQ c2 c.fea).elim
    exact(unb_no hQ c2 c.cov).elim
  . obtain⟨y',c⟩:=h.inf _ c1
    rcases hb with⟨k2,c2,_⟩|⟨k2,c2,_,_,z2⟩|⟨k2,c2,_,z2⟩
    . exact(inf_no hQ c c2.fea).elim
    . exact⟨by omega,by rw[z1,f0,z2]⟩
    exact(inf_no hQ c c2.fea).elim
  obtain⟨x',r',c⟩:=h.unb _ _ c1
  rcases hb with⟨k2,c2,_⟩|⟨k2,c2,_,_,z2⟩|⟨k2,c2,_,z2⟩
  . exact(unb_no hQ c c2.cov).elim
  . exact(inf_no hQ c2 c.fea).elim
  exact⟨by omega,by rw[z1,f0,z2]⟩
end
end
section
def rotG{α:Type _}(d:α)(l:List α)(t:Nat):List α:=(List.range l.length).map fun k=>l.getD ((k+t)%l.length) d
theorem rotG_len{α:Type _}(d:α)(l:List α)(t:Nat):(rotG d l t).length=l.length:=by simp[rotG]
theorem rotG_at{α:Type _}(d:α)(l:List α)(t:Nat){k:Nat}(h:k<l.length):(rotG d l t).getD k d=l.getD ((k+t)%l.length) d:=by
  rw[List.getD,rotG,List.getElem?_map,List.getElem?_range h];rfl
theorem rotG_mem{α:Type _}(d:α){l:List α}{t:Nat}{e:α}(h:e∈rotG d l t):e∈l:=by
  obtain⟨k,hk,rfl⟩:=List.mem_map.1 h;have hk:=List.mem_range.1 hk;have:=Nat.mod_lt (k+t) (Nat.lt_of_le_of_lt (Nat.zero_le k) hk);rw[List.getD,List.getElem?_eq_getElem this];exact List.getElem_mem this
theorem rotG_cut{α:Type _}(d:α)(l:List α)(t:Nat):rotG d l t=l.drop (t%l.length)++l.take (t%l.length):=by
  refine List.ext_getElem? fun k=>?_
  by_cases hk:k<l.length
  . have h0:0<l.length:=by omega
    have ht:=Nat.mod_lt t h0;rw[rotG,List.getElem?_map,List.getElem?_range hk,Option.map_some];have e:(k+t)%l.length=(k+t%l.length)%l.length:=by rw[Nat.add_mod_mod]
    rw[e];generalize t%l.length=s at ht⊢
    by_cases hs:k+s<l.length
    . rw[Nat.mod_eq_of_lt hs,List.getElem?_append_left (by simp;omega),List.getElem?_drop,List.getD,Nat.add_comm s k,List.getElem?_eq_getElem hs];rfl
    have e2:(k+s)%l.length=k+s-l.length:=by rw[Nat.mod_eq_sub_mod (by omega),Nat.mod_eq_of_lt (by omega)]
    rw[e2,List.getElem?_append_right (by simp;omega),List.getElem?_take,if_pos (by simp;omega),List.getD,List.length_drop,List.getElem?_eq_getElem (by omega:k+s-l.length<l.length)];rw[show k-(l.length-s)=k+s-l.length by omega,List.getElem?_eq_getElem (by omega:k+s-l.length<l.length)];rfl
  rw[List.getElem?_eq_none (by rw[rotG_len];omega),List.getElem?_eq_none (by simp;omega)]
abbrev rotL(l:List Rat)(t:Nat):List Rat:=rotG 0 l t
theorem rot_dot{a b:List Rat}(h:a.length=b.length)(t:Nat):dotQ (rotL a t) (rotL b t)=dotQ a b:=by
  rw[rotL,rotL,rotG_cut,rotG_cut,h];generalize t%b.length=s;rw[dotQ_append _ _ _ _ (by simp[h])]
  conv=>rhs;rw[<-List.take_append_drop s a, <-List.take_append_drop s b]
  rw[dotQ_append _ _ _ _ (by simp[h])]
  grind
def LPd.rot(P:LPd)(s t:Nat):LPd:=⟨rotL P.c s,(rotG [] P.A t).map fun a=>(List.range P.c.length).map fun k=>a.getD ((k+s)%P.c.length) 0,rotL P.b t⟩
section
variable {P:LPd}{s t:Nat}
theorem rot_row{a:List Rat}(h:a.length=P.c.length):((List.range P.c.length).map fun k=>a.getD ((k+s)%P.c.length) 0)=rotL a s:=by rw[<-h];rfl
theorem LPd.Ok.rot(hP:P.Ok):(P.rot s t).Ok:=⟨by simp[LPd.rot,rotG_len,hP.hb],fun a ha=>by
  obtain⟨b,_,rfl⟩:=List.mem_map.1 ha;simp[LPd.rot,rotG_len]⟩
theorem rot_A(hP:P.Ok){i:Nat}(hi:i<P.A.length):(P.rot s t).A.getD i []=rotL (P.A.getD ((i+t)%P.A.length) []) s:=by
  have hm:=Nat.mod_lt (i+t) (Nat.lt_of_le_of_lt (Nat.zero_le i) hi);have h1:(rotG [] P.A t)[i]?=some (P.A.getD ((i+t)%P.A.length) []):=by rw[rotG,List.getElem?_map,List.getElem?_range hi];rfl
  rw[LPd.rot,List.getD,List.getElem?_map,h1,Option.map_some,Option.getD_some,rot_row (hP.row hm)]
theorem rot_col(_hP:P.Ok){k:Nat}(hk:k<P.c.length):((P.rot s t).A.map fun a=>a.getD k 0)=rotL (P.A.map fun a=>a.getD ((k+s)%P.c.length) 0) t:=by
  refine List.ext_getElem? fun i=>?_
  by_cases hi:i<P.A.length
  . have hm:=Nat.mod_lt (i+t) (Nat.lt_of_le_of_lt (Nat.zero_le i) hi);have h1:(rotG [] P.A t)[i]?=some (P.A.getD ((i+t)%P.A.length) []):=by rw[rotG,List.getElem?_map,List.getElem?_range hi];rfl
    rw[LPd.rot,List.getElem?_map,List.getElem?_map,h1,Option.map_some,Option.map_some,rotL,rotG,List.getElem?_map,List.length_map,List.getElem?_range hi,Option.map_some]
    congr 1
    rw[List.getD,List.getElem?_map,List.getElem?_range hk,Option.map_some,Option.getD_some];rw[List.getD_eq_getElem?_getD (l:=List.map _ _),List.getElem?_map,List.getElem?_eq_getElem hm,Option.map_some,Option.getD_some,List.getD_eq_getElem?_getD (l:=P.A),List.getElem?_eq_getElem hm,Option.getD_some]
  rw[List.getElem?_eq_none (by simp[LPd.rot,rotG_len];omega),List.getElem?_eq_none (by simp[rotG_len];omega)]
theorem rot_over(hP:P.Ok):Over id P (P.rot s t):=by
  have hA:(P.rot s t).A.length=P.A.length:=by simp[LPd.rot,rotG_len]
  have hc:(P.rot s t).c.length=P.c.length:=rotG_len ..;have hmA:∀i,i<P.A.length->(i+t)%P.A.length<P.A.length:=fun i hi=>Nat.mod_lt _ (by omega)
  have hmc:∀k,k<P.c.length->(k+s)%P.c.length<P.c.length:=fun i hi=>Nat.mod_lt _ (by omega)
  have hb:∀i,i<P.A.length->(P.rot s t).b.getD i 0=P.b.getD ((i+t)%P.A.length) 0:=fun i hi=>by rw[<-hP.hb];exact rotG_at 0 P.b t (by rw[hP.hb];exact hi)
  have fx:∀x:List Rat,x.length=P.c.length-> ∀i,i<P.A.length->dotQ ((P.rot s t).A.getD i []) (rotL x s)=dotQ (P.A.getD ((i+t)%P.A.length) []) x:=fun x hx i hi=>by
    rw[rot_A hP hi,rot_dot (by rw[hx,hP.row (hmA i hi)])]
  have fy:∀y:List Rat,y.length=P.A.length-> ∀k,k<P.c.length->dotQ (rotL y t) ((P.rot s t).A.map fun a=>a.getD k 0)=dotQ y (P.A.map fun a=>a.getD ((k+s)%P.c.length) 0):=fun y hy k hk=>by
    rw[rot_col hP hk,rot_dot (by simp[hy])]
  refine⟨fun x y z h=>⟨rotL x s,rotL y t,?_⟩,fun y h=>⟨rotL y t,?_⟩,fun x r h=>⟨rotL x s,rotL r s,?_⟩⟩
  . exact⟨by rw[rotL,rotG_len,hc,h.xl],fun e he=>h.x0 e (rotG_mem 0 he),fun i hi=>by rw[hA]at hi;rw[fx x h.xl i hi,hb i hi];exact h.ax _ (hmA i hi),by rw[rotL,rotG_len,hA,h.yl],fun e he=>h.y0 e (rotG_mem 0 he),
      fun k hk=>by rw[hc]at hk;rw[fy y h.yl k hk,show(P.rot s t).c.getD k 0=_ from rotG_at 0 P.c s hk];exact h.ya _ (hmc k hk),by rw[show(P.rot s t).c=rotL P.c s from rfl,rot_dot h.xl.symm];exact h.cx,by rw[show(P.rot s t).b=rotL P.b t from rfl,rot_dot (by rw[hP.hb,h.yl])];exact h.yb⟩
  . exact⟨by rw[rotL,rotG_len,hA,h.yl],fun e he=>h.y0 e (rotG_mem 0 he),fun k hk=>by rw[hc]at hk;rw[fy y h.yl k hk];exact h.ya _ (hmc k hk),by rw[show(P.rot s t).b=rotL P.b t from rfl,rot_dot (by rw[hP.hb,h.yl])];exact h.yb⟩
  exact⟨by rw[rotL,rotG_len,hc,h.xl],fun e he=>h.x0 e (rotG_mem 0 he),fun i hi=>by rw[hA]at hi;rw[fx x h.xl i hi,hb i hi];exact h.ax _ (hmA i hi),by rw[rotL,rotG_len,hc,h.rl],fun e he=>h.r0 e (rotG_mem 0 he),
    fun i hi=>by rw[hA]at hi;rw[fx r h.rl i hi];exact h.ar _ (hmA i hi),by rw[show(P.rot s t).c=rotL P.c s from rfl,rot_dot h.rl.symm];exact h.cr⟩
end
theorem dotQ_set:∀(a b:List Rat) (i:Nat) (u v:Rat),i<a.length->i<b.length->dotQ (a.set i u) (b.set i v)=dotQ a b-a.getD i 0*b.getD i 0+u*v
  |[],_,_,_,_,h,_=>absurd h (Nat.not_lt_zero _)
  |_::_,[],_,_,_,_,h=>absurd h (Nat.not_lt_zero _)
  |a::az,b::bs,0,u,v,_,_=>by simp only[List.set_cons_zero,dotQ,List.getD_cons_zero];grind
  | a::az,b::bs,i+1,u,v,h,h'=>by
    have ih:=dotQ_set az bs i u v (by simpa using h) (by simpa using h');simp only[List.set_cons_succ,dotQ,List.getD_cons_succ];rw[ih];grind
theorem dotQ_scl(f:Rat):∀(a b:List Rat),dotQ (a.map (· *f)) b=dotQ a b*f
  |[],b=>by simp only[List.map_nil,dotQ_nil];grind
  |a::az,[]=>by simp only[dotQ_nil'];grind
  |a::az,b::bs=>by simp only[List.map_cons,dotQ];rw[dotQ_scl f az bs];grind
theorem getD_map_scl(f:Rat)(a:List Rat)(k:Nat):(a.map (· *f)).getD k 0=a.getD k 0*f:=by
  rw[List.getD,List.getElem?_map,List.getD]
  cases a[k]? with
  |none=>show(0:Rat)=0*f;grind
  |some x=>rfl
theorem map_set{α β:Type _}(g:α->β)(l:List α)(i:Nat)(x:α):(l.set i x).map g=(l.map g).set i (g x):=List.map_set ..
def LPd.scl(P:LPd)(f:Rat)(i:Nat):LPd:=⟨P.c.map (· *f),P.A.set i ((P.A.getD i []).map (· *f)),P.b.set i (P.b.getD i 0*f)⟩
section
variable {P:LPd}{f:Rat}{i:Nat}
theorem LPd.Ok.scl(hP:P.Ok):(P.scl f i).Ok:=by
  refine⟨by simp[LPd.scl,hP.hb],fun a ha=>?_⟩;obtain⟨k,hk⟩:=List.mem_iff_getElem?.1 ha;have hk':k<P.A.length:=by have:=(List.getElem?_eq_some_iff.1 hk).1;simpa[LPd.scl]using this
  simp only[LPd.scl,List.length_map];simp only[LPd.scl]at hk
  by_cases e:k=i
  . subst e;rw[List.getElem?_set_self hk']at hk
    cases hk
    rw[List.length_map,hP.row hk']
  rw[List.getElem?_set_ne (Ne.symm e)]at hk;exact hP.ha a (List.mem_of_getElem? hk)
theorem set_get_ne{α:Type _}{l:List α}{i k:Nat}{x d:α}(h:k≠i):(l.set i x).getD k d=l.getD k d:=by rw[List.getD,List.getElem?_set_ne (Ne.symm h),List.getD]
theorem set_get_eq{α:Type _}{l:List α}{i:Nat}{x d:α}(h:i<l.length):(l.set i x).getD i d=x:=by rw[List.getD,List.getElem?_set_self h];rfl
theorem scl_over(hP:P.Ok)(hf:0<f):Over (· *f) P (P.scl f i):=by
  have hA:(P.scl f i).A.length=P.A.length:=by simp[LPd.scl]
  have hc:(P.scl f i).c.length=P.c.length:=by simp[LPd.scl]
  have fx:∀x:List Rat,∀k,k<P.A.length->dotQ ((P.scl f i).A.getD k []) x=dotQ (P.A.getD k []) x*(if k=i then f else 1):=fun x k hk=>by
    by_cases e:k=i
    . subst e;rw[if_pos rfl,show(P.scl f k).A=P.A.set k ((P.A.getD k []).map (· *f))from rfl,set_get_eq hk,dotQ_scl]
    rw[if_neg e,show(P.scl f i).A=P.A.set i ((P.A.getD i []).map (· *f))from rfl,set_get_ne e];grind
  have fb:∀k,k<P.A.length->(P.scl f i).b.getD k 0=P.b.getD k 0*(if k=i then f else 1):=fun k hk=>by
    by_cases e:k=i
    . subst e;rw[if_pos rfl,show(P.scl f k).b=P.b.set k (P.b.getD k 0*f)from rfl,set_get_eq (by rw[hP.hb];exact hk)]
    rw[if_neg e,show(P.scl f i).b=P.b.set i (P.b.getD i 0*f)from rfl,set_get_ne e];grind
  have ax:∀x:List Rat,(∀k,k<P.A.length->dotQ (P.A.getD k []) x<=P.b.getD k 0)-> ∀k,k<(P.scl f i).A.length->dotQ ((P.scl f i).A.getD k []) x<=(P.scl f i).b.getD k 0:=fun x h k hk=>by
    rw[hA]at hk;rw[fx x k hk,fb k hk];exact Rat.mul_le_mul_of_nonneg_right (h k hk) (by split<;>grind)
  --prices
  obtain⟨pr,hpr⟩:∃pr:List Rat->List Rat,∀y,pr y=if i<P.A.length then(y.map (· *f)).set i (y.getD i 0)else y.map (· *f):=⟨_,fun _=>rfl⟩
  have prl:∀y:List Rat,y.length=P.A.length->(pr y).length=P.A.length:=fun y hy=>by rw[hpr];split<;>simp[hy]
  have pr0:∀y:List Rat,y.length=P.A.length->(∀e∈y,0<=e)-> ∀e∈pr y,0<=e:=fun y hy h e he=>by
    have hm:∀e∈y.map (· *f),0<=e:=fun e he=>by
      obtain⟨q,hq,rfl⟩:=List.mem_map.1 he;exact Rat.mul_nonneg (h q hq) (Rat.le_of_lt hf)
    rw[hpr]at he
    split at he
    . rename_i hi
      rcases List.mem_or_eq_of_mem_set he with he|rfl
      . exact hm e he
      exact h _ (by rw[List.getD,List.getElem?_eq_getElem (by omega)];exact List.getElem_mem (by omega))
    exact hm e he
  have prd:∀(y w:List Rat),y.length=P.A.length->w.length=P.A.length->dotQ (pr y) (if i<P.A.length then w.set i (w.getD i 0*f)else w)=dotQ y w*f:=fun y w hy hw=>by
    rw[hpr]
    split
    . rename_i hi
      rw[dotQ_set _ _ _ _ _ (by simp;omega) (by omega),dotQ_scl,getD_map_scl];grind
    rw[dotQ_scl]
  have colE:∀k,((P.scl f i).A.map fun a=>a.getD k 0)=if i<P.A.length then(P.A.map fun a=>a.getD k 0).set i ((P.A.map fun a=>a.getD k 0).getD i 0*f)else(P.A.map fun a=>a.getD k 0):=fun k=>by
    rw[show(P.scl f i).A=P.A.set i ((P.A.getD i []).map (· *f))from rfl,map_set]
    split
    . rename_i hi
      congr 1
      rw[getD_map_scl,List.getD_eq_getElem?_getD (l:=List.map _ _),List.getElem?_map,List.getElem?_eq_getElem hi,List.getD_eq_getElem?_getD (l:=P.A),List.getElem?_eq_getElem hi];rfl
    rw[List.set_eq_of_length_le (by simp;omega)]
  have bE:(P.scl f i).b=if i<P.A.length then P.b.set i (P.b.getD i 0*f)else P.b:=by
    rw[show(P.scl f i).b=P.b.set i (P.b.getD i 0*f)from rfl]
    split
    . rfl
    rw[List.set_eq_of_length_le (by rw[hP.hb];omega)]
  have yc:∀(y:List Rat) (k:Nat),y.length=P.A.length->dotQ (pr y) ((P.scl f i).A.map fun a=>a.getD k 0)=dotQ y (P.A.map fun a=>a.getD k 0)*f:=fun y k hy=>by rw[colE,prd _ _ hy (by simp)]
  have yb:∀y:List Rat,y.length=P.A.length->dotQ (P.scl f i).b (pr y)=dotQ P.b y*f:=fun y hy=>by rw[dotQ_comm,bE,prd _ _ hy hP.hb,dotQ_comm]
  refine⟨fun x y z h=>⟨x,pr y,?_⟩,fun y h=>⟨pr y,?_⟩,fun x r h=>⟨x,r,?_⟩⟩
  . exact⟨by rw[hc];exact h.xl,h.x0,ax x h.ax,by rw[hA];exact prl y h.yl,pr0 y h.yl h.y0,fun k hk=>by
      rw[hc]at hk;rw[yc y k h.yl,show(P.scl f i).c=P.c.map (· *f)from rfl,getD_map_scl];exact Rat.mul_le_mul_of_nonneg_right (h.ya k hk) (Rat.le_of_lt hf),by rw[show(P.scl f i).c=P.c.map (· *f)from rfl,dotQ_scl,h.cx],by rw[yb y h.yl,h.yb]⟩
  . exact⟨by rw[hA];exact prl y h.yl,pr0 y h.yl h.y0,fun k hk=>by
      rw[hc]at hk;rw[yc y k h.yl];exact Rat.mul_nonneg (h.ya k hk) (Rat.le_of_lt hf),by
      rw[yb y h.yl];have:=Rat.mul_pos (show 0< -(dotQ P.b y) by have:=h.yb;grind) hf
      grind⟩
  exact⟨by rw[hc];exact h.xl,h.x0,ax x h.ax,by rw[hc];exact h.rl,h.r0,fun k hk=>by
    rw[hA]at hk;rw[fx r k hk];have h1:=h.ar k hk;have h2:0<= -(dotQ (P.A.getD k []) r)*(if k=i then f else 1):=Rat.mul_nonneg (by grind) (by split<;>grind)
    grind,by rw[show(P.scl f i).c=P.c.map (· *f)from rfl,dotQ_scl];exact Rat.mul_pos h.cr hf⟩
end
def sumR(n:Nat)(a b:List Rat):List Rat:=(List.range n).map fun k=>a.getD k 0+b.getD k 0
theorem sumR_len(n:Nat)(a b:List Rat):(sumR n a b).length=n:=by simp[sumR]
theorem dot_sumR:∀(n:Nat) (a b x:List Rat),a.length=n->b.length=n->x.length=n->dotQ (sumR n a b) x=dotQ a x+dotQ b x
  | 0,a,b,x,ha,hb,hx=>by
    obtain rfl:=List.eq_nil_of_length_eq_zero hx;simp only[dotQ_nil'];grind
  |n+1,[],_,_,h,_,_=>by simp at h
  |n+1,_::_,[],_,_,h,_=>by simp at h
  |n+1,_::_,_::_,[],_,_,h=>by simp at h
  | n +1,a::az,b::bs,x::xs,ha,hb,hx=>by
    have ih:=dot_sumR n az bs xs (by simpa using ha) (by simpa using hb) (by simpa using hx)
    have e:sumR (n+1) (a::az) (b::bs)=(a+b)::sumR n az bs:=by
      unfold sumR;rw[List.range_succ_eq_map,List.map_cons,List.map_map];rfl
    rw[e];simp only[dotQ];rw[ih];grind
def LPd.imp(P:LPd)(i j:Nat):LPd:=⟨P.c,P.A++[sumR P.c.length (P.A.getD i []) (P.A.getD j [])],P.b++[P.b.getD i 0+P.b.getD j 0]⟩
section
variable {P:LPd}{i j:Nat}
theorem LPd.Ok.imp(hP:P.Ok):(P.imp i j).Ok:=⟨by simp[LPd.imp,hP.hb],fun a ha=>by
  rcases List.mem_append.1 ha with h|h
  . exact hP.ha a h
  rw[List.mem_singleton.1 h,sumR_len];rfl⟩
theorem imp_over(hP:P.Ok)(hi:i<P.A.length)(hj:j<P.A.length):Over id P (P.imp i j):=by
  have hA:(P.imp i j).A.length=P.A.length+1:=by simp[LPd.imp]
  have rowE:∀k,k<P.A.length->(P.imp i j).A.getD k []=P.A.getD k []:=fun k hk=>by rw[LPd.imp,List.getD,List.getElem?_append_left hk,List.getD]
  have rowL:(P.imp i j).A.getD P.A.length []=sumR P.c.length (P.A.getD i []) (P.A.getD j []):=by rw[LPd.imp,List.getD,List.getElem?_append_right (Nat.le_refl _)];simp
  have bE:∀k,k<P.A.length->(P.imp i j).b.getD k 0=P.b.getD k 0:=fun k hk=>by rw[LPd.imp,List.getD,List.getElem?_append_left (by rw[hP.hb];exact hk),List.getD]
  have bL:(P.imp i j).b.getD P.A.length 0=P.b.getD i 0+P.b.getD j 0:=by rw[LPd.imp,List.getD, <-hP.hb,List.getElem?_append_right (Nat.le_refl _)];simp
  have ax:∀x:List Rat,x.length=P.c.length->(∀k,k<P.A.length->dotQ (P.A.getD k []) x<=P.b.getD k 0)-> ∀k,k<(P.imp i j).A.length->dotQ ((P.imp i j).A.getD k []) x<=(P.imp i j).b.getD k 0:=fun x hx h k hk=>by
    rcases Nat.lt_or_eq_of_le (Nat.le_of_lt_succ (hA▸hk))with hk|rfl
    . rw[rowE k hk,bE k hk];exact h k hk
    rw[rowL,bL,dot_sumR _ _ _ _ (hP.row hi) (hP.row hj) hx];have:=h i hi;have:=h j hj
    grind
  have yc:∀(y w:List Rat) (q:Rat),y.length=w.length->dotQ (y++[0]) (w++[q])=dotQ y w:=fun y w q h=>by
    rw[dotQ_append _ _ _ _ h];simp only[dotQ];grind
  have y0:∀y:List Rat,(∀e∈y,0<=e)-> ∀e∈y++[0],0<=e:=fun y h e he=>by
    rcases List.mem_append.1 he with h1|h1
    . exact h e h1
    rw[List.mem_singleton.1 h1];exact Rat.le_refl
  have colE:∀k,∃q,((P.imp i j).A.map fun a=>a.getD k 0)=(P.A.map fun a=>a.getD k 0)++[q]:=fun k=>⟨_,by rw[LPd.imp,List.map_append];rfl⟩
  have ya:∀(y:List Rat) (k:Nat),y.length=P.A.length->dotQ (y++[0]) ((P.imp i j).A.map fun a=>a.getD k 0)=dotQ y (P.A.map fun a=>a.getD k 0):=fun y k hy=>by
    obtain⟨q,e⟩:=colE k;rw[e,yc _ _ _ (by simp[hy])]
  have yb:∀y:List Rat,y.length=P.A.length->dotQ (P.imp i j).b (y++[0])=dotQ P.b y:=fun y hy=>by
    rw[dotQ_comm,show(P.imp i j).b=P.b++[_]from rfl,yc _ _ _ (by rw[hy,hP.hb]),dotQ_comm]
  refine⟨fun x y z h=>⟨x,y++[0],?_⟩,fun y h=>⟨y++[0],?_⟩,fun x r h=>⟨x,r,?_⟩⟩
  . exact⟨h.xl,h.x0,ax x h.xl h.ax,by rw[hA,List.length_append,h.yl];rfl,y0 y h.y0,fun k hk=>by rw[ya y k h.yl];exact h.ya k hk,h.cx,by rw[yb y h.yl];exact h.yb⟩
  . exact⟨by rw[hA,List.length_append,h.yl];rfl,y0 y h.y0,fun k hk=>by rw[ya y k h.yl];exact h.ya k hk,by rw[yb y h.yl];exact h.yb⟩
  exact⟨h.xl,h.x0,ax x h.xl h.ax,h.rl,h.r0,fun k hk=>by
    rcases Nat.lt_or_eq_of_le (Nat.le_of_lt_succ (hA▸hk))with hk|rfl
    . rw[rowE k hk];exact h.ar k hk
    rw[rowL,dot_sumR _ _ _ _ (hP.row hi) (hP.row hj) h.rl];have:=h.ar i hi;have:=h.ar j hj
    grind,h.cr⟩
end
section
variable {P:LPd}
end
end
section
theorem getD_eq_of{α:Type _}{l:List α}{i:Nat}{x d:α}(h:l[i]?=some x):l.getD i d=x:=by simp[List.getD,h]
def stepN(f:Rat->Rat)(cs:List Rat)(k:Nat):List Rat:=(cs.take k).map f++cs.drop k
theorem stepN_len(f:Rat->Rat)(cs:List Rat)(k:Nat):(stepN f cs k).length=cs.length:=by simp[stepN];omega
theorem stepN_zero(f:Rat->Rat)(cs:List Rat):stepN f cs 0=cs:=by simp[stepN]
theorem stepN_all(f:Rat->Rat)(cs:List Rat){k:Nat}(h:cs.length<=k):stepN f cs k=cs.map f:=by
  rw[stepN,List.take_of_length_le h,List.drop_eq_nil_of_le h,List.append_nil]
theorem stepN_at(f:Rat->Rat){cs:List Rat}{k:Nat}(h:k<cs.length):(stepN f cs k)[k]?=cs[k]?:=by
  rw[stepN,List.getElem?_append_right (by simp;omega),List.getElem?_drop]
  congr 1;simp;omega
theorem stepN_succ(f:Rat->Rat){cs:List Rat}{k:Nat}{c:Rat}(h:cs[k]?=some c):(stepN f cs k).set k (f c)=stepN f cs (k+1):=by
  obtain⟨hk,rfl⟩:=List.getElem?_eq_some_iff.1 h;unfold stepN;rw[List.set_append_right _ _ (by simp;omega),List.drop_eq_getElem_cons hk,List.take_succ_eq_append_getElem hk,List.map_append,List.append_assoc]
  congr 1
  simp only[List.length_map,List.length_take,Nat.min_eq_left (Nat.le_of_lt hk),Nat.sub_self,List.set_cons_zero,List.map_cons,List.map_nil];rfl
theorem stepN_same(f:Rat->Rat){cs:List Rat}{k:Nat}{c:Rat}(h:cs[k]?=some c)(hf:f c=c):stepN f cs (k+1)=stepN f cs k:=by
  rw[<-stepN_succ f h,hf];refine List.ext_getElem? fun m=>?_
  by_cases e:k=m
  . subst e;rw[List.getElem?_set_self (by rw[stepN_len];exact(List.getElem?_eq_some_iff.1 h).1),stepN_at f (List.getElem?_eq_some_iff.1 h).1,h]
  rw[List.getElem?_set_ne e]
def subN(f:Rat)(az bs:List Rat)(k:Nat):List Rat:=subCs f (az.take k) (bs.take k)++az.drop k
theorem subN_len(f:Rat)(az bs:List Rat)(k:Nat):(subN f az bs k).length=az.length:=by simp[subN,subCs_len];omega
theorem subN_zero(f:Rat)(az bs:List Rat):subN f az bs 0=az:=by simp[subN,subCs]
theorem subN_all(f:Rat){az bs:List Rat}(hl:bs.length=az.length){k:Nat}(h:az.length<=k):subN f az bs k=subCs f az bs:=by
  rw[subN,List.take_of_length_le h,List.take_of_length_le (by omega),List.drop_eq_nil_of_le h,List.append_nil]
theorem subN_at(f:Rat){az bs:List Rat}{k:Nat}(h:k<az.length):(subN f az bs k)[k]?=az[k]?:=by
  rw[subN,List.getElem?_append_right (by simp[subCs_len];omega),List.getElem?_drop]
  congr 1;simp[subCs_len];omega
theorem subCs_app(f:Rat):∀(az bs:List Rat) (a b:Rat),az.length=bs.length->subCs f (az++[a]) (bs++[b])=subCs f az bs++[a-f*b]
  |[],[],a,b,_=>rfl
  |[],_::_,_,_,h=>by simp at h
  |_::_,[],_,_,h=>by simp at h
  | x::az,y::bs,a,b,h=>by
    simp only[List.cons_append,subCs];rw[subCs_app f az bs a b (by simpa using h)]
theorem subN_succ(f:Rat){az bs:List Rat}{k:Nat}{a b:Rat}(ha:az[k]?=some a)(hb:bs[k]?=some b):(subN f az bs k).set k (a-f*b)=subN f az bs (k+1):=by
  obtain⟨hk,rfl⟩:=List.getElem?_eq_some_iff.1 ha;obtain⟨hk2,rfl⟩:=List.getElem?_eq_some_iff.1 hb;unfold subN;rw[List.take_succ_eq_append_getElem hk,List.take_succ_eq_append_getElem hk2,subCs_app _ _ _ _ _ (by simp;omega),List.append_assoc,List.set_append_right _ _ (by simp[subCs_len];omega),List.drop_eq_getElem_cons hk]
  congr 1
  simp only[subCs_len,List.length_take,Nat.min_eq_left (Nat.le_of_lt hk),Nat.sub_self,List.set_cons_zero];rfl
theorem subN_same(f:Rat){az bs:List Rat}{k:Nat}{a:Rat}(ha:az[k]?=some a)(hb:bs[k]?=some 0):subN f az bs (k+1)=subN f az bs k:=by
  rw[<-subN_succ f ha hb,show a-f*0=a by grind];refine List.ext_getElem? fun m=>?_
  by_cases e:k=m
  . subst e;rw[List.getElem?_set_self (by rw[subN_len];exact(List.getElem?_eq_some_iff.1 ha).1),subN_at f (List.getElem?_eq_some_iff.1 ha).1,ha]
  rw[List.getElem?_set_ne e]
theorem subst_zero{x p:LRow}{j:Nat}(h:x.cs.getD j 0=0):x.subst j p=x:=by
  unfold LRow.subst;rw[h,subCs_zero,show x.r-0*p.r=x.r by grind]
  have:x.cs.set j 0=x.cs:=by
    refine List.ext_getElem? fun m=>?_
    by_cases e:j=m
    . subst e
      by_cases hj:j<x.cs.length
      . rw[List.getElem?_set_self hj,List.getElem?_eq_getElem hj];rw[List.getD,List.getElem?_eq_getElem hj,Option.getD_some]at h;rw[h]
      rw[List.getElem?_eq_none (by simp;omega),List.getElem?_eq_none (by omega)]
    rw[List.getElem?_set_ne e]
  rw[this]
def pivK(rows:List LRow)(i j k:Nat):List LRow:=rows.mapIdx fun m x=>if m=i then x.scale j else if m<k then x.subst j ((rows.getD i default).scale j)else x
section
variable {rows:List LRow}{i j k:Nat}{x:LRow}
theorem pivK_get(m:Nat):(pivK rows i j k)[m]?=rows[m]?.map fun x=>if m=i then x.scale j else if m<k then x.subst j ((rows.getD i default).scale j)else x:=by
  unfold pivK;simp[List.getElem?_mapIdx]
theorem pivK_len:(pivK rows i j k).length=rows.length:=by simp[pivK]
theorem pivK_zero(h:rows[i]?=some x):pivK rows i j 0=rows.set i (x.scale j):=by
  refine List.ext_getElem? fun m=>?_
  rw[pivK_get]
  by_cases e:m=i
  . subst e;rw[List.getElem?_set_self (List.getElem?_eq_some_iff.1 h).1,h];simp
  rw[List.getElem?_set_ne (Ne.symm e)]
  cases rows[m]? with
  |none=>rfl
  |some y=>simp[e]
theorem pivK_i(h:rows[i]?=some x):(pivK rows i j k)[i]?=some (x.scale j):=by rw[pivK_get,h];simp
theorem pivK_k(hk:k≠i):(pivK rows i j k)[k]?=rows[k]?:=by
  rw[pivK_get]
  cases rows[k]? with
  |none=>rfl
  |some y=>simp[hk]
theorem pivK_skip:pivK rows i j (i+1)=pivK rows i j i:=by
  refine List.ext_getElem? fun m=>?_
  rw[pivK_get,pivK_get]
  by_cases e:m=i
  . subst e;simp
  have:(m<i+1)=(m<i):=by rw[eq_iff_iff];omega
  simp[e,this]
theorem pivK_step{y:LRow}(hk:k≠i)(h:rows[i]?=some x)(hy:rows[k]?=some y):(pivK rows i j k).set k (y.subst j (x.scale j))=pivK rows i j (k+1):=by
  have hd:rows.getD i default=x:=getD_eq_of h;refine List.ext_getElem? fun m=>?_
  by_cases e:k=m
  . subst e;rw[List.getElem?_set_self (by rw[pivK_len];exact(List.getElem?_eq_some_iff.1 hy).1),pivK_get,hy,hd];simp[hk]
  rw[List.getElem?_set_ne e,pivK_get,pivK_get];have:(m<k+1)=(m<k):=by rw[eq_iff_iff];omega
  simp[this]
theorem pivK_all{T:LTab}(h:T.rows.length<=k):pivK T.rows i j k=(T.pivot i j).rows:=by
  refine List.ext_getElem? fun m=>?_
  rw[pivK_get,pivot_rows]
  by_cases hm:m<T.rows.length
  . have:m<k:=by omega
    simp[this]
  rw[List.getElem?_eq_none (by omega)];rfl
end
section
variable {rows:List LRow}{g z:LRow}{css ex:List (List Rat)}{rs:List Rat}{k:Nat}
end
theorem subst_cs{y p:LRow}{j:Nat}{f:Rat}(h:y.cs[j]?=some f):(y.subst j p).cs=subCs f (y.cs.set j 0) p.cs:=by
  unfold LRow.subst;rw[getD_eq_of h]
theorem subst_r{y p:LRow}{j:Nat}{f:Rat}(h:y.cs[j]?=some f):(y.subst j p).r=y.r-f*p.r:=by
  unfold LRow.subst;rw[getD_eq_of h]
end
section
section
variable {P:Program}{V:World}{ops:Array Oper}{Q:Act->World->Prop}{f0 fs fs':List Ft}{k:Nat}{ks:List Nat}{o:Oper}{rest:List Oper}{a a':Act}{v:Value}
theorem eRm{F:World->Prop}(hc:∀w,SS V fs w->F w)(h1:∀w,F w->Flt v w ((execOp a.eval o).run P w))(h:Sx P V ops Q f0 ks rest fs a')(hg:Wants ops o a:=by first|exact wants0 rfl|exact wantsg rfl rfl rfl rfl)(ha:a.put o.dst v=a':=by(simp only[mkOf,Act.put,pA,pB,pC,pD,pE])<;>exact rfl):Sx P V ops Q f0 (1::ks) (o::rest) fs a:=
  sx1 hg (fun w hw=>Flt.does ⟨rfl,Below.refl _ _⟩ (h1 w (hc w hw))) (by rw[ha];exact h)
theorem eRm0{F:World->Prop}(hc:∀w,SS V f0 w->F w)(h1:∀w,F w->Flt v w ((execOp a.eval o).run P w))(h:Sx P V ops Q f0 ks rest fs a')(hg:Wants ops o a:=by first|exact wants0 rfl|exact wantsg rfl rfl rfl rfl)(ha:a.put o.dst v=a':=by(simp only[mkOf,Act.put,pA,pB,pC,pD,pE])<;>exact rfl):Sx P V ops Q f0 (0::ks) (o::rest) fs a:=
  sx0 hg (fun w hw=>h1 w (hc w hw)) (by rw[ha];exact h)
end
def rC(t:TypeId)(g n c:Nat)(xs:List Rat)(j:Nat)(x:Duo Sl Sl)(q:Rat):Ft:=
  ⟨(rO ratK t (some ⟨g,0,none⟩) n c xs).own,(rO ratK t (some ⟨g,0,none⟩) n c xs).ln,fun w=>(rO ratK t (some ⟨g,0,none⟩) n c xs).F w/\C3 w g (j*3) (.bool (isN q)) (.slice x.a.p x.a.l x.a.c) (.slice x.b.p x.b.l x.b.c),
    fun h hg=>(rO ratK t (some ⟨g,0,none⟩) n c xs).lt h.1 hg,fun h hb=>⟨(rO ratK t (some ⟨g,0,none⟩) n c xs).bel h.1 hb,h.2.below hb⟩,fun{w R} h hn hS w1 h1 h2 w2 h3=>by
      refine⟨(rO ratK t (some ⟨g,0,none⟩) n c xs).spa h.1 hn hS w1 h1 h2 w2 h3,?_⟩;have hg:w1.heap[g]?=w.heap[g]?:=h2 g (fun e=>hn (e▸rfl)) h.2.1;have hc:∀o,w1.cell? ⟨g,o,none⟩=w.cell? ⟨g,o,none⟩:=fun o=>by unfold World.cell?;rw[hg]
      exact C3.below (w:=w1) ⟨Nat.lt_of_lt_of_le h.2.1 h1,(hc _).trans h.2.2.1,(hc _).trans h.2.2.2.1,(hc _).trans h.2.2.2.2⟩ h3⟩
theorem SS.toC{V w:World}{l:List Ft}{t:TypeId}{g n c j:Nat}{xs:List Rat}{q:Rat}(k:SS V (rO ratK t (some ⟨g,0,none⟩) n c xs::l) w)(hx:xs[j]?=some q):
    ∃x:Duo Sl Sl,SS V (rC t g n c xs j x q::qF (.agg #[.bool (isN q),.slice x.a.p x.a.l x.a.c,.slice x.b.p x.b.l x.b.c]) q::l) w:=by
  obtain⟨v0,v1,v2,hc,hr⟩:=(k.own m0).slv.rat hx;obtain⟨rfl,⟨p,a,d,rfl⟩,p',a',d',rfl⟩:=ratV_cells' hr;rw[Nat.zero_add]at hc;have k2:=k.fact (qF (.agg #[.bool (isN q),.slice p a d,.slice p' a' d']) q) hr;have k3:=k2.up1;refine⟨⟨⟨p,a,d⟩,⟨p',a',d'⟩⟩,k3.old,fun f hf=>?_,fun f hf=>?_,?_⟩
  . rcases List.mem_cons.1 hf with rfl|hf
    . exact⟨k3.has _ (List.mem_cons_self ..),hc⟩
    exact k3.has f (List.mem_cons_of_mem _ hf)
  . rcases List.mem_cons.1 hf with rfl|hf
    . exact k3.lo (rO ratK t (some ⟨g,0,none⟩) n c xs) (List.mem_cons_self ..)
    exact k3.lo f (List.mem_cons_of_mem _ hf)
  have h1:=List.pairwise_cons.1 k3.ap;exact .cons h1.1 h1.2
section
variable {P:Program}{V:World}{ops:Array Oper}{Q:Act->World->Prop}{f0 fs fs':List Ft}{ks:List Nat}{o:Oper}{rest:List Oper}{a a':Act}
theorem eWC{g n c j:Nat}{t:TypeId}{xs:List Rat}{x:Duo Sl Sl}{q y:Rat}{v0 v1 v2:Value}(i:Nat)(hj:j<xs.length)(hv:qF (.agg #[v0,v1,v2]) y∈fs)(h:Sx P V ops Q f0 ks rest fs' a')(hi:fs[i]?=some (rC t g n c xs j x q):=by rfl)(hf:fs.set i (rO ratK t (some ⟨g,0,none⟩) n c (xs.set j y))=fs':=by(simp only[pB,pC])<;>exact rfl)(hs:f0.Sublist fs':=by exact List.nil_sublist _)(hq:OkL 2 i fs:=by repeat (first|exact trivial|(show OkA _ _;assumption)|refine⟨rfl,?_⟩))(hg:Wants ops o a:=by first|exact wants0 rfl|exact wantsg rfl rfl rfl rfl)
    (h1:∀w u0 u1 u2,w.cell? ⟨g,j*3,none⟩=some u0->w.cell? ⟨g,j*3+1,none⟩=some u1->w.cell? ⟨g,j*3+2,none⟩=some u2->(∀o,w.frozen? ⟨g,o,none⟩=false)->Does P (fun u w'=>u=undef/\w'=putAt g (j*3) [v0,v1,v2] w) ((execOp a.eval o).run P w):=by intro w' u0 u1 u2 c0 c1 c2 f;go_simp;exact⟨rfl,rfl⟩) (ha:a.put o.dst undef=a':=by(simp only[mkOf,Act.put,pA,pB,pC,pD,pE])<;>exact rfl):Sx P V ops Q f0 (4::ks) (o::rest) fs a:=
  sxS (R:=g) (f2:=rO ratK t (some ⟨g,0,none⟩) n c (xs.set j y)) hi rfl (fun _ h=>h) (fun w k=>qtN (fun R' e=>by injection e with e;subst e;exact OwV.hd k.1 (List.ne_nil_of_length_pos (by omega)) (fun{_ _ _ _} h hu=>ratK_hd h hu)) hq) (by rw[hf];exact hs) hg (fun w hw k=>by
    obtain⟨_,c0,c1,c2⟩:=k.2;refine(h1 w _ _ _ c0 c1 c2 (OwV.fz k.1)).mono fun u w' ⟨e1,e2⟩=>?_
    subst e2;exact⟨e1,⟨_,_,rfl⟩,OwV.put k.1 ⟨_,_,_,rfl,hw.q hv⟩ hj _ (Below.refl _ _)⟩) (by rw[hf,ha];exact h)
end
theorem infoZ:(Tryz.prog.info? 3).map (fun i=>(i.zero,i.size,i.bytes))=some (some (.int .i64 0),intK.sz,8):=by kernel_rfl
theorem infoQ:(Tryz.prog.info? 70).map (fun i=>(i.zero,i.size,i.bytes))=some (some (.agg #[.bool false,.slice none 0 0,.slice none 0 0]),ratK.sz,56):=by kernel_rfl
theorem infoW:(Tryz.prog.info? 149).map (fun i=>(i.zero,i.size,i.bytes))=some (some (.agg #[.slice none 0 0,.bool false,.slice none 0 0,.slice none 0 0]),rw4K.sz,80):=by kernel_rfl
theorem rat0(w:World):ratK.R w [.bool false,.slice none 0 0,.slice none 0 0] 0:=⟨_,_,_,rfl,RatV.zero w⟩
theorem LmQ.nil0:LmQ 1 (0:Rat):=⟨by show _<_;decide,by show _<_;decide⟩
def LmL(k:Nat)(xs:List Rat):Prop:= ∀x∈xs,LmQ k x
theorem LmL_set{k j:Nat}{cs:List Rat}(h:LmL k cs)(hk:1<=k):LmL k (cs.set j 0):=fun x hx=>by
  rcases List.mem_or_eq_of_mem_set hx with hx|rfl
  . exact h x hx
  exact LmQ.nil0.up hk
section
variable {P:Program}{V:World}{ops:Array Oper}{Q:Act->World->Prop}{f0 fs:List Ft}{ks:List Nat}{o:Oper}{rest:List Oper}{a a':Act}{v:Value}
theorem eRm3{g i:Nat}{x y z:Value}(hc:∀w,SS V f0 w->C3 w g i x y z)(h:Sx P V ops Q f0 ks rest fs a')(hg:Wants ops o a:=by first|exact wants0 rfl|exact wantsg rfl rfl rfl rfl)(h1:∀w,C3 w g i x y z->Flt v w ((execOp a.eval o).run P w):=by intro w' k;obtain⟨_,c0,c1,c2⟩:=k;(try simp at c0 c1 c2);go_simp;(try go_bits);exact⟨rfl,rfl⟩)(ha:a.put o.dst v=a':=by(simp only[mkOf,Act.put,pA,pB,pC,pD,pE])<;>exact rfl):Sx P V ops Q f0 (0::ks) (o::rest) fs a:=eRm0 (F:=fun w=>C3 w g i x y z) hc h1 h hg ha
end
end
end Go.Proofs.YtjhaedfpigebdaaGreatDoor
