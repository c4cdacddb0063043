/- Rational numbers of the program. -/

import Derived.Test.YtlhbcopaakejgaaGreatDoorNrB
namespace Go.Proofs.YtlhbcopaakejgaaGreatDoor
open Go.RowKit
open Go.Lib (decDigits)
theorem ofS_n0(s:Bool){n d:Nat}(h:(n==0)=true):ofS s n 1=ofS s n d:=by
  have:n=0:=by simpa using h
  rw[this,ofS_zero,ofS_zero]
theorem ofS_d1(s:Bool){n d:Nat}(h:(d==1)=true):ofS s n 1=ofS s n d:=by
  have:d=1:=by simpa using h
  rw[this]
theorem ofS_g1(s:Bool){n d:Nat}(hd:d≠0)(h:(d/Nat.gcd n d==1)=true):ofS s (n/Nat.gcd n d) 1=ofS s n d:=by
  have:d/Nat.gcd n d=1:=by simpa using h
  have e:=ofS_div s n hd
  rwa [this]at e
theorem made_b(s:Bool){n:Nat}(h:(n==0)=false):s=(s&&decide (n≠0)):=by
  have:n≠0:=by simpa using h
  simp[this]
theorem made_1{n d:Nat}(h:(Nat.gcd n d==1)=true):n=n/Nat.gcd n d:=by
  have:Nat.gcd n d=1:=by simpa using h
  rw[this,Nat.div_one]
theorem made_2{n d:Nat}(h:(Nat.gcd n d==1)=true)(h':(d==1)=false):d=if d/Nat.gcd n d=1 then 0 else d/Nat.gcd n d:=by
  have:Nat.gcd n d=1:=by simpa using h
  have h2:d≠1:=by simpa using h'
  rw[this,Nat.div_one,if_neg h2]
theorem made_3{n d:Nat}(h':(d/Nat.gcd n d==1)=false):d/Nat.gcd n d=if d/Nat.gcd n d=1 then 0 else d/Nat.gcd n d:=by
  have h2:d/Nat.gcd n d≠1:=by simpa using h'
  rw[if_neg h2]
theorem sgnd_lm{s t:Bool}{n m k:Nat}(hn:Lm k n)(hm:Lm k m):Lm (k+1) (sgnd s n t m).2:=by
  have h:=(hn.add hm).le (n:=(sgnd s n t m).2) (by unfold sgnd;split<;>(try split)<;>simp<;>omega)
  rwa [Nat.max_self]at h
theorem add_made(x y:Rat){b:Bool}(hb:(sgnd (isN x) (x.num.natAbs*one0 (den0 y)) (isN y) (y.num.natAbs*one0 (den0 x))).1=b):ofS b (sgnd (isN x) (x.num.natAbs*one0 (den0 y)) (isN y) (y.num.natAbs*one0 (den0 x))).2 (x.den*one0 (den0 y))=x+y:=by
  have h:=sgnd_eq (isN x) (x.num.natAbs*one0 (den0 y)) (isN y) (y.num.natAbs*one0 (den0 x));rw[hb]at h;rw[one0_den0]at h⊢;rw[one0_den0]at h⊢;exact add_of h
theorem den_1{x:Rat}(h:(den0 x==0)=true):x.den=1:=by
  have:den0 x=0:=by simpa using h
  exact(den0_zero x).1 this
theorem add_whole(x y:Rat){b:Bool}(hb:(sgnd (isN x) (x.num.natAbs*one0 (den0 y)) (isN y) (y.num.natAbs*one0 (den0 x))).1=b)(hx:(den0 x==0)=true)(hy:(den0 y==0)=true):ofS b (sgnd (isN x) (x.num.natAbs*one0 (den0 y)) (isN y) (y.num.natAbs*one0 (den0 x))).2 1=x+y:=by
  have h:=add_made x y hb;rw[show x.den*one0 (den0 y)=1 from by rw[one0_den0,den_1 hx,den_1 hy]]at h;exact h
theorem div_made(x:Rat){y:Rat}(hy:y≠0):ofS (isN x !=isN y) (x.num.natAbs*one0 (den0 y)) (y.num.natAbs*one0 (den0 x))=x/y:=by rw[one0_den0,one0_den0];exact div_of x hy
theorem div_zero'(x:Rat):x/0=0:=by simp[Rat.div_def]
theorem ofS_d0(s:Bool)(n:Nat):ofS s n 0=0:=by unfold ofS;simp
theorem cmp_made{x y:Rat}{z3:Int}(hz:sgQ x=sgQ y)(h0:sgQ x≠0)(h3:cmpN (x.num.natAbs*one0 (den0 y)) (y.num.natAbs*one0 (den0 x))=z3):sgQ (x-y)=sgQ x*z3:=by
  have hs:isN x=isN y:=by
    rw[Bool.eq_iff_iff,isN_iff,isN_iff, ←sgQ_neg, ←sgQ_neg,hz]
  rw[cmp_cross hs, ←h3];rw[one0_den0,one0_den0]
  have e1:sgQ x=if isN x then-1 else 1:=by
    unfold sgQ at h0⊢
    split
    · rename_i h;rw[if_pos h]at h0;exact absurd rfl h0
    · rfl
  rw[e1]
  congr 1
  unfold cmpN
  split
  · rfl
  · split
    · rw[if_neg (by omega)]
    · rw[if_pos (by omega)]
theorem cmpN_rng{n m:Nat}{z:Int}(h:cmpN n m=z): -1≤z∧z≤1:=by rw[←h];unfold cmpN;split<;>(try split)<;>omega
theorem int_len{z:Int}(h0: -9223372036854775808≤z)(h1:z≤9223372036854775807):(digs B32 z.natAbs).length≤2:=digs_len_le b32_2 2 _ (by
  have:B32^2=18446744073709551616:=by decide
  omega)
theorem sg_cases{x:Rat}{z:Int}(h:sgQ x=z):z=0∨z= -1∨z=1:=by rw[←h];exact sgQ_range x
theorem quo_ints(a b:Int):ofS (decide (a<0) !=decide (b<0)) a.natAbs b.natAbs=(a:Rat)/(b:Rat):=by
  by_cases hb:b=0
  · subst hb
    unfold ofS;simp[Rat.div_def]
  · have h1:((a:Rat))=ofS (decide (a<0)) a.natAbs 1:=by rw[ofS_one,sgn_of]
    have h2:((b:Rat))=ofS (decide (b<0)) b.natAbs 1:=by rw[ofS_one,sgn_of]
    rw[h1,h2,ofS_quo _ _ (by omega) (by decide),Nat.mul_one,Nat.one_mul]
theorem int_of(a:Int):ofS (decide (a<0)) a.natAbs 1=(a:Rat):=by rw[ofS_one,sgn_of]
theorem RatV.zero(W:World):RatV W (.agg #[.bool false,.slice none 0 0,.slice none 0 0]) 0:=⟨_,_,_,_,_,_,rfl,NatV.zero W,NatV.zero W⟩
set_option maxRecDepth 100000 in
theorem reduced_any(v1:Value)(v2:Value)(s:Bool)(n:Nat)(d:Nat)(w:World)(h1:NatV w v1 n)(h2:NatV w v2 d)(hd0:d≠0)(l1:(digs B32 n).length≤50000)(l2:(digs B32 d).length≤50000):
    Calls Tryz.prog 40 #[.bool s,v1,v2] w fun e w'=> ∃y0,e=.returned y0∧RatV w' y0 (ofS s n d)∧Below w.heap.size w w':=by
  obtain⟨p_h1,l_h1,c_h1,rfl⟩:=h1.sl;obtain⟨p_h2,l_h2,c_h2,rfl⟩:=h2.sl;have hK:=SS.start w;have l3:(digs B32 (Nat.gcd n d)).length≤50000:=dlen_gcd n hd0 l2;refine Calls.hide (fun Q0 hQ0=>?_);go_enter Tryz.func40,Tryz.ntmps40;go_upto_region 0 with(fail);refine wp_region_T [3,3,3] hK ?_;clear hK;refine eA (.cells #[.slice p_h1 l_h1 c_h1] 39) (fun R1=>?_);refine eA (.cells #[.slice p_h2 l_h2 c_h2] 39) (fun R2=>?_);refine eA (.cells #[.bool false,.slice none 0 0,.slice none 0 0] 41) (fun R3=>?_);refine sxEnd (fun W4 hK=>?_);go_upto_region 1 with(fail);refine wp_region_T [1,1,0,1,1,0] hK ?_;clear hK;refine eL m2 ?_;obtain⟨b1,hb1⟩:∃z9:Bool,RowKit.Hid ((n==0)=z9):=⟨_,hid rfl⟩;refine eQ (v:=.bool b1) (fun w k=>isZero_any _ _ w (h1.below k.old)) ?_ (hv:=by rw[hb1.out]);refine e0 ?_
  cases b1
  · --
   refine eL m1 ?_;obtain⟨b2,hb2⟩:∃z9:Bool,RowKit.Hid ((d==1)=z9):=⟨_,hid rfl⟩;refine eQ (v:=.bool b2) (fun w k=>one_any _ _ w (h2.below k.old)) ?_ (hv:=by rw[hb2.out]);refine e0 ?_;refine sxEnd (fun W5 hK=>?_)
   cases b2
   · --
    go_upto_region 3 with(fail);refine wp_region_T [1,1,2,3,4] hK ?_;clear hK;refine eL m2 ?_;refine eL m1 ?_;refine eC (fun w k=>nat_S (gcd_q _ _ _ _ w (h1.below k.old) (h2.below k.old) (by omega) (by omega))) (fun x7=>?_);obtain⟨p6,l6,c6⟩:=x7;dsimp only;refine eA (.cells #[.slice none 0 0] 39) (fun R8=>?_);refine eP 0 0 [.slice p6 l6 c6] ?_;refine sxEnd (fun W9 hK=>?_);go_upto_region 4 with(fail);refine wp_region_T [1,1,0] hK ?_;clear hK;refine eL m0 ?_;obtain⟨b3,hb3⟩:∃z9:Bool,RowKit.Hid (((Nat.gcd n d)==1)=z9):=⟨_,hid rfl⟩;refine eQ (v:=.bool b3) (fun w k=>one_any _ _ w (k.nf m1)) ?_ (hv:=by rw[hb3.out]);refine e0 ?_;refine sxEnd (fun W10 hK=>?_)
    cases b3
    · --
     go_upto_region 5 with(fail);refine wp_region_T [1,1,2,0,0,0,0,4] hK ?_;clear hK;refine eL m4 ?_;refine eL m0 ?_;refine eC (fun w k=>nat2_S (dm_any _ _ _ _ w (h1.below k.old) (k.nf m1) (by omega) (by omega))) (fun x13=>?_);obtain⟨⟨p11,l11,c11⟩,⟨p12,l12,c12⟩⟩:=x13;dsimp only
     iterate 4 refine e0 ?_
     refine eP 6 0 [.slice p11 l11 c11] ?_;refine sxEnd (fun W14 hK=>?_);go_upto_region 6 with(fail);refine wp_region_T [1,1,2,0,0,0,0,4] hK ?_;clear hK;refine eL m5 ?_;refine eL m2 ?_;refine eC (fun w k=>nat2_S (dm_any _ _ _ _ w (h2.below k.old) (k.nf m3) (by omega) (by omega))) (fun x17=>?_);obtain⟨⟨p15,l15,c15⟩,⟨p16,l16,c16⟩⟩:=x17;dsimp only
     iterate 4 refine e0 ?_
     refine eP 7 0 [.slice p15 l15 c15] ?_;refine sxEnd (fun W18 hK=>?_);go_upto_region 7 with(fail);refine wp_region_T [1,1] hK ?_;clear hK;refine eL m7 ?_;obtain⟨b4,hb4⟩:∃z9:Bool,RowKit.Hid (((d/(Nat.gcd n d))==1)=z9):=⟨_,hid rfl⟩;refine eQ (v:=.bool b4) (fun w k=>one_any _ _ w (k.nf m0)) ?_ (hv:=by rw[hb4.out]);refine sxEnd (fun W19 hK=>?_)
     cases b4
     · --
      go_upto_region 9 with(fail);refine wp_region_T [0,1,1,0,4] hK ?_;clear hK;refine e0 ?_;refine eL m8 ?_;refine eL m7 ?_;refine e0 ?_;refine eP 6 0 [.bool s,.slice p11 l11 c11,.slice p15 l15 c15] ?_;refine sxEnd (fun W20 hK=>?_);have⟨c90,c91,c92⟩:=(hK.box m6).c3;go_wp2;exact bodyPost_ret (v:=.agg #[.bool s,.slice p11 l11 c11,.slice p15 l15 c15]) (by simp[results,Tryz.results40,go_sem,c90,c91,c92]) rfl (by obtain rfl:=hQ0.out;exact⟨_,rfl,(RatV.make hd0 (made_b s hb1.out) rfl (made_3 hb4.out) (hK.nf m2) (hK.nf m0)),hK.old⟩)
     · --
      go_upto_region 8 with(fail);refine wp_region_T [0,1,2,4] hK ?_;clear hK;refine e0 ?_;refine eL m8 ?_;refine eC (fun w k=>rat_S (whole_q _ s _ w (k.nf m2))) (fun x22=>?_);obtain⟨⟨p21,l21,c21⟩,⟨q21,u21,d21⟩⟩:=x22;dsimp only;refine eP 7 0 [.bool (isN (ofS s (n/(Nat.gcd n d)) 1)),.slice p21 l21 c21,.slice q21 u21 d21] ?_ (hq:=.inr ⟨rfl,rfl,rfl,rfl,rfl,rfl,rfl,rfl,rfl,trivial⟩);refine sxEnd (fun W23 hK=>?_);have⟨c90,c91,c92⟩:=(hK.box m7).c3;go_wp2;exact bodyPost_ret (v:=.agg #[.bool (isN (ofS s (n/(Nat.gcd n d)) 1)),.slice p21 l21 c21,.slice q21 u21 d21]) (by simp[results,Tryz.results40,go_sem,c90,c91,c92]) rfl (by obtain rfl:=hQ0.out;exact⟨_,rfl,((congrArg (RatV _ _) (ofS_g1 s hd0 hb4.out)).mp (hK.q m0)),hK.old⟩)
    · --
     go_upto_region 7 with(fail);refine wp_region_T [1,1] hK ?_;clear hK;refine eL m3 ?_;obtain⟨b4,hb4⟩:∃z9:Bool,RowKit.Hid ((d==1)=z9):=⟨_,hid rfl⟩;refine eQ (v:=.bool b4) (fun w k=>one_any _ _ w (h2.below k.old)) ?_ (hv:=by rw[hb4.out]);refine sxEnd (fun W24 hK=>?_)
     cases b4
     · --
      go_upto_region 9 with(fail);refine wp_region_T [0,1,1,0,4] hK ?_;clear hK;refine e0 ?_;refine eL m4 ?_;refine eL m3 ?_;refine e0 ?_;refine eP 2 0 [.bool s,.slice p_h1 l_h1 c_h1,.slice p_h2 l_h2 c_h2] ?_;refine sxEnd (fun W25 hK=>?_);have⟨c90,c91,c92⟩:=(hK.box m2).c3;go_wp2;exact bodyPost_ret (v:=.agg #[.bool s,.slice p_h1 l_h1 c_h1,.slice p_h2 l_h2 c_h2]) (by simp[results,Tryz.results40,go_sem,c90,c91,c92]) rfl (by obtain rfl:=hQ0.out;exact⟨_,rfl,(RatV.make hd0 (made_b s hb1.out) (made_1 hb3.out) (made_2 hb3.out hb4.out) (h1.below hK.old) (h2.below hK.old)),hK.old⟩)
     · --
      go_upto_region 8 with(fail);refine wp_region_T [0,1,2,4] hK ?_;clear hK;refine e0 ?_;refine eL m4 ?_;refine eC (fun w k=>rat_S (whole_q _ s _ w (h1.below k.old))) (fun x27=>?_);obtain⟨⟨p26,l26,c26⟩,⟨q26,u26,d26⟩⟩:=x27;dsimp only;refine eP 3 0 [.bool (isN (ofS s n 1)),.slice p26 l26 c26,.slice q26 u26 d26] ?_ (hq:=.inr ⟨rfl,rfl,rfl,rfl,rfl,trivial⟩);refine sxEnd (fun W28 hK=>?_);have⟨c90,c91,c92⟩:=(hK.box m3).c3;go_wp2;exact bodyPost_ret (v:=.agg #[.bool (isN (ofS s n 1)),.slice p26 l26 c26,.slice q26 u26 d26]) (by simp[results,Tryz.results40,go_sem,c90,c91,c92]) rfl (by obtain rfl:=hQ0.out;exact⟨_,rfl,((congrArg (RatV _ _) (ofS_d1 s hb4.out)).mp (hK.q m0)),hK.old⟩)
   · --
    go_upto_region 2 with(fail);refine wp_region_T [0,1,2,4] hK ?_;clear hK;refine e0 ?_;refine eL m2 ?_;refine eC (fun w k=>rat_S (whole_q _ s _ w (h1.below k.old))) (fun x30=>?_);obtain⟨⟨p29,l29,c29⟩,⟨q29,u29,d29⟩⟩:=x30;dsimp only;refine eP 1 0 [.bool (isN (ofS s n 1)),.slice p29 l29 c29,.slice q29 u29 d29] ?_ (hq:=.inr ⟨rfl,rfl,rfl,trivial⟩);refine sxEnd (fun W31 hK=>?_);have⟨c90,c91,c92⟩:=(hK.box m1).c3;go_wp2;exact bodyPost_ret (v:=.agg #[.bool (isN (ofS s n 1)),.slice p29 l29 c29,.slice q29 u29 d29]) (by simp[results,Tryz.results40,go_sem,c90,c91,c92]) rfl (by obtain rfl:=hQ0.out;exact⟨_,rfl,((congrArg (RatV _ _) (ofS_d1 s hb2.out)).mp (hK.q m0)),hK.old⟩)
  · --
   iterate 2 refine eN ?_
   refine e0 ?_;refine sxEnd (fun W32 hK=>?_);go_upto_region 2 with(fail);refine wp_region_T [0,1,2,4] hK ?_;clear hK;refine e0 ?_;refine eL m2 ?_;refine eC (fun w k=>rat_S (whole_q _ s _ w (h1.below k.old))) (fun x34=>?_);obtain⟨⟨p33,l33,c33⟩,⟨q33,u33,d33⟩⟩:=x34;dsimp only;refine eP 1 0 [.bool (isN (ofS s n 1)),.slice p33 l33 c33,.slice q33 u33 d33] ?_ (hq:=.inr ⟨rfl,rfl,rfl,trivial⟩);refine sxEnd (fun W35 hK=>?_);have⟨c90,c91,c92⟩:=(hK.box m1).c3;go_wp2;exact bodyPost_ret (v:=.agg #[.bool (isN (ofS s n 1)),.slice p33 l33 c33,.slice q33 u33 d33]) (by simp[results,Tryz.results40,go_sem,c90,c91,c92]) rfl (by obtain rfl:=hQ0.out;exact⟨_,rfl,((congrArg (RatV _ _) (ofS_n0 s hb1.out)).mp (hK.q m0)),hK.old⟩)
set_option maxRecDepth 100000 in
theorem qof_any (n:Int)(d:Int)(w:World) (n0: -9223372036854775808≤n)(n1:n≤9223372036854775807)(d0: -9223372036854775808≤d)(d1:d≤9223372036854775807):
    Calls Tryz.prog 13 #[.int .i64 n,.int .i64 d] w fun e w'=> ∃y0,e=.returned (.tuple #[y0,.int .i64 (if d=0 then 10 else 0)])∧RatV w' y0 (((n:Int):Rat)/((d:Int):Rat))∧Below w.heap.size w w':=by
  have hK:=SS.start w;have l1:=int_len n0 n1;have l2:=int_len d0 d1;refine Calls.hide (fun Q0 hQ0=>?_);go_enter Tryz.func13,Tryz.ntmps13;go_upto_region 0 with(fail);refine wp_region_T [3,0] hK ?_;clear hK;refine eA (.cells #[.bool false,.slice none 0 0,.slice none 0 0] 41) (fun R1=>?_);refine e0 ?_;refine sxEnd (fun W2 hK=>?_);go_upto_region 1 with(fail);refine wp_region_T [0,0] hK ?_;clear hK;refine e0 ?_;refine eB (d==0) (fun b1 hb1=>?_);refine sxEnd (fun W3 hK=>?_)
  cases b1
  · --
   go_upto_region 3 with(fail);refine wp_region_T [0,2,0,0,0,3,4,0] hK ?_;clear hK;refine e0 ?_;obtain⟨b2,hb2⟩:∃z9:Bool,RowKit.Hid (decide (n<0)=z9):=⟨_,hid rfl⟩;refine eC (fun w k=>(by have q:=nat_S (magnitude_any n w (by omega) (by omega));rw[hb2.out]at q;exact q)) (fun x5=>?_);obtain⟨p4,l4,c4⟩:=x5;dsimp only
   iterate 3 refine e0 ?_
   refine eA (.cells #[.slice none 0 0] 39) (fun R6=>?_);refine eP 0 0 [.slice p4 l4 c4] ?_;refine e0 ?_;refine sxEnd (fun W7 hK=>?_);go_upto_region 4 with(fail);refine wp_region_T [0,2,0,0,0,3,4,0] hK ?_;clear hK;refine e0 ?_;obtain⟨b3,hb3⟩:∃z9:Bool,RowKit.Hid (decide (d<0)=z9):=⟨_,hid rfl⟩;refine eC (fun w k=>(by have q:=nat_S (magnitude_any d w (by omega) (by omega));rw[hb3.out]at q;exact q)) (fun x9=>?_);obtain⟨p8,l8,c8⟩:=x9;dsimp only
   iterate 3 refine e0 ?_
   refine eA (.cells #[.slice none 0 0] 39) (fun R10=>?_);refine eP 0 0 [.slice p8 l8 c8] ?_;refine e0 ?_;refine sxEnd (fun W11 hK=>?_);go_upto_region 5 with(fail);refine wp_region_T [0,0,0,1,1,2,4,0] hK ?_;clear hK
   iterate 3 refine e0 ?_
   refine eL m2 ?_;refine eL m0 ?_;refine eC (fun w k=>rat_S (reduced_any _ _ (b2 !=b3) _ _ w (k.nf m3) (k.nf m1) (by have q:=hb1.out;simp at q;omega) (by omega) (by omega))) (fun x13=>?_);obtain⟨⟨p12,l12,c12⟩,⟨q12,u12,d12⟩⟩:=x13;dsimp only;refine eP 5 0 [.bool (isN (ofS (b2 !=b3) n.natAbs d.natAbs)),.slice p12 l12 c12,.slice q12 u12 d12] ?_ (hq:=.inr ⟨rfl,rfl,rfl,rfl,rfl,trivial⟩);refine e0 ?_;refine sxEnd (fun W14 hK=>?_);have⟨c90,c91,c92⟩:=(hK.box m5).c3;go_wp2;exact bodyPost_ret (v:=.tuple #[.agg #[.bool (isN (ofS (b2 !=b3) n.natAbs d.natAbs)),.slice p12 l12 c12,.slice q12 u12 d12],.int .i64 0]) (by simp[results,Tryz.results13,go_sem,c90,c91,c92]) rfl (by obtain rfl:=hQ0.out;exact⟨_,(by rw[if_neg (by have q:=hb1.out;simpa using q)]),((congrArg (RatV _ _) (by rw[←hb2.out, ←hb3.out];exact quo_ints n d)).mp (hK.q m0)),hK.old⟩)
  · --
   go_upto_region 2 with(fail);refine wp_region_T [0,4,0] hK ?_;clear hK;refine e0 ?_;refine eP 0 0 [.bool false,.slice none 0 0,.slice none 0 0] ?_;refine e0 ?_;refine sxEnd (fun W15 hK=>?_);have⟨c90,c91,c92⟩:=(hK.box m0).c3;go_wp2;exact bodyPost_ret (v:=.tuple #[.agg #[.bool false,.slice none 0 0,.slice none 0 0],.int .i64 10]) (by simp[results,Tryz.results13,go_sem,c90,c91,c92]) rfl (by obtain rfl:=hQ0.out;exact⟨_,(by have q:=hb1.out;simp at q;subst q;rfl),(by have q:=hb1.out;simp at q;subst q;have q:(n:Rat)/((0:Int):Rat)=0:=div_zero' _;rw[q];exact RatV.zero _),hK.old⟩)
set_option maxRecDepth 100000 in
theorem qint_any (n:Int)(w:World) (n0: -9223372036854775808≤n)(n1:n≤9223372036854775807):
    Calls Tryz.prog 16 #[.int .i64 n] w fun e w'=> ∃y0,e=.returned y0∧RatV w' y0 (((n:Int):Rat))∧Below w.heap.size w w':=by
  have hK:=SS.start w;refine Calls.hide (fun Q0 hQ0=>?_);go_enter Tryz.func16,Tryz.ntmps16;go_upto_region 0 with(fail);refine wp_region_T [3] hK ?_;clear hK;refine eA (.cells #[.bool false,.slice none 0 0,.slice none 0 0] 41) (fun R1=>?_);refine sxEnd (fun W2 hK=>?_);go_upto_region 1 with(fail);refine wp_region_T [0,2,0,0,0,3,4,0] hK ?_;clear hK;refine e0 ?_;obtain⟨b1,hb1⟩:∃z9:Bool,RowKit.Hid (decide (n<0)=z9):=⟨_,hid rfl⟩;refine eC (fun w k=>(by have q:=nat_S (magnitude_any n w (by omega) (by omega));rw[hb1.out]at q;exact q)) (fun x4=>?_);obtain⟨p3,l3,c3⟩:=x4;dsimp only
  iterate 3 refine e0 ?_
  refine eA (.cells #[.slice none 0 0] 39) (fun R5=>?_);refine eP 0 0 [.slice p3 l3 c3] ?_;refine e0 ?_;refine sxEnd (fun W6 hK=>?_);go_upto_region 2 with(fail);refine wp_region_T [0,1,2,4] hK ?_;clear hK;refine e0 ?_;refine eL m0 ?_;refine eC (fun w k=>rat_S (whole_q _ b1 _ w (k.nf m1))) (fun x8=>?_);obtain⟨⟨p7,l7,c7⟩,⟨q7,u7,d7⟩⟩:=x8;dsimp only;refine eP 3 0 [.bool (isN (ofS b1 n.natAbs 1)),.slice p7 l7 c7,.slice q7 u7 d7] ?_ (hq:=.inr ⟨rfl,rfl,rfl,trivial⟩);refine sxEnd (fun W9 hK=>?_);have⟨c90,c91,c92⟩:=(hK.box m3).c3;go_wp2;exact bodyPost_ret (v:=.agg #[.bool (isN (ofS b1 n.natAbs 1)),.slice p7 l7 c7,.slice q7 u7 d7]) (by simp[results,Tryz.results16,go_sem,c90,c91,c92]) rfl (by obtain rfl:=hQ0.out;exact⟨_,rfl,((congrArg (RatV _ _) (by rw[←hb1.out];exact int_of n)).mp (hK.q m0)),hK.old⟩)
set_option maxRecDepth 100000 in
theorem qadd_any(v0:Value)(v1:Value)(x:Rat)(y:Rat)(w:World)(h0:RatV w v0 x)(h1:RatV w v1 y) {k:Nat}(hx:LmQ k x)(hy:LmQ k y)(hk:k≤10000):
    Calls Tryz.prog 25 #[v0,v1] w fun e w'=> ∃y0,e=.returned y0∧RatV w' y0 (x+y)∧Below w.heap.size w w':=by
  have h0_0:=h0;obtain⟨p_h0,l_h0,c_h0,q_h0,m_h0,d_h0,rfl,h0_1,h0_2⟩:=h0;have h1_0:=h1;obtain⟨p_h1,l_h1,c_h1,q_h1,m_h1,d_h1,rfl,h1_1,h1_2⟩:=h1;have hK:=SS.start w;have e1:=hx.n.len;have e2:=hy.n.len;have e3:=hx.d0.len;have e4:=hy.d0.len;have e5:(digs B32 (x.num.natAbs*one0 (den0 y))).length≤k+k:=by rw[one0_den0];exact(hx.n.mul hy.d).len
  have e6:(digs B32 (y.num.natAbs*one0 (den0 x))).length≤k+k:=by rw[one0_den0];exact(hy.n.mul hx.d).len
  have e8:(digs B32 (x.den*one0 (den0 y))).length≤k+k:=by rw[one0_den0];exact(hx.d.mul hy.d).len
  have e9:x.den*one0 (den0 y)≠0:=by rw[one0_den0];exact Nat.mul_ne_zero x.den_nz y.den_nz
  have e7:(digs B32 (sgnd (isN x) (x.num.natAbs*one0 (den0 y)) (isN y) (y.num.natAbs*one0 (den0 x))).2).length≤k+k+1:=Lm.len (sgnd_lm (by rw[one0_den0];exact hx.n.mul hy.d) (by rw[one0_den0];exact hy.n.mul hx.d));have e12:(digs B32 (x.num.natAbs*y.num.natAbs)).length≤k+k:=(hx.n.mul hy.n).len;have e10:=hx.d.len;have e11:=hy.d.len;refine Calls.hide (fun Q0 hQ0=>?_);go_enter Tryz.func25,Tryz.ntmps25;go_upto_region 0 with(fail);refine wp_region_T [3,3,3] hK ?_;clear hK;refine eA (.cells #[.bool (isN x),.slice p_h0 l_h0 c_h0,.slice q_h0 m_h0 d_h0] 41) (fun R1=>?_);refine eA (.cells #[.bool (isN y),.slice p_h1 l_h1 c_h1,.slice q_h1 m_h1 d_h1] 41) (fun R2=>?_);refine eA (.cells #[.bool false,.slice none 0 0,.slice none 0 0] 41) (fun R3=>?_);refine sxEnd (fun W4 hK=>?_);go_upto_region 1 with(fail);refine wp_region_T [1,1,0] hK ?_;clear hK;refine eL m2 ?_;obtain⟨z1,hz1⟩:∃z9:Int,RowKit.Hid (sgQ x=z9):=⟨_,hid rfl⟩;refine eQ (v:=.int .i64 z1) (fun w k=>sign_any _ _ w (h0_0.below k.old)) ?_ (hv:=by rw[hz1.out]);refine eB (z1==0) (fun b1 hb1=>?_);refine sxEnd (fun W5 hK=>?_)
  cases b1
  · --
   go_upto_region 3 with(fail);refine wp_region_T [1,1,0] hK ?_;clear hK;refine eL m1 ?_;obtain⟨z2,hz2⟩:∃z9:Int,RowKit.Hid (sgQ y=z9):=⟨_,hid rfl⟩;refine eQ (v:=.int .i64 z2) (fun w k=>sign_any _ _ w (h1_0.below k.old)) ?_ (hv:=by rw[hz2.out]);refine eB (z2==0) (fun b2 hb2=>?_);refine sxEnd (fun W6 hK=>?_)
   cases b2
   · --
    go_upto_region 5 with(fail);refine wp_region_S _ [0,0,0,0,0,0,2,0,0,0,0,0,0,2,2,0,0,0,3,0,4] hK ?_ (List.Sublist.refl _);clear hK;refine e0 ?_;refine eL0 m2 ?_;refine e0 ?_;refine eL0 m2 ?_;refine e0 ?_;refine eL0 m1 ?_;refine eC (fun w k=>nat_S (qtimes_any _ _ _ _ w (h0_1.below k.old) (h1_2.below k.old) (by omega))) (fun x8=>?_);obtain⟨p7,l7,c7⟩:=x8;dsimp only;refine e0 ?_;refine eL0 m1 ?_;refine e0 ?_;refine eL0 m1 ?_;refine e0 ?_;refine eL0 m2 ?_;refine eC (fun w k=>nat_S (qtimes_any _ _ _ _ w (h1_1.below k.old) (h0_2.below k.old) (by omega))) (fun x10=>?_);obtain⟨p9,l9,c9⟩:=x10;dsimp only;obtain⟨b3,hb3⟩:∃z9:Bool,RowKit.Hid ((sgnd (isN x) (x.num.natAbs*one0 (den0 y)) (isN y) (y.num.natAbs*one0 (den0 x))).1=z9):=⟨_,hid rfl⟩;refine eC (fun w k=>(by have q:=nat_S (signed_any _ _ (isN x) _ (isN y) _ w (k.nf m1) (k.nf m0) (by omega) (by omega));rw[hb3.out]at q;exact q)) (fun x12=>?_);obtain⟨p11,l11,c11⟩:=x12;dsimp only
    iterate 3 refine e0 ?_
    refine eA (.cells #[.slice none 0 0] 39) (fun R13=>?_);refine e0 ?_;refine eP 0 0 [.slice p11 l11 c11] ?_ (hs:=(sC2 (sC2 (sC2 (sC2 (List.Sublist.refl _))))));refine sxEnd (fun W14 hK=>?_);go_upto_region 6 with(fail);refine wp_region_T [0,1,1,0,0,1,1,0] hK ?_;clear hK;refine e0 ?_;refine eL m6 ?_;obtain⟨b4,hb4⟩:∃z9:Bool,RowKit.Hid (((den0 x)==0)=z9):=⟨_,hid rfl⟩;refine eQ (v:=.bool b4) (fun w k=>isZero_any _ _ w (h0_2.below k.old)) ?_ (hv:=by rw[hb4.out]);refine e0 ?_
    cases b4
    · --
     iterate 3 refine eN ?_
     refine e0 ?_;refine sxEnd (fun W15 hK=>?_);go_upto_region 8 with(fail);refine wp_region_S _ [0,0,0,2,0,0,2,2,4] hK ?_ (sK2 (sK2 (sK2 (sK2 (sC2 (List.Sublist.refl _))))));clear hK;refine e0 ?_;refine eL0 m0 ?_;refine eL0 m5 ?_;refine eC (fun w k=>nat_S (den_any _ _ w (h0_0.below k.old))) (fun x17=>?_);obtain⟨p16,l16,c16⟩:=x17;dsimp only;refine e0 ?_;refine eL0 m4 ?_;refine eC (fun w k=>nat_S (qtimes_any _ _ _ _ w (k.nf m0) (h1_2.below k.old) (by omega))) (fun x19=>?_);obtain⟨p18,l18,c18⟩:=x19;dsimp only;refine eC (fun w k=>rat_S (reduced_any _ _ b3 _ _ w (k.nf m3) (k.nf m0) (by omega) (by omega) (by omega))) (fun x21=>?_);obtain⟨⟨p20,l20,c20⟩,⟨q20,u20,d20⟩⟩:=x21;dsimp only;refine eP 7 0 [.bool (isN (ofS b3 ((sgnd (isN x) (x.num.natAbs*one0 (den0 y)) (isN y) (y.num.natAbs*one0 (den0 x))).2) (x.den*one0 (den0 y)))),.slice p20 l20 c20,.slice q20 u20 d20] ?_ (hs:=(sC2 (sC2 (sC2 (sK2 (sK2 (sK2 (sK2 (sC2 (List.Sublist.refl _)))))))))) (hq:=.inr ⟨rfl,rfl,rfl,rfl,rfl,rfl,rfl,rfl,rfl,trivial⟩);refine sxEnd (fun W22 hK=>?_);have⟨c90,c91,c92⟩:=(hK.box m7).c3;go_wp2;exact bodyPost_ret (v:=.agg #[.bool (isN (ofS b3 ((sgnd (isN x) (x.num.natAbs*one0 (den0 y)) (isN y) (y.num.natAbs*one0 (den0 x))).2) (x.den*one0 (den0 y)))),.slice p20 l20 c20,.slice q20 u20 d20]) (by simp[results,Tryz.results25,go_sem,c90,c91,c92]) rfl (by obtain rfl:=hQ0.out;exact⟨_,rfl,((congrArg (RatV _ _) (add_made x y hb3.out)).mp (hK.q m0)),hK.old⟩)
    · --
     refine e0 ?_;refine eL m5 ?_;obtain⟨b5,hb5⟩:∃z9:Bool,RowKit.Hid (((den0 y)==0)=z9):=⟨_,hid rfl⟩;refine eQ (v:=.bool b5) (fun w k=>isZero_any _ _ w (h1_2.below k.old)) ?_ (hv:=by rw[hb5.out]);refine e0 ?_;refine sxEnd (fun W23 hK=>?_)
     cases b5
     · --
      go_upto_region 8 with(fail);refine wp_region_S _ [0,0,0,2,0,0,2,2,4] hK ?_ (sK2 (sK2 (sK2 (sK2 (sC2 (List.Sublist.refl _))))));clear hK;refine e0 ?_;refine eL0 m0 ?_;refine eL0 m5 ?_;refine eC (fun w k=>nat_S (den_any _ _ w (h0_0.below k.old))) (fun x25=>?_);obtain⟨p24,l24,c24⟩:=x25;dsimp only;refine e0 ?_;refine eL0 m4 ?_;refine eC (fun w k=>nat_S (qtimes_any _ _ _ _ w (k.nf m0) (h1_2.below k.old) (by omega))) (fun x27=>?_);obtain⟨p26,l26,c26⟩:=x27;dsimp only;refine eC (fun w k=>rat_S (reduced_any _ _ b3 _ _ w (k.nf m3) (k.nf m0) (by omega) (by omega) (by omega))) (fun x29=>?_);obtain⟨⟨p28,l28,c28⟩,⟨q28,u28,d28⟩⟩:=x29;dsimp only;refine eP 7 0 [.bool (isN (ofS b3 ((sgnd (isN x) (x.num.natAbs*one0 (den0 y)) (isN y) (y.num.natAbs*one0 (den0 x))).2) (x.den*one0 (den0 y)))),.slice p28 l28 c28,.slice q28 u28 d28] ?_ (hs:=(sC2 (sC2 (sC2 (sK2 (sK2 (sK2 (sK2 (sC2 (List.Sublist.refl _)))))))))) (hq:=.inr ⟨rfl,rfl,rfl,rfl,rfl,rfl,rfl,rfl,rfl,trivial⟩);refine sxEnd (fun W30 hK=>?_);have⟨c90,c91,c92⟩:=(hK.box m7).c3;go_wp2;exact bodyPost_ret (v:=.agg #[.bool (isN (ofS b3 ((sgnd (isN x) (x.num.natAbs*one0 (den0 y)) (isN y) (y.num.natAbs*one0 (den0 x))).2) (x.den*one0 (den0 y)))),.slice p28 l28 c28,.slice q28 u28 d28]) (by simp[results,Tryz.results25,go_sem,c90,c91,c92]) rfl (by obtain rfl:=hQ0.out;exact⟨_,rfl,((congrArg (RatV _ _) (add_made x y hb3.out)).mp (hK.q m0)),hK.old⟩)
     · --
      go_upto_region 7 with(fail);refine wp_region_T [0,1,2,4] hK ?_;clear hK;refine e0 ?_;refine eL m0 ?_;refine eC (fun w k=>rat_S (whole_q _ b3 _ w (k.nf m1))) (fun x32=>?_);obtain⟨⟨p31,l31,c31⟩,⟨q31,u31,d31⟩⟩:=x32;dsimp only;refine eP 5 0 [.bool (isN (ofS b3 ((sgnd (isN x) (x.num.natAbs*one0 (den0 y)) (isN y) (y.num.natAbs*one0 (den0 x))).2) 1)),.slice p31 l31 c31,.slice q31 u31 d31] ?_ (hq:=.inr ⟨rfl,rfl,rfl,rfl,rfl,rfl,rfl,trivial⟩);refine sxEnd (fun W33 hK=>?_);have⟨c90,c91,c92⟩:=(hK.box m5).c3;go_wp2;exact bodyPost_ret (v:=.agg #[.bool (isN (ofS b3 ((sgnd (isN x) (x.num.natAbs*one0 (den0 y)) (isN y) (y.num.natAbs*one0 (den0 x))).2) 1)),.slice p31 l31 c31,.slice q31 u31 d31]) (by simp[results,Tryz.results25,go_sem,c90,c91,c92]) rfl (by obtain rfl:=hQ0.out;exact⟨_,rfl,((congrArg (RatV _ _) (add_whole x y hb3.out hb4.out hb5.out)).mp (hK.q m0)),hK.old⟩)
   · --
    go_upto_region 4 with(fail);refine wp_region_T [1,4] hK ?_;clear hK;refine eL m2 ?_;refine eP 0 0 [.bool (isN x),.slice p_h0 l_h0 c_h0,.slice q_h0 m_h0 d_h0] ?_;refine sxEnd (fun W34 hK=>?_);have⟨c90,c91,c92⟩:=(hK.box m0).c3;go_wp2;exact bodyPost_ret (v:=.agg #[.bool (isN x),.slice p_h0 l_h0 c_h0,.slice q_h0 m_h0 d_h0]) (by simp[results,Tryz.results25,go_sem,c90,c91,c92]) rfl (by obtain rfl:=hQ0.out;exact⟨_,rfl,((congrArg (RatV _ _) (by rw[(sgQ_zero.1 (hz2.out.trans (by simpa using hb2.out))),Rat.add_zero])).mp (h0_0.below hK.old)),hK.old⟩)
  · --
   go_upto_region 2 with(fail);refine wp_region_T [1,4] hK ?_;clear hK;refine eL m1 ?_;refine eP 0 0 [.bool (isN y),.slice p_h1 l_h1 c_h1,.slice q_h1 m_h1 d_h1] ?_;refine sxEnd (fun W35 hK=>?_);have⟨c90,c91,c92⟩:=(hK.box m0).c3;go_wp2;exact bodyPost_ret (v:=.agg #[.bool (isN y),.slice p_h1 l_h1 c_h1,.slice q_h1 m_h1 d_h1]) (by simp[results,Tryz.results25,go_sem,c90,c91,c92]) rfl (by obtain rfl:=hQ0.out;exact⟨_,rfl,((congrArg (RatV _ _) (by rw[(sgQ_zero.1 (hz1.out.trans (by simpa using hb1.out))),Rat.zero_add])).mp (h1_0.below hK.old)),hK.old⟩)
set_option maxRecDepth 100000 in
theorem qdiv_any(v0:Value)(v1:Value)(x:Rat)(y:Rat)(w:World)(h0:RatV w v0 x)(h1:RatV w v1 y) {k:Nat}(hx:LmQ k x)(hy:LmQ k y)(hk:k≤10000):
    Calls Tryz.prog 23 #[v0,v1] w fun e w'=> ∃y0,e=.returned (.tuple #[y0,.int .i64 (if y=0 then 10 else 0)])∧RatV w' y0 (x/y)∧Below w.heap.size w w':=by
  have h0_0:=h0;obtain⟨p_h0,l_h0,c_h0,q_h0,m_h0,d_h0,rfl,h0_1,h0_2⟩:=h0;have h1_0:=h1;obtain⟨p_h1,l_h1,c_h1,q_h1,m_h1,d_h1,rfl,h1_1,h1_2⟩:=h1;have hK:=SS.start w;have e1:=hx.n.len;have e2:=hy.n.len;have e3:=hx.d0.len;have e4:=hy.d0.len;have e5:(digs B32 (x.num.natAbs*one0 (den0 y))).length≤k+k:=by rw[one0_den0];exact(hx.n.mul hy.d).len
  have e6:(digs B32 (y.num.natAbs*one0 (den0 x))).length≤k+k:=by rw[one0_den0];exact(hy.n.mul hx.d).len
  have e8:(digs B32 (x.den*one0 (den0 y))).length≤k+k:=by rw[one0_den0];exact(hx.d.mul hy.d).len
  have e9:x.den*one0 (den0 y)≠0:=by rw[one0_den0];exact Nat.mul_ne_zero x.den_nz y.den_nz
  have e7:(digs B32 (sgnd (isN x) (x.num.natAbs*one0 (den0 y)) (isN y) (y.num.natAbs*one0 (den0 x))).2).length≤k+k+1:=Lm.len (sgnd_lm (by rw[one0_den0];exact hx.n.mul hy.d) (by rw[one0_den0];exact hy.n.mul hx.d));have e12:(digs B32 (x.num.natAbs*y.num.natAbs)).length≤k+k:=(hx.n.mul hy.n).len;have e10:=hx.d.len;have e11:=hy.d.len;refine Calls.hide (fun Q0 hQ0=>?_);go_enter Tryz.func23,Tryz.ntmps23;go_upto_region 0 with(fail);refine wp_region_T [3,3,3,0] hK ?_;clear hK;refine eA (.cells #[.bool (isN x),.slice p_h0 l_h0 c_h0,.slice q_h0 m_h0 d_h0] 41) (fun R1=>?_);refine eA (.cells #[.bool (isN y),.slice p_h1 l_h1 c_h1,.slice q_h1 m_h1 d_h1] 41) (fun R2=>?_);refine eA (.cells #[.bool false,.slice none 0 0,.slice none 0 0] 41) (fun R3=>?_);refine e0 ?_;refine sxEnd (fun W4 hK=>?_);go_upto_region 1 with(fail);refine wp_region_T [1,1,0] hK ?_;clear hK;refine eL m1 ?_;obtain⟨z1,hz1⟩:∃z9:Int,RowKit.Hid (sgQ y=z9):=⟨_,hid rfl⟩;refine eQ (v:=.int .i64 z1) (fun w k=>sign_any _ _ w (h1_0.below k.old)) ?_ (hv:=by rw[hz1.out]);refine eB (z1==0) (fun b1 hb1=>?_);refine sxEnd (fun W5 hK=>?_)
  cases b1
  · --
   go_upto_region 3 with(fail);refine wp_region_S _ [0,0,0,0,0,0,0,0,0,2,0,0,0,0,2,2,4,0] hK ?_ (sC2 (List.Sublist.refl _));clear hK;refine e0 ?_;refine eL0 m1 ?_;refine e0 ?_;refine eL0 m0 ?_
   iterate 2 refine e0 ?_
   refine eL0 m1 ?_;refine e0 ?_;refine eL0 m0 ?_;refine eC (fun w k=>nat_S (qtimes_any _ _ _ _ w (h0_1.below k.old) (h1_2.below k.old) (by omega))) (fun x7=>?_);obtain⟨p6,l6,c6⟩:=x7;dsimp only;refine e0 ?_;refine eL0 m0 ?_;refine e0 ?_;refine eL0 m1 ?_;refine eC (fun w k=>nat_S (qtimes_any _ _ _ _ w (h1_1.below k.old) (h0_2.below k.old) (by omega))) (fun x9=>?_);obtain⟨p8,l8,c8⟩:=x9;dsimp only;refine eC (fun w k=>rat_S (reduced_any _ _ (((isN x)) !=((isN y))) _ _ w (k.nf m1) (k.nf m0) (Nat.mul_ne_zero (fun e=>absurd ((natAbs_zero y).1 e) (fun e=>by have q:=hb1.out;rw[←hz1.out,sgQ_zero.2 e]at q;cases q)) (by rw[one0_den0];exact x.den_nz)) (by omega) (by omega))) (fun x11=>?_);obtain⟨⟨p10,l10,c10⟩,⟨q10,u10,d10⟩⟩:=x11;dsimp only;refine eP 3 0 [.bool (isN (ofS (((isN x)) !=((isN y))) (x.num.natAbs*one0 (den0 y)) (y.num.natAbs*one0 (den0 x)))),.slice p10 l10 c10,.slice q10 u10 d10] ?_ (hs:=(sC2 (sC2 (sC2 (sC2 (List.Sublist.refl _)))))) (hq:=.inr ⟨rfl,rfl,rfl,rfl,rfl,trivial⟩);refine e0 ?_;refine sxEnd (fun W12 hK=>?_);have⟨c90,c91,c92⟩:=(hK.box m3).c3;go_wp2;exact bodyPost_ret (v:=.tuple #[.agg #[.bool (isN (ofS (((isN x)) !=((isN y))) (x.num.natAbs*one0 (den0 y)) (y.num.natAbs*one0 (den0 x)))),.slice p10 l10 c10,.slice q10 u10 d10],.int .i64 0]) (by simp[results,Tryz.results23,go_sem,c90,c91,c92]) rfl (by obtain rfl:=hQ0.out;exact⟨_,(by rw[if_neg (fun e=>by have q:=hb1.out;rw[←hz1.out,sgQ_zero.2 e]at q;cases q)]),((congrArg (RatV _ _) (div_made x (fun e=>by have q:=hb1.out;rw[←hz1.out,sgQ_zero.2 e]at q;cases q))).mp (hK.q m0)),hK.old⟩)
  · --
   go_upto_region 2 with(fail);refine wp_region_T [0,4,0] hK ?_;clear hK;refine e0 ?_;refine eP 0 0 [.bool false,.slice none 0 0,.slice none 0 0] ?_;refine e0 ?_;refine sxEnd (fun W13 hK=>?_);have⟨c90,c91,c92⟩:=(hK.box m0).c3;go_wp2;exact bodyPost_ret (v:=.tuple #[.agg #[.bool false,.slice none 0 0,.slice none 0 0],.int .i64 10]) (by simp[results,Tryz.results23,go_sem,c90,c91,c92]) rfl (by obtain rfl:=hQ0.out;exact⟨_,(by rw[if_pos (sgQ_zero.1 (hz1.out.trans (by simpa using hb1.out)))]),(by rw[(sgQ_zero.1 (hz1.out.trans (by simpa using hb1.out))),div_zero'];exact RatV.zero _),hK.old⟩)
set_option maxRecDepth 100000 in
theorem qcmp_any(v0:Value)(v1:Value)(x:Rat)(y:Rat)(w:World)(h0:RatV w v0 x)(h1:RatV w v1 y) {k:Nat}(hx:LmQ k x)(hy:LmQ k y)(hk:k≤10000):
    Calls Tryz.prog 15 #[v0,v1] w fun e w'=>e=.returned (.int .i64 (sgQ (x-y)))∧Below w.heap.size w w':=by
  have h0_0:=h0;obtain⟨p_h0,l_h0,c_h0,q_h0,m_h0,d_h0,rfl,h0_1,h0_2⟩:=h0;have h1_0:=h1;obtain⟨p_h1,l_h1,c_h1,q_h1,m_h1,d_h1,rfl,h1_1,h1_2⟩:=h1;have hK:=SS.start w;have e1:=hx.n.len;have e2:=hy.n.len;have e3:=hx.d0.len;have e4:=hy.d0.len;have e5:(digs B32 (x.num.natAbs*one0 (den0 y))).length≤k+k:=by rw[one0_den0];exact(hx.n.mul hy.d).len
  have e6:(digs B32 (y.num.natAbs*one0 (den0 x))).length≤k+k:=by rw[one0_den0];exact(hy.n.mul hx.d).len
  have e8:(digs B32 (x.den*one0 (den0 y))).length≤k+k:=by rw[one0_den0];exact(hx.d.mul hy.d).len
  have e9:x.den*one0 (den0 y)≠0:=by rw[one0_den0];exact Nat.mul_ne_zero x.den_nz y.den_nz
  have e7:(digs B32 (sgnd (isN x) (x.num.natAbs*one0 (den0 y)) (isN y) (y.num.natAbs*one0 (den0 x))).2).length≤k+k+1:=Lm.len (sgnd_lm (by rw[one0_den0];exact hx.n.mul hy.d) (by rw[one0_den0];exact hy.n.mul hx.d));have e12:(digs B32 (x.num.natAbs*y.num.natAbs)).length≤k+k:=(hx.n.mul hy.n).len;have e10:=hx.d.len;have e11:=hy.d.len;refine Calls.hide (fun Q0 hQ0=>?_);go_enter Tryz.func15,Tryz.ntmps15;go_upto_region 0 with(fail);refine wp_region_T [3,3,0] hK ?_;clear hK;refine eA (.cells #[.bool (isN x),.slice p_h0 l_h0 c_h0,.slice q_h0 m_h0 d_h0] 41) (fun R1=>?_);refine eA (.cells #[.bool (isN y),.slice p_h1 l_h1 c_h1,.slice q_h1 m_h1 d_h1] 41) (fun R2=>?_);refine e0 ?_;refine sxEnd (fun W3 hK=>?_);go_upto_region 1 with(fail);refine wp_region_S _ [0,1,0,1,0,0] hK ?_ (List.Sublist.refl _);clear hK;refine eL0 m1 ?_;obtain⟨z1,hz1⟩:∃z9:Int,RowKit.Hid (sgQ x=z9):=⟨_,hid rfl⟩;refine eQ (v:=.int .i64 z1) (fun w k=>sign_any _ _ w (h0_0.below k.old)) ?_ (hv:=by rw[hz1.out]);refine eL0 m0 ?_;obtain⟨z2,hz2⟩:∃z9:Int,RowKit.Hid (sgQ y=z9):=⟨_,hid rfl⟩;refine eQ (v:=.int .i64 z2) (fun w k=>sign_any _ _ w (h1_0.below k.old)) ?_ (hv:=by rw[hz2.out])
  iterate 2 refine e0 ?_
  refine sxEnd (fun W4 hK=>?_);go_upto_region 2 with(fail);refine wp_region_T [0,0,0] hK ?_;clear hK
  iterate 2 refine e0 ?_
  refine eB (z1 !=z2) (fun b1 hb1=>?_);refine sxEnd (fun W5 hK=>?_)
  cases b1
  · --
   go_upto_region 6 with(fail);refine wp_region_T [0,0] hK ?_;clear hK;refine e0 ?_;refine eB (z1==0) (fun b2 hb2=>?_);refine sxEnd (fun W6 hK=>?_)
   cases b2
   · --
    go_upto_region 8 with(fail);refine wp_region_S _ [0,0,0,0,0,2,0,0,0,0,2,1,0,0] hK ?_ (List.Sublist.refl _);clear hK
    iterate 2 refine e0 ?_
    refine eL0 m1 ?_;refine e0 ?_;refine eL0 m0 ?_;refine eC (fun w k=>nat_S (qtimes_any _ _ _ _ w (h0_1.below k.old) (h1_2.below k.old) (by omega))) (fun x8=>?_);obtain⟨p7,l7,c7⟩:=x8;dsimp only;refine e0 ?_;refine eL0 m0 ?_;refine e0 ?_;refine eL0 m1 ?_;refine eC (fun w k=>nat_S (qtimes_any _ _ _ _ w (h1_1.below k.old) (h0_2.below k.old) (by omega))) (fun x10=>?_);obtain⟨p9,l9,c9⟩:=x10;dsimp only;obtain⟨z3,hz3⟩:∃z9:Int,RowKit.Hid (cmpN (x.num.natAbs*one0 (den0 y)) (y.num.natAbs*one0 (den0 x))=z9):=⟨_,hid rfl⟩;refine eQ (v:=.int .i64 z3) (fun w k=>cmp_any _ _ _ _ w (k.nf m1) (k.nf m0) (by omega) (by omega)) ?_ (hv:=by rw[hz3.out]);refine eV (.int .i64 (sgQ (x-y))) (fun w'=>by go_simp;(try go_bits);have q3:=(cmpN_rng hz3.out).1;have q4:=(cmpN_rng hz3.out).2;have q5:=(by have q:=hb1.out;simp at q;exact q);exact⟨congrArg _ (by rw[cmp_made (by rw[hz1.out,hz2.out,q5]) (by rw[hz1.out];have q:=hb2.out;simpa using q) hz3.out,hz1.out];rcases sg_cases hz1.out with e|e|e<;>rw[e]<;>unfold wrap64<;>omega),rfl⟩) ?_;refine e0 ?_;refine sxEnd (fun W11 hK=>?_);go_wp2
    try go_ret
    show Q0 (.returned (.int .i64 (sgQ (x-y)))) _
    exact(by obtain rfl:=hQ0.out;exact⟨rfl,hK.old⟩)
   · --
    go_wp2
    try go_ret
    show Q0 (.returned (.int .i64 0)) _
    exact(by obtain rfl:=hQ0.out;exact⟨(by have q:=(by have q:=hb1.out;simp at q;exact q);have q2:=hb2.out;simp at q2;rw[sgQ_zero.1 (hz1.out.trans q2),sgQ_zero.1 (hz2.out.trans (q▸q2)),Rat.sub_self,sgQ_zero.2 rfl]),hK.old⟩)
  · --
   go_upto_region 3 with(fail);refine wp_region_T [0,0,0] hK ?_;clear hK
   iterate 2 refine e0 ?_
   refine eB (decide (z1<z2)) (fun b2 hb2=>?_);refine sxEnd (fun W12 hK=>?_)
   cases b2
   · --
    have q_b2:z2≤z1:=Int.not_lt.1 (of_decide_eq_false hb2.out);go_wp2
    try go_ret
    show Q0 (.returned (.int .i64 1)) _
    exact(by obtain rfl:=hQ0.out;exact⟨(by rw[cmp_signs_gt (by rw[hz1.out,hz2.out];have q:=hb1.out;simp at q;omega)]),hK.old⟩)
   · --
    have q_b2:z1<z2:=of_decide_eq_true hb2.out;go_wp2
    try go_ret
    show Q0 (.returned (.int .i64 (-1))) _
    exact(by obtain rfl:=hQ0.out;exact⟨(by rw[cmp_signs_lt (by rw[hz1.out,hz2.out];exact q_b2)]),hK.old⟩)
end Go.Proofs.YtlhbcopaakejgaaGreatDoor
