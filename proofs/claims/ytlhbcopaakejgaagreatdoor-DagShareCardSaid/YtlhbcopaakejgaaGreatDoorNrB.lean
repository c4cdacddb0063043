/- Rational numbers of the program: signs, denominators, signed sums. -/

import Derived.Test.YtlhbcopaakejgaaGreatDoorRatA
import Derived.Test.YtlhbcopaakejgaaGreatDoorSnQ
import Derived.Test.YtlhbcopaakejgaaGreatDoorNrD
namespace Go.Proofs.YtlhbcopaakejgaaGreatDoor
open Go.RowKit
open Go.Lib (decDigits)
def sgnd(s:Bool)(n:Nat)(t:Bool)(m:Nat):Bool × Nat:=if s=t then(s,n+m)else if m≤n then(s,n-m)else(t,m-n)
theorem sgnd_eq(s:Bool)(n:Nat)(t:Bool)(m:Nat):sgn (sgnd s n t m).1 (sgnd s n t m).2=sgn s n+sgn t m:=by
  unfold sgnd sgn
  cases s<;>cases t<;>simp<;>first|omega|(split<;>simp<;>omega)
theorem whole_t{W:World}{p:Option Addr}{l c n:Nat}{s b:Bool}(hb:b=(s&&decide (n≠0)))(h:NatV W (.agg #[.slice p l c]) n):RatV W (.agg #[.bool b,.slice p l c,.slice none 0 0]) (ofS s n 1):=
  RatV.make (by decide) hb (by simp) (by simp) h (NatV.zero W)
set_option maxRecDepth 100000 in
theorem whole_q(v1:Value)(s:Bool)(n:Nat)(w:World)(h1:NatV w v1 n):
    Calls Tryz.prog 43 #[.bool s,v1] w fun e w'=> ∃y0,e=.returned y0∧RatV w' y0 (ofS s n 1)∧Below w.heap.size w w':=by
  obtain⟨p_h1,l_h1,c_h1,rfl⟩:=h1.sl;have hK:=SS.start w;refine Calls.hide (fun Q0 hQ0=>?_);go_enter Tryz.func43,Tryz.ntmps43;go_upto_region 0 with(fail);refine wp_region_T [3,3] hK ?_;clear hK;refine eA (.cells #[.slice p_h1 l_h1 c_h1] 39) (fun R1=>?_);refine eA (.cells #[.bool false,.slice none 0 0,.slice none 0 0] 41) (fun R2=>?_);refine sxEnd (fun W3 hK=>?_);go_upto_region 1 with(fail);refine wp_region_S _ [0,0,0,1,0,0,0,0,4] hK ?_ (sC2 (List.Sublist.refl _));clear hK
  iterate 2 refine e0 ?_
  cases s
  · --
   iterate 3 refine eN ?_
   refine e0 ?_;refine eL0 m0 ?_;refine e0 ?_;refine eP 0 0 [.bool false,.slice p_h1 l_h1 c_h1,.slice none 0 0] ?_ (hs:=(sC2 (List.Sublist.refl _)));refine sxEnd (fun W4 hK=>?_);have⟨c90,c91,c92⟩:=(hK.box m0).c3;go_wp2;exact bodyPost_ret (v:=.agg #[.bool false,.slice p_h1 l_h1 c_h1,.slice none 0 0]) (by simp[results,Tryz.results43,go_sem,c90,c91,c92]) rfl (by obtain rfl:=hQ0.out;exact⟨_,rfl,(whole_t rfl (h1.below hK.old)),hK.old⟩)
  · --
   refine eL0 m0 ?_;obtain⟨b1,hb1⟩:∃z9:Bool,RowKit.Hid ((n==0)=z9):=⟨_,hid rfl⟩;refine eQ (v:=.bool b1) (fun w k=>isZero_any _ _ w (h1.below k.old)) ?_ (hv:=by rw[hb1.out])
   iterate 2 refine e0 ?_
   refine eL0 m0 ?_;refine e0 ?_;refine eP 0 0 [.bool (!b1),.slice p_h1 l_h1 c_h1,.slice none 0 0] ?_ (hs:=(sC2 (List.Sublist.refl _)));refine sxEnd (fun W5 hK=>?_);have⟨c90,c91,c92⟩:=(hK.box m0).c3;go_wp2;exact bodyPost_ret (v:=.agg #[.bool (!b1),.slice p_h1 l_h1 c_h1,.slice none 0 0]) (by simp[results,Tryz.results43,go_sem,c90,c91,c92]) rfl (by obtain rfl:=hQ0.out;exact⟨_,rfl,(whole_t (by have q:=hb1.out;revert q;cases b1<;>simp) (h1.below hK.old)),hK.old⟩)
set_option maxRecDepth 100000 in
theorem sign_any(v0:Value)(x:Rat)(w:World)(h0:RatV w v0 x):
    Calls Tryz.prog 22 #[v0] w fun e w'=>e=.returned (.int .i64 (sgQ x))∧Below w.heap.size w w':=by
  have h0_0:=h0;obtain⟨p_h0,l_h0,c_h0,q_h0,m_h0,d_h0,rfl,h0_1,h0_2⟩:=h0;have hK:=SS.start w;obtain⟨b0,hb0⟩:∃b,RowKit.Hid (isN x=b):=⟨_,hid rfl⟩;rw[hb0.out]at h0_0⊢;refine Calls.hide (fun Q0 hQ0=>?_);go_enter Tryz.func22,Tryz.ntmps22;go_upto_region 0 with(fail);refine wp_region_T [3,0] hK ?_;clear hK;refine eA (.cells #[.bool b0,.slice p_h0 l_h0 c_h0,.slice q_h0 m_h0 d_h0] 41) (fun R1=>?_);refine e0 ?_;refine sxEnd (fun W2 hK=>?_);go_upto_region 1 with(fail);refine wp_region_T [0,1,1] hK ?_;clear hK;refine e0 ?_;refine eL m0 ?_;obtain⟨b1,hb1⟩:∃z9:Bool,RowKit.Hid ((x.num.natAbs==0)=z9):=⟨_,hid rfl⟩;refine eQ (v:=.bool b1) (fun w k=>isZero_any _ _ w (h0_1.below k.old)) ?_ (hv:=by rw[hb1.out]);refine sxEnd (fun W3 hK=>?_)
  cases b1
  · --
   go_upto_region 3 with(fail);refine wp_region_T [0,1] hK ?_;clear hK;refine e0 ?_;refine eL m0 ?_;refine sxEnd (fun W4 hK=>?_)
   cases b0
   · --
    go_wp2
    try go_ret
    show Q0 (.returned (.int .i64 1)) _
    exact(by obtain rfl:=hQ0.out;exact⟨(by unfold sgQ;rw[if_neg (by simpa using hb1.out),hb0.out];rfl),hK.old⟩)
   · --
    go_wp2
    try go_ret
    show Q0 (.returned (.int .i64 (-1))) _
    exact(by obtain rfl:=hQ0.out;exact⟨(by unfold sgQ;rw[if_neg (by simpa using hb1.out),hb0.out];rfl),hK.old⟩)
  · --
   go_wp2
   try go_ret
   show Q0 (.returned (.int .i64 0)) _
   exact(by obtain rfl:=hQ0.out;exact⟨(by rw[sgQ_zero.2 ((natAbs_zero x).1 (by simpa using hb1.out))]),hK.old⟩)
set_option maxRecDepth 100000 in
theorem den_any(v0:Value)(x:Rat)(w:World)(h0:RatV w v0 x):
    Calls Tryz.prog 54 #[v0] w fun e w'=> ∃y0,e=.returned y0∧NatV w' y0 (x.den)∧Below w.heap.size w w':=by
  have h0_0:=h0;obtain⟨p_h0,l_h0,c_h0,q_h0,m_h0,d_h0,rfl,h0_1,h0_2⟩:=h0;have hK:=SS.start w;refine Calls.hide (fun Q0 hQ0=>?_);go_enter Tryz.func54,Tryz.ntmps54;go_upto_region 0 with(fail);refine wp_region_T [3,3] hK ?_;clear hK;refine eA (.cells #[.bool (isN x),.slice p_h0 l_h0 c_h0,.slice q_h0 m_h0 d_h0] 41) (fun R1=>?_);refine eA (.cells #[.slice none 0 0] 39) (fun R2=>?_);refine sxEnd (fun W3 hK=>?_);go_upto_region 1 with(fail);refine wp_region_T [0,1,1] hK ?_;clear hK;refine e0 ?_;refine eL m1 ?_;obtain⟨b1,hb1⟩:∃z9:Bool,RowKit.Hid (((den0 x)==0)=z9):=⟨_,hid rfl⟩;refine eQ (v:=.bool b1) (fun w k=>isZero_any _ _ w (h0_2.below k.old)) ?_ (hv:=by rw[hb1.out]);refine sxEnd (fun W4 hK=>?_)
  cases b1
  · --
   go_upto_region 3 with(fail);refine wp_region_T [0,1,4] hK ?_;clear hK;refine e0 ?_;refine eL m1 ?_;refine eP 0 0 [.slice q_h0 m_h0 d_h0] ?_;refine sxEnd (fun W5 hK=>?_);have c90:=(hK.box m0).at 0 rfl;go_wp2;exact bodyPost_ret (v:=.agg #[.slice q_h0 m_h0 d_h0]) (by simp[results,Tryz.results54,go_sem,c90]) rfl (by obtain rfl:=hQ0.out;exact⟨_,rfl,((congrArg (NatV _ _) (by have q:den0 x≠0:=(by simpa using hb1.out);unfold den0 at q⊢;split<;>simp_all)).mp (h0_2.below hK.old)),hK.old⟩)
  · --
   go_upto_region 2 with(fail);refine wp_region_T [2,4] hK ?_;clear hK;refine eC (fun w k=>nat_S (of_any 1 w (by omega))) (fun x7=>?_);obtain⟨p6,l6,c6⟩:=x7;dsimp only;refine eP 1 0 [.slice p6 l6 c6] ?_;refine sxEnd (fun W8 hK=>?_);have c90:=(hK.box m1).at 0 rfl;go_wp2;exact bodyPost_ret (v:=.agg #[.slice p6 l6 c6]) (by simp[results,Tryz.results54,go_sem,c90]) rfl (by obtain rfl:=hQ0.out;exact⟨_,rfl,((congrArg (NatV _ _) ((den0_zero x).1 (by simpa using hb1.out)).symm).mp (hK.nf m0)),hK.old⟩)
set_option maxRecDepth 100000 in
theorem qtimes_any(v0:Value)(v1:Value)(n:Nat)(z:Nat)(w:World)(h0:NatV w v0 n)(h1:NatV w v1 z)(hl:(digs B32 n).length+(digs B32 z).length≤1000000):
    Calls Tryz.prog 42 #[v0,v1] w fun e w'=> ∃y0,e=.returned y0∧NatV w' y0 (n*one0 z)∧Below w.heap.size w w':=by
  obtain⟨p_h0,l_h0,c_h0,rfl⟩:=h0.sl;obtain⟨p_h1,l_h1,c_h1,rfl⟩:=h1.sl;have hK:=SS.start w;refine Calls.hide (fun Q0 hQ0=>?_);go_enter Tryz.func42,Tryz.ntmps42;go_upto_region 0 with(fail);refine wp_region_T [3,3,3] hK ?_;clear hK;refine eA (.cells #[.slice p_h0 l_h0 c_h0] 39) (fun R1=>?_);refine eA (.cells #[.slice p_h1 l_h1 c_h1] 39) (fun R2=>?_);refine eA (.cells #[.slice none 0 0] 39) (fun R3=>?_);refine sxEnd (fun W4 hK=>?_);go_upto_region 1 with(fail);refine wp_region_T [1,1] hK ?_;clear hK;refine eL m1 ?_;obtain⟨b1,hb1⟩:∃z9:Bool,RowKit.Hid ((z==0)=z9):=⟨_,hid rfl⟩;refine eQ (v:=.bool b1) (fun w k=>isZero_any _ _ w (h1.below k.old)) ?_ (hv:=by rw[hb1.out]);refine sxEnd (fun W5 hK=>?_)
  cases b1
  · --
   go_upto_region 3 with(fail);refine wp_region_T [1,1,2,4] hK ?_;clear hK;refine eL m2 ?_;refine eL m1 ?_;refine eC (fun w k=>nat_S (mul_any _ _ _ _ w (h0.below k.old) (h1.below k.old) (by omega))) (fun x7=>?_);obtain⟨p6,l6,c6⟩:=x7;dsimp only;refine eP 1 0 [.slice p6 l6 c6] ?_;refine sxEnd (fun W8 hK=>?_);have c90:=(hK.box m1).at 0 rfl;go_wp2;exact bodyPost_ret (v:=.agg #[.slice p6 l6 c6]) (by simp[results,Tryz.results42,go_sem,c90]) rfl (by obtain rfl:=hQ0.out;exact⟨_,rfl,((congrArg (NatV _ _) (by unfold one0;rw[if_neg (by simpa using hb1.out)])).mp (hK.nf m0)),hK.old⟩)
  · --
   go_upto_region 2 with(fail);refine wp_region_T [1,4] hK ?_;clear hK;refine eL m2 ?_;refine eP 0 0 [.slice p_h0 l_h0 c_h0] ?_;refine sxEnd (fun W9 hK=>?_);have c90:=(hK.box m0).at 0 rfl;go_wp2;exact bodyPost_ret (v:=.agg #[.slice p_h0 l_h0 c_h0]) (by simp[results,Tryz.results42,go_sem,c90]) rfl (by obtain rfl:=hQ0.out;exact⟨_,rfl,((congrArg (NatV _ _) (by unfold one0;rw[if_pos (by simpa using hb1.out),Nat.mul_one])).mp (h0.below hK.old)),hK.old⟩)
theorem sg_ge{n m:Nat}{z:Int}(h:cmpN n m=z)(h2:0≤z):m≤n:=by subst h;unfold cmpN at h2;split at h2<;>omega
theorem sg_lt{n m:Nat}{z:Int}(h:cmpN n m=z)(h2:z<0):¬m≤n:=by subst h;unfold cmpN at h2;split at h2<;>(try split at h2)<;>omega
set_option maxRecDepth 100000 in
theorem signed_any(v1:Value)(v3:Value)(s:Bool)(n:Nat)(t:Bool)(m:Nat)(w:World)(h1:NatV w v1 n)(h3:NatV w v3 m)(l1:(digs B32 n).length<1000000)(l2:(digs B32 m).length<1000000):
    Calls Tryz.prog 53 #[.bool s,v1,.bool t,v3] w fun e w'=> ∃y,e=.returned (.tuple #[.bool (sgnd s n t m).1,y])∧NatV w' y (sgnd s n t m).2∧Below w.heap.size w w':=by
  obtain⟨p_h1,l_h1,c_h1,rfl⟩:=h1.sl;obtain⟨p_h3,l_h3,c_h3,rfl⟩:=h3.sl;have hK:=SS.start w;refine Calls.hide (fun Q0 hQ0=>?_);go_enter Tryz.func53,Tryz.ntmps53;go_upto_region 0 with(fail);refine wp_region_T [3,3,0,3] hK ?_;clear hK;refine eA (.cells #[.slice p_h1 l_h1 c_h1] 39) (fun R1=>?_);refine eA (.cells #[.slice p_h3 l_h3 c_h3] 39) (fun R2=>?_);refine e0 ?_;refine eA (.cells #[.slice none 0 0] 39) (fun R3=>?_);refine sxEnd (fun W4 hK=>?_);go_upto_region 1 with(fail);refine wp_region_T [0,0,0] hK ?_;clear hK
  iterate 2 refine e0 ?_
  refine eB (s==t) (fun b1 hb1=>?_);refine sxEnd (fun W5 hK=>?_)
  cases b1
  · --
   go_upto_region 3 with(fail);refine wp_region_T [1,1,1,0] hK ?_;clear hK;refine eL m2 ?_;refine eL m1 ?_;obtain⟨z1,hz1⟩:∃z9:Int,RowKit.Hid (cmpN n m=z9):=⟨_,hid rfl⟩;refine eQ (v:=.int .i64 z1) (fun w k=>cmp_any _ _ _ _ w (h1.below k.old) (h3.below k.old) (by omega) (by omega)) ?_ (hv:=by rw[hz1.out]);refine eB (decide (0≤z1)) (fun b2 hb2=>?_);refine sxEnd (fun W6 hK=>?_)
   cases b2
   · --
    have q_b2:z1<0:=Int.not_le.1 (of_decide_eq_false hb2.out);go_upto_region 6 with(fail);refine wp_region_T [1,1,2,0,0,0,3,4,0] hK ?_;clear hK;refine eL m1 ?_;refine eL m2 ?_;obtain⟨z2,hz2⟩:∃z9:Int,RowKit.Hid ((if m<n then 2 else 0)=z9):=⟨_,hid rfl⟩;refine eC (fun w k=>(by have q:=nat_S (sub_any _ _ _ _ w (h3.below k.old) (h1.below k.old) (by omega) (by omega));rw[hz2.out]at q;exact q)) (fun x8=>?_);obtain⟨p7,l7,c7⟩:=x8;dsimp only
    iterate 3 refine e0 ?_
    refine eA (.cells #[.slice none 0 0] 39) (fun R9=>?_);refine eP 0 0 [.slice p7 l7 c7] ?_;refine e0 ?_;refine sxEnd (fun W10 hK=>?_);go_upto_region 7 with(fail);refine wp_region_S _ [0,0,0,4] hK ?_ (sK2 (sK2 (sC2 (List.Sublist.refl _))));clear hK;refine e0 ?_;refine eL0 m0 ?_;refine e0 ?_;refine eP 2 0 [.slice p7 l7 c7] ?_ (hs:=(sK2 (sK2 (sC2 (List.Sublist.refl _)))));refine sxEnd (fun W11 hK=>?_);have c90:=(hK.box m2).at 0 rfl;go_wp2;exact bodyPost_ret (v:=.tuple #[.bool t,.agg #[.slice p7 l7 c7]]) (by simp[results,Tryz.results53,go_sem,c90]) rfl (by obtain rfl:=hQ0.out;exact⟨_,(by rw[show sgnd s n t m=(t,m-n)from by unfold sgnd;rw[if_neg (by simpa using hb1.out),if_neg (sg_lt hz1.out q_b2)]]),((congrArg (NatV _ _) (by rw[show sgnd s n t m=(t,m-n)from by unfold sgnd;rw[if_neg (by simpa using hb1.out),if_neg (sg_lt hz1.out q_b2)]])).mp (hK.nf m1)),hK.old⟩)
   · --
    have q_b2:0≤z1:=of_decide_eq_true hb2.out;go_upto_region 4 with(fail);refine wp_region_T [1,1,2,0,0,0,3,4,0] hK ?_;clear hK;refine eL m2 ?_;refine eL m1 ?_;obtain⟨z2,hz2⟩:∃z9:Int,RowKit.Hid ((if n<m then 2 else 0)=z9):=⟨_,hid rfl⟩;refine eC (fun w k=>(by have q:=nat_S (sub_any _ _ _ _ w (h1.below k.old) (h3.below k.old) (by omega) (by omega));rw[hz2.out]at q;exact q)) (fun x13=>?_);obtain⟨p12,l12,c12⟩:=x13;dsimp only
    iterate 3 refine e0 ?_
    refine eA (.cells #[.slice none 0 0] 39) (fun R14=>?_);refine eP 0 0 [.slice p12 l12 c12] ?_;refine e0 ?_;refine sxEnd (fun W15 hK=>?_);go_upto_region 5 with(fail);refine wp_region_S _ [0,0,0,4] hK ?_ (sK2 (sK2 (sC2 (List.Sublist.refl _))));clear hK;refine e0 ?_;refine eL0 m0 ?_;refine e0 ?_;refine eP 2 0 [.slice p12 l12 c12] ?_ (hs:=(sK2 (sK2 (sC2 (List.Sublist.refl _)))));refine sxEnd (fun W16 hK=>?_);have c90:=(hK.box m2).at 0 rfl;go_wp2;exact bodyPost_ret (v:=.tuple #[.bool s,.agg #[.slice p12 l12 c12]]) (by simp[results,Tryz.results53,go_sem,c90]) rfl (by obtain rfl:=hQ0.out;exact⟨_,(by rw[show sgnd s n t m=(s,n-m)from by unfold sgnd;rw[if_neg (by simpa using hb1.out),if_pos (sg_ge hz1.out q_b2)]]),((congrArg (NatV _ _) (by rw[show sgnd s n t m=(s,n-m)from by unfold sgnd;rw[if_neg (by simpa using hb1.out),if_pos (sg_ge hz1.out q_b2)]])).mp (hK.nf m1)),hK.old⟩)
  · --
   go_upto_region 2 with(fail);refine wp_region_T [0,1,1,2,0,4] hK ?_;clear hK;refine e0 ?_;refine eL m2 ?_;refine eL m1 ?_;refine eC (fun w k=>nat_S (add_any _ _ _ _ w (h1.below k.old) (h3.below k.old) (by omega) (by omega))) (fun x18=>?_);obtain⟨p17,l17,c17⟩:=x18;dsimp only;refine e0 ?_;refine eP 1 0 [.slice p17 l17 c17] ?_;refine sxEnd (fun W19 hK=>?_);have c90:=(hK.box m1).at 0 rfl;go_wp2;exact bodyPost_ret (v:=.tuple #[.bool s,.agg #[.slice p17 l17 c17]]) (by simp[results,Tryz.results53,go_sem,c90]) rfl (by obtain rfl:=hQ0.out;exact⟨_,(by rw[show sgnd s n t m=(s,n+m)from by unfold sgnd;rw[if_pos (by simpa using hb1.out)]]),((congrArg (NatV _ _) (by rw[show sgnd s n t m=(s,n+m)from by unfold sgnd;rw[if_pos (by simpa using hb1.out)]])).mp (hK.nf m0)),hK.old⟩)
end Go.Proofs.YtlhbcopaakejgaaGreatDoor
