/- The topology on which every law looks first, in the program. -/

import Derived.Test.YtlhbcopaakejgaaGreatDoorDagM
import Derived.Test.YtlhbcopaakejgaaGreatDoorSv
import Derived.Test.YtlhbcopaakejgaaGreatDoorDsN
import Derived.Test.YtlhbcopaakejgaaGreatDoorDsV
namespace Go.Proofs.YtlhbcopaakejgaaGreatDoor
open Go.RowKit
open Go.Lib (decDigits)
theorem qcmp_eq{v0 v1:Value}{x y:Rat}(w:World)(h0:RatV w v0 x)(h1:RatV w v1 y){k:Nat}(hx:LmQ k x)(hy:LmQ k y)(hk:k≤10000)(e:x=y):
    Calls Tryz.prog 15 #[v0,v1] w fun e w'=>e=.returned (.int .i64 0)∧Below w.heap.size w w':=by
  have h:=qcmp_any v0 v1 x y w h0 h1 hx hy hk;rw[show sgQ (x-y)=0 by rw[e,Rat.sub_self];decide+kernel]at h;exact h
theorem half_eq:(1:Rat)/2=((1:Int):Rat)/((2:Int):Rat):=by decide+kernel
theorem zero_eq:(0:Rat)=((0:Int):Rat):=by decide+kernel
theorem halfL:LmQ 200 (((1:Int):Rat)/((2:Int):Rat)):=((LmQ.int (a:=1) (z:=1) (by unfold Lm;decide) (by decide)).div (LmQ.int (a:=1) (z:=2) (by unfold Lm;decide) (by decide)) (by decide+kernel)).up (by decide)
theorem zeroL:LmQ 200 ((0:Int):Rat):=(LmQ.int (a:=1) (z:=0) (by unfold Lm;decide) (by decide)).up (by decide)
set_option maxRecDepth 100000 in
set_option maxHeartbeats 1000000 in
theorem awake_any(w:World):
    Calls Tryz.prog 4 #[] w fun e w'=>e=.returned (.bool true)∧Below w.heap.size w w':=by
  have hK:=SS.start w;refine Calls.hide (fun Q0 hQ0=>?_);go_enter Tryz.func4,Tryz.ntmps4;replace hK:=hK.fact (rO lnkK 49 none 0 0 ((List.range 0).map lnA)) OwV.nil (fun _ h=>by cases h);go_wp2_with fail;go_loopw [14,1] (fun s14 s1 wl=> ∃(j:Nat) (p:Option Addr) (n_:Nat) (c:Nat),s14=.int .i64 (j:Int)∧s1=.slice p n_ c∧(j≤4)∧SS w ([rO lnkK 49 p n_ c ((List.range j).map lnA)]) wl) (fun s14 s1 _=>4-(intOf s14).toNat)
  case atStart=>exact⟨0,none,0,0,rfl,rfl,(by omega),hK⟩
  case round=>
   clear hK;obtain⟨j,p,n_,c,rfl,rfl,hj0,hK⟩:=hrel;generalize wr=W1 at hK⊢;go_upto_region 3 with(fail);refine wp_region_T [0] hK ?_;clear hK;refine eB (decide (((j:Int))<4)) (fun b1 hb1=>?_);refine sxEnd (fun W2 hK=>?_)
   cases b1
   · --
    have q_b1:4≤((j:Int)):=Int.not_lt.1 (of_decide_eq_false hb1.out);obtain rfl:j=4:=by omega
    have hOT:TopV W2 (.agg #[.int .i64 4,.slice none 0 0,.slice p n_ c]) topA:=⟨_,_,_,_,_,_,rfl,SlV.nil,hK.slv m0⟩;have hB3:=hK.old;have hKo:=hK.old;clear hK;have hK:=SS.start W2;clear hKo;go_upto_region 7 with(fail);refine wp_region_T [0,0,3,4] hK ?_;clear hK
    iterate 2 refine e0 ?_
    refine eA (.cells #[.int .i64 0,.slice none 0 0,.slice none 0 0] 25) (fun R4=>?_);refine eP 0 0 [.int .i64 4,.slice none 0 0,.slice p n_ c] ?_;refine sxEnd (fun W5 hK=>?_);go_upto_region 8 with(fail);refine wp_region_T [1,2,0,0,0,0,0] hK ?_;clear hK;refine eL m0 ?_;refine eC (fun w k=>nextR_any w (hOT.below k.old) (SlV.nil (K:=boolK)) 0 2 (by decide)) (fun x6=>?_);obtain⟨p7,n7,c7⟩:=x6;dsimp only
    iterate 5 refine e0 ?_
    refine sxEnd (fun W8 hK=>?_);rw[chkNA];rw[nxtA]at hK;go_upto_region 9 with(fail);refine wp_region_T [1,1,0,0,0,0,0] hK ?_;clear hK;refine eL m1 ?_;refine eQ (fun w k=>count_any w (hOT.below k.old) (SlV.nil (K:=boolK)) 0 2 9 (by decide) (hid (by decide))) ?_
    iterate 5 refine e0 ?_
    refine sxEnd (fun W9 hK=>?_);rw[cntA,chkCA];go_upto_region 10 with(fail);refine wp_region_T [1,2,0,0,0,0,0] hK ?_;clear hK;refine eL m1 ?_;refine eC (fun w k=>order_any w (hOT.below k.old) (SlV.nil (K:=boolK)) 2 (by decide)) (fun x10=>?_);obtain⟨p11,n11,c11⟩:=x10;dsimp only
    iterate 5 refine e0 ?_
    refine sxEnd (fun W12 hK=>?_);rw[chkDA];rw[ordA]at hK;go_upto_region 11 with(fail);refine wp_region_T [1,2,0,0,0,0,0] hK ?_;clear hK;refine eL m3 ?_;refine eC (fun w k=>share_any w (hOT.below k.old) (SlV.nil (K:=boolK)) 0 2 (by decide)) (fun x13=>?_);obtain⟨⟨p14,n14,c14⟩,sh14⟩:=x13;dsimp only
    iterate 5 refine e0 ?_
    refine sxEnd (fun W15 hK=>?_);rw[chkSA];have hsA:=shrA (hK.get m1);obtain rfl:n14=8:=(hK.len m0).trans hsA.1;go_upto_region 12 with(fail);refine wp_region_T [2,0,0,0,3,4,0] hK ?_;clear hK;refine eC (fun w k=>rat2_S (qof_any 1 2 w (by decide) (by decide) (by decide) (by decide))) (fun x16=>?_);obtain⟨⟨p17,l17,c17⟩,⟨q17,m17,d17⟩⟩:=x16;dsimp only
    iterate 3 refine e0 ?_
    refine eA (.cells #[.bool false,.slice none 0 0,.slice none 0 0] 41) (fun R18=>?_);refine eP 0 0 [.bool (isN (((1:Int):Rat)/((2:Int):Rat))),.slice p17 l17 c17,.slice q17 m17 d17] ?_ (hq:=.inr ⟨rfl,rfl,rfl,rfl,rfl,rfl,rfl,trivial⟩);refine e0 ?_;refine sxEnd (fun W19 hK=>?_);have hO21:=hK.box m0;have hO22:=hK.q m1;have hO23:=hK.slv m2;have hO25:=hK.slv m4;have hO27:=hK.slv m6;have hO28:=hK.box m7;have hB20:=hB3.trans (hK.old.mono hB3.size);have hKo:=hK.old;clear hK;have hK:=SS.start W19;replace hOT:=hOT.below hKo;clear hKo;have i29:0<8:=(by omega);obtain⟨g29,o29,rfl⟩:=hO23.pt i29;have l29:0<sh14.length:=Nat.lt_of_lt_of_eq i29 (hO23.one0);obtain⟨ya,eya⟩:∃x,RowKit.Hid (sh14[0]?=some x):=⟨_,hid (List.getElem?_eq_getElem l29)⟩;obtain⟨ya_0,ya_1,ya_2,ya_c,ya_r⟩:=hO23.rat eya.out;have i30:1<8:=(by omega);have l30:1<sh14.length:=Nat.lt_of_lt_of_eq i30 (hO23.one0);obtain⟨yb,eyb⟩:∃x,RowKit.Hid (sh14[1]?=some x):=⟨_,hid (List.getElem?_eq_getElem l30)⟩;obtain⟨yb_0,yb_1,yb_2,yb_c,yb_r⟩:=hO23.rat eyb.out;have hya:ya=1/2:=by have q:=eya.out;have q2:=hsA.2.1;rw[List.getD_eq_getElem?_getD,q]at q2;exact q2
    have hyb:yb=0:=by have q:=eyb.out;have q2:=hsA.2.2;rw[List.getD_eq_getElem?_getD,q]at q2;exact q2
    replace hya:=hid hya;replace hyb:=hid hyb;go_upto_region 13 with(fail);refine wp_region_S _ [0,0,0,0,0,0,0,0,0,0,0,0,0,0,0,0,3,1,0,0,0,0,0,0,0,3,1,0,0,0,0,0,0,0,0,0,0,0,1,0,0,0,0,0,0,2,1,0,0,0] hK ?_ (List.Sublist.refl _);clear hK
    iterate 16 refine e0 ?_
    refine eA (.cells #[.int .i64 0,.int .i64 7] 3) (fun R31=>?_);obtain⟨b2,hb2⟩:∃b:Bool,RowKit.Hid ((decide ((natI [0,7])=([0,7])))=b):=⟨_,hid rfl⟩;refine eQ (v:=.bool b2) (fun w k=>same_any w (hO27.below k.old) (slBox2 (k.box m0)) (by decide) (by decide)) ?_ (hv:=by rw[hb2.out])
    iterate 2 refine e0 ?_
    cases b2
    · --
     exact absurd hb2.out (by decide)
    · --
     iterate 5 refine e0 ?_
     refine eA (.cells #[.int .i64 0,.int .i64 1,.int .i64 3,.int .i64 2] 3) (fun R32=>?_);obtain⟨b3,hb3⟩:∃b:Bool,RowKit.Hid ((decide ((natI [0,1,3,2])=([0,1,3,2])))=b):=⟨_,hid rfl⟩;refine eQ (v:=.bool b3) (fun w k=>same_any w (hO25.below k.old) (slBox4 (k.box m0)) (by decide) (by decide)) ?_ (hv:=by rw[hb3.out])
     iterate 2 refine e0 ?_
     cases b3
     · --
      exact absurd hb3.out (by decide)
     · --
      iterate 2 refine e0 ?_
      refine eB (((8:Int))==8) (fun b4 hb4=>?_)
      iterate 2 refine e0 ?_
      cases b4
      · --
       exact absurd hb4.out (by decide)
      · --
       iterate 2 refine e0 ?_
       refine eRm0 (F:=fun w=>C3 w g29 (o29+0*3) ya_0 ya_1 ya_2) (fun w k=>ya_c.below k.old) (h1:=by intro w' k;obtain⟨_,c0,c1,c2⟩:=k;(try simp at c0 c1 c2);go_simp;(try go_bits);exact⟨rfl,rfl⟩) ?_;refine eX0 (fun w k=>hO21.below k.old) ?_;refine eQ (fun w k=>qcmp_eq w (ya_r.below k.old) (hO22.below k.old) (by rw[hya.out,half_eq];exact halfL) (halfL) (by decide) (hya.out.trans half_eq)) ?_
       iterate 5 refine e0 ?_
       refine eRm0 (F:=fun w=>C3 w g29 (o29+1*3) yb_0 yb_1 yb_2) (fun w k=>yb_c.below k.old) (h1:=by intro w' k;obtain⟨_,c0,c1,c2⟩:=k;(try simp at c0 c1 c2);go_simp;(try go_bits);exact⟨rfl,rfl⟩) ?_;refine eC (fun w k=>rat_S (qint_any 0 w (by omega) (by omega))) (fun x33=>?_);obtain⟨⟨p34,l34,c34⟩,⟨q34,m34,d34⟩⟩:=x33;dsimp only;refine eQ (fun w k=>qcmp_eq w (yb_r.below k.old) (k.q m0) (by rw[hyb.out,zero_eq];exact zeroL) (zeroL) (by decide) (hyb.out.trans zero_eq)) ?_
       iterate 3 refine e0 ?_
       refine sxEnd (fun W35 hK=>?_);go_wp2
       try go_ret
       show Q0 (.returned (.bool true)) _
       exact(by obtain rfl:=hQ0.out;exact⟨rfl,hB20.trans (hK.old.mono hB20.size)⟩)
   · --
    have q_b1:((j:Int))<4:=of_decide_eq_true hb1.out;go_upto_region 5 with(fail);refine wp_region_T [0,0,0,0,0,0,0,3,5,0] hK ?_;clear hK
    iterate 3 refine e0 ?_
    refine eV (.int .i64 ((j+1:Nat):Int)) (fun w'=>by go_simp;(try go_bits);exact⟨congrArg (Value.int .i64) (by omega),rfl⟩) ?_;refine eV (.int .i64 (((j+1)%4:Nat):Int)) (fun w'=>by go_simp;(try go_bits);exact⟨congrArg (Value.int .i64) (by omega),rfl⟩) ?_
    iterate 2 refine e0 ?_
    refine eA (.cells #[.int .i64 (j:Int),.int .i64 (((j+1)%4:Nat):Int),.int .i64 1,.int .i64 1,.int .i64 0,.int .i64 1,.int .i64 0] 49) (fun R36=>?_);refine eApp 1 lnkK_free rfl infoL (fun w k=>k.one1 (K:=lnkK) (x:=(⟨(j:Int),(((j+1)%4:Nat):Int),1,1,0,1,0⟩:LnkD)) m0 rfl) (by simp;omega) (fun x37=>?_);obtain⟨p37,n37,c37⟩:=x37;dsimp only;refine e0 ?_;refine sxEnd (fun W38 hK=>?_);rw[show((List.range j).map lnA)++[(⟨(j:Int),(((j+1)%4:Nat):Int),1,1,0,1,0⟩:LnkD)]=((List.range (j+1)).map lnA)from(by rw[List.range_succ,List.map_append];rfl)]at hK
    (try go_wp2)
    go_roundw
    case rel=>exact⟨j+1,p37,n37,c37,(by first|rfl|go_num),(by first|rfl|go_num),(by omega),(hK.subl (sC2 (List.Sublist.refl _)))⟩
    case measure=>simp[intOf]<;>omega
end Go.Proofs.YtlhbcopaakejgaaGreatDoor
