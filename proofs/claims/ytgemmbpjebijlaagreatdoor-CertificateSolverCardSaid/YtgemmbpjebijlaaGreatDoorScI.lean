/- Law 41 awake; kinds. -/

import Derived.Test.YtgemmbpjebijlaaGreatDoorQF
namespace Go.Proofs.YtgemmbpjebijlaaGreatDoor
open Go.RowKit
open Go.Lib (decDigits)
theorem slRat2{w:World}{R:Nat}{a b c d e f:Value}{x y:Rat}{ty:TypeId}(h:Has 0 R (.cells #[a,b,c,d,e,f] ty) w)(h1:RatV w (.agg #[a,b,c]) x)(h2:RatV w (.agg #[d,e,f]) y):SlV ratK w (.slice (some ⟨R,0,none⟩) 2 2) [x,y]:=by
  refine⟨[[a,b,c],[d,e,f]],⟨rfl,fun i cs z e1 e2=>?_⟩,.inr ⟨R,0,2,rfl,h.ltS,Nat.le_refl _,by decide,fun i cs j u e1 e2=>?_⟩⟩
  . match i,e1,e2 with
    |0,e1,e2=>cases e1;cases e2;exact⟨_,_,_,rfl,h1⟩
    |1,e1,e2=>cases e1;cases e2;exact⟨_,_,_,rfl,h2⟩
    |i+2,e1,_=>cases e1
  match i,e1 with
  | 0,e1=>
    cases e1
    match j,e2 with
    |0,e2=>cases e2;exact h.at 0 rfl
    |1,e2=>cases e2;exact h.at 1 rfl
    |2,e2=>cases e2;exact h.at 2 rfl
    |j+3,e2=>cases e2
  | 1,e1=>
    cases e1
    match j,e2 with
    |0,e2=>cases e2;exact h.at 3 rfl
    |1,e2=>cases e2;exact h.at 4 rfl
    |2,e2=>cases e2;exact h.at 5 rfl
    |j+3,e2=>cases e2
  |i+2,e1=>cases e1
theorem slFr2{w:World}{R:Nat}{a b c d:Int}{ty:TypeId}(h:Has 0 R (.cells #[.int .i8 a,.int .i8 b,.int .i8 c,.int .i8 d] ty) w):SlV frK w (.slice (some ⟨R,0,none⟩) 2 2) [⟨a,b⟩,⟨c,d⟩]:=by
  refine⟨[frC ⟨a,b⟩,frC ⟨c,d⟩],⟨rfl,fun i cs z e1 e2=>?_⟩,.inr ⟨R,0,2,rfl,h.ltS,Nat.le_refl _,by decide,fun i cs j u e1 e2=>?_⟩⟩
  . match i,e1,e2 with
    |0,e1,e2=>cases e1;cases e2;rfl
    |1,e1,e2=>cases e1;cases e2;rfl
    |i+2,e1,_=>cases e1
  match i,e1 with
  | 0,e1=>
    cases e1
    match j,e2 with
    |0,e2=>cases e2;exact h.at 0 rfl
    |1,e2=>cases e2;exact h.at 1 rfl
    |j+2,e2=>cases e2
  | 1,e1=>
    cases e1
    match j,e2 with
    |0,e2=>cases e2;exact h.at 2 rfl
    |1,e2=>cases e2;exact h.at 3 rfl
    |j+2,e2=>cases e2
  |i+2,e1=>cases e1
theorem two_t:textQ (2:Rat)=[50]:=exTxt
set_option maxRecDepth 100000 in
set_option maxHeartbeats 400000 in
theorem awake41_any(w:World) (hBs:Bas w):
    Calls Tryz.prog 7 #[] w fun e w'=>e=.returned (.bool true)/\Below w.heap.size w w':=by
  have hK:=SS.start w;refine Calls.hide (fun Q0 hQ0=>?_);go_enter Tryz.func7,Tryz.ntmps7;go_upto_region 1 with(fail);refine wp_region_T [3,3,3,0,2,2,3,4] hK ?_;clear hK;refine eA (.cells #[.int .i8 1,.int .i8 1] 25) (fun R1=>?_);refine eA (.cells #[.int .i8 1,.int .i8 2,.int .i8 3,.int .i8 1] 25) (fun R2=>?_);refine eA (.cells #[.int .i8 4,.int .i8 6] 25) (fun R3=>?_);refine e0 ?_;refine eC (fun w k=>smof_any (s:=awA) w awA_ok (litV8 [1,1] (k.box m2) rfl (by decide)) (litV8 [1,2,3,1] (k.box m1) rfl (by decide)) (litV8 [4,6] (k.box m0) rfl (by decide))) (fun x4=>?_);obtain⟨⟨g5cp,g5cl,g5cc⟩,⟨g5ap,g5al,g5ac⟩,⟨g5bp,g5bl,g5bc⟩,g5s⟩:=x4;dsimp only[PgR.v];refine eC (fun w k=>program_any w (k.pg m0).1 (k.pg m0).2.1 (k.pg m0).2.2 (hBs.below k.old) (ofSm_lm awA_ok 50 (by decide)) (ofSm_ok awA)) (fun x6=>?_);obtain⟨⟨g7cp,g7cl,g7cc⟩,⟨g7ap,g7al,g7ac⟩,⟨g7bp,g7bl,g7bc⟩,g7s⟩:=x6;dsimp only[PgR.v];refine eA (.cells #[.slice none 0 0,.slice none 0 0,.slice none 0 0] 37) (fun R8=>?_);refine eP 0 0 [.slice g7cp g7cl g7cc,.slice g7ap g7al g7ac,.slice g7bp g7bl g7bc] ?_;refine sxEnd (fun W9 hK=>?_);go_upto_region 2 with(fail);refine wp_region_T [2,2,3,3,4,4] hK ?_;clear hK;refine eC (fun w k=>rat_S (qint_any 1 w (by omega) (by omega))) (fun x10=>?_);obtain⟨⟨p11,l11,c11⟩,⟨q11,u11,d11⟩⟩:=x10;dsimp only;refine eC (fun w k=>rat_S (qint_any 0 w (by omega) (by omega))) (fun x12=>?_);obtain⟨⟨p13,l13,c13⟩,⟨q13,u13,d13⟩⟩:=x12;dsimp only;refine eA (.cells #[.bool false,.slice none 0 0,.slice none 0 0] 43) (fun R14=>?_);refine eA (.cells #[.bool false,.slice none 0 0,.slice none 0 0] 43) (fun R15=>?_);refine eP 1 0 [.bool (isN (((1:Int):Rat))),.slice p11 l11 c11,.slice q11 u11 d11] ?_ (hq:=.inr ⟨rfl,rfl,rfl,rfl,rfl,rfl,rfl,rfl,rfl,trivial⟩);refine eP 0 0 [.bool (isN (((0:Int):Rat))),.slice p13 l13 c13,.slice q13 u13 d13] ?_ (hq:=.inr ⟨rfl,rfl,rfl,rfl,rfl,rfl,rfl,rfl,rfl,trivial⟩);refine sxEnd (fun W16 hK=>?_);go_upto_region 3 with(fail);refine wp_region_T [1,1,1,3,1,1,3,2,0,0,0,3,4,0] hK ?_;clear hK
  refine eL m4 ?_
  iterate 2 refine eL m1 ?_
  refine eA (.cells #[.bool (isN (((1:Int):Rat))),.slice p11 l11 c11,.slice q11 u11 d11,.bool (isN (((1:Int):Rat))),.slice p11 l11 c11,.slice q11 u11 d11] 43) (fun R17=>?_);refine eL m2 ?_;refine eL m1 ?_;refine eA (.cells #[.bool (isN (((1:Int):Rat))),.slice p11 l11 c11,.slice q11 u11 d11,.bool (isN (((0:Int):Rat))),.slice p13 l13 c13,.slice q13 u13 d13] 43) (fun R18=>?_);refine eC (fun w k=>(by have q:=cgap_any (P:=ofSm awA) (x:=exX) (y:=exY) (k:=50) w (k.pg m7).1 (k.pg m7).2.1 (k.pg m7).2.2 (fun _=>(ofSm_lm awA_ok 50 (by decide))) (by decide) (by decide) (by decide) (by decide) (by decide) (slRat2 (k.box m1) (k.q m5) (k.q m5)) (by decide) ((ints_lm (by decide) (by decide) (by decide) (by decide))) (slRat2 (k.box m0) (k.q m5) (k.q m4)) (by decide) ((ints_lm (by decide) (by decide) (by decide) (by decide)));have e1:gapE (ofSm awA) exX exY=0:=exGap.1;have e2:gapQ (ofSm awA) exX exY=2:=exGap.2;rw[e1,e2]at q;exact q)) (fun x19=>?_);obtain⟨⟨p20,l20,c20⟩,⟨q20,u20,d20⟩⟩:=x19;dsimp only
  iterate 3 refine e0 ?_
  refine eA (.cells #[.bool false,.slice none 0 0,.slice none 0 0] 43) (fun R21=>?_);refine eP 0 0 [.bool (isN ((2:Rat))),.slice p20 l20 c20,.slice q20 u20 d20] ?_ (hq:=.inr ⟨rfl,rfl,rfl,rfl,rfl,rfl,rfl,rfl,rfl,rfl,rfl,rfl,rfl,trivial⟩);refine e0 ?_;refine sxEnd (fun W22 hK=>?_);go_upto_region 4 with(fail);refine wp_region_T [0,0,3,2,2,0,0,3,2,2,0,3,2,2,0,2,0,3,4] hK ?_;clear hK
  iterate 2 refine e0 ?_
  refine eA (.cells #[.int .i8 8,.int .i8 5,.int .i8 6,.int .i8 5] 27) (fun R23=>?_);refine eC (fun w k=>frof_any w (slFr2 (k.box m0)) exF_ok (by show 2<=_;decide)) (fun x24=>?_);obtain⟨px24,lx24,cx24⟩:=x24;dsimp only;refine eC (fun w k=>numbers_any w (k.slv m0) (hBs.below k.old) ((frL_lm exF_ok).up (by decide)) (by show 2<=_;decide)) (fun x25=>?_);obtain⟨px25,lx25,cx25⟩:=x25;dsimp only
  iterate 2 refine e0 ?_
  refine eA (.cells #[.int .i8 2,.int .i8 5,.int .i8 1,.int .i8 5] 27) (fun R26=>?_);refine eC (fun w k=>frof_any w (slFr2 (k.box m0)) exG_ok (by show 2<=_;decide)) (fun x27=>?_);obtain⟨px27,lx27,cx27⟩:=x27;dsimp only;refine eC (fun w k=>numbers_any w (k.slv m0) (hBs.below k.old) ((frL_lm exG_ok).up (by decide)) (by show 2<=_;decide)) (fun x28=>?_);obtain⟨px28,lx28,cx28⟩:=x28;dsimp only;refine e0 ?_;refine eA (.cells #[.int .i8 14,.int .i8 5] 27) (fun R29=>?_);refine eC (fun w k=>one_row (x:=frX ⟨14,5⟩) (frof_any w (slFr1 (k.box m0)) (fun x hx=>by rw[List.mem_singleton.1 hx];exact frc_ok (by decide) (by decide) (by decide) (by decide)) (by show 1<=_;decide))) (fun x31=>?_);obtain⟨g30,c30⟩:=x31;dsimp only;refine eC (fun w k=>one_row (x:=frX ⟨14,5⟩) (numbers_any w (k.slv m0) (hBs.below k.old) (fun x hx=>by rw[List.mem_singleton.1 hx];exact(frX_lm (frc_ok (by decide) (by decide) (by decide) (by decide))).up (by decide)) (by show 1<=_;decide))) (fun x33=>?_);obtain⟨g32,c32⟩:=x33;dsimp only;refine e0 ?_;refine eRq m0 (show[frX ⟨14,5⟩][0]?=some (frX ⟨14,5⟩)from rfl) (fun x34=>?_);obtain⟨⟨p34,l34,c34⟩,⟨q34,u34,d34⟩⟩:=x34;dsimp only;refine e0 ?_;refine eA (.cells #[.int .i64 0,.slice none 0 0,.slice none 0 0,.slice none 0 0,.bool false,.slice none 0 0,.slice none 0 0] 45) (fun R35=>?_);refine eZ 0 0 [.int .i64 1,.slice px25 lx25 cx25,.slice px28 lx28 cx28,.slice none 0 0,.bool (isN (frX ⟨14,5⟩)),.slice p34 l34 c34,.slice q34 u34 d34] ?_;refine sxEnd (fun W36 hK=>?_);go_upto_region 5 with(fail);refine wp_region_T [0,0,0,1,1,0,0,0,1,1,1,0,0,1,0,1,0,0,0] hK ?_;clear hK
  iterate 3 refine e0 ?_
  refine eL m11 ?_;refine eQ (fun w k=>qtext_q _ _ w (k.q m12) (hBs.below k.old) two_lm (by decide)) ?_;refine eV (.bool true) (fun w'=>by go_simp;(try go_bits);rw[two_t];exact⟨rfl,rfl⟩) ?_
  iterate 2 refine e0 ?_
  refine eL m19 ?_;refine eL m0 ?_;refine eQ (fun w k=>(ccheck_any (P:=ofSm awA) (kk:=1) (x:=frL exF) (y:=frL exG) (r:=[]) (z:=frX ⟨14,5⟩) (k:=50) w (k.pg m20).1 (k.pg m20).2.1 (k.pg m20).2.2 (fun _=>(ofSm_lm awA_ok 50 (by decide))) (by decide) (by decide) (by decide) (by decide) (by decide) (k.slv m8) (by show 2<=_;decide) ((frL_lm exF_ok).up (by decide)) (k.slv m5) (by show 2<=_;decide) ((frL_lm exG_ok).up (by decide)) (SlV.nil (K:=ratK)) (Nat.zero_le _) (fun _ h=>absurd h List.not_mem_nil) (k.q m1) ((frX_lm (frc_ok (by decide) (by decide) (by decide) (by decide))).up (by decide))).mono fun _ _ q=>by rw[show chkB (ofSm awA) ⟨1,frL exF,frL exG,[],frX ⟨14,5⟩⟩=true from exChk.1]at q;exact q) ?_
  iterate 2 refine e0 ?_
  refine eL m19 ?_;refine e0 ?_;refine eQ (fun w k=>(ccheck_any (P:=ofSm awA) (kk:=1) (x:=[]) (y:=[]) (r:=[]) (z:=0) (k:=50) w (k.pg m20).1 (k.pg m20).2.1 (k.pg m20).2.2 (fun _=>(ofSm_lm awA_ok 50 (by decide))) (by decide) (by decide) (by decide) (by decide) (by decide) (SlV.nil (K:=ratK)) (Nat.zero_le _) (fun _ h=>absurd h List.not_mem_nil) (SlV.nil (K:=ratK)) (Nat.zero_le _) (fun _ h=>absurd h List.not_mem_nil) (SlV.nil (K:=ratK)) (Nat.zero_le _) (fun _ h=>absurd h List.not_mem_nil) (RatV.zero w) (LmQ.nil0.up (by decide))).mono fun _ _ q=>by rw[show chkB (ofSm awA) ⟨1,[],[],[],0⟩=false from exChk.2]at q;exact q) ?_
  iterate 3 refine e0 ?_
  refine sxEnd (fun W37 hK=>?_);go_wp2
  try go_ret
  show Q0 (.returned (.bool true)) _
  exact(qo hQ0 ⟨rfl,hK.old⟩)
set_option maxRecDepth 100000 in
set_option maxHeartbeats 4000000 in
theorem certKinds_any(w:World){cp ap bp:Option Addr}{cl cc al ac bl bc:Nat}{s0:Sm}{xp yp rp:Option Addr}{xl xc yl yc rl rc:Nat}{s:Gs}(hs:s0.Ok)(hC:SlV i8K w (.slice cp cl cc) s0.c)(hA:SlV i8K w (.slice ap al ac) s0.a)(hB:SlV i8K w (.slice bp bl bc) s0.b)(hBs:Bas w)(hx:SlV frK w (.slice xp xl xc) s.x)(hy:SlV frK w (.slice yp yl yc) s.y)(hr:SlV frK w (.slice rp rl rc) s.r)(ho:s.Ok):
    Calls Tryz.prog 4 #[.agg #[.slice cp cl cc,.slice ap al ac,.slice bp bl bc],.agg #[.int .i8 s.k,.slice xp xl xc,.slice yp yl yc,.slice rp rl rc,.int .i8 s.z.n,.int .i8 s.z.d]] w fun e w'=>e=.returned (.bool true)/\Below w.heap.size w w':=by
  have hK:=SS.start w;obtain⟨P,hP9⟩:∃P,Hid (P=ofSm s0):=⟨_,hid rfl⟩;have hv:vldP P=true:=(by rw[hP9.out];exact ofSm_v s0);have hm:LmP 50 P:=(by rw[hP9.out];exact ofSm_lm hs 50 (by decide));have hS:LimS X5 P:=(by rw[hP9.out];exact ofSm_lims hs);have hP:=vld_ok hv;have hX:=X5_lt;have hm1:=hm.n;have hm2:=hm.m;have hb9:P.b.length<=12:=(by rw[hP.hb];exact hm2);obtain⟨RG,hRG⟩:∃R,Hid (resG s=R):=⟨_,hid rfl⟩;have hk8:=ho.k;unfold Rng8 at hk8;refine Calls.hide (fun Q0 hQ0=>?_);go_enter Tryz.func4,Tryz.ntmps4;go_upto_region 0 with(fail);refine wp_region_T [3,3,0] hK ?_;clear hK;refine eA (.cells #[.slice cp cl cc,.slice ap al ac,.slice bp bl bc] 24) (fun R1=>?_);refine eA (.cells #[.int .i8 s.k,.slice xp xl xc,.slice yp yl yc,.slice rp rl rc,.int .i8 s.z.n,.int .i8 s.z.d] 65) (fun R2=>?_);refine e0 ?_;refine sxEnd (fun W3 hK=>?_);go_upto_region 1 with(fail);refine wp_region_T [1,0] hK ?_;clear hK;refine eQ (fun w k=>awake41_any w (hBs.below k.old)) ?_;refine e0 ?_;refine sxEnd (fun W4 hK=>?_);go_upto_region 3 with(fail);refine wp_region_T [1,1,0] hK ?_;clear hK;refine eL m0 ?_;obtain⟨b1,hb1⟩:=nmB (briG s);refine eQ (v:=.bool b1) (fun w k=>brief_any w (hx.below k.old) (hy.below k.old) (hr.below k.old) ho) ?_ (hv:=by rw[hb1.out]);refine e0 ?_;refine sxEnd (fun W5 hK=>?_)
  cases b1
  . --
   go_wp2
   try go_ret
   show Q0 (.returned (.bool true)) _
   exact(qo hQ0 ⟨rfl,hK.old⟩)
  have hbr:=hid (briG_iff.1 hb1.out);have hGx:RG.x.length<=100000/\LmL 50 RG.x:=(by rw[<-hRG.out];exact⟨by show(frL s.x).length<=_;rw[frL_len];have:=hbr.out.1;omega,(frL_lm ho.x).up (by decide)⟩);have hGy:RG.y.length<=100000/\LmL 50 RG.y:=(by rw[<-hRG.out];exact⟨by show(frL s.y).length<=_;rw[frL_len];have:=hbr.out.2.1;omega,(frL_lm ho.y).up (by decide)⟩);have hGr:RG.r.length<=100000/\LmL 50 RG.r:=(by rw[<-hRG.out];exact⟨by show(frL s.r).length<=_;rw[frL_len];have:=hbr.out.2.2;omega,(frL_lm ho.r).up (by decide)⟩);have hGz:LmQ 50 RG.z:=(by rw[<-hRG.out];exact(frX_lm ho.z).up (by decide));have hGk:Hid (RG.k=s.k):=hid (by rw[<-hRG.out];rfl);go_upto_region 5 with(fail);refine wp_region_T [1,2,3,4] hK ?_;clear hK;refine eL m1 ?_;refine eC (fun w k=>(by have q:=smof_any w hs (hC.below k.old) (hA.below k.old) (hB.below k.old);rw[<-hP9.out]at q;exact q)) (fun x6=>?_);obtain⟨⟨g7cp,g7cl,g7cc⟩,⟨g7ap,g7al,g7ac⟩,⟨g7bp,g7bl,g7bc⟩,g7s⟩:=x6;dsimp only[PgR.v];refine eA (.cells #[.slice none 0 0,.slice none 0 0,.slice none 0 0] 32) (fun R8=>?_);refine eP 0 0 [.slice g7cp g7cl g7cc,.slice g7ap g7al g7ac,.slice g7bp g7bl g7bc] ?_;refine sxEnd (fun W9 hK=>?_);go_upto_region 6 with(fail);refine wp_region_T [1,2,3,4] hK ?_;clear hK;refine eL m0 ?_;refine eC (fun w k=>program_any w (k.pg m1).1 (k.pg m1).2.1 (k.pg m1).2.2 (hBs.below k.old) hm hP) (fun x10=>?_);obtain⟨⟨g11cp,g11cl,g11cc⟩,⟨g11ap,g11al,g11ac⟩,⟨g11bp,g11bl,g11bc⟩,g11s⟩:=x10;dsimp only[PgR.v];refine eA (.cells #[.slice none 0 0,.slice none 0 0,.slice none 0 0] 37) (fun R12=>?_);refine eP 0 0 [.slice g11cp g11cl g11cc,.slice g11ap g11al g11ac,.slice g11bp g11bl g11bc] ?_;refine sxEnd (fun W13 hK=>?_);go_upto_region 7 with(fail);refine wp_region_S _ [0,0,2,2,1,0] hK ?_ (sR);clear hK;refine eL0 m0 ?_;refine eL0 m4 ?_;refine eC (fun w k=>(by have q:=rguess_any w (hx.below k.old) (hy.below k.old) (hr.below k.old) ho hbr.out;rw[hRG.out]at q;exact q)) (fun x14=>?_);obtain⟨⟨t15xp,t15xl,t15xc⟩,⟨t15yp,t15yl,t15yc⟩,⟨t15rp,t15rl,t15rc⟩,⟨t15dp,t15dl,t15dc⟩,⟨t15ep,t15el,t15ec⟩⟩:=x14;dsimp only[RsS.v]
  refine eC (fun w k=>lres_any (R:=RG) w (hBs.below k.old) (k.rs m0).1 (k.rs m0).2.1 (k.rs m0).2.2.1 (k.rs m0).2.2.2 hGx.2 hGy.2 hGr.2 hGz hGx.1 hGy.1 hGr.1) (fun x16=>?_);obtain⟨⟨u17xp,u17xl,u17xc⟩,⟨u17yp,u17yl,u17yc⟩,⟨u17rp,u17rl,u17rc⟩,⟨u17dp,u17dl,u17dc⟩,⟨u17ep,u17el,u17ec⟩⟩:=x16;dsimp only[RsS.v];obtain⟨b2,hb2⟩:=nmB (chkB P ⟨RG.k,RG.x,RG.y,RG.r,RG.z⟩);refine eQ (v:=.bool b2) (fun w k=>ccheck_any (P:=P) (kk:=RG.k) (x:=RG.x) (y:=RG.y) (r:=RG.r) (z:=RG.z) (k:=50) w (k.pg m3).1 (k.pg m3).2.1 (k.pg m3).2.2 (fun _=>hm) (by decide) (by decide) (by omega) (by omega) (by omega) (k.lp m0).1 hGx.1 hGx.2 (k.lp m0).2.1 hGy.1 hGy.2 (k.lp m0).2.2.1 hGr.1 hGr.2 (k.lp m0).2.2.2 hGz) ?_ (hv:=by rw[hb2.out]);refine e0 ?_;refine sxEnd (fun W18 hK=>?_)
  cases b2
  . --
   go_wp2
   try go_ret
   show Q0 (.returned (.bool true)) _
   exact(qo hQ0 ⟨rfl,hK.old⟩)
  go_upto_region 9 with(fail);refine wp_region_T [1,2,0,0,0,3,4,0] hK ?_;clear hK;refine eL m2 ?_;refine eC (fun w k=>solve_ok w (k.pg m3).1 (k.pg m3).2.1 (k.pg m3).2.2 hv hm hS hX) (fun x19=>?_);obtain⟨⟨⟨s20xp,s20xl,s20xc⟩,⟨s20yp,s20yl,s20yc⟩,⟨s20rp,s20rl,s20rc⟩,⟨s20dp,s20dl,s20dc⟩,⟨s20ep,s20el,s20ec⟩⟩,Rs20⟩:=x19;dsimp only[RsS.v]
  iterate 3 refine e0 ?_
  refine eA (.cells #[.int .i64 0,.slice none 0 0,.slice none 0 0,.slice none 0 0,.bool false,.slice none 0 0,.slice none 0 0] 45) (fun R21=>?_);refine eZ 0 0 [.int .i64 Rs20.k,.slice s20xp s20xl s20xc,.slice s20yp s20yl s20yc,.slice s20rp s20rl s20rc,.bool (isN Rs20.z),.slice s20dp s20dl s20dc,.slice s20ep s20el s20ec] ?_;refine e0 ?_;refine sxEnd (fun W22 hK=>?_);have hcr:=hid (hK.get m1);have hcg:CertR P RG:=(acc_cert hv).1 (by rw[<-chk_acc];exact hb2.out);have hun:=hid (cert_uni hP hcr.out.1 hcg);go_upto_region 10 with(fail);refine wp_region_S _ [0,0,0,0,0,0,0,0,0,0,0,0,0,0,2,0,1,0,0] hK ?_ (sR);clear hK
  iterate 4 refine e0 ?_
  refine eL0 m0 ?_;refine e0 ?_;refine eL0 m9 ?_;refine eV (.int .i64 s.k) (fun w'=>by go_simp;(try go_bits);first|exact⟨rfl,rfl⟩|(refine⟨congrArg _ ?_,rfl⟩;omega)|exact⟨congrArg _ (by simp),rfl⟩) ?_;refine eV (.bool true) (fun w'=>by go_simp;(try go_bits);exact⟨congrArg Value.bool (by rw[hun.out.1,hGk.out];simp),rfl⟩) ?_
  iterate 3 refine e0 ?_
  refine eL0 m0 ?_;refine eL0 m9 ?_;refine eC (fun w k=>(by have q:=rguess_any w (hx.below k.old) (hy.below k.old) (hr.below k.old) ho hbr.out;rw[hRG.out]at q;exact q)) (fun x23=>?_);obtain⟨⟨t24xp,t24xl,t24xc⟩,⟨t24yp,t24yl,t24yc⟩,⟨t24rp,t24rl,t24rc⟩,⟨t24dp,t24dl,t24dc⟩,⟨t24ep,t24el,t24ec⟩⟩:=x23;dsimp only[RsS.v];refine eV (.agg #[.bool (isN RG.z),.slice t24dp t24dl t24dc,.slice t24ep t24el t24ec]) (fun w'=>by go_simp;(try go_bits);exact⟨rfl,rfl⟩) ?_;refine eQ (fun w k=>is_any (x:=Rs20.z) w (hBs.below k.old) (k.lp m3).2.2.2 (Eq.mp (congrArg (RefR _ _) hun.out.2.symm) (k.rs m0).2.2.2) (sml_lm hcr.out.2.z hX)) ?_
  iterate 2 refine e0 ?_
  refine sxEnd (fun W25 hK=>?_);go_wp2
  try go_ret
  show Q0 (.returned (.bool true)) _
  exact(qo hQ0 ⟨rfl,hK.old⟩)
end Go.Proofs.YtgemmbpjebijlaaGreatDoor
