/- Law 40: a program and its dual. -/

import Derived.Test.YtjhaedfpigebdaaGreatDoorQF
namespace Go.Proofs.YtjhaedfpigebdaaGreatDoor
open Go.RowKit
open Go.Lib (decDigits)
theorem dual_eq{a b:Int}(h:a=1↔b=1):((a==1)==(b==1))=true:=by
  by_cases e:a=1
  . rw[e,h.1 e];rfl
  have e2:¬b=1:=fun q=>e (h.2 q)
  rw[show(a==1)=false from by simpa using e,show(b==1)=false from by simpa using e2];rfl
set_option maxRecDepth 100000 in
set_option maxHeartbeats 2000000 in
theorem lpDual_any(w:World){cp ap bp:Option Addr}{cl cc al ac bl bc:Nat}{s:Sm}(hs:s.Ok)(hC:SlV i8K w (.slice cp cl cc) s.c)(hA:SlV i8K w (.slice ap al ac) s.a)(hB:SlV i8K w (.slice bp bl bc) s.b)(hBs:Bas w):
    Calls Tryz.prog 9 #[.agg #[.slice cp cl cc,.slice ap al ac,.slice bp bl bc]] w fun e w'=>e=.returned (.bool true)/\Below w.heap.size w w':=by
  have hK:=SS.start w;obtain⟨P,hP9⟩:∃P,Hid (P=ofSm s):=⟨_,hid rfl⟩;have hv:vldP P=true:=(by rw[hP9.out];exact ofSm_v s);have hm:LmP 50 P:=(by rw[hP9.out];exact ofSm_lm hs 50 (by decide));have hS:LimS X5 P:=(by rw[hP9.out];exact ofSm_lims hs);have hP:=vld_ok hv;have hX:=X5_lt;have hm1:=hm.n;have hm2:=hm.m;have hb9:P.b.length<=12:=(by rw[hP.hb];exact hm2);have hn4:P.c.length<=4:=(by rw[hP9.out,ofSm_n];exact(ofN_le s).2);have hn1:1<=P.c.length:=(by rw[hP9.out,ofSm_n];exact(ofN_le s).1);have hm5:P.A.length<=5:=(by rw[hP9.out,ofSm_m];exact ofM_le s);have hF:FrP 1 128 P:=(by rw[hP9.out];exact ofSm_fr hs);have hbl:=hid hP.hb;refine Calls.hide (fun Q0 hQ0=>?_);go_enter Tryz.func9,Tryz.ntmps9;go_upto_region 0 with(fail);refine wp_region_T [3,0] hK ?_;clear hK;refine eA (.cells #[.slice cp cl cc,.slice ap al ac,.slice bp bl bc] 24) (fun R1=>?_);refine e0 ?_;refine sxEnd (fun W2 hK=>?_);go_upto_region 1 with(fail);refine wp_region_T [1,0] hK ?_;clear hK;refine eQ (fun w k=>awake40_any w (hBs.below k.old)) ?_;refine e0 ?_;refine sxEnd (fun W3 hK=>?_);go_upto_region 3 with(fail);refine wp_region_T [1,2,3,4] hK ?_;clear hK;refine eL m0 ?_;refine eC (fun w k=>(by have q:=smof_any w hs (hC.below k.old) (hA.below k.old) (hB.below k.old);rw[<-hP9.out]at q;exact q)) (fun x4=>?_);obtain⟨⟨g5cp,g5cl,g5cc⟩,⟨g5ap,g5al,g5ac⟩,⟨g5bp,g5bl,g5bc⟩,g5s⟩:=x4;dsimp only[PgR.v];refine eA (.cells #[.slice none 0 0,.slice none 0 0,.slice none 0 0] 29) (fun R6=>?_);refine eP 0 0 [.slice g5cp g5cl g5cc,.slice g5ap g5al g5ac,.slice g5bp g5bl g5bc] ?_;refine sxEnd (fun W7 hK=>?_)
  rcases Nat.eq_zero_or_pos P.A.length with hz|hz
  . --
   go_upto_region 4 with(fail);refine wp_region_T [1,2,1,0,0,0,3,4,0] hK ?_;clear hK;refine eL m0 ?_;refine eC (fun w k=>program_any w (k.pg m1).1 (k.pg m1).2.1 (k.pg m1).2.2 (hBs.below k.old) hm hP) (fun x8=>?_);obtain⟨⟨g9cp,g9cl,g9cc⟩,⟨g9ap,g9al,g9ac⟩,⟨g9bp,g9bl,g9bc⟩,g9s⟩:=x8;dsimp only[PgR.v];refine eQ (fun w k=>lpdual_no w (k.pg m0).1 (k.pg m0).2.1 (k.pg m0).2.2 hv hP hz (by omega)) ?_
   iterate 3 refine e0 ?_
   refine eA (.cells #[.slice none 0 0,.slice none 0 0,.slice none 0 0] 59) (fun R10=>?_);refine eP 0 0 [.slice none 0 0,.slice none 0 0,.slice none 0 0] ?_;refine e0 ?_;refine sxEnd (fun W11 hK=>?_);have hgl:=(hK.pg m3).2.1.one0;dsimp only at hgl;have⟨hgl1,hgl2⟩:=lle hgl;clear hgl;go_upto_region 5 with(fail);refine wp_region_T [0,1,0,0] hK ?_;clear hK;refine e0 ?_;refine eL m2 ?_;refine e0 ?_;refine eB (((g5al:Int))==0) (fun b1 hb1=>?_);refine sxEnd (fun W12 hK=>?_)
   cases b1
   . --
    exact absurd hb1.out (by simp;omega)
   go_upto_region 6 with(fail);refine wp_region_T [0,0,0,0,1,0,0,0,0] hK ?_;clear hK;refine e0 ?_;refine eV (.bool true) (fun w'=>by go_simp;(try go_bits);exact⟨rfl,rfl⟩) ?_
   iterate 2 refine e0 ?_
   refine eL m0 ?_;refine e0 ?_;refine eV (.bool true) (fun w'=>by go_simp;(try go_bits);exact⟨rfl,rfl⟩) ?_
   iterate 2 refine e0 ?_
   refine sxEnd (fun W13 hK=>?_);go_wp2
   try go_ret
   show Q0 (.returned (.bool true)) _
   exact(qo hQ0 ⟨rfl,hK.old⟩)
  go_upto_region 4 with(fail);refine wp_region_T [1,2,2,0,0,0,3,4,0] hK ?_;clear hK;refine eL m0 ?_;refine eC (fun w k=>program_any w (k.pg m1).1 (k.pg m1).2.1 (k.pg m1).2.2 (hBs.below k.old) hm hP) (fun x14=>?_);obtain⟨⟨g15cp,g15cl,g15cc⟩,⟨g15ap,g15al,g15ac⟩,⟨g15bp,g15bl,g15bc⟩,g15s⟩:=x14;dsimp only[PgR.v];refine eC (fun w k=>lpdual_any w (k.pg m0).1 (k.pg m0).2.1 (k.pg m0).2.2 hv hP hz (by omega) (by omega)) (fun x16=>?_);obtain⟨⟨g17cp,g17cl,g17cc⟩,⟨g17ap,g17al,g17ac⟩,⟨g17bp,g17bl,g17bc⟩,g17s⟩:=x16;dsimp only[PgR.v]
  iterate 3 refine e0 ?_
  refine eA (.cells #[.slice none 0 0,.slice none 0 0,.slice none 0 0] 59) (fun R18=>?_);refine eP 0 0 [.slice g17cp g17cl g17cc,.slice g17ap g17al g17ac,.slice g17bp g17bl g17bc] ?_;refine e0 ?_;refine sxEnd (fun W19 hK=>?_);have hgl:=(hK.pg m4).2.1.one0;dsimp only at hgl;have⟨hgl1,hgl2⟩:=lle hgl;clear hgl;go_upto_region 5 with(fail);refine wp_region_T [0,1,0,0] hK ?_;clear hK;refine e0 ?_;refine eL m3 ?_;refine e0 ?_;refine eB (((g5al:Int))==0) (fun b1 hb1=>?_);refine sxEnd (fun W20 hK=>?_)
  cases b1
  . --
   go_upto_region 7 with(fail);refine wp_region_T [1,2,3,4] hK ?_;clear hK;refine eL m3 ?_;refine eC (fun w k=>rdual_any w (k.pg m4).1 (k.pg m4).2.1 (k.pg m4).2.2 hm hP) (fun x21=>?_);obtain⟨⟨g22cp,g22cl,g22cc⟩,⟨g22ap,g22al,g22ac⟩,⟨g22bp,g22bl,g22bc⟩,g22s⟩:=x21;dsimp only[PgR.v];refine eA (.cells #[.slice none 0 0,.slice none 0 0,.slice none 0 0] 29) (fun R23=>?_);refine eP 0 0 [.slice g22cp g22cl g22cc,.slice g22ap g22al g22ac,.slice g22bp g22bl g22bc] ?_;refine sxEnd (fun W24 hK=>?_);obtain⟨hOg25C,hOg25A,hOg25B⟩:=hK.pg m1;dsimp only at hOg25C hOg25A hOg25B;obtain⟨hOg26C,hOg26A,hOg26B⟩:=hK.pg m3;dsimp only at hOg26C hOg26A hOg26B;obtain⟨hOg27C,hOg27A,hOg27B⟩:=hK.pg m4;dsimp only at hOg27C hOg27A hOg27B;obtain⟨hOg28C,hOg28A,hOg28B⟩:=hK.pg m6;dsimp only at hOg28C hOg28A hOg28B;replace hBs:=hBs.below hK.old;have hO30:=hK.box m0;have hO31:=hK.box m2;have hO32:=hK.box m5;have hO33:=hK.box m7;have hB29:=hK.old;have hKo:=hK.old;clear hK;have hK:=SS.start W24;clear hKo;have⟨hOg25C1,hOg25C2⟩:=lle hOg25C.one0;have⟨hOg25A1,hOg25A2⟩:=lle hOg25A.one0;have⟨hOg25B1,hOg25B2⟩:=lle hOg25B.one0;have⟨hOg26C1,hOg26C2⟩:=lle hOg26C.one0;have⟨hOg26A1,hOg26A2⟩:=lle hOg26A.one0;have⟨hOg26B1,hOg26B2⟩:=lle hOg26B.one0;have⟨hOg27C1,hOg27C2⟩:=lle hOg27C.one0;have⟨hOg27A1,hOg27A2⟩:=lle hOg27A.one0;have⟨hOg27B1,hOg27B2⟩:=lle hOg27B.one0;have⟨hOg28C1,hOg28C2⟩:=lle hOg28C.one0;have⟨hOg28A1,hOg28A2⟩:=lle hOg28A.one0;have⟨hOg28B1,hOg28B2⟩:=lle hOg28B.one0;have d1:=Nat.le_of_eq (dual_A (P:=P));have d2:=Nat.le_of_eq (dual_A (P:=P)).symm;have d3:=Nat.le_of_eq (dual_c (P:=P));have d4:=Nat.le_of_eq (dual_c (P:=P)).symm;have d5:P.dual.b.length<=P.c.length:=(by simp[LPd.dual]);have d6:P.c.length<=P.dual.b.length:=(by simp[LPd.dual]);have d7:P.b.length<=P.A.length:=Nat.le_of_eq hbl.out;have d8:P.A.length<=P.b.length:=Nat.le_of_eq hbl.out.symm;have hPD:=hP.dual;have⟨hvQ,hmQ,hSQ⟩:=made_ok (n:=5) hPD hF.dual (by omega) (by omega) (by omega) (.inl (by omega)) bd5_rot;go_upto_region 8 with(fail);refine wp_region_T [0,0,0,0,0,0,0,0,0,0,0,0,0,0,0,0,0,0,0,0,0,0,0,0,0,0,0,0,0] hK ?_
   clear hK
   iterate 4 refine e0 ?_
   refine eX0 (fun w k=>hO31.below k.old) ?_
   iterate 2 refine e0 ?_
   refine eX0 (fun w k=>hO30.below k.old) ?_;refine e0 ?_;refine eB (((g17al:Int)) !=((g22al:Int))) (fun b2 hb2=>?_)
   iterate 2 refine e0 ?_
   cases b2
   . --
    refine e0 ?_;refine eX0 (fun w k=>hO31.below k.old) ?_
    iterate 2 refine e0 ?_
    refine eX0 (fun w k=>hO30.below k.old) ?_;refine e0 ?_;refine eB (((g17bl:Int)) !=((g22bl:Int))) (fun b3 hb3=>?_)
    iterate 2 refine e0 ?_
    cases b3
    . --
     refine e0 ?_;refine eX0 (fun w k=>hO31.below k.old) ?_
     iterate 2 refine e0 ?_
     refine eX0 (fun w k=>hO30.below k.old) ?_;refine e0 ?_;refine eB (((g17cl:Int)) !=((g22cl:Int))) (fun b4 hb4=>?_);refine e0 ?_;refine sxEnd (fun W34 hK=>?_)
     cases b4
     . --
      go_wp2_with fail;go_loopw [7] (fun s7 wl=> ∃(mk:Nat),s7=.int .i64 (mk:Int)/\(mk<=P.c.length)/\SS W24 ([]) wl) (fun s7 _=>P.c.length-(intOf s7).toNat)
      case atStart=>exact⟨0,rfl,(by omega),hK⟩
      clear hK;obtain⟨mk,rfl,hmk,hK⟩:=hrel;generalize wr=W35 at hK⊢;go_upto_region 11 with(fail);refine wp_region_T [0,0,0,0,0] hK ?_;clear hK
      iterate 2 refine e0 ?_
      refine eX0 (fun w k=>hO30.below k.old) ?_;refine e0 ?_;refine eB (decide (((mk:Int))<((g22al:Int)))) (fun b5 hb5=>?_);refine sxEnd (fun W36 hK=>?_)
      cases b5
      . --
       have q_b5:=nlt hb5;go_upto_region 20 with(fail);refine wp_region_T [0,2,0,0,0,3,4,0] hK ?_;clear hK;refine eX0 (fun w k=>hO32.below k.old) ?_;refine eC (fun w k=>lsolve_any w (hOg28C.below k.old) (hOg28A.below k.old) (hOg28B.below k.old) (hBs.below k.old) hv hm hS hX) (fun x37=>?_);obtain⟨⟨⟨t38xp,t38xl,t38xc⟩,⟨t38yp,t38yl,t38yc⟩,⟨t38rp,t38rl,t38rc⟩,⟨t38dp,t38dl,t38dc⟩,⟨t38ep,t38el,t38ec⟩⟩,Rt38⟩:=x37;dsimp only[RsS.v]
       iterate 3 refine e0 ?_
       refine eA (.cells #[.int .i64 0,.slice none 0 0,.slice none 0 0,.slice none 0 0,.bool false,.slice none 0 0,.slice none 0 0] 36) (fun R39=>?_);refine eZ 0 0 [.int .i64 Rt38.k,.slice t38xp t38xl t38xc,.slice t38yp t38yl t38yc,.slice t38rp t38rl t38rc,.bool (isN Rt38.z),.slice t38dp t38dl t38dc,.slice t38ep t38el t38ec] ?_;refine e0 ?_;refine sxEnd (fun W40 hK=>?_);go_upto_region 21 with(fail);refine wp_region_T [0,2,0,0,0,3,4,0] hK ?_;clear hK;refine eX0 (fun w k=>hO30.below k.old) ?_;refine eC (fun w k=>lsolve_any w (hOg25C.below k.old) (hOg25A.below k.old) (hOg25B.below k.old) (hBs.below k.old) hvQ hmQ hSQ bd5_rot) (fun x41=>?_);obtain⟨⟨⟨t42xp,t42xl,t42xc⟩,⟨t42yp,t42yl,t42yc⟩,⟨t42rp,t42rl,t42rc⟩,⟨t42dp,t42dl,t42dc⟩,⟨t42ep,t42el,t42ec⟩⟩,Rt42⟩:=x41;dsimp only[RsS.v]
       iterate 3 refine e0 ?_
       refine eA (.cells #[.int .i64 0,.slice none 0 0,.slice none 0 0,.slice none 0 0,.bool false,.slice none 0 0,.slice none 0 0] 36) (fun R43=>?_);refine eZ 0 0 [.int .i64 Rt42.k,.slice t42xp t42xl t42xc,.slice t42yp t42yl t42yc,.slice t42rp t42rl t42rc,.bool (isN Rt42.z),.slice t42dp t42dl t42dc,.slice t42ep t42el t42ec] ?_;refine e0 ?_;refine sxEnd (fun W44 hK=>?_);have hcRt42:=hid (hK.get m1);have hcRt38:=hid (hK.get m4);have hdb:=hid (dual_both hP hcRt38.out.1 hcRt42.out.1);go_upto_region 22 with(fail);refine wp_region_T [0,0,0,0,0,0,0,0,1,0,0,0,1,0,0,0,0,0,1,0,0,0,1,0,0,0] hK ?_;clear hK
       iterate 8 refine e0 ?_
       refine eL m3 ?_;refine eB (Rt38.k==3) (fun b6 hb6=>?_);refine e0 ?_
       cases b6
       . --
        iterate 3 refine eN ?_
        iterate 4 refine e0 ?_
        refine eL m0 ?_;refine eB (Rt42.k==3) (fun b7 hb7=>?_);refine e0 ?_
        cases b7
        . --
         iterate 3 refine eN ?_
         iterate 2 refine e0 ?_
         refine sxEnd (fun W45 hK=>?_);go_upto_region 24 with(fail);refine wp_region_T [0,1,0,0,1,0,0,0,0,1,0,0,0,1,0,1,2,1,0,0,0,0] hK ?_;clear hK;refine e0 ?_;refine eL m3 ?_;refine eB (Rt38.k==1) (fun b8 hb8=>?_);refine e0 ?_;refine eL m0 ?_;refine eB (Rt42.k==1) (fun b9 hb9=>?_);refine eV (.bool true) (fun w'=>by go_simp;(try go_bits);exact⟨congrArg Value.bool (by rw[<-hb8.out, <-hb9.out];exact dual_eq hdb.out.2.2.1),rfl⟩) ?_
         iterate 2 refine e0 ?_
         refine eL m3 ?_;refine eB (Rt38.k !=1) (fun b10 hb10=>?_);refine e0 ?_
         cases b10
         . --
          refine e0 ?_;refine eL m3 ?_;refine e0 ?_;refine eL m0 ?_;refine eC (fun w k=>ref_S (radd_q _ _ _ _ w (k.rs m5).2.2.2 (k.rs m2).2.2.2 (sml_lm hcRt38.out.2.z hX) (sml_lm hcRt42.out.2.z bd5_rot) (by first|decide|omega))) (fun x46=>?_);obtain⟨⟨p47,l47,c47⟩,⟨q47,u47,d47⟩⟩:=x46;dsimp only;obtain⟨z1,hz1⟩:=nmI (sgQ (Rt38.z+Rt42.z));refine eQ (v:=.int .i64 z1) (fun w k=>rsign_q _ _ w (k.rq m0)) ?_ (hv:=by rw[hz1.out]);refine eV (.bool true) (fun w'=>by go_simp;(try go_bits);exact⟨congrArg Value.bool (by rw[<-hz1.out,sgQ_zero.2 (hdb.out.2.2.2 (by have q:=hb10.out;simpa using q))];rfl),rfl⟩) ?_
          iterate 3 refine e0 ?_
          refine sxEnd (fun W48 hK=>?_);go_wp2
          try go_ret
          show Q0 (.returned (.bool true)) _
          exact(qo hQ0 ⟨rfl,hB29.trans (hK.old.mono hB29.size)⟩)
         iterate 7 refine eN ?_
         iterate 3 refine e0 ?_
         refine sxEnd (fun W49 hK=>?_);go_wp2
         try go_ret
         show Q0 (.returned (.bool true)) _
         exact(qo hQ0 ⟨rfl,hB29.trans (hK.old.mono hB29.size)⟩)
        refine e0 ?_;refine eL m3 ?_;refine eV (.bool false) (fun w'=>by go_simp;(try go_bits);exact⟨congrArg Value.bool (by have q:=hb7.out;simp at q;simp[hdb.out.2.1 q]),rfl⟩) ?_
        iterate 2 refine e0 ?_
        refine sxEnd (fun W50 hK=>?_);go_upto_region 24 with(fail);refine wp_region_T [0,1,0,0,1,0,0,0,0,1,0,0,0,1,0,1,2,1,0,0,0,0] hK ?_;clear hK;refine e0 ?_;refine eL m3 ?_;refine eB (Rt38.k==1) (fun b8 hb8=>?_);refine e0 ?_;refine eL m0 ?_;refine eB (Rt42.k==1) (fun b9 hb9=>?_);refine eV (.bool true) (fun w'=>by go_simp;(try go_bits);exact⟨congrArg Value.bool (by rw[<-hb8.out, <-hb9.out];exact dual_eq hdb.out.2.2.1),rfl⟩) ?_
        iterate 2 refine e0 ?_
        refine eL m3 ?_;refine eB (Rt38.k !=1) (fun b10 hb10=>?_);refine e0 ?_
        cases b10
        . --
         refine e0 ?_;refine eL m3 ?_;refine e0 ?_;refine eL m0 ?_;refine eC (fun w k=>ref_S (radd_q _ _ _ _ w (k.rs m5).2.2.2 (k.rs m2).2.2.2 (sml_lm hcRt38.out.2.z hX) (sml_lm hcRt42.out.2.z bd5_rot) (by first|decide|omega))) (fun x51=>?_);obtain⟨⟨p52,l52,c52⟩,⟨q52,u52,d52⟩⟩:=x51;dsimp only;obtain⟨z1,hz1⟩:=nmI (sgQ (Rt38.z+Rt42.z));refine eQ (v:=.int .i64 z1) (fun w k=>rsign_q _ _ w (k.rq m0)) ?_ (hv:=by rw[hz1.out]);refine eV (.bool true) (fun w'=>by go_simp;(try go_bits);exact⟨congrArg Value.bool (by rw[<-hz1.out,sgQ_zero.2 (hdb.out.2.2.2 (by have q:=hb10.out;simpa using q))];rfl),rfl⟩) ?_
         iterate 3 refine e0 ?_
         refine sxEnd (fun W53 hK=>?_);go_wp2
         try go_ret
         show Q0 (.returned (.bool true)) _
         exact(qo hQ0 ⟨rfl,hB29.trans (hK.old.mono hB29.size)⟩)
        iterate 7 refine eN ?_
        iterate 3 refine e0 ?_
        refine sxEnd (fun W54 hK=>?_);go_wp2
        try go_ret
        show Q0 (.returned (.bool true)) _
        exact(qo hQ0 ⟨rfl,hB29.trans (hK.old.mono hB29.size)⟩)
       refine e0 ?_;refine eL m0 ?_;refine eV (.bool false) (fun w'=>by go_simp;(try go_bits);exact⟨congrArg Value.bool (by have q:=hb6.out;simp at q;simp[hdb.out.1 q]),rfl⟩) ?_
       iterate 4 refine e0 ?_
       refine eL m0 ?_;refine eB (Rt42.k==3) (fun b7 hb7=>?_);refine e0 ?_
       cases b7
       . --
        iterate 3 refine eN ?_
        iterate 2 refine e0 ?_
        refine sxEnd (fun W55 hK=>?_);go_upto_region 24 with(fail);refine wp_region_T [0,1,0,0,1,0,0,0,0,1,0,0,0,1,0,1,2,1,0,0,0,0] hK ?_;clear hK;refine e0 ?_;refine eL m3 ?_;refine eB (Rt38.k==1) (fun b8 hb8=>?_);refine e0 ?_;refine eL m0 ?_;refine eB (Rt42.k==1) (fun b9 hb9=>?_);refine eV (.bool true) (fun w'=>by go_simp;(try go_bits);exact⟨congrArg Value.bool (by rw[<-hb8.out, <-hb9.out];exact dual_eq hdb.out.2.2.1),rfl⟩) ?_
        iterate 2 refine e0 ?_
        refine eL m3 ?_;refine eB (Rt38.k !=1) (fun b10 hb10=>?_);refine e0 ?_
        cases b10
        . --
         refine e0 ?_;refine eL m3 ?_;refine e0 ?_;refine eL m0 ?_;refine eC (fun w k=>ref_S (radd_q _ _ _ _ w (k.rs m5).2.2.2 (k.rs m2).2.2.2 (sml_lm hcRt38.out.2.z hX) (sml_lm hcRt42.out.2.z bd5_rot) (by first|decide|omega))) (fun x56=>?_);obtain⟨⟨p57,l57,c57⟩,⟨q57,u57,d57⟩⟩:=x56;dsimp only;obtain⟨z1,hz1⟩:=nmI (sgQ (Rt38.z+Rt42.z));refine eQ (v:=.int .i64 z1) (fun w k=>rsign_q _ _ w (k.rq m0)) ?_ (hv:=by rw[hz1.out]);refine eV (.bool true) (fun w'=>by go_simp;(try go_bits);exact⟨congrArg Value.bool (by rw[<-hz1.out,sgQ_zero.2 (hdb.out.2.2.2 (by have q:=hb10.out;simpa using q))];rfl),rfl⟩) ?_
         iterate 3 refine e0 ?_
         refine sxEnd (fun W58 hK=>?_);go_wp2
         try go_ret
         show Q0 (.returned (.bool true)) _
         exact(qo hQ0 ⟨rfl,hB29.trans (hK.old.mono hB29.size)⟩)
        iterate 7 refine eN ?_
        iterate 3 refine e0 ?_
        refine sxEnd (fun W59 hK=>?_);go_wp2
        try go_ret
        show Q0 (.returned (.bool true)) _
        exact(qo hQ0 ⟨rfl,hB29.trans (hK.old.mono hB29.size)⟩)
       refine e0 ?_;refine eL m3 ?_;refine eV (.bool false) (fun w'=>by go_simp;(try go_bits);exact⟨congrArg Value.bool (by have q:=hb7.out;simp at q;simp[hdb.out.2.1 q]),rfl⟩) ?_
       iterate 2 refine e0 ?_
       refine sxEnd (fun W60 hK=>?_);go_upto_region 24 with(fail);refine wp_region_T [0,1,0,0,1,0,0,0,0,1,0,0,0,1,0,1,2,1,0,0,0,0] hK ?_;clear hK;refine e0 ?_;refine eL m3 ?_;refine eB (Rt38.k==1) (fun b8 hb8=>?_);refine e0 ?_;refine eL m0 ?_;refine eB (Rt42.k==1) (fun b9 hb9=>?_);refine eV (.bool true) (fun w'=>by go_simp;(try go_bits);exact⟨congrArg Value.bool (by rw[<-hb8.out, <-hb9.out];exact dual_eq hdb.out.2.2.1),rfl⟩) ?_
       iterate 2 refine e0 ?_
       refine eL m3 ?_;refine eB (Rt38.k !=1) (fun b10 hb10=>?_);refine e0 ?_
       cases b10
       . --
        refine e0 ?_;refine eL m3 ?_;refine e0 ?_;refine eL m0 ?_;refine eC (fun w k=>ref_S (radd_q _ _ _ _ w (k.rs m5).2.2.2 (k.rs m2).2.2.2 (sml_lm hcRt38.out.2.z hX) (sml_lm hcRt42.out.2.z bd5_rot) (by first|decide|omega))) (fun x61=>?_);obtain⟨⟨p62,l62,c62⟩,⟨q62,u62,d62⟩⟩:=x61;dsimp only;obtain⟨z1,hz1⟩:=nmI (sgQ (Rt38.z+Rt42.z));refine eQ (v:=.int .i64 z1) (fun w k=>rsign_q _ _ w (k.rq m0)) ?_ (hv:=by rw[hz1.out]);refine eV (.bool true) (fun w'=>by go_simp;(try go_bits);exact⟨congrArg Value.bool (by rw[<-hz1.out,sgQ_zero.2 (hdb.out.2.2.2 (by have q:=hb10.out;simpa using q))];rfl),rfl⟩) ?_
        iterate 3 refine e0 ?_
        refine sxEnd (fun W63 hK=>?_);go_wp2
        try go_ret
        show Q0 (.returned (.bool true)) _
        exact(qo hQ0 ⟨rfl,hB29.trans (hK.old.mono hB29.size)⟩)
       iterate 7 refine eN ?_
       iterate 3 refine e0 ?_
       refine sxEnd (fun W64 hK=>?_);go_wp2
       try go_ret
       show Q0 (.returned (.bool true)) _
       exact(qo hQ0 ⟨rfl,hB29.trans (hK.old.mono hB29.size)⟩)
      have q_b5:=ylt hb5;have i65:mk<g17al:=(by omega);obtain⟨g65,o65,rfl⟩:=hOg26A.pt i65;have l65:mk<P.dual.A.length:=Nat.lt_of_lt_of_eq i65 (hOg26A.one0);obtain⟨a,ea⟩:=gtH l65;obtain⟨⟨a_p,a_l,a_c⟩,a_h,a_s⟩:=hOg26A.row ea.out;dsimp only at a_h a_s;have a_n:=hid a_s.one0;have⟨a_n1,a_n2⟩:=lle a_n.out;have i66:mk<g22al:=(by omega);obtain⟨g66,o66,rfl⟩:=hOg25A.pt i66;have l66:mk<P.dual.A.length:=Nat.lt_of_lt_of_eq i66 (hOg25A.one0);obtain⟨b,eb⟩:=gtH l66;obtain⟨⟨b_p,b_l,b_c⟩,b_h,b_s⟩:=hOg25A.row eb.out;dsimp only at b_h b_s;have b_n:=hid b_s.one0;have⟨b_n1,b_n2⟩:=lle b_n.out;rw[show b=a from Option.some.inj (eb.out.symm.trans ea.out)]at b_s b_n b_n1 b_n2;have hla:=hPD.ha a (List.mem_of_getElem? ea.out);have i67:mk<g17bl:=(by omega);obtain⟨g67,o67,rfl⟩:=hOg26B.pt i67;have l67:mk<P.dual.b.length:=Nat.lt_of_lt_of_eq i67 (hOg26B.one0);obtain⟨x,ex⟩:=gtH l67;obtain⟨_,_,_,x_c,x_r⟩:=hOg26B.rat ex.out;obtain⟨rfl,⟨x_p,x_n,x_d,rfl⟩,x_q,x_m,x_e,rfl⟩:=ratV_cells' x_r;have i68:mk<g22bl:=(by omega);obtain⟨g68,o68,rfl⟩:=hOg25B.pt i68;have l68:mk<P.dual.b.length:=Nat.lt_of_lt_of_eq i68 (hOg25B.one0);obtain⟨y,ey⟩:=gtH l68;obtain⟨_,_,_,y_c,y_r⟩:=hOg25B.ref ey.out;obtain⟨rfl,⟨y_p,y_n,y_d,rfl⟩,y_q,y_m,y_e,rfl⟩:=refR_cells y_r;have hxy:=hid (show y=x from Option.some.inj (ey.out.symm.trans ex.out));have hlx:=hid (hmQ.b x (List.mem_of_getElem? ex.out));go_upto_region 13 with(fail);refine wp_region_S _ [0,0,0,0,0,0,0,0,0,0,0,0,0,0,0,0,1,0,0,0,0,0,1,0,0] hK ?_ (sR);clear hK;refine e0 ?_;refine eX0 (fun w k=>hO31.below k.old) ?_
      iterate 2 refine e0 ?_
      refine eR0 (fun w k=>celB a_h k.old) ?_
      iterate 2 refine e0 ?_
      refine eX0 (fun w k=>hO30.below k.old) ?_;refine e0 ?_;refine eV (.bool false) (fun w'=>by go_simp;(try go_bits);exact⟨congrArg Value.bool (by simp;omega),rfl⟩) ?_
      iterate 2 refine e0 ?_
      refine eX0 (fun w k=>hO31.below k.old) ?_
      iterate 2 refine e0 ?_
      refine eRm3 (fun w k=>x_c.below k.old) ?_;refine eQ (fun w k=>qtext_q _ _ w (x_r.below k.old) (hBs.below k.old) hlx.out (by decide)) ?_;refine e0 ?_;refine eX0 (fun w k=>hO30.below k.old) ?_
      iterate 2 refine e0 ?_
      refine eRm3 (fun w k=>y_c.below k.old) ?_;refine eQ (fun w k=>rtext_q _ _ w (y_r.below k.old) (hxy.out▸hlx.out) (by decide)) ?_;refine eV (.bool false) (fun w'=>by go_simp;(try go_bits);rw[hxy.out];first|exact⟨rfl,rfl⟩|exact⟨congrArg Value.bool (by simp),rfl⟩) ?_;refine e0 ?_;refine sxEnd (fun W69 hK=>?_);go_wp2_with fail;go_loopw [8] (fun s8 wl=> ∃(mi:Nat),s8=.int .i64 (mi:Int)/\(mi<=P.A.length)/\SS W24 ([]) wl) (fun s8 _=>P.A.length-(intOf s8).toNat)
      case atStart=>exact⟨0,rfl,(by omega),hK⟩
      clear hK;obtain⟨mi,rfl,hmi,hK⟩:=hrel;generalize wr=W70 at hK⊢;go_upto_region 16 with(fail);refine wp_region_T [0,0,0,0,0] hK ?_;clear hK
      iterate 2 refine e0 ?_
      refine eX0 (fun w k=>hO30.below k.old) ?_;refine e0 ?_;refine eB (decide (((mi:Int))<((g22cl:Int)))) (fun b6 hb6=>?_);refine sxEnd (fun W71 hK=>?_)
      cases b6
      . --
       have q_b6:=nlt hb6
       (try go_wp2)
       go_roundw
       case rel=>exact⟨mk+1,(by first|rfl|go_num),(by omega),hK⟩
       case measure=>simp[intOf]<;>omega
      have q_b6:=ylt hb6;have i72:mi<a_l:=(by omega);obtain⟨g72,o72,rfl⟩:=a_s.pt i72;have l72:mi<a.length:=Nat.lt_of_lt_of_eq i72 (a_s.one0);obtain⟨x2,ex2⟩:=gtH l72;obtain⟨_,_,_,x2_c,x2_r⟩:=a_s.rat ex2.out;obtain⟨rfl,⟨x2_p,x2_n,x2_d,rfl⟩,x2_q,x2_m,x2_e,rfl⟩:=ratV_cells' x2_r;have i73:mi<b_l:=(by omega);obtain⟨g73,o73,rfl⟩:=b_s.pt i73;have l73:mi<a.length:=Nat.lt_of_lt_of_eq i73 (b_s.one0);obtain⟨y2,ey2⟩:=gtH l73;obtain⟨_,_,_,y2_c,y2_r⟩:=b_s.ref ey2.out;obtain⟨rfl,⟨y2_p,y2_n,y2_d,rfl⟩,y2_q,y2_m,y2_e,rfl⟩:=refR_cells y2_r;have hx2y2:=hid (show y2=x2 from Option.some.inj (ey2.out.symm.trans ex2.out));have hlx2:=hid (hmQ.a a (List.mem_of_getElem? ea.out) x2 (List.mem_of_getElem? ex2.out));have i74:mi<g17cl:=(by omega);obtain⟨g74,o74,rfl⟩:=hOg26C.pt i74;have l74:mi<P.dual.c.length:=Nat.lt_of_lt_of_eq i74 (hOg26C.one0);obtain⟨x3,ex3⟩:=gtH l74;obtain⟨_,_,_,x3_c,x3_r⟩:=hOg26C.rat ex3.out;obtain⟨rfl,⟨x3_p,x3_n,x3_d,rfl⟩,x3_q,x3_m,x3_e,rfl⟩:=ratV_cells' x3_r;have i75:mi<g22cl:=(by omega);obtain⟨g75,o75,rfl⟩:=hOg25C.pt i75;have l75:mi<P.dual.c.length:=Nat.lt_of_lt_of_eq i75 (hOg25C.one0);obtain⟨y3,ey3⟩:=gtH l75;obtain⟨_,_,_,y3_c,y3_r⟩:=hOg25C.ref ey3.out;obtain⟨rfl,⟨y3_p,y3_n,y3_d,rfl⟩,y3_q,y3_m,y3_e,rfl⟩:=refR_cells y3_r;have hx3y3:=hid (show y3=x3 from Option.some.inj (ey3.out.symm.trans ex3.out));have hlx3:=hid (hmQ.c x3 (List.mem_of_getElem? ex3.out));go_upto_region 18 with(fail);refine wp_region_S _ [0,0,0,0,0,0,0,0,1,0,0,0,0,0,0,0,0,1,0,0,0,0,0,0,0,1,0,0,0,0,0,1,0,0] hK ?_ (sR);clear hK;refine e0 ?_;refine eX0 (fun w k=>hO31.below k.old) ?_
      iterate 2 refine e0 ?_
      refine eR0 (fun w k=>celB a_h k.old) ?_
      iterate 2 refine e0 ?_
      refine eRm3 (fun w k=>x2_c.below k.old) ?_;refine eQ (fun w k=>qtext_q _ _ w (x2_r.below k.old) (hBs.below k.old) hlx2.out (by decide)) ?_;refine e0 ?_;refine eX0 (fun w k=>hO30.below k.old) ?_
      iterate 2 refine e0 ?_
      refine eR0 (fun w k=>celB b_h k.old) ?_
      iterate 2 refine e0 ?_
      refine eRm3 (fun w k=>y2_c.below k.old) ?_;refine eQ (fun w k=>rtext_q _ _ w (y2_r.below k.old) (hx2y2.out▸hlx2.out) (by decide)) ?_;refine eV (.bool false) (fun w'=>by go_simp;(try go_bits);rw[hx2y2.out];first|exact⟨rfl,rfl⟩|exact⟨congrArg Value.bool (by simp),rfl⟩) ?_
      iterate 2 refine e0 ?_
      refine eX0 (fun w k=>hO31.below k.old) ?_
      iterate 2 refine e0 ?_
      refine eRm3 (fun w k=>x3_c.below k.old) ?_;refine eQ (fun w k=>qtext_q _ _ w (x3_r.below k.old) (hBs.below k.old) hlx3.out (by decide)) ?_;refine e0 ?_;refine eX0 (fun w k=>hO30.below k.old) ?_
      iterate 2 refine e0 ?_
      refine eRm3 (fun w k=>y3_c.below k.old) ?_;refine eQ (fun w k=>rtext_q _ _ w (y3_r.below k.old) (hx3y3.out▸hlx3.out) (by decide)) ?_;refine eV (.bool false) (fun w'=>by go_simp;(try go_bits);rw[hx3y3.out];first|exact⟨rfl,rfl⟩|exact⟨congrArg Value.bool (by simp),rfl⟩) ?_;refine e0 ?_;refine sxEnd (fun W76 hK=>?_)
      (try go_wp2)
      go_roundw
      case rel=>exact⟨mi+1,(by first|rfl|go_num),(by omega),hK⟩
      case measure=>simp[intOf]<;>omega
     exact absurd hb4.out (by simp;omega)
    exact absurd hb3.out (by simp;omega)
   exact absurd hb2.out (by simp;omega)
  exact absurd hb1.out (by simp;omega)
end Go.Proofs.YtjhaedfpigebdaaGreatDoor
