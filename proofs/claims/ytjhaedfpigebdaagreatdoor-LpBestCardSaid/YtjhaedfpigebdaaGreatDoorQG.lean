/- Law LpBest, programs with up to 4 variables and 5 rows: for every input the law's function returns true; no condition. Part 6. -/
import Derived.Test.YtjhaedfpigebdaaGreatDoorQE
import Derived.Laws.Strings3
import Derived.ChangeMaps5
import Derived.ProofKit
import Derived.OpenShut
import Derived.Lib.LaidTab
import Derived.Deep.Slices
import Derived.Test.YtjhaedfpigebdaaGreatDoorRows
import Derived.Test.YtjhaedfpigebdaaGreatDoorTie
import Derived.JoinedCond
import Derived.LaidMore
import Derived.Lay
import Derived.SevenTiedAt
import Derived.Stop.Joined
import Derived.Lib.LaidU8
import Derived.Lib.SmallJoins
import Derived.LaidLaws
namespace Go.Proofs.YtjhaedfpigebdaaGreatDoor
open Go.RowKit
open Go.Lib (decDigits)
section
set_option maxRecDepth 100000 in
set_option maxHeartbeats 400000 in
theorem lpvalid_any(w:World){cp ap bp:Option Addr}{cl cc al ac bl bc:Nat}{P:LPd}(hC:SlV ratK w (.slice cp cl cc) P.c)(hA:SlV rrK w (.slice ap al ac) P.A)(hB:SlV ratK w (.slice bp bl bc) P.b)(hn1:P.c.length<=100000)(hn2:P.A.length<=100000)(_hn3:P.b.length<=100000):
    Calls Tryz.prog 32 #[.agg #[.slice cp cl cc,.slice ap al ac,.slice bp bl bc]] w fun e w'=>e=.returned (.bool (vldP P))/\Below w.heap.size w w':=by
  have hK:=SS.start w;have⟨nc1,nc2⟩:=lle hC.one0;have⟨na1,na2⟩:=lle hA.one0;have⟨nb1,nb2⟩:=lle hB.one0;refine Calls.hide (fun Q0 hQ0=>?_);go_enter Tryz.func32,Tryz.ntmps32;go_upto_region 0 with(fail);refine wp_region_T [3,0] hK ?_;clear hK;refine eA (.cells #[.slice cp cl cc,.slice ap al ac,.slice bp bl bc] 59) (fun R1=>?_);refine e0 ?_;refine sxEnd (fun W2 hK=>?_);go_upto_region 1 with(fail);refine wp_region_T [0,1,0,0,0,0,1,0,0,0,0,0,1,0,0,0,0,0,1,0,0,1,0,0,0] hK ?_;clear hK;refine e0 ?_;refine eL m0 ?_;refine e0 ?_;refine eB (decide (((cl:Int))<1)) (fun b1 hb1=>?_);refine e0 ?_
  cases b1
  . --
   have q_b1:=nlt hb1;refine e0 ?_;refine eL m0 ?_;refine e0 ?_;refine eB (decide (1024<((cl:Int)))) (fun b2 hb2=>?_)
   iterate 2 refine e0 ?_
   cases b2
   . --
    have q_b2:=nlt hb2;refine e0 ?_;refine eL m0 ?_;refine e0 ?_;refine eB (decide (1024<((al:Int)))) (fun b3 hb3=>?_)
    iterate 2 refine e0 ?_
    cases b3
    . --
     have q_b3:=nlt hb3;refine e0 ?_;refine eL m0 ?_
     iterate 2 refine e0 ?_
     refine eL m0 ?_;refine e0 ?_;refine eB (((bl:Int)) !=((al:Int))) (fun b4 hb4=>?_);refine e0 ?_;refine sxEnd (fun W3 hK=>?_)
     cases b4
     . --
      have hvh:=hid (show vldH P=true from vldH_of (by have qb1:=hb1.out;(try simp at qb1);have qb2:=hb2.out;(try simp at qb2);have qb3:=hb3.out;(try simp at qb3);have qb4:=hb4.out;(try simp at qb4);omega));go_upto_region 3 with(fail);refine wp_region_T [0,1,0,0] hK ?_;clear hK;refine e0 ?_;refine eL m0 ?_
      iterate 2 refine e0 ?_
      refine sxEnd (fun W4 hK=>?_);go_wp2_with fail;go_loopw [33] (fun s33 wl=> ∃(m:Nat),s33=.int .i64 (m:Int)/\(m<=P.A.length)/\Hid (allN (rowP P) m=true)/\SS w ([bx R1 (.cells #[.slice cp cl cc,.slice ap al ac,.slice bp bl bc] 59)]) wl) (fun s33 _=>al-(intOf s33).toNat)
      case atStart=>exact⟨0,rfl,(by omega),hid rfl,hK⟩
      clear hK;obtain⟨m,rfl,hm0,h_o,hK⟩:=hrel;generalize wr=W5 at hK⊢;go_upto_region 4 with(fail);refine wp_region_T [0] hK ?_;clear hK;refine eB (decide (((m:Int))<((al:Int)))) (fun b5 hb5=>?_);refine sxEnd (fun W6 hK=>?_)
      cases b5
      . --
       have q_b5:=nlt hb5;go_wp2
       try go_ret
       show Q0 (.returned (.bool true)) _
       exact(qo hQ0 ⟨(by rw[vld_yes hvh.out (by rw[show P.A.length=m from(by omega)];exact h_o.out)]),hK.old⟩)
      have q_b5:=ylt hb5;have i7:m<al:=(by omega);obtain⟨g7,o7,rfl⟩:=hA.pt i7;have l7:m<P.A.length:=Nat.lt_of_lt_of_eq i7 (hA.one0);obtain⟨x,ex⟩:=gtH l7;obtain⟨⟨x_p,x_l,x_c⟩,x_h,x_s⟩:=hA.row ex.out;dsimp only at x_h x_s;have x_n:=hid x_s.one0;have⟨x_n1,x_n2⟩:=lle x_n.out;go_upto_region 5 with(fail);refine wp_region_T [0,0,0] hK ?_;clear hK;refine e0 ?_;refine eR0 (fun w k=>celB x_h k.old) ?_;refine e0 ?_;refine sxEnd (fun W8 hK=>?_);go_upto_region 6 with(fail);refine wp_region_T [0,0,0,1,0,0] hK ?_;clear hK
      iterate 3 refine e0 ?_
      refine eL m0 ?_;refine e0 ?_;refine eB (((x_l:Int)) !=((cl:Int))) (fun b6 hb6=>?_);refine sxEnd (fun W9 hK=>?_)
      cases b6
      . --
       (try go_wp2)
       go_roundw
       case rel=>exact⟨m+1,(by first|rfl|go_num),(by omega),hid (allN_step h_o.out (by unfold rowP;rw[getD_of ex.out];have qb1:=hb1.out;(try simp at qb1);have qb2:=hb2.out;(try simp at qb2);have qb3:=hb3.out;(try simp at qb3);have qb4:=hb4.out;(try simp at qb4);have qb5:=hb5.out;(try simp at qb5);have qb6:=hb6.out;(try simp at qb6);simp;omega)),hK⟩
       case measure=>simp[intOf]<;>omega
      go_wp2
      try go_ret
      show Q0 (.returned (.bool false)) _
      exact(qo hQ0 ⟨(by rw[vld_no (i:=m) (by omega) (by rw[getD_of ex.out];have qb1:=hb1.out;(try simp at qb1);have qb2:=hb2.out;(try simp at qb2);have qb3:=hb3.out;(try simp at qb3);have qb4:=hb4.out;(try simp at qb4);have qb5:=hb5.out;(try simp at qb5);have qb6:=hb6.out;(try simp at qb6);omega)]),hK.old⟩)
     go_wp2
     try go_ret
     show Q0 (.returned (.bool false)) _
     exact(qo hQ0 ⟨(by rw[vld_head (by have qb1:=hb1.out;(try simp at qb1);have qb2:=hb2.out;(try simp at qb2);have qb3:=hb3.out;(try simp at qb3);have qb4:=hb4.out;(try simp at qb4);omega)]),hK.old⟩)
    have q_b3:=ylt hb3
    iterate 7 refine eN ?_
    refine e0 ?_;refine sxEnd (fun W10 hK=>?_);go_wp2
    try go_ret
    show Q0 (.returned (.bool false)) _
    exact(qo hQ0 ⟨(by rw[vld_head (by have qb1:=hb1.out;(try simp at qb1);have qb2:=hb2.out;(try simp at qb2);have qb3:=hb3.out;(try simp at qb3);omega)]),hK.old⟩)
   have q_b2:=ylt hb2
   iterate 4 refine eN ?_
   iterate 2 refine e0 ?_
   iterate 7 refine eN ?_
   refine e0 ?_;refine sxEnd (fun W11 hK=>?_);go_wp2
   try go_ret
   show Q0 (.returned (.bool false)) _
   exact(qo hQ0 ⟨(by rw[vld_head (by have qb1:=hb1.out;(try simp at qb1);have qb2:=hb2.out;(try simp at qb2);omega)]),hK.old⟩)
  have q_b1:=ylt hb1
  iterate 4 refine eN ?_
  iterate 2 refine e0 ?_
  iterate 4 refine eN ?_
  iterate 2 refine e0 ?_
  iterate 7 refine eN ?_
  refine e0 ?_;refine sxEnd (fun W12 hK=>?_);go_wp2
  try go_ret
  show Q0 (.returned (.bool false)) _
  exact(qo hQ0 ⟨(by rw[vld_head (by have qb1:=hb1.out;(try simp at qb1);omega)]),hK.old⟩)
set_option maxRecDepth 100000 in
set_option maxHeartbeats 1000000 in
theorem solve_any(w:World){cp ap bp:Option Addr}{cl cc al ac bl bc:Nat}{P:LPd}(hC:SlV ratK w (.slice cp cl cc) P.c)(hA:SlV rrK w (.slice ap al ac) P.A)(hB:SlV ratK w (.slice bp bl bc) P.b)(hn1:P.c.length<=100000)(hn2:P.A.length<=100000)(hn3:P.b.length<=100000)(hL:vldP P=true->LimP P)(hCl:vldP P=true->LmL 300 P.c):
    Calls Tryz.prog 33 #[.agg #[.slice cp cl cc,.slice ap al ac,.slice bp bl bc]] w fun e w'=> ∃a:SvR,e=.returned (.tuple #[a.v,.int .i64 a.n])/\SS w [cF (SvOk P a),rO ratK 70 a.x.p a.x.l a.x.c a.R.x,rO ratK 70 a.y.p a.y.l a.y.c a.R.y,rO ratK 70 a.r.p a.r.l a.r.c a.R.r,qF (.agg #[.bool (isN a.R.z),.slice a.d.p a.d.l a.d.c,.slice a.e.p a.e.l a.e.c]) a.R.z] w':=by
  have hK:=SS.start w;have⟨nc1,nc2⟩:=lle hC.one0;have⟨na1,na2⟩:=lle hA.one0;have⟨nb1,nb2⟩:=lle hB.one0;refine Calls.hide (fun Q0 hQ0=>?_);go_enter Tryz.func33,Tryz.ntmps33;go_upto_region 0 with(fail);refine wp_region_T [3,3,0] hK ?_;clear hK;refine eA (.cells #[.slice cp cl cc,.slice ap al ac,.slice bp bl bc] 59) (fun R1=>?_);refine eA (.cells #[.int .i64 0,.slice none 0 0,.slice none 0 0,.slice none 0 0,.bool false,.slice none 0 0,.slice none 0 0] 80) (fun R2=>?_);refine e0 ?_;refine sxEnd (fun W3 hK=>?_);go_upto_region 1 with(fail);refine wp_region_T [1,1,0] hK ?_;clear hK;refine eL m1 ?_;obtain⟨b1,hb1⟩:=nmB (vldP P);refine eQ (v:=.bool b1) (fun w k=>lpvalid_any w (hC.below k.old) (hA.below k.old) (hB.below k.old) hn1 hn2 hn3) ?_ (hv:=by rw[hb1.out]);refine e0 ?_;refine sxEnd (fun W4 hK=>?_)
  cases b1
  . --
   have hvl:=hid hb1.out;go_upto_region 2 with(fail);refine wp_region_T [0,4,0] hK ?_;clear hK;refine e0 ?_;refine eP 0 0 [.int .i64 0,.slice none 0 0,.slice none 0 0,.slice none 0 0,.bool false,.slice none 0 0,.slice none 0 0] ?_;refine e0 ?_;refine sxEnd (fun W5 hK=>?_);have⟨c90,c91,c92,c93,c94,c95,c96⟩:=(hK.box m0).c7;replace hK:=hK.fact (rO ratK 70 none 0 0 ([]:List Rat)) OwV.nil (fun _ h=>by cases h);replace hK:=hK.fact (rO ratK 70 none 0 0 ([]:List Rat)) OwV.nil (fun _ h=>by cases h);replace hK:=hK.fact (rO ratK 70 none 0 0 ([]:List Rat)) OwV.nil (fun _ h=>by cases h);replace hK:=hK.fact (qF (.agg #[.bool false,.slice none 0 0,.slice none 0 0]) (0:Rat)) (RatV.zero _);replace hK:=hK.subl (sK2 (sK2 (sK2 (sK2 (sC2 (sC2 sZ2))))));replace hK:=hK.up1;replace hK:=hK.up2;replace hK:=hK.up3;go_wp2;exact bodyPost_ret (v:=.tuple #[.agg #[.int .i64 0,.slice none 0 0,.slice none 0 0,.slice none 0 0,.bool false,.slice none 0 0,.slice none 0 0],.int .i64 1]) (by simp[results,Tryz.results33,go_sem,c90,c91,c92,c93,c94,c95,c96]) rfl (qo hQ0 ⟨(⟨⟨0,[],[],[],(0:Rat)⟩,⟨none,0,0⟩,⟨none,0,0⟩,⟨none,0,0⟩,⟨none,0,0⟩,⟨none,0,0⟩,1⟩:SvR),rfl,hK.fact (cF (SvOk P (⟨⟨0,[],[],[],(0:Rat)⟩,⟨none,0,0⟩,⟨none,0,0⟩,⟨none,0,0⟩,⟨none,0,0⟩,⟨none,0,0⟩,1⟩:SvR))) (.inl ⟨hvl.out,rfl,rfl⟩)⟩)
  have hP:=hid (vld_ok hb1.out);have hdm:=hid (vld_dims hb1.out);have hd1:=hdm.out.1;have hd2:=hdm.out.2.1;have hd3:=hdm.out.2.2;have hLim:=hL hb1.out;have hLC:=hCl hb1.out;have hvl:=hid hb1.out;go_upto_region 3 with(fail);refine wp_region_T [0,1,2,0] hK ?_;clear hK;refine e0 ?_;refine eL m1 ?_;refine eC (fun w k=>new_any w (hB.below k.old) (by omega)) (fun x6=>?_);obtain⟨R,x6⟩:=x6;dsimp only;refine e0 ?_;refine sxEnd (fun W7 hK=>?_);go_upto_region 4 with(fail);refine wp_region_T [0,1,0,0] hK ?_;clear hK;refine e0 ?_;refine eL m3 ?_
  iterate 2 refine e0 ?_
  refine sxEnd (fun W8 hK=>?_);have hnz:=hK.get m1;rw[<-pre_T0 hP.out, <-pre_goal0 (P:=P)]at hK;go_wp2_with fail;go_loopw [22] (fun s22 wl=> ∃(m:Nat) (z:TbS),s22=.int .i64 (m:Int)/\(m<=P.c.length)/\Hid (m=0->NilZ z)/\SS w ([bx R2 (.cells #[.int .i64 0,.slice none 0 0,.slice none 0 0,.slice none 0 0,.bool false,.slice none 0 0,.slice none 0 0] 80),bx R1 (.cells #[.slice cp cl cc,.slice ap al ac,.slice bp bl bc] 59),tbF R m z (⟨(P.pre m).init.T,(P.pre m).goal⟩)]) wl) (fun s22 _=>cl-(intOf s22).toNat)
  case atStart=>exact⟨0,x6,rfl,(by omega),hid (fun _=>hnz),(hK.subl (sK2 (sC2 (sR)))).up2.up2⟩
  clear hK;obtain⟨m,z,rfl,hm0,h_z,hK⟩:=hrel;generalize wr=W9 at hK⊢;go_upto_region 5 with(fail);refine wp_region_T [0] hK ?_;clear hK;refine eB (decide (((m:Int))<((cl:Int)))) (fun b2 hb2=>?_);refine sxEnd (fun W10 hK=>?_)
  cases b2
  . --
   have q_b2:=nlt hb2;have hm9:m=P.c.length:=(by omega);rw[hm9,pre_all hP.out]at hK;clear hm9;go_upto_region 16 with(fail);refine wp_region_T [0,4,0,0,0,0,0] hK ?_;clear hK;refine e0 ?_;refine eM (fun w k=>start_any w _ _ k.up2 ⟨rfl,rfl,trivial⟩ ⟨rfl,rfl,trivial⟩ ⟨rfl,rfl,trivial⟩ hP.out hLim (by omega) (by omega) (by omega)) (fun x11=>?_);obtain⟨b3,⟨yp,yl,yc⟩,sz,st0,sY⟩:=x11;dsimp only
   iterate 5 refine e0 ?_
   refine sxEnd (fun W12 hK=>?_)
   cases b3
   . --
    replace hK:=ss_ofN hK;go_upto_region 18 with(fail);refine wp_region_T [0,0,4,0] hK ?_;clear hK
    iterate 2 refine e0 ?_
    refine eP 2 0 [.int .i64 2,.slice none 0 0,.slice yp yl yc,.slice none 0 0,.bool false,.slice none 0 0,.slice none 0 0] ?_ (hq:=.inr ⟨rfl,rfl,rfl,trivial⟩);refine e0 ?_;refine sxEnd (fun W13 hK=>?_);have⟨c90,c91,c92,c93,c94,c95,c96⟩:=(hK.box m2).c7;replace hK:=hK.fact (rO ratK 70 none 0 0 ([]:List Rat)) OwV.nil (fun _ h=>by cases h);replace hK:=hK.fact (rO ratK 70 none 0 0 ([]:List Rat)) OwV.nil (fun _ h=>by cases h);replace hK:=hK.fact (qF (.agg #[.bool false,.slice none 0 0,.slice none 0 0]) (0:Rat)) (RatV.zero _);have hIc:=hK.get m4;replace hK:=hK.subl (sK2 (sK2 (sK2 (sK2 (sC2 (sC2 (sC2 sZ2)))))));replace hK:=hK.up1;replace hK:=hK.up3;replace hK:=hK.up3;go_wp2;exact bodyPost_ret (v:=.tuple #[.agg #[.int .i64 2,.slice none 0 0,.slice yp yl yc,.slice none 0 0,.bool false,.slice none 0 0,.slice none 0 0],.int .i64 0]) (by simp[results,Tryz.results33,go_sem,c90,c91,c92,c93,c94,c95,c96]) rfl (qo hQ0 ⟨(⟨⟨2,[],sY,[],(0:Rat)⟩,⟨none,0,0⟩,⟨yp,yl,yc⟩,⟨none,0,0⟩,⟨none,0,0⟩,⟨none,0,0⟩,0⟩:SvR),rfl,hK.fact (cF (SvOk P (⟨⟨2,[],sY,[],(0:Rat)⟩,⟨none,0,0⟩,⟨yp,yl,yc⟩,⟨none,0,0⟩,⟨none,0,0⟩,⟨none,0,0⟩,0⟩:SvR))) (.inr ⟨hvl.out,rfl,(cert_inf hIc.1),fun X q=>inf_sm hP.out q (hIc.2 X q)⟩)⟩)
   replace hK:=ss_ofT hK;obtain⟨_,hok0,hal0,hlk0⟩:=hK.get m1;dsimp only at hok0 hal0 hlk0;have hed:=hid (end_dims hok0 hal0 (Rch.refl _));replace hK:=hK.subl (sK2 (sC2 (sR)));go_upto_region 19 with(fail);refine wp_region_T [0,4,0] hK ?_;clear hK;refine e0 ?_;refine eM (fun w k=>max_any w _ _ k ⟨rfl,rfl,trivial⟩ ⟨rfl,rfl,trivial⟩ ⟨rfl,rfl,trivial⟩ hok0 hlk0 (by rw[hed.out.2.2.2.2];omega) (by rw[hed.out.2.2.2.1];omega)) (fun x14=>?_);obtain⟨⟨b4,t⟩,mz⟩:=x14;dsimp only;refine e0 ?_;refine sxEnd (fun W15 hK=>?_)
   cases b4
   . --
    obtain⟨hr,h1,h2⟩:=hK.get m1;have hend:=end_dims hok0 hal0 hr;have hok:=hend.1;have hal:=hend.2.1;have he1:=hid hend.2.2.1;have he2:=hid hend.2.2.2.1;have he3:=hid hend.2.2.2.2;clear hend;obtain⟨j,hj0,hl0⟩:=h2 rfl;have hj:=hid hj0;have hl:=hid hl0;clear h1 h2 hj0 hl0;replace hK:=hK.subl (sK2 (sC2 (sR)));go_upto_region 20 with(fail);refine wp_region_T [0,2,0,2,0,4,0] hK ?_;clear hK;refine e0 ?_;refine eC (fun w k=>point_any w k.tbV hok.ok (by rw[he1.out];omega) (by omega) (fun x hx=>by rw[he1.out];exact end_lt hal x (.inl hx))) (fun x16=>?_);obtain⟨px16,lx16,cx16⟩:=x16;dsimp only;refine e0 ?_;refine eC (fun w k=>ray_any w j (k.up1).tbV hok.ok (by rw[he1.out];omega) (by omega) (fun x hx=>by rw[he1.out];exact end_lt hal x (.inl hx)) hj.out hok.len (by rw[he2.out];omega) (fun x hx=>by rw[he1.out];exact end_lt hal x (.inr hx))) (fun x17=>?_);obtain⟨px17,lx17,cx17⟩:=x17;dsimp only;refine e0 ?_;refine eP 3 0 [.int .i64 3,.slice px16 lx16 cx16,.slice none 0 0,.slice px17 lx17 cx17,.bool false,.slice none 0 0,.slice none 0 0] ?_ (hq:=.inr ⟨rfl,rfl,rfl,rfl,trivial⟩);refine e0 ?_;refine sxEnd (fun W18 hK=>?_);have⟨c90,c91,c92,c93,c94,c95,c96⟩:=(hK.box m3).c7;replace hK:=hK.fact (rO ratK 70 none 0 0 ([]:List Rat)) OwV.nil (fun _ h=>by cases h);replace hK:=hK.fact (qF (.agg #[.bool false,.slice none 0 0,.slice none 0 0]) (0:Rat)) (RatV.zero _);replace hK:=hK.subl (sK2 (sK2 (sK2 (sK2 (sC2 (sC2 (sC2 sZ2)))))));replace hK:=hK.up2;replace hK:=hK.up2;replace hK:=hK.up3;go_wp2;exact bodyPost_ret (v:=.tuple #[.agg #[.int .i64 3,.slice px16 lx16 cx16,.slice none 0 0,.slice px17 lx17 cx17,.bool false,.slice none 0 0,.slice none 0 0],.int .i64 0]) (by simp[results,Tryz.results33,go_sem,c90,c91,c92,c93,c94,c95,c96]) rfl (qo hQ0 ⟨(⟨⟨3,pointL t.T.rows.length P.c.length t.T,[],rayL t.T.rows.length P.c.length t.T j,(0:Rat)⟩,⟨px16,lx16,cx16⟩,⟨none,0,0⟩,⟨px17,lx17,cx17⟩,⟨none,0,0⟩,⟨none,0,0⟩,0⟩:SvR),rfl,hK.fact (cF (SvOk P (⟨⟨3,pointL t.T.rows.length P.c.length t.T,[],rayL t.T.rows.length P.c.length t.T j,(0:Rat)⟩,⟨px16,lx16,cx16⟩,⟨none,0,0⟩,⟨px17,lx17,cx17⟩,⟨none,0,0⟩,⟨none,0,0⟩,0⟩:SvR))) (.inr ⟨hvl.out,rfl,(by have q:=cert_unb hok hal hj.out hl.out;rw[<-he1.out]at q;exact q),fun X q=>unb_sm hP.out q hok hal⟩)⟩)
   obtain⟨hr,h1,h2⟩:=hK.get m1;have hend:=end_dims hok0 hal0 hr;have hok:=hend.1;have hal:=hend.2.1;have he1:=hid hend.2.2.1;have he2:=hid hend.2.2.2.1;have he3:=hid hend.2.2.2.2;clear hend;have hen:=hid (h1 rfl);clear h1 h2;replace hK:=hK.subl (sK2 (sC2 (sR)));go_upto_region 21 with(fail);refine wp_region_T [0,2,0,2,0,2,0,4,0] hK ?_;clear hK;refine e0 ?_;refine eC (fun w k=>point_any w k.tbV hok.ok (by rw[he1.out];omega) (by omega) (fun x hx=>by rw[he1.out];exact end_lt hal x (.inl hx))) (fun x19=>?_);obtain⟨px19,lx19,cx19⟩:=x19;dsimp only;refine e0 ?_;refine eC (fun w k=>Prices_any w (k.up1).tbV hok.ok (by rw[he1.out];omega) hok.len (by rw[he2.out];omega)) (fun x20=>?_);obtain⟨px20,lx20,cx20⟩:=x20;dsimp only;refine e0 ?_;refine eC (fun w k=>value_of w (k.up2).tbV hok.ok) (fun x21=>?_);obtain⟨⟨p22,l22,c22⟩,⟨q22,u22,d22⟩⟩:=x21;dsimp only;refine e0 ?_;refine eP 4 0 [.int .i64 1,.slice px19 lx19 cx19,.slice px20 lx20 cx20,.slice none 0 0,.bool (isN (t.g.r)),.slice p22 l22 c22,.slice q22 u22 d22] ?_ (hq:=.inr ⟨rfl,rfl,rfl,rfl,rfl,trivial⟩);refine e0 ?_;refine sxEnd (fun W23 hK=>?_);have⟨c90,c91,c92,c93,c94,c95,c96⟩:=(hK.box m4).c7;replace hK:=hK.fact (rO ratK 70 none 0 0 ([]:List Rat)) OwV.nil (fun _ h=>by cases h);replace hK:=hK.subl (sK2 (sK2 (sK2 (sK2 (sC2 (sC2 (sC2 sZ2)))))));replace hK:=hK.up1;replace hK:=hK.up1;replace hK:=hK.up2;replace hK:=hK.up3;go_wp2;exact bodyPost_ret (v:=.tuple #[.agg #[.int .i64 1,.slice px19 lx19 cx19,.slice px20 lx20 cx20,.slice none 0 0,.bool (isN (t.g.r)),.slice p22 l22 c22,.slice q22 u22 d22],.int .i64 0]) (by simp[results,Tryz.results33,go_sem,c90,c91,c92,c93,c94,c95,c96]) rfl (qo hQ0 ⟨(⟨⟨1,pointL t.T.rows.length P.c.length t.T,pricesL t.T.rows.length t.T.free t.g.cs,[],t.g.r⟩,⟨px19,lx19,cx19⟩,⟨px20,lx20,cx20⟩,⟨none,0,0⟩,⟨p22,l22,c22⟩,⟨q22,u22,d22⟩,0⟩:SvR),rfl,hK.fact (cF (SvOk P (⟨⟨1,pointL t.T.rows.length P.c.length t.T,pricesL t.T.rows.length t.T.free t.g.cs,[],t.g.r⟩,⟨px19,lx19,cx19⟩,⟨px20,lx20,cx20⟩,⟨none,0,0⟩,⟨p22,l22,c22⟩,⟨q22,u22,d22⟩,0⟩:SvR))) (.inr ⟨hvl.out,rfl,(by have q:=cert_opt hP.out hok hal hen.out;rw[<-he1.out]at q;exact q),fun X q=>opt_sm hP.out q hok hal⟩)⟩)
  have q_b2:=ylt hb2;have hmc:m<P.c.length:=(by omega);obtain⟨T,hT⟩:∃t,Hid ((P.pre m).init.T=t):=⟨_,hid rfl⟩;obtain⟨gg,hgg⟩:∃t,Hid ((P.pre m).goal=t):=⟨_,hid rfl⟩;rw[hT.out,hgg.out]at hK;have hrl:=hid (show T.rows.length=P.A.length by rw[<-hT.out];exact pre_rl P m);have⟨hrl1,hrl2⟩:=lle hrl.out;obtain⟨cv,hcv⟩:∃l,Hid (colP P m=l):=⟨_,hid rfl⟩;have hcll:=hid (show cv.length=P.A.length by rw[<-hcv.out];exact colP_len P m);have i24:m<cl:=(by omega);obtain⟨g24,o24,rfl⟩:=hC.pt i24;have l24:m<P.c.length:=Nat.lt_of_lt_of_eq i24 (hC.one0);obtain⟨xc,exc⟩:=gtH l24;obtain⟨_,_,_,xc_c,xc_r⟩:=hC.rat exc.out;obtain⟨rfl,⟨xc_p,xc_n,xc_d,rfl⟩,xc_q,xc_m,xc_e,rfl⟩:=ratV_cells' xc_r;have hxcl:=hid (hLC xc (List.mem_of_getElem? exc.out));have hxcd:=hid (getD_of (d:=(0:Rat)) exc.out);go_upto_region 6 with(fail);refine wp_region_T [0,0,0,3,0,4] hK ?_;clear hK
  iterate 2 refine e0 ?_
  refine eRm3 (fun w k=>xc_c.below k.old) ?_;refine eA (.cells #[.bool false,.slice none 0 0,.slice none 0 0] 70) (fun R25=>?_);refine e0 ?_;refine eP 0 0 [.bool (isN xc),.slice xc_p xc_n xc_d,.slice xc_q xc_m xc_e] ?_;refine sxEnd (fun W26 hK=>?_);go_upto_region 8 with(fail);refine wp_region_T [0,1,0,0] hK ?_;clear hK;refine e0 ?_;refine eL m2 ?_
  iterate 2 refine e0 ?_
  refine sxEnd (fun W27 hK=>?_);replace hK:=hK.fact (rO trK 113 none 0 0 (trmN cv 0)) OwV.nil (fun _ h=>by cases h);go_wp2_with fail;go_loopw [30,7] (fun s30 s7 wl=> ∃(mi:Nat) (tp:Option Addr) (tn:Nat) (tc:Nat),s30=.int .i64 (mi:Int)/\s7=.slice tp tn tc/\(mi<=P.A.length)/\Hid (trmN cv mi=[]->tp=none)/\SS w ([bx R25 (.cells #[.bool (isN xc),.slice xc_p xc_n xc_d,.slice xc_q xc_m xc_e] 70),bx R2 (.cells #[.int .i64 0,.slice none 0 0,.slice none 0 0,.slice none 0 0,.bool false,.slice none 0 0,.slice none 0 0] 80),bx R1 (.cells #[.slice (some ⟨g24,o24,none⟩) cl cc,.slice ap al ac,.slice bp bl bc] 59),tbF R m z (⟨T,gg⟩),rO trK 113 tp tn tc (trmN cv mi)]) wl) (fun s30 s7 _=>al-(intOf s30).toNat)
  case atStart=>exact⟨0,none,0,0,rfl,rfl,(by omega),hid (fun _=>rfl),hK.up4.up4.up4.up4⟩
  clear hK;obtain⟨mi,tp,tn,tc,rfl,rfl,hmi,h_e,hK⟩:=hrel;generalize wr=W28 at hK⊢;go_upto_region 9 with(fail);refine wp_region_T [0] hK ?_;clear hK;refine eB (decide (((mi:Int))<((al:Int)))) (fun b3 hb3=>?_);refine sxEnd (fun W29 hK=>?_)
  cases b3
  . --
   have q_b3:=nlt hb3;replace hK:=hK.fact (qF (.agg #[.bool (isN xc),.slice xc_p xc_n xc_d,.slice xc_q xc_m xc_e]) xc) (xc_r.below hK.old);have hmi9:mi=P.A.length:=(by omega);have htl:=hid (show valN T.rows.length (trmN cv mi)=cv by rw[hrl.out,hmi9, <-hcll.out];exact trm_all cv);clear hmi9;go_upto_region 14 with(fail);refine wp_region_T [0,1,0,4] hK ?_;clear hK;refine e0 ?_;refine eL m1 ?_;refine e0 ?_;refine eM (fun w k=>(addcol_any w _ _ k.up5.up5 ⟨rfl,rfl,rfl,trivial⟩ ⟨rfl,rfl,rfl,trivial⟩ ⟨rfl,rfl,rfl,trivial⟩ (by rw[<-hT.out];exact pre_bas P m) (by rw[<-hT.out];exact pre_fre (Nat.le_of_lt hmc)) (by rw[<-hgg.out];exact pre_gl (Nat.le_of_lt hmc)) (by rw[<-hT.out];exact pre_row hP.out (Nat.le_of_lt hmc)) (fun t ht=>by rw[hrl.out];exact Nat.lt_of_lt_of_le (trm_lt t ht) hmi) htl.out (by show T.rows.length<=2000;omega) (by omega) (Nat.le_trans trm_len (by omega)) hxcl.out h_z.out).mono fun e w5 ⟨z5,h5,h6⟩=>⟨z5,h5,by rw[<-hT.out, <-hgg.out, <-hcv.out,pre_rl, <-hxcd.out,pre_add hP.out hmc,goal_add hmc]at h6;exact h6⟩) (fun x30=>?_);refine sxEnd (fun W31 hK=>?_)
   (try go_wp2)
   go_roundw
   case rel=>exact⟨m+1,x30,(by first|rfl|go_num),(by omega),hid (fun e=>absurd e (by omega)),(hK.subl (sK2 (sC2 (sR)))).up2.up2⟩
   case measure=>simp[intOf]<;>omega
  have q_b3:=ylt hb3;have i32:mi<al:=(by omega);obtain⟨g32,o32,rfl⟩:=hA.pt i32;have l32:mi<P.A.length:=Nat.lt_of_lt_of_eq i32 (hA.one0);obtain⟨a,ea⟩:=gtH l32;obtain⟨⟨a_p,a_l,a_c⟩,a_h,a_s⟩:=hA.row ea.out;dsimp only at a_h a_s;have a_n:=hid a_s.one0;have⟨a_n1,a_n2⟩:=lle a_n.out;go_upto_region 10 with(fail);refine wp_region_T [0,0,0,0,0] hK ?_;clear hK
  iterate 2 refine e0 ?_
  refine eR0 (fun w k=>celB a_h k.old) ?_
  iterate 2 refine e0 ?_
  refine sxEnd (fun W33 hK=>?_);have hal:=hid (hP.out.ha a (List.mem_of_getElem? ea.out));have⟨hal1,hal2⟩:=lle hal.out;have i34:m<a_l:=(by omega);obtain⟨g34,o34,rfl⟩:=a_s.pt i34;have l34:m<a.length:=Nat.lt_of_lt_of_eq i34 (a_s.one0);obtain⟨x,ex⟩:=gtH l34;obtain⟨_,_,_,x_c,x_r⟩:=a_s.rat ex.out;obtain⟨rfl,⟨x_p,x_n,x_d,rfl⟩,x_q,x_m,x_e,rfl⟩:=ratV_cells' x_r;have hxd:=hid (show cv.getD mi 0=x by rw[<-hcv.out];exact col_at ea.out ex.out);go_upto_region 11 with(fail);refine wp_region_T [0,0,0,0,1,0] hK ?_;clear hK
  iterate 3 refine e0 ?_
  refine eRm3 (fun w k=>x_c.below k.old) ?_;obtain⟨z1,hz1⟩:=nmI (sgQ (x));refine eQ (v:=.int .i64 z1) (fun w k=>sign_any _ _ w (x_r.below k.old)) ?_ (hv:=by rw[hz1.out]);refine eB (z1 !=0) (fun b4 hb4=>?_);refine sxEnd (fun W35 hK=>?_)
  cases b4
  . --
   have hzz:=hid (show cv.getD mi 0=0 by rw[hxd.out];exact(sgx_z hz1.out).1 (by have q:=hb4.out;simpa using q));rw[show trmN cv mi=trmN cv (mi+1)from(trm_no hzz.out)]at hK
   (try go_wp2)
   go_roundw
   case rel=>exact⟨mi+1,tp,tn,tc,(by first|rfl|go_num),(by first|rfl|go_num),(by omega),hid (fun e=>h_e.out (by rw[trm_no hzz.out];exact e)),hK⟩
   case measure=>simp[intOf]<;>omega
  replace hK:=hK.fact (qF (.agg #[.bool (isN x),.slice x_p x_n x_d,.slice x_q x_m x_e]) x) (x_r.below hK.old);go_upto_region 12 with(fail);refine wp_region_T [0,0,0,0,0,0,0,3,5,0] hK ?_;clear hK
  iterate 5 refine e0 ?_
  refine eRm3 (fun w k=>x_c.below k.old) ?_;refine e0 ?_;refine eA (.cells #[.int .i64 (mi:Int),.bool (isN x),.slice x_p x_n x_d,.slice x_q x_m x_e] 113) (fun R36=>?_);refine eAppK 1 trK_hd rfl 6 h_e.out rfl infoT (fun w k=>k.one1 (K:=trK) (x:=⟨mi,x⟩) m0 ⟨_,_,_,rfl,k.q m1⟩) (Nat.le_trans (Nat.add_le_add_right trm_len 1) (by omega)) (fun x37=>?_);obtain⟨p37,n37,c37⟩:=x37;dsimp only;refine e0 ?_;refine sxEnd (fun W38 hK=>?_);have hnz:=hid (show x≠0 from fun e=>by have q:=hb4.out;rw[(sgx_z hz1.out).2 e]at q;simp at q);rw[show(trmN cv mi)++[⟨mi,x⟩]=trmN cv (mi+1)from(trm_yes hxd.out hnz.out)]at hK
  (try go_wp2)
  go_roundw
  case rel=>exact⟨mi+1,p37,n37,c37,(by first|rfl|go_num),(by first|rfl|go_num),(by omega),hid (fun e=>by rw[<-trm_yes hxd.out hnz.out]at e;simp at e),(hK.subl (sC2 (sC2 (sR))))⟩
  case measure=>simp[intOf]<;>omega
end
section
structure LmP(k:Nat)(P:LPd):Prop where
  c:LmL k P.c
  a:∀r∈P.A,LmL k r
  b:LmL k P.b
  n:P.c.length<=12
  m:P.A.length<=12
theorem LmL.up{k m:Nat}{xs:List Rat}(h:LmL k xs)(hk:k<=m):LmL m xs:=fun x hx=>(h x hx).up hk
theorem dotQ_lm{k:Nat}:∀{xs ys:List Rat},LmL k xs->LmL k ys->LmQ ((k+k+1)*xs.length+1) (dotQ xs ys)
  |[],ys,_,_=>by rw[dotQ_nil];exact LmQ.nil0.up (by omega)
  |x::xs,[],_,_=>by rw[dotQ_nil'];exact LmQ.nil0.up (by omega)
  | x::xs,y::ys,h,h'=>by
    have i1:=dotQ_lm (xs:=xs) (ys:=ys) (fun z hz=>h z (List.mem_cons_of_mem _ hz)) (fun z hz=>h' z (List.mem_cons_of_mem _ hz));have i2:=LmQ.mul (h x (List.mem_cons_self ..)) (h' y (List.mem_cons_self ..));rw[dotQ];exact(LmQ.add i2 i1).up (by rw[List.length_cons,Nat.mul_succ];omega)
theorem dotQ_take{xs ys:List Rat}{k:Nat}{x y:Rat}(hx:xs[k]?=some x)(hy:ys[k]?=some y):dotQ (xs.take (k+1)) (ys.take (k+1))=dotQ (xs.take k) (ys.take k)+x*y:=by
  have e1:xs.take (k+1)=xs.take k++[x]:=by rw[List.take_add_one,hx];rfl
  have e2:ys.take (k+1)=ys.take k++[y]:=by rw[List.take_add_one,hy];rfl
  have h1:=(List.getElem?_eq_some_iff.1 hx).1;have h2:=(List.getElem?_eq_some_iff.1 hy).1;rw[e1,e2,dotQ_append _ _ _ _ (by simp;omega)];simp only[dotQ]
  grind
theorem dotQ_lmt{k:Nat}{xs ys:List Rat}(hx:LmL k xs)(hy:LmL k ys)(hk:(k+k+1)*xs.length+1<=9999)(m:Nat):LmQ 9999 (dotQ (xs.take m) (ys.take m)):=
  (dotQ_lm (xs:=xs.take m) (ys:=ys.take m) (fun z hz=>hx z (List.mem_of_mem_take hz)) fun z hz=>hy z (List.mem_of_mem_take hz)).up (by
    have h1:(xs.take m).length<=xs.length:=by rw[List.length_take];omega
    have h2:=Nat.mul_le_mul_left (k+k+1) h1;omega)
theorem dotQ_end{m:Nat}:∀{xs ys:List Rat},xs.length<=m\/ys.length<=m->dotQ (xs.take m) (ys.take m)=dotQ xs ys:=fun{xs ys} h=>by
  have key:∀(m:Nat) (xs ys:List Rat),xs.length<=m\/ys.length<=m->dotQ (xs.take m) (ys.take m)=dotQ xs ys:=fun m=>by
    induction m with
    | zero=>
      intro xs ys h;rw[List.take_zero,List.take_zero,dotQ_nil]
      rcases h with h|h
      . rw[List.eq_nil_of_length_eq_zero (Nat.le_zero.1 h),dotQ_nil]
      rw[List.eq_nil_of_length_eq_zero (Nat.le_zero.1 h),dotQ_nil']
    | succ m ih=>
      intro xs ys h
      cases xs with
      |nil=>rw[List.take_nil,dotQ_nil,dotQ_nil]
      | cons x xs=>
        cases ys with
        |nil=>rw[List.take_nil,dotQ_nil',dotQ_nil']
        | cons y ys=>
          rw[List.take_succ_cons,List.take_succ_cons,dotQ,dotQ,ih xs ys (by simpa using h)]
  exact key m xs ys h
theorem infoR:(Tryz.prog.info? 34).map (fun i=>(i.zero,i.size,i.bytes))=some (some (.agg #[.bool false,.slice none 0 0,.slice none 0 0]),refK.sz,56):=by kernel_rfl
theorem refz0(w:World):refK.R w [.bool false,.slice none 0 0,.slice none 0 0] 0:=⟨_,_,_,rfl,refR0 w⟩
end
section
set_option maxRecDepth 100000 in
set_option maxHeartbeats 400000 in
theorem rdot_any(w:World){p_h0:Option Addr}{n_h0 c_h0:Nat}{xs:List Rat}(hh0:SlV refK w (.slice p_h0 n_h0 c_h0) xs){p_h1:Option Addr}{n_h1 c_h1:Nat}{ys:List Rat}(hh1:SlV refK w (.slice p_h1 n_h1 c_h1) ys)(hb0:n_h0<=100000)(_hb1:n_h1<=100000){k:Nat}(hx:LmL k xs)(hy:LmL k ys)(hk:(k+k+1)*xs.length+1<=9999)(hk2:k<=4000):
    Calls Tryz.prog 19 #[.slice p_h0 n_h0 c_h0,.slice p_h1 n_h1 c_h1] w fun e w'=> ∃x:Duo Sl Sl,e=.returned (.agg #[.bool (isN (dotQ xs ys)),.slice x.a.p x.a.l x.a.c,.slice x.b.p x.b.l x.b.c])/\SS w [rF (.agg #[.bool (isN (dotQ xs ys)),.slice x.a.p x.a.l x.a.c,.slice x.b.p x.b.l x.b.c]) (dotQ xs ys)] w':=by
  have hK:=SS.start w;have⟨nx1,nx2⟩:=lle hh0.one0;have⟨ny1,ny2⟩:=lle hh1.one0;refine Calls.hide (fun Q0 hQ0=>?_);go_enter Tryz.func19,Tryz.ntmps19;go_upto_region 0 with(fail);refine wp_region_T [3] hK ?_;clear hK;refine eA (.cells #[.bool false,.slice none 0 0,.slice none 0 0] 34) (fun R1=>?_);refine sxEnd (fun W2 hK=>?_);go_upto_region 1 with(fail);refine wp_region_T [0,3,4] hK ?_;clear hK;refine e0 ?_;refine eA (.cells #[.bool false,.slice none 0 0,.slice none 0 0] 34) (fun R3=>?_);refine eP 0 0 [.bool false,.slice none 0 0,.slice none 0 0] ?_;refine sxEnd (fun W4 hK=>?_);replace hK:=hK.fact (rF (.agg #[.bool false,.slice none 0 0,.slice none 0 0]) (0:Rat)) (refR0 _);rw[show(0:Rat)=dotQ (xs.take 0) (ys.take 0)from rfl]at hK;go_wp2_with fail;go_loopw [6] (fun s6 wl=> ∃(m:Nat) (qn:Bool) (up:Option Addr) (ul:Nat) (uc:Nat) (vp:Option Addr) (vl:Nat) (vc:Nat),s6=.int .i64 (m:Int)/\(m<=n_h0)/\SS w ([rF (.agg #[.bool qn,.slice up ul uc,.slice vp vl vc]) (dotQ (xs.take m) (ys.take m)),bx R3 (.cells #[.bool qn,.slice up ul uc,.slice vp vl vc] 34),bx R1 (.cells #[.bool false,.slice none 0 0,.slice none 0 0] 34)]) wl) (fun s6 _=>n_h0-(intOf s6).toNat)
  case atStart=>exact⟨0,false,none,0,0,none,0,0,rfl,(by omega),hK⟩
  clear hK;obtain⟨m,qn,up,ul,uc,vp,vl,vc,rfl,hm0,hK⟩:=hrel;generalize wr=W5 at hK⊢;go_upto_region 3 with(fail);refine wp_region_T [0,0,0,0,0,0,0,0,0,0] hK ?_;clear hK
  iterate 3 refine e0 ?_
  refine eB (decide (((m:Int))<((n_h0:Int)))) (fun b1 hb1=>?_);refine e0 ?_
  cases b1
  . --
   have q_b1:=nlt hb1
   iterate 4 refine eN ?_
   refine e0 ?_;refine sxEnd (fun W6 hK=>?_);go_upto_region 6 with(fail);refine wp_region_T [1,4] hK ?_;clear hK;refine eL m1 ?_;refine eP 2 0 [.bool qn,.slice up ul uc,.slice vp vl vc] ?_ (hq:=.inr ⟨rfl,rfl,trivial⟩);refine sxEnd (fun W7 hK=>?_);rw[show dotQ (xs.take m) (ys.take m)=dotQ xs ys from(dotQ_end (by have qb1:=hb1.out;(try simp at qb1);omega))]at hK;have hq0:=(refR_cells (hK.rq m0)).1;injection hq0 with hq0;subst hq0;have⟨c90,c91,c92⟩:=(hK.box m2).c3;replace hK:=hK.subl (sK2 (sC2 (sC2 sZ2)));go_wp2;exact bodyPost_ret (v:=.agg #[.bool (isN (dotQ xs ys)),.slice up ul uc,.slice vp vl vc]) (by simp[results,Tryz.results19,go_sem,c90,c91,c92]) rfl (qo hQ0 ⟨⟨⟨up,ul,uc⟩,⟨vp,vl,vc⟩⟩,rfl,hK⟩)
  have q_b1:=ylt hb1
  iterate 3 refine e0 ?_
  refine eB (decide (((m:Int))<((n_h1:Int)))) (fun b2 hb2=>?_);refine e0 ?_;refine sxEnd (fun W8 hK=>?_)
  cases b2
  . --
   have q_b2:=nlt hb2;go_upto_region 6 with(fail);refine wp_region_T [1,4] hK ?_;clear hK;refine eL m1 ?_;refine eP 2 0 [.bool qn,.slice up ul uc,.slice vp vl vc] ?_ (hq:=.inr ⟨rfl,rfl,trivial⟩);refine sxEnd (fun W9 hK=>?_);rw[show dotQ (xs.take m) (ys.take m)=dotQ xs ys from(dotQ_end (by have qb1:=hb1.out;(try simp at qb1);have qb2:=hb2.out;(try simp at qb2);omega))]at hK;have hq0:=(refR_cells (hK.rq m0)).1;injection hq0 with hq0;subst hq0;have⟨c90,c91,c92⟩:=(hK.box m2).c3;replace hK:=hK.subl (sK2 (sC2 (sC2 sZ2)));go_wp2;exact bodyPost_ret (v:=.agg #[.bool (isN (dotQ xs ys)),.slice up ul uc,.slice vp vl vc]) (by simp[results,Tryz.results19,go_sem,c90,c91,c92]) rfl (qo hQ0 ⟨⟨⟨up,ul,uc⟩,⟨vp,vl,vc⟩⟩,rfl,hK⟩)
  have q_b2:=ylt hb2;have i10:m<n_h0:=(by omega);obtain⟨g10,o10,rfl⟩:=hh0.pt i10;have l10:m<xs.length:=Nat.lt_of_lt_of_eq i10 (hh0.one0);obtain⟨xa,exa⟩:=gtH l10;obtain⟨_,_,_,xa_c,xa_r⟩:=hh0.ref exa.out;obtain⟨rfl,⟨xa_p,xa_n,xa_d,rfl⟩,xa_q,xa_m,xa_e,rfl⟩:=refR_cells xa_r;have i11:m<n_h1:=(by omega);obtain⟨g11,o11,rfl⟩:=hh1.pt i11;have l11:m<ys.length:=Nat.lt_of_lt_of_eq i11 (hh1.one0);obtain⟨ya,eya⟩:=gtH l11;obtain⟨_,_,_,ya_c,ya_r⟩:=hh1.ref eya.out;obtain⟨rfl,⟨ya_p,ya_n,ya_d,rfl⟩,ya_q,ya_m,ya_e,rfl⟩:=refR_cells ya_r;have hxl:=hid (hx xa (List.mem_of_getElem? exa.out));have hyl:=hid (hy ya (List.mem_of_getElem? eya.out));have hdl:=hid (dotQ_lmt hx hy hk m);go_upto_region 5 with(fail);refine wp_region_S _ [1,0,0,0,0,0,0,0,0,2,2,4] hK ?_ (sK2 (sC2 (sR)));clear hK;refine eL m1 ?_
  iterate 3 refine e0 ?_
  refine eRm3 (fun w k=>xa_c.below k.old) ?_
  iterate 3 refine e0 ?_
  refine eRm3 (fun w k=>ya_c.below k.old) ?_;refine eC (fun w k=>ref_S (rmul_q _ _ _ _ w (xa_r.below k.old) (ya_r.below k.old) hxl.out hyl.out (by first|decide|omega))) (fun x12=>?_);obtain⟨⟨p13,l13,c13⟩,⟨q13,u13,d13⟩⟩:=x12;dsimp only;refine eC (fun w k=>ref_S (radd_q _ _ _ _ w (k.rq m1) (k.rq m0) (hdl.out.up (by decide)) ((LmQ.mul hxl.out hyl.out).up (by omega)) (k:=10000) (by first|decide|omega))) (fun x14=>?_);obtain⟨⟨p15,l15,c15⟩,⟨q15,u15,d15⟩⟩:=x14;dsimp only;refine eP 3 0 [.bool (isN ((dotQ (xs.take m) (ys.take m))+(xa*ya))),.slice p15 l15 c15,.slice q15 u15 d15] ?_ (hs:=(sC2 (sC2 (sK2 (sC2 (sR)))))) (hq:=.inr ⟨rfl,rfl,rfl,rfl,trivial⟩);refine sxEnd (fun W16 hK=>?_);rw[show(dotQ (xs.take m) (ys.take m))+(xa*ya)=dotQ (xs.take (m+1)) (ys.take (m+1))from(dotQ_take exa.out eya.out).symm]at hK
  (try go_wp2)
  go_roundw
  case rel=>exact⟨m+1,(isN (dotQ (xs.take (m+1)) (ys.take (m+1)))),p15,l15,c15,q15,u15,d15,(by first|rfl|go_num),(by omega),(hK.subl (sK2 (sC2 (sC2 (sR)))))⟩
  case measure=>simp[intOf]<;>omega
theorem same_of{x y:Rat}{z:Int}(h:sgQ (x-y)=z):(z==0)=decide (x=y):=by
  have h1:=(sgx_z h).trans sbx_z
  by_cases e:z=0
  . rw[decide_eq_true (h1.1 e),e];rfl
  rw[decide_eq_false fun q=>e (h1.2 q)];simpa using e
set_option maxRecDepth 100000 in
theorem rsame_any(w:World){x y:Rat}{k:Nat}{xn:Bool}{xp xq:Option Addr}{xl xc xu xd:Nat}{yn:Bool}{yp yq:Option Addr}{yl yc yu yd:Nat}(h0:RefR w (.agg #[.bool xn,.slice xp xl xc,.slice xq xu xd]) x)(h1:RefR w (.agg #[.bool yn,.slice yp yl yc,.slice yq yu yd]) y)(hx:LmQ k x)(hy:LmQ k y)(hk:k<=10000):
    Calls Tryz.prog 15 #[.agg #[.bool xn,.slice xp xl xc,.slice xq xu xd],.agg #[.bool yn,.slice yp yl yc,.slice yq yu yd]] w fun e w'=>e=.returned (.bool (decide (x=y)))/\Below w.heap.size w w':=by
  have hK:=SS.start w;refine Calls.hide (fun Q0 hQ0=>?_);go_enter Tryz.func15,Tryz.ntmps15;go_upto_region 0 with(fail);refine wp_region_T [3,3,0] hK ?_;clear hK;refine eA (.cells #[.bool xn,.slice xp xl xc,.slice xq xu xd] 34) (fun R1=>?_);refine eA (.cells #[.bool yn,.slice yp yl yc,.slice yq yu yd] 34) (fun R2=>?_);refine e0 ?_;refine sxEnd (fun W3 hK=>?_);go_upto_region 1 with(fail);refine wp_region_T [1,1,1,0,0] hK ?_;clear hK;refine eL m1 ?_;refine eL m0 ?_;obtain⟨z1,hz1⟩:=nmI (sgQ (x-y));refine eQ (v:=.int .i64 z1) (fun w k=>rcmp_q _ _ _ _ w (h0.below k.old) (h1.below k.old) hx hy (by first|decide|omega)) ?_ (hv:=by rw[hz1.out]);refine eB (z1==0) (fun b1 hb1=>?_);refine e0 ?_;refine sxEnd (fun W4 hK=>?_);go_wp2
  try go_ret
  show Q0 (.returned (.bool b1)) _
  exact(qo hQ0 ⟨(by rw[<-same_of hz1.out]<;>first|rfl|rw[hb1.out]),hK.old⟩)
set_option maxRecDepth 100000 in
set_option maxHeartbeats 400000 in
theorem rcolumn_any(w:World){cp ap bp:Option Addr}{cl cc al ac bl bc:Nat}{P:LPd}{p_h1:Option Addr}{n_h1 c_h1:Nat}{y:List Rat}(hh1:SlV refK w (.slice p_h1 n_h1 c_h1) y)(k0:Nat)(hC:SlV refK w (.slice cp cl cc) P.c)(hA:SlV rfK w (.slice ap al ac) P.A)(hB:SlV refK w (.slice bp bl bc) P.b)(hb1:n_h1<=100000)(hl:y.length=P.A.length)(hr:∀a∈P.A,k0<a.length){k:Nat}(hy:LmL k y)(hx:LmL k (P.A.map fun a=>a.getD k0 0))(hk:(k+k+1)*y.length+1<=9999)(hk2:k<=4000):
    Calls Tryz.prog 96 #[.agg #[.slice cp cl cc,.slice ap al ac,.slice bp bl bc],.slice p_h1 n_h1 c_h1,.int .i64 (k0:Int)] w fun e w'=> ∃x:Duo Sl Sl,e=.returned (.agg #[.bool (isN (colQ P y k0)),.slice x.a.p x.a.l x.a.c,.slice x.b.p x.b.l x.b.c])/\SS w [rF (.agg #[.bool (isN (colQ P y k0)),.slice x.a.p x.a.l x.a.c,.slice x.b.p x.b.l x.b.c]) (colQ P y k0)] w':=by
  have hK:=SS.start w;have⟨nc1,nc2⟩:=lle hC.one0;have⟨na1,na2⟩:=lle hA.one0;have⟨nb1,nb2⟩:=lle hB.one0;have⟨ny1,ny2⟩:=lle hh1.one0;refine Calls.hide (fun Q0 hQ0=>?_);go_enter Tryz.func96,Tryz.ntmps96;go_upto_region 0 with(fail);refine wp_region_T [3,3] hK ?_;clear hK;refine eA (.cells #[.slice cp cl cc,.slice ap al ac,.slice bp bl bc] 29) (fun R1=>?_);refine eA (.cells #[.bool false,.slice none 0 0,.slice none 0 0] 34) (fun R2=>?_);refine sxEnd (fun W3 hK=>?_);go_upto_region 1 with(fail);refine wp_region_T [0,3,4] hK ?_;clear hK;refine e0 ?_;refine eA (.cells #[.bool false,.slice none 0 0,.slice none 0 0] 34) (fun R4=>?_);refine eP 0 0 [.bool false,.slice none 0 0,.slice none 0 0] ?_;refine sxEnd (fun W5 hK=>?_);replace hK:=hK.fact (rF (.agg #[.bool false,.slice none 0 0,.slice none 0 0]) (0:Rat)) (refR0 _);rw[show(0:Rat)=dotQ (y.take 0) ((P.A.map fun a=>a.getD k0 0).take 0)from rfl]at hK;go_wp2_with fail;go_loopw [8] (fun s8 wl=> ∃(m:Nat) (qn:Bool) (up:Option Addr) (ul:Nat) (uc:Nat) (vp:Option Addr) (vl:Nat) (vc:Nat),s8=.int .i64 (m:Int)/\(m<=al)/\SS w ([rF (.agg #[.bool qn,.slice up ul uc,.slice vp vl vc]) (dotQ (y.take m) ((P.A.map fun a=>a.getD k0 0).take m)),bx R4 (.cells #[.bool qn,.slice up ul uc,.slice vp vl vc] 34),bx R2 (.cells #[.bool false,.slice none 0 0,.slice none 0 0] 34),bx R1 (.cells #[.slice cp cl cc,.slice ap al ac,.slice bp bl bc] 29)]) wl) (fun s8 _=>al-(intOf s8).toNat)
  case atStart=>exact⟨0,false,none,0,0,none,0,0,rfl,(by omega),hK⟩
  clear hK;obtain⟨m,qn,up,ul,uc,vp,vl,vc,rfl,hm0,hK⟩:=hrel;generalize wr=W6 at hK⊢;go_upto_region 3 with(fail);refine wp_region_T [0,0,1,0,0] hK ?_;clear hK
  iterate 2 refine e0 ?_
  refine eL m3 ?_;refine e0 ?_;refine eB (decide (((m:Int))<((al:Int)))) (fun b1 hb1=>?_);refine sxEnd (fun W7 hK=>?_)
  cases b1
  . --
   have q_b1:=nlt hb1;go_upto_region 6 with(fail);refine wp_region_T [1,4] hK ?_;clear hK;refine eL m1 ?_;refine eP 2 0 [.bool qn,.slice up ul uc,.slice vp vl vc] ?_ (hq:=.inr ⟨rfl,rfl,rfl,trivial⟩);refine sxEnd (fun W8 hK=>?_);rw[show dotQ (y.take m) ((P.A.map fun a=>a.getD k0 0).take m)=colQ P y k0 from(dotQ_end (by left;have qb1:=hb1.out;(try simp at qb1);omega))]at hK;have hq0:=(refR_cells (hK.rq m0)).1;injection hq0 with hq0;subst hq0;have⟨c90,c91,c92⟩:=(hK.box m2).c3;replace hK:=hK.subl (sK2 (sC2 (sC2 (sC2 sZ2))));go_wp2;exact bodyPost_ret (v:=.agg #[.bool (isN (colQ P y k0)),.slice up ul uc,.slice vp vl vc]) (by simp[results,Tryz.results96,go_sem,c90,c91,c92]) rfl (qo hQ0 ⟨⟨⟨up,ul,uc⟩,⟨vp,vl,vc⟩⟩,rfl,hK⟩)
  have q_b1:=ylt hb1;have i9:m<n_h1:=(by omega);obtain⟨g9,o9,rfl⟩:=hh1.pt i9;have l9:m<y.length:=Nat.lt_of_lt_of_eq i9 (hh1.one0);obtain⟨ya,eya⟩:=gtH l9;obtain⟨_,_,_,ya_c,ya_r⟩:=hh1.ref eya.out;obtain⟨rfl,⟨ya_p,ya_n,ya_d,rfl⟩,ya_q,ya_m,ya_e,rfl⟩:=refR_cells ya_r;have i10:m<al:=(by omega);obtain⟨g10,o10,rfl⟩:=hA.pt i10;have l10:m<P.A.length:=Nat.lt_of_lt_of_eq i10 (hA.one0);obtain⟨a,ea⟩:=gtH l10;obtain⟨⟨a_p,a_l,a_c⟩,a_h,a_s⟩:=hA.row ea.out;dsimp only at a_h a_s;have a_n:=hid a_s.one0;have⟨a_n1,a_n2⟩:=lle a_n.out;have hal:=hid (hr a (List.mem_of_getElem? ea.out));have hal1:=hal.out;have i11:k0<a_l:=(by omega);obtain⟨g11,o11,rfl⟩:=a_s.pt i11;have l11:k0<a.length:=Nat.lt_of_lt_of_eq i11 (a_s.one0);obtain⟨xa,exa⟩:=gtH l11;obtain⟨_,_,_,xa_c,xa_r⟩:=a_s.ref exa.out;obtain⟨rfl,⟨xa_p,xa_n,xa_d,rfl⟩,xa_q,xa_m,xa_e,rfl⟩:=refR_cells xa_r;have hyl:=hid (hy ya (List.mem_of_getElem? eya.out));have hxl:=hid (hx xa (by rw[<-getD_of (d:=(0:Rat)) exa.out];exact List.mem_map_of_mem (List.mem_of_getElem? ea.out)));have hdl:=hid (dotQ_lmt hy hx hk m);have hax:Hid ((P.A.map fun a=>a.getD k0 0)[m]?=some xa):=hid (by rw[List.getElem?_map,ea.out,Option.map_some,getD_of exa.out]);go_upto_region 5 with(fail);refine wp_region_S _ [1,0,0,0,0,0,0,0,0,0,0,0,0,2,2,4] hK ?_ (sK2 (sC2 (sR)));clear hK;refine eL m1 ?_
  iterate 3 refine e0 ?_
  refine eRm3 (fun w k=>ya_c.below k.old) ?_;refine e0 ?_;refine eL0 m2 ?_
  iterate 2 refine e0 ?_
  refine eR0 (fun w k=>celB a_h k.old) ?_
  iterate 2 refine e0 ?_
  refine eRm3 (fun w k=>xa_c.below k.old) ?_;refine eC (fun w k=>ref_S (rmul_q _ _ _ _ w (ya_r.below k.old) (xa_r.below k.old) hyl.out hxl.out (by first|decide|omega))) (fun x12=>?_);obtain⟨⟨p13,l13,c13⟩,⟨q13,u13,d13⟩⟩:=x12;dsimp only;refine eC (fun w k=>ref_S (radd_q _ _ _ _ w (k.rq m1) (k.rq m0) (hdl.out.up (by decide)) ((LmQ.mul hyl.out hxl.out).up (by omega)) (k:=10000) (by first|decide|omega))) (fun x14=>?_);obtain⟨⟨p15,l15,c15⟩,⟨q15,u15,d15⟩⟩:=x14;dsimp only;refine eP 3 0 [.bool (isN ((dotQ (y.take m) ((P.A.map fun a=>a.getD k0 0).take m))+(ya*xa))),.slice p15 l15 c15,.slice q15 u15 d15] ?_ (hs:=(sC2 (sC2 (sK2 (sC2 (sR)))))) (hq:=.inr ⟨rfl,rfl,rfl,rfl,rfl,trivial⟩);refine sxEnd (fun W16 hK=>?_);rw[show(dotQ (y.take m) ((P.A.map fun a=>a.getD k0 0).take m))+(ya*xa)=dotQ (y.take (m+1)) ((P.A.map fun a=>a.getD k0 0).take (m+1))from(dotQ_take eya.out hax.out).symm]at hK
  (try go_wp2)
  go_roundw
  case rel=>exact⟨m+1,(isN (dotQ (y.take (m+1)) ((P.A.map fun a=>a.getD k0 0).take (m+1)))),p15,l15,c15,q15,u15,d15,(by first|rfl|go_num),(by omega),(hK.subl (sK2 (sC2 (sC2 (sR)))))⟩
  case measure=>simp[intOf]<;>omega
theorem nn_at{xs:List Rat}{m:Nat}{x:Rat}{z:Int}(hx:xs[m]?=some x)(hz:sgQ x=z)(h:0<=z):nnP xs m=true:=by
  unfold nnP;rw[getD_of hx];exact decide_eq_true (Rat.not_lt.1 fun e=>by have:=(sgx_lt hz).2 e;omega)
theorem nn_no{xs:List Rat}{m:Nat}{x:Rat}{z:Int}(hm:m<xs.length)(hx:xs[m]?=some x)(hz:sgQ x=z)(h:z<0):nnB xs=false:=by
  unfold nnB;refine allN_no hm ?_;unfold nnP;rw[getD_of hx];exact decide_eq_false fun e=>by have:=(sgx_lt hz).1 h;grind
theorem le_of_sg{x y:Rat}{z:Int}(hz:sgQ (x-y)=z)(h:z<=0):x<=y:=Rat.not_lt.1 fun e=>by have:=(sgx_gt hz).2 (sbx_gt.2 e);omega
theorem gt_of_sg{x y:Rat}{z:Int}(hz:sgQ (x-y)=z)(h:0<z):¬x<=y:=fun e=>by have:=sbx_gt.1 ((sgx_gt hz).1 h);grind
theorem ge_of_sg{x y:Rat}{z:Int}(hz:sgQ (x-y)=z)(h:0<=z):y<=x:=Rat.not_lt.1 fun e=>by have:=(sgx_lt hz).2 (sbx_lt.2 e);omega
theorem lt_of_sg{x y:Rat}{z:Int}(hz:sgQ (x-y)=z)(h:z<0):¬y<=x:=fun e=>by have:=sbx_lt.1 ((sgx_lt hz).1 h);grind
set_option maxRecDepth 100000 in
set_option maxHeartbeats 400000 in
theorem rpositive_any(w:World){p_h0:Option Addr}{n_h0 c_h0:Nat}{xs:List Rat}(hh0:SlV refK w (.slice p_h0 n_h0 c_h0) xs)(hb0:n_h0<=100000):
    Calls Tryz.prog 42 #[.slice p_h0 n_h0 c_h0] w fun e w'=>e=.returned (.bool (nnB xs))/\Below w.heap.size w w':=by
  have hK:=SS.start w;have⟨nx1,nx2⟩:=lle hh0.one0;refine Calls.hide (fun Q0 hQ0=>?_);go_enter Tryz.func42,Tryz.ntmps42;go_wp2_with fail;go_loopw [3] (fun s3 wl=> ∃(m:Nat),s3=.int .i64 (m:Int)/\(m<=n_h0)/\Hid (allN (nnP xs) m=true)/\SS w ([]) wl) (fun s3 _=>n_h0-(intOf s3).toNat)
  case atStart=>exact⟨0,rfl,(by omega),hid rfl,hK⟩
  clear hK;obtain⟨m,rfl,hm0,h_o,hK⟩:=hrel;generalize wr=W1 at hK⊢;go_upto_region 2 with(fail);refine wp_region_T [0,0,0,0] hK ?_;clear hK
  iterate 3 refine e0 ?_
  refine eB (decide (((m:Int))<((n_h0:Int)))) (fun b1 hb1=>?_);refine sxEnd (fun W2 hK=>?_)
  cases b1
  . --
   have q_b1:=nlt hb1;go_wp2
   try go_ret
   show Q0 (.returned (.bool true)) _
   exact(qo hQ0 ⟨(by unfold nnB;rw[show xs.length=m from(by omega),h_o.out]),hK.old⟩)
  have q_b1:=ylt hb1;have i3:m<n_h0:=(by omega);obtain⟨g3,o3,rfl⟩:=hh0.pt i3;have l3:m<xs.length:=Nat.lt_of_lt_of_eq i3 (hh0.one0);obtain⟨xa,exa⟩:=gtH l3;obtain⟨_,_,_,xa_c,xa_r⟩:=hh0.ref exa.out;obtain⟨rfl,⟨xa_p,xa_n,xa_d,rfl⟩,xa_q,xa_m,xa_e,rfl⟩:=refR_cells xa_r;go_upto_region 4 with(fail);refine wp_region_T [0,0,0,0,1,0] hK ?_;clear hK
  iterate 3 refine e0 ?_
  refine eRm3 (fun w k=>xa_c.below k.old) ?_;obtain⟨z1,hz1⟩:=nmI (sgQ (xa));refine eQ (v:=.int .i64 z1) (fun w k=>rsign_q _ _ w (xa_r.below k.old)) ?_ (hv:=by rw[hz1.out]);refine eB (decide (z1<0)) (fun b2 hb2=>?_);refine sxEnd (fun W4 hK=>?_)
  cases b2
  . --
   have q_b2:=nlt hb2
   (try go_wp2)
   go_roundw
   case rel=>exact⟨m+1,(by first|rfl|go_num),(by omega),hid (allN_step h_o.out (nn_at exa.out hz1.out q_b2)),hK⟩
   case measure=>simp[intOf]<;>omega
  have q_b2:=ylt hb2;go_wp2
  try go_ret
  show Q0 (.returned (.bool false)) _
  exact(qo hQ0 ⟨(by rw[nn_no (by omega) exa.out hz1.out q_b2]),hK.old⟩)
set_option maxRecDepth 100000 in
set_option maxHeartbeats 400000 in
theorem rvalid_any(w:World){cp ap bp:Option Addr}{cl cc al ac bl bc:Nat}{P:LPd}(hC:SlV refK w (.slice cp cl cc) P.c)(hA:SlV rfK w (.slice ap al ac) P.A)(hB:SlV refK w (.slice bp bl bc) P.b)(hn1:P.c.length<=100000)(hn2:P.A.length<=100000)(_hn3:P.b.length<=100000):
    Calls Tryz.prog 69 #[.agg #[.slice cp cl cc,.slice ap al ac,.slice bp bl bc]] w fun e w'=>e=.returned (.bool (vldP P))/\Below w.heap.size w w':=by
  have hK:=SS.start w;have⟨nc1,nc2⟩:=lle hC.one0;have⟨na1,na2⟩:=lle hA.one0;have⟨nb1,nb2⟩:=lle hB.one0;refine Calls.hide (fun Q0 hQ0=>?_);go_enter Tryz.func69,Tryz.ntmps69;go_upto_region 0 with(fail);refine wp_region_T [3,0] hK ?_;clear hK;refine eA (.cells #[.slice cp cl cc,.slice ap al ac,.slice bp bl bc] 29) (fun R1=>?_);refine e0 ?_;refine sxEnd (fun W2 hK=>?_);go_upto_region 1 with(fail);refine wp_region_T [0,1,0,0,0,0,1,0,0,0,0,0,1,0,0,0,0,0,1,0,0,1,0,0,0] hK ?_;clear hK;refine e0 ?_;refine eL m0 ?_;refine e0 ?_;refine eB (decide (((cl:Int))<1)) (fun b1 hb1=>?_);refine e0 ?_
  cases b1
  . --
   have q_b1:=nlt hb1;refine e0 ?_;refine eL m0 ?_;refine e0 ?_;refine eB (decide (1024<((cl:Int)))) (fun b2 hb2=>?_)
   iterate 2 refine e0 ?_
   cases b2
   . --
    have q_b2:=nlt hb2;refine e0 ?_;refine eL m0 ?_;refine e0 ?_;refine eB (decide (1024<((al:Int)))) (fun b3 hb3=>?_)
    iterate 2 refine e0 ?_
    cases b3
    . --
     have q_b3:=nlt hb3;refine e0 ?_;refine eL m0 ?_
     iterate 2 refine e0 ?_
     refine eL m0 ?_;refine e0 ?_;refine eB (((bl:Int)) !=((al:Int))) (fun b4 hb4=>?_);refine e0 ?_;refine sxEnd (fun W3 hK=>?_)
     cases b4
     . --
      have hvh:=hid (show vldH P=true from vldH_of (by have qb1:=hb1.out;(try simp at qb1);have qb2:=hb2.out;(try simp at qb2);have qb3:=hb3.out;(try simp at qb3);have qb4:=hb4.out;(try simp at qb4);omega));go_upto_region 3 with(fail);refine wp_region_T [0] hK ?_;clear hK;refine e0 ?_;refine sxEnd (fun W4 hK=>?_);go_wp2_with fail;go_loopw [3] (fun s3 wl=> ∃(m:Nat),s3=.int .i64 (m:Int)/\(m<=P.A.length)/\Hid (allN (rowP P) m=true)/\SS w ([bx R1 (.cells #[.slice cp cl cc,.slice ap al ac,.slice bp bl bc] 29)]) wl) (fun s3 _=>al-(intOf s3).toNat)
      case atStart=>exact⟨0,rfl,(by omega),hid rfl,hK⟩
      clear hK;obtain⟨m,rfl,hm0,h_o,hK⟩:=hrel;generalize wr=W5 at hK⊢;go_upto_region 4 with(fail);refine wp_region_T [0,0,1,0,0] hK ?_;clear hK
      iterate 2 refine e0 ?_
      refine eL m0 ?_;refine e0 ?_;refine eB (decide (((m:Int))<((al:Int)))) (fun b5 hb5=>?_);refine sxEnd (fun W6 hK=>?_)
      cases b5
      . --
       have q_b5:=nlt hb5;go_wp2
       try go_ret
       show Q0 (.returned (.bool true)) _
       exact(qo hQ0 ⟨(by rw[vld_yes hvh.out (by rw[show P.A.length=m from(by omega)];exact h_o.out)]),hK.old⟩)
      have q_b5:=ylt hb5;have i7:m<al:=(by omega);obtain⟨g7,o7,rfl⟩:=hA.pt i7;have l7:m<P.A.length:=Nat.lt_of_lt_of_eq i7 (hA.one0);obtain⟨x,ex⟩:=gtH l7;obtain⟨⟨x_p,x_l,x_c⟩,x_h,x_s⟩:=hA.row ex.out;dsimp only at x_h x_s;have x_n:=hid x_s.one0;have⟨x_n1,x_n2⟩:=lle x_n.out;go_upto_region 6 with(fail);refine wp_region_S _ [0,0,0,0,0,0,0,0,0,0] hK ?_ (sR);clear hK;refine e0 ?_;refine eL0 m0 ?_
      iterate 2 refine e0 ?_
      refine eR0 (fun w k=>celB x_h k.old) ?_
      iterate 2 refine e0 ?_
      refine eL0 m0 ?_;refine e0 ?_;refine eB (((x_l:Int)) !=((cl:Int))) (fun b6 hb6=>?_);refine sxEnd (fun W8 hK=>?_)
      cases b6
      . --
       (try go_wp2)
       go_roundw
       case rel=>exact⟨m+1,(by first|rfl|go_num),(by omega),hid (allN_step h_o.out (by unfold rowP;rw[getD_of ex.out];have qb1:=hb1.out;(try simp at qb1);have qb2:=hb2.out;(try simp at qb2);have qb3:=hb3.out;(try simp at qb3);have qb4:=hb4.out;(try simp at qb4);have qb5:=hb5.out;(try simp at qb5);have qb6:=hb6.out;(try simp at qb6);simp;omega)),hK⟩
       case measure=>simp[intOf]<;>omega
      go_wp2
      try go_ret
      show Q0 (.returned (.bool false)) _
      exact(qo hQ0 ⟨(by rw[vld_no (i:=m) (by omega) (by rw[getD_of ex.out];have qb1:=hb1.out;(try simp at qb1);have qb2:=hb2.out;(try simp at qb2);have qb3:=hb3.out;(try simp at qb3);have qb4:=hb4.out;(try simp at qb4);have qb5:=hb5.out;(try simp at qb5);have qb6:=hb6.out;(try simp at qb6);omega)]),hK.old⟩)
     go_wp2
     try go_ret
     show Q0 (.returned (.bool false)) _
     exact(qo hQ0 ⟨(by rw[vld_head (by have qb1:=hb1.out;(try simp at qb1);have qb2:=hb2.out;(try simp at qb2);have qb3:=hb3.out;(try simp at qb3);have qb4:=hb4.out;(try simp at qb4);omega)]),hK.old⟩)
    have q_b3:=ylt hb3
    iterate 7 refine eN ?_
    refine e0 ?_;refine sxEnd (fun W9 hK=>?_);go_wp2
    try go_ret
    show Q0 (.returned (.bool false)) _
    exact(qo hQ0 ⟨(by rw[vld_head (by have qb1:=hb1.out;(try simp at qb1);have qb2:=hb2.out;(try simp at qb2);have qb3:=hb3.out;(try simp at qb3);omega)]),hK.old⟩)
   have q_b2:=ylt hb2
   iterate 4 refine eN ?_
   iterate 2 refine e0 ?_
   iterate 7 refine eN ?_
   refine e0 ?_;refine sxEnd (fun W10 hK=>?_);go_wp2
   try go_ret
   show Q0 (.returned (.bool false)) _
   exact(qo hQ0 ⟨(by rw[vld_head (by have qb1:=hb1.out;(try simp at qb1);have qb2:=hb2.out;(try simp at qb2);omega)]),hK.old⟩)
  have q_b1:=ylt hb1
  iterate 4 refine eN ?_
  iterate 2 refine e0 ?_
  iterate 4 refine eN ?_
  iterate 2 refine e0 ?_
  iterate 7 refine eN ?_
  refine e0 ?_;refine sxEnd (fun W11 hK=>?_);go_wp2
  try go_ret
  show Q0 (.returned (.bool false)) _
  exact(qo hQ0 ⟨(by rw[vld_head (by have qb1:=hb1.out;(try simp at qb1);omega)]),hK.old⟩)
end
section
theorem LmP.colm{k j:Nat}{P:LPd}(h:LmP k P)(hk:1<=k):LmL k (P.A.map fun a=>a.getD j 0):=fun x hx=>by
  obtain⟨a,ha,rfl⟩:=List.mem_map.1 hx
  by_cases hj:j<a.length
  . exact h.a a ha _ (by rw[List.getD_eq_getElem?_getD,List.getElem?_eq_getElem hj];exact List.getElem_mem hj)
  rw[List.getD_eq_getElem?_getD,List.getElem?_eq_none (by omega)];exact LmQ.nil0.up hk
theorem LmL.nil{k:Nat}:LmL k []:=fun _x hx=>absurd hx List.not_mem_nil
theorem LmL.zeros{k n:Nat}(hk:1<=k):LmL k (List.replicate n 0):=fun x hx=>by rw[(List.mem_replicate.1 hx).2];exact LmQ.nil0.up hk
theorem sgn_le{x:Rat}{z:Int}(hz:sgQ x=z)(h:z<=0):x<=0:=Rat.not_lt.1 fun e=>by have:=(sgx_gt hz).2 e;omega
theorem sgn_gt{x:Rat}{z:Int}(hz:sgQ x=z)(h:0<z):¬x<=0:=fun e=>by have:=(sgx_gt hz).1 h;grind
set_option maxRecDepth 100000 in
set_option maxHeartbeats 400000 in
theorem rfalls_any(w:World){cp ap bp:Option Addr}{cl cc al ac bl bc:Nat}{P:LPd}{p_h1:Option Addr}{n_h1 c_h1:Nat}{r:List Rat}(hh1:SlV refK w (.slice p_h1 n_h1 c_h1) r)(hC:SlV refK w (.slice cp cl cc) P.c)(hA:SlV rfK w (.slice ap al ac) P.A)(hB:SlV refK w (.slice bp bl bc) P.b){k:Nat}(hk:(k+k+1)*12+1<=9999)(hm:LmP k P)(hP:P.Ok)(hl:r.length=P.c.length)(hr:LmL k r):
    Calls Tryz.prog 71 #[.agg #[.slice cp cl cc,.slice ap al ac,.slice bp bl bc],.slice p_h1 n_h1 c_h1] w fun e w'=>e=.returned (.bool (falB P r))/\Below w.heap.size w w':=by
  have hK:=SS.start w;have⟨nc1,nc2⟩:=lle hC.one0;have⟨na1,na2⟩:=lle hA.one0;have⟨nb1,nb2⟩:=lle hB.one0;have hn12:=hm.n;have hm12:=hm.m;have hPb:=hP.hb;have hk2:k<=4000:=(by omega);have⟨nr1,nr2⟩:=lle hh1.one0;refine Calls.hide (fun Q0 hQ0=>?_);go_enter Tryz.func71,Tryz.ntmps71;go_upto_region 0 with(fail);refine wp_region_T [3,0] hK ?_;clear hK;refine eA (.cells #[.slice cp cl cc,.slice ap al ac,.slice bp bl bc] 29) (fun R1=>?_);refine e0 ?_;refine sxEnd (fun W2 hK=>?_);go_wp2_with fail;go_loopw [5] (fun s5 wl=> ∃(m:Nat),s5=.int .i64 (m:Int)/\(m<=al)/\Hid (allN (falP P r) m=true)/\SS w ([bx R1 (.cells #[.slice cp cl cc,.slice ap al ac,.slice bp bl bc] 29)]) wl) (fun s5 _=>al-(intOf s5).toNat)
  case atStart=>exact⟨0,rfl,(by omega),hid rfl,hK⟩
  clear hK;obtain⟨m,rfl,hm0,h_o,hK⟩:=hrel;generalize wr=W3 at hK⊢;go_upto_region 2 with(fail);refine wp_region_T [0,0,1,0,0] hK ?_;clear hK
  iterate 2 refine e0 ?_
  refine eL m0 ?_;refine e0 ?_;refine eB (decide (((m:Int))<((al:Int)))) (fun b1 hb1=>?_);refine sxEnd (fun W4 hK=>?_)
  cases b1
  . --
   have q_b1:=nlt hb1;go_wp2
   try go_ret
   show Q0 (.returned (.bool true)) _
   exact(qo hQ0 ⟨(by unfold falB;rw[show P.A.length=m from(by omega),h_o.out]),hK.old⟩)
  have q_b1:=ylt hb1;have i5:m<al:=(by omega);obtain⟨g5,o5,rfl⟩:=hA.pt i5;have l5:m<P.A.length:=Nat.lt_of_lt_of_eq i5 (hA.one0);obtain⟨a,ea⟩:=gtH l5;obtain⟨⟨a_p,a_l,a_c⟩,a_h,a_s⟩:=hA.row ea.out;dsimp only at a_h a_s;have a_n:=hid a_s.one0;have⟨a_n1,a_n2⟩:=lle a_n.out;have hal:=hid (hP.ha a (List.mem_of_getElem? ea.out));have hal1:=hal.out;have ham:=hm.a a (List.mem_of_getElem? ea.out);go_upto_region 4 with(fail);refine wp_region_T [0,1,0,0,0,0,2,1,0] hK ?_;clear hK;refine e0 ?_;refine eL m0 ?_
  iterate 2 refine e0 ?_
  refine eR0 (fun w k=>celB a_h k.old) ?_;refine e0 ?_;refine eC (fun w k=>rdot_any w (a_s.below k.old) (hh1.below k.old) (by omega) (by omega) ham hr (by rw[hal.out];exact Nat.le_trans (Nat.succ_le_succ (Nat.mul_le_mul_left _ (by omega))) hk) hk2) (fun x6=>?_);obtain⟨⟨p7,l7,c7⟩,⟨q7,u7,d7⟩⟩:=x6;dsimp only;obtain⟨z1,hz1⟩:=nmI (sgQ (dotQ a r));refine eQ (v:=.int .i64 z1) (fun w k=>rsign_q _ _ w (k.rq m0)) ?_ (hv:=by rw[hz1.out]);refine eB (decide (0<z1)) (fun b2 hb2=>?_);refine sxEnd (fun W8 hK=>?_)
  cases b2
  . --
   have q_b2:=nlt hb2
   (try go_wp2)
   go_roundw
   case rel=>exact⟨m+1,(by first|rfl|go_num),(by omega),hid (allN_step h_o.out (by unfold falP;rw[getD_of ea.out];exact decide_eq_true (sgn_le hz1.out q_b2))),(hK.subl (sC2 (sR)))⟩
   case measure=>simp[intOf]<;>omega
  have q_b2:=ylt hb2;go_wp2
  try go_ret
  show Q0 (.returned (.bool false)) _
  exact(qo hQ0 ⟨(by unfold falB;rw[allN_no (k:=m) (by omega) (by unfold falP;rw[getD_of ea.out];exact decide_eq_false (sgn_gt hz1.out q_b2))]),hK.old⟩)
set_option maxRecDepth 100000 in
set_option maxHeartbeats 400000 in
theorem rfeasible_any(w:World){cp ap bp:Option Addr}{cl cc al ac bl bc:Nat}{P:LPd}{p_h1:Option Addr}{n_h1 c_h1:Nat}{x:List Rat}(hh1:SlV refK w (.slice p_h1 n_h1 c_h1) x)(hC:SlV refK w (.slice cp cl cc) P.c)(hA:SlV rfK w (.slice ap al ac) P.A)(hB:SlV refK w (.slice bp bl bc) P.b){k:Nat}(hk:(k+k+1)*12+1<=9999)(hm:LmP k P)(hP:P.Ok)(hb1:n_h1<=100000)(hx:LmL k x):
    Calls Tryz.prog 17 #[.agg #[.slice cp cl cc,.slice ap al ac,.slice bp bl bc],.slice p_h1 n_h1 c_h1] w fun e w'=>e=.returned (.bool (feaB P x))/\Below w.heap.size w w':=by
  have hK:=SS.start w;have⟨nc1,nc2⟩:=lle hC.one0;have⟨na1,na2⟩:=lle hA.one0;have⟨nb1,nb2⟩:=lle hB.one0;have hn12:=hm.n;have hm12:=hm.m;have hPb:=hP.hb;have hk2:k<=4000:=(by omega);have⟨nr1,nr2⟩:=lle hh1.one0;refine Calls.hide (fun Q0 hQ0=>?_);go_enter Tryz.func17,Tryz.ntmps17;go_upto_region 0 with(fail);refine wp_region_T [3,0] hK ?_;clear hK;refine eA (.cells #[.slice cp cl cc,.slice ap al ac,.slice bp bl bc] 29) (fun R1=>?_);refine e0 ?_;refine sxEnd (fun W2 hK=>?_);go_upto_region 1 with(fail);refine wp_region_T [0,0,0,1,0,0,0,0,1,0,0] hK ?_;clear hK
  iterate 3 refine e0 ?_
  refine eL m0 ?_;refine e0 ?_;refine eB (((n_h1:Int)) !=((cl:Int))) (fun b1 hb1=>?_);refine e0 ?_
  cases b1
  . --
   refine e0 ?_;obtain⟨b2,hb2⟩:=nmB (nnB x);refine eQ (v:=.bool b2) (fun w k=>rpositive_any w (hh1.below k.old) (by omega)) ?_ (hv:=by rw[hb2.out])
   iterate 2 refine e0 ?_
   refine sxEnd (fun W3 hK=>?_)
   cases b2
   . --
    go_wp2
    try go_ret
    show Q0 (.returned (.bool false)) _
    exact(qo hQ0 ⟨(by unfold feaB;rw[hb2.out];simp),hK.old⟩)
   have hxe:=hid (show x.length=P.c.length from(by have qb1:=hb1.out;(try simp at qb1);have qb2:=hb2.out;(try simp at qb2);omega));go_upto_region 3 with(fail);refine wp_region_T [0] hK ?_;clear hK;refine e0 ?_;refine sxEnd (fun W4 hK=>?_);go_wp2_with fail;go_loopw [5] (fun s5 wl=> ∃(m:Nat),s5=.int .i64 (m:Int)/\(m<=al)/\Hid (allN (feaP P x) m=true)/\SS w ([bx R1 (.cells #[.slice cp cl cc,.slice ap al ac,.slice bp bl bc] 29)]) wl) (fun s5 _=>al-(intOf s5).toNat)
   case atStart=>exact⟨0,rfl,(by omega),hid rfl,hK⟩
   clear hK;obtain⟨m,rfl,hm0,h_o,hK⟩:=hrel;generalize wr=W5 at hK⊢;go_upto_region 4 with(fail);refine wp_region_T [0,0,1,0,0] hK ?_;clear hK
   iterate 2 refine e0 ?_
   refine eL m0 ?_;refine e0 ?_;refine eB (decide (((m:Int))<((al:Int)))) (fun b3 hb3=>?_);refine sxEnd (fun W6 hK=>?_)
   cases b3
   . --
    have q_b3:=nlt hb3;go_wp2
    try go_ret
    show Q0 (.returned (.bool true)) _
    exact(qo hQ0 ⟨(by unfold feaB;rw[show P.A.length=m from(by omega),h_o.out,hb2.out,decide_eq_true hxe.out];rfl),hK.old⟩)
   have q_b3:=ylt hb3;have i7:m<al:=(by omega);obtain⟨g7,o7,rfl⟩:=hA.pt i7;have l7:m<P.A.length:=Nat.lt_of_lt_of_eq i7 (hA.one0);obtain⟨a,ea⟩:=gtH l7;obtain⟨⟨a_p,a_l,a_c⟩,a_h,a_s⟩:=hA.row ea.out;dsimp only at a_h a_s;have a_n:=hid a_s.one0;have⟨a_n1,a_n2⟩:=lle a_n.out;have hal:=hid (hP.ha a (List.mem_of_getElem? ea.out));have hal1:=hal.out;have ham:=hm.a a (List.mem_of_getElem? ea.out);have i8:m<bl:=(by omega);obtain⟨g8,o8,rfl⟩:=hB.pt i8;have l8:m<P.b.length:=Nat.lt_of_lt_of_eq i8 (hB.one0);obtain⟨xb,exb⟩:=gtH l8;obtain⟨_,_,_,xb_c,xb_r⟩:=hB.ref exb.out;obtain⟨rfl,⟨xb_p,xb_n,xb_d,rfl⟩,xb_q,xb_m,xb_e,rfl⟩:=refR_cells xb_r;have hxb:=hm.b xb (List.mem_of_getElem? exb.out);go_upto_region 6 with(fail);refine wp_region_S _ [0,0,0,0,0,0,2,0,0,0,0,0,1,0] hK ?_ (sR);clear hK;refine e0 ?_;refine eL0 m0 ?_
   iterate 2 refine e0 ?_
   refine eR0 (fun w k=>celB a_h k.old) ?_;refine e0 ?_;refine eC (fun w k=>rdot_any w (a_s.below k.old) (hh1.below k.old) (by omega) (by omega) ham hx (by rw[hal.out];exact Nat.le_trans (Nat.succ_le_succ (Nat.mul_le_mul_left _ (by omega))) hk) hk2) (fun x9=>?_);obtain⟨⟨p10,l10,c10⟩,⟨q10,u10,d10⟩⟩:=x9;dsimp only;refine e0 ?_;refine eL0 m0 ?_
   iterate 2 refine e0 ?_
   refine eRm3 (fun w k=>xb_c.below k.old) ?_;obtain⟨z1,hz1⟩:=nmI (sgQ ((dotQ a x)-xb));refine eQ (v:=.int .i64 z1) (fun w k=>rcmp_q _ _ _ _ w (k.rq m0) (xb_r.below k.old) (dotQ_lm ham hx|>.up (by rw[hal.out];exact Nat.le_trans (Nat.succ_le_succ (Nat.mul_le_mul_left _ (by omega))) hk)) (hxb.up (by omega)) (by first|decide|omega)) ?_ (hv:=by rw[hz1.out]);refine eB (decide (0<z1)) (fun b4 hb4=>?_);refine sxEnd (fun W11 hK=>?_)
   cases b4
   . --
    have q_b4:=nlt hb4
    (try go_wp2)
    go_roundw
    case rel=>exact⟨m+1,(by first|rfl|go_num),(by omega),hid (allN_step h_o.out (by unfold feaP;rw[getD_of ea.out,getD_of exb.out];exact decide_eq_true (le_of_sg hz1.out q_b4))),(hK.subl (sC2 (sR)))⟩
    case measure=>simp[intOf]<;>omega
   have q_b4:=ylt hb4;go_wp2
   try go_ret
   show Q0 (.returned (.bool false)) _
   exact(qo hQ0 ⟨(by unfold feaB;rw[allN_no (k:=m) (by omega) (by unfold feaP;rw[getD_of ea.out,getD_of exb.out];exact decide_eq_false (gt_of_sg hz1.out q_b4))];simp),hK.old⟩)
  iterate 3 refine eN ?_
  refine e0 ?_;refine sxEnd (fun W12 hK=>?_);go_wp2
  try go_ret
  show Q0 (.returned (.bool false)) _
  exact(by obtain rfl:=hQ0.out;exact⟨(by unfold feaB;rw[decide_eq_false (show ¬x.length=P.c.length from(by have qb1:=hb1.out;(try simp at qb1);omega))];rfl),hK.old⟩)
set_option maxRecDepth 100000 in
set_option maxHeartbeats 400000 in
theorem rcovers_any(w:World){cp ap bp:Option Addr}{cl cc al ac bl bc:Nat}{P:LPd}{p_h1:Option Addr}{n_h1 c_h1:Nat}{y:List Rat}(hh1:SlV refK w (.slice p_h1 n_h1 c_h1) y){p_h2:Option Addr}{n_h2 c_h2:Nat}{q:List Rat}(hh2:SlV refK w (.slice p_h2 n_h2 c_h2) q)(hC:SlV refK w (.slice cp cl cc) P.c)(hA:SlV rfK w (.slice ap al ac) P.A)(hB:SlV refK w (.slice bp bl bc) P.b){k:Nat}(hk:(k+k+1)*12+1<=9999)(hm:LmP k P)(hP:P.Ok)(hk1:1<=k)(hb1:n_h1<=100000)(hy:LmL k y)(hq:LmL k q)(hql:q.length=P.c.length):
    Calls Tryz.prog 70 #[.agg #[.slice cp cl cc,.slice ap al ac,.slice bp bl bc],.slice p_h1 n_h1 c_h1,.slice p_h2 n_h2 c_h2] w fun e w'=>e=.returned (.bool (covB P y q))/\Below w.heap.size w w':=by
  have hK:=SS.start w;have⟨nc1,nc2⟩:=lle hC.one0;have⟨na1,na2⟩:=lle hA.one0;have⟨nb1,nb2⟩:=lle hB.one0;have hn12:=hm.n;have hm12:=hm.m;have hPb:=hP.hb;have hk2:k<=4000:=(by omega);have⟨ny1,ny2⟩:=lle hh1.one0;have⟨nq1,nq2⟩:=lle hh2.one0;refine Calls.hide (fun Q0 hQ0=>?_);go_enter Tryz.func70,Tryz.ntmps70;go_upto_region 0 with(fail);refine wp_region_T [3,0] hK ?_;clear hK;refine eA (.cells #[.slice cp cl cc,.slice ap al ac,.slice bp bl bc] 29) (fun R1=>?_);refine e0 ?_;refine sxEnd (fun W2 hK=>?_);go_upto_region 1 with(fail);refine wp_region_T [0,0,0,1,0,0,0,0,1,0,0] hK ?_;clear hK
  iterate 3 refine e0 ?_
  refine eL m0 ?_;refine e0 ?_;refine eB (((n_h1:Int)) !=((al:Int))) (fun b1 hb1=>?_);refine e0 ?_
  cases b1
  . --
   refine e0 ?_;obtain⟨b2,hb2⟩:=nmB (nnB y);refine eQ (v:=.bool b2) (fun w k=>rpositive_any w (hh1.below k.old) (by omega)) ?_ (hv:=by rw[hb2.out])
   iterate 2 refine e0 ?_
   refine sxEnd (fun W3 hK=>?_)
   cases b2
   . --
    go_wp2
    try go_ret
    show Q0 (.returned (.bool false)) _
    exact(qo hQ0 ⟨(by unfold covB;rw[hb2.out];simp),hK.old⟩)
   have hye:=hid (show y.length=P.A.length from(by have qb1:=hb1.out;(try simp at qb1);have qb2:=hb2.out;(try simp at qb2);omega));go_upto_region 3 with(fail);refine wp_region_T [0] hK ?_;clear hK;refine e0 ?_;refine sxEnd (fun W4 hK=>?_);go_wp2_with fail;go_loopw [7] (fun s7 wl=> ∃(m:Nat),s7=.int .i64 (m:Int)/\(m<=cl)/\Hid (allN (covP P y q) m=true)/\SS w ([bx R1 (.cells #[.slice cp cl cc,.slice ap al ac,.slice bp bl bc] 29)]) wl) (fun s7 _=>cl-(intOf s7).toNat)
   case atStart=>exact⟨0,rfl,(by omega),hid rfl,hK⟩
   clear hK;obtain⟨m,rfl,hm0,h_o,hK⟩:=hrel;generalize wr=W5 at hK⊢;go_upto_region 4 with(fail);refine wp_region_T [0,0,1,0,0] hK ?_;clear hK
   iterate 2 refine e0 ?_
   refine eL m0 ?_;refine e0 ?_;refine eB (decide (((m:Int))<((cl:Int)))) (fun b3 hb3=>?_);refine sxEnd (fun W6 hK=>?_)
   cases b3
   . --
    have q_b3:=nlt hb3;go_wp2
    try go_ret
    show Q0 (.returned (.bool true)) _
    exact(qo hQ0 ⟨(by unfold covB;rw[show P.c.length=m from(by omega),h_o.out,hb2.out,decide_eq_true hye.out];rfl),hK.old⟩)
   have q_b3:=ylt hb3;have i7:m<n_h2:=(by omega);obtain⟨g7,o7,rfl⟩:=hh2.pt i7;have l7:m<q.length:=Nat.lt_of_lt_of_eq i7 (hh2.one0);obtain⟨xb,exb⟩:=gtH l7;obtain⟨_,_,_,xb_c,xb_r⟩:=hh2.ref exb.out;obtain⟨rfl,⟨xb_p,xb_n,xb_d,rfl⟩,xb_q,xb_m,xb_e,rfl⟩:=refR_cells xb_r;have hxb:=hq xb (List.mem_of_getElem? exb.out);have hmc:m<P.c.length:=(by omega);go_upto_region 6 with(fail);refine wp_region_S _ [0,0,0,2,0,0,0,0,1,0] hK ?_ (sR);clear hK;refine eL0 m0 ?_
   iterate 2 refine e0 ?_
   refine eC (fun w k=>rcolumn_any w (hh1.below k.old) m (hC.below k.old) (hA.below k.old) (hB.below k.old) (by omega) hye.out (fun a ha=>by rw[hP.ha a ha];exact hmc) hy (hm.colm hk1) (by rw[hye.out];exact Nat.le_trans (Nat.succ_le_succ (Nat.mul_le_mul_left _ (by omega))) hk) hk2) (fun x8=>?_);obtain⟨⟨p9,l9,c9⟩,⟨q9,u9,d9⟩⟩:=x8;dsimp only
   iterate 3 refine e0 ?_
   refine eRm3 (fun w k=>xb_c.below k.old) ?_;obtain⟨z1,hz1⟩:=nmI (sgQ ((colQ P y m)-xb));refine eQ (v:=.int .i64 z1) (fun w k=>rcmp_q _ _ _ _ w (k.rq m0) (xb_r.below k.old) ((dotQ_lm hy (hm.colm hk1)).up (by rw[hye.out];exact Nat.le_trans (Nat.succ_le_succ (Nat.mul_le_mul_left _ (by omega))) hk)) (hxb.up (by omega)) (by first|decide|omega)) ?_ (hv:=by rw[hz1.out]);refine eB (decide (z1<0)) (fun b4 hb4=>?_);refine sxEnd (fun W10 hK=>?_)
   cases b4
   . --
    have q_b4:=nlt hb4
    (try go_wp2)
    go_roundw
    case rel=>exact⟨m+1,(by first|rfl|go_num),(by omega),hid (allN_step h_o.out (by unfold covP;rw[getD_of exb.out];exact decide_eq_true (ge_of_sg hz1.out q_b4))),(hK.subl (sC2 (sR)))⟩
    case measure=>simp[intOf]<;>omega
   have q_b4:=ylt hb4;go_wp2
   try go_ret
   show Q0 (.returned (.bool false)) _
   exact(qo hQ0 ⟨(by unfold covB;rw[allN_no (k:=m) (by omega) (by unfold covP;rw[getD_of exb.out];exact decide_eq_false (lt_of_sg hz1.out q_b4))];simp),hK.old⟩)
  iterate 3 refine eN ?_
  refine e0 ?_;refine sxEnd (fun W11 hK=>?_);go_wp2
  try go_ret
  show Q0 (.returned (.bool false)) _
  exact(by obtain rfl:=hQ0.out;exact⟨(by unfold covB;rw[decide_eq_false (show ¬y.length=P.A.length from(by have qb1:=hb1.out;(try simp at qb1);omega))];rfl),hK.old⟩)
end
section
set_option maxRecDepth 100000 in
set_option maxHeartbeats 400000 in
theorem acc1_any(w:World){cp ap bp:Option Addr}{cl cc al ac bl bc:Nat}{P:LPd}{xp yp rp zp zq:Option Addr}{xl xc yl yc rl rc zl zc zu zd:Nat}{zn:Bool}{x y r:List Rat}{z:Rat}(hC:SlV refK w (.slice cp cl cc) P.c)(hA:SlV rfK w (.slice ap al ac) P.A)(hB:SlV refK w (.slice bp bl bc) P.b){k:Nat}(hk:(k+k+1)*12+1<=9999)(hm:LmP k P)(hP:P.Ok)(hX:SlV refK w (.slice xp xl xc) x)(hY:SlV refK w (.slice yp yl yc) y)(hR:SlV refK w (.slice rp rl rc) r)(hZ:RefR w (.agg #[.bool zn,.slice zp zl zc,.slice zq zu zd]) z)(hk1:1<=k)(hv:vldP P=true)(hx:LmL k x)(hy:LmL k y)(_hr:LmL k r)(hz:LmQ k z)(hxl:x.length=P.c.length)(hyl:y.length=P.A.length)(hr0:r.length=0)(c1:feaB P x=true)(c2:covB P y P.c=true)(c4:dotQ P.c x=z)(c5:dotQ P.b y=z):
    Calls Tryz.prog 37 #[.agg #[.slice cp cl cc,.slice ap al ac,.slice bp bl bc],.agg #[.int .i64 1,.slice xp xl xc,.slice yp yl yc,.slice rp rl rc,.bool zn,.slice zp zl zc,.slice zq zu zd]] w fun e w'=>e=.returned (.bool true)/\Below w.heap.size w w':=by
  have hK:=SS.start w;have⟨nc1,nc2⟩:=lle hC.one0;have⟨na1,na2⟩:=lle hA.one0;have⟨nb1,nb2⟩:=lle hB.one0;have hn12:=hm.n;have hm12:=hm.m;have hPb:=hP.hb;have hk2:k<=4000:=(by omega);have nx1:=hid hX.one0;have ny1:=hid hY.one0;have nr1:=hid hR.one0;replace hxl:=hid hxl;replace hyl:=hid hyl;replace c4:=hid c4;replace c5:=hid c5;obtain rfl:rl=0:=nr1.out.trans hr0;refine Calls.hide (fun Q0 hQ0=>?_);go_enter Tryz.func37,Tryz.ntmps37;go_upto_region 0 with(fail);refine wp_region_T [3,3,0] hK ?_;clear hK;refine eA (.cells #[.slice cp cl cc,.slice ap al ac,.slice bp bl bc] 29) (fun R1=>?_);refine eA (.cells #[.int .i64 1,.slice xp xl xc,.slice yp yl yc,.slice rp 0 rc,.bool zn,.slice zp zl zc,.slice zq zu zd] 36) (fun R2=>?_);refine e0 ?_;refine sxEnd (fun W3 hK=>?_);go_upto_region 1 with(fail);refine wp_region_T [1,1,0] hK ?_;clear hK;refine eL m1 ?_;refine eQ (fun w k=>(rvalid_any w (hC.below k.old) (hA.below k.old) (hB.below k.old) (by omega) (by omega) (by omega)).mono fun _ _ q=>by rw[hv]at q;exact q) ?_;refine e0 ?_;refine sxEnd (fun W4 hK=>?_);go_upto_region 3 with(fail);refine wp_region_T [0,1,0,3,0] hK ?_;clear hK;refine e0 ?_;refine eL m1 ?_;refine e0 ?_;refine eMk (K:=refK) (t:=34) (x:=(0:Rat)) cl refz0 rfl infoR (by show cl*3<=_;omega) (by decide) (fun g5=>?_);refine e0 ?_;refine sxEnd (fun W6 hK=>?_);replace hK:=hK.made (K:=refK) (n:=cl) refz0 (by simp[maxLen];omega);go_upto_region 4 with(fail);refine wp_region_T [0,1] hK ?_;clear hK;refine e0 ?_;refine eL m1 ?_;refine sxEnd (fun W7 hK=>?_);go_upto_region 5 with(fail);refine wp_region_T [0,0] hK ?_;clear hK;refine eV (.bool true) (fun w'=>by go_simp;(try go_bits);exact⟨rfl,rfl⟩) ?_;refine e0 ?_;refine sxEnd (fun W8 hK=>?_);go_upto_region 6 with(fail);refine wp_region_S _ [0,0,0,1,0,0,0,0,0,0,1,0,0,0,0,0,0,0,0,0,0,0,0,2,0,0,1,0,0,0,0,0,0,2,0,0,1,0,0] hK ?_ (sR);clear hK;refine eL0 m2 ?_;refine e0 ?_;refine eL0 m1 ?_;refine eQ (fun w k=>(rfeasible_any w (hX.below k.old) (hC.below k.old) (hA.below k.old) (hB.below k.old) hk hm hP (Nat.le_trans (Nat.le_of_eq (nx1.out.trans hxl.out)) (by omega)) hx).mono fun _ _ q=>by rw[c1]at q;exact q) ?_
  refine e0 ?_;refine eL0 m2 ?_;refine e0 ?_;refine eL0 m1 ?_;refine e0 ?_;refine eL0 m2 ?_;refine eQ (fun w k=>(rcovers_any w (hY.below k.old) (hC.below k.old) (hC.below k.old) (hA.below k.old) (hB.below k.old) hk hm hP hk1 (Nat.le_trans (Nat.le_of_eq (ny1.out.trans hyl.out)) (by omega)) hy hm.c rfl).mono fun _ _ q=>by rw[c2]at q;exact q) ?_
  iterate 3 refine e0 ?_
  refine eL0 m1 ?_;refine e0 ?_;refine eV (.bool true) (fun w'=>by go_simp;(try go_bits);exact⟨rfl,rfl⟩) ?_
  iterate 3 refine e0 ?_
  refine eL0 m2 ?_;refine e0 ?_;refine eL0 m1 ?_;refine eC (fun w k=>rdot_any w (hC.below k.old) (hX.below k.old) (by omega) (Nat.le_trans (Nat.le_of_eq (nx1.out.trans hxl.out)) (by omega)) hm.c hx (Nat.le_trans (Nat.succ_le_succ (Nat.mul_le_mul_left _ (by omega))) hk) hk2) (fun x9=>?_);obtain⟨⟨p10,l10,c10⟩,⟨q10,u10,d10⟩⟩:=x9;dsimp only;refine e0 ?_;refine eL0 m1 ?_;refine eQ (fun w k=>(rsame_any w (x:=dotQ P.c x) (y:=z) (k:=9999) (k.rq m0) (hZ.below k.old) ((dotQ_lm hm.c hx).up (Nat.le_trans (Nat.succ_le_succ (Nat.mul_le_mul_left _ (by omega))) hk)) (hz.up (by omega)) (by decide)).mono fun _ _ q=>by rw[decide_eq_true c4.out]at q;exact q) ?_
  iterate 3 refine e0 ?_
  refine eL0 m2 ?_;refine e0 ?_;refine eL0 m1 ?_;refine eC (fun w k=>rdot_any w (hB.below k.old) (hY.below k.old) (by omega) (Nat.le_trans (Nat.le_of_eq (ny1.out.trans hyl.out)) (by omega)) hm.b hy (Nat.le_trans (Nat.succ_le_succ (Nat.mul_le_mul_left _ (by omega))) hk) hk2) (fun x11=>?_);obtain⟨⟨p12,l12,c12⟩,⟨q12,u12,d12⟩⟩:=x11;dsimp only;refine e0 ?_;refine eL0 m1 ?_;refine eQ (fun w k=>(rsame_any w (x:=dotQ P.b y) (y:=z) (k:=9999) (k.rq m0) (hZ.below k.old) ((dotQ_lm hm.b hy).up (Nat.le_trans (Nat.succ_le_succ (Nat.mul_le_mul_left _ (by omega))) hk)) (hz.up (by omega)) (by decide)).mono fun _ _ q=>by rw[decide_eq_true c5.out]at q;exact q) ?_
  iterate 2 refine e0 ?_
  refine sxEnd (fun W13 hK=>?_);go_wp2
  try go_ret
  show Q0 (.returned (.bool true)) _
  exact(qo hQ0 ⟨rfl,hK.old⟩)
set_option maxRecDepth 100000 in
set_option maxHeartbeats 400000 in
theorem acc2_any(w:World){cp ap bp:Option Addr}{cl cc al ac bl bc:Nat}{P:LPd}{xp yp rp zp zq:Option Addr}{xl xc yl yc rl rc zl zc zu zd:Nat}{zn:Bool}{x y r:List Rat}{z:Rat}(hC:SlV refK w (.slice cp cl cc) P.c)(hA:SlV rfK w (.slice ap al ac) P.A)(hB:SlV refK w (.slice bp bl bc) P.b){k:Nat}(hk:(k+k+1)*12+1<=9999)(hm:LmP k P)(hP:P.Ok)(hX:SlV refK w (.slice xp xl xc) x)(hY:SlV refK w (.slice yp yl yc) y)(hR:SlV refK w (.slice rp rl rc) r)(hZ:RefR w (.agg #[.bool zn,.slice zp zl zc,.slice zq zu zd]) z)(hk1:1<=k)(hv:vldP P=true)(_hx:LmL k x)(hy:LmL k y)(_hr:LmL k r)(_hz:LmQ k z)(hyl:y.length=P.A.length)(hx0:x.length=0)(hr0:r.length=0)(c2:covB P y (List.replicate cl 0)=true)(c4:dotQ P.b y<0)(c5:z=0):
    Calls Tryz.prog 37 #[.agg #[.slice cp cl cc,.slice ap al ac,.slice bp bl bc],.agg #[.int .i64 2,.slice xp xl xc,.slice yp yl yc,.slice rp rl rc,.bool zn,.slice zp zl zc,.slice zq zu zd]] w fun e w'=>e=.returned (.bool true)/\Below w.heap.size w w':=by
  have hK:=SS.start w;have⟨nc1,nc2⟩:=lle hC.one0;have⟨na1,na2⟩:=lle hA.one0;have⟨nb1,nb2⟩:=lle hB.one0;have hn12:=hm.n;have hm12:=hm.m;have hPb:=hP.hb;have hk2:k<=4000:=(by omega);have nx1:=hid hX.one0;have ny1:=hid hY.one0;have nr1:=hid hR.one0;replace hyl:=hid hyl;replace c5:=hid c5;obtain rfl:xl=0:=nx1.out.trans hx0;obtain rfl:rl=0:=nr1.out.trans hr0;refine Calls.hide (fun Q0 hQ0=>?_);go_enter Tryz.func37,Tryz.ntmps37;go_upto_region 0 with(fail);refine wp_region_T [3,3,0] hK ?_;clear hK;refine eA (.cells #[.slice cp cl cc,.slice ap al ac,.slice bp bl bc] 29) (fun R1=>?_);refine eA (.cells #[.int .i64 2,.slice xp 0 xc,.slice yp yl yc,.slice rp 0 rc,.bool zn,.slice zp zl zc,.slice zq zu zd] 36) (fun R2=>?_);refine e0 ?_;refine sxEnd (fun W3 hK=>?_);go_upto_region 1 with(fail);refine wp_region_T [1,1,0] hK ?_;clear hK;refine eL m1 ?_;refine eQ (fun w k=>(rvalid_any w (hC.below k.old) (hA.below k.old) (hB.below k.old) (by omega) (by omega) (by omega)).mono fun _ _ q=>by rw[hv]at q;exact q) ?_;refine e0 ?_;refine sxEnd (fun W4 hK=>?_);go_upto_region 3 with(fail);refine wp_region_T [0,1,0,3,0] hK ?_;clear hK;refine e0 ?_;refine eL m1 ?_;refine e0 ?_;refine eMk (K:=refK) (t:=34) (x:=(0:Rat)) cl refz0 rfl infoR (by show cl*3<=_;omega) (by decide) (fun g5=>?_);refine e0 ?_;refine sxEnd (fun W6 hK=>?_);replace hK:=hK.made (K:=refK) (n:=cl) refz0 (by simp[maxLen];omega);go_upto_region 4 with(fail);refine wp_region_T [0,1] hK ?_;clear hK;refine e0 ?_;refine eL m1 ?_;refine sxEnd (fun W7 hK=>?_);go_upto_region 5 with(fail);refine wp_region_T [0,0] hK ?_;clear hK;refine eV (.bool false) (fun w'=>by go_simp;(try go_bits);exact⟨rfl,rfl⟩) ?_;refine e0 ?_;refine sxEnd (fun W8 hK=>?_);go_upto_region 7 with(fail);refine wp_region_T [0,0] hK ?_;clear hK;refine eV (.bool true) (fun w'=>by go_simp;(try go_bits);exact⟨rfl,rfl⟩) ?_;refine e0 ?_;refine sxEnd (fun W9 hK=>?_);go_upto_region 8 with(fail);refine wp_region_T [1,0,1,0,1,0,0,1,0,0,0,0,0,1,0,0,0,0,0,1,0,1,2,1,0,0,0,0,1,1,0,0,0] hK ?_
  clear hK;refine eL m2 ?_;refine e0 ?_;refine eL m1 ?_;refine e0 ?_;refine eQ (fun w k=>(rcovers_any w (hY.below k.old) (k.slv m0) (hC.below k.old) (hA.below k.old) (hB.below k.old) hk hm hP hk1 (Nat.le_trans (Nat.le_of_eq (ny1.out.trans hyl.out)) (by omega)) hy (LmL.zeros hk1) (by rw[List.length_replicate];exact hC.one0)).mono fun _ _ q=>by rw[c2]at q;exact q) ?_
  iterate 2 refine e0 ?_
  refine eL m1 ?_;refine e0 ?_;refine eV (.bool true) (fun w'=>by go_simp;(try go_bits);exact⟨rfl,rfl⟩) ?_
  iterate 3 refine e0 ?_
  refine eL m1 ?_;refine e0 ?_;refine eV (.bool true) (fun w'=>by go_simp;(try go_bits);exact⟨rfl,rfl⟩) ?_
  iterate 3 refine e0 ?_
  refine eL m2 ?_;refine e0 ?_;refine eL m1 ?_;refine eC (fun w k=>rdot_any w (hB.below k.old) (hY.below k.old) (by omega) (Nat.le_trans (Nat.le_of_eq (ny1.out.trans hyl.out)) (by omega)) hm.b hy (Nat.le_trans (Nat.succ_le_succ (Nat.mul_le_mul_left _ (by omega))) hk) hk2) (fun x10=>?_);obtain⟨⟨p11,l11,c11⟩,⟨q11,u11,d11⟩⟩:=x10;dsimp only;refine eQ (fun w k=>(rsign_q _ _ w (k.rq m0)).mono fun _ _ q=>by rw[sgQ_neg.2 c4]at q;exact q) ?_;refine eV (.bool true) (fun w'=>by go_simp;(try go_bits);exact⟨rfl,rfl⟩) ?_
  iterate 3 refine e0 ?_
  refine eL m2 ?_;refine eQ (fun w k=>(rsign_q _ _ w (hZ.below k.old)).mono fun _ _ q=>by rw[sgQ_zero.2 c5.out]at q;exact q) ?_;refine eV (.bool true) (fun w'=>by go_simp;(try go_bits);exact⟨rfl,rfl⟩) ?_
  iterate 2 refine e0 ?_
  refine sxEnd (fun W12 hK=>?_);go_wp2
  try go_ret
  show Q0 (.returned (.bool true)) _
  exact(qo hQ0 ⟨rfl,hK.old⟩)
set_option maxRecDepth 100000 in
set_option maxHeartbeats 400000 in
theorem acc3_any(w:World){cp ap bp:Option Addr}{cl cc al ac bl bc:Nat}{P:LPd}{xp yp rp zp zq:Option Addr}{xl xc yl yc rl rc zl zc zu zd:Nat}{zn:Bool}{x y r:List Rat}{z:Rat}(hC:SlV refK w (.slice cp cl cc) P.c)(hA:SlV rfK w (.slice ap al ac) P.A)(hB:SlV refK w (.slice bp bl bc) P.b){k:Nat}(hk:(k+k+1)*12+1<=9999)(hm:LmP k P)(hP:P.Ok)(hX:SlV refK w (.slice xp xl xc) x)(hY:SlV refK w (.slice yp yl yc) y)(hR:SlV refK w (.slice rp rl rc) r)(hZ:RefR w (.agg #[.bool zn,.slice zp zl zc,.slice zq zu zd]) z)(hk1:1<=k)(hv:vldP P=true)(hx:LmL k x)(_hy:LmL k y)(hr:LmL k r)(_hz:LmQ k z)(hxl:x.length=P.c.length)(hrl:r.length=P.c.length)(hy0:y.length=0)(c1:feaB P x=true)(c3:nnB r=true)(c4:falB P r=true)(c5:0<dotQ P.c r)(c6:z=0):
    Calls Tryz.prog 37 #[.agg #[.slice cp cl cc,.slice ap al ac,.slice bp bl bc],.agg #[.int .i64 3,.slice xp xl xc,.slice yp yl yc,.slice rp rl rc,.bool zn,.slice zp zl zc,.slice zq zu zd]] w fun e w'=>e=.returned (.bool true)/\Below w.heap.size w w':=by
  have hK:=SS.start w;have⟨nc1,nc2⟩:=lle hC.one0;have⟨na1,na2⟩:=lle hA.one0;have⟨nb1,nb2⟩:=lle hB.one0;have hn12:=hm.n;have hm12:=hm.m;have hPb:=hP.hb;have hk2:k<=4000:=(by omega);have nx1:=hid hX.one0;have ny1:=hid hY.one0;have nr1:=hid hR.one0;replace hxl:=hid hxl;replace hrl:=hid hrl;replace c6:=hid c6;obtain rfl:yl=0:=ny1.out.trans hy0;refine Calls.hide (fun Q0 hQ0=>?_);go_enter Tryz.func37,Tryz.ntmps37;go_upto_region 0 with(fail);refine wp_region_T [3,3,0] hK ?_;clear hK;refine eA (.cells #[.slice cp cl cc,.slice ap al ac,.slice bp bl bc] 29) (fun R1=>?_);refine eA (.cells #[.int .i64 3,.slice xp xl xc,.slice yp 0 yc,.slice rp rl rc,.bool zn,.slice zp zl zc,.slice zq zu zd] 36) (fun R2=>?_);refine e0 ?_;refine sxEnd (fun W3 hK=>?_);go_upto_region 1 with(fail);refine wp_region_T [1,1,0] hK ?_;clear hK;refine eL m1 ?_;refine eQ (fun w k=>(rvalid_any w (hC.below k.old) (hA.below k.old) (hB.below k.old) (by omega) (by omega) (by omega)).mono fun _ _ q=>by rw[hv]at q;exact q) ?_;refine e0 ?_;refine sxEnd (fun W4 hK=>?_);go_upto_region 3 with(fail);refine wp_region_T [0,1,0,3,0] hK ?_;clear hK;refine e0 ?_;refine eL m1 ?_;refine e0 ?_;refine eMk (K:=refK) (t:=34) (x:=(0:Rat)) cl refz0 rfl infoR (by show cl*3<=_;omega) (by decide) (fun g5=>?_);refine e0 ?_;refine sxEnd (fun W6 hK=>?_);replace hK:=hK.made (K:=refK) (n:=cl) refz0 (by simp[maxLen];omega);go_upto_region 4 with(fail);refine wp_region_T [0,1] hK ?_;clear hK;refine e0 ?_;refine eL m1 ?_;refine sxEnd (fun W7 hK=>?_);go_upto_region 5 with(fail);refine wp_region_T [0,0] hK ?_;clear hK;refine eV (.bool false) (fun w'=>by go_simp;(try go_bits);exact⟨rfl,rfl⟩) ?_;refine e0 ?_;refine sxEnd (fun W8 hK=>?_);go_upto_region 7 with(fail);refine wp_region_T [0,0] hK ?_;clear hK;refine eV (.bool false) (fun w'=>by go_simp;(try go_bits);exact⟨rfl,rfl⟩) ?_;refine e0 ?_;refine sxEnd (fun W9 hK=>?_);go_upto_region 9 with(fail);refine wp_region_T [0,0] hK ?_;clear hK;refine eV (.bool true) (fun w'=>by go_simp;(try go_bits);exact⟨rfl,rfl⟩) ?_
  refine e0 ?_;refine sxEnd (fun W10 hK=>?_);go_upto_region 10 with(fail);refine wp_region_T [1,0,1,1,0,0,1,0,0,0,0,0,1,0,0,1,0,0,0,0,0,1,1,0,0,1,0,1,1,0,0,0,1,0,1,2,1,0,0,0,0,1,1,0,0,0] hK ?_;clear hK;refine eL m2 ?_;refine e0 ?_;refine eL m1 ?_;refine eQ (fun w k=>(rfeasible_any w (hX.below k.old) (hC.below k.old) (hA.below k.old) (hB.below k.old) hk hm hP (Nat.le_trans (Nat.le_of_eq (nx1.out.trans hxl.out)) (by omega)) hx).mono fun _ _ q=>by rw[c1]at q;exact q) ?_
  iterate 2 refine e0 ?_
  refine eL m1 ?_;refine e0 ?_;refine eV (.bool true) (fun w'=>by go_simp;(try go_bits);exact⟨rfl,rfl⟩) ?_
  iterate 3 refine e0 ?_
  refine eL m1 ?_
  iterate 2 refine e0 ?_
  refine eL m2 ?_;refine e0 ?_;refine eV (.bool true) (fun w'=>by go_simp;(try go_bits);exact⟨congrArg Value.bool (by simp;have q:=nr1.out.trans hrl.out;omega),rfl⟩) ?_
  iterate 3 refine e0 ?_
  refine eL m1 ?_;refine eQ (fun w k=>(rpositive_any w (hR.below k.old) (Nat.le_trans (Nat.le_of_eq (nr1.out.trans hrl.out)) (by omega))).mono fun _ _ q=>by rw[c3]at q;exact q) ?_
  iterate 2 refine e0 ?_
  refine eL m2 ?_;refine e0 ?_;refine eL m1 ?_;refine eQ (fun w k=>(rfalls_any w (hR.below k.old) (hC.below k.old) (hA.below k.old) (hB.below k.old) hk hm hP hrl.out hr).mono fun _ _ q=>by rw[c4]at q;exact q) ?_
  iterate 3 refine e0 ?_
  refine eL m2 ?_;refine e0 ?_;refine eL m1 ?_;refine eC (fun w k=>rdot_any w (hC.below k.old) (hR.below k.old) (by omega) (Nat.le_trans (Nat.le_of_eq (nr1.out.trans hrl.out)) (by omega)) hm.c hr (Nat.le_trans (Nat.succ_le_succ (Nat.mul_le_mul_left _ (by omega))) hk) hk2) (fun x11=>?_);obtain⟨⟨p12,l12,c12⟩,⟨q12,u12,d12⟩⟩:=x11;dsimp only;refine eQ (fun w k=>(rsign_q _ _ w (k.rq m0)).mono fun _ _ q=>by rw[sgQ_pos.2 c5]at q;exact q) ?_;refine eV (.bool true) (fun w'=>by go_simp;(try go_bits);exact⟨rfl,rfl⟩) ?_
  iterate 3 refine e0 ?_
  refine eL m2 ?_;refine eQ (fun w k=>(rsign_q _ _ w (hZ.below k.old)).mono fun _ _ q=>by rw[sgQ_zero.2 c6.out]at q;exact q) ?_;refine eV (.bool true) (fun w'=>by go_simp;(try go_bits);exact⟨rfl,rfl⟩) ?_
  iterate 2 refine e0 ?_
  refine sxEnd (fun W13 hK=>?_);go_wp2
  try go_ret
  show Q0 (.returned (.bool true)) _
  exact(qo hQ0 ⟨rfl,hK.old⟩)
end
section
theorem LmQ.int{n:Int}(n0: -9223372036854775808<=n)(n1:n<=9223372036854775807):LmQ 2 ((n:Int):Rat):=by
  rw[<-int_of n];refine .ofS _ ?_ (Lm.one.up (by decide)) (by decide)
  show _<_
  have:B32^2=18446744073709551616:=by decide
  omega
def i8K:EK Int where
  sz:=1
  pos:=by decide
  R:=fun _ cs x=>cs=[.int .i8 x]
  len:=fun e=>by rw[e];rfl
  one:=fun e u hu=>by
    subst e;obtain rfl:=List.mem_singleton.1 hu;rfl
  below:=fun e _=>e
def Rng8(z:Int):Prop:= -128<=z/\z<=127
structure Sm where
  c:List Int
  a:List Int
  b:List Int
structure Sm.Ok(s:Sm):Prop where
  c:∀z∈s.c,Rng8 z
  a:∀z∈s.a,Rng8 z
  b:∀z∈s.b,Rng8 z
  cl:s.c.length<=9223372036854775807
  al:s.a.length<=9223372036854775807
  bl:s.b.length<=9223372036854775807
def atI(l:List Int)(i:Nat):Rat:=((l.getD i 0:Int):Rat)
def atL(l:List Int)(f k:Nat):List Rat:=(List.range k).map fun i=>atI l (f+i)
theorem atL_len(l:List Int)(f k:Nat):(atL l f k).length=k:=by simp[atL]
theorem atL_snoc(l:List Int)(f k:Nat):atL l f k++[atI l (f+k)]=atL l f (k+1):=by unfold atL;rw[List.range_succ,List.map_append];rfl
theorem atI_rng{l:List Int}(h:∀z∈l,Rng8 z)(i:Nat):Rng8 (l.getD i 0):=by
  cases e:l[i]? with
  |none=>rw[List.getD,e];exact⟨by decide,by decide⟩
  |some z=>rw[getD_of e];exact h z (List.mem_of_getElem? e)
theorem lm_i8{z:Int}(h:Rng8 z):LmQ 2 ((z:Int):Rat):=by obtain⟨h1,h2⟩:=h;exact LmQ.int (by omega) (by omega)
theorem atL_lm{l:List Int}(h:∀z∈l,Rng8 z)(f k:Nat):LmL 2 (atL l f k):=fun x hx=>by
  obtain⟨i,_,rfl⟩:=List.mem_map.1 hx;exact lm_i8 (atI_rng h _)
def ofN(s:Sm):Nat:=if s.c.length=0 then 1 else min s.c.length 4
def ofM(s:Sm):Nat:=min s.b.length 5
theorem ofN_le(s:Sm):1<=ofN s/\ofN s<=4:=by unfold ofN;split<;>omega
theorem ofM_le(s:Sm):ofM s<=5:=by unfold ofM;omega
def rowL(s:Sm)(i:Nat):List Rat:=atL s.a (i*ofN s) (ofN s)
def rowsL(s:Sm)(k:Nat):List (List Rat):=(List.range k).map fun i=>rowL s i
theorem rowsL_len(s:Sm)(k:Nat):(rowsL s k).length=k:=by simp[rowsL]
theorem rowsL_snoc(s:Sm)(k:Nat):rowsL s k++[rowL s k]=rowsL s (k+1):=by unfold rowsL;rw[List.range_succ,List.map_append];rfl
def ofSm(s:Sm):LPd:=⟨atL s.c 0 (ofN s),rowsL s (ofM s),atL s.b 0 (ofM s)⟩
theorem ofSm_n(s:Sm):(ofSm s).c.length=ofN s:=atL_len _ _ _
theorem ofSm_m(s:Sm):(ofSm s).A.length=ofM s:=rowsL_len _ _
theorem ofSm_b(s:Sm):(ofSm s).b.length=ofM s:=atL_len _ _ _
theorem ofSm_ok(s:Sm):(ofSm s).Ok:=⟨by rw[ofSm_b,ofSm_m],fun a ha=>by
  obtain⟨i,_,rfl⟩:=List.mem_map.1 ha;rw[ofSm_n];exact atL_len _ _ _⟩
theorem ofSm_v(s:Sm):vldP (ofSm s)=true:=by
  have h1:=ofN_le s;have h2:=ofM_le s;unfold vldP vldH;simp only[Bool.and_eq_true,decide_eq_true_eq,ofSm_n,ofSm_m,ofSm_b];refine⟨⟨⟨⟨h1.1,by omega⟩,by omega⟩,trivial⟩,allN_iff.2 fun i hi=>?_⟩;unfold rowP;exact decide_eq_true ((ofSm_ok s).ha _ (by rw[List.getD,List.getElem?_eq_getElem (by rw[ofSm_m];exact hi)];exact List.getElem_mem _))
theorem ofSm_lm{s:Sm}(h:s.Ok)(k:Nat)(hk:2<=k):LmP k (ofSm s):=by
  have h1:=ofN_le s;have h2:=ofM_le s;refine⟨(atL_lm h.c _ _).up hk,fun r hr=>?_,(atL_lm h.b _ _).up hk,by rw[ofSm_n];omega,by rw[ofSm_m];omega⟩;obtain⟨i,_,rfl⟩:=List.mem_map.1 hr;exact(atL_lm h.a _ _).up hk
theorem SlV.i8{w:World}{g o n c i:Nat}{xs:List Int}{x:Int}(h:SlV i8K w (.slice (some ⟨g,o,none⟩) n c) xs)(hx:xs[i]?=some x):w.cell? ⟨g,o+i,none⟩=some (.int .i8 x):=by
  have h1:=h.cel (f:=fun x=>[.int .i8 x]) (fun e=>e) hx 0 rfl
  rwa [show o+i*i8K.sz+0=o+i from by show o+i*1+0=_;omega]at h1
abbrev slcR:EK Sl:=slcK
theorem infoSR:(Tryz.prog.info? 26).map (fun i=>(i.zero,i.size,i.bytes))=some (some (.slice none 0 0),slcR.sz,24):=by kernel_rfl
theorem slcR_hd{w:World}{cs:List Value}{x:Sl}{u:Value}(h:slcR.R w cs x)(hu:cs[0]?=some u):rkV u=3:=by cases h;cases hu;rfl
structure PgR where
  c:Sl
  a:Sl
  b:Sl
  ss:List Sl
instance :Nonempty PgR:=⟨⟨⟨none,0,0⟩,⟨none,0,0⟩,⟨none,0,0⟩,[]⟩⟩
def PgR.v(z:PgR):Value:=.agg #[.slice z.c.p z.c.l z.c.c,.slice z.a.p z.a.l z.a.c,.slice z.b.p z.b.l z.b.c]
def pgL(K:EK Rat)[OwnK K](t tt:TypeId)(z:PgR)(P:LPd):List Ft:=[cF (z.ss.length=P.A.length),rO K t z.c.p z.c.l z.c.c P.c,rO slcR tt z.a.p z.a.l z.a.c z.ss,rsF K t z.ss P.A,rO K t z.b.p z.b.l z.b.c P.b]
theorem pg_ln{K:EK Rat}[OwnK K]{t tt:TypeId}{z:PgR}{P:LPd}:∀f∈pgL K t tt z P,∀n,f.ln.contains n=true->(EK.S K).contains n=true:=fun f hf n hn=>by
  unfold pgL at hf;simp only[List.mem_cons,List.not_mem_nil,or_false]at hf
  rcases hf with rfl|rfl|rfl|rfl|rfl<;>first|exact hn|cases hn
def pgF(K:EK Rat)[OwnK K](t tt:TypeId)(z:PgR)(P:LPd):Ft:=stF (EK.S K) (pgL K t tt z P) pg_ln
section
variable {K:EK Rat}[OwnK K]{t tt:TypeId}{V w:World}{l:List Ft}{z:PgR}{P:LPd}
theorem SS.pg(h:SS V l w)(hm:pgF K t tt z P∈l):SlV K w (.slice z.c.p z.c.l z.c.c) P.c/\SlV (slK K) w (.slice z.a.p z.a.l z.a.c) P.A/\SlV K w (.slice z.b.p z.b.l z.b.c) P.b:=by
  obtain⟨h1,_⟩:=h.get hm;have h2:OwV K t 0 w (.slice z.c.p z.c.l z.c.c) P.c:=h1 _ m1;have h3:OwV K t 0 w (.slice z.b.p z.b.l z.b.c) P.b:=h1 _ m4;exact⟨h2.slv,rsV_of (h1 _ m2) (h1 _ m3) (h1 _ m0),h3.slv⟩
end
end
section
section
variable {V w w':World}{l l':List Ft}{f f':Ft}{R n i:Nat}
theorem SS.turnX{b:Option Nat}(h:SS V l w)(hi:l[i]?=some f)(hg:w.grownBy w' b)(hb:∀R,b=some R->f.own R)(hq:∀R,b=some R-> ∀j f1,j≠i->l[j]?=some f1-> ¬f1.own R->Spares R w f1.F)(hf:f'.F w')(ho:∀g,f'.own g->f.own g\/w.heap.size<=g):SS V (l.set i f') w':=by
  have hm:=List.mem_of_getElem? hi;have hil:=(List.getElem?_eq_some_iff.1 hi).1
  have hall:∀j f1,j≠i->l[j]?=some f1->f1.F w':=fun j f1 hne hj=>by
    have h1:=h.has f1 (List.mem_of_getElem? hj)
    cases hbb:b with
    |none=>exact f1.bel h1 ⟨hg.os,hg.tape,hg.output,hg.size,fun k hk=>hg.block k hk (by rw[hbb];simp)⟩
    | some R=>
      refine hq R hbb j f1 hne hj (fun hR=>?_) w' hg.size (fun k hk hlt=>hg.block k hlt (by rw[hbb];simpa using hk)) w' (Below.refl _ _);have hfR:=hb R hbb;have hjl:=(List.getElem?_eq_some_iff.1 hj).1;have e1:l[j]=f1:=(List.getElem?_eq_some_iff.1 hj).2;have e2:l[i]=f:=(List.getElem?_eq_some_iff.1 hi).2
      rcases Nat.lt_or_gt_of_ne hne with hlt|hlt
      . exact List.pairwise_iff_getElem.1 h.ap j i hjl hil hlt R (by rw[e1];exact hR) (by rw[e2];exact hfR)
      exact List.pairwise_iff_getElem.1 h.ap i j hil hjl hlt R (by rw[e2];exact hfR) (by rw[e1];exact hR)
  have hcase:∀f1∈l.set i f',f1=f'\/ ∃j,j≠i/\l[j]?=some f1:=fun f1 hf1=>by
    obtain⟨j,hj⟩:=List.mem_iff_getElem?.1 hf1;rw[List.getElem?_set]at hj
    by_cases e:i=j
    . rw[if_pos e,if_pos hil]at hj;exact .inl (Option.some.inj hj).symm
    rw[if_neg e]at hj;exact .inr ⟨j,Ne.symm e,hj⟩
  have hfl:∀g,f'.own g->V.heap.size<=g:=fun g hgo=>(ho g hgo).elim (h.lo f hm g) fun h2=>Nat.le_trans h.old.size h2
  refine⟨h.old.trans ⟨hg.os,hg.tape,hg.output,hg.size,fun k hk=>hg.block k (Nat.lt_of_lt_of_le hk h.old.size) fun e=>absurd (h.lo f hm k (hb k e.symm)) (Nat.not_le.2 hk)⟩,fun f1 hf1=>?_,fun f1 hf1=>?_,?_⟩
  . rcases hcase f1 hf1 with rfl|⟨j,hne,hj⟩
    . exact hf
    exact hall j f1 hne hj
  . rcases hcase f1 hf1 with rfl|⟨j,hne,hj⟩
    . exact hfl
    exact h.lo f1 (List.mem_of_getElem? hj)
  refine List.pairwise_iff_getElem.2 fun j k hj hk hjk g h1 h2=>?_
  rw[List.length_set]at hj hk
  have key:∀m (hm:m<l.length),m≠i->f'.own g->l[m].own g->False:=fun m hm2 hne h3 h4=>by
    rcases ho g h3 with h5|h5
    . have e2:l[i]=f:=(List.getElem?_eq_some_iff.1 hi).2
      rcases Nat.lt_or_gt_of_ne hne with hlt|hlt
      . exact List.pairwise_iff_getElem.1 h.ap m i hm2 hil hlt g h4 (by rw[e2];exact h5)
      exact List.pairwise_iff_getElem.1 h.ap i m hil hm2 hlt g (by rw[e2];exact h5) h4
    exact absurd (l[m].lt (h.has _ (List.getElem_mem hm2)) h4) (Nat.not_lt.2 h5)
  by_cases ej:i=j
  . subst ej;simp only[List.getElem_set_self]at h1;rw[List.getElem_set_ne (by omega)]at h2;exact key k hk (by omega) h1 h2
  rw[List.getElem_set_ne ej]at h1
  by_cases ek:i=k
  . subst ek;simp only[List.getElem_set_self]at h2;exact key j hj (by omega) h2 h1
  rw[List.getElem_set_ne ek]at h2;exact List.pairwise_iff_getElem.1 h.ap j k hj hk hjk g h1 h2
end
def ZBox(R:Nat)(w:World):Prop:=w.cell? ⟨R,0,none⟩=some (.int .i64 0)/\ ∃p n c,w.cell? ⟨R,1,none⟩=some (.slice p n c)
theorem zbox_of{b R n c:Nat}{w:World}{p:Option Addr}{l:List Value}{t:TypeId}(h:Has b R (.cells (.int .i64 0::.slice p n c::l).toArray t) w):ZBox R w:=⟨h.at 0 rfl,p,n,c,h.at 1 rfl⟩
theorem digs_head{n:Nat}(h:n≠0):(digs B6 n).length=1->(digs B6 n)[0]?=some 0->False:=fun h1 h2=>by
  obtain⟨d,hd⟩:∃d,digs B6 n=[d]:=by
    cases e:digs B6 n with
    |nil=>rw[e]at h1;cases h1
    | cons a l=>cases l with
      |nil=>exact⟨a,rfl⟩
      |cons _ _=>rw[e]at h1;simp at h1
  rw[hd]at h2
  cases h2
  have hv:val B6 (digs B6 n)=n:=val_digs (by decide) n;rw[hd]at hv;simp[val]at hv;exact h hv.symm
theorem ref_spareZ{R:Nat}{w:World}{v:Value}{n:Nat}(h:RefV w v n)(hR:ZBox R w):Spares R w (fun w=>RefV w v n):=fun w1 hs hf w2 hb=>by
  refine RefV.below (W:=w1) ?_ hb
  rcases h with h|⟨g,c,e,hd,hc⟩
  . exact .inl h
  by_cases hx:digs B6 n=[]
  . rw[hx]at e;exact .inl ⟨hx,_,_,e⟩
  have hpos:0<(digs B6 n).length:=List.length_pos_iff.2 hx;have hn:n≠0:=fun e0=>hx (by rw[e0];exact digs_zero)
  have hne:g≠R:=fun e=>by
    subst e;have c0:=hd.at0 0 hpos;rw[hR.1]at c0
    by_cases h2:1<(digs B6 n).length
    . obtain⟨p,m,c',hc1⟩:=hR.2;have c1:=hd.at0 1 h2;rw[hc1]at c1;cases c1
    refine digs_head hn (by omega) ?_;rw[List.getElem?_eq_getElem hpos]
    have:((digs B6 n)[0]:Int)=0:=by
      have:=Option.some.inj c0;simp only[iCell,Value.int.injEq]at this;omega
    exact congrArg some (by omega)
  refine .inr ⟨g,c,e,⟨Nat.lt_of_lt_of_le hd.lt hs,fun k hk=>?_⟩,hc⟩;rw[<-hd.at0 k hk];exact World.cell?_of_block (w:=w) (hf g hne hd.lt)
theorem refr_spareZ{R:Nat}{w:World}{v:Value}{x:Rat}(h:RefR w v x)(hR:ZBox R w):Spares R w (fun w=>RefR w v x):=fun w1 hs hf w2 hb=>by
  obtain⟨nv,dv,rfl,h1,h2⟩:=h;exact⟨nv,dv,rfl,ref_spareZ h1 hR w1 hs hf w2 hb,ref_spareZ h2 hR w1 hs hf w2 hb⟩
theorem ZBox.no{R:Nat}{w:World}{S:List Nat}(h:ZBox R w)(hS:S.contains 1=false):NoHd S R w:=fun v hv=>by
  rw[h.1]at hv;rw[<-Option.some.inj hv];exact hS
class ZK{α:Type}(K:EK α):Prop where
  sp:∀{w cs x g},K.R w cs x->ZBox g w->Spares g w (fun w=>K.R w cs x)
theorem ZK.of{α:Type}{K:EK α}[OwnK K](h:K.S.contains 1=false):ZK K:=⟨fun h1 h2=>OwnK.spare h1 (h2.no h)⟩
instance :ZK refK:=⟨fun⟨a,b,c,e,h⟩ hg w1 h2 h3 w2 h4=>⟨a,b,c,e,refr_spareZ h hg w1 h2 h3 w2 h4⟩⟩
instance :ZK ratK:=.of rfl
instance :ZK slcK:=.of rfl
theorem OwV.spareZ{α:Type}{K:EK α}[ZK K]{R b n c:Nat}{t:TypeId}{w:World}{p:Option Addr}{xs:List α}(h:OwV K t b w (.slice p n c) xs)(hne:ob p≠some R)(hR:ZBox R w):Spares R w (fun w=>OwV K t b w (.slice p n c) xs):=fun w1 hs hf w2 hb=>by
  obtain⟨css,h1,hl,h2⟩:=h;refine⟨css,⟨h1.len,fun k cs x c1 c2=>ZK.sp (h1.el k cs x c1 c2) hR w1 hs hf w2 hb⟩,hl,h2.imp id fun⟨k,cap,cur,e,h3,hk,h4⟩=>⟨k,cap,cur,e,h3,?_,h4⟩⟩;have hlt:=(Array.getElem?_eq_some_iff.1 hk).1;have hob:ob p=some k:=by injection e with e;rw[e];rfl
  rw[hb.block k (Nat.lt_of_lt_of_le hlt hs),hf k (fun e'=>hne (by rw[hob,e'])) hlt];exact hk
class Zs(f:Ft):Prop where
  sp:∀{w R},f.F w-> ¬f.own R->ZBox R w->Spares R w f.F
theorem Zs.of{f:Ft}(h:f.ln.contains 1=false):Zs f:=⟨fun h1 h2 h3=>f.spa h1 h2 (h3.no h)⟩
instance {R:Nat}{obj:Obj}:Zs (bx R obj):=.of rfl
instance {p:Prop}:Zs (cF p):=.of rfl
instance {v:Value}{x:Rat}:Zs (qF v x):=.of rfl
instance {v:Value}{x:Rat}:Zs (rF v x):=⟨fun h _ h3=>refr_spareZ h h3⟩
instance {α:Type}{K:EK α}[OwnK K][ZK K]{t:TypeId}{p:Option Addr}{n c:Nat}{xs:List α}:Zs (rO K t p n c xs):=⟨fun h h2 h3=>OwV.spareZ h h2 h3⟩
theorem Zs.st{S:List Nat}{fs:List Ft}{hS:∀f∈fs,∀n,f.ln.contains n=true->S.contains n=true}(h:∀f∈fs,Zs f):Zs (stF S fs hS):=
  ⟨fun⟨h1,ha⟩ hn hz w1 h2 h3 w2 h4=>⟨fun f hf=>(h f hf).sp (h1 f hf) (fun e=>hn ⟨f,hf,e⟩) hz w1 h2 h3 w2 h4,ha⟩⟩
instance {α:Type}{K:EK α}[OwnK K][ZK K]{t:TypeId}{ss:List Sl}{xss:List (List α)}:Zs (rsF K t ss xss):=.st fun f hf=>by
  unfold rsL at hf;rw[List.mem_iff_getElem?]at hf;obtain⟨i,hi⟩:=hf;rw[List.getElem?_zipWith]at hi
  split at hi
  . cases hi;infer_instance
  cases hi
instance {K:EK Rat}[OwnK K][ZK K]{t tt:TypeId}{z:PgR}{P:LPd}:Zs (pgF K t tt z P):=.st fun f hf=>by
  unfold pgL at hf;simp only[List.mem_cons,List.not_mem_nil,or_false]at hf
  rcases hf with rfl|rfl|rfl|rfl|rfl<;>infer_instance
class ZsA(l:List Ft):Prop where
  sp:∀f∈l,Zs f
instance :ZsA []:=⟨fun _ h=>absurd h List.not_mem_nil⟩
instance {f:Ft}{l:List Ft}[hf:Zs f][hl:ZsA l]:ZsA (f::l):=⟨fun _ h=>(List.mem_cons.1 h).elim (fun e=>e▸hf) (hl.sp _)⟩
section
variable {P:Program}{V:World}{ops:Array Oper}{Q:Act->World->Prop}{f0 fs fs':List Ft}{k:Nat}{ks:List Nat}{o:Oper}{rest:List Oper}{a a':Act}{R:Nat}{t:TypeId}
theorem eZ{l:List Value}{p:Option Addr}{n c:Nat}(i o':Nat)(cs:List Value)(h:Sx P V ops Q f0 ks rest fs' a')(hz:ZsA fs:=by infer_instance)(hi:fs[i]?=some (bx R (.cells (.int .i64 0::.slice p n c::l).toArray t)):=by rfl)(hf:fs.set i (bx R (.cells (setL (.int .i64 0::.slice p n c::l) o' cs).toArray t))=fs':=by(simp only[setL,pB,pC])<;>exact rfl)(hs:f0.Sublist fs':=by exact List.nil_sublist _)(hg:Wants ops o a:=by first|exact wants0 rfl|exact wantsg rfl rfl rfl rfl)
    (h1:∀w,Has 0 R (.cells (.int .i64 0::.slice p n c::l).toArray t) w->Does P (fun u w'=>u=undef/\w'=putAt R o' cs w) ((execOp a.eval o).run P w):=by intro w' k;have⟨_,_,_,_,_,_,_⟩:=k.c7;have f:=k.fz;go_simp;exact⟨rfl,rfl⟩) (ha:a.put o.dst undef=a':=by(simp only[mkOf,Act.put,pA,pB,pC,pD,pE])<;>exact rfl):Sx P V ops Q f0 (4::ks) (o::rest) fs a:=by
  have hm:=List.mem_of_getElem? hi;refine sx4 (α:=Unit) (f:=fun _=>undef) (l':=fun _=>fs') hg (fun _=>hs) (fun w hw=>(h1 w (hw.get hm)).mono fun u w' ⟨e1,e2⟩=>⟨(),e1,?_⟩) fun _=>by rw[ha];exact h
  subst e2;rw[<-hf];exact hw.turnX hi (put_grown ..) (fun R' e=>by injection e with e;subst e;exact rfl) (fun R' e j f1 _ hj hn=>by injection e with e;subst e;exact(hz.sp f1 (List.mem_of_getElem? hj)).sp (hw.get (List.mem_of_getElem? hj)) hn (zbox_of (hw.get hm))) (has_put (hw.get hm) o' cs (Below.refl _ _)) fun g hg=>.inl hg
end
end
section
def Bas(w:World):Prop:=Tab w/\ ∃m,w.cell? ⟨1,0,none⟩=some (.int .i64 m)
theorem Bas.below{w w':World}(h:Bas w)(hb:Below w.heap.size w w'):Bas w':=by
  obtain⟨h1,m,hm⟩:=h;refine⟨h1.below hb,m,?_⟩;rw[<-hm];refine hb.cell (p:=⟨_,0,none⟩) ?_
  show _<_
  refine Nat.lt_of_not_le fun hle=>?_
  simp[World.cell?,Array.getElem?_eq_none hle]at hm
theorem ntext_q(v:Value)(n:Nat)(w:World)(hv:NatV w v n)(hB:Bas w)(hl:(digs B32 n).length<=100000):
    Calls Tryz.prog 54 #[v] w fun e w'=>e=.returned (.string ⟨(decDigits n).toArray⟩)/\Below w.heap.size w w':=text_any v n w hv hB.1 hl
theorem nparse_q(l:List UInt8)(w:World)(hl:l.length<=1000000):
    Calls Tryz.prog 101 #[.string ⟨l.toArray⟩] w fun e w'=> ∃v,e=.returned (.tuple #[v,.int .i64 (parseErr l)])/\NatV w' v (parseVal l)/\Below w.heap.size w w':=parse_any ⟨l.toArray⟩ w (by simpa[ByteArray.size]using hl)
theorem rparse_q0(l:List UInt8)(w:World)(hl:l.length<=1000000):
    Calls Tryz.prog 125 #[.string ⟨l.toArray⟩] w fun e w'=> ∃v,e=.returned (.tuple #[v,.int .i64 (parseErr l)])/\RefV w' v (parseVal l)/\Below w.heap.size w w':=rparse_any ⟨l.toArray⟩ w (by simpa[ByteArray.size]using hl)
theorem trim_minus(l:List UInt8):Lib.trimPrefix l [45]=noMinus l/\Lib.hasPrefix l [45]=isMinus l:=by
  cases l with
  |nil=>exact⟨rfl,rfl⟩
  | cons c l=>
    by_cases h:c=45
    . subst h;exact⟨by simp[Lib.trimPrefix,Lib.hasPrefix,noMinus],by simp[Lib.hasPrefix,isMinus]⟩
    have h1:¬45=c:=fun e=>h e.symm
    exact⟨by simp[Lib.trimPrefix,Lib.hasPrefix,noMinus,h,h1],by simp[Lib.hasPrefix,isMinus,List.isPrefixOf];rw[Bool.eq_iff_iff,beq_iff_eq,beq_iff_eq];exact eq_comm⟩
theorem cutp_q(l:List UInt8)(w:World):
    Calls Tryz.prog 99 #[.string ⟨l.toArray⟩,.string ⟨#[45]⟩] w fun e w'=>e=.returned (.tuple #[.string ⟨(noMinus l).toArray⟩,.bool (isMinus l)])/\Below w.heap.size w w':=by
  refine(Tryz.strings_CutPrefix ⟨l.toArray⟩ ⟨#[45]⟩ w).mono ?_
  rintro e w' ⟨rfl,rfl⟩
  refine⟨?_,Below.refl _ _⟩
  show Ending.returned (.tuple #[.string ⟨(Lib.trimPrefix l [45]).toArray⟩,.bool (Lib.hasPrefix l [45])])=_
  rw[(trim_minus l).1,(trim_minus l).2]
theorem textQ_eq{x:Rat}{b0 b1:Bool}(h0:isN x=b0)(h1:(den0 x==0)=b1):textQ x=(if b0 then[45]else[])++(decDigits x.num.natAbs++(if b1 then[]else 47::decDigits (den0 x))):=by
  subst h0;subst h1;unfold textQ
  congr 2
  by_cases h:x.den=1
  . rw[if_pos h,(den0_zero x).2 h];rfl
  have e:den0 x≠0:=fun e=>h ((den0_zero x).1 e)
  rw[if_neg h,if_neg (by simpa using e)];unfold den0;rw[if_neg h]
theorem textQ_eq2{x:Rat}{b0 b1:Bool}(h0:isN x=b0)(h1:decide (0<((digs B6 (den0 x)).length:Int))=b1):textQ x=(if b0 then[45]else[])++(decDigits x.num.natAbs++(if b1 then 47::decDigits (den0 x)else[])):=by
  have h2:=len6_lt h1;rw[textQ_eq h0 rfl]
  cases b1 with
  |false=>rw[h2.2 rfl];rfl
  | true=>
    have:den0 x≠0:=fun e=>by have:=h2.1 e;cases this
    rw[show(den0 x==0)=false by simp[this]];rfl
theorem idx47:∀l:List UInt8,(Lib.index l [47]= -1/\cutB l=none/\cutA l=l)\/ ∃k:Nat,Lib.index l [47]=(k:Int)/\cutA l=l.take k/\cutB l=some (l.drop (k+1))
  |[]=>.inl ⟨rfl,rfl,rfl⟩
  | c ::l=>by
    by_cases h:c=47
    . subst h;exact .inr ⟨0,by simp[Lib.index,List.isPrefixOf],by simp[cutA],by simp[cutB]⟩
    have h1:List.isPrefixOf [47] (c::l)=false:=by
      simp only[List.isPrefixOf,Bool.and_true];exact beq_false_of_ne fun e=>h e.symm
    have h2:Lib.index (c::l) [47]=if Lib.index l [47]== -1 then-1 else Lib.index l [47]+1:=by
      rw[Lib.index,h1];rfl
    rcases idx47 l with⟨e1,e2,e3⟩|⟨k,e1,e2,e3⟩
    . exact .inl ⟨by rw[h2,e1];rfl,by simp[cutB,h,e2],by simp[cutA,h,e3]⟩
    refine .inr ⟨k+1,?_,by simp[cutA,h,e2],by simp[cutB,h,e3]⟩;rw[h2,e1,if_neg (by simp)];omega
theorem cut_eq(l:List UInt8):Lib.cut l [47]=(cutA l,(cutB l).getD [],(cutB l).isSome):=by
  unfold Lib.cut
  rcases idx47 l with⟨e1,e2,e3⟩|⟨k,e1,e2,e3⟩
  . rw[e1,e2,e3];rfl
  rw[e1,e2,e3,if_pos (by omega)];simp
theorem below_drewN(w:World)(n:Nat):Below w.heap.size w (w.drewN n):=⟨rfl,rfl,rfl,by simp,fun i hi=>by simp only[World.heap_drewN]⟩
theorem cut_q(l:List UInt8)(w:World)(hB:Bas w)(hl:l.length<4294967281):
    Calls Tryz.prog 100 #[.string ⟨l.toArray⟩,.string ⟨#[47]⟩] w fun e w'=>e=.returned (.tuple #[.string ⟨(cutA l).toArray⟩,.string ⟨((cutB l).getD []).toArray⟩,.bool (cutB l).isSome])/\Below w.heap.size w w':=by
  obtain⟨_,m,hm⟩:=hB;refine(Tryz.strings_Cut ⟨l.toArray⟩ ⟨#[47]⟩ m w (by simpa[ByteArray.size]using hl) hm).mono ?_
  rintro e w' ⟨rfl,n,rfl⟩
  refine⟨?_,below_drewN w n⟩
  show Ending.returned (.tuple #[.string ⟨(Lib.cut l [47]).1.toArray⟩,.string ⟨(Lib.cut l [47]).2.1.toArray⟩,.bool (Lib.cut l [47]).2.2])=_
  rw[cut_eq]
theorem sec_t{l:List UInt8}(h:(cutB (noMinus l)).isSome=true):(cutB (noMinus l)).getD []=secQ l:=by
  unfold secQ
  cases e:cutB (noMinus l)with
  |none=>rw[e]at h;cases h
  |some m=>rfl
theorem sec_f{l:List UInt8}(h:(cutB (noMinus l)).isSome=false):[49]=secQ l:=by
  unfold secQ
  cases e:cutB (noMinus l)with
  |none=>rfl
  |some m=>rw[e]at h;cases h
theorem err_3{l m:List UInt8}{z1 z2:Int}(hm:m=secQ l)(h1:parseErr (cutA (noMinus l))=z1)(h2:parseErr m=z2)(h:(z1==3)=true\/(z2==3)=true):errQ l=3/\valQ l=0:=by
  subst hm
  have e:errQ l=3:=by
    unfold errQ firQ;rw[h1,h2,if_pos (by simpa using h)]
  exact⟨e,by unfold valQ;rw[if_neg (by rw[e];decide)]⟩
theorem err_6{l m:List UInt8}{z1 z2:Int}(hm:m=secQ l)(h1:parseErr (cutA (noMinus l))=z1)(h2:parseErr m=z2)(h3:(z1==3)=false)(h4:(z2==3)=false)(h:(z1 !=0)=true\/(z2 !=0)=true):errQ l=6/\valQ l=0:=by
  subst hm
  have e:errQ l=6:=by
    unfold errQ firQ;rw[h1,h2,if_neg (by simp at h3 h4;omega),if_pos (by simpa using h)]
  exact⟨e,by unfold valQ;rw[if_neg (by rw[e];decide)]⟩
theorem err_0{l m:List UInt8}{z1 z2 z:Int}(hm:m=secQ l)(h1:parseErr (cutA (noMinus l))=z1)(h2:parseErr m=z2)(h5:(z1 !=0)=false)(h6:(z2 !=0)=false)(hz:(if parseVal m=0 then(10:Int)else 0)=z):errQ l=z/\ofS (isMinus l) (parseVal (cutA (noMinus l))) (parseVal m)=valQ l:=by
  subst hm;have h7:z1=0:=by simpa using h5
  have h8:z2=0:=by simpa using h6
  subst h7;subst h8
  have e:errQ l=z:=by
    rw[<-hz];unfold errQ firQ;rw[h1,h2,if_neg (by decide),if_neg (by decide)]
  refine⟨e,?_⟩;unfold valQ;rw[e, <-hz]
  by_cases h:parseVal (secQ l)=0
  . rw[if_pos h,if_neg (by decide),h,ofS_d0]
  rw[if_neg h,if_pos rfl];rfl
theorem pv_len(l:List UInt8):(digs B32 (parseVal l)).length<=l.length:=digs_len_le b32_2 _ _ (Nat.lt_of_lt_of_le (parseVal_lt (Nat.le_refl _)) (Nat.pow_le_pow_left (by decide) _))
theorem pv_len6(l:List UInt8):(digs B6 (parseVal l)).length<=l.length:=digs_len_le b6_2 _ _ (Nat.lt_of_lt_of_le (parseVal_lt (Nat.le_refl _)) (Nat.pow_le_pow_left (by decide) _))
theorem secB_len(l:List UInt8):((cutB (noMinus l)).getD []).length<=l.length:=by
  cases e:cutB (noMinus l)with
  |none=>exact Nat.zero_le _
  |some m=>exact Nat.le_trans (cutB_len _ m e) (noMinus_len l)
theorem secQ_len{l:List UInt8}{n:Nat}(h:l.length<=n):(secQ l).length<=n+1:=by
  unfold secQ
  cases e:cutB (noMinus l)with
  |none=>exact Nat.succ_le_succ (Nat.zero_le _)
  |some m=>exact Nat.le_succ_of_le (Nat.le_trans (Nat.le_trans (cutB_len _ m e) (noMinus_len l)) h)
set_option maxRecDepth 100000 in
theorem qparse_q (l:List UInt8)(w:World) (hB0:Bas w)(hl:l.length<=10000):
    Calls Tryz.prog 77 #[.string ⟨l.toArray⟩] w fun e w'=> ∃y0,e=.returned (.tuple #[y0,.int .i64 (errQ l)])/\RatV w' y0 (valQ l)/\Below w.heap.size w w':=by
  have hK:=SS.start w;have e1:=noMinus_len l;have e2:=cutA_len (noMinus l);have e3:=secB_len l;have e4:=pv_len (cutA (noMinus l));have e5:=pv_len ((cutB (noMinus l)).getD []);have e6:(digs B32 (parseVal ([49]:List UInt8))).length<=1:=pv_len _;have e7:([49]:List UInt8).length=1:=rfl;have e8:(secQ l).length<=10001:=secQ_len hl;have e9:=pv_len (secQ l);refine Calls.hide (fun Q0 hQ0=>?_);go_enter Tryz.func77,Tryz.ntmps77;go_upto_region 0 with(fail);refine wp_region_T [3,0] hK ?_;clear hK;refine eA (.cells #[.bool false,.slice none 0 0,.slice none 0 0] 70) (fun R1=>?_);refine e0 ?_;refine sxEnd (fun W2 hK=>?_);go_upto_region 1 with(fail);refine wp_region_T [0,1,0,0,0,0,0] hK ?_;clear hK;refine e0 ?_;obtain⟨b1,hb1⟩:=nmB (isMinus l);refine eQ (v:=.tuple #[.string ⟨(noMinus l).toArray⟩,.bool b1]) (fun w k=>cutp_q l w) ?_ (hv:=by rw[hb1.out])
  iterate 5 refine e0 ?_
  refine sxEnd (fun W3 hK=>?_);go_upto_region 2 with(fail);refine wp_region_T [0,1,0,0,0,0,0,0,0] hK ?_;clear hK;refine e0 ?_;obtain⟨b2,hb2⟩:=nmB ((cutB (noMinus l)).isSome);refine eQ (v:=.tuple #[.string ⟨(cutA (noMinus l)).toArray⟩,.string ⟨((cutB (noMinus l)).getD []).toArray⟩,.bool b2]) (fun w k=>cut_q (noMinus l) w (hB0.below k.old) (by omega)) ?_ (hv:=by rw[hb2.out])
  iterate 7 refine e0 ?_
  refine sxEnd (fun W4 hK=>?_);go_upto_if 24 with(fail);go_cut [6]from 9999 to 9999 (fun s6 wl=>s6=.string ⟨(secQ l).toArray⟩/\SS w ([bx R1 (.cells #[.bool false,.slice none 0 0,.slice none 0 0] 70)]) wl)
  case first=>
   cases b2
   . --
    (try go_wp2)
    go_meet
    case rel=>exact⟨(congrArg (fun z=>Value.string ⟨z.toArray⟩) (sec_f hb2.out)),hK⟩
   (try go_wp2)
   go_meet
   case rel=>exact⟨(congrArg (fun z=>Value.string ⟨z.toArray⟩) (sec_t hb2.out)),hK⟩
  clear hK;obtain⟨rfl,hK⟩:=hcut;generalize wc=W5 at hK⊢;go_upto_region 5 with(fail);refine wp_region_T [0,2,0,0,0,3,4,0] hK ?_;clear hK;refine e0 ?_;obtain⟨z1,hz1⟩:=nmI (parseErr (cutA (noMinus l)));refine eC (fun w k=>(by have q:=nat_S (nparse_q (cutA (noMinus l)) w (by omega));rw[hz1.out]at q;exact q)) (fun x7=>?_);obtain⟨p6,l6,c6⟩:=x7;dsimp only
  iterate 3 refine e0 ?_
  refine eA (.cells #[.slice none 0 0] 68) (fun R8=>?_);refine eP 0 0 [.slice p6 l6 c6] ?_;refine e0 ?_;refine sxEnd (fun W9 hK=>?_);go_upto_region 6 with(fail);refine wp_region_T [0,2,0,0,0,3,4,0] hK ?_;clear hK;refine e0 ?_;obtain⟨z2,hz2⟩:=nmI (parseErr (secQ l));refine eC (fun w k=>(by have q:=nat_S (nparse_q (secQ l) w (by omega));rw[hz2.out]at q;exact q)) (fun x11=>?_);obtain⟨p10,l10,c10⟩:=x11;dsimp only
  iterate 3 refine e0 ?_
  refine eA (.cells #[.slice none 0 0] 68) (fun R12=>?_);refine eP 0 0 [.slice p10 l10 c10] ?_;refine e0 ?_;refine sxEnd (fun W13 hK=>?_);go_upto_region 7 with(fail);refine wp_region_T [0,0,0,0,0,0] hK ?_;clear hK;refine e0 ?_;refine eB (z1==3) (fun b3 hb3=>?_);refine e0 ?_
  cases b3
  . --
   refine e0 ?_;refine eB (z2==3) (fun b4 hb4=>?_);refine e0 ?_;refine sxEnd (fun W14 hK=>?_)
   cases b4
   . --
    go_upto_region 9 with(fail);refine wp_region_T [0,0,0,0,0,0] hK ?_;clear hK;refine e0 ?_;refine eB (z1 !=0) (fun b5 hb5=>?_);refine e0 ?_
    cases b5
    . --
     refine e0 ?_;refine eB (z2 !=0) (fun b6 hb6=>?_);refine e0 ?_;refine sxEnd (fun W15 hK=>?_)
     cases b6
     . --
      go_upto_region 11 with(fail);refine wp_region_T [0,1,1,2,0,0,4,0] hK ?_;clear hK;refine e0 ?_;refine eL m2 ?_;refine eL m0 ?_;obtain⟨z3,hz3⟩:=nmI (errD (parseVal (secQ l)));refine eC (fun w k=>(by have q:=rat2_S (qmake_any _ _ b1 _ _ w (k.nf m3) (k.nf m1) (by omega) (by omega));rw[hz3.out]at q;exact q)) (fun x17=>?_);obtain⟨⟨p16,l16,c16⟩,⟨q16,u16,d16⟩⟩:=x17;dsimp only
      iterate 2 refine e0 ?_
      refine eP 5 0 [.bool (isN (ofS b1 (parseVal (cutA (noMinus l))) (parseVal (secQ l)))),.slice p16 l16 c16,.slice q16 u16 d16] ?_ (hq:=.inr ⟨rfl,rfl,rfl,rfl,rfl,trivial⟩);refine e0 ?_;refine sxEnd (fun W18 hK=>?_);have⟨c90,c91,c92⟩:=(hK.box m5).c3;go_wp2;exact bodyPost_ret (v:=.tuple #[.agg #[.bool (isN (ofS b1 (parseVal (cutA (noMinus l))) (parseVal (secQ l)))),.slice p16 l16 c16,.slice q16 u16 d16],.int .i64 z3]) (by simp[results,Tryz.results77,go_sem,c90,c91,c92]) rfl (qo hQ0 ⟨_,(by rw[(err_0 rfl hz1.out hz2.out hb5.out hb6.out hz3.out).1]),((congrArg (RatV _ _) (by rw[<-hb1.out];exact(err_0 rfl hz1.out hz2.out hb5.out hb6.out hz3.out).2)).mp (hK.q m0)),hK.old⟩)
     go_upto_region 10 with(fail);refine wp_region_T [0,4,0] hK ?_;clear hK;refine e0 ?_;refine eP 4 0 [.bool false,.slice none 0 0,.slice none 0 0] ?_;refine e0 ?_;refine sxEnd (fun W19 hK=>?_);have⟨c90,c91,c92⟩:=(hK.box m4).c3;go_wp2;exact bodyPost_ret (v:=.tuple #[.agg #[.bool false,.slice none 0 0,.slice none 0 0],.int .i64 6]) (by simp[results,Tryz.results77,go_sem,c90,c91,c92]) rfl (qo hQ0 ⟨_,(by rw[(err_6 rfl hz1.out hz2.out hb3.out hb4.out (.inr hb6.out)).1]),(by rw[(err_6 rfl hz1.out hz2.out hb3.out hb4.out (.inr hb6.out)).2];exact RatV.zero _),hK.old⟩)
    iterate 2 refine eN ?_
    refine e0 ?_;refine sxEnd (fun W20 hK=>?_);go_upto_region 10 with(fail);refine wp_region_T [0,4,0] hK ?_;clear hK;refine e0 ?_;refine eP 4 0 [.bool false,.slice none 0 0,.slice none 0 0] ?_;refine e0 ?_;refine sxEnd (fun W21 hK=>?_);have⟨c90,c91,c92⟩:=(hK.box m4).c3;go_wp2;exact bodyPost_ret (v:=.tuple #[.agg #[.bool false,.slice none 0 0,.slice none 0 0],.int .i64 6]) (by simp[results,Tryz.results77,go_sem,c90,c91,c92]) rfl (qo hQ0 ⟨_,(by rw[(err_6 rfl hz1.out hz2.out hb3.out hb4.out (.inl hb5.out)).1]),(by rw[(err_6 rfl hz1.out hz2.out hb3.out hb4.out (.inl hb5.out)).2];exact RatV.zero _),hK.old⟩)
   go_upto_region 8 with(fail);refine wp_region_T [0,4,0] hK ?_;clear hK;refine e0 ?_;refine eP 4 0 [.bool false,.slice none 0 0,.slice none 0 0] ?_;refine e0 ?_;refine sxEnd (fun W22 hK=>?_);have⟨c90,c91,c92⟩:=(hK.box m4).c3;go_wp2;exact bodyPost_ret (v:=.tuple #[.agg #[.bool false,.slice none 0 0,.slice none 0 0],.int .i64 3]) (by simp[results,Tryz.results77,go_sem,c90,c91,c92]) rfl (qo hQ0 ⟨_,(by rw[(err_3 rfl hz1.out hz2.out (.inr hb4.out)).1]),(by rw[(err_3 rfl hz1.out hz2.out (.inr hb4.out)).2];exact RatV.zero _),hK.old⟩)
  iterate 2 refine eN ?_
  refine e0 ?_;refine sxEnd (fun W23 hK=>?_);go_upto_region 8 with(fail);refine wp_region_T [0,4,0] hK ?_;clear hK;refine e0 ?_;refine eP 4 0 [.bool false,.slice none 0 0,.slice none 0 0] ?_;refine e0 ?_;refine sxEnd (fun W24 hK=>?_);have⟨c90,c91,c92⟩:=(hK.box m4).c3;go_wp2;exact bodyPost_ret (v:=.tuple #[.agg #[.bool false,.slice none 0 0,.slice none 0 0],.int .i64 3]) (by simp[results,Tryz.results77,go_sem,c90,c91,c92]) rfl (qo hQ0 ⟨_,(by rw[(err_3 rfl hz1.out hz2.out (.inl hb3.out)).1]),(by rw[(err_3 rfl hz1.out hz2.out (.inl hb3.out)).2];exact RatV.zero _),hK.old⟩)
set_option maxRecDepth 100000 in
theorem qtext_q(v0:Value)(x:Rat)(w:World)(h0:RatV w v0 x)(hB0:Bas w){k:Nat}(hx:LmQ k x)(hk:k<=10000):
    Calls Tryz.prog 27 #[v0] w fun e w'=>e=.returned (.string ⟨(textQ x).toArray⟩)/\Below w.heap.size w w':=by
  have h0_0:=h0;obtain⟨p_h0,l_h0,c_h0,q_h0,m_h0,d_h0,rfl,h0_1,h0_2⟩:=h0;have hK:=SS.start w;have e1:=dec_len hx.n;have e2:=dec_len hx.d;have ez:(decDigits (den0 x)).length<=18*k+1:=dec_len hx.d0;have e3:=hx.n.len;have e4:=hx.d0.len;obtain⟨b0,hb0⟩:∃b,Hid (isN x=b):=⟨_,hid rfl⟩;rw[hb0.out]at h0_0⊢;obtain⟨sg,hsg⟩:∃s,Hid (s=(if b0 then[45]else[]:List UInt8)):=⟨_,hid rfl⟩;have eb:sg.length<=1:=by rw[hsg.out];cases b0<;>decide
  refine Calls.hide (fun Q0 hQ0=>?_);go_enter Tryz.func27,Tryz.ntmps27;go_upto_region 0 with(fail);refine wp_region_T [3,0] hK ?_;clear hK;refine eA (.cells #[.bool b0,.slice p_h0 l_h0 c_h0,.slice q_h0 m_h0 d_h0] 70) (fun R1=>?_);refine e0 ?_;refine sxEnd (fun W2 hK=>?_);go_upto_region 1 with(fail);refine wp_region_T [0,1,1,0] hK ?_;clear hK;refine e0 ?_;refine eL m0 ?_;refine eQ (fun w k=>ntext_q _ _ w (h0_1.below k.old) (hB0.below k.old) (by omega)) ?_;refine e0 ?_;refine sxEnd (fun W3 hK=>?_);go_upto_region 2 with(fail);refine wp_region_T [0,1] hK ?_;clear hK;refine e0 ?_;refine eL m0 ?_;refine sxEnd (fun W4 hK=>?_);go_upto_if 8 with(fail);go_cut [3]from 9999 to 9999 (fun s3 wl=>s3=.string ⟨(sg++decDigits x.num.natAbs).toArray⟩/\SS w ([bx R1 (.cells #[.bool b0,.slice p_h0 l_h0 c_h0,.slice q_h0 m_h0 d_h0] 70)]) wl)
  case first=>
   cases b0
   . --
    (try go_wp2)
    go_meet
    case rel=>exact⟨(by rw[hsg.out];rfl),hK⟩
   go_upto_region 3 with(fail);refine wp_region_T [0,0,0] hK ?_;clear hK;refine e0 ?_;refine eV (.string ⟨([45]++decDigits x.num.natAbs).toArray⟩) (fun w'=>by go_simp;(try go_bits);rw[if_neg (by omega)];exact⟨congrArg Value.string (str_add _ _),rfl⟩) ?_;refine e0 ?_;refine sxEnd (fun W5 hK=>?_)
   (try go_wp2)
   go_meet
   case rel=>exact⟨(by rw[hsg.out];rfl),hK⟩
  clear hK;obtain⟨rfl,hK⟩:=hcut;generalize wc=W6 at hK⊢;go_upto_region 4 with(fail);refine wp_region_T [0,1,1,0] hK ?_;clear hK;refine e0 ?_;refine eL m0 ?_;obtain⟨b1,hb1⟩:=nmB ((den0 x)==0);refine eQ (v:=.bool b1) (fun w k=>isZero_any _ _ w (h0_2.below k.old)) ?_ (hv:=by rw[hb1.out]);refine e0 ?_;refine sxEnd (fun W7 hK=>?_);go_upto_if 14 with(fail);go_cut [3]from 9999 to 9999 (fun s3 wl=>s3=.string ⟨(textQ x).toArray⟩/\SS w ([bx R1 (.cells #[.bool b0,.slice p_h0 l_h0 c_h0,.slice q_h0 m_h0 d_h0] 70)]) wl)
  case first=>
   cases b1
   . --
    go_upto_region 5 with(fail);refine wp_region_T [0,0,1,1,0,0,0] hK ?_;clear hK
    iterate 2 refine e0 ?_
    refine eL m0 ?_;refine eQ (fun w k=>ntext_q _ _ w (h0_2.below k.old) (hB0.below k.old) (by omega)) ?_;refine eV (.string ⟨([47]++decDigits (den0 x)).toArray⟩) (fun w'=>by go_simp;(try go_bits);rw[if_neg (by omega)];exact⟨congrArg Value.string (str_add _ _),rfl⟩) ?_;refine eV (.string ⟨((sg++decDigits x.num.natAbs)++([47]++decDigits (den0 x))).toArray⟩) (fun w'=>by go_simp;(try go_bits);rw[if_neg (by omega)];exact⟨congrArg Value.string ((str_add _ _).trans (by simp)),rfl⟩) ?_;refine e0 ?_;refine sxEnd (fun W8 hK=>?_)
    (try go_wp2)
    go_meet
    case rel=>exact⟨(by rw[textQ_eq hb0.out hb1.out,hsg.out];simp[]),hK⟩
   (try go_wp2)
   go_meet
   case rel=>exact⟨(by rw[textQ_eq hb0.out hb1.out,hsg.out];simp[]),hK⟩
  clear hK;obtain⟨rfl,hK⟩:=hcut;generalize wc=W9 at hK⊢;go_wp2
  try go_ret
  show Q0 (.returned (.string ⟨(textQ x).toArray⟩)) _
  exact(qo hQ0 ⟨rfl,hK.old⟩)
set_option maxRecDepth 100000 in
theorem rtext_q(v0:Value)(x:Rat)(w:World)(h0:RefR w v0 x) {k:Nat}(hx:LmQ k x)(hk:k<=10000):
    Calls Tryz.prog 28 #[v0] w fun e w'=>e=.returned (.string ⟨(textQ x).toArray⟩)/\Below w.heap.size w w':=by
  have h0_0:=h0;obtain⟨p_h0,c_h0,q_h0,d_h0,rfl,h0_1,h0_2⟩:=h0.slr;have hK:=SS.start w;have e1:=dec_len hx.n;have e2:=dec_len hx.d;have ez:(decDigits (den0 x)).length<=18*k+1:=dec_len hx.d0;have e3:=hx.n.len;have e4:=hx.d0.len;have e5:(decDigits (numQ x)).length<=18*k+1:=e1;have e6:(digs B6 (numQ x)).length<=2*k:=hx.n.len6;have e7:(digs B6 (den0 x)).length<=2*k:=hx.d0.len6;obtain⟨b0,hb0⟩:∃b,Hid (isN x=b):=⟨_,hid rfl⟩;rw[hb0.out]at h0_0⊢;obtain⟨sg,hsg⟩:∃s,Hid (s=(if b0 then[45]else[]:List UInt8)):=⟨_,hid rfl⟩;have eb:sg.length<=1:=by rw[hsg.out];cases b0<;>decide
  refine Calls.hide (fun Q0 hQ0=>?_);go_enter Tryz.func28,Tryz.ntmps28;go_upto_region 0 with(fail);refine wp_region_T [3,0] hK ?_;clear hK;refine eA (.cells #[.bool b0,.slice p_h0 (digs B6 (numQ x)).length c_h0,.slice q_h0 (digs B6 (den0 x)).length d_h0] 34) (fun R1=>?_);refine e0 ?_;refine sxEnd (fun W2 hK=>?_);go_upto_region 1 with(fail);refine wp_region_T [0,1,1,0] hK ?_;clear hK;refine e0 ?_;refine eL m0 ?_;refine eQ (fun w k=>rtext_any _ _ w (h0_1.below k.old) (by omega) (by omega)) ?_;refine e0 ?_;refine sxEnd (fun W3 hK=>?_);go_upto_region 2 with(fail);refine wp_region_T [0,1] hK ?_;clear hK;refine e0 ?_;refine eL m0 ?_;refine sxEnd (fun W4 hK=>?_);go_upto_if 8 with(fail);go_cut [3]from 9999 to 9999 (fun s3 wl=>s3=.string ⟨(sg++decDigits (numQ x)).toArray⟩/\SS w ([bx R1 (.cells #[.bool b0,.slice p_h0 (digs B6 (numQ x)).length c_h0,.slice q_h0 (digs B6 (den0 x)).length d_h0] 34)]) wl)
  case first=>
   cases b0
   . --
    (try go_wp2)
    go_meet
    case rel=>exact⟨(by rw[hsg.out];rfl),hK⟩
   go_upto_region 3 with(fail);refine wp_region_T [0,0,0] hK ?_;clear hK;refine e0 ?_;refine eV (.string ⟨([45]++decDigits (numQ x)).toArray⟩) (fun w'=>by go_simp;(try go_bits);rw[if_neg (by omega)];exact⟨congrArg Value.string (str_add _ _),rfl⟩) ?_;refine e0 ?_;refine sxEnd (fun W5 hK=>?_)
   (try go_wp2)
   go_meet
   case rel=>exact⟨(by rw[hsg.out];rfl),hK⟩
  clear hK;obtain⟨rfl,hK⟩:=hcut;generalize wc=W6 at hK⊢;go_upto_region 4 with(fail);refine wp_region_T [0,1,0,0] hK ?_;clear hK;refine e0 ?_;refine eL m0 ?_;refine e0 ?_;refine eB (decide (0<(((digs B6 (den0 x)).length:Int)))) (fun b1 hb1=>?_);refine sxEnd (fun W7 hK=>?_);go_upto_if 14 with(fail);go_cut [3]from 9999 to 9999 (fun s3 wl=>s3=.string ⟨(textQ x).toArray⟩/\SS w ([bx R1 (.cells #[.bool b0,.slice p_h0 (digs B6 (numQ x)).length c_h0,.slice q_h0 (digs B6 (den0 x)).length d_h0] 34)]) wl)
  case first=>
   cases b1
   . --
    have q_b1:=nlt hb1
    (try go_wp2)
    go_meet
    case rel=>exact⟨(by rw[textQ_eq2 hb0.out hb1.out,hsg.out];simp[numQ]),hK⟩
   have q_b1:=ylt hb1;go_upto_region 5 with(fail);refine wp_region_T [0,0,1,1,0,0,0] hK ?_;clear hK
   iterate 2 refine e0 ?_
   refine eL m0 ?_;refine eQ (fun w k=>rtext_any _ _ w (h0_2.below k.old) (by omega) (by omega)) ?_;refine eV (.string ⟨([47]++decDigits (den0 x)).toArray⟩) (fun w'=>by go_simp;(try go_bits);rw[if_neg (by omega)];exact⟨congrArg Value.string (str_add _ _),rfl⟩) ?_;refine eV (.string ⟨((sg++decDigits (numQ x))++([47]++decDigits (den0 x))).toArray⟩) (fun w'=>by go_simp;(try go_bits);rw[if_neg (by omega)];exact⟨congrArg Value.string ((str_add _ _).trans (by simp)),rfl⟩) ?_;refine e0 ?_;refine sxEnd (fun W8 hK=>?_)
   (try go_wp2)
   go_meet
   case rel=>exact⟨(by rw[textQ_eq2 hb0.out hb1.out,hsg.out];simp[numQ]),hK⟩
  clear hK;obtain⟨rfl,hK⟩:=hcut;generalize wc=W9 at hK⊢;go_wp2
  try go_ret
  show Q0 (.returned (.string ⟨(textQ x).toArray⟩)) _
  exact(qo hQ0 ⟨rfl,hK.old⟩)
end
section
theorem cut_first{l:List UInt8}{k:Nat}(hk:k<l.length)(h:∀j (h:j<l.length),j<k->l[j]≠47)(hc:l[k]=47):cutA l=l.take k/\cutB l=some (l.drop (k+1)):=by
  have e:l=l.take k++47::l.drop (k+1):=by
    rw[<-hc, <-List.drop_eq_getElem_cons hk,List.take_append_drop]
  have h1:∀c∈l.take k,c≠47:=fun c hc=>by
    obtain⟨j,hj,rfl⟩:=List.getElem_of_mem hc;rw[List.length_take]at hj;rw[List.getElem_take];exact h j (by omega) (by omega)
  have h2:=cut_at (l:=l.take k) (m:=l.drop (k+1)) h1;rw[<-e]at h2;exact h2
theorem ext_take(s:ByteArray)(k:Nat):s.extract 0 k=⟨(s.data.toList.take k).toArray⟩:=by
  apply ByteArray.ext;apply Array.toList_inj.1;simp[ByteArray.data_extract]
theorem ext_drop(s:ByteArray)(k:Nat):s.extract k s.size=⟨(s.data.toList.drop k).toArray⟩:=by
  apply ByteArray.ext;apply Array.toList_inj.1;rw[ByteArray.data_extract,Array.toList_extract,List.extract_eq_take_drop];exact List.take_of_length_le (by rw[List.length_drop];exact Nat.le_refl _)
set_option maxRecDepth 100000 in
theorem rcut_any(s:ByteArray)(w:World)(hs:s.size<=1000000):
    Calls Tryz.prog 124 #[.string s] w fun e w'=>e=.returned (.tuple #[.string ⟨(cutA s.data.toList).toArray⟩,.string ⟨((cutB s.data.toList).getD []).toArray⟩,.bool (cutB s.data.toList).isSome])/\Below w.heap.size w w':=by
  refine Calls.hide (fun Q0 hQ0=>?_);go_enter Tryz.func124,Tryz.ntmps124;go_wp2_with fail;go_loopw [5] (fun i wr=> ∃k:Nat,k<=s.size/\i=.int .i64 k/\Hid (∀j (h:j<s.data.toList.length),j<k->s.data.toList[j]≠47)/\Hid (Below w.heap.size w wr)) (fun i _=>s.size-(intOf i).toNat)
  case atStart=>exact⟨0,Nat.zero_le _,rfl,hid (fun j _ h=>absurd h (by omega)),hid (Below.refl _ _)⟩
  obtain⟨k,hk,rfl,HD,HW⟩:=hrel
  by_cases hlt:k<s.size
  . have hl:k<s.data.toList.length:=by rw[str_len];exact hlt
    by_cases hc:s[k].toNat=47
    . have HC:=hid (show s.data.toList[k]=47 by rw[<-str_at s k hlt];exact UInt8.toNat_inj.1 hc);have hc':((s[k].toNat:Int)==47)=true:=by simp[hc]
      clear hc;go_wp2;have hk2:wrap64 ((k:Int)+1)=(k:Int)+1:=by unfold wrap64;omega
      refine wp_region_float (wr) _ [0,0,0,0,0,0,0,0,0,0] (by kernel_rfl) (by kernel_rfl) (by kernel_rfl) (by kernel_rfl) (KS.drew (KS.start wr)) ?_;apply lxF0 (wants0 rfl);(· intro w' h0;have hw':=h0.old;go_simp;(try go_bits);exact⟨rfl,rfl⟩);simp only[Act.put,List.setIfInBounds_toArray,List.set_cons_zero,List.set_cons_succ];apply lxF0 (wants0 rfl);(· intro w' h0;have hw':=h0.old;go_simp;(try go_bits);exact⟨rfl,rfl⟩);simp only[Act.put,List.setIfInBounds_toArray,List.set_cons_zero,List.set_cons_succ];apply lxF0 (wants0 rfl);(· intro w' h0;have hw':=h0.old;go_simp;(try go_bits);exact⟨rfl,rfl⟩);simp only[Act.put,List.setIfInBounds_toArray,List.set_cons_zero,List.set_cons_succ];apply lxF0 (wants0 rfl);(· intro w' h0;have hw':=h0.old;go_simp;(try go_bits);exact⟨rfl,rfl⟩);simp only[Act.put,List.setIfInBounds_toArray,List.set_cons_zero,List.set_cons_succ];apply lxF0 (wants0 rfl);(· intro w' h0;have hw':=h0.old;go_simp;(try go_bits);exact⟨rfl,rfl⟩);simp only[Act.put,List.setIfInBounds_toArray,List.set_cons_zero,List.set_cons_succ];apply lxF0 (wants0 rfl);(· intro w' h0;have hw':=h0.old;go_simp;(try go_bits);exact⟨rfl,rfl⟩);simp only[Act.put,List.setIfInBounds_toArray,List.set_cons_zero,List.set_cons_succ];apply lxF0 (wants0 rfl);(· intro w' h0;go_simp;(try go_bits);rw[if_pos (by omega)];exact⟨rfl,rfl⟩);simp only[Act.put,List.setIfInBounds_toArray,List.set_cons_zero,List.set_cons_succ];apply lxF0 (wants0 rfl);(· intro w' h0;have hw':=h0.old;go_simp;(try go_bits);exact⟨rfl,rfl⟩);simp only[Act.put,List.setIfInBounds_toArray,List.set_cons_zero,List.set_cons_succ];apply lxF0 (wants0 rfl);(· intro w' h0;have hw':=h0.old;go_simp;(try go_bits);exact⟨rfl,rfl⟩);simp only[Act.put,List.setIfInBounds_toArray,List.set_cons_zero,List.set_cons_succ];apply lxF0 (wants0 rfl);(· intro w' h0;have hw':=h0.old;go_simp;(try go_bits);exact⟨rfl,rfl⟩);simp only[Act.put,List.setIfInBounds_toArray,List.set_cons_zero,List.set_cons_succ];refine lxEnd (fun W9 hK=>?_);have HB:=HW.out.trans (hK.old.mono HW.out.size)
      go_wp2;have hcut:=cut_first hl HD.out HC.out
      exact bodyPost_ret (v:=.tuple #[.string (s.extract 0 k),.string (s.extract (k+1) s.size),.bool true]) (by simp[results,Tryz.results124,go_sem]) rfl (by
        obtain rfl:=hQ0.out;refine⟨?_,HB⟩;rw[hcut.1,hcut.2,ext_take,ext_drop];rfl)
    have hc':((s[k].toNat:Int)==47)=false:=by simp;omega
    have HD':=hid (show ∀j (h:j<s.data.toList.length),j<k+1->s.data.toList[j]≠47 from fun j h hj=>by
      by_cases e:j=k
      . subst e;rw[<-str_at s j hlt];exact fun e=>hc (by rw[e];rfl)
      exact HD.out j h (by omega))
    clear hc;go_wp2;go_roundw
    case rel=>exact⟨k+1,by omega,by go_num,HD',HW⟩
    case measure=>simp[intOf];omega
  obtain rfl:k=s.size:=by omega
  have hcut:=cut_none (l:=s.data.toList) (fun c hc=>by
    obtain⟨j,hj,rfl⟩:=List.getElem_of_mem hc;exact HD.out j hj (by rw[str_len]at hj;exact hj))
  go_wp2
  exact bodyPost_ret (v:=.tuple #[.string s,.string ⟨#[]⟩,.bool false]) (by simp[results,Tryz.results124,go_sem]) rfl (by
    obtain rfl:=hQ0.out;refine⟨?_,HW.out⟩;rw[hcut.1,hcut.2];rfl)
end
section
theorem rcut_q(l:List UInt8)(w:World)(hl:l.length<=1000000):
    Calls Tryz.prog 124 #[.string ⟨l.toArray⟩] w fun e w'=>e=.returned (.tuple #[.string ⟨(cutA l).toArray⟩,.string ⟨((cutB l).getD []).toArray⟩,.bool (cutB l).isSome])/\Below w.heap.size w w':=rcut_any ⟨l.toArray⟩ w (by simpa[ByteArray.size]using hl)
theorem parse49:parseVal [49]=1/\parseErr [49]=0:=by
  have e:decDigits 1=[49]:=by rw[dec_small (by decide)];rfl
  have h:=parse_dec (n:=1) (by rw[e];decide);rw[e]at h;exact⟨h.2,h.1⟩
theorem vF_to{V w:World}{l:List Ft}{p:Option Addr}{c n m:Nat}(h:SS V (vF (.slice p (digs B6 n).length c) n::l) w)(e:n=m):SS V (vF (.slice p (digs B6 m).length c) m::l) w:=e▸h
theorem head_minus{l:List UInt8}:isMinus l=(decide (0<(l.length:Int))&&(((l.headD 0).toNat:Int)==45)):=by
  cases l with
  |nil=>rfl
  | cons c t=>
    by_cases h:c=45
    . subst h;simp[isMinus]
    have h2:c.toNat≠45:=fun e=>h (UInt8.toNat_inj.1 e)
    have h3:((c.toNat:Int)==45)=false:=by rw[beq_eq_false_iff_ne];omega
    show isMinus (c::t)=(_&&((c.toNat:Int)==45))
    rw[h3,Bool.and_false];simp[isMinus,h]
theorem minus_drop{l:List UInt8}(h:isMinus l=true):l.drop 1=noMinus l/\1<=l.length:=by
  cases l with
  |nil=>cases h
  | cons c t=>
    have:c=45:=by simpa[isMinus]using h
    subst this;exact⟨by simp[noMinus],by simp⟩
theorem minus_no{l:List UInt8}(h:isMinus l=false):noMinus l=l:=by
  cases l with
  |nil=>rfl
  | cons c t=>
    have:c≠45:=by simpa[isMinus]using h
    simp[noMinus,this]
set_option maxRecDepth 100000 in
theorem qparse_r (l:List UInt8)(w:World) (hl:l.length<=10000):
    Calls Tryz.prog 95 #[.string ⟨l.toArray⟩] w fun e w'=> ∃y0,e=.returned (.tuple #[y0,.int .i64 (errQ l)])/\RefR w' y0 (valQ l)/\Below w.heap.size w w':=by
  have hK:=SS.start w;have e1:=noMinus_len l;have e2:=cutA_len (noMinus l);have e3:=secB_len l;have e4:=pv_len6 (cutA (noMinus l));have e5:=pv_len6 (secQ l);have e6:(digs B6 1).length<=1:=by rw[digs6_1];exact Nat.le_refl _
  have e8:(secQ l).length<=10001:=secQ_len hl;have e7:(digs B6 (parseVal [49])).length<=1:=pv_len6 _;obtain⟨bm,hbm⟩:=nmB (isMinus l);refine Calls.hide (fun Q0 hQ0=>?_);go_enter Tryz.func95,Tryz.ntmps95;go_upto_region 0 with(fail);refine wp_region_T [3,0] hK ?_;clear hK;refine eA (.cells #[.bool false,.slice none 0 0,.slice none 0 0] 34) (fun R1=>?_);refine e0 ?_;refine sxEnd (fun W2 hK=>?_);go_upto_region 1 with(fail);go_cut [4]from 9999 to 9999 (fun s4 wl=>s4=.bool bm/\SS w ([bx R1 (.cells #[.bool false,.slice none 0 0,.slice none 0 0] 34)]) wl)
  case first=>
   go_upto_region 1 with(fail);refine wp_region_T [0,0,0,0,0,0,0,0,0] hK ?_;clear hK
   iterate 2 refine e0 ?_
   refine eB (decide (0<((l.length:Int)))) (fun b1 hb1=>?_);refine e0 ?_
   cases b1
   . --
    have q_b1:=nlt hb1
    iterate 3 refine eN ?_
    iterate 2 refine e0 ?_
    refine sxEnd (fun W3 hK=>?_)
    (try go_wp2)
    go_meet
    case rel=>exact⟨(congrArg Value.bool (by rw[<-hbm.out,head_minus];first|(rw[hb1.out,hb2.out];rfl)|(rw[hb1.out];rfl))),hK⟩
   have q_b1:=ylt hb1;refine e0 ?_;refine eV (.int .u8 ((l.headD 0).toNat:Int)) (fun w'=>by go_simp;(try go_bits);rcases l with _|⟨c,t⟩;(· simp at q_b1);exact⟨rfl,rfl⟩) ?_;refine eB ((((l.headD 0).toNat:Int))==45) (fun b2 hb2=>?_)
   iterate 2 refine e0 ?_
   refine sxEnd (fun W4 hK=>?_)
   (try go_wp2)
   go_meet
   case rel=>exact⟨(congrArg Value.bool (by rw[<-hbm.out,head_minus];first|(rw[hb1.out,hb2.out];rfl)|(rw[hb1.out];rfl))),hK⟩
  clear hK;obtain⟨rfl,hK⟩:=hcut;generalize wc=W5 at hK⊢;go_upto_if 20 with(fail);go_cut [0]from 9999 to 9999 (fun s0 wl=>s0=.string ⟨(noMinus l).toArray⟩/\SS w ([bx R1 (.cells #[.bool false,.slice none 0 0,.slice none 0 0] 34)]) wl)
  case first=>
   cases bm
   . --
    (try go_wp2)
    go_meet
    case rel=>exact⟨(by rw[minus_no hbm.out]),hK⟩
   go_upto_region 3 with(fail);refine wp_region_T [0,0,0] hK ?_;clear hK;refine e0 ?_;refine eV (.string ⟨(noMinus l).toArray⟩) (fun w'=>by go_simp;(try go_bits);have q:=minus_drop hbm.out;(try rw[if_pos (by omega)]);exact⟨congrArg Value.string ((ext_drop ⟨l.toArray⟩ 1).trans (by rw[<-q.1])),rfl⟩) ?_;refine e0 ?_;refine sxEnd (fun W6 hK=>?_)
   (try go_wp2)
   go_meet
   case rel=>exact⟨rfl,hK⟩
  clear hK;obtain⟨rfl,hK⟩:=hcut;generalize wc=W7 at hK⊢;go_upto_region 4 with(fail);refine wp_region_T [0,1,0,0,0,0,0,0,0] hK ?_;clear hK;refine e0 ?_;obtain⟨b1,hb1⟩:=nmB ((cutB (noMinus l)).isSome);refine eQ (v:=.tuple #[.string ⟨(cutA (noMinus l)).toArray⟩,.string ⟨((cutB (noMinus l)).getD []).toArray⟩,.bool b1]) (fun w k=>rcut_q (noMinus l) w (by omega)) ?_ (hv:=by rw[hb1.out])
  iterate 7 refine e0 ?_
  refine sxEnd (fun W8 hK=>?_);go_upto_region 5 with(fail);refine wp_region_T [0,2,0,0,0,0,0] hK ?_;clear hK;refine e0 ?_;obtain⟨z1,hz1⟩:=nmI (parseErr (cutA (noMinus l)));refine eC (fun w k=>(by have q:=ref_V (rparse_q0 (cutA (noMinus l)) w (by omega));rw[hz1.out]at q;exact q)) (fun x10=>?_);obtain⟨p9,c9⟩:=x10;dsimp only
  iterate 5 refine e0 ?_
  refine sxEnd (fun W11 hK=>?_);go_upto_region 6 with(fail);refine wp_region_T [2,0,0] hK ?_;clear hK;refine eC (fun w k=>ref_V (rof_any 1 w (by omega))) (fun x13=>?_);obtain⟨p12,c12⟩:=x13;dsimp only
  iterate 2 refine e0 ?_
  refine sxEnd (fun W14 hK=>?_);go_upto_if 35 with(fail);go_cut [10,11]from 9999 to 9999 (fun s10 s11 wl=> ∃(dp:Option Addr) (dc:Nat),s10=.slice dp (digs B6 (parseVal (secQ l))).length dc/\s11=.int .i64 (parseErr (secQ l))/\SS w ([vF (.slice dp (digs B6 (parseVal (secQ l))).length dc) (parseVal (secQ l)),vF (.slice p9 (digs B6 (parseVal (cutA (noMinus l)))).length c9) (parseVal (cutA (noMinus l))),bx R1 (.cells #[.bool false,.slice none 0 0,.slice none 0 0] 34)]) wl)
  case first=>
   cases b1
   . --
    have hs9:secQ l=[49]:=(sec_f hb1.out).symm;have hp9:1=parseVal (secQ l):=by rw[hs9];exact parse49.1.symm
    replace hK:=vF_to hK hp9
    (try go_wp2)
    go_meet
    case rel=>exact⟨p12,c12,(by rw[hp9]),(by rw[hs9,parse49.2]),hK⟩
   go_upto_region 8 with(fail);refine wp_region_T [0,2,0,0,0,0,0] hK ?_;clear hK;refine e0 ?_;obtain⟨z2,hz2⟩:=nmI (parseErr ((cutB (noMinus l)).getD []));refine eC (fun w k=>(by have q:=ref_V (rparse_q0 ((cutB (noMinus l)).getD []) w (by omega));rw[hz2.out]at q;exact q)) (fun x16=>?_);obtain⟨p15,c15⟩:=x16;dsimp only
   iterate 5 refine e0 ?_
   refine sxEnd (fun W17 hK=>?_);replace hK:=vF_to hK (congrArg parseVal (sec_t hb1.out))
   (try go_wp2)
   go_meet
   case rel=>exact⟨p15,c15,(by rw[sec_t hb1.out]),(by rw[<-hz2.out,sec_t hb1.out]),(hK.subl (sK2 (sC2 (sR))))⟩
  clear hK;obtain⟨dp,dc,rfl,rfl,hK⟩:=hcut;generalize wc=W18 at hK⊢;go_upto_region 9 with(fail);refine wp_region_T [0,0,0,0,0,0,0] hK ?_;clear hK;refine e0 ?_;refine eB (z1==3) (fun b2 hb2=>?_);refine e0 ?_
  cases b2
  . --
   refine e0 ?_;refine eB (((parseErr (secQ l)))==3) (fun b3 hb3=>?_)
   iterate 2 refine e0 ?_
   refine sxEnd (fun W19 hK=>?_)
   cases b3
   . --
    go_upto_region 11 with(fail);refine wp_region_T [0,0,0,0,0,0,0] hK ?_;clear hK;refine e0 ?_;refine eB (z1 !=0) (fun b4 hb4=>?_);refine e0 ?_
    cases b4
    . --
     refine e0 ?_;refine eB (((parseErr (secQ l))) !=0) (fun b5 hb5=>?_)
     iterate 2 refine e0 ?_
     refine sxEnd (fun W20 hK=>?_)
     cases b5
     . --
      go_upto_region 13 with(fail);refine wp_region_T [0,0,0,2,0,0,4,0] hK ?_;clear hK
      iterate 3 refine e0 ?_
      obtain⟨z2,hz2⟩:=nmI (if(parseVal (secQ l))=0 then 10 else 0);refine eC (fun w k=>(by have q:=ref2_S (rmake_q _ _ bm _ _ w (k.vf m1) (k.vf m0) (by omega) (by omega));rw[hz2.out]at q;exact q)) (fun x22=>?_);obtain⟨⟨p21,l21,c21⟩,⟨q21,u21,d21⟩⟩:=x22;dsimp only
      iterate 2 refine e0 ?_
      refine eP 3 0 [.bool (isN (ofS bm (parseVal (cutA (noMinus l))) (parseVal (secQ l)))),.slice p21 l21 c21,.slice q21 u21 d21] ?_ (hq:=.inr ⟨rfl,rfl,rfl,trivial⟩);refine e0 ?_;refine sxEnd (fun W23 hK=>?_);have⟨c90,c91,c92⟩:=(hK.box m3).c3;go_wp2;exact bodyPost_ret (v:=.tuple #[.agg #[.bool (isN (ofS bm (parseVal (cutA (noMinus l))) (parseVal (secQ l)))),.slice p21 l21 c21,.slice q21 u21 d21],.int .i64 z2]) (by simp[results,Tryz.results95,go_sem,c90,c91,c92]) rfl (qo hQ0 ⟨_,(by rw[(err_0 rfl hz1.out rfl hb4.out hb5.out hz2.out).1]),((congrArg (RefR _ _) (by rw[<-hbm.out];exact(err_0 rfl hz1.out rfl hb4.out hb5.out hz2.out).2)).mp (hK.rq m0)),hK.old⟩)
     go_upto_region 12 with(fail);refine wp_region_T [0,4,0] hK ?_;clear hK;refine e0 ?_;refine eP 2 0 [.bool false,.slice none 0 0,.slice none 0 0] ?_;refine e0 ?_;refine sxEnd (fun W24 hK=>?_);have⟨c90,c91,c92⟩:=(hK.box m2).c3;go_wp2;exact bodyPost_ret (v:=.tuple #[.agg #[.bool false,.slice none 0 0,.slice none 0 0],.int .i64 6]) (by simp[results,Tryz.results95,go_sem,c90,c91,c92]) rfl (qo hQ0 ⟨_,(by rw[(err_6 rfl hz1.out rfl hb2.out hb3.out (.inr hb5.out)).1]),(by rw[(err_6 rfl hz1.out rfl hb2.out hb3.out (.inr hb5.out)).2];exact RefR.zero _),hK.old⟩)
    iterate 2 refine eN ?_
    iterate 2 refine e0 ?_
    refine sxEnd (fun W25 hK=>?_);go_upto_region 12 with(fail);refine wp_region_T [0,4,0] hK ?_;clear hK;refine e0 ?_;refine eP 2 0 [.bool false,.slice none 0 0,.slice none 0 0] ?_;refine e0 ?_;refine sxEnd (fun W26 hK=>?_);have⟨c90,c91,c92⟩:=(hK.box m2).c3;go_wp2;exact bodyPost_ret (v:=.tuple #[.agg #[.bool false,.slice none 0 0,.slice none 0 0],.int .i64 6]) (by simp[results,Tryz.results95,go_sem,c90,c91,c92]) rfl (qo hQ0 ⟨_,(by rw[(err_6 rfl hz1.out rfl hb2.out hb3.out (.inl hb4.out)).1]),(by rw[(err_6 rfl hz1.out rfl hb2.out hb3.out (.inl hb4.out)).2];exact RefR.zero _),hK.old⟩)
   go_upto_region 10 with(fail);refine wp_region_T [0,4,0] hK ?_;clear hK;refine e0 ?_;refine eP 2 0 [.bool false,.slice none 0 0,.slice none 0 0] ?_;refine e0 ?_;refine sxEnd (fun W27 hK=>?_);have⟨c90,c91,c92⟩:=(hK.box m2).c3;go_wp2;exact bodyPost_ret (v:=.tuple #[.agg #[.bool false,.slice none 0 0,.slice none 0 0],.int .i64 3]) (by simp[results,Tryz.results95,go_sem,c90,c91,c92]) rfl (qo hQ0 ⟨_,(by rw[(err_3 rfl hz1.out rfl (.inr hb3.out)).1]),(by rw[(err_3 rfl hz1.out rfl (.inr hb3.out)).2];exact RefR.zero _),hK.old⟩)
  iterate 2 refine eN ?_
  iterate 2 refine e0 ?_
  refine sxEnd (fun W28 hK=>?_);go_upto_region 10 with(fail);refine wp_region_T [0,4,0] hK ?_;clear hK;refine e0 ?_;refine eP 2 0 [.bool false,.slice none 0 0,.slice none 0 0] ?_;refine e0 ?_;refine sxEnd (fun W29 hK=>?_);have⟨c90,c91,c92⟩:=(hK.box m2).c3;go_wp2;exact bodyPost_ret (v:=.tuple #[.agg #[.bool false,.slice none 0 0,.slice none 0 0],.int .i64 3]) (by simp[results,Tryz.results95,go_sem,c90,c91,c92]) rfl (qo hQ0 ⟨_,(by rw[(err_3 rfl hz1.out rfl (.inl hb2.out)).1]),(by rw[(err_3 rfl hz1.out rfl (.inl hb2.out)).2];exact RefR.zero _),hK.old⟩)
end
section
structure NumS where
  neg:Bool
  ds:List Nat
  es:List Nat
def NumV(W:World)(v:Value)(n:NumS):Prop:= ∃nv dv,v=.agg #[.bool n.neg,nv,dv]/\InV W nv n.ds/\InV W dv n.es
theorem NumV.below{W W':World}{v:Value}{n:NumS}(h:NumV W v n)(hb:Below W.heap.size W W'):NumV W' v n:=by
  obtain⟨nv,dv,rfl,h1,h2⟩:=h;exact⟨nv,dv,rfl,h1.below hb,h2.below hb⟩
theorem textQ_short{x:Rat}(h:LmQ 50 x):(decDigits x.num.natAbs).length<=1000/\(decDigits x.den).length<=1000:=⟨Nat.le_trans (dec_len h.n) (by decide),Nat.le_trans (dec_len h.d) (by decide)⟩
theorem textQ_len{x:Rat}(h:LmQ 50 x):(textQ x).length<=2002:=by
  have:=textQ_short h;unfold textQ
  split<;>split<;>simp<;>omega
theorem qparse_back(x:Rat)(w:World)(hB:Bas w)(hx:LmQ 50 x):
    Calls Tryz.prog 77 #[.string ⟨(textQ x).toArray⟩] w fun e w'=> ∃y0,e=.returned (.tuple #[y0,.int .i64 0])/\RatV w' y0 x/\Below w.heap.size w w':=by
  have h:=parse_text x (textQ_short hx).1 (textQ_short hx).2;have c:=qparse_q (textQ x) w hB (by have:=textQ_len hx;omega)
  rwa [h.1,h.2]at c
theorem dec1{n:Nat}(h:n<10):decDigits n=[UInt8.ofNat (48+n)]:=dec_small h
theorem text_of{x:Rat}{b:Bool}{n d:Nat}{l:List UInt8}(h:isN x=b/\x.num.natAbs=n/\x.den=d)(hl:(if b then[45]else[])++(decDigits n++(if d=1 then[]else 47::decDigits d))=l):textQ x=l:=by
  unfold textQ;rw[h.1,h.2.1,h.2.2,hl]
end
section
theorem rparse_back(x:Rat)(w:World)(hx:LmQ 50 x):
    Calls Tryz.prog 95 #[.string ⟨(textQ x).toArray⟩] w fun e w'=> ∃y0,e=.returned (.tuple #[y0,.int .i64 0])/\RefR w' y0 x/\Below w.heap.size w w':=by
  have h:=parse_text x (textQ_short hx).1 (textQ_short hx).2;have c:=qparse_r (textQ x) w (by have:=textQ_len hx;omega)
  rwa [h.1,h.2]at c
theorem take_snoc{l:List Rat}{m:Nat}{x:Rat}(h:l[m]?=some x):l.take m++[x]=l.take (m+1):=by rw[List.take_add_one,h];rfl
theorem take_len{l:List Rat}{m:Nat}(h:m<=l.length):(l.take m).length=m:=by rw[List.length_take];omega
abbrev slcQ:EK Sl:=slcK
theorem infoSQ:(Tryz.prog.info? 56).map (fun i=>(i.zero,i.size,i.bytes))=some (some (.slice none 0 0),slcQ.sz,24):=by kernel_rfl
structure RsS where
  x:Sl
  y:Sl
  r:Sl
  d:Sl
  e:Sl
instance :Nonempty RsS:=⟨⟨⟨none,0,0⟩,⟨none,0,0⟩,⟨none,0,0⟩,⟨none,0,0⟩,⟨none,0,0⟩⟩⟩
def RsS.v(a:RsS)(R:LpRes):Value:=.agg #[.int .i64 R.k,.slice a.x.p a.x.l a.x.c,.slice a.y.p a.y.l a.y.c,.slice a.r.p a.r.l a.r.c,.bool (isN R.z),.slice a.d.p a.d.l a.d.c,.slice a.e.p a.e.l a.e.c]
def rsl(a:RsS)(R:LpRes):List Ft:=[rO refK 34 a.x.p a.x.l a.x.c R.x,rO refK 34 a.y.p a.y.l a.y.c R.y,rO refK 34 a.r.p a.r.l a.r.c R.r,rF (.agg #[.bool (isN R.z),.slice a.d.p a.d.l a.d.c,.slice a.e.p a.e.l a.e.c]) R.z]
theorem rsl_ln{a:RsS}{R:LpRes}:∀f∈rsl a R,∀n,f.ln.contains n=true->([1]:List Nat).contains n=true:=fun f hf n hn=>by
  unfold rsl at hf;simp only[List.mem_cons,List.not_mem_nil,or_false]at hf
  rcases hf with rfl|rfl|rfl|rfl<;>exact hn
def rsR(a:RsS)(R:LpRes):Ft:=stF [1] (rsl a R) rsl_ln
instance {a:RsS}{R:LpRes}:Zs (rsR a R):=.st fun f hf=>by
  unfold rsl at hf;simp only[List.mem_cons,List.not_mem_nil,or_false]at hf
  rcases hf with rfl|rfl|rfl|rfl<;>infer_instance
section
variable {V w:World}{l:List Ft}{a:RsS}{R:LpRes}
theorem SS.rs(h:SS V l w)(hm:rsR a R∈l):SlV refK w (.slice a.x.p a.x.l a.x.c) R.x/\SlV refK w (.slice a.y.p a.y.l a.y.c) R.y/\SlV refK w (.slice a.r.p a.r.l a.r.c) R.r/\RefR w (.agg #[.bool (isN R.z),.slice a.d.p a.d.l a.d.c,.slice a.e.p a.e.l a.e.c]) R.z:=by
  obtain⟨h1,_⟩:=h.get hm;have h2:OwV refK _ 0 w (.slice a.x.p a.x.l a.x.c) R.x:=h1 _ m0;have h3:OwV refK _ 0 w (.slice a.y.p a.y.l a.y.c) R.y:=h1 _ m1;have h4:OwV refK _ 0 w (.slice a.r.p a.r.l a.r.c) R.r:=h1 _ m2;exact⟨h2.slv,h3.slv,h4.slv,h1 _ m3⟩
end
set_option maxRecDepth 100000 in
theorem rfrom_any(w:World){q:Rat}(hx:LmQ 50 q):
    Calls Tryz.prog 68 #[.string ⟨(textQ q).toArray⟩] w fun e w'=> ∃x:Duo Sl Sl,e=.returned (.agg #[.bool (isN (q)),.slice x.a.p x.a.l x.a.c,.slice x.b.p x.b.l x.b.c])/\SS w [rF (.agg #[.bool (isN (q)),.slice x.a.p x.a.l x.a.c,.slice x.b.p x.b.l x.b.c]) (q)] w':=by
  have hK:=SS.start w;refine Calls.hide (fun Q0 hQ0=>?_);go_enter Tryz.func68,Tryz.ntmps68;go_upto_region 0 with(fail);refine wp_region_T [3] hK ?_;clear hK;refine eA (.cells #[.bool false,.slice none 0 0,.slice none 0 0] 34) (fun R1=>?_);refine sxEnd (fun W2 hK=>?_);go_upto_region 1 with(fail);refine wp_region_T [0,2,0,0,0,3,4,0] hK ?_;clear hK;refine e0 ?_;refine eC (fun w k=>ref2_S (rparse_back q w hx)) (fun x3=>?_);obtain⟨⟨p4,l4,c4⟩,⟨q4,u4,d4⟩⟩:=x3;dsimp only
  iterate 3 refine e0 ?_
  refine eA (.cells #[.bool false,.slice none 0 0,.slice none 0 0] 34) (fun R5=>?_);refine eP 0 0 [.bool (isN (q)),.slice p4 l4 c4,.slice q4 u4 d4] ?_ (hq:=.inr ⟨rfl,rfl,trivial⟩);refine e0 ?_;refine sxEnd (fun W6 hK=>?_);go_upto_region 2 with(fail);refine wp_region_T [1,4] hK ?_;clear hK;refine eL m0 ?_;refine eP 2 0 [.bool (isN (q)),.slice p4 l4 c4,.slice q4 u4 d4] ?_ (hq:=.inr ⟨rfl,rfl,trivial⟩);refine sxEnd (fun W7 hK=>?_);have⟨c90,c91,c92⟩:=(hK.box m2).c3;replace hK:=hK.subl (sC2 (sK2 (sC2 sZ2)));go_wp2;exact bodyPost_ret (v:=.agg #[.bool (isN (q)),.slice p4 l4 c4,.slice q4 u4 d4]) (by simp[results,Tryz.results68,go_sem,c90,c91,c92]) rfl (qo hQ0 ⟨⟨⟨p4,l4,c4⟩,⟨q4,u4,d4⟩⟩,rfl,hK⟩)
set_option maxRecDepth 100000 in
theorem numbers_any(w:World){p_h0:Option Addr}{n_h0 c_h0:Nat}{l:List Rat}(hh0:SlV refK w (.slice p_h0 n_h0 c_h0) l)(hB:Bas w)(hl:LmL 50 l)(hn:l.length<=100000):
    Calls Tryz.prog 52 #[.slice p_h0 n_h0 c_h0] w fun e w'=> ∃s:Sl,e=.returned (.slice s.p s.l s.c)/\SS w [rO ratK 70 s.p s.l s.c l] w':=by
  have hK:=SS.start w;have⟨n1,n2⟩:=lle hh0.one0;refine Calls.hide (fun Q0 hQ0=>?_);go_enter Tryz.func52,Tryz.ntmps52;replace hK:=hK.fact (rO ratK 70 none 0 0 (l.take 0)) OwV.nil (fun _ h=>by cases h);go_wp2_with fail;go_loopw [3,4] (fun s3 s4 wl=> ∃(m:Nat) (p:Option Addr) (n:Nat) (c:Nat),s3=.slice p n c/\s4=.int .i64 (m:Int)/\(m<=l.length)/\Hid (l.take m=[]->p=none)/\SS w ([rO ratK 70 p n c (l.take m)]) wl) (fun s3 s4 _=>n_h0-(intOf s4).toNat)
  case atStart=>exact⟨0,none,0,0,rfl,rfl,(by omega),hid (fun _=>rfl),hK⟩
  clear hK;obtain⟨m,p,n,c,rfl,rfl,hm0,h_e,hK⟩:=hrel;generalize wr=W1 at hK⊢;go_upto_region 3 with(fail);refine wp_region_T [0,0,0,0] hK ?_;clear hK
  iterate 3 refine e0 ?_
  refine eB (decide (((m:Int))<((n_h0:Int)))) (fun b1 hb1=>?_);refine sxEnd (fun W2 hK=>?_)
  cases b1
  . --
   have q_b1:=nlt hb1;have hme:m=l.length:=(by omega);rw[hme,List.take_length]at hK;clear hme;go_wp2
   try go_ret
   show Q0 (.returned (.slice p n c)) _
   exact(qo hQ0 ⟨⟨p,n,c⟩,rfl,hK⟩)
  have q_b1:=ylt hb1;have i3:m<n_h0:=(by omega);obtain⟨g3,o3,rfl⟩:=hh0.pt i3;have l3:m<l.length:=Nat.lt_of_lt_of_eq i3 (hh0.one0);obtain⟨x,ex⟩:=gtH l3;obtain⟨_,_,_,x_c,x_r⟩:=hh0.ref ex.out;obtain⟨rfl,⟨x_p,x_n,x_d,rfl⟩,x_q,x_m,x_e,rfl⟩:=refR_cells x_r;go_upto_region 5 with(fail);refine wp_region_T [0,0,0,0,1,2,0,0,0,3,4,0] hK ?_;clear hK
  iterate 3 refine e0 ?_
  refine eRm3 (fun w k=>x_c.below k.old) ?_;refine eQ (fun w k=>rtext_q _ _ w (x_r.below k.old) (hl x (List.mem_of_getElem? ex.out)) (by decide)) ?_;refine eC (fun w k=>rat2_S (qparse_back x w (hB.below k.old) (hl x (List.mem_of_getElem? ex.out)))) (fun x4=>?_);obtain⟨⟨p5,l5,c5⟩,⟨q5,u5,d5⟩⟩:=x4;dsimp only
  iterate 3 refine e0 ?_
  refine eA (.cells #[.bool false,.slice none 0 0,.slice none 0 0] 70) (fun R6=>?_);refine eP 0 0 [.bool (isN (x)),.slice p5 l5 c5,.slice q5 u5 d5] ?_ (hq:=.inr ⟨rfl,rfl,trivial⟩);refine e0 ?_;refine sxEnd (fun W7 hK=>?_);go_upto_region 6 with(fail);refine wp_region_T [0,1,3,5,0] hK ?_;clear hK;refine e0 ?_;refine eL m0 ?_;refine eA (.cells #[.bool (isN (x)),.slice p5 l5 c5,.slice q5 u5 d5] 70) (fun R8=>?_);refine eAppK 2 ratK_hd rfl 3 h_e.out rfl infoQ (fun w k=>k.one1 (K:=ratK) (x:=x) m0 ⟨_,_,_,rfl,k.q m2⟩) (by rw[take_len (by omega)];simp;omega) (fun x9=>?_);obtain⟨p9,n9,c9⟩:=x9;dsimp only;refine e0 ?_;refine sxEnd (fun W10 hK=>?_);rw[show(l.take m)++[x]=l.take (m+1)from(take_snoc ex.out)]at hK
  (try go_wp2)
  go_roundw
  case rel=>exact⟨m+1,p9,n9,c9,(by first|rfl|go_num),(by first|rfl|go_num),(by omega),hid (fun e=>absurd (congrArg List.length e) (by rw[take_len (by omega)];simp)),(hK.subl (sC2 (sC2 (sC2 (sR)))))⟩
  case measure=>simp[intOf]<;>omega
set_option maxRecDepth 100000 in
theorem back_any(w:World){p_h0:Option Addr}{n_h0 c_h0:Nat}{l:List Rat}(hh0:SlV ratK w (.slice p_h0 n_h0 c_h0) l)(hB:Bas w)(hl:LmL 50 l)(hn:l.length<=100000):
    Calls Tryz.prog 67 #[.slice p_h0 n_h0 c_h0] w fun e w'=> ∃s:Sl,e=.returned (.slice s.p s.l s.c)/\SS w [rO refK 34 s.p s.l s.c l] w':=by
  have hK:=SS.start w;have⟨n1,n2⟩:=lle hh0.one0;refine Calls.hide (fun Q0 hQ0=>?_);go_enter Tryz.func67,Tryz.ntmps67;replace hK:=hK.fact (rO refK 34 none 0 0 (l.take 0)) OwV.nil (fun _ h=>by cases h);go_wp2_with fail;go_loopw [3,4] (fun s3 s4 wl=> ∃(m:Nat) (p:Option Addr) (n:Nat) (c:Nat),s3=.slice p n c/\s4=.int .i64 (m:Int)/\(m<=l.length)/\Hid (l.take m=[]->p=none)/\SS w ([rO refK 34 p n c (l.take m)]) wl) (fun s3 s4 _=>n_h0-(intOf s4).toNat)
  case atStart=>exact⟨0,none,0,0,rfl,rfl,(by omega),hid (fun _=>rfl),hK⟩
  clear hK;obtain⟨m,p,n,c,rfl,rfl,hm0,h_e,hK⟩:=hrel;generalize wr=W1 at hK⊢;go_upto_region 3 with(fail);refine wp_region_T [0,0,0,0] hK ?_;clear hK
  iterate 3 refine e0 ?_
  refine eB (decide (((m:Int))<((n_h0:Int)))) (fun b1 hb1=>?_);refine sxEnd (fun W2 hK=>?_)
  cases b1
  . --
   have q_b1:=nlt hb1;have hme:m=l.length:=(by omega);rw[hme,List.take_length]at hK;clear hme;go_wp2
   try go_ret
   show Q0 (.returned (.slice p n c)) _
   exact(qo hQ0 ⟨⟨p,n,c⟩,rfl,hK⟩)
  have q_b1:=ylt hb1;have i3:m<n_h0:=(by omega);obtain⟨g3,o3,rfl⟩:=hh0.pt i3;have l3:m<l.length:=Nat.lt_of_lt_of_eq i3 (hh0.one0);obtain⟨x,ex⟩:=gtH l3;obtain⟨_,_,_,x_c,x_r⟩:=hh0.rat ex.out;obtain⟨rfl,⟨x_p,x_n,x_d,rfl⟩,x_q,x_m,x_e,rfl⟩:=ratV_cells' x_r;go_upto_region 5 with(fail);refine wp_region_T [0,0,0,0,0,1,2,3,5,0] hK ?_;clear hK
  iterate 4 refine e0 ?_
  refine eRm3 (fun w k=>x_c.below k.old) ?_;refine eQ (fun w k=>qtext_q _ _ w (x_r.below k.old) (hB.below k.old) (hl x (List.mem_of_getElem? ex.out)) (by decide)) ?_;refine eC (fun w k=>rfrom_any w (hl x (List.mem_of_getElem? ex.out))) (fun x4=>?_);obtain⟨⟨p5,l5,c5⟩,⟨q5,u5,d5⟩⟩:=x4;dsimp only;refine eA (.cells #[.bool (isN (x)),.slice p5 l5 c5,.slice q5 u5 d5] 34) (fun R6=>?_);refine eAppK 2 refK_hd rfl 2 h_e.out rfl infoR (fun w k=>k.one1 (K:=refK) (x:=x) m0 ⟨_,_,_,rfl,k.rq m1⟩) (by rw[take_len (by omega)];simp;omega) (fun x7=>?_);obtain⟨p7,n7,c7⟩:=x7;dsimp only;refine e0 ?_;refine sxEnd (fun W8 hK=>?_);rw[show(l.take m)++[x]=l.take (m+1)from(take_snoc ex.out)]at hK
  (try go_wp2)
  go_roundw
  case rel=>exact⟨m+1,p7,n7,c7,(by first|rfl|go_num),(by first|rfl|go_num),(by omega),hid (fun e=>absurd (congrArg List.length e) (by rw[take_len (by omega)];simp)),(hK.subl (sC2 (sC2 (sR))))⟩
  case measure=>simp[intOf]<;>omega
end
section
theorem take_snocA{l:List (List Rat)}{m:Nat}{x:List Rat}(h:l[m]?=some x):l.take m++[x]=l.take (m+1):=by rw[List.take_add_one,h];rfl
set_option maxRecDepth 100000 in
set_option maxHeartbeats 400000 in
theorem program_any(w:World){cp ap bp:Option Addr}{cl cc al ac bl bc:Nat}{P:LPd}(hC:SlV refK w (.slice cp cl cc) P.c)(hA:SlV rfK w (.slice ap al ac) P.A)(hB:SlV refK w (.slice bp bl bc) P.b)(hBs:Bas w)(hm:LmP 50 P)(hP:P.Ok):
    Calls Tryz.prog 25 #[.agg #[.slice cp cl cc,.slice ap al ac,.slice bp bl bc]] w fun e w'=> ∃z:PgR,e=.returned z.v/\SS w [pgF ratK 70 56 z P] w':=by
  have hK:=SS.start w;have⟨nc1,nc2⟩:=lle hC.one0;have⟨na1,na2⟩:=lle hA.one0;have⟨nb1,nb2⟩:=lle hB.one0;have hm1:=hm.n;have hm2:=hm.m;have hb9:=hid hP.hb;have hbl:P.b.length<=12:=by rw[hP.hb];exact hm2
  have hlr:∀a∈P.A,a.length<=12:=fun a ha=>by rw[hP.ha a ha];exact hm1
  refine Calls.hide (fun Q0 hQ0=>?_);go_enter Tryz.func25,Tryz.ntmps25;go_upto_region 0 with(fail);refine wp_region_T [3,3] hK ?_;clear hK;refine eA (.cells #[.slice cp cl cc,.slice ap al ac,.slice bp bl bc] 29) (fun R1=>?_);refine eA (.cells #[.slice none 0 0,.slice none 0 0,.slice none 0 0] 59) (fun R2=>?_);refine sxEnd (fun W3 hK=>?_);go_upto_region 1 with(fail);refine wp_region_S _ [0,0,2,0,0,2,0,3,4] hK ?_ (sR);clear hK;refine e0 ?_;refine eL0 m1 ?_;refine eC (fun w k=>numbers_any w (hC.below k.old) (hBs.below k.old) hm.c (by omega)) (fun x4=>?_);obtain⟨px4,lx4,cx4⟩:=x4;dsimp only;refine e0 ?_;refine eL0 m1 ?_;refine eC (fun w k=>numbers_any w (hB.below k.old) (hBs.below k.old) hm.b (by omega)) (fun x5=>?_);obtain⟨px5,lx5,cx5⟩:=x5;dsimp only;refine e0 ?_;refine eA (.cells #[.slice none 0 0,.slice none 0 0,.slice none 0 0] 59) (fun R6=>?_);refine eP 0 0 [.slice px4 lx4 cx4,.slice none 0 0,.slice px5 lx5 cx5] ?_ (hs:=(sC2 (sC2 (sC2 (sR))))) (hq:=.inr ⟨rfl,rfl,rfl,rfl,trivial⟩);refine sxEnd (fun W7 hK=>?_);replace hK:=hK.fact (rO slcQ 56 none 0 0 ([]:List Sl)) OwV.nil (fun _ h=>by cases h);replace hK:=hK.rs0 ratK 70;go_wp2_with fail;go_loopw [4] (fun s4 wl=> ∃(m:Nat) (pa:Option Addr) (na:Nat) (ca:Nat) (ss:List Sl),s4=.int .i64 (m:Int)/\(m<=P.A.length)/\Hid (ss.length=(P.A.take m).length)/\Hid (ss=[]->pa=none)/\SS w ([rsF ratK 70 ss (P.A.take m),rO slcQ 56 pa na ca ss,bx R6 (.cells #[.slice px4 lx4 cx4,.slice pa na ca,.slice px5 lx5 cx5] 59),rO ratK 70 px5 lx5 cx5 P.b,rO ratK 70 px4 lx4 cx4 P.c,bx R2 (.cells #[.slice none 0 0,.slice none 0 0,.slice none 0 0] 59),bx R1 (.cells #[.slice cp cl cc,.slice ap al ac,.slice bp bl bc] 29)]) wl) (fun s4 _=>al-(intOf s4).toNat)
  case atStart=>exact⟨0,none,0,0,[],rfl,(by omega),hid rfl,hid (fun _=>rfl),hK⟩
  clear hK;obtain⟨m,pa,na,ca,ss,rfl,hm0,h_l,h_a,hK⟩:=hrel;generalize wr=W8 at hK⊢;go_upto_region 3 with(fail);refine wp_region_T [0,0,1,0,0] hK ?_;clear hK
  iterate 2 refine e0 ?_
  refine eL m6 ?_;refine e0 ?_;refine eB (decide (((m:Int))<((al:Int)))) (fun b1 hb1=>?_);refine sxEnd (fun W9 hK=>?_)
  cases b1
  . --
   have q_b1:=nlt hb1;go_upto_region 6 with(fail);refine wp_region_T [1,4] hK ?_;clear hK;refine eL m2 ?_;refine eP 5 0 [.slice px4 lx4 cx4,.slice pa na ca,.slice px5 lx5 cx5] ?_ (hq:=.inr ⟨rfl,rfl,rfl,rfl,rfl,rfl,trivial⟩);refine sxEnd (fun W10 hK=>?_);have hme:m=P.A.length:=(by omega);rw[hme,List.take_length]at hK h_l;clear hme;have hl9:=h_l.out;have⟨c90,c91,c92⟩:=(hK.box m5).c3;replace hK:=hK.subl (sK2 (sK2 (sC2 (sK2 (sK2 (sC2 (sC2 sZ2)))))));replace hK:=hK.up2;replace hK:=hK.up1;replace hK:=hK.up2;replace hK:=hK.up3;go_wp2;exact bodyPost_ret (v:=.agg #[.slice px4 lx4 cx4,.slice pa na ca,.slice px5 lx5 cx5]) (by simp[results,Tryz.results25,go_sem,c90,c91,c92]) rfl (qo hQ0 ⟨⟨⟨px4,lx4,cx4⟩,⟨pa,na,ca⟩,⟨px5,lx5,cx5⟩,ss⟩,rfl,SS.star.2 (hK.fact (cF (ss.length=P.A.length)) hl9)⟩)
  have q_b1:=ylt hb1;have i11:m<al:=(by omega);obtain⟨g11,o11,rfl⟩:=hA.pt i11;have l11:m<P.A.length:=Nat.lt_of_lt_of_eq i11 (hA.one0);obtain⟨a,ea⟩:=gtH l11;obtain⟨⟨a_p,a_l,a_c⟩,a_h,a_s⟩:=hA.row ea.out;dsimp only at a_h a_s;have a_n:=hid a_s.one0;have⟨a_n1,a_n2⟩:=lle a_n.out;have hla:=hid (hlr a (List.mem_of_getElem? ea.out));go_upto_region 5 with(fail);refine wp_region_S _ [0,1,0,0,0,0,0,2,3,5,0,4] hK ?_ (sK2 (sC2 (sC2 (sR))));clear hK;refine e0 ?_;refine eL m2 ?_;refine e0 ?_;refine eL0 m4 ?_
  iterate 2 refine e0 ?_
  refine eR0 (fun w k=>celB a_h k.old) ?_;refine eC (fun w k=>numbers_any w (a_s.below k.old) (hBs.below k.old) (hm.a _ (List.mem_of_getElem? ea.out)) (by have q:=hlr a (List.mem_of_getElem? ea.out);omega)) (fun x12=>?_);obtain⟨px12,lx12,cx12⟩:=x12;dsimp only;refine eA (.cells #[.slice px12 lx12 cx12] 56) (fun R13=>?_);refine eAppK 3 slcR_hd rfl 3 h_a.out rfl infoSQ (fun w k=>k.one1 (K:=slcQ) (x:=⟨px12,lx12,cx12⟩) m0 rfl) (by rw[h_l.out,List.length_take];simp;omega) (fun x14=>?_) (hs:=fun _=>(sC2 (sC2 (sK2 (sC2 (sC2 (sR)))))));obtain⟨p14,n14,c14⟩:=x14;dsimp only;refine e0 ?_;refine eP 4 1 [.slice p14 n14 c14] ?_ (hs:=(sC2 (sC2 (sK2 (sC2 (sC2 (sR))))))) (hq:=.inr ⟨rfl,rfl,rfl,rfl,rfl,rfl,rfl,rfl,trivial⟩);refine sxEnd (fun W15 hK=>?_);replace hK:=hK.up2;replace hK:=hK.up2;replace hK:=SS.rsN (s:=⟨px12,lx12,cx12⟩) (xs:=a) hK h_l.out;rw[show(P.A.take m)++[a]=P.A.take (m+1)from(take_snocA ea.out)]at hK
  (try go_wp2)
  go_roundw
  case rel=>exact⟨m+1,p14,n14,c14,ss++[⟨px12,lx12,cx12⟩],(by first|rfl|go_num),(by omega),hid (by rw[List.length_append,h_l.out,List.length_take,List.length_take];show min m _+1=_;omega),hid (fun e=>absurd (congrArg List.length e) (by simp)),(hK.subl (sK2 (sC2 (sR))))⟩
  case measure=>simp[intOf]<;>omega
set_option maxRecDepth 100000 in
set_option maxHeartbeats 400000 in
theorem result_any(w:World){R:LpRes}{xp yp rp dp ep:Option Addr}{xl xc yl yc rl rc dl dc el ec:Nat}(hB:Bas w)(hX:SlV ratK w (.slice xp xl xc) R.x)(hY:SlV ratK w (.slice yp yl yc) R.y)(hR:SlV ratK w (.slice rp rl rc) R.r)(hZ:RatV w (.agg #[.bool (isN R.z),.slice dp dl dc,.slice ep el ec]) R.z)(hmx:LmL 50 R.x)(hmy:LmL 50 R.y)(hmr:LmL 50 R.r)(hmz:LmQ 50 R.z)(hnx:R.x.length<=100000)(hny:R.y.length<=100000)(hnr:R.r.length<=100000):
    Calls Tryz.prog 36 #[.agg #[.int .i64 R.k,.slice xp xl xc,.slice yp yl yc,.slice rp rl rc,.bool (isN R.z),.slice dp dl dc,.slice ep el ec]] w fun e w'=> ∃a:RsS,e=.returned (a.v R)/\SS w [rsR a R] w':=by
  have hK:=SS.start w;refine Calls.hide (fun Q0 hQ0=>?_);go_enter Tryz.func36,Tryz.ntmps36;go_upto_region 0 with(fail);refine wp_region_T [3,3] hK ?_;clear hK;refine eA (.cells #[.int .i64 R.k,.slice xp xl xc,.slice yp yl yc,.slice rp rl rc,.bool (isN R.z),.slice dp dl dc,.slice ep el ec] 80) (fun R1=>?_);refine eA (.cells #[.int .i64 0,.slice none 0 0,.slice none 0 0,.slice none 0 0,.bool false,.slice none 0 0,.slice none 0 0] 36) (fun R2=>?_);refine sxEnd (fun W3 hK=>?_);go_upto_region 1 with(fail);refine wp_region_S _ [0,0,0,0,2,0,0,2,0,0,2,0,0,1,2,0,4] hK ?_ (sC2 (sR));clear hK;refine e0 ?_;refine eL0 m0 ?_;refine e0 ?_;refine eL0 m0 ?_;refine eC (fun w k=>back_any w (hX.below k.old) (hB.below k.old) hmx hnx) (fun x4=>?_);obtain⟨px4,lx4,cx4⟩:=x4;dsimp only;refine e0 ?_;refine eL0 m0 ?_;refine eC (fun w k=>back_any w (hY.below k.old) (hB.below k.old) hmy hny) (fun x5=>?_);obtain⟨px5,lx5,cx5⟩:=x5;dsimp only;refine e0 ?_;refine eL0 m0 ?_;refine eC (fun w k=>back_any w (hR.below k.old) (hB.below k.old) hmr hnr) (fun x6=>?_);obtain⟨px6,lx6,cx6⟩:=x6;dsimp only;refine e0 ?_;refine eL0 m0 ?_;refine eQ (fun w k=>qtext_q _ _ w (hZ.below k.old) (hB.below k.old) hmz (by decide)) ?_;refine eC (fun w k=>rfrom_any w hmz) (fun x7=>?_);obtain⟨⟨p8,l8,c8⟩,⟨q8,u8,d8⟩⟩:=x7;dsimp only;refine e0 ?_;refine eZ 4 0 [.int .i64 R.k,.slice px4 lx4 cx4,.slice px5 lx5 cx5,.slice px6 lx6 cx6,.bool (isN (R.z)),.slice p8 l8 c8,.slice q8 u8 d8] ?_ (hs:=(sC2 (sC2 (sC2 (sC2 (sC2 (sR)))))));refine sxEnd (fun W9 hK=>?_);have⟨c90,c91,c92,c93,c94,c95,c96⟩:=(hK.box m4).c7;replace hK:=hK.subl (sK2 (sK2 (sK2 (sK2 (sC2 (sC2 sZ2))))));replace hK:=hK.up1;replace hK:=hK.up2;replace hK:=hK.up3;go_wp2;exact bodyPost_ret (v:=.agg #[.int .i64 R.k,.slice px4 lx4 cx4,.slice px5 lx5 cx5,.slice px6 lx6 cx6,.bool (isN (R.z)),.slice p8 l8 c8,.slice q8 u8 d8]) (by simp[results,Tryz.results36,go_sem,c90,c91,c92,c93,c94,c95,c96]) rfl (qo hQ0 ⟨⟨⟨px4,lx4,cx4⟩,⟨px5,lx5,cx5⟩,⟨px6,lx6,cx6⟩,⟨p8,l8,c8⟩,⟨q8,u8,d8⟩⟩,rfl,SS.star.2 hK⟩)
end
section
instance :Nonempty LpRes:=⟨⟨0,[],[],[],0⟩⟩
def lpl(a:RsS)(R:LpRes):List Ft:=[rO ratK 70 a.x.p a.x.l a.x.c R.x,rO ratK 70 a.y.p a.y.l a.y.c R.y,rO ratK 70 a.r.p a.r.l a.r.c R.r,qF (.agg #[.bool (isN R.z),.slice a.d.p a.d.l a.d.c,.slice a.e.p a.e.l a.e.c]) R.z]
theorem lpl_ln{a:RsS}{R:LpRes}:∀f∈lpl a R,∀n,f.ln.contains n=true->([0]:List Nat).contains n=true:=fun f hf n hn=>by
  unfold lpl at hf;simp only[List.mem_cons,List.not_mem_nil,or_false]at hf
  rcases hf with rfl|rfl|rfl|rfl<;>exact hn
def lpR(a:RsS)(R:LpRes):Ft:=stF [0] (lpl a R) lpl_ln
instance {a:RsS}{R:LpRes}:Zs (lpR a R):=.of rfl
section
variable {V w:World}{l:List Ft}{a:RsS}{R:LpRes}{P:LPd}{X k:Nat}
theorem SS.lp(h:SS V l w)(hm:lpR a R∈l):SlV ratK w (.slice a.x.p a.x.l a.x.c) R.x/\SlV ratK w (.slice a.y.p a.y.l a.y.c) R.y/\SlV ratK w (.slice a.r.p a.r.l a.r.c) R.r/\RatV w (.agg #[.bool (isN R.z),.slice a.d.p a.d.l a.d.c,.slice a.e.p a.e.l a.e.c]) R.z:=by
  obtain⟨h1,_⟩:=h.get hm;have h2:OwV ratK _ 0 w (.slice a.x.p a.x.l a.x.c) R.x:=h1 _ m0;have h3:OwV ratK _ 0 w (.slice a.y.p a.y.l a.y.c) R.y:=h1 _ m1;have h4:OwV ratK _ 0 w (.slice a.r.p a.r.l a.r.c) R.r:=h1 _ m2;exact⟨h2.slv,h3.slv,h4.slv,h1 _ m3⟩
theorem smL{l:List Rat}(h:∀c∈l,SmX X c)(hX:X<B32^k):LmL k l:=fun c hc=>sml_lm (h c hc) hX
theorem pow_up{a b:Nat}(h:X<B32^a)(hab:a<=b):X<B32^b:=Nat.lt_of_lt_of_le h (Nat.pow_le_pow_right (by decide) hab)
theorem limP_of(hP:P.Ok)(hm:LmP 50 P)(hS:LimS X P)(hX:X<B32^50):LimP P:=
  have hX3:=pow_up (b:=300) hX (by decide)
  ⟨hm.b.up (by decide),fun h=>LmK.of hS hX3 (init_lst hP (.inl ⟨rfl,h⟩)) (Alike.refl _),fun _=>⟨X,hX3,hS⟩⟩
theorem cert_len(h:CertR P R)(hm:LmP 50 P):R.x.length<=100000/\R.y.length<=100000/\R.r.length<=100000:=by
  have h1:=hm.n;have h2:=hm.m
  rcases h with⟨_,h,e1⟩|⟨_,h,e1,e2,_⟩|⟨_,h,e1,_⟩
  . rw[h.xl,h.yl,e1];simp;omega
  . rw[e1,h.yl,e2];simp;omega
  rw[h.xl,h.rl,e1];simp;omega
variable {cp ap bp:Option Addr}{cl cc al ac bl bc:Nat}
theorem solve_ok(w:World)(hC:SlV ratK w (.slice cp cl cc) P.c)(hA:SlV rrK w (.slice ap al ac) P.A)(hB:SlV ratK w (.slice bp bl bc) P.b)(hv:vldP P=true)(hm:LmP 50 P)(hS:LimS X P)(hX:X<B32^50):
    Calls Tryz.prog 33 #[.agg #[.slice cp cl cc,.slice ap al ac,.slice bp bl bc]] w fun e w'=> ∃a:Duo RsS LpRes,e=.returned (.tuple #[a.a.v a.b,.int .i64 0])/\SS w [cF (CertR P a.b/\SmR X a.b),lpR a.a a.b] w':=by
  have hP:=vld_ok hv;refine(solve_any w hC hA hB (by have:=hm.n;omega) (by have:=hm.m;omega) (by rw[hP.hb];have:=hm.m;omega) (fun _=>limP_of hP hm hS hX) (fun _=>hm.c.up (by decide))).mono fun e w' ⟨a,e1,h⟩=>?_
  rcases h.get m0 with⟨h1,_⟩|⟨_,h2,h3,h4⟩
  . rw[hv]at h1;cases h1
  refine⟨⟨⟨a.x,a.y,a.r,a.d,a.e⟩,a.R⟩,by rw[e1,h2];rfl,?_⟩;have h5:SS w (lpl ⟨a.x,a.y,a.r,a.d,a.e⟩ a.R++[]) w':=h.subl (List.sublist_cons_self ..);exact(SS.star.2 h5).fact (cF _) ⟨h3,h4 X hS⟩
theorem result_ok(w:World)(hB:Bas w)(hm:LmP 50 P)(hX:X<B32^50)(h:CertR P R/\SmR X R)(hr:SlV ratK w (.slice a.x.p a.x.l a.x.c) R.x/\SlV ratK w (.slice a.y.p a.y.l a.y.c) R.y/\SlV ratK w (.slice a.r.p a.r.l a.r.c) R.r/\RatV w (.agg #[.bool (isN R.z),.slice a.d.p a.d.l a.d.c,.slice a.e.p a.e.l a.e.c]) R.z):
    Calls Tryz.prog 36 #[a.v R] w fun e w'=> ∃b:RsS,e=.returned (b.v R)/\SS w [rsR b R] w':=
  have hl:=cert_len h.1 hm
  result_any w hB hr.1 hr.2.1 hr.2.2.1 hr.2.2.2 (smL h.2.x hX) (smL h.2.y hX) (smL h.2.r hX) (sml_lm h.2.z hX) hl.1 hl.2.1 hl.2.2
theorem acc_any(w:World)(hC:SlV refK w (.slice cp cl cc) P.c)(hA:SlV rfK w (.slice ap al ac) P.A)(hB:SlV refK w (.slice bp bl bc) P.b)(hv:vldP P=true)(hm:LmP 50 P)(hX:X<B32^50)(h:CertR P R/\SmR X R)(hr:SlV refK w (.slice a.x.p a.x.l a.x.c) R.x/\SlV refK w (.slice a.y.p a.y.l a.y.c) R.y/\SlV refK w (.slice a.r.p a.r.l a.r.c) R.r/\RefR w (.agg #[.bool (isN R.z),.slice a.d.p a.d.l a.d.c,.slice a.e.p a.e.l a.e.c]) R.z):
    Calls Tryz.prog 37 #[.agg #[.slice cp cl cc,.slice ap al ac,.slice bp bl bc],a.v R] w fun e w'=>e=.returned (.bool true)/\Below w.heap.size w w':=by
  have hP:=vld_ok hv;obtain⟨hc,hs⟩:=h;obtain⟨r1,r2,r3,r4⟩:=hr;have lx:=smL hs.x hX;have ly:=smL hs.y hX;have lr:=smL hs.r hX;have lz:=sml_lm hs.z hX;unfold RsS.v
  rcases hc with⟨hk,ho,h0⟩|⟨hk,hi,hx0,hr0,hz⟩|⟨hk,hu,hy0,hz⟩
  . rw[hk];exact acc1_any w hC hA hB (by decide) hm hP r1 r2 r3 r4 (by decide) hv lx ly lr lz ho.xl ho.yl (by rw[h0];rfl) ho.fea ho.cov ho.cx ho.yb
  . rw[hk];exact acc2_any w hC hA hB (by decide) hm hP r1 r2 r3 r4 (by decide) hv lx ly lr lz hi.yl (by rw[hx0];rfl) (by rw[hr0];rfl) (by rw[hC.one0];exact hi.cov) hi.yb hz
  rw[hk];exact acc3_any w hC hA hB (by decide) hm hP r1 r2 r3 r4 (by decide) hv lx ly lr lz hu.xl hu.rl (by rw[hy0];rfl) hu.fea (nn_iff.2 hu.r0) (fal_iff.2 hu.ar) hu.cr hz
end
theorem fra8{z:Int}(h:Rng8 z):Fra 1 128 ((z:Int):Rat):=⟨z,by obtain⟨h1,h2⟩:=h;omega,by grind⟩
theorem ofSm_fr{s:Sm}(h:s.Ok):FrP 1 128 (ofSm s):=by
  have key:∀{l:List Int} {f k:Nat},(∀z∈l,Rng8 z)-> ∀e∈atL l f k,Fra 1 128 e:=fun hl e he=>by
    obtain⟨i,_,rfl⟩:=List.mem_map.1 he;exact fra8 (atI_rng hl _)
  refine⟨⟨by decide,by decide⟩,key h.c,fun r hr=>?_,key h.b⟩;obtain⟨i,_,rfl⟩:=List.mem_map.1 hr;exact key h.a
def X5:Nat:=bdN 5 128
theorem X5_lt:X5<B32^50:=by decide
theorem ofSm_lims{s:Sm}(h:s.Ok):LimS X5 (ofSm s):=by
  have h2:=ofM_le s;have hn:(ofSm s).A.length<=5:=by rw[ofSm_m];exact h2
  exact⟨fun _ hs ha=>(ofSm_fr h).small (ofSm_ok s) (.inl hn) hs ha,fun _ hs ha=>(ofSm_fr h).smallA (ofSm_ok s) (.inl hn) hs ha⟩
end
section
set_option maxRecDepth 100000 in
set_option maxHeartbeats 400000 in
theorem lsolve_any(w:World){X:Nat}{cp ap bp:Option Addr}{cl cc al ac bl bc:Nat}{P:LPd}(hC:SlV refK w (.slice cp cl cc) P.c)(hA:SlV rfK w (.slice ap al ac) P.A)(hB:SlV refK w (.slice bp bl bc) P.b)(hBs:Bas w)(hv:vldP P=true)(hm:LmP 50 P)(hS:LimS X P)(hX:X<B32^50):
    Calls Tryz.prog 13 #[.agg #[.slice cp cl cc,.slice ap al ac,.slice bp bl bc]] w fun e w'=> ∃x:Duo RsS LpRes,e=.returned (.tuple #[x.a.v x.b,.bool true])/\SS w [cF (CertR P x.b/\SmR X x.b),rsR x.a x.b] w':=by
  have hK:=SS.start w;have⟨nc1,nc2⟩:=lle hC.one0;have⟨na1,na2⟩:=lle hA.one0;have⟨nb1,nb2⟩:=lle hB.one0;have hP:=vld_ok hv;refine Calls.hide (fun Q0 hQ0=>?_);go_enter Tryz.func13,Tryz.ntmps13;go_upto_region 0 with(fail);refine wp_region_T [3,3,0] hK ?_;clear hK;refine eA (.cells #[.slice cp cl cc,.slice ap al ac,.slice bp bl bc] 29) (fun R1=>?_);refine eA (.cells #[.int .i64 0,.slice none 0 0,.slice none 0 0,.slice none 0 0,.bool false,.slice none 0 0,.slice none 0 0] 36) (fun R2=>?_);refine e0 ?_;refine sxEnd (fun W3 hK=>?_);go_upto_region 1 with(fail);refine wp_region_T [1,2,2,0,0,0,3,4,0] hK ?_;clear hK;refine eL m1 ?_;refine eC (fun w k=>program_any w (hC.below k.old) (hA.below k.old) (hB.below k.old) (hBs.below k.old) hm hP) (fun x4=>?_);obtain⟨⟨g5cp,g5cl,g5cc⟩,⟨g5ap,g5al,g5ac⟩,⟨g5bp,g5bl,g5bc⟩,g5s⟩:=x4;dsimp only[PgR.v];refine eC (fun w k=>solve_ok w (k.pg m0).1 (k.pg m0).2.1 (k.pg m0).2.2 hv hm hS hX) (fun x6=>?_);obtain⟨⟨⟨s7xp,s7xl,s7xc⟩,⟨s7yp,s7yl,s7yc⟩,⟨s7rp,s7rl,s7rc⟩,⟨s7dp,s7dl,s7dc⟩,⟨s7ep,s7el,s7ec⟩⟩,Rs7⟩:=x6;dsimp only[RsS.v]
  iterate 3 refine e0 ?_
  refine eA (.cells #[.int .i64 0,.slice none 0 0,.slice none 0 0,.slice none 0 0,.bool false,.slice none 0 0,.slice none 0 0] 80) (fun R8=>?_);refine eZ 0 0 [.int .i64 Rs7.k,.slice s7xp s7xl s7xc,.slice s7yp s7yl s7yc,.slice s7rp s7rl s7rc,.bool (isN Rs7.z),.slice s7dp s7dl s7dc,.slice s7ep s7el s7ec] ?_;refine e0 ?_;refine sxEnd (fun W9 hK=>?_);go_upto_region 2 with(fail);refine wp_region_T [1,2,3,4] hK ?_;clear hK;refine eL m0 ?_;refine eC (fun w k=>result_ok (a:=⟨⟨s7xp,s7xl,s7xc⟩,⟨s7yp,s7yl,s7yc⟩,⟨s7rp,s7rl,s7rc⟩,⟨s7dp,s7dl,s7dc⟩,⟨s7ep,s7el,s7ec⟩⟩) w (hBs.below k.old) hm hX (k.get m1) (k.lp m2)) (fun x10=>?_);obtain⟨⟨t11xp,t11xl,t11xc⟩,⟨t11yp,t11yl,t11yc⟩,⟨t11rp,t11rl,t11rc⟩,⟨t11dp,t11dl,t11dc⟩,⟨t11ep,t11el,t11ec⟩⟩:=x10;dsimp only[RsS.v];refine eA (.cells #[.int .i64 0,.slice none 0 0,.slice none 0 0,.slice none 0 0,.bool false,.slice none 0 0,.slice none 0 0] 36) (fun R12=>?_);refine eZ 0 0 [.int .i64 Rs7.k,.slice t11xp t11xl t11xc,.slice t11yp t11yl t11yc,.slice t11rp t11rl t11rc,.bool (isN Rs7.z),.slice t11dp t11dl t11dc,.slice t11ep t11el t11ec] ?_;refine sxEnd (fun W13 hK=>?_);go_upto_region 3 with(fail);refine wp_region_S _ [0,0,0,0,0,0,1,0,4,0] hK ?_ (sK2 (sK2 (sK2 (sK2 (sK2 (sK2 (sC2 (sR))))))));clear hK;refine eL0 m0 ?_
  iterate 3 refine e0 ?_
  refine eL0 m6 ?_;refine eL0 m0 ?_;refine eQ (fun w k=>acc_any (a:=⟨⟨t11xp,t11xl,t11xc⟩,⟨t11yp,t11yl,t11yc⟩,⟨t11rp,t11rl,t11rc⟩,⟨t11dp,t11dl,t11dc⟩,⟨t11ep,t11el,t11ec⟩⟩) w (hC.below k.old) (hA.below k.old) (hB.below k.old) hv hm hX (k.get m3) (k.rs m1)) ?_;refine e0 ?_;refine eZ 6 0 [.int .i64 Rs7.k,.slice t11xp t11xl t11xc,.slice t11yp t11yl t11yc,.slice t11rp t11rl t11rc,.bool (isN Rs7.z),.slice t11dp t11dl t11dc,.slice t11ep t11el t11ec] ?_ (hs:=(sK2 (sK2 (sK2 (sK2 (sK2 (sK2 (sC2 (sR)))))))));refine e0 ?_;refine sxEnd (fun W14 hK=>?_);have⟨c90,c91,c92,c93,c94,c95,c96⟩:=(hK.box m6).c7;replace hK:=hK.subl (sC2 (sK2 (sC2 (sK2 (sC2 (sC2 (sC2 (sC2 sZ2))))))));replace hK:=hK.up1;go_wp2;exact bodyPost_ret (v:=.tuple #[.agg #[.int .i64 Rs7.k,.slice t11xp t11xl t11xc,.slice t11yp t11yl t11yc,.slice t11rp t11rl t11rc,.bool (isN Rs7.z),.slice t11dp t11dl t11dc,.slice t11ep t11el t11ec],.bool true]) (by simp[results,Tryz.results13,go_sem,c90,c91,c92,c93,c94,c95,c96]) rfl (qo hQ0 ⟨⟨⟨⟨t11xp,t11xl,t11xc⟩,⟨t11yp,t11yl,t11yc⟩,⟨t11rp,t11rl,t11rc⟩,⟨t11dp,t11dl,t11dc⟩,⟨t11ep,t11el,t11ec⟩⟩,Rs7⟩,rfl,hK⟩)
end
section
instance (z:Int):Decidable (Rng8 z):=by unfold Rng8;infer_instance
theorem litV8{w:World}{R:Nat}{ty:TypeId}{vs:List Value}(xs:List Int)(h:Has 0 R (.cells vs.toArray ty) w)(e:vs=xs.map fun x=>.int .i8 x)(hl:xs.length<=9223372036854775807):SlV i8K w (.slice (some ⟨R,0,none⟩) xs.length xs.length) xs:=by
  refine⟨xs.map fun x=>[.int .i8 x],⟨by simp,fun k cs x h1 h2=>?_⟩,.inr ⟨R,0,_,rfl,h.ltS,Nat.le_refl _,hl,fun k cs j u c1 c2=>?_⟩⟩
  . rw[List.getElem?_map,h2]at h1
    cases h1;rfl
  rw[List.getElem?_map]at c1
  cases hx:xs[k]? with
  |none=>rw[hx]at c1;cases c1
  | some x=>
    rw[hx]at c1
    cases c1
    cases j with
    |succ j=>simp at c2
    | zero=>
      simp at c2;subst c2;rw[show 0+k*i8K.sz+0=k by show 0+k*1+0=k;omega];exact h.at k (by rw[e,List.getElem?_map,hx];rfl)
def awA:Sm:=⟨[1,1],[1,2,3,1],[4,6]⟩
def awB:Sm:=⟨[1,1],[-1,0],[-1]⟩
def awC:Sm:=⟨[1,1],[1,0, -1,0],[1, -2]⟩
theorem awA_ok:awA.Ok:=⟨by decide,by decide,by decide,by decide,by decide,by decide⟩
theorem awB_ok:awB.Ok:=⟨by decide,by decide,by decide,by decide,by decide,by decide⟩
theorem awC_ok:awC.Ok:=⟨by decide,by decide,by decide,by decide,by decide,by decide⟩
theorem cert_uni{P:LPd}{a b:LpRes}(hP:P.Ok)(ha:CertR P a)(hb:CertR P b):a.k=b.k/\a.z=b.z:=
  Over.same (f:=fun z=>z) ⟨fun x y _ h=>⟨x,y,h⟩,fun y h=>⟨y,h⟩,fun x r h=>⟨x,r,h⟩⟩ hP rfl ha hb
theorem awA_res(R:LpRes)(h:CertR (ofSm awA) R):R.k=1/\R.z=14/5:=
  cert_uni (b:=⟨1,[8/5,6/5],[2/5,1/5],[],14/5⟩) (ofSm_ok _) h ((acc_cert (ofSm_v _)).1 (by decide+kernel))
theorem awB_res(R:LpRes)(h:CertR (ofSm awB) R):R.k=3/\R.z=0:=
  cert_uni (b:=⟨3,[1,0],[],[1,0],0⟩) (ofSm_ok _) h ((acc_cert (ofSm_v _)).1 (by decide+kernel))
theorem awC_res(R:LpRes)(h:CertR (ofSm awC) R):R.k=2/\R.z=0:=
  cert_uni (b:=⟨2,[],[1,1],[],0⟩) (ofSm_ok _) h ((acc_cert (ofSm_v _)).1 (by decide+kernel))
theorem aw40_t:textQ (14/5:Rat)=[49,52,47,53]:=text_of (b:=false) (n:=14) (d:=5) (by decide+kernel) (by rw[dec_big (by decide),dec1 (by decide),dec1 (by decide)];rfl)
theorem aw40_l:LmQ 50 (14/5:Rat):=⟨by show _<_;decide+kernel,by show _<_;decide+kernel⟩
theorem aw_solve{s:Sm}{k:Int}{z:Rat}(w:World){cp ap bp:Option Addr}{cl cc al ac bl bc:Nat}(hC:SlV refK w (.slice cp cl cc) (ofSm s).c)(hA:SlV rfK w (.slice ap al ac) (ofSm s).A)(hB:SlV refK w (.slice bp bl bc) (ofSm s).b)(hBs:Bas w)(hs:s.Ok)(h:∀R,CertR (ofSm s) R->R.k=k/\R.z=z):
    Calls Tryz.prog 13 #[.agg #[.slice cp cl cc,.slice ap al ac,.slice bp bl bc]] w fun e w'=> ∃a:RsS,e=.returned (.tuple #[a.v ⟨k,[],[],[],z⟩,.bool true])/\SS w [rF (.agg #[.bool (isN z),.slice a.d.p a.d.l a.d.c,.slice a.e.p a.e.l a.e.c]) z] w':=
  (lsolve_any w hC hA hB hBs (ofSm_v s) (ofSm_lm hs 50 (by decide)) (ofSm_lims hs) X5_lt).mono fun e w' ⟨x,e1,h1⟩=>by
    obtain⟨hc,_⟩:=h1.get m0;obtain⟨hk,hz⟩:=h x.b hc;refine⟨x.a,by rw[e1];unfold RsS.v;rw[hk,hz],?_⟩;have h2:SS w (rsl x.a x.b++[]) w':=SS.star.1 (h1.subl (List.sublist_cons_self ..));rw[<-hz];exact h2.subl (.cons _ (.cons _ (.cons _ (sR))))
end
section
set_option maxRecDepth 100000 in
theorem rat_any(w:World){p_h0:Option Addr}{n_h0 c_h0:Nat}{l:List Int}(hh0:SlV i8K w (.slice p_h0 n_h0 c_h0) l)(i:Nat)(hr:∀z∈l,Rng8 z):
    Calls Tryz.prog 35 #[.slice p_h0 n_h0 c_h0,.int .i64 (i:Int)] w fun e w'=> ∃x:Duo Sl Sl,e=.returned (.agg #[.bool (isN (atI l i)),.slice x.a.p x.a.l x.a.c,.slice x.b.p x.b.l x.b.c])/\SS w [rF (.agg #[.bool (isN (atI l i)),.slice x.a.p x.a.l x.a.c,.slice x.b.p x.b.l x.b.c]) (atI l i)] w':=by
  have hK:=SS.start w;have⟨n1,n2⟩:=lle hh0.one0;refine Calls.hide (fun Q0 hQ0=>?_);go_enter Tryz.func35,Tryz.ntmps35;go_upto_region 0 with(fail);refine wp_region_T [3] hK ?_;clear hK;refine eA (.cells #[.bool false,.slice none 0 0,.slice none 0 0] 34) (fun R1=>?_);refine sxEnd (fun W2 hK=>?_);go_upto_region 1 with(fail);refine wp_region_T [0,0,0,0] hK ?_;clear hK
  iterate 3 refine e0 ?_
  refine eB (decide (((i:Int))<((n_h0:Int)))) (fun b1 hb1=>?_);refine sxEnd (fun W3 hK=>?_)
  cases b1
  . --
   have q_b1:=nlt hb1;go_upto_region 3 with(fail);refine wp_region_T [0,4] hK ?_;clear hK;refine e0 ?_;refine eP 0 0 [.bool false,.slice none 0 0,.slice none 0 0] ?_;refine sxEnd (fun W4 hK=>?_);replace hK:=hK.fact (rF (.agg #[.bool false,.slice none 0 0,.slice none 0 0]) (0:Rat)) (refR0 _);have hq0:=(refR_cells (hK.rq m0)).1;injection hq0 with hq0;have⟨c90,c91,c92⟩:=(hK.box m1).c3;rw[show(0:Rat)=atI l i from(by unfold atI;rw[List.getD,List.getElem?_eq_none (by have qb1:=hb1.out;(try simp at qb1);omega)];rfl)]at hK hq0;replace hK:=hK.subl (sK2 (sC2 sZ2));go_wp2;exact bodyPost_ret (v:=.agg #[.bool false,.slice none 0 0,.slice none 0 0]) (by simp[results,Tryz.results35,go_sem,c90,c91,c92]) rfl (by obtain rfl:=hQ0.out;rw[<-hq0];exact⟨⟨⟨none,0,0⟩,⟨none,0,0⟩⟩,rfl,hK⟩)
  have q_b1:=ylt hb1;have i5:i<n_h0:=(by have q:=of_decide_eq_true hb1.out;omega);obtain⟨g5,o5,rfl⟩:=hh0.pt i5;have l5:i<l.length:=Nat.lt_of_lt_of_eq i5 (hh0.one0);obtain⟨xk,exk⟩:=gtH l5;have qxk:=hr _ (List.mem_of_getElem? exk.out);unfold Rng8 at qxk;go_upto_region 2 with(fail);refine wp_region_T [0,0,0,0,0,2,4] hK ?_;clear hK
  iterate 3 refine e0 ?_
  refine eR0 (fun w k=>(hh0.below k.old).i8 exk.out) ?_;refine eV (.int .i64 xk) (fun w'=>by go_simp;(try go_bits);first|exact⟨rfl,rfl⟩|go_num) ?_;refine eC (fun w k=>ref_S (rint_q xk w (by omega) (by omega))) (fun x6=>?_);obtain⟨⟨p7,l7,c7⟩,⟨q7,u7,d7⟩⟩:=x6;dsimp only;refine eP 1 0 [.bool (isN (((xk:Int):Rat))),.slice p7 l7 c7,.slice q7 u7 d7] ?_ (hq:=.inr ⟨rfl,trivial⟩);refine sxEnd (fun W8 hK=>?_);have hq0:=(refR_cells (hK.rq m0)).1;injection hq0 with hq0;have⟨c90,c91,c92⟩:=(hK.box m1).c3;rw[show((xk:Int):Rat)=atI l i from(by unfold atI;rw[getD_of exk.out])]at hK hq0;replace hK:=hK.subl (sK2 (sC2 sZ2));go_wp2;exact bodyPost_ret (v:=.agg #[.bool (isN (atI l i)),.slice p7 l7 c7,.slice q7 u7 d7]) (by simp[results,Tryz.results35,go_sem,c90,c91,c92,show((xk:Int):Rat)=atI l i from(by unfold atI;rw[getD_of exk.out])]) rfl (qo hQ0 ⟨⟨⟨p7,l7,c7⟩,⟨q7,u7,d7⟩⟩,rfl,hK⟩)
set_option maxRecDepth 100000 in
set_option maxHeartbeats 400000 in
theorem smof_any(w:World){cp ap bp:Option Addr}{cl cc al ac bl bc:Nat}{s:Sm}(hs:s.Ok)(hC:SlV i8K w (.slice cp cl cc) s.c)(hA:SlV i8K w (.slice ap al ac) s.a)(hB:SlV i8K w (.slice bp bl bc) s.b):
    Calls Tryz.prog 12 #[.agg #[.slice cp cl cc,.slice ap al ac,.slice bp bl bc]] w fun e w'=> ∃z:PgR,e=.returned z.v/\SS w [pgF refK 34 26 z (ofSm s)] w':=by
  have hK:=SS.start w;have⟨nc1,nc2⟩:=lle hC.one0;have⟨na1,na2⟩:=lle hA.one0;have⟨nb1,nb2⟩:=lle hB.one0;have hn4:=ofN_le s;have hm5:=ofM_le s;have l1:=hs.cl;have l2:=hs.al;have l3:=hs.bl;refine Calls.hide (fun Q0 hQ0=>?_);go_enter Tryz.func12,Tryz.ntmps12;go_upto_region 0 with(fail);refine wp_region_T [3,3] hK ?_;clear hK;refine eA (.cells #[.slice cp cl cc,.slice ap al ac,.slice bp bl bc] 24) (fun R1=>?_);refine eA (.cells #[.slice none 0 0,.slice none 0 0,.slice none 0 0] 29) (fun R2=>?_);refine sxEnd (fun W3 hK=>?_);go_upto_region 1 with(fail);refine wp_region_T [3] hK ?_;clear hK;refine eA (.cells #[.slice none 0 0,.slice none 0 0,.slice none 0 0] 29) (fun R4=>?_);refine sxEnd (fun W5 hK=>?_);go_upto_region 2 with(fail);refine wp_region_S _ [0,0,0,0,0,0] hK ?_ (sR);clear hK;refine e0 ?_;refine eL0 m2 ?_;refine e0 ?_;refine eV (.int .i64 (ofM s:Int)) (fun w'=>by go_simp;(try go_bits);exact⟨congrArg _ (by unfold ofM;omega),rfl⟩) ?_
  iterate 2 refine e0 ?_
  refine sxEnd (fun W6 hK=>?_);go_upto_region 3 with(fail);refine wp_region_T [0,1,0,0] hK ?_;clear hK;refine e0 ?_;refine eL m2 ?_;refine e0 ?_;refine eB (decide (0<((cl:Int)))) (fun b1 hb1=>?_);refine sxEnd (fun W7 hK=>?_);go_upto_if 17 with(fail);go_cut [4]from 9999 to 9999 (fun s4 wl=>s4=.int .i64 (ofN s:Int)/\SS w ([bx R4 (.cells #[.slice none 0 0,.slice none 0 0,.slice none 0 0] 29),bx R2 (.cells #[.slice none 0 0,.slice none 0 0,.slice none 0 0] 29),bx R1 (.cells #[.slice cp cl cc,.slice ap al ac,.slice bp bl bc] 24)]) wl)
  case first=>
   cases b1
   . --
    have q_b1:=nlt hb1
    (try go_wp2)
    go_meet
    case rel=>exact⟨(congrArg (Value.int .i64) (by unfold ofN;rw[if_pos (by have qb1:=hb1.out;(try simp at qb1);omega)];rfl)),hK⟩
   have q_b1:=ylt hb1;go_upto_region 4 with(fail);refine wp_region_T [0,1,0,0,0] hK ?_;clear hK;refine e0 ?_;refine eL m2 ?_;refine e0 ?_;refine eV (.int .i64 (ofN s:Int)) (fun w'=>by go_simp;(try go_bits);exact⟨congrArg _ (by unfold ofN;rw[if_neg (by have q:=hb1.out;(try simp at q);omega)];omega),rfl⟩) ?_;refine e0 ?_;refine sxEnd (fun W8 hK=>?_)
   (try go_wp2)
   go_meet
   case rel=>exact⟨rfl,hK⟩
  clear hK;obtain⟨rfl,hK⟩:=hcut;generalize wc=W9 at hK⊢;replace hK:=hK.fact (rO refK 34 none 0 0 (atL s.c 0 0)) OwV.nil (fun _ h=>by cases h);go_wp2_with fail;go_loopw [6] (fun s6 wl=> ∃(m:Nat) (p:Option Addr) (n:Nat) (c:Nat),s6=.int .i64 (m:Int)/\(m<=ofN s)/\Hid (atL s.c 0 m=[]->p=none)/\SS w ([rO refK 34 p n c (atL s.c 0 m),bx R4 (.cells #[.slice p n c,.slice none 0 0,.slice none 0 0] 29),bx R2 (.cells #[.slice none 0 0,.slice none 0 0,.slice none 0 0] 29),bx R1 (.cells #[.slice cp cl cc,.slice ap al ac,.slice bp bl bc] 24)]) wl) (fun s6 _=>ofN s-(intOf s6).toNat)
  case atStart=>exact⟨0,none,0,0,rfl,(by omega),hid (fun _=>rfl),hK⟩
  clear hK;obtain⟨m,p,n,c,rfl,hm0,h_e,hK⟩:=hrel;generalize wr=W10 at hK⊢;go_upto_region 6 with(fail);refine wp_region_T [0,0,0] hK ?_;clear hK
  iterate 2 refine e0 ?_
  refine eB (decide (((m:Int))<((ofN s:Int)))) (fun b2 hb2=>?_);refine sxEnd (fun W11 hK=>?_)
  cases b2
  . --
   have q_b2:=nlt hb2;have hme:m=ofN s:=(by omega);rw[hme]at hK;clear hme;go_upto_region 9 with(fail);refine wp_region_T [0] hK ?_;clear hK;refine e0 ?_;refine sxEnd (fun W12 hK=>?_);replace hK:=hK.fact (rO slcR 26 none 0 0 ([]:List Sl)) OwV.nil (fun _ h=>by cases h);replace hK:=hK.rs0 refK 34;replace hK:=hK.fact (rO refK 34 none 0 0 (atL s.b 0 0)) OwV.nil (fun _ h=>by cases h);go_wp2_with fail;go_loopw [7] (fun s7 wl=> ∃(mi:Nat) (pa:Option Addr) (na:Nat) (ca:Nat) (ss:List Sl) (pb:Option Addr) (nb:Nat) (cb:Nat),s7=.int .i64 (mi:Int)/\(mi<=ofM s)/\Hid (ss.length=(rowsL s mi).length)/\Hid (ss=[]->pa=none)/\Hid (atL s.b 0 mi=[]->pb=none)/\SS w ([rO refK 34 pb nb cb (atL s.b 0 mi),rsF refK 34 ss (rowsL s mi),rO slcR 26 pa na ca ss,rO refK 34 p n c (atL s.c 0 (ofN s)),bx R4 (.cells #[.slice p n c,.slice pa na ca,.slice pb nb cb] 29),bx R2 (.cells #[.slice none 0 0,.slice none 0 0,.slice none 0 0] 29),bx R1 (.cells #[.slice cp cl cc,.slice ap al ac,.slice bp bl bc] 24)]) wl) (fun s7 _=>ofM s-(intOf s7).toNat)
   case atStart=>exact⟨0,none,0,0,[],none,0,0,rfl,(by omega),hid rfl,hid (fun _=>rfl),hid (fun _=>rfl),hK⟩
   clear hK;obtain⟨mi,pa,na,ca,ss,pb,nb,cb,rfl,hmi,h_l,h_a,h_b,hK⟩:=hrel;generalize wr=W13 at hK⊢;go_upto_region 10 with(fail);refine wp_region_T [0,0,0] hK ?_;clear hK
   iterate 2 refine e0 ?_
   refine eB (decide (((mi:Int))<((ofM s:Int)))) (fun b3 hb3=>?_);refine sxEnd (fun W14 hK=>?_)
   cases b3
   . --
    have q_b3:=nlt hb3;go_upto_region 19 with(fail);refine wp_region_T [1,4] hK ?_;clear hK;refine eL m4 ?_;refine eP 5 0 [.slice p n c,.slice pa na ca,.slice pb nb cb] ?_ (hq:=.inr ⟨rfl,rfl,rfl,rfl,rfl,rfl,trivial⟩);refine sxEnd (fun W15 hK=>?_);have hme:mi=ofM s:=(by omega);rw[hme]at hK h_l;clear hme;have hl9:=h_l.out;have⟨c90,c91,c92⟩:=(hK.box m5).c3;replace hK:=hK.subl (sK2 (sK2 (sK2 (sK2 (sC2 (sC2 (sC2 sZ2)))))));replace hK:=hK.up1;replace hK:=hK.up2;replace hK:=hK.up3;go_wp2;exact bodyPost_ret (v:=.agg #[.slice p n c,.slice pa na ca,.slice pb nb cb]) (by simp[results,Tryz.results12,go_sem,c90,c91,c92]) rfl (qo hQ0 ⟨⟨⟨p,n,c⟩,⟨pa,na,ca⟩,⟨pb,nb,cb⟩,ss⟩,rfl,SS.star.2 (hK.fact (cF (ss.length=(ofSm s).A.length)) hl9)⟩)
   have q_b3:=ylt hb3;replace hK:=hK.fact (rO refK 34 none 0 0 (atL s.a (mi*ofN s) 0)) OwV.nil (fun _ h=>by cases h);go_wp2_with fail;go_loopw [8,9] (fun s8 s9 wl=> ∃(mj:Nat) (pr:Option Addr) (nr:Nat) (cr:Nat),s8=.slice pr nr cr/\s9=.int .i64 (mj:Int)/\(mj<=ofN s)/\Hid (atL s.a (mi*ofN s) mj=[]->pr=none)/\SS w ([rO refK 34 pr nr cr (atL s.a (mi*ofN s) mj),rO refK 34 pb nb cb (atL s.b 0 mi),rsF refK 34 ss (rowsL s mi),rO slcR 26 pa na ca ss,rO refK 34 p n c (atL s.c 0 (ofN s)),bx R4 (.cells #[.slice p n c,.slice pa na ca,.slice pb nb cb] 29),bx R2 (.cells #[.slice none 0 0,.slice none 0 0,.slice none 0 0] 29),bx R1 (.cells #[.slice cp cl cc,.slice ap al ac,.slice bp bl bc] 24)]) wl) (fun s8 s9 _=>ofN s-(intOf s9).toNat)
   case atStart=>exact⟨0,none,0,0,rfl,rfl,(by omega),hid (fun _=>rfl),hK⟩
   clear hK;obtain⟨mj,pr,nr,cr,rfl,rfl,hmj,h_r,hK⟩:=hrel;generalize wr=W16 at hK⊢;go_upto_region 14 with(fail);refine wp_region_T [0,0,0] hK ?_;clear hK
   iterate 2 refine e0 ?_
   refine eB (decide (((mj:Int))<((ofN s:Int)))) (fun b4 hb4=>?_);refine sxEnd (fun W17 hK=>?_)
   cases b4
   . --
    have q_b4:=nlt hb4;go_upto_region 17 with(fail);refine wp_region_T [0,1,0,3,5,0,4] hK ?_;clear hK;refine e0 ?_;refine eL m5 ?_;refine e0 ?_;refine eA (.cells #[.slice pr nr cr] 26) (fun R18=>?_);refine eAppK 3 slcR_hd rfl 4 h_a.out rfl infoSR (fun w k=>k.one1 (K:=slcR) (x:=⟨pr,nr,cr⟩) m0 rfl) (by rw[h_l.out,rowsL_len];simp;omega) (fun x19=>?_);obtain⟨p19,n19,c19⟩:=x19;dsimp only;refine e0 ?_;refine eP 6 1 [.slice p19 n19 c19] ?_ (hq:=.inr ⟨rfl,rfl,rfl,rfl,rfl,rfl,rfl,rfl,trivial⟩);refine sxEnd (fun W20 hK=>?_);have hme:mj=ofN s:=(by omega);rw[hme]at hK;clear hme;replace hK:=hK.up3;replace hK:=hK.up2;replace hK:=SS.rsN (s:=⟨pr,nr,cr⟩) (xs:=rowL s mi) hK h_l.out;rw[show(rowsL s mi)++[rowL s mi]=rowsL s (mi+1)from(rowsL_snoc _ _)]at hK;go_upto_region 18 with(fail);refine wp_region_S _ [0,1,0,0,0,2,3,5,0,4] hK ?_ (sK2 (sK2 (sC2 (sK2 (sK2 (sC2 (sR)))))));clear hK;refine e0 ?_;refine eL m5 ?_;refine e0 ?_;refine eL0 m5 ?_;refine e0 ?_;refine eC (fun w k=>rat_any w (hB.below k.old) mi hs.b) (fun x21=>?_);obtain⟨⟨p22,l22,c22⟩,⟨q22,u22,d22⟩⟩:=x21;dsimp only;refine eA (.cells #[.bool (isN (atI s.b mi)),.slice p22 l22 c22,.slice q22 u22 d22] 34) (fun R23=>?_);refine eAppK 2 refK_hd rfl 4 h_b.out rfl infoR (fun w k=>k.one1 (K:=refK) (x:=atI s.b mi) m0 ⟨_,_,_,rfl,k.rq m1⟩) (by rw[atL_len];simp;omega) (fun x24=>?_) (hs:=fun _=>(sC2 (sC2 (sK2 (sK2 (sC2 (sK2 (sK2 (sC2 (sR))))))))));obtain⟨p24,n24,c24⟩:=x24;dsimp only;refine e0 ?_;refine eP 7 2 [.slice p24 n24 c24] ?_ (hs:=(sC2 (sC2 (sK2 (sK2 (sC2 (sK2 (sK2 (sC2 (sR)))))))))) (hq:=.inr ⟨rfl,rfl,rfl,rfl,rfl,rfl,rfl,rfl,rfl,trivial⟩);refine sxEnd (fun W25 hK=>?_);rw[show(atL s.b 0 mi)++[atI s.b mi]=atL s.b 0 (mi+1)from(by rw[<-atL_snoc,Nat.zero_add])]at hK
    (try go_wp2)
    go_roundw
    case rel=>exact⟨mi+1,p19,n19,c19,ss++[⟨pr,nr,cr⟩],p24,n24,c24,(by first|rfl|go_num),(by omega),hid (by rw[List.length_append,h_l.out,rowsL_len,rowsL_len];rfl),hid (fun e=>absurd (congrArg List.length e) (by simp)),hid (fun e=>absurd (congrArg List.length e) (by rw[atL_len];simp)),(hK.subl (sC2 (sC2 (sK2 (sC2 (sR)))))).up6.up6.up6.up6.up6.up5.up6⟩
    case measure=>simp[intOf]<;>omega
   have q_b4:=ylt hb4;have hin:mi*ofN s<=20:=Nat.le_trans (Nat.mul_le_mul (show mi<=5 from(by omega)) hn4.2) (by decide);go_upto_region 16 with(fail);refine wp_region_T [0,0,1,0,0,0,0,0,2,3,5,0] hK ?_;clear hK
   iterate 2 refine e0 ?_
   refine eL m7 ?_
   iterate 2 refine e0 ?_
   refine eV (.int .i64 ((mi*ofN s:Nat):Int)) (fun w'=>by go_simp;(try go_bits);rw[<-Int.natCast_mul];(try go_bits);exact⟨rfl,rfl⟩) ?_;refine e0 ?_;refine eV (.int .i64 ((mi*ofN s+mj:Nat):Int)) (fun w'=>by go_simp;(try go_bits);rw[<-Int.natCast_mul];(try go_bits);exact⟨congrArg _ (by omega),rfl⟩) ?_;refine eC (fun w k=>rat_any w (hA.below k.old) (mi*ofN s+mj:Nat) hs.a) (fun x26=>?_);obtain⟨⟨p27,l27,c27⟩,⟨q27,u27,d27⟩⟩:=x26;dsimp only;refine eA (.cells #[.bool (isN (atI s.a (mi*ofN s+mj:Nat))),.slice p27 l27 c27,.slice q27 u27 d27] 34) (fun R28=>?_);refine eAppK 2 refK_hd rfl 2 h_r.out rfl infoR (fun w k=>k.one1 (K:=refK) (x:=atI s.a (mi*ofN s+mj:Nat)) m0 ⟨_,_,_,rfl,k.rq m1⟩) (by rw[atL_len];simp;omega) (fun x29=>?_);obtain⟨p29,n29,c29⟩:=x29;dsimp only;refine e0 ?_;refine sxEnd (fun W30 hK=>?_);rw[show(atL s.a (mi*ofN s) mj)++[atI s.a (mi*ofN s+mj:Nat)]=atL s.a (mi*ofN s) (mj+1)from(atL_snoc _ _ _)]at hK
   (try go_wp2)
   go_roundw
   case rel=>exact⟨mj+1,p29,n29,c29,(by first|rfl|go_num),(by first|rfl|go_num),(by omega),hid (fun e=>absurd (congrArg List.length e) (by rw[atL_len];simp)),(hK.subl (sC2 (sC2 (sR))))⟩
   case measure=>simp[intOf]<;>omega
  have q_b2:=ylt hb2;go_upto_region 8 with(fail);refine wp_region_S _ [0,1,0,0,0,2,3,5,0,4] hK ?_ (sC2 (sC2 (sR)));clear hK;refine e0 ?_;refine eL m1 ?_;refine e0 ?_;refine eL0 m1 ?_;refine e0 ?_;refine eC (fun w k=>rat_any w (hC.below k.old) m hs.c) (fun x31=>?_);obtain⟨⟨p32,l32,c32⟩,⟨q32,u32,d32⟩⟩:=x31;dsimp only;refine eA (.cells #[.bool (isN (atI s.c m)),.slice p32 l32 c32,.slice q32 u32 d32] 34) (fun R33=>?_);refine eAppK 2 refK_hd rfl 2 h_e.out rfl infoR (fun w k=>k.one1 (K:=refK) (x:=atI s.c m) m0 ⟨_,_,_,rfl,k.rq m1⟩) (by rw[atL_len];simp;omega) (fun x34=>?_) (hs:=fun _=>(sC2 (sC2 (sC2 (sC2 (sR))))));obtain⟨p34,n34,c34⟩:=x34;dsimp only;refine e0 ?_;refine eP 3 0 [.slice p34 n34 c34] ?_ (hs:=(sC2 (sC2 (sC2 (sC2 (sR)))))) (hq:=.inr ⟨rfl,rfl,rfl,rfl,rfl,trivial⟩);refine sxEnd (fun W35 hK=>?_);rw[show(atL s.c 0 m)++[atI s.c m]=atL s.c 0 (m+1)from(by rw[<-atL_snoc,Nat.zero_add])]at hK
  (try go_wp2)
  go_roundw
  case rel=>exact⟨m+1,p34,n34,c34,(by first|rfl|go_num),(by omega),hid (fun e=>absurd (congrArg List.length e) (by rw[atL_len];simp)),(hK.subl (sC2 (sC2 (sR))))⟩
  case measure=>simp[intOf]<;>omega
end
section
set_option maxRecDepth 100000 in
set_option maxHeartbeats 400000 in
theorem awake40_any(w:World) (hBs:Bas w):
    Calls Tryz.prog 11 #[] w fun e w'=>e=.returned (.bool true)/\Below w.heap.size w w':=by
  have hK:=SS.start w;refine Calls.hide (fun Q0 hQ0=>?_);go_enter Tryz.func11,Tryz.ntmps11;go_upto_region 1 with(fail);refine wp_region_T [3,3,3,0,2,2,0,0,0,3,4,0] hK ?_;clear hK;refine eA (.cells #[.int .i8 1,.int .i8 1] 74) (fun R1=>?_);refine eA (.cells #[.int .i8 1,.int .i8 2,.int .i8 3,.int .i8 1] 74) (fun R2=>?_);refine eA (.cells #[.int .i8 4,.int .i8 6] 74) (fun R3=>?_);refine e0 ?_;refine eC (fun w k=>smof_any (s:=awA) w awA_ok (litV8 [1,1] (k.box m2) rfl (by decide)) (litV8 [1,2,3,1] (k.box m1) rfl (by decide)) (litV8 [4,6] (k.box m0) rfl (by decide))) (fun x4=>?_);obtain⟨⟨g5cp,g5cl,g5cc⟩,⟨g5ap,g5al,g5ac⟩,⟨g5bp,g5bl,g5bc⟩,g5s⟩:=x4;dsimp only[PgR.v];refine eC (fun w k=>aw_solve (s:=awA) (k:=1) (z:=14/5) w (k.pg m0).1 (k.pg m0).2.1 (k.pg m0).2.2 (hBs.below k.old) awA_ok awA_res) (fun x6=>?_);obtain⟨⟨t7xp,t7xl,t7xc⟩,⟨t7yp,t7yl,t7yc⟩,⟨t7rp,t7rl,t7rc⟩,⟨t7dp,t7dl,t7dc⟩,⟨t7ep,t7el,t7ec⟩⟩:=x6;dsimp only[RsS.v]
  iterate 3 refine e0 ?_
  refine eA (.cells #[.int .i64 0,.slice none 0 0,.slice none 0 0,.slice none 0 0,.bool false,.slice none 0 0,.slice none 0 0] 36) (fun R8=>?_);refine eZ 0 0 [.int .i64 1,.slice t7xp t7xl t7xc,.slice t7yp t7yl t7yc,.slice t7rp t7rl t7rc,.bool (isN (14/5:Rat)),.slice t7dp t7dl t7dc,.slice t7ep t7el t7ec] ?_;refine e0 ?_;refine sxEnd (fun W9 hK=>?_);go_upto_region 2 with(fail);refine wp_region_T [3,3,3,0,2,2,0,0,0,3,4,0] hK ?_;clear hK;refine eA (.cells #[.int .i8 1,.int .i8 1] 74) (fun R10=>?_);refine eA (.cells #[.int .i8 (-1),.int .i8 0] 74) (fun R11=>?_);refine eA (.cells #[.int .i8 (-1)] 74) (fun R12=>?_);refine e0 ?_;refine eC (fun w k=>smof_any (s:=awB) w awB_ok (litV8 [1,1] (k.box m2) rfl (by decide)) (litV8 [-1,0] (k.box m1) rfl (by decide)) (litV8 [-1] (k.box m0) rfl (by decide))) (fun x13=>?_);obtain⟨⟨g14cp,g14cl,g14cc⟩,⟨g14ap,g14al,g14ac⟩,⟨g14bp,g14bl,g14bc⟩,g14s⟩:=x13;dsimp only[PgR.v];refine eC (fun w k=>aw_solve (s:=awB) (k:=3) (z:=0) w (k.pg m0).1 (k.pg m0).2.1 (k.pg m0).2.2 (hBs.below k.old) awB_ok awB_res) (fun x15=>?_);obtain⟨⟨t16xp,t16xl,t16xc⟩,⟨t16yp,t16yl,t16yc⟩,⟨t16rp,t16rl,t16rc⟩,⟨t16dp,t16dl,t16dc⟩,⟨t16ep,t16el,t16ec⟩⟩:=x15;dsimp only[RsS.v]
  iterate 3 refine e0 ?_
  refine eA (.cells #[.int .i64 0,.slice none 0 0,.slice none 0 0,.slice none 0 0,.bool false,.slice none 0 0,.slice none 0 0] 36) (fun R17=>?_);refine eZ 0 0 [.int .i64 3,.slice t16xp t16xl t16xc,.slice t16yp t16yl t16yc,.slice t16rp t16rl t16rc,.bool (isN (0:Rat)),.slice t16dp t16dl t16dc,.slice t16ep t16el t16ec] ?_;refine e0 ?_;refine sxEnd (fun W18 hK=>?_);go_upto_region 3 with(fail);refine wp_region_T [3,3,3,0,2,2,0,0,0,3,4,0] hK ?_;clear hK;refine eA (.cells #[.int .i8 1,.int .i8 1] 74) (fun R19=>?_);refine eA (.cells #[.int .i8 1,.int .i8 0,.int .i8 (-1),.int .i8 0] 74) (fun R20=>?_);refine eA (.cells #[.int .i8 1,.int .i8 (-2)] 74) (fun R21=>?_);refine e0 ?_;refine eC (fun w k=>smof_any (s:=awC) w awC_ok (litV8 [1,1] (k.box m2) rfl (by decide)) (litV8 [1,0, -1,0] (k.box m1) rfl (by decide)) (litV8 [1, -2] (k.box m0) rfl (by decide))) (fun x22=>?_);obtain⟨⟨g23cp,g23cl,g23cc⟩,⟨g23ap,g23al,g23ac⟩,⟨g23bp,g23bl,g23bc⟩,g23s⟩:=x22;dsimp only[PgR.v];refine eC (fun w k=>aw_solve (s:=awC) (k:=2) (z:=0) w (k.pg m0).1 (k.pg m0).2.1 (k.pg m0).2.2 (hBs.below k.old) awC_ok awC_res) (fun x24=>?_);obtain⟨⟨t25xp,t25xl,t25xc⟩,⟨t25yp,t25yl,t25yc⟩,⟨t25rp,t25rl,t25rc⟩,⟨t25dp,t25dl,t25dc⟩,⟨t25ep,t25el,t25ec⟩⟩:=x24;dsimp only[RsS.v]
  iterate 3 refine e0 ?_
  refine eA (.cells #[.int .i64 0,.slice none 0 0,.slice none 0 0,.slice none 0 0,.bool false,.slice none 0 0,.slice none 0 0] 36) (fun R26=>?_);refine eZ 0 0 [.int .i64 2,.slice t25xp t25xl t25xc,.slice t25yp t25yl t25yc,.slice t25rp t25rl t25rc,.bool (isN (0:Rat)),.slice t25dp t25dl t25dc,.slice t25ep t25el t25ec] ?_;refine e0 ?_;refine sxEnd (fun W27 hK=>?_);go_upto_region 4 with(fail);refine wp_region_T [0,0,0,0,0,0,0,0,0,1,0,0,0,0,1,1,0,0,0,0,1,0,0,0,0,1,0,0,0] hK ?_;clear hK
  iterate 9 refine e0 ?_
  refine eL m12 ?_
  iterate 4 refine e0 ?_
  refine eL m12 ?_;refine eQ (fun w k=>rtext_q _ _ w (k.rq m13) aw40_l (by decide)) ?_;refine eV (.bool true) (fun w'=>by go_simp;(try go_bits);rw[aw40_t];exact⟨rfl,rfl⟩) ?_
  iterate 3 refine e0 ?_
  refine eL m6 ?_
  iterate 4 refine e0 ?_
  refine eL m0 ?_
  iterate 3 refine e0 ?_
  refine sxEnd (fun W28 hK=>?_);go_wp2
  try go_ret
  show Q0 (.returned (.bool true)) _
  exact(qo hQ0 ⟨rfl,hK.old⟩)
end
section
section
variable {P Q:LPd}{D:Int}{X Y s t i j:Nat}
theorem Fra.lt{e:Rat}(h:Fra D X e)(hX:X<=Y):Fra D Y e:=by
  obtain⟨z,h1,h2⟩:=h;exact⟨z,Nat.le_trans h1 hX,h2⟩
theorem FrP.imp(h:FrP 1 128 P):FrP 1 256 (P.imp i j):=by
  have ad:∀{x y:Rat},Fra 1 128 x->Fra 1 128 y->Fra 1 256 (x+y):=fun{x y} ⟨a,h1,h2⟩ ⟨b,h3,h4⟩=>⟨a+b,by omega,by rw[Rat.intCast_add, <-h2, <-h4];grind⟩
  have gd:∀{k m:Nat},Fra 1 128 ((P.A.getD k []).getD m 0):=fun{k m}=>by
    refine Fra.getD (fun e he=>?_) m;obtain⟨r,hr,he'⟩:=getD_mem_nil he;exact h.a r hr e he'
  refine⟨⟨by decide,by decide⟩,fun e he=>(h.c e he).lt (by decide),fun r hr e he=>?_,fun e he=>?_⟩
  . rcases List.mem_append.1 hr with h1|h1
    . exact(h.a r h1 e he).lt (by decide)
    rw[List.mem_singleton.1 h1]at he;obtain⟨k,_,rfl⟩:=List.mem_map.1 he;exact ad gd gd
  rcases List.mem_append.1 he with h1|h1
  . exact(h.b e h1).lt (by decide)
  rw[List.mem_singleton.1 h1];exact ad (Fra.getD h.b i) (Fra.getD h.b j)
end
end
section
section
variable {P:Program}{V:World}{ops:Array Oper}{Q:Act->World->Prop}{f0 fs fs':List Ft}{ks:List Nat}{o:Oper}{rest:List Oper}{a a':Act}{t:TypeId}
theorem OwV.has0{α:Type}{K:EK α}{w:World}{base R:Nat}(h:OwV K t base w (.slice (some ⟨R,0,none⟩) 0 0) []):Has base R (.cells #[] t) w:=by
  obtain⟨css,h1,hl,⟨e,h0⟩|⟨g',cap,cur,e,hb,hh,hc1,hc2,hs,ht⟩⟩:=h
  . cases e
  injection e with e1 e2 e3
  injection e1 with e1
  injection e1 with e1
  subst e1;subst e3;have hc:cur=#[]:=Array.eq_empty_of_size_eq_zero (by rw[hs];exact Nat.zero_mul _);subst hc;exact⟨hb,hh⟩
theorem sx0row{α:Type}{K:EK α}[OwnK K]{R:Nat}(h:Sx P V ops Q f0 ks rest (rO K t (some ⟨R,0,none⟩) 0 0 []::fs) a)(hs:f0.Sublist fs):Sx P V ops Q f0 ks rest (bx R (.cells #[] t)::fs) a:=⟨fun _=>by
  have e:(⟨Own (bx R (.cells #[] t)::fs),SS V (bx R (.cells #[] t)::fs)⟩:Kl)=⟨Own (rO K t (some ⟨R,0,none⟩) 0 0 []::fs),SS V (rO K t (some ⟨R,0,none⟩) 0 0 []::fs)⟩:=by
    refine Kl.eq (fun g=>?_) fun w=>⟨fun k=>k.repl (OwV.empty (k.box m0)) fun g e=>(Option.some.inj e).symm,fun k=>k.repl (OwV.has0 (k.own m0)) fun g (e:g=R)=>by rw[e];rfl⟩
    exact⟨fun⟨f,hf,hg⟩=>(List.mem_cons.1 hf).elim (fun e=>⟨_,List.mem_cons_self ..,by subst e;rw[show g=R from hg];rfl⟩) fun hf=>⟨f,List.mem_cons_of_mem _ hf,hg⟩,fun⟨f,hf,hg⟩=>(List.mem_cons.1 hf).elim (fun e=>⟨_,List.mem_cons_self ..,by subst e;exact(Option.some.inj hg).symm⟩) fun hf=>⟨f,List.mem_cons_of_mem _ hf,hg⟩⟩
  rw[e];exact h.out (hs.cons _)⟩
theorem eA0{α:Type}{K:EK α}[OwnK K]{a2:Nat->Act}(h:∀R,Sx P V ops Q f0 ks rest (rO K t (some ⟨R,0,none⟩) 0 0 []::fs) (a2 R))(hs:f0.Sublist fs:=by exact List.nil_sublist _)(hg:Wants ops o a:=by first|exact wants0 rfl|exact wantsg rfl rfl rfl rfl)(h1:∀w,(execOp a.eval o).run P w=.ok (.value (mkOf o w.heap.size)) (w.alloc (.cells #[] t)):=by intro w';go_simp;rfl)(ha:∀R,a.put o.dst (mkOf o R)=a2 R:=by intro R;(simp only[mkOf,Act.put,pA,pB,pC,pD,pE])<;>exact rfl):Sx P V ops Q f0 (3::ks) (o::rest) fs a:=
  eA (.cells #[] t) (fun R=>sx0row (h R) hs) hg h1 ha
theorem OwV.hd0{α:Type}{K:EK α}{w:World}{base m n:Nat}{q:Option Addr}(h:OwV K t base w (.slice q n 0) []):∀g,ob q=some g->HdIs g m w:=fun g hg=>by
  obtain⟨css,h1,hl,⟨e,h0⟩|⟨g',cap,cur,e,hb,hh,hc1,hc2,hs,ht⟩⟩:=h
  . injection e with e1;rw[e1]at hg;cases hg
  injection e with e1 e2 e3
  subst e1;subst e3;obtain rfl:g'=g:=Option.some.inj hg;have hc:cur=#[]:=Array.eq_empty_of_size_eq_zero (by rw[hs];exact Nat.zero_mul _);subst hc;exact hdIs_nil (base:=base) ⟨hb,hh⟩
theorem eAppE{α:Type}{K:EK α}[OwnK K](m0:Nat)(hno:(OwnK.S (K:=K)).contains m0=false){q p:Option Addr}{n m c bytes:Nat}{tt uu u':TypeId}{ys:List α}{z:Value}{s x:Operand}{a2:Sl->Act}{fs2:Sl->List Ft}(i:Nat)(hi:fs[i]?=some (rO K t q n 0 []))(hinf:(P.info? t).map (fun i=>(i.zero,i.size,i.bytes))=some (some z,K.sz,bytes))(hsrc:∀w,SS V fs w->SlV K w (.slice p m c) ys)(h63:ys.length<=1000000000)(h:∀y,Sx P V ops Q f0 ks rest (fs2 y) (a2 y))(hf:∀y:Sl,fs.set i (rO K t y.p y.l y.c ys)=fs2 y:=by intro y;(simp only[pB,pC])<;>exact rfl)(hs:∀x,f0.Sublist (fs2 x):=by exact fun _=>List.nil_sublist _)(hq:OkL m0 i fs:=by repeat (first|exact trivial|(show OkA _ _;assumption)|refine⟨rfl,?_⟩))
    (ho:o.op=.call {callee:=.builtin .append,args:=#[s,x],argTypes:=#[tt,uu]}:=by rfl) (ht:P.underlying tt=some (.slice t):=by first|rfl|kernel_rfl) (hu:P.underlying uu=some (.slice u'):=by first|rfl|kernel_rfl) (hzs:z.cells.size=K.sz:=by rfl) (hbz:bytes<=100000:=by decide) (hes:a.eval s=.slice q n 0:=by rfl) (hex:a.eval x=.slice p m c:=by rfl) (hg:Wants ops o a:=by first|exact wants0 rfl|exact wantsg rfl rfl rfl rfl) (ha:∀y:Sl,a.put o.dst (.slice y.p y.l y.c)=a2 y:=by intro x;(simp only[mkOf,Act.put,pA,pB,pC,pD,pE])<;>exact rfl):Sx P V ops Q f0 (5::ks) (o::rest) fs a:=
  sxG (α:=Sl) (g:=fun y=>.slice y.p y.l y.c) (f2:=fun y=>rO K t y.p y.l y.c ys) (b:=ob q) hi (fun R h=>h) (fun w k=>qtN (OwV.hd0 k) hq) (fun y=>by rw[hf];exact hs y) hg (fun w hw k=>by
    refine(app_doesS (u':=u') ho ht hu hinf hzs hes hex (by simp[maxLen];omega) (Nat.le_trans (Nat.mul_le_mul (show[].length+ys.length<=1000000000 by simpa using h63) hbz) (by decide)) k (fun g hg=>.inr ((OwV.hd0 k g hg).no hno)) (hsrc w hw)).mono fun u w' ⟨y,e1,e2,e3,e4⟩=>⟨y,e1,e2,e3,e4⟩) fun y=>by rw[hf,ha];exact h y
theorem eWS {g n c j : Nat}{xs:List Sl}{y:Sl}(i:Nat)(hj:j<xs.length)(h:Sx P V ops Q f0 ks rest fs' a')(hi:fs[i]?=some (rO slcK t (some ⟨g,0,none⟩) n c xs):=by rfl)(hf:fs.set i (rO slcK t (some ⟨g,0,none⟩) n c (xs.set j y))=fs':=by(simp only[pB,pC])<;>exact rfl)(hs:f0.Sublist fs':=by exact List.nil_sublist _)(hq:OkL 3 i fs:=by repeat (first|exact trivial|(show OkA _ _;assumption)|refine⟨rfl,?_⟩))(hg:Wants ops o a:=by first|exact wants0 rfl|exact wantsg rfl rfl rfl rfl)
    (h1:∀w u,w.cell? ⟨g,j,none⟩=some u->(∀o,w.frozen? ⟨g,o,none⟩=false)->Does P (fun u w'=>u=undef/\w'=w.setCell ⟨g,j,none⟩ (.slice y.p y.l y.c)) ((execOp a.eval o).run P w):=by intro w' u c f;go_simp;exact⟨rfl,rfl⟩) (ha:a.put o.dst undef=a':=by(simp only[mkOf,Act.put,pA,pB,pC,pD,pE])<;>exact rfl):Sx P V ops Q f0 (4::ks) (o::rest) fs a:=
  sxS (R:=g) (f2:=rO slcK t (some ⟨g,0,none⟩) n c (xs.set j y)) hi rfl (fun _ h=>h) (fun w k=>qtN (fun R' e=>by injection e with e;subst e;exact OwV.hd k (List.ne_nil_of_length_pos (by omega)) (fun{_ _ _ _} h hu=>slcR_hd h hu)) hq) (by rw[hf];exact hs) hg (fun w _ k=>by
    obtain⟨u,hu⟩:=OwV.some_cell k hj (j:=0) (by decide)
    refine (h1 w u (by have:j*slcK.sz+0=j:=by show j*1+0=j;omega
                       rwa [this]at hu) (OwV.fz k)).mono fun u w' ⟨e1,e2⟩=>?_
    have e3:w'=putAt g (j*slcK.sz) [.slice y.p y.l y.c] w:=by rw[show j*slcK.sz=j by show j*1=j;omega];exact e2
    subst e3;exact⟨e1,⟨_,_,rfl⟩,OwV.put k rfl hj _ (Below.refl _ _)⟩) (by rw[hf,ha];exact h)
theorem eWR{g n c j:Nat}{xs:List Rat}{y:Rat}{v0 v1 v2:Value}(i:Nat)(hj:j<xs.length)(hv:∀w,SS V fs w->RefR w (.agg #[v0,v1,v2]) y)(h:Sx P V ops Q f0 ks rest fs' a')(hi:fs[i]?=some (rO refK t (some ⟨g,0,none⟩) n c xs):=by rfl)(hf:fs.set i (rO refK t (some ⟨g,0,none⟩) n c (xs.set j y))=fs':=by(simp only[pB,pC])<;>exact rfl)(hs:f0.Sublist fs':=by exact List.nil_sublist _)(hq:OkL 2 i fs:=by repeat (first|exact trivial|(show OkA _ _;assumption)|refine⟨rfl,?_⟩))(hg:Wants ops o a:=by first|exact wants0 rfl|exact wantsg rfl rfl rfl rfl)
    (h1:∀w u0 u1 u2,w.cell? ⟨g,j*3,none⟩=some u0->w.cell? ⟨g,j*3+1,none⟩=some u1->w.cell? ⟨g,j*3+2,none⟩=some u2->(∀o,w.frozen? ⟨g,o,none⟩=false)->Does P (fun u w'=>u=undef/\w'=putAt g (j*3) [v0,v1,v2] w) ((execOp a.eval o).run P w):=by intro w' u0 u1 u2 c0 c1 c2 f;go_simp;exact⟨rfl,rfl⟩) (ha:a.put o.dst undef=a':=by(simp only[mkOf,Act.put,pA,pB,pC,pD,pE])<;>exact rfl):Sx P V ops Q f0 (4::ks) (o::rest) fs a:=
  sxS (R:=g) (f2:=rO refK t (some ⟨g,0,none⟩) n c (xs.set j y)) hi rfl (fun _ h=>h) (fun w k=>qtN (fun R' e=>by injection e with e;subst e;exact OwV.hd k (List.ne_nil_of_length_pos (by omega)) (fun{_ _ _ _} h hu=>refK_hd h hu)) hq) (by rw[hf];exact hs) hg (fun w hw k=>by
    obtain⟨u0,hu0⟩:=OwV.some_cell k hj (j:=0) (by decide);obtain⟨u1,hu1⟩:=OwV.some_cell k hj (j:=1) (by decide);obtain⟨u2,hu2⟩:=OwV.some_cell k hj (j:=2) (by decide);refine(h1 w u0 u1 u2 hu0 hu1 hu2 (OwV.fz k)).mono fun u w' ⟨e1,e2⟩=>?_
    subst e2;exact⟨e1,⟨_,_,rfl⟩,OwV.put k ⟨_,_,_,rfl,hv w hw⟩ hj _ (Below.refl _ _)⟩) (by rw[hf,ha];exact h)
end
section
variable {w w':World}{p:Option Addr}{n c:Nat}{A:List (List Rat)}{sp:List Sl}{s:Sl}{x:List Rat}
structure Rd(w:World)(sp:List Sl)(A:List (List Rat)):Prop where
  len:sp.length=A.length
  at':∀(i:Nat) (s:Sl) (a:List Rat),sp[i]?=some s->A[i]?=some a->rfK.R w [.slice s.p s.l s.c] a
theorem Rd.below(h:Rd w sp A)(hb:Below w.heap.size w w'):Rd w' sp A:=⟨h.len,fun i s a e1 e2=>rfK.below (h.at' i s a e1 e2) hb⟩
theorem Rd.set(h:Rd w sp A)(hx:rfK.R w [.slice s.p s.l s.c] x)(j:Nat):Rd w (sp.set j s) (A.set j x):=⟨by simp[h.len],fun i s' a e1 e2=>by
  rw[List.getElem?_set]at e1 e2
  by_cases hj:j=i
  . subst hj;rw[if_pos rfl]at e1 e2
    split at e1
    . split at e2
      . cases e1;cases e2;exact hx
      cases e2
    cases e1
  rw[if_neg hj]at e1 e2;exact h.at' i s' a e1 e2⟩
end
end
end Go.Proofs.YtjhaedfpigebdaaGreatDoor
namespace Go.Proofs.YtjhaedfpigebdaaGreatDoor
open Go.RowKit Go.ChangeShapes Go.WideShapes Go.ChangeAt Go.Deep
section
variable {α H:Type}{enc:TypeId × Value->H}{P:Program}{w:World}{base:Nat}{sp:Nat->Bool}{hd:Bool}
theorem open_slv{K:EK α}{t e:TypeId}{Ok:α->Prop}(ht:P.underlying t=some (.slice e))(hsz:P.cellsOf e=K.sz)
    (hel:∀(cs:List Value) (m:Nat) (y:DataW H × List MemPlace),cs.length=K.sz->DataW.trod enc P w base sp hd m e cs=some y-> ∃x,K.R w cs x/\Ok x)
    {v:Value} {d:DataW H} {p:List MemPlace} (hv:∃a len cap,v=.slice a len cap) (h:DataW.Trod enc P w base sp hd t v d p):∃xs:List α,SlV K w v xs/\ ∀x∈xs,Ok x:=by
  obtain⟨a0,len0,cap0,rfl⟩:=hv;obtain⟨fuel,hf⟩:=h
  rcases open_slice ht hf with⟨hcs,_⟩|⟨a,len,cap,m,n,D,Pl,hcs,_,hl,hm,hmm,hx,hi⟩
  . simp[Value.cells]at hcs;obtain⟨rfl,rfl,rfl⟩:=hcs;exact⟨[],.nil,fun _ h=>by cases h⟩
  simp[Value.cells]at hcs;obtain⟨rfl,rfl,rfl⟩:=hcs;have hlm:len0<=m:=by rw[hmm];split<;>omega
  by_cases h0:len0=0
  . subst h0;exact⟨[],.nil,fun _ h=>by cases h⟩
  have each:∀i,i<len0-> ∃q:List Value × α,K.R w q.1 q.2/\Ok q.2/\ ∀j,j<K.sz->w.cell? ((a.add (i*K.sz)).add j)=q.1[j]?:=fun i hil=>by
    obtain⟨cs',hc,ht'⟩:=hi i (by omega);rw[hsz]at hc;obtain⟨_,hcl,hat⟩:=World.cells?_some hc;obtain⟨x,h1,h2⟩:=hel cs' _ _ hcl ht';exact⟨(cs',x),h1,h2,hat⟩
  haveI:Inhabited (List Value × α):=⟨(each 0 (by omega)).choose⟩
  obtain⟨f,hf⟩:=choose_lt each;obtain⟨b,off,spot⟩:=a;have hp:=K.pos;have hfl:=fun i (hil:i<len0)=>K.len (hf i hil).1
  have hspot:spot=none:=by
    have h1:=(hf 0 (by omega)).2.2 0 hp;have h2:(f 0).1[0]?=some ((f 0).1[0]'(by rw[hfl 0 (by omega)];exact hp)):=List.getElem?_eq_getElem _;have:=World.cell?_spot (h1.trans h2)
    simpa[Addr.add]using this
  subst hspot;have he:∀k o,(⟨b,o,none⟩:Addr).add k=⟨b,o+k,none⟩:=fun k o=>by unfold Addr.add;split<;>simp_all
  refine⟨(List.range len0).map fun i=>(f i).2,⟨(List.range len0).map fun i=>(f i).1,⟨by simp,fun k cs x h1 h2=>?_⟩,.inr ⟨b,off,cap0,by simp,?_,by simpa using hl,by simpa[maxLen]using hm,fun k cs j u h1 h2=>?_⟩⟩,fun x hx=>?_⟩
  . have hk:k<len0:=by
      have:=(List.getElem?_eq_some_iff.1 h1).1
      simpa using this
    simp[hk]at h1 h2;subst h1;subst h2;exact(hf k hk).1
  . have h1:=(hf 0 (by omega)).2.2 0 hp;have h2:(f 0).1[0]?=some ((f 0).1[0]'(by rw[hfl 0 (by omega)];exact hp)):=List.getElem?_eq_getElem _;rw[he,he]at h1;exact World.block_lt_of_cell? w _ (h1.trans h2)
  . have hk:k<len0:=by
      have:=(List.getElem?_eq_some_iff.1 h1).1
      simpa using this
    simp[hk]at h1;subst h1;have hj:j<K.sz:=(hfl k hk)▸(List.getElem?_eq_some_iff.1 h2).1;have h3:=(hf k hk).2.2 j hj;rw[he,he]at h3;exact h3.trans h2
  obtain⟨k,hk,rfl⟩:=List.mem_map.1 hx;exact(hf k (List.mem_range.1 hk)).2.1
end
end Go.Proofs.YtjhaedfpigebdaaGreatDoor
namespace Go.Proofs.YtjhaedfpigebdaaGreatDoor
open Go.ChangeShapes Go.WideShapes Go.ChangeAt Go.RowKit Go.Joins Go.Deep
theorem ownK:ownKnob Tryz.prog.godebug=none:=by kernel_rfl
theorem laidOutK:laidOutB Tryz.prog=true:=by kernel_rfl
theorem reread{H:Type}{enc:TypeId × Value->H}{P:Program}(hl:laidOutB P=true){W W':World}(hb:Below W.heap.size W W'):
    ∀ {ts:List TypeId} {vs:List Value} {ds:List (DataW H)} {ps:List MemPlace},(ts.all fun t=>P.readableRec t&&decide (t<P.types.size))=true->DataW.TrodAll enc P W 0 (fun _=>true) true ts vs ds ps->(∀x∈ps,x.block<W.heap.size)->
      DataW.TrodAll enc P W' 0 (fun b=>decide (b<W.heap.size)) true ts vs ds ps
  | [],vs,ds,ps,_,h,_=>by
    obtain⟨rfl,rfl,rfl⟩:=trodAll_nil h;exact trodAll_mk0
  | t::ts,vs,ds,ps,ha,h,hlt=>by
    obtain⟨v,vs',d,ds',p,q,rfl,rfl,rfl,h1,h2⟩:=trodAll_cons h;simp only[List.all_cons,Bool.and_eq_true,decide_eq_true_eq]at ha;exact trodAll_cons_mk (Below.trod hl ha.1.1 ha.1.2 h1 hb fun x hx=>hlt x (List.mem_append_left _ hx)) (reread hl hb (by simpa using ha.2) h2 fun x hx=>hlt x (List.mem_append_right _ hx))
theorem law_post{H:Type}{enc:TypeId × Value->H}{fn:Func}{s:ChangeSpec}{W W':World}{args:Array Value}{ds gs:List (DataW H)}{p q:List MemPlace}(hs:s.fn H (ds++gs)={results:=[.lit (.bool true)],args:=ds})(hvars:s.vars=[])
    (hres:fn.resultTypes=#[4]) (hts:(fn.params.toList.all fun t=>Tryz.prog.readableRec t&&decide (t<Tryz.prog.types.size))=true)
    (hW:DataW.Whole enc Tryz.prog fn.params.toList s.vars false W args.toList ds gs (p++q)) (hA:DataW.TrodAll enc Tryz.prog W 0 (fun _=>true) true fn.params.toList args.toList ds p) (hB:Below W.heap.size W W'):
    s.post enc Tryz.prog fn false true false false W args (.bool true) W':=by
  refine⟨ds,gs,p++q,[],p,[],hW,?_,?_,?_,hB.frame _,fun h=>by cases h⟩
  . rw[hs,hres];exact trodAll_cons_mk (p:=[]) (shut_bool Tryz.underlying4 _) trodAll_mk0
  . rw[hs];exact reread laidOutK hB hts hA fun x hx=>hW.lt x (List.mem_append_left _ hx)
  rw[hs,hvars];rfl
theorem tab_of_laid{W:World}(h:laidMetH Tryz.prog Rows.lpPointsRow.laid W):Tab W:=by
  rw[MakeChecks.laidMetH_plain _ _ _ (by kernel_rfl)]at h;obtain⟨g,t,cs,fuel,p,hg,hty,hvar,hd⟩:=Lib.laidMet.reads h (n:= "internal/strconv.uint64pow10") (d:=Lib.tabData .u64 Lib.pow10Tab) (.tail _ (.tail _ (.head _)));obtain⟨g',hg',hty'⟩:∃g',Tryz.prog.globalNamed "internal/strconv.uint64pow10"=some g'/\(Tryz.prog.globals[g']?).map (·.type)=some 222:=⟨2,by kernel_rfl,by kernel_rfl⟩;obtain rfl:=Option.some.inj (hg'.symm.trans hg);obtain rfl:=Option.some.inj (hty'.symm.trans hty);have hcs:=Lib.cells_of_tab Tryz.underlying222 Tryz.underlying127 (by kernel_rfl) (by kernel_rfl) hd;unfold Tab Lib.TabIs;rw[hvar, <-hcs]
section
variable {H:Type}{enc:TypeId × Value->H}
theorem change_and_shaped{a:Assume}{C:Checked}{os:Os}{f:FuncId}{fn:Func}{s:ChangeSpec}{conds:List PathCond}{apart fresh handsOn again:Bool}{X:World->Array Value->Prop}
    (hX:∀(w w':World) (args:Array Value),w.heap=w'.heap->X w args->X w' args)
    (own:ownKnob C.prog.godebug=none) (started:os.Started) (noInit:C.prog.inits.idxOf? f=none) (hfn:C.prog.funcs[f]?=some fn)
    (witness:∃(w:World) (tape:Tape) (i:Input),w.os=os/\(w.forCall tape i).Shaped C.prog/\i.vars=[]/\Input.okWide C.prog (w.forCall tape i) .any w.heap.size f i/\
      ((s.pre enc C.prog fn conds apart (w.forCall tape i).memory i.args/\X (w.forCall tape i).memory i.args)/\sizedMet enc C.prog fn (OpenSpec.ofChange s) apart (w.forCall tape i).memory i.args)/\a.holds C.prog (lone (Frame.enter C.prog f i.args .normal) [] (w.forCall tape i)))
    (contract:∀(W:World) (base:Nat) (args:Array Value) (ds gs:List (DataW H)) (before:List MemPlace),
      (∀(j:Nat) t v,fn.params[j]?=some t->args[j]?=some v->Value.okWide C.prog W .any base t v)->
      DataW.Whole enc C.prog fn.params.toList s.vars apart W args.toList ds gs before->
      X W args->W.ShapedOpen C.prog->
      Calls C.prog f args W fun e W'=> ∃v,e=.returned v/\s.post enc C.prog fn apart fresh handsOn again W args v W'):
    ReturnsInHanded a C os f .any (fun w args=>(s.pre enc C.prog fn conds apart w args/\X w args)/\sizedMet enc C.prog fn (OpenSpec.ofChange s) apart w args) (s.post enc C.prog fn apart fresh handsOn again):=by
  refine returnsInHanded_of_calls own started noInit witness ?_;intro w tape i _ hsh _ hok hpre _;obtain⟨_,_,_,fn',hfn',_,_,_,_,hval⟩:=hok;obtain rfl:fn'=fn:=Option.some.inj (hfn'.symm.trans hfn);obtain⟨⟨⟨ds,gs,before,hw,_⟩,hx⟩,_⟩:=hpre;have hw':=DataW.Whole.of_heap (w':=w.forCall tape i) (by rfl) hw;refine(contract (w.forCall tape i) w.heap.size i.args ds gs before hval hw' (hX _ _ _ (by rfl) hx) hsh).mono fun e W' ⟨v,he,hp⟩=>?_
  subst he;exact ChangeSpec.post_blind hp
end
theorem cellsK_i8:Tryz.prog.cellsOf 74=1:=by kernel_rfl
theorem cellsK_i8s:Tryz.prog.cellsOf 22=1:=by kernel_rfl
section
variable {H:Type}{enc:TypeId × Value->H}{w:World}{base:Nat}{sp:Nat->Bool}{hd:Bool}
theorem i8_wf{x:Int}(wx:(Lit.int .i8 x).wf=true):Rng8 x:=by
  simp[Lit.wf,IntKind.min,IntKind.max,IntKind.signed,IntKind.bits]at wx;exact⟨by omega,by omega⟩
theorem elem_i8{m:Nat}{cs:List Value}{y:DataW H × List MemPlace}(h:DataW.trod enc Tryz.prog w base sp hd m 74 cs=some y):∃x:Int,cs=[.int .i8 x]/\Rng8 x:=by
  obtain⟨x,e,_,wx⟩:=DataW.trod_int Tryz.underlying74 h;exact⟨x,e,i8_wf wx⟩
theorem cell_slice{m:Nat}{t e:TypeId}{c:Value}{y:DataW H × List MemPlace}(ht:Tryz.prog.underlying t=some (.slice e))(h:DataW.trod enc Tryz.prog w base sp hd m t [c]=some y):∃a len cap,c=.slice a len cap:=by
  rcases open_slice ht h with⟨hcs,_⟩|⟨a,len,cap,_,_,_,_,hcs,_⟩
  . exact⟨_,_,_,by simpa using hcs⟩
  exact⟨_,_,_,by simpa using hcs⟩
theorem open_i8s{v:Value}{d:DataW H}{p:List MemPlace}(hv:∃a len cap,v=.slice a len cap)(h:DataW.Trod enc Tryz.prog w base sp hd 22 v d p):∃xs:List Int,SlV i8K w v xs/\ ∀x∈xs,Rng8 x:=
  open_slv (K:=i8K) (Ok:=Rng8) Tryz.underlying22 cellsK_i8 (fun _ _ _ _ hx=>elem_i8 hx) hv h
theorem cell_i8s{m:Nat}{c:Value}{y:DataW H × List MemPlace}(h:DataW.trod enc Tryz.prog w base sp hd m 22 [c]=some y):∃xs:List Int,SlV i8K w c xs/\ ∀x∈xs,Rng8 x:=by
  obtain⟨a,l,cp,rfl⟩:=cell_slice Tryz.underlying22 h;exact open_i8s (d:=y.1) (p:=y.2) ⟨_,_,_,rfl⟩ ⟨m,h⟩
theorem SlV.len63{α:Type}{K:EK α}{v:Value}{xs:List α}(h:SlV K w v xs):xs.length<=9223372036854775807:=by
  obtain⟨p,c,rfl,hn⟩:=h.sh
  by_cases hx:xs=[]
  . subst hx;exact Nat.zero_le _
  obtain⟨_,_,_,_,h1,h2⟩:=hn hx;exact Nat.le_trans h1 h2
set_option maxRecDepth 100000 in
theorem open_sm{b0:Nat}{v:Value}{d:DataW H}{p:List MemPlace}(hv:Value.okWide Tryz.prog w .any b0 24 v)(h:DataW.Trod enc Tryz.prog w base sp hd 24 v d p):∃(s:Sm) (p a b:Option Addr) (n1 c1 n2 c2 n3 c3:Nat),v=.agg #[.slice p n1 c1,.slice a n2 c2,.slice b n3 c3]/\SlV i8K w (.slice p n1 c1) s.c/\SlV i8K w (.slice a n2 c2) s.a/\SlV i8K w (.slice b n3 c3) s.b/\s.Ok:=by
  obtain⟨cs,rfl,hsz⟩:=okWide_struct Tryz.underlying24 hv;rw[show Tryz.prog.cellsOf 24=3 by kernel_rfl]at hsz;obtain⟨l⟩:=cs
  match l,hsz with
  |[c0,c1,c2],_=>
  obtain⟨fuel,hf⟩:=h;obtain⟨xs,n,_,_,_,hlen,hf⟩:=DataW.trod_struct Tryz.underlying24 hf
  match xs,hlen with
  |[y0,y1,y2],_=>
  obtain⟨c,k0,r0⟩:=cell_i8s (c:=c0) (m:=n) (y:=y0) (by simpa[Value.cells,cellsK_i8s]using hf 0 _ rfl);obtain⟨a,k1,r1⟩:=cell_i8s (c:=c1) (m:=n) (y:=y1) (by simpa[Value.cells,cellsK_i8s]using hf 1 _ rfl);obtain⟨b,k2,r2⟩:=cell_i8s (c:=c2) (m:=n) (y:=y2) (by simpa[Value.cells,cellsK_i8s]using hf 2 _ rfl);obtain⟨p0,e0,rfl,_⟩:=k0.sh;obtain⟨p1,e1,rfl,_⟩:=k1.sh;obtain⟨p2,e2,rfl,_⟩:=k2.sh;exact⟨⟨c,a,b⟩,p0,p1,p2,_,e0,_,e1,_,e2,rfl,k0,k1,k2,⟨r0,r1,r2,k0.len63,k1.len63,k2.len63⟩⟩
end
theorem bas_of{W:World}(h:laidMetH Tryz.prog Rows.lpPointsRow.laid W)(hs:W.ShapedOpen Tryz.prog):Bas W:=⟨tab_of_laid h,Tryz.laysM145.s1_3 W hs⟩
end Go.Proofs.YtjhaedfpigebdaaGreatDoor
namespace Go.Proofs.YtjhaedfpigebdaaGreatDoor
open Go.ChangeShapes Go.WideShapes Go.ChangeAt Go.RowKit Go.Joins Go.Deep
theorem band{a b:Bool}(h:a=true)(h2:b=true):(a&&b)=true:=by rw[h,h2];rfl
theorem fMaps:mapsRowed Tryz.prog=true:=by kernel_rfl
theorem fStops:(Tryz.prog.stops==[])=true:=by kernel_rfl
theorem fKnobs:(Tryz.prog.stopKnobs==[])=true:=by kernel_rfl
theorem fPlain:(Rows.lpPointsRow.plainKeys==Tryz.prog.plainKeys)=true:=by kernel_rfl
theorem fHeard:Tryz.prog.stopsHeard=true:=by kernel_rfl
theorem fEnter:Tryz.prog.mayEnter=true:=by kernel_rfl
theorem fLifted:(Rows.lpPointsRow.lifted==Tryz.prog.liftsFinal)=true:=by kernel_rfl
theorem fMake:(Tryz.prog.make==some Rows.lpPointsRow.make)=true:=by kernel_rfl
theorem fMain:Tryz.prog.mainIs=some (true,"3ea0b42cd6116b0d4d4df326006ac646c8f156b65a5b55403e1acb8a2b077675".toList):=by kernel_rfl
theorem fLooks:false=Tryz.prog.looks []:=by kernel_rfl
end Go.Proofs.YtjhaedfpigebdaaGreatDoor
