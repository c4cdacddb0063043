/- The shares of the arcs: the reference. -/

import Derived.Test.YtlhbcopaakejgaaGreatDoorDsWK
import Derived.Test.YtlhbcopaakejgaaGreatDoorDagN
namespace Go.Proofs.YtlhbcopaakejgaaGreatDoor
open Go.RowKit
open Go.Lib (decDigits)
theorem natI_get{o:List Nat}{j m:Nat}(h:o[j]?=some m):(natI o)[j]?=some (m:Int):=by unfold natI;rw[List.getElem?_map,h];rfl
set_option maxRecDepth 100000 in
set_option maxHeartbeats 2000000 in
theorem rshare_any(w:World){v_t:Value}{t:TopD}(ht:TopV w v_t t){p_d:Option Addr}{n_d c_d:Nat}{down:List Bool}(hd:SlV boolK w (.slice p_d n_d c_d) down)(n:Int)(d:Int)(hl:t.links.length≤100000):
    Calls Tryz.prog 7 #[v_t,.slice p_d n_d c_d,.int .i64 n,.int .i64 d] w fun e w'=> ∃x:Duo Sl (List Rat),e=.returned (.tuple #[.slice x.a.p x.a.l x.a.c,.int .i64 (chkS t down n d)])∧SS w [rO refK 46 x.a.p x.a.l x.a.c x.b,cF (ShrP t down n d x.b)] w':=by
  have ht_0:=ht;obtain⟨p_t,n_t,c_t,q_t,m_t,d_t,rfl,ht_1,ht_2⟩:=ht_0;have b_t:m_t≤100000:=(by rw[ht_2.one0];exact hl);have a_t:arcsD t≤200000:=(by unfold arcsD;omega);have hK:=SS.start w;refine Calls.hide (fun Q0 hQ0=>?_);go_enter Tryz.func7,Tryz.ntmps7;go_upto_region 0 with(fail);refine wp_region_T [3,0,0] hK ?_;clear hK;refine eA (.cells #[.int .i64 t.nodes,.slice p_t n_t c_t,.slice q_t m_t d_t] 25) (fun R1=>?_)
  iterate 2 refine e0 ?_
  refine sxEnd (fun W2 hK=>?_);go_upto_region 1 with(fail);refine wp_region_T [1,0,0,2,0,0,0,0,0] hK ?_;clear hK;refine eL m0 ?_
  iterate 2 refine e0 ?_
  refine eC (fun w k=>rdist_any w (ht.below k.old) (hd.below k.old) d hl) (fun x3=>?_);obtain⟨p4,n4,c4⟩:=x3;dsimp only
  iterate 5 refine e0 ?_
  refine sxEnd (fun W5 hK=>?_);go_upto_region 2 with(fail);refine wp_region_T [0,0] hK ?_;clear hK;refine e0 ?_;refine eB (((chkD t down [d])) !=0) (fun b1 hb1=>?_);refine sxEnd (fun W6 hK=>?_)
  cases b1
  · --
   go_upto_region 4 with(fail);refine wp_region_T [0,0,0,0,0,1,0,0] hK ?_;clear hK;refine e0 ?_;refine eB (decide (n<0)) (fun b2 hb2=>?_);refine e0 ?_
   cases b2
   · --
    have q_b2:0≤n:=Int.not_lt.1 (of_decide_eq_false hb2.out)
    iterate 2 refine e0 ?_
    refine eL m2 ?_;refine eB (decide (t.nodes≤n)) (fun b3 hb3=>?_);refine e0 ?_;refine sxEnd (fun W7 hK=>?_)
    cases b3
    · --
     have q_b3:n<t.nodes:=Int.not_le.1 (of_decide_eq_false hb3.out);have hc:=hid (show chkD t down [d]=0 by have q:=hb1.out;simpa using q);have hI0:=hid (hK.get m1 hc.out);replace hK:=hK.subl (sK2 (sC2 (List.Sublist.refl _)));have hok:=hid (chk_ok hc.out);obtain⟨n1,rfl⟩:∃k:Nat,n=(k:Int):=⟨n.toNat,(Int.toNat_of_nonneg (by omega)).symm⟩;obtain⟨d1,rfl⟩:∃k:Nat,d=(k:Int):=⟨d.toNat,(Int.toNat_of_nonneg hok.out.2.2.1).symm⟩;have ht2:=hok.out.1;have hnn:=hid (topN ht2).1;have hn1:n1<nN t:=(by have q:=hnn.out;omega);have hI:RowKit.Hid (IsDst t down d1 (dstD t down d1)):=hI0;clear hI0;have hX:=hid (show chkN t down n1 d1=0 by unfold chkN;rw[if_pos hc.out,if_pos (by omega)]);rw[show dstR t down d1=dstD t down d1 from dstR_ok hc.out]at hK;have hnnt:=hid (topN ht2);have hnm:nN t≤64:=hnnt.out.2.2.1;have ha5:=arcs_le ht2;have hDn:=hid ((hK.len m0).trans hI.out.1);have hDn1:=Nat.le_of_eq hDn.out.symm;have hDn2:=Nat.le_of_eq hDn.out;have i8:n1<n4:=(by omega);obtain⟨g8,rfl⟩:=hK.pt m0 i8;have l8:n1<(dstD t down d1).length:=Nat.lt_of_lt_of_eq i8 (hK.len m0);obtain⟨dn,edn⟩:∃z0,RowKit.Hid ((dstD t down d1)[n1]?=some z0):=⟨_,hid (List.getElem?_eq_getElem l8)⟩;go_upto_region 6 with(fail);refine wp_region_T [0,0,0,1,0] hK ?_;clear hK
     iterate 3 refine e0 ?_
     refine eR (fun w k=>(k.own m0).int edn.out) ?_;refine eB (decide (dn<0)) (fun b4 hb4=>?_);refine sxEnd (fun W9 hK=>?_)
     cases b4
     · --
      have q_b4:0≤dn:=Int.not_lt.1 (of_decide_eq_false hb4.out);go_upto_region 8 with(fail);refine wp_region_S _ [0,0,0,0,3,0,0,3,0,0] hK ?_ (List.Sublist.refl _);clear hK;refine e0 ?_;refine eL0 m1 ?_;refine e0 ?_;refine eV (.int .i64 ((arcsD t:Nat):Int)) (fun w'=>by go_simp;(try go_bits);exact⟨congrArg (Value.int .i64) (by unfold arcsD;have:=ht_2.one0;first|omega|(unfold wrap64;omega)),rfl⟩) ?_;refine eMk (K:=refK) (t:=46) (x:=(0:Rat)) (arcsD t) refz0 rfl infoR (by show arcsD t*3≤_;omega) (by decide) (fun g10=>?_);refine e0 ?_;refine eL0 m1 ?_;refine eMk (K:=refK) (t:=46) (x:=(0:Rat)) (nN t) refz0 rfl infoR (by show nN t*3≤_;omega) (by decide) (fun g11=>?_) (hv:=hnnt.out.1)
      iterate 2 refine e0 ?_
      refine sxEnd (fun W12 hK=>?_);replace hK:=hK.made (K:=refK) (n:=(nN t)) refz0 (by simp[maxLen];omega);replace hK:=hK.up1;replace hK:=hK.made (K:=refK) (n:=(arcsD t)) refz0 (by simp[maxLen];omega);rw[show List.replicate (arcsD t) (0:Rat)=sh0 (arcsD t)from rfl]at hK;have i13:n1<(nN t):=(by omega);have l13:n1<(List.replicate (nN t) (0:Rat)).length:=Nat.lt_of_lt_of_eq i13 (hK.len m1);obtain⟨x0,ex0⟩:∃z0,RowKit.Hid ((List.replicate (nN t) (0:Rat))[n1]?=some z0):=⟨_,hid (List.getElem?_eq_getElem l13)⟩;go_upto_region 9 with(fail);refine wp_region_T [0,0,2,0,4] hK ?_;clear hK
      iterate 2 refine e0 ?_
      refine eC (fun w k=>ref_S (rint_q 1 w (by omega) (by omega))) (fun x14=>?_);obtain⟨⟨p15,l15,c15⟩,⟨q15,m15,d15⟩⟩:=x14;dsimp only;refine e0 ?_;refine eWR (y:=((1:Int):Rat)) 2 l13 (fun w k=>k.rq m0) ?_ (hi:=rfl);refine sxEnd (fun W16 hK=>?_);rw[show(List.replicate (nN t) (0:Rat)).set n1 ((1:Int):Rat)=am0 (nN t) n1 from(by rw[show((1:Int):Rat)=1 from rfl];rfl)]at hK;replace hK:=hK.subl (sC2 (List.Sublist.refl _));go_upto_region 10 with(fail);refine wp_region_T [1,0,0,2,0,0,0,0,0] hK ?_;clear hK;refine eL m3 ?_
      iterate 2 refine e0 ?_
      refine eC (fun w k=>rorder_any w (ht.below k.old) (hd.below k.old) (d1:Int) hl) (fun x17=>?_);obtain⟨p18,n18,c18⟩:=x17;dsimp only
      iterate 5 refine e0 ?_
      refine sxEnd (fun W19 hK=>?_);have hio:=hid (hK.get m1 hc.out).2;have hoe:ordR t down (d1:Int)=ordD (dstD t down d1):=if_pos hc.out;rw[hoe]at hK;clear hoe;have hon:(ordD (dstD t down d1)).length≤nN t:=Nat.le_trans (nd_len (nd_ord hio.out) (fun x h=>List.mem_range.2 ((hio.out.2 x).1 h).1)) (by simp);replace hK:=hK.subl (sK2 (sC2 (List.Sublist.refl _)));have hio1:=Nat.le_of_eq ((hK.len m0).trans (natI_len _));have hio2:=Nat.le_of_eq ((hK.len m0).trans (natI_len _)).symm;go_wp2_with fail;go_loopw [16] (fun s16 wl=> ∃(j:Nat) (am:List Rat) (sh:List Rat) (Pd:Nat) (Bd:Nat),s16=.int .i64 (j:Int)∧(j≤(ordD (dstD t down d1)).length)∧RowKit.Hid (ShrI t down (dstD t down d1) n1 d1 ((ordD (dstD t down d1)).take j).reverse am sh)∧RowKit.Hid (LimA Pd Bd (fun x=>am.getD x 0))∧RowKit.Hid (Pd≤512^j)∧RowKit.Hid (Bd≤513^j)∧SS w ([rO intK 3 (some ⟨g8,0,none⟩) n4 c4 (dstD t down d1),rO refK 46 (some ⟨g11,0,none⟩) (nN t) (nN t) am,rO refK 46 (some ⟨g10,0,none⟩) (arcsD t) (arcsD t) sh,rO intK 3 p18 n18 c18 (natI (ordD (dstD t down d1))),bx R1 (.cells #[.int .i64 t.nodes,.slice p_t n_t c_t,.slice q_t m_t d_t] 25)]) wl) (fun s16 _=>(ordD (dstD t down d1)).length-(intOf s16).toNat)
      case atStart=>exact⟨0,am0 (nN t) n1,sh0 (arcsD t),1,1,rfl,(by omega),hid (ShrI.start hn1),hid (LimA.am0 hn1),hid (by simp),hid (by simp),hK.up4.up1.up2.up3.up4⟩
      case round=>
       clear hK;obtain⟨j,am,sh,Pd,Bd,rfl,hj0,h_S,h_L,h_P,h_B,hK⟩:=hrel;generalize wr=W20 at hK⊢;go_upto_region 12 with(fail);refine wp_region_T [0,0,0,0] hK ?_;clear hK
       iterate 3 refine e0 ?_
       refine eB (decide (((j:Int))<((n18:Int)))) (fun b5 hb5=>?_);refine sxEnd (fun W21 hK=>?_)
       cases b5
       · --
        have q_b5:((n18:Int))≤((j:Int)):=Int.not_lt.1 (of_decide_eq_false hb5.out);have hX2:chkS t down n1 d1=0:=by unfold chkS;rw[if_pos hX.out,if_neg (by show ¬atD (dstD t down d1) n1<0;rw[atD_of edn.out];omega)]
        go_wp2
        try go_ret
        show Q0 (.returned (.tuple #[.slice (some ⟨g10,0,none⟩) (arcsD t) (arcsD t),.int .i64 0])) _
        exact(by obtain rfl:=hQ0.out;rw[show Ending.returned (.tuple #[.slice (some ⟨g10,0,none⟩) (arcsD t) (arcsD t),.int .i64 0])=.returned (.tuple #[.slice (some ⟨g10,0,none⟩) (arcsD t) (arcsD t),.int .i64 (chkS t down n1 d1)])from by rw[hX2]];exact⟨⟨⟨(some ⟨g10,0,none⟩),(arcsD t),(arcsD t)⟩,sh⟩,rfl,((hK.subl (sC2 (sC2 (sK2 (sC2 (sC2 sZ2)))))).fact (cF (ShrP t down n1 d1 sh)) ⟨fun e=>absurd hX2 e,fun _=>⟨hI.out,hio.out,am,by have q:=h_S.out;rw[List.take_of_length_le (by omega)]at q;exact q⟩,shr_lm ht2 h_S.out (fun k=>(h_L.out.2 k).lm h_L.out.1 (Nat.le_trans h_P.out (pow_nd (show j≤64 by omega)).1) (Nat.le_trans h_B.out (pow_nd (show j≤64 by omega)).2))⟩).up1⟩)
       · --
        have q_b5:((j:Int))<((n18:Int)):=of_decide_eq_true hb5.out;have hj:j<(ordD (dstD t down d1)).length:=by omega
        have i22:j<n18:=(by omega);obtain⟨g22,rfl⟩:=hK.pt m3 i22;have l22:j<(natI (ordD (dstD t down d1))).length:=Nat.lt_of_lt_of_eq i22 (hK.len m3);obtain⟨xm,exm⟩:∃z0,RowKit.Hid ((natI (ordD (dstD t down d1)))[j]?=some z0):=⟨_,hid (List.getElem?_eq_getElem l22)⟩;obtain⟨m,hm1,rfl⟩:=natI_at exm.out;have hm2:=hid hm1;have hmN:=((hio.out.2 m).1 (List.mem_of_getElem? hm1)).1;clear hm1;go_upto_region 14 with(fail);refine wp_region_S _ [0,0,0,0,0,0,0,0,2,0] hK ?_ (List.Sublist.refl _);clear hK;refine eL0 m4 ?_
        iterate 5 refine e0 ?_
        refine eR0 (fun w k=>(k.own m3).int exm.out) ?_;refine e0 ?_;refine eC (fun w k=>rnext_any w (ht.below k.old) (hd.below k.old) (k.slv m0) m d1 hl ht2 (hid hok.out.2.1) hI.out.1 (hI.out.small ht2)) (fun x23=>?_);obtain⟨p24,n24,c24⟩:=x23;dsimp only;refine e0 ?_;refine sxEnd (fun W25 hK=>?_);have hu1:=Nat.le_of_eq ((hK.len m0).trans (natI_len _));have hu2:=Nat.le_of_eq ((hK.len m0).trans (natI_len _)).symm;have hnl:=nxt_len t down (dstD t down d1) m d1;have hsl:=h_S.out.ls;have hal:=h_S.out.la;have hsl4:=Nat.le_of_eq hsl.symm;have hal4:=Nat.le_of_eq hal.symm;replace hsl:=hid hsl;replace hal:=hid hal;obtain⟨v,hv⟩:∃v,RowKit.Hid (am.getD m 0/(((nxtD t down (dstD t down d1) m d1).length:Nat):Rat)=v):=⟨_,hid rfl⟩;obtain⟨L1,hL1,hL2,hL3,hL4⟩:∃L1:Nat,0<L1∧(nxtD t down (dstD t down d1) m d1).length≤L1∧L1≤512∧RowKit.Hid (0<(nxtD t down (dstD t down d1) m d1).length→L1=(nxtD t down (dstD t down d1) m d1).length):=⟨max 1 (nxtD t down (dstD t down d1) m d1).length,by omega,by omega,by omega,hid (by omega)⟩;have hpw:=hid (pow_nd (show j≤64 by omega));have hpw2:=hid (pow_nd (show j+1≤64 by omega));go_wp2_with fail;go_loopw [18] (fun s18 wl=> ∃(ki:Nat) (am2:List Rat) (sh2:List Rat),s18=.int .i64 (ki:Int)∧(ki≤(nxtD t down (dstD t down d1) m d1).length)∧RowKit.Hid (PshI t v am sh ((nxtD t down (dstD t down d1) m d1).take ki) am2 sh2)∧RowKit.Hid (LimA (Pd*L1) (Bd+ki*Bd) (fun x=>am2.getD x 0))∧SS w ([rO intK 3 p24 n24 c24 (natI (nxtD t down (dstD t down d1) m d1)),rO intK 3 (some ⟨g8,0,none⟩) n4 c4 (dstD t down d1),rO refK 46 (some ⟨g11,0,none⟩) (nN t) (nN t) am2,rO refK 46 (some ⟨g10,0,none⟩) (arcsD t) (arcsD t) sh2,rO intK 3 (some ⟨g22,0,none⟩) n18 c18 (natI (ordD (dstD t down d1))),bx R1 (.cells #[.int .i64 t.nodes,.slice p_t n_t c_t,.slice q_t m_t d_t] 25)]) wl) (fun s18 _=>(nxtD t down (dstD t down d1) m d1).length-(intOf s18).toNat)
        case atStart=>exact⟨0,am,sh,rfl,(by omega),hid PshI.nil,hid (by have q:=h_L.out.scale hL1;rw[Nat.zero_mul,Nat.add_zero];exact q),hK⟩
        case round=>
         clear hK;obtain⟨ki,am2,sh2,rfl,hk0,h_Q,h_M,hK⟩:=hrel;generalize wr=W26 at hK⊢;go_upto_region 16 with(fail);refine wp_region_T [0,0,0,0] hK ?_;clear hK
         iterate 3 refine e0 ?_
         refine eB (decide (((ki:Int))<((n24:Int)))) (fun b6 hb6=>?_);refine sxEnd (fun W27 hK=>?_)
         cases b6
         · --
          have q_b6:((n24:Int))≤((ki:Int)):=Int.not_lt.1 (of_decide_eq_false hb6.out);have hall:=hid (show PshI t (am.getD m 0/(((nxtD t down (dstD t down d1) m d1).length:Nat):Rat)) am sh (nxtD t down (dstD t down d1) m d1) am2 sh2 by have q:=h_Q.out;rw[List.take_of_length_le (by omega), ←hv.out]at q;exact q);have hpn:=hid (pow_next (k:=ki) h_P.out h_B.out hL3 (show ki≤L1 by omega))
          (try go_wp2)
          go_roundw
          case rel=>exact⟨j+1,am2,sh2,(Pd*L1),(Bd+ki*Bd),(by first|rfl|go_num),(by omega),hid (shr_next ht2 hio.out h_S.out hm2.out hall.out),hid h_M.out,hid hpn.out.1,hid hpn.out.2,(hK.subl (sC2 (List.Sublist.refl _)))⟩
          case measure=>simp[intOf]<;>omega
         · --
          have q_b6:((ki:Int))<((n24:Int)):=of_decide_eq_true hb6.out;have hk:ki<(nxtD t down (dstD t down d1) m d1).length:=by omega
          have hsl2:=hid (h_Q.out.ls.trans hsl.out);have hal2:=hid (h_Q.out.la.trans hal.out);have hsl3:=Nat.le_of_eq hsl2.out.symm;have hal3:=Nat.le_of_eq hal2.out.symm;have hpn0:=hid (pow_next (k:=ki) h_P.out h_B.out hL3 (show ki≤L1 by omega));have i28:j<n18:=(by omega);have l28:j<(natI (ordD (dstD t down d1))).length:=Nat.lt_of_lt_of_eq i28 (hK.len m4);have i29:m<(nN t):=hmN;have l29:m<am2.length:=Nat.lt_of_lt_of_eq i29 (hK.len m2);obtain⟨xam,exam⟩:∃z0,RowKit.Hid (am2[m]?=some z0):=⟨_,hid (List.getElem?_eq_getElem l29)⟩;have hxa:=hid (show am2.getD m 0=xam by rw[List.getD_eq_getElem?_getD,exam.out];rfl);have hx2:LmQ 100 xam:=(by rw[←hxa.out];exact(h_M.out.2 m).lm h_M.out.1 (Nat.le_trans hpn0.out.1 hpw2.out.1) (Nat.le_trans hpn0.out.2 hpw2.out.2));have hy2:LmQ 100 ((n24:Int):Rat):=(LmQ.int (a:=1) (by unfold Lm;have q:n24≤512:=(by omega);show n24<B32^1;exact Nat.lt_of_le_of_lt q (by decide)) (by decide)).up (by decide);replace hK:=hK.up2;obtain⟨⟨⟨p30,l30,c30⟩,⟨q30,u30,d30⟩⟩,hK⟩:=hK.toK exam.out;go_upto_region 18 with(fail);refine wp_region_S _ [0,0,0,0,0,0,0,0,0,2,2,0,0,0,3,4,0] hK ?_ (List.Sublist.refl _);clear hK
          iterate 4 refine e0 ?_
          refine eR0 (fun w k=>(k.own m5).int (natI_get hm2.out)) ?_;refine e0 ?_;refine eRm0 (F:=(rK 46 g11 (nN t) (nN t) am2 m ⟨⟨p30,l30,c30⟩,⟨q30,u30,d30⟩⟩ xam).F) (fun w k=>k.get m0) (h1:=by intro w' k;obtain⟨_,_,c0,c1,c2⟩:=k;(try simp at c0 c1 c2);go_simp;(try go_bits);exact⟨rfl,rfl⟩) ?_
          iterate 2 refine e0 ?_
          refine eC (fun w k=>ref_S (rint_q (n24:Int) w (by omega) (by omega))) (fun x31=>?_);obtain⟨⟨p32,l32,c32⟩,⟨q32,m32,d32⟩⟩:=x31;dsimp only;refine eC (fun w k=>ref2_S (rdiv_q _ _ _ _ w (k.rq m2) (k.rq m0) hx2 hy2 (by decide))) (fun x33=>?_);obtain⟨⟨p34,l34,c34⟩,⟨q34,m34,d34⟩⟩:=x33;dsimp only;generalize (if((n24:Int):Rat)=0 then(10:Int)else 0)=z34e
          iterate 3 refine e0 ?_
          refine eA (.cells #[.bool false,.slice none 0 0,.slice none 0 0] 46) (fun R35=>?_);refine eP 0 0 [.bool (isN (xam/((n24:Int):Rat))),.slice p34 l34 c34,.slice q34 m34 d34] ?_ (hs:=(sC2 (sC2 (sC2 (List.Sublist.refl _))))) (hq:=.inr ⟨rfl,rfl,rfl,rfl,rfl,rfl,rfl,rfl,rfl,trivial⟩);refine e0 ?_;refine sxEnd (fun W36 hK=>?_);replace hK:=hK.up3;replace hK:=hK.unK;have hq:=hid (show xam/((n24:Int):Rat)=v by rw[←hv.out, ←h_Q.out.own ht2 (by omega),hxa.out,show n24=(nxtD t down (dstD t down d1) m d1).length by omega];rfl);rw[hq.out]at hK;replace hK:=hK.subl (sK2 (sK2 (sK2 (sC2 (sC2 (List.Sublist.refl _))))));have hvL:RowKit.Hid (LimV (Pd*L1) Bd v):=(by rw[←hv.out,hL4.out (by omega)];exact hid ((h_L.out.2 m).part h_L.out.1 (by omega)));have i37:ki<n24:=(by omega);obtain⟨g37,rfl⟩:=hK.pt m3 i37;have l37:ki<(natI (nxtD t down (dstD t down d1) m d1)).length:=Nat.lt_of_lt_of_eq i37 (hK.len m3);obtain⟨xa,exa⟩:∃z0,RowKit.Hid ((natI (nxtD t down (dstD t down d1) m d1))[ki]?=some z0):=⟨_,hid (List.getElem?_eq_getElem l37)⟩;obtain⟨a,ha0,rfl⟩:=natI_at exa.out;have ha1:=hid ha0;have ha2:=mem_nxt.1 (List.mem_of_getElem? ha0);have haA:=ha2.1;have hhN:=(nxt_less ht2 (List.mem_of_getElem? ha0)).2.2.1;clear ha0;go_upto_region 19 with(fail);refine wp_region_S _ [0,0,0,0,0,1,0] hK ?_ (List.Sublist.refl _);clear hK;refine eL0 m7 ?_
          iterate 3 refine e0 ?_
          refine eR0 (fun w k=>(k.own m3).int exa.out) ?_;refine eQ (fun w k=>rhead_any w (ht.below k.old) a hl ht2 haA) ?_;refine e0 ?_;refine sxEnd (fun W38 hK=>?_);have i39:a<(arcsD t):=haA;have l39:a<sh2.length:=Nat.lt_of_lt_of_eq i39 (hK.len m5);obtain⟨xs,exs⟩:∃z0,RowKit.Hid (sh2[a]?=some z0):=⟨_,hid (List.getElem?_eq_getElem l39)⟩;go_upto_region 20 with(fail);refine wp_region_S _ [0,0,0,0,0,0,0,4] hK ?_ (sK2 (sK2 (sK2 (sK2 (sK2 (sC2 (List.Sublist.refl _)))))));clear hK
          iterate 4 refine e0 ?_
          refine eR0 (fun w k=>(k.own m3).int exa.out) ?_;refine eL0 m1 ?_;refine e0 ?_;refine eWR (y:=v) 5 l39 (fun w k=>k.rq m2) ?_ (hi:=rfl) (hs:=(sK2 (sK2 (sK2 (sK2 (sK2 (sC2 (List.Sublist.refl _))))))));refine sxEnd (fun W40 hK=>?_);have i41:hN t a<(nN t):=hhN;have l41:hN t a<am2.length:=Nat.lt_of_lt_of_eq i41 (hK.len m0);obtain⟨xh,exh⟩:∃z0,RowKit.Hid (am2[hN t a]?=some z0):=⟨_,hid (List.getElem?_eq_getElem l41)⟩;have hxh:=hid (show am2.getD (hN t a) 0=xh by rw[List.getD_eq_getElem?_getD,exh.out];rfl);have hx3:LmQ 100 xh:=(by rw[←hxh.out];exact(h_M.out.2 (hN t a)).lm h_M.out.1 (Nat.le_trans hpn0.out.1 hpw2.out.1) (Nat.le_trans hpn0.out.2 hpw2.out.2));have hv3:=hvL.out.lm h_M.out.1 (Nat.le_trans hpn0.out.1 hpw2.out.1) (Nat.le_trans h_B.out hpw.out.2);go_upto_region 21 with(fail);refine wp_region_S _ [0,0,0,0,0,2,0,2,0,4] hK ?_ (sC2 (List.Sublist.refl _));clear hK
          iterate 5 refine e0 ?_
          refine eRr m0 exh.out (fun x42=>?_);obtain⟨⟨p42,l42,c42⟩,⟨q42,u42,d42⟩⟩:=x42;dsimp only;refine eL0 m0 ?_;refine eC (fun w k=>ref_S (radd_q _ _ _ _ w (k.rq m0) (k.rq m3) hx3 hv3 (by decide))) (fun x43=>?_);obtain⟨⟨p44,l44,c44⟩,⟨q44,m44,d44⟩⟩:=x43;dsimp only;refine e0 ?_;refine eWR (y:=(xh+v)) 2 l41 (fun w k=>k.rq m0) ?_ (hi:=rfl) (hs:=(sC2 (sC2 (sC2 (List.Sublist.refl _)))));refine sxEnd (fun W45 hK=>?_);rw[show am2.set (hN t a) (xh+v)=am2.set (hN t a) (am2.getD (hN t a) 0+v)from(by rw[show am2.getD (hN t a) 0=xh by rw[List.getD_eq_getElem?_getD,exh.out];rfl])]at hK
          (try go_wp2)
          go_roundw
          case rel=>exact⟨ki+1,(am2.set (hN t a) (am2.getD (hN t a) 0+v)),(sh2.set a v),(by first|rfl|go_num),(by omega),hid (by rw[List.take_succ_eq_append_getElem hk,show(nxtD t down (dstD t down d1) m d1)[ki]=a from(List.getElem?_eq_some_iff.1 ha1.out).2];exact h_Q.out.snoc (by omega) (by omega)),hid (by have q:=h_M.out.am_add hvL.out (show hN t a<am2.length by omega);rw[show Bd+(ki+1)*Bd=Bd+ki*Bd+Bd by rw[Nat.succ_mul,Nat.add_assoc]];exact q),(hK.subl (sC2 (sC2 (sK2 (sC2 (sC2 (List.Sublist.refl _))))))).up5.up5.up5.up3.up5.up5⟩
          case measure=>simp[intOf]<;>omega
     · --
      have q_b4:dn<0:=of_decide_eq_true hb4.out;replace hK:=hK.fact (rO refK 46 none 0 0 ([]:List Rat)) OwV.nil (fun _ h=>by cases h);have hX:chkS t down n1 d1=11∧chkS t down n1 d1≠0:=by unfold chkS;rw[if_pos hX.out,if_pos (by show atD (dstD t down d1) n1<0;rw[atD_of edn.out];omega)];exact⟨rfl,by decide⟩
      go_wp2
      try go_ret
      show Q0 (.returned (.tuple #[.slice none 0 0,.int .i64 11])) _
      exact(by obtain rfl:=hQ0.out;rw[show Ending.returned (.tuple #[.slice none 0 0,.int .i64 11])=.returned (.tuple #[.slice none 0 0,.int .i64 (chkS t down n1 d1)])from by rw[hX.1]];exact⟨⟨⟨none,0,0⟩,[]⟩,rfl,((hK.subl (sK2 (sC2 (sC2 sZ2)))).fact (cF (ShrP t down n1 d1 [])) ⟨fun _=>rfl,fun e=>absurd e hX.2,lm_nil⟩).up1⟩)
    · --
     have q_b3:t.nodes≤n:=of_decide_eq_true hb3.out;replace hK:=hK.fact (rO refK 46 none 0 0 ([]:List Rat)) OwV.nil (fun _ h=>by cases h);have hX:chkS t down n d=2∧chkS t down n d≠0:=by have hc:chkN t down n d=2∧chkN t down n d≠0:=by{unfold chkN;have q:=hb1.out;simp at q;rw[if_pos q,if_neg (by omega)];exact⟨rfl,by decide⟩};unfold chkS;rw[if_neg hc.2];exact hc
     go_wp2
     try go_ret
     show Q0 (.returned (.tuple #[.slice none 0 0,.int .i64 2])) _
     exact(by obtain rfl:=hQ0.out;rw[show Ending.returned (.tuple #[.slice none 0 0,.int .i64 2])=.returned (.tuple #[.slice none 0 0,.int .i64 (chkS t down n d)])from by rw[hX.1]];exact⟨⟨⟨none,0,0⟩,[]⟩,rfl,((hK.subl (sK2 (sC2 (sC2 (sC2 sZ2))))).fact (cF (ShrP t down n d [])) ⟨fun _=>rfl,fun e=>absurd e hX.2,lm_nil⟩).up1⟩)
   · --
    have q_b2:n<0:=of_decide_eq_true hb2.out
    iterate 4 refine eN ?_
    refine e0 ?_;refine sxEnd (fun W46 hK=>?_);replace hK:=hK.fact (rO refK 46 none 0 0 ([]:List Rat)) OwV.nil (fun _ h=>by cases h);have hX:chkS t down n d=2∧chkS t down n d≠0:=by have hc:chkN t down n d=2∧chkN t down n d≠0:=by{unfold chkN;have q:=hb1.out;simp at q;rw[if_pos q,if_neg (by omega)];exact⟨rfl,by decide⟩};unfold chkS;rw[if_neg hc.2];exact hc
    go_wp2
    try go_ret
    show Q0 (.returned (.tuple #[.slice none 0 0,.int .i64 2])) _
    exact(by obtain rfl:=hQ0.out;rw[show Ending.returned (.tuple #[.slice none 0 0,.int .i64 2])=.returned (.tuple #[.slice none 0 0,.int .i64 (chkS t down n d)])from by rw[hX.1]];exact⟨⟨⟨none,0,0⟩,[]⟩,rfl,((hK.subl (sK2 (sC2 (sC2 (sC2 sZ2))))).fact (cF (ShrP t down n d [])) ⟨fun _=>rfl,fun e=>absurd e hX.2,lm_nil⟩).up1⟩)
  · --
   replace hK:=hK.fact (rO refK 46 none 0 0 ([]:List Rat)) OwV.nil (fun _ h=>by cases h);have hX:chkS t down n d=chkD t down [d]∧chkS t down n d≠0:=by have hc:chkN t down n d=chkD t down [d]∧chkN t down n d≠0:=by{unfold chkN;have q:=hb1.out;simp at q;rw[if_neg q];exact⟨rfl,q⟩};unfold chkS;rw[if_neg hc.2];exact hc
   go_wp2
   try go_ret
   show Q0 (.returned (.tuple #[.slice none 0 0,.int .i64 (chkD t down [d])])) _
   exact(by obtain rfl:=hQ0.out;rw[show Ending.returned (.tuple #[.slice none 0 0,.int .i64 (chkD t down [d])])=.returned (.tuple #[.slice none 0 0,.int .i64 (chkS t down n d)])from by rw[hX.1]];exact⟨⟨⟨none,0,0⟩,[]⟩,rfl,((hK.subl (sK2 (sC2 (sC2 (sC2 sZ2))))).fact (cF (ShrP t down n d [])) ⟨fun _=>rfl,fun e=>absurd e hX.2,lm_nil⟩).up1⟩)
end Go.Proofs.YtlhbcopaakejgaaGreatDoor
