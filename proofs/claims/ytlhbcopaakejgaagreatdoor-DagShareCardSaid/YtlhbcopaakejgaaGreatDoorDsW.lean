/- The shares of the arcs. -/

import Derived.Test.YtlhbcopaakejgaaGreatDoorDagL
import Derived.Test.YtlhbcopaakejgaaGreatDoorSv
import Derived.Test.YtlhbcopaakejgaaGreatDoorDsV
namespace Go.Proofs.YtlhbcopaakejgaaGreatDoor
open Go.RowKit
open Go.Lib (decDigits)
theorem infoQ:(Tryz.prog.info? 41).map (fun i=>(i.zero,i.size,i.bytes))=some (some (.agg #[.bool false,.slice none 0 0,.slice none 0 0]),ratK.sz,56):=by kernel_rfl
theorem rat0(w:World):ratK.R w [.bool false,.slice none 0 0,.slice none 0 0] 0:=⟨_,_,_,rfl,RatV.zero w⟩
theorem mapT:MapT Tryz.prog 63 3 41 (.agg #[.bool false,.slice none 0 0,.slice none 0 0]):=⟨Tryz.underlying63,Tryz.underlying3,Tryz.zeroValue41⟩
noncomputable def chkS(t:TopD)(down:List Bool)(n d:Int):Int:=if chkN t down n d=0 then(if atD (dstD t down d.toNat) n.toNat<0 then 11 else 0)else chkN t down n d
theorem arcs_le{t:TopD}(h:topOk t=true):arcsD t≤512:=by
  unfold topOk at h;rw[Bool.and_eq_true]at h;have:=of_decide_eq_true h.1;unfold arcsD;omega
def ShrP(t:TopD)(down:List Bool)(n d:Int)(sh:List Rat):Prop:=(chkS t down n d≠0→sh=[])∧(chkS t down n d=0→IsDst t down d.toNat (dstD t down d.toNat)∧IsOrd (nN t) (dstD t down d.toNat) (ordD (dstD t down d.toNat))∧ ∃am,ShrI t down (dstD t down d.toNat) n.toNat d.toNat (ordD (dstD t down d.toNat)).reverse am sh)∧ ∀a,LmQ 101 (sh.getD a 0)
theorem lm_nil:∀a,LmQ 101 (([]:List Rat).getD a 0):=fun a=>(LmQ.int (a:=1) (z:=0) (by unfold Lm;decide) (by decide)).up (by decide)
theorem shr_lm{t:TopD}{down:List Bool}{l:List Int}{s d:Nat}{o:List Nat}{am sh:List Rat}(ht:topOk t=true)(h:ShrI t down l s d o am sh)(hl:∀k,LmQ 100 (am.getD k 0))(a:Nat):LmQ 101 (sh.getD a 0):=by
  rw[h.hs a]
  split
  · rename_i w
    have hm:=mem_nxt.2 ⟨w.1,rfl,w.2.2⟩;have h0:=List.length_pos_of_mem hm
    have h1:(nxtD t down l (tN t a) d).length≤512:=by
      have:=arcs_le ht;unfold nxtD;exact Nat.le_trans (List.length_filter_le _ _) (by simp;omega)
    refine((hl _).div (y:=(((nxtD t down l (tN t a) d).length:Int):Rat)) (LmQ.int (a:=1) (by unfold Lm;exact Nat.lt_of_le_of_lt (show(((nxtD t down l (tN t a) d).length:Int)).natAbs≤512 by omega) (by decide)) (by decide)) ?_).up (by decide);intro q;have:=Rat.intCast_inj.1 (q.trans Rat.intCast_zero.symm);omega
  · exact lm_nil 0
theorem LimA.am0{n s:Nat}(hs:s<n):LimA 1 1 (fun x=>(Go.Proofs.YtlhbcopaakejgaaGreatDoor.am0 n s).getD x 0):=by
  have e:(fun x=>(Go.Proofs.YtlhbcopaakejgaaGreatDoor.am0 n s).getD x 0)=fun k=>if k=s then(1:Rat)else 0:=funext fun x=>am0_at hs
  rw[e];exact LimA.start
theorem LimA.am_add{Pd Bd C m:Nat}{am:List Rat}{v:Rat}(h:LimA Pd Bd (fun x=>am.getD x 0))(hv:LimV Pd C v)(hm:m<am.length):LimA Pd (Bd+C) (fun x=>(am.set m (am.getD m 0+v)).getD x 0):=by
  have e:(fun x=>(am.set m (am.getD m 0+v)).getD x 0)=fun j=>if j=m then am.getD j 0+v else am.getD j 0:=funext fun x=>by
    rw[getD_set hm]
    by_cases q:m=x
    · rw[if_pos q,if_pos q.symm,q]
    · rw[if_neg q,if_neg (fun w=>q w.symm)]
  rw[e];exact h.add (k:=m) hv
set_option maxRecDepth 100000 in
set_option maxHeartbeats 1000000 in
theorem share_any(w:World){v_t:Value}{t:TopD}(ht:TopV w v_t t){p_d:Option Addr}{n_d c_d:Nat}{down:List Bool}(hd:SlV boolK w (.slice p_d n_d c_d) down)(n:Int)(d:Int)(hl:t.links.length≤100000):
    Calls Tryz.prog 6 #[v_t,.slice p_d n_d c_d,.int .i64 n,.int .i64 d] w fun e w'=> ∃x:Duo Sl (List Rat),e=.returned (.tuple #[.slice x.a.p x.a.l x.a.c,.int .i64 (chkS t down n d)])∧SS w [rO ratK 41 x.a.p x.a.l x.a.c x.b,cF (ShrP t down n d x.b)] w':=by
  have ht_0:=ht;obtain⟨p_t,n_t,c_t,q_t,m_t,d_t,rfl,ht_1,ht_2⟩:=ht_0;have b_t:m_t≤100000:=(by rw[ht_2.one0];exact hl);have a_t:arcsD t≤200000:=(by unfold arcsD;omega);have hK:=SS.start w;refine Calls.hide (fun Q0 hQ0=>?_);go_enter Tryz.func6,Tryz.ntmps6;go_upto_region 0 with(fail);refine wp_region_T [3,0,0] hK ?_;clear hK;refine eA (.cells #[.int .i64 t.nodes,.slice p_t n_t c_t,.slice q_t m_t d_t] 25) (fun R1=>?_)
  iterate 2 refine e0 ?_
  refine sxEnd (fun W2 hK=>?_);go_upto_region 1 with(fail);refine wp_region_T [1,0,0,0,2,0,0,0,0,0] hK ?_;clear hK;refine eL m0 ?_
  iterate 3 refine e0 ?_
  refine eC (fun w k=>dists_any w (ht.below k.old) (hd.below k.old) n d hl) (fun x3=>?_);obtain⟨p4,n4,c4⟩:=x3;dsimp only
  iterate 5 refine e0 ?_
  refine sxEnd (fun W5 hK=>?_);go_upto_region 2 with(fail);refine wp_region_T [0,0] hK ?_;clear hK;refine e0 ?_;refine eB (((chkN t down n d)) !=0) (fun b1 hb1=>?_);refine sxEnd (fun W6 hK=>?_)
  cases b1
  · --
   have hX:=hid (show chkN t down n d=0 by have q:=hb1.out;simpa using q);have hI0:=hid (hK.get m1 hX.out);replace hK:=hK.subl (sK2 (sC2 (List.Sublist.refl _)));have hok:=hid (chk_ok (chkN_ok hX.out).1);obtain⟨n1,rfl⟩:∃k:Nat,n=(k:Int):=⟨n.toNat,(Int.toNat_of_nonneg (chkN_ok hX.out).2.1).symm⟩;obtain⟨d1,rfl⟩:∃k:Nat,d=(k:Int):=⟨d.toNat,(Int.toNat_of_nonneg hok.out.2.2.1).symm⟩;have ht2:=hok.out.1;have hn1:n1<nN t:=(by have q:=(chkN_ok hX.out).2.2;rw[(topN ht2).1]at q;omega);have hd1:d1<nN t:=(by have q:=hok.out.2.2.2;rw[(topN ht2).1]at q;omega);have hI:RowKit.Hid (IsDst t down d1 (dstD t down d1)):=hI0;clear hI0;rw[show dstN t down n1 d1=dstD t down d1 from if_pos hX.out]at hK;have hnn:=hid (topN ht2);have hnm:nN t≤64:=hnn.out.2.2.1;have ha5:=arcs_le ht2;have hDn:=hid ((hK.len m0).trans hI.out.1);have hDn1:=Nat.le_of_eq hDn.out.symm;have hDn2:=Nat.le_of_eq hDn.out;have i7:n1<n4:=(by omega);obtain⟨g7,rfl⟩:=hK.pt m0 i7;have l7:n1<(dstD t down d1).length:=Nat.lt_of_lt_of_eq i7 (hK.len m0);obtain⟨dn,edn⟩:∃z0,RowKit.Hid ((dstD t down d1)[n1]?=some z0):=⟨_,hid (List.getElem?_eq_getElem l7)⟩;go_upto_region 4 with(fail);refine wp_region_T [0,0,0,1,0] hK ?_;clear hK
   iterate 3 refine e0 ?_
   refine eR (fun w k=>(k.own m0).int edn.out) ?_;refine eB (decide (dn<0)) (fun b2 hb2=>?_);refine sxEnd (fun W8 hK=>?_)
   cases b2
   · --
    have q_b2:0≤dn:=Int.not_lt.1 (of_decide_eq_false hb2.out);go_upto_region 6 with(fail);refine wp_region_T [1,2,0] hK ?_;clear hK;refine eL m1 ?_;refine eC (fun w k=>leaving_any w (ht.below k.old) hl ht2) (fun x9=>?_);obtain⟨⟨p10,n10,c10⟩,ss10⟩:=x9;dsimp only;refine e0 ?_;refine sxEnd (fun W11 hK=>?_);go_upto_region 7 with(fail);refine wp_region_T [1,1,3,0] hK ?_;clear hK;refine eL m2 ?_;refine eQ (fun w k=>arcs_any w (ht.below k.old) hl) ?_;refine eMk (K:=ratK) (t:=41) (x:=(0:Rat)) (arcsD t) rat0 rfl infoQ (by show arcsD t*3≤_;omega) (by decide) (fun g12=>?_);refine e0 ?_;refine sxEnd (fun W13 hK=>?_);replace hK:=hK.made (K:=ratK) (n:=(arcsD t)) rat0 (by simp[maxLen];omega);go_upto_region 8 with(fail);refine wp_region_T [3,0,2,4,0,0] hK ?_;clear hK;refine eMm (fun RM=>?_);refine e0 ?_;refine eC (fun w k=>rat_S (qint_any 1 w (by omega) (by omega))) (fun x14=>?_);obtain⟨⟨p15,l15,c15⟩,⟨q15,m15,d15⟩⟩:=x14;dsimp only;refine eUp (v:=.agg #[.bool (isN (((1:Int):Rat))),.slice p15 l15 c15,.slice q15 m15 d15]) mapT 1 ?_
    iterate 2 refine e0 ?_
    refine sxEnd (fun W16 hK=>?_);have hFn:=hid ((hK.lenF m3).trans ((hK.fam m3).len.trans (lvD_len ..)));have hFn1:=Nat.le_of_eq hFn.out.symm;have hFn2:=Nat.le_of_eq hFn.out;replace hK:=hK.mnil;replace hK:=hK.mup m0 m1 (n1:Int);generalize (upI ([]) (n1:Int) (.agg #[.bool (isN (((1:Int):Rat))),.slice p15 l15 c15,.slice q15 m15 d15]):List (Int × Value))=lm0 at hK;rw[show((1:Int):Rat)=1 from rfl,amF_start hn1]at hK;replace hK:=hK.subl (sK2 (sC2 (sC2 (List.Sublist.refl _))));rw[show List.replicate (arcsD t) (0:Rat)=sh0 (arcsD t)from rfl]at hK;go_upto_region 9 with(fail);refine wp_region_T [0,2,0,0] hK ?_;clear hK;refine e0 ?_;refine eC (fun w k=>sorted_any w (k.slv m4) (by rw[hI.out.1];omega) (by rw[hI.out.1];omega)) (fun x17=>?_);obtain⟨p18,n18,c18⟩:=x17;dsimp only
    iterate 2 refine e0 ?_
    refine sxEnd (fun W19 hK=>?_);have hio:=hid (show IsOrd (nN t) (dstD t down d1) (ordD (dstD t down d1)) by have q:=hK.get m1;rw[hI.out.1]at q;exact q);have hon:(ordD (dstD t down d1)).length≤nN t:=Nat.le_trans (nd_len (nd_ord hio.out) (fun x h=>List.mem_range.2 ((hio.out.2 x).1 h).1)) (by simp);replace hK:=hK.subl (sK2 (sC2 (List.Sublist.refl _)));have hio1:=Nat.le_of_eq ((hK.len m0).trans (natI_len _));have hio2:=Nat.le_of_eq ((hK.len m0).trans (natI_len _)).symm;go_wp2_with fail;go_loopw [51] (fun s51 wl=> ∃(j:Nat) (lm:List (Int × Value)) (am:List Rat) (sh:List Rat) (Pd:Nat) (Bd:Nat),s51=.int .i64 (j:Int)∧(j≤(ordD (dstD t down d1)).length)∧RowKit.Hid (ShrI t down (dstD t down d1) n1 d1 ((ordD (dstD t down d1)).take j).reverse am sh)∧RowKit.Hid (LimA Pd Bd (fun x=>am.getD x 0))∧RowKit.Hid (Pd≤512^j)∧RowKit.Hid (Bd≤513^j)∧SS w ([rO intK 3 (some ⟨g7,0,none⟩) n4 c4 (dstD t down d1),fX intK 43 3 ss10.length p10 n10 c10 ss10 (lvD (tN t) (nN t) (arcsD t)),rO ratK 41 (some ⟨g12,0,none⟩) (arcsD t) (arcsD t) sh,rO intK 3 p18 n18 c18 (natI (ordD (dstD t down d1))),bx RM (mapI lm),mQ (.agg #[.bool false,.slice none 0 0,.slice none 0 0]) lm (amF am),bx R1 (.cells #[.int .i64 t.nodes,.slice p_t n_t c_t,.slice q_t m_t d_t] 25)]) wl) (fun s51 _=>(ordD (dstD t down d1)).length-(intOf s51).toNat)
    case atStart=>exact⟨0,lm0,am0 (nN t) n1,sh0 (arcsD t),1,1,rfl,(by omega),hid (ShrI.start hn1),hid (LimA.am0 hn1),hid (by simp),hid (by simp),(((((((hK.up6).up2).up3).up3).up4).up5).up6)⟩
    case round=>
     clear hK;obtain⟨j,lm,am,sh,Pd,Bd,rfl,hj0,h_S,h_L,h_P,h_B,hK⟩:=hrel;generalize wr=W20 at hK⊢;go_upto_region 10 with(fail);refine wp_region_T [0] hK ?_;clear hK;refine eB (decide (((j:Int))<((n18:Int)))) (fun b3 hb3=>?_);refine sxEnd (fun W21 hK=>?_)
     cases b3
     · --
      have q_b3:((n18:Int))≤((j:Int)):=Int.not_lt.1 (of_decide_eq_false hb3.out);have hX2:chkS t down n1 d1=0:=by unfold chkS;rw[if_pos hX.out,if_neg (by show ¬atD (dstD t down d1) n1<0;rw[atD_of edn.out];omega)]
      go_wp2
      try go_ret
      show Q0 (.returned (.tuple #[.slice (some ⟨g12,0,none⟩) (arcsD t) (arcsD t),.int .i64 0])) _
      exact(by obtain rfl:=hQ0.out;rw[show Ending.returned (.tuple #[.slice (some ⟨g12,0,none⟩) (arcsD t) (arcsD t),.int .i64 0])=.returned (.tuple #[.slice (some ⟨g12,0,none⟩) (arcsD t) (arcsD t),.int .i64 (chkS t down n1 d1)])from by rw[hX2]];exact⟨⟨⟨(some ⟨g12,0,none⟩),(arcsD t),(arcsD t)⟩,sh⟩,rfl,((hK.subl (sC2 (sC2 (sK2 (sC2 (sC2 (sC2 (sC2 sZ2)))))))).fact (cF (ShrP t down n1 d1 sh)) ⟨fun e=>absurd hX2 e,fun _=>⟨hI.out,hio.out,am,by have q:=h_S.out;rw[List.take_of_length_le (by omega)]at q;exact q⟩,shr_lm ht2 h_S.out (fun k=>(h_L.out.2 k).lm h_L.out.1 (Nat.le_trans h_P.out (pow_nd (show j≤64 by omega)).1) (Nat.le_trans h_B.out (pow_nd (show j≤64 by omega)).2))⟩).up1⟩)
     · --
      have q_b3:((j:Int))<((n18:Int)):=of_decide_eq_true hb3.out;have hj:j<(ordD (dstD t down d1)).length:=by omega
      have i22:j<n18:=(by omega);obtain⟨g22,rfl⟩:=hK.pt m3 i22;have l22:j<(natI (ordD (dstD t down d1))).length:=Nat.lt_of_lt_of_eq i22 (hK.len m3);obtain⟨xm,exm⟩:∃z0,RowKit.Hid ((natI (ordD (dstD t down d1)))[j]?=some z0):=⟨_,hid (List.getElem?_eq_getElem l22)⟩;obtain⟨m,hm1,rfl⟩:=natI_at exm.out;have hm2:=hid hm1;have hmN:=((hio.out.2 m).1 (List.mem_of_getElem? hm1)).1;clear hm1;go_upto_region 11 with(fail);refine wp_region_T [0,1,0] hK ?_;clear hK;refine e0 ?_;refine eR (fun w k=>(k.own m3).int exm.out) ?_;refine e0 ?_;refine sxEnd (fun W23 hK=>?_);have i24:m<n10:=(by omega);obtain⟨g24,rfl⟩:=hK.ptF m1 i24;have l24:m<ss10.length:=Nat.lt_of_lt_of_eq i24 (hK.lenF m1);obtain⟨s,es⟩:∃z0,RowKit.Hid (ss10[m]?=some z0):=⟨_,hid (List.getElem?_eq_getElem l24)⟩;obtain⟨s_p,s_l,s_c⟩:=s;replace hK:=hK.up1;replace hK:=hK.famO (Nat.le_refl _) es.out (xs:=natI (outD t m)) (lvD_at (tN t) hmN);dsimp only at hK;go_upto_region 12 with(fail);refine wp_region_S _ [0,0,0,0,0,0,0,0,0,2,0] hK ?_ (List.Sublist.refl _);clear hK;refine eL0 m7 ?_
      iterate 5 refine e0 ?_
      refine eR0 (fun w k=>((k.fam m0).out).slc es.out) ?_
      iterate 2 refine e0 ?_
      refine eC (fun w k=>next_any w (ht.below k.old) (hd.below k.old) (k.slv m2) (k.slv m1) m d1 hl ht2 (hid hok.out.2.1) hI.out.1 (hI.out.small ht2) hmN rfl) (fun x25=>?_);obtain⟨p26,n26,c26⟩:=x25;dsimp only;refine e0 ?_;refine sxEnd (fun W27 hK=>?_);replace hK:=hK.up2;replace hK:=hK.up2;replace hK:=hK.famB es.out;rw[show(lvD (tN t) (nN t) (arcsD t)).set m (natI (outD t m))=lvD (tN t) (nN t) (arcsD t)from(lvD_put hmN)]at hK
      (try rw[List.length_set]at hK)
      have hu1:=Nat.le_of_eq ((hK.len m1).trans (natI_len _));have hu2:=Nat.le_of_eq ((hK.len m1).trans (natI_len _)).symm;have hnl:=nxt_len t down (dstD t down d1) m d1;have hsl:=h_S.out.ls;have hal:=h_S.out.la;have hsl4:=Nat.le_of_eq hsl.symm;have hal4:=Nat.le_of_eq hal.symm;replace hsl:=hid hsl;replace hal:=hid hal;go_upto_region 13 with(fail);refine wp_region_T [0,0,0,0,0,0,1,1,0,0] hK ?_;clear hK
      iterate 2 refine e0 ?_
      refine eB (((n26:Int))==0) (fun b4 hb4=>?_);refine e0 ?_
      cases b4
      · --
       iterate 2 refine e0 ?_
       refine eLk mapT m5 ?_;obtain⟨z1,hz1⟩:∃z9:Int,RowKit.Hid (sgQ ((amF am) (m:Int))=z9):=⟨_,hid rfl⟩;refine eQ (v:=.int .i64 z1) (fun w k=>sign_any _ _ w (k.mq m6 (m:Int))) ?_ (hv:=by rw[hz1.out]);refine eB (z1==0) (fun b5 hb5=>?_);refine e0 ?_;refine sxEnd (fun W28 hK=>?_)
       cases b5
       · --
        have hup:0<(nxtD t down (dstD t down d1) m d1).length:=(by have qb1:=hb1.out;(try simp at qb1);have qb2:=hb2.out;(try simp at qb2);have qb3:=hb3.out;(try simp at qb3);have qb4:=hb4.out;(try simp at qb4);have qb5:=hb5.out;(try simp at qb5);omega);have hpw:=hid (pow_nd (show j≤64 by omega));have hx1:=hid ((h_L.out.2 m).lm h_L.out.1 (Nat.le_trans h_P.out hpw.out.1) (Nat.le_trans h_B.out hpw.out.2));have hx2:LmQ 100 (amF am (m:Int)):=(by rw[amF_nat];exact hx1.out);have hy2:LmQ 100 ((n26:Int):Rat):=(LmQ.int (a:=1) (by unfold Lm;have q:n26≤512:=(by omega);show n26<B32^1;exact Nat.lt_of_le_of_lt q (by decide)) (by decide)).up (by decide);go_upto_region 14 with(fail);refine wp_region_S _ [0,0,0,0,0,2,2,0,0,0,3,4,0] hK ?_ (List.Sublist.refl _);clear hK
        iterate 2 refine e0 ?_
        refine eLk0 mapT m5 ?_
        iterate 2 refine e0 ?_
        refine eC (fun w k=>rat_S (qint_any (n26:Int) w (by omega) (by omega))) (fun x29=>?_);obtain⟨⟨p30,l30,c30⟩,⟨q30,m30,d30⟩⟩:=x29;dsimp only;refine eC (fun w k=>rat2_S (qdiv_any _ _ _ _ w (k.mq m7 (m:Int)) (k.q m0) hx2 hy2 (by decide))) (fun x31=>?_);obtain⟨⟨p32,l32,c32⟩,⟨q32,m32,d32⟩⟩:=x31;dsimp only
        iterate 3 refine e0 ?_
        refine eA (.cells #[.bool false,.slice none 0 0,.slice none 0 0] 41) (fun R33=>?_);refine eP 0 0 [.bool (isN ((amF am) (m:Int)/((n26:Int):Rat))),.slice p32 l32 c32,.slice q32 m32 d32] ?_ (hs:=(sC2 (sC2 (sC2 (List.Sublist.refl _))))) (hq:=.inr ⟨rfl,rfl,rfl,rfl,rfl,rfl,rfl,rfl,rfl,rfl,trivial⟩);refine e0 ?_;refine sxEnd (fun W34 hK=>?_);obtain⟨v,hv0⟩:∃v,RowKit.Hid ((amF am) (m:Int)/((n26:Int):Rat)=v):=⟨_,hid rfl⟩;rw[hv0.out]at hK;replace hK:=hK.subl (sK2 (sK2 (sC2 (List.Sublist.refl _))));have hv:=hid (show am.getD m 0/(((nxtD t down (dstD t down d1) m d1).length:Nat):Rat)=v by have q:=hv0.out;rw[amF_nat,show n26=(nxtD t down (dstD t down d1) m d1).length by omega]at q;exact q);have hvL:RowKit.Hid (LimV (Pd*(nxtD t down (dstD t down d1) m d1).length) Bd v):=(by rw[←hv.out];exact hid ((h_L.out.2 m).part h_L.out.1 hup));go_wp2_with fail;go_loopw [87] (fun s87 wl=> ∃(ki:Nat) (lm2:List (Int × Value)) (am2:List Rat) (sh2:List Rat),s87=.int .i64 (ki:Int)∧(ki≤(nxtD t down (dstD t down d1) m d1).length)∧RowKit.Hid (PshI t v am sh ((nxtD t down (dstD t down d1) m d1).take ki) am2 sh2)∧RowKit.Hid (LimA (Pd*(nxtD t down (dstD t down d1) m d1).length) (Bd+ki*Bd) (fun x=>am2.getD x 0))∧SS w ([rO intK 3 p26 n26 c26 (natI (nxtD t down (dstD t down d1) m d1)),rO intK 3 (some ⟨g7,0,none⟩) n4 c4 (dstD t down d1),fX intK 43 3 ss10.length (some ⟨g24,0,none⟩) n10 c10 ss10 (lvD (tN t) (nN t) (arcsD t)),rO ratK 41 (some ⟨g12,0,none⟩) (arcsD t) (arcsD t) sh2,rO intK 3 (some ⟨g22,0,none⟩) n18 c18 (natI (ordD (dstD t down d1))),bx RM (mapI lm2),mQ (.agg #[.bool false,.slice none 0 0,.slice none 0 0]) lm2 (amF am2),qF (.agg #[.bool (isN (v)),.slice p32 l32 c32,.slice q32 m32 d32]) (v),bx R33 (.cells #[.bool (isN (v)),.slice p32 l32 c32,.slice q32 m32 d32] 41),bx R1 (.cells #[.int .i64 t.nodes,.slice p_t n_t c_t,.slice q_t m_t d_t] 25)]) wl) (fun s87 _=>(nxtD t down (dstD t down d1) m d1).length-(intOf s87).toNat)
        case atStart=>exact⟨0,lm,am,sh,rfl,(by omega),hid PshI.nil,hid (by have q:=h_L.out.scale hup;rw[Nat.zero_mul,Nat.add_zero];exact q),((((((((((hK.up9).up1).up2).up9).up9).up9).up9).up7).up9).up9)⟩
        case round=>
         clear hK;obtain⟨ki,lm2,am2,sh2,rfl,hk0,h_Q,h_M,hK⟩:=hrel;generalize wr=W35 at hK⊢;go_upto_region 16 with(fail);refine wp_region_T [0] hK ?_;clear hK;refine eB (decide (((ki:Int))<((n26:Int)))) (fun b6 hb6=>?_);refine sxEnd (fun W36 hK=>?_)
         cases b6
         · --
          have q_b6:((n26:Int))≤((ki:Int)):=Int.not_lt.1 (of_decide_eq_false hb6.out);have hall:=hid (show PshI t (am.getD m 0/(((nxtD t down (dstD t down d1) m d1).length:Nat):Rat)) am sh (nxtD t down (dstD t down d1) m d1) am2 sh2 by have q:=h_Q.out;rw[List.take_of_length_le (by omega), ←hv.out]at q;exact q);have hpn:=hid (pow_next (k:=ki) h_P.out h_B.out (show(nxtD t down (dstD t down d1) m d1).length≤512 by omega) (by omega))
          (try go_wp2)
          refine⟨?_,?measure⟩
          (repeat apply Exists.intro)
          refine⟨?rel,rfl⟩
          case rel=>exact⟨j+1,lm2,am2,sh2,(Pd*(nxtD t down (dstD t down d1) m d1).length),(Bd+ki*Bd),(by first|rfl|go_num),(by omega),hid (shr_next ht2 hio.out h_S.out hm2.out hall.out),hid h_M.out,hid hpn.out.1,hid hpn.out.2,(hK.subl (sC2 (sK2 (sK2 (sK2 (sK2 (sK2 (sK2 (sC2 (sC2 (List.Sublist.refl _)))))))))))⟩
          case measure=>simp[intOf]<;>omega
         · --
          have q_b6:((ki:Int))<((n26:Int)):=of_decide_eq_true hb6.out;have hk:ki<(nxtD t down (dstD t down d1) m d1).length:=by omega
          have i37:ki<n26:=(by omega);obtain⟨g37,rfl⟩:=hK.pt m0 i37;have l37:ki<(natI (nxtD t down (dstD t down d1) m d1)).length:=Nat.lt_of_lt_of_eq i37 (hK.len m0);obtain⟨xa,exa⟩:∃z0,RowKit.Hid ((natI (nxtD t down (dstD t down d1) m d1))[ki]?=some z0):=⟨_,hid (List.getElem?_eq_getElem l37)⟩;obtain⟨a,ha0,rfl⟩:=natI_at exa.out;have ha1:=hid ha0;have ha2:=mem_nxt.1 (List.mem_of_getElem? ha0);have haA:=ha2.1;have hhN:=(nxt_less ht2 (List.mem_of_getElem? ha0)).2.2.1;have hsl2:=hid (h_Q.out.ls.trans hsl.out);have hal2:=hid (h_Q.out.la.trans hal.out);have hsl3:=Nat.le_of_eq hsl2.out.symm;have hal3:=Nat.le_of_eq hal2.out.symm;clear ha0;go_upto_region 17 with(fail);refine wp_region_T [0,1,0] hK ?_;clear hK;refine e0 ?_;refine eR (fun w k=>(k.own m0).int exa.out) ?_;refine e0 ?_;refine sxEnd (fun W38 hK=>?_);go_upto_region 18 with(fail);refine wp_region_T [1,0,1,0] hK ?_;clear hK;refine eL m9 ?_;refine e0 ?_;refine eQ (fun w k=>headN_any w (ht.below k.old) a hl ht2 haA) ?_;refine e0 ?_;refine sxEnd (fun W39 hK=>?_);have hsn:=hid ((hK.len m3).trans hsl2.out);have hsn1:=Nat.le_of_eq hsn.out.symm;have i40:a<(arcsD t):=(by omega);have l40:a<sh2.length:=Nat.lt_of_lt_of_eq i40 (hK.len m3);obtain⟨xs,exs⟩:∃z0,RowKit.Hid (sh2[a]?=some z0):=⟨_,hid (List.getElem?_eq_getElem l40)⟩;go_upto_region 19 with(fail);refine wp_region_T [0,0,1,0,4] hK ?_;clear hK
          iterate 2 refine e0 ?_
          refine eL m8 ?_;refine e0 ?_;refine eWQ (y:=v) 3 l40 m7 ?_ (hi:=rfl);refine sxEnd (fun W41 hK=>?_);have hpn0:=hid (pow_next (k:=ki) h_P.out h_B.out (show(nxtD t down (dstD t down d1) m d1).length≤512 by omega) (by omega));have hpw2:=hid (pow_nd (show j+1≤64 by omega));have hz1:=hid ((h_M.out.2 (hN t a)).lm h_M.out.1 (Nat.le_trans hpn0.out.1 hpw2.out.1) (Nat.le_trans hpn0.out.2 hpw2.out.2));have hx3:LmQ 100 (amF am2 (hN t a:Int)):=(by rw[amF_nat];exact hz1.out);have hv3:=hvL.out.lm h_M.out.1 (Nat.le_trans hpn0.out.1 hpw2.out.1) (Nat.le_trans h_B.out hpw.out.2);go_upto_region 20 with(fail);refine wp_region_T [0,0,0,0,1,1,2,4] hK ?_;clear hK
          iterate 4 refine e0 ?_
          refine eLk mapT m5 ?_;refine eL m8 ?_;refine eC (fun w k=>rat_S (qadd_any _ _ _ _ w (k.mq m6 ((hN t a:Nat):Int)) (k.q m7) hx3 hv3 (by decide))) (fun x42=>?_);obtain⟨⟨p43,l43,c43⟩,⟨q43,m43,d43⟩⟩:=x42;dsimp only;refine eUp (v:=.agg #[.bool (isN ((amF am2) ((hN t a:Nat):Int)+v)),.slice p43 l43 c43,.slice q43 m43 d43]) mapT 6 ?_;refine sxEnd (fun W44 hK=>?_);replace hK:=hK.mup m7 m0 ((hN t a:Nat):Int);rw[amF_set (by omega),amF_nat]at hK
          (try go_wp2)
          go_roundw
          case rel=>exact⟨ki+1,upI lm2 ((hN t a:Nat):Int) (.agg #[.bool (isN ((amF am2) ((hN t a:Nat):Int)+v)),.slice p43 l43 c43,.slice q43 m43 d43]),(am2.set (hN t a) (am2.getD (hN t a) 0+v)),(sh2.set a v),(by first|rfl|go_num),(by omega),hid (by rw[List.take_succ_eq_append_getElem hk,show(nxtD t down (dstD t down d1) m d1)[ki]=a from(List.getElem?_eq_some_iff.1 ha1.out).2];exact h_Q.out.snoc (by omega) (by omega)),hid (by have q:=h_M.out.am_add hvL.out (show hN t a<am2.length by omega);rw[show Bd+(ki+1)*Bd=Bd+ki*Bd+Bd by rw[Nat.succ_mul,Nat.add_assoc]];exact q),(((((((((((hK.up11).up11).up11).up3).up10).up10).up10).up10).up10).up10).subl (sK2 (sK2 (sK2 (sK2 (sK2 (sK2 (sK2 (sK2 (sK2 (sK2 (sC2 (sC2 sZ2)))))))))))))⟩
          case measure=>simp[intOf]<;>omega
       · --
        (try go_wp2)
        go_roundw
        case rel=>exact⟨j+1,lm,am,sh,Pd,Bd,(by first|rfl|go_num),(by omega),hid (shr_skip ht2 hio.out h_S.out hm2.out (.inr (by have q:=hb5.out;simp at q;rw[←amF_nat];exact sgQ_zero.1 (hz1.out.trans q)))),hid h_L.out,hid (Nat.le_trans h_P.out (Nat.pow_le_pow_right (by decide) (by omega))),hid (Nat.le_trans h_B.out (Nat.pow_le_pow_right (by decide) (by omega))),((((((((hK.up7).up7).up7).up7).up7).up5).up7).subl (sK2 (sK2 (sK2 (sK2 (sK2 (sK2 (sK2 (sC2 sZ2)))))))))⟩
        case measure=>simp[intOf]<;>omega
      · --
       iterate 5 refine eN ?_
       refine e0 ?_;refine sxEnd (fun W45 hK=>?_)
       (try go_wp2)
       go_roundw
       case rel=>exact⟨j+1,lm,am,sh,Pd,Bd,(by first|rfl|go_num),(by omega),hid (shr_skip ht2 hio.out h_S.out hm2.out (.inl (by have q:=hb4.out;simp at q;omega))),hid h_L.out,hid (Nat.le_trans h_P.out (Nat.pow_le_pow_right (by decide) (by omega))),hid (Nat.le_trans h_B.out (Nat.pow_le_pow_right (by decide) (by omega))),((((((((hK.up7).up7).up7).up7).up7).up5).up7).subl (sK2 (sK2 (sK2 (sK2 (sK2 (sK2 (sK2 (sC2 sZ2)))))))))⟩
       case measure=>simp[intOf]<;>omega
   · --
    have q_b2:dn<0:=of_decide_eq_true hb2.out;replace hK:=hK.nilRow (K:=ratK) 41;have hX:chkS t down n1 d1=11∧chkS t down n1 d1≠0:=by unfold chkS;rw[if_pos hX.out,if_pos (by show atD (dstD t down d1) n1<0;rw[atD_of edn.out];omega)];exact⟨rfl,by decide⟩
    go_wp2
    try go_ret
    show Q0 (.returned (.tuple #[.slice none 0 0,.int .i64 11])) _
    exact(by obtain rfl:=hQ0.out;rw[show Ending.returned (.tuple #[.slice none 0 0,.int .i64 11])=.returned (.tuple #[.slice none 0 0,.int .i64 (chkS t down n1 d1)])from by rw[hX.1]];exact⟨⟨⟨none,0,0⟩,[]⟩,rfl,((hK.subl (sK2 (sC2 (sC2 sZ2)))).fact (cF (ShrP t down n1 d1 [])) ⟨fun _=>rfl,fun e=>absurd e hX.2,lm_nil⟩).up1⟩)
  · --
   replace hK:=hK.nilRow (K:=ratK) 41;have hX:chkS t down n d=chkN t down n d∧chkS t down n d≠0:=by have q:=hb1.out;simp at q;unfold chkS;rw[if_neg q];exact⟨rfl,q⟩
   go_wp2
   try go_ret
   show Q0 (.returned (.tuple #[.slice none 0 0,.int .i64 (chkN t down n d)])) _
   exact(by obtain rfl:=hQ0.out;rw[hX.1.symm];exact⟨⟨⟨none,0,0⟩,[]⟩,rfl,((hK.subl (sK2 (sC2 (sC2 (sC2 sZ2))))).fact (cF (ShrP t down n d [])) ⟨fun _=>rfl,fun e=>absurd e hX.2,lm_nil⟩).up1⟩)
end Go.Proofs.YtlhbcopaakejgaaGreatDoor
