/- The order of nodes: the program and the reference. -/

import Derived.Test.YtlhbcopaakejgaaGreatDoorDsS
import Derived.Test.YtlhbcopaakejgaaGreatDoorDsQ
namespace Go.Proofs.YtlhbcopaakejgaaGreatDoor
open Go.RowKit
open Go.Lib (decDigits)
noncomputable def ordR(t:TopD)(down:List Bool)(d:Int):List Nat:=if chkD t down [d]=0 then ordD (dstD t down d.toNat)else[]
theorem mem_natI{o:List Nat}{j:Nat}:((j:Nat):Int)∈natI o↔j∈o:=by
  unfold natI;rw[List.mem_map];exact⟨fun⟨a,h,e⟩=>by rwa [←Int.ofNat.inj e],fun h=>⟨j,h,rfl⟩⟩
def optZ:Option Nat→Int
  |none=> -1
  |some m=>(m:Int)
theorem ord_n{t:TopD}{D:List Int}{o:List Nat}(hl:D.length=nN t)(h:IsOrd (nN t) D o):o=ordD D:=ord_eq (by rw[hl];exact h)
set_option maxRecDepth 100000 in
set_option maxHeartbeats 1000000 in
theorem order_any(w:World){v_t:Value}{t:TopD}(ht:TopV w v_t t){p_d:Option Addr}{n_d c_d:Nat}{down:List Bool}(hd:SlV boolK w (.slice p_d n_d c_d) down)(d:Int)(hl:t.links.length≤100000):
    Calls Tryz.prog 12 #[v_t,.slice p_d n_d c_d,.int .i64 d] w fun e w'=> ∃x:Sl,e=.returned (.tuple #[.slice x.p x.l x.c,.int .i64 (chkD t down [d])])∧SS w [rO intK 3 x.p x.l x.c (natI (ordR t down d)),cF (chkD t down [d]=0→IsDst t down d.toNat (dstD t down d.toNat)∧IsOrd (nN t) (dstD t down d.toNat) (ordD (dstD t down d.toNat)))] w':=by
  have ht_0:=ht;obtain⟨p_t,n_t,c_t,q_t,m_t,d_t,rfl,ht_1,ht_2⟩:=ht_0;have b_t:m_t≤100000:=(by rw[ht_2.one0];exact hl);have a_t:arcsD t≤200000:=(by unfold arcsD;omega);have hK:=SS.start w;refine Calls.hide (fun Q0 hQ0=>?_);go_enter Tryz.func12,Tryz.ntmps12;go_upto_region 0 with(fail);refine wp_region_T [3,0,0] hK ?_;clear hK;refine eA (.cells #[.int .i64 t.nodes,.slice p_t n_t c_t,.slice q_t m_t d_t] 25) (fun R1=>?_)
  iterate 2 refine e0 ?_
  refine sxEnd (fun W2 hK=>?_);go_upto_region 1 with(fail);refine wp_region_T [1,0,0,2,0,0,0,0,0] hK ?_;clear hK;refine eL m0 ?_
  iterate 2 refine e0 ?_
  refine eC (fun w k=>dist_any w (ht.below k.old) (hd.below k.old) d hl) (fun x3=>?_);obtain⟨p4,n4,c4⟩:=x3;dsimp only
  iterate 5 refine e0 ?_
  refine sxEnd (fun W5 hK=>?_);go_upto_region 2 with(fail);refine wp_region_T [0,0] hK ?_;clear hK;refine e0 ?_;refine eB (((chkD t down [d])) !=0) (fun b1 hb1=>?_);refine sxEnd (fun W6 hK=>?_)
  cases b1
  · --
   have hc:=hid (show chkD t down [d]=0 by have q:=hb1.out;simpa using q);have hI0:=hid (hK.get m1 hc.out);replace hK:=hK.subl (sK2 (sC2 (List.Sublist.refl _)));have hok:=hid (chk_ok hc.out);obtain⟨d1,rfl⟩:∃k:Nat,d=(k:Int):=⟨d.toNat,(Int.toNat_of_nonneg hok.out.2.2.1).symm⟩;have ht2:=hok.out.1;have hnn:=hid (topN ht2);have hnm:nN t≤64:=hnn.out.2.2.1;have hnz:=hnn.out.1;have hI:RowKit.Hid (IsDst t down d1 (dstD t down d1)):=hI0;clear hI0;have hd1:d1<nN t:=(by have q:=hok.out.2.2.2;omega);rw[show dstR t down d1=dstD t down d1 from dstR_ok hc.out]at hK;go_upto_region 4 with(fail);refine wp_region_T [0,2,0,0] hK ?_;clear hK;refine e0 ?_;refine eC (fun w k=>sorted_any w (k.slv m0) (by rw[hI.out.1];omega) (by rw[hI.out.1];omega)) (fun x7=>?_);obtain⟨p8,n8,c8⟩:=x7;dsimp only
   iterate 2 refine e0 ?_
   refine sxEnd (fun W9 hK=>?_);have hio:=hid (hK.get m1);go_wp2
   try go_ret
   show Q0 (.returned (.tuple #[.slice p8 n8 c8,.int .i64 0])) _
   exact(by obtain rfl:=hQ0.out;have hX:=hc.out;have hq:=(by have q:=hio.out;rw[hI.out.1]at q;exact q:IsOrd (nN t) (dstD t down d1) (ordD (dstD t down d1)));rw[show ordR t down d1=ordD (dstD t down d1)from if_pos hX,show Ending.returned (.tuple #[.slice p8 n8 c8,.int .i64 0])=.returned (.tuple #[.slice p8 n8 c8,.int .i64 (chkD t down [(d1:Int)])])from by rw[hX]];exact⟨⟨p8,n8,c8⟩,rfl,((hK.subl (sK2 (sC2 (sC2 (sC2 sZ2))))).fact (cF _) (fun _=>⟨hI.out,hq⟩)).up1⟩)
  · --
   replace hK:=hK.fact (rO intK 3 none 0 0 ([]:List Int)) OwV.nil (fun _ h=>by cases h);have hX:chkD t down [d]≠0:=by have q:=hb1.out;simpa using q
   go_wp2
   try go_ret
   show Q0 (.returned (.tuple #[.slice none 0 0,.int .i64 (chkD t down [d])])) _
   exact(by obtain rfl:=hQ0.out;rw[show ordR t down d=[]from if_neg hX];exact⟨⟨none,0,0⟩,rfl,((hK.subl (sK2 (sC2 (sC2 (sC2 sZ2))))).fact (cF _) (fun e=>absurd e hX)).up1⟩)
set_option maxRecDepth 100000 in
set_option maxHeartbeats 1000000 in
theorem rorder_any(w:World){v_t:Value}{t:TopD}(ht:TopV w v_t t){p_d:Option Addr}{n_d c_d:Nat}{down:List Bool}(hd:SlV boolK w (.slice p_d n_d c_d) down)(d:Int)(hl:t.links.length≤100000):
    Calls Tryz.prog 28 #[v_t,.slice p_d n_d c_d,.int .i64 d] w fun e w'=> ∃x:Sl,e=.returned (.tuple #[.slice x.p x.l x.c,.int .i64 (chkD t down [d])])∧SS w [rO intK 3 x.p x.l x.c (natI (ordR t down d)),cF (chkD t down [d]=0→IsDst t down d.toNat (dstD t down d.toNat)∧IsOrd (nN t) (dstD t down d.toNat) (ordD (dstD t down d.toNat)))] w':=by
  have ht_0:=ht;obtain⟨p_t,n_t,c_t,q_t,m_t,d_t,rfl,ht_1,ht_2⟩:=ht_0;have b_t:m_t≤100000:=(by rw[ht_2.one0];exact hl);have a_t:arcsD t≤200000:=(by unfold arcsD;omega);have hK:=SS.start w;refine Calls.hide (fun Q0 hQ0=>?_);go_enter Tryz.func28,Tryz.ntmps28;go_upto_region 0 with(fail);refine wp_region_T [3,0,0] hK ?_;clear hK;refine eA (.cells #[.int .i64 t.nodes,.slice p_t n_t c_t,.slice q_t m_t d_t] 25) (fun R1=>?_)
  iterate 2 refine e0 ?_
  refine sxEnd (fun W2 hK=>?_);go_upto_region 1 with(fail);refine wp_region_T [1,0,0,2,0,0,0,0,0] hK ?_;clear hK;refine eL m0 ?_
  iterate 2 refine e0 ?_
  refine eC (fun w k=>rdist_any w (ht.below k.old) (hd.below k.old) d hl) (fun x3=>?_);obtain⟨p4,n4,c4⟩:=x3;dsimp only
  iterate 5 refine e0 ?_
  refine sxEnd (fun W5 hK=>?_);go_upto_region 2 with(fail);refine wp_region_T [0,0] hK ?_;clear hK;refine e0 ?_;refine eB (((chkD t down [d])) !=0) (fun b1 hb1=>?_);refine sxEnd (fun W6 hK=>?_)
  cases b1
  · --
   have hc:=hid (show chkD t down [d]=0 by have q:=hb1.out;simpa using q);have hI0:=hid (hK.get m1 hc.out);replace hK:=hK.subl (sK2 (sC2 (List.Sublist.refl _)));have hok:=hid (chk_ok hc.out);obtain⟨d1,rfl⟩:∃k:Nat,d=(k:Int):=⟨d.toNat,(Int.toNat_of_nonneg hok.out.2.2.1).symm⟩;have ht2:=hok.out.1;have hnn:=hid (topN ht2);have hnm:nN t≤64:=hnn.out.2.2.1;have hnz:=hnn.out.1;have hI:RowKit.Hid (IsDst t down d1 (dstD t down d1)):=hI0;clear hI0;have hd1:d1<nN t:=(by have q:=hok.out.2.2.2;omega);rw[show dstR t down d1=dstD t down d1 from dstR_ok hc.out]at hK;have hDs:=hI.out.small ht2;have hDn:=hK.len m0;have hDm:n4=nN t:=(by rw[hDn];exact hI.out.1);clear hDn;replace hK:=hK.fact (rO intK 3 none 0 0 (natI ([]:List Nat))) OwV.nil (fun _ h=>by cases h);go_wp2_with fail;go_loopg [10] (nN t-([]:List Nat).length) (fun gk0 s10 wl=> ∃(o:List Nat) (p:Option Addr) (n_:Nat) (c:Nat),s10=.slice p n_ c∧RowKit.Hid (SelI (nN t) (dstD t down d1) o)∧RowKit.Hid (gk0=nN t-o.length)∧SS w ([rO intK 3 p n_ c (natI o),rO intK 3 p4 n4 c4 (dstD t down d1),bx R1 (.cells #[.int .i64 t.nodes,.slice p_t n_t c_t,.slice q_t m_t d_t] 25)]) wl)
   case atStart=>exact⟨([]:List Nat),none,0,0,rfl,hid SelI.nil,hid rfl,hK⟩
   case round=>
    clear hK;obtain⟨o,p,n_,c,rfl,h_S,hgk7,hK⟩:=hrel;generalize wr=W8 at hK⊢;have hol:=h_S.out.len;go_wp2_with fail;go_loopw [12,11] (fun s12 s11 wl=> ∃(j:Nat) (b:Option Nat),s12=.int .i64 (j:Int)∧s11=.int .i64 (optZ b)∧(j≤nN t)∧RowKit.Hid (BstI (dstD t down d1) o j b)∧SS w ([rO intK 3 p n_ c (natI o),rO intK 3 p4 n4 c4 (dstD t down d1),bx R1 (.cells #[.int .i64 t.nodes,.slice p_t n_t c_t,.slice q_t m_t d_t] 25)]) wl) (fun s12 s11 _=>nN t-(intOf s12).toNat)
    case atStart=>exact⟨0,none,rfl,rfl,(by omega),hid BstI.zero,hK⟩
    case round=>
     clear hK;obtain⟨j,b,rfl,rfl,hj0,h_B,hK⟩:=hrel;generalize wr=W9 at hK⊢;go_upto_region 7 with(fail);refine wp_region_T [0,0,1,0] hK ?_;clear hK
     iterate 2 refine e0 ?_
     refine eL m2 ?_;refine eB (decide (((j:Int))<t.nodes)) (fun b2 hb2=>?_);refine sxEnd (fun W10 hK=>?_)
     cases b2
     · --
      have q_b2:t.nodes≤((j:Int)):=Int.not_lt.1 (of_decide_eq_false hb2.out)
      rcases b with _|m
      · --
       (try dsimp only[optZ])
       go_upto_region 11 with(fail);refine wp_region_T [0,0] hK ?_;clear hK;refine e0 ?_;refine eV (.bool true) (fun w'=>by go_simp;(try go_bits);first|exact⟨rfl,rfl⟩|exact⟨congrArg Value.bool (by decide),rfl⟩) ?_;refine sxEnd (fun W11 hK=>?_);have hio:=hid (h_S.out.done (show BstI _ _ (nN t) none from by have q:=h_B.out;rw[show j=nN t by omega]at q;exact q));have hie:=ord_n hI.out.1 hio.out;rw[hie]at hK;go_wp2
       try go_ret
       show Q0 (.returned (.tuple #[.slice p n_ c,.int .i64 0])) _
       exact(by obtain rfl:=hQ0.out;have hX:=hc.out;have hq:=(hie▸hio.out:IsOrd (nN t) (dstD t down d1) (ordD (dstD t down d1)));rw[show ordR t down d1=ordD (dstD t down d1)from if_pos hX,show Ending.returned (.tuple #[.slice p n_ c,.int .i64 0])=.returned (.tuple #[.slice p n_ c,.int .i64 (chkD t down [(d1:Int)])])from by rw[hX]];exact⟨⟨p,n_,c⟩,rfl,((hK.subl (sK2 (sC2 (sC2 sZ2)))).fact (cF _) (fun _=>⟨hI.out,hq⟩)).up1⟩)
      · --
       (try dsimp only[optZ])
       go_upto_region 11 with(fail);refine wp_region_T [0,0] hK ?_;clear hK;refine e0 ?_;refine eV (.bool false) (fun w'=>by go_simp;(try go_bits);first|exact⟨rfl,rfl⟩|exact⟨congrArg Value.bool (decide_eq_false (by omega)),rfl⟩) ?_;refine sxEnd (fun W12 hK=>?_);go_upto_region 13 with(fail);refine wp_region_T [0,0,3,5,0] hK ?_;clear hK
       iterate 2 refine e0 ?_
       refine eA (.cells #[.int .i64 (m:Int)] 3) (fun R13=>?_);refine eApp 1 intK_free rfl infoZ (fun w k=>k.one1 (K:=intK) (x:=(m:Int)) m0 rfl) (by rw[natI_len];simp;omega) (fun x14=>?_);obtain⟨p14,n14,c14⟩:=x14;dsimp only;refine e0 ?_;refine sxEnd (fun W15 hK=>?_);rw[show(natI o)++[(m:Int)]=natI (o++[m])from(natI_snoc ..)]at hK
       (try go_wp2)
       have hS2:=hid (h_S.out.add (show BstI _ _ (nN t) (some m)from by have q:=h_B.out;rw[show j=nN t by omega]at q;exact q));have hl2:=hS2.out.len;rw[List.length_append]at hl2;simp at hl2;go_roundg (nN t-(o++[m]).length)
       case measure=>rw[hgk7.out];rw[List.length_append];simp;omega
       case rel=>exact⟨o++[m],p14,n14,c14,(by first|rfl|go_num),hid hS2.out,hid rfl,(hK.subl (sC2 (List.Sublist.refl _)))⟩
     · --
      have q_b2:((j:Int))<t.nodes:=of_decide_eq_true hb2.out
      rcases b with _|m
      · --
       (try dsimp only[optZ])
       have hj:j<nN t:=by omega
       have i16:j<n4:=(by omega);obtain⟨g16,rfl⟩:=hK.pt m1 i16;have l16:j<(dstD t down d1).length:=Nat.lt_of_lt_of_eq i16 (hK.len m1);obtain⟨dx,edx⟩:∃x,RowKit.Hid ((dstD t down d1)[j]?=some x):=⟨_,hid (List.getElem?_eq_getElem l16)⟩;go_upto_region 9 with(fail);refine wp_region_S _ [0,0,0,0,0,0,0,0,1,0,0,0,0,0,0,0,0,0,0,0,0,0,0,0,0,0] hK ?_ (List.Sublist.refl _);clear hK
       iterate 3 refine e0 ?_
       refine eR0 (fun w k=>(k.own m1).int edx.out) ?_;refine eB (decide (0≤dx)) (fun b3 hb3=>?_);refine e0 ?_
       cases b3
       · --
        have q_b3:dx<0:=Int.not_le.1 (of_decide_eq_false hb3.out)
        iterate 4 refine eN ?_
        iterate 2 refine e0 ?_
        iterate 3 refine eN ?_
        iterate 9 refine eU ?_
        refine eN ?_;refine e0 ?_;refine sxEnd (fun W17 hK=>?_)
        (try go_wp2)
        go_roundw
        case rel=>exact⟨j+1,none,(by first|rfl|go_num),(by first|rfl|go_num),(by omega),hid (h_B.out.pass (fun q=>by rw[atD_of edx.out]at q;omega)),hK⟩
        case measure=>simp[intOf]<;>omega
       · --
        have q_b3:0≤dx:=of_decide_eq_true hb3.out
        iterate 2 refine e0 ?_
        obtain⟨b4,hb4⟩:∃b:Bool,RowKit.Hid ((decide ((j:Int)∈(natI o)))=b):=⟨_,hid rfl⟩;refine eQ (v:=.bool b4) (fun w k=>has_any w (k.slv m0) (j:Int) (by rw[natI_len];omega)) ?_ (hv:=by rw[hb4.out])
        iterate 3 refine e0 ?_
        cases b4
        · --
         refine e0 ?_;refine eV (.bool true) (fun w'=>by go_simp;(try go_bits);first|exact⟨rfl,rfl⟩|exact⟨congrArg Value.bool (by decide),rfl⟩) ?_;refine e0 ?_
         iterate 9 refine eN ?_
         iterate 2 refine e0 ?_
         refine sxEnd (fun W18 hK=>?_)
         (try go_wp2)
         go_roundw
         case rel=>exact⟨j+1,some j,(by first|rfl|go_num),(by first|rfl|go_num),(by omega),hid (h_B.out.take (by rw[atD_of edx.out];omega) (fun q=>absurd (mem_natI.2 q) (of_decide_eq_false hb4.out)) (fun m e=>by cases e)),hK⟩
         case measure=>simp[intOf]<;>omega
        · --
         iterate 3 refine eN ?_
         iterate 9 refine eU ?_
         refine eN ?_;refine e0 ?_;refine sxEnd (fun W19 hK=>?_)
         (try go_wp2)
         go_roundw
         case rel=>exact⟨j+1,none,(by first|rfl|go_num),(by first|rfl|go_num),(by omega),hid (h_B.out.pass (fun q=>q.2 (mem_natI.1 (of_decide_eq_true hb4.out)))),hK⟩
         case measure=>simp[intOf]<;>omega
      · --
       (try dsimp only[optZ])
       have hj:j<nN t:=by omega
       have i20:j<n4:=(by omega);obtain⟨g20,rfl⟩:=hK.pt m1 i20;have l20:j<(dstD t down d1).length:=Nat.lt_of_lt_of_eq i20 (hK.len m1);obtain⟨dx,edx⟩:∃x,RowKit.Hid ((dstD t down d1)[j]?=some x):=⟨_,hid (List.getElem?_eq_getElem l20)⟩;have hm1:=h_B.out.1;have i21:m<n4:=(by omega);have l21:m<(dstD t down d1).length:=Nat.lt_of_lt_of_eq i21 (hK.len m1);obtain⟨dy,edy⟩:∃x,RowKit.Hid ((dstD t down d1)[m]?=some x):=⟨_,hid (List.getElem?_eq_getElem l21)⟩;go_upto_region 9 with(fail);refine wp_region_S _ [0,0,0,0,0,0,0,0,1,0,0,0,0,0,0,0,0,0,0,0,0,0,0,0,0,0] hK ?_ (List.Sublist.refl _);clear hK
       iterate 3 refine e0 ?_
       refine eR0 (fun w k=>(k.own m1).int edx.out) ?_;refine eB (decide (0≤dx)) (fun b3 hb3=>?_);refine e0 ?_
       cases b3
       · --
        have q_b3:dx<0:=Int.not_le.1 (of_decide_eq_false hb3.out)
        iterate 4 refine eN ?_
        iterate 2 refine e0 ?_
        iterate 3 refine eN ?_
        iterate 9 refine eU ?_
        refine eN ?_;refine e0 ?_;refine sxEnd (fun W22 hK=>?_)
        (try go_wp2)
        go_roundw
        case rel=>exact⟨j+1,some m,(by first|rfl|go_num),(by first|rfl|go_num),(by omega),hid (h_B.out.pass (fun q=>by rw[atD_of edx.out]at q;omega)),hK⟩
        case measure=>simp[intOf]<;>omega
       · --
        have q_b3:0≤dx:=of_decide_eq_true hb3.out
        iterate 2 refine e0 ?_
        obtain⟨b4,hb4⟩:∃b:Bool,RowKit.Hid ((decide ((j:Int)∈(natI o)))=b):=⟨_,hid rfl⟩;refine eQ (v:=.bool b4) (fun w k=>has_any w (k.slv m0) (j:Int) (by rw[natI_len];omega)) ?_ (hv:=by rw[hb4.out])
        iterate 3 refine e0 ?_
        cases b4
        · --
         refine e0 ?_;refine eV (.bool false) (fun w'=>by go_simp;(try go_bits);first|exact⟨rfl,rfl⟩|exact⟨congrArg Value.bool (decide_eq_false (by omega)),rfl⟩) ?_
         iterate 4 refine e0 ?_
         refine eR0 (fun w k=>(k.own m1).int edx.out) ?_
         iterate 3 refine e0 ?_
         refine eR0 (fun w k=>(k.own m1).int edy.out) ?_;refine eB (decide (dy<dx)) (fun b5 hb5=>?_)
         iterate 2 refine e0 ?_
         refine sxEnd (fun W23 hK=>?_)
         cases b5
         · --
          have q_b5:dx≤dy:=Int.not_lt.1 (of_decide_eq_false hb5.out)
          (try go_wp2)
          go_roundw
          case rel=>exact⟨j+1,some m,(by first|rfl|go_num),(by first|rfl|go_num),(by omega),hid (h_B.out.keep (by rw[atD_of edx.out,atD_of edy.out];omega)),hK⟩
          case measure=>simp[intOf]<;>omega
         · --
          have q_b5:dy<dx:=of_decide_eq_true hb5.out
          (try go_wp2)
          go_roundw
          case rel=>exact⟨j+1,some j,(by first|rfl|go_num),(by first|rfl|go_num),(by omega),hid (h_B.out.take (by rw[atD_of edx.out];omega) (fun q=>absurd (mem_natI.2 q) (of_decide_eq_false hb4.out)) (fun k e=>by injection e with e;subst e;rw[atD_of edx.out,atD_of edy.out];omega)),hK⟩
          case measure=>simp[intOf]<;>omega
        · --
         iterate 3 refine eN ?_
         iterate 9 refine eU ?_
         refine eN ?_;refine e0 ?_;refine sxEnd (fun W24 hK=>?_)
         (try go_wp2)
         go_roundw
         case rel=>exact⟨j+1,some m,(by first|rfl|go_num),(by first|rfl|go_num),(by omega),hid (h_B.out.pass (fun q=>q.2 (mem_natI.1 (of_decide_eq_true hb4.out)))),hK⟩
         case measure=>simp[intOf]<;>omega
  · --
   replace hK:=hK.fact (rO intK 3 none 0 0 ([]:List Int)) OwV.nil (fun _ h=>by cases h);have hX:chkD t down [d]≠0:=by have q:=hb1.out;simpa using q
   go_wp2
   try go_ret
   show Q0 (.returned (.tuple #[.slice none 0 0,.int .i64 (chkD t down [d])])) _
   exact(by obtain rfl:=hQ0.out;rw[show ordR t down d=[]from if_neg hX];exact⟨⟨none,0,0⟩,rfl,((hK.subl (sK2 (sC2 (sC2 (sC2 sZ2))))).fact (cF _) (fun e=>absurd e hX)).up1⟩)
end Go.Proofs.YtlhbcopaakejgaaGreatDoor
