/- The law of the shares. -/

import Derived.Test.YtlhbcopaakejgaaGreatDoorDsWR
import Derived.Test.YtlhbcopaakejgaaGreatDoorDsZ
namespace Go.Proofs.YtlhbcopaakejgaaGreatDoor
open Go.RowKit
open Go.Lib (decDigits)
theorem shrP_uni{t:TopD}{down:List Bool}{n d:Int}{sh sh':List Rat}(h:ShrP t down n d sh)(h':ShrP t down n d sh'):sh=sh':=by
  by_cases e:chkS t down n d=0
  · obtain⟨hd,ho,am,hS⟩:=h.2.1 e
    obtain⟨_,_,am',hS'⟩:=h'.2.1 e
    have hc:chkD t down [d]=0:=by
      apply Classical.byContradiction;intro hc;unfold chkS at e;have hn:chkN t down n d=chkD t down [d]:=by unfold chkN;rw[if_neg hc]
      rw[if_neg (by rw[hn];exact hc),hn]at e;exact hc e
    have ht:=(chk_ok hc).1;exact hS.uni ht (hd.small ht) hS'
  · rw[h.1 e,h'.1 e]
theorem shrP_len{t:TopD}{down:List Bool}{n d:Int}{sh:List Rat}(h:ShrP t down n d sh):sh.length≤arcsD t:=by
  by_cases e:chkS t down n d=0
  · obtain⟨_,_,am,hS⟩:=h.2.1 e
    exact Nat.le_of_eq hS.ls
  · rw[h.1 e];exact Nat.zero_le _
set_option maxRecDepth 100000 in
set_option maxHeartbeats 1000000 in
theorem lawShare_any(w:World){v_t:Value}{t:TopD}(ht:TopV w v_t t){p_d:Option Addr}{n_d c_d:Nat}{down:List Bool}(hd:SlV boolK w (.slice p_d n_d c_d) down)(n d:Int)(hTb:Tab w):
    Calls Tryz.prog 3 #[v_t,.slice p_d n_d c_d,.agg #[.int .i64 n,.int .i64 d]] w fun e w'=>e=.returned (.bool true)∧Below w.heap.size w w':=by
  have ht_0:=ht;obtain⟨p_t,n_t,c_t,q_t,m_t,d_t,rfl,ht_1,ht_2⟩:=ht_0;have hK:=SS.start w;refine Calls.hide (fun Q0 hQ0=>?_);go_enter Tryz.func3,Tryz.ntmps3;go_upto_region 0 with(fail);refine wp_region_T [3,3,0] hK ?_;clear hK;refine eA (.cells #[.int .i64 t.nodes,.slice p_t n_t c_t,.slice q_t m_t d_t] 25) (fun R1=>?_);refine eA (.cells #[.int .i64 n,.int .i64 d] 26) (fun R2=>?_);refine e0 ?_;refine sxEnd (fun W3 hK=>?_);go_upto_region 1 with(fail);refine wp_region_T [1,0] hK ?_;clear hK;refine eQ (fun w k=>awake_any w) ?_;refine e0 ?_;refine sxEnd (fun W4 hK=>?_);go_upto_region 3 with(fail);refine wp_region_T [1,0,1] hK ?_;clear hK;refine eL m1 ?_;refine e0 ?_;obtain⟨b1,hb1⟩:∃z9:Bool,RowKit.Hid ((largeD t down)=z9):=⟨_,hid rfl⟩;refine eQ (v:=.bool b1) (fun w k=>large_any w (ht.below k.old) (hd.below k.old)) ?_ (hv:=by rw[hb1.out]);refine sxEnd (fun W5 hK=>?_)
  cases b1
  · --
   have hlg:=hid (show ¬(100<t.over.length∨24<t.links.length∨100<down.length∨16<t.nodes)from of_decide_eq_false (show largeD t down=false from hb1.out));have hl:t.links.length≤100000:=(by have:=hlg.out;omega);have hl2:t.links.length≤24:=(by have:=hlg.out;omega);have b_t:m_t≤100000:=(by rw[ht_2.one0];exact hl);have a_t:arcsD t≤200000:=(by unfold arcsD;omega);go_upto_region 5 with(fail);refine wp_region_T [1,0,0,1,0,1,2,0,0,0,0,0] hK ?_;clear hK;refine eL m1 ?_
   iterate 2 refine e0 ?_
   refine eL m0 ?_;refine e0 ?_;refine eL m0 ?_;refine eC (fun w k=>share_any w (ht.below k.old) (hd.below k.old) n d hl) (fun x6=>?_);obtain⟨⟨p7,n7,c7⟩,sh7⟩:=x6;dsimp only
   iterate 5 refine e0 ?_
   refine sxEnd (fun W8 hK=>?_);go_upto_region 6 with(fail);refine wp_region_T [1,0,0,1,0,1,2,0,0,0,0,0] hK ?_;clear hK;refine eL m3 ?_
   iterate 2 refine e0 ?_
   refine eL m2 ?_;refine e0 ?_;refine eL m2 ?_;refine eC (fun w k=>rshare_any w (ht.below k.old) (hd.below k.old) n d hl) (fun x9=>?_);obtain⟨⟨p10,n10,c10⟩,sh10⟩:=x9;dsimp only
   iterate 5 refine e0 ?_
   refine sxEnd (fun W11 hK=>?_);obtain rfl:sh7=sh10:=shrP_uni (hK.get m3) (hK.get m1);have hsl:=hid (hK.get m1).2.2;have hlb:=shrP_len (hK.get m1);replace hK:=hK.subl (sK2 (sC2 (sK2 (sC2 (List.Sublist.refl _)))));have hl1:=hid (hK.len m1);have hl3:=hid (hK.len m0);go_upto_region 7 with(fail);refine wp_region_T [0,0,0,0,0,0,0,0,0,0] hK ?_;clear hK
   iterate 2 refine e0 ?_
   refine eV (.bool false) (fun w'=>by go_simp;(try go_bits);first|exact⟨rfl,rfl⟩|exact⟨congrArg Value.bool (by simp),rfl⟩) ?_
   iterate 5 refine e0 ?_
   refine eB (((n7:Int)) !=((n10:Int))) (fun b2 hb2=>?_);refine e0 ?_;refine sxEnd (fun W12 hK=>?_)
   cases b2
   · --
    have hn1:=Nat.le_of_eq hl1.out;have hn2:=Nat.le_of_eq hl1.out.symm;have hn3:=Nat.le_of_eq hl3.out;have hn4:=Nat.le_of_eq hl3.out.symm;go_wp2_with fail;go_loopw [49] (fun s49 wl=> ∃(m:Nat),s49=.int .i64 (m:Int)∧(m≤n7)∧SS w ([rO ratK 41 p7 n7 c7 sh7,rO refK 46 p10 n10 c10 sh7,bx R2 (.cells #[.int .i64 n,.int .i64 d] 26),bx R1 (.cells #[.int .i64 t.nodes,.slice p_t n_t c_t,.slice q_t m_t d_t] 25)]) wl) (fun s49 _=>n7-(intOf s49).toNat)
    case atStart=>exact⟨0,rfl,(by omega),hK.up3.up3.up2.up3⟩
    case round=>
     clear hK;obtain⟨m,rfl,hm0,hK⟩:=hrel;generalize wr=W13 at hK⊢;go_upto_region 10 with(fail);refine wp_region_T [0] hK ?_;clear hK;refine eB (decide (((m:Int))<((n7:Int)))) (fun b3 hb3=>?_);refine sxEnd (fun W14 hK=>?_)
     cases b3
     · --
      have q_b3:((n7:Int))≤((m:Int)):=Int.not_lt.1 (of_decide_eq_false hb3.out);go_wp2
      try go_ret
      show Q0 (.returned (.bool true)) _
      exact(by obtain rfl:=hQ0.out;exact⟨rfl,hK.old⟩)
     · --
      have q_b3:((m:Int))<((n7:Int)):=of_decide_eq_true hb3.out;have i15:m<n7:=(by omega);obtain⟨g15,rfl⟩:=hK.pt m0 i15;have l15:m<sh7.length:=Nat.lt_of_lt_of_eq i15 (hK.len m0);obtain⟨x,ex⟩:∃z0,RowKit.Hid (sh7[m]?=some z0):=⟨_,hid (List.getElem?_eq_getElem l15)⟩;have i16:m<n10:=(by omega);obtain⟨g16,rfl⟩:=hK.pt m1 i16;have l16:m<sh7.length:=Nat.lt_of_lt_of_eq i16 (hK.len m1);obtain⟨y,ey⟩:∃z0,RowKit.Hid (sh7[m]?=some z0):=⟨_,hid (List.getElem?_eq_getElem l16)⟩;obtain rfl:x=y:=Option.some.inj (ex.out.symm.trans ey.out);have hxg:=hid (show sh7.getD m 0=x by rw[List.getD_eq_getElem?_getD,ex.out];rfl);obtain⟨⟨⟨p17,l17,c17⟩,⟨q17,u17,d17⟩⟩,hK⟩:=hK.toC ex.out;go_upto_region 12 with(fail);refine wp_region_S _ [0,0,0,0,1,0,0,0,2,1,0] hK ?_ (List.Sublist.refl _);clear hK
      iterate 3 refine e0 ?_
      refine eRm0 (F:=(rC 41 g15 n7 c7 sh7 m ⟨⟨p17,l17,c17⟩,⟨q17,u17,d17⟩⟩ x).F) (fun w k=>k.get m0) (h1:=by intro w' k;obtain⟨_,_,c0,c1,c2⟩:=k;(try simp at c0 c1 c2);go_simp;(try go_bits);exact⟨rfl,rfl⟩) ?_;refine eQ (fun w k=>qtext_q _ _ w (k.q m1) ⟨hTb.below k.old,trivial⟩ (by rw[←hxg.out];exact hsl.out m) (by decide)) ?_
      iterate 3 refine e0 ?_
      refine eRr m2 ex.out (fun x18=>?_);obtain⟨⟨p18,l18,c18⟩,⟨q18,u18,d18⟩⟩:=x18;dsimp only;refine eQ (fun w k=>rtext_q _ _ w (k.rq m0) (by rw[←hxg.out];exact hsl.out m) (by decide)) ?_;refine eV (.bool false) (fun w'=>by go_simp;(try go_bits);first|exact⟨rfl,rfl⟩|exact⟨congrArg Value.bool (by simp),rfl⟩) ?_;refine sxEnd (fun W19 hK=>?_);replace hK:=hK.up1;replace hK:=hK.unC;go_upto_region 14 with(fail);refine wp_region_T [0,0] hK ?_;clear hK
      iterate 2 refine e0 ?_
      refine sxEnd (fun W20 hK=>?_)
      (try go_wp2)
      go_roundw
      case rel=>exact⟨m+1,(by first|rfl|go_num),(by omega),(hK.subl (sK2 (sC2 (sC2 (List.Sublist.refl _)))))⟩
      case measure=>simp[intOf]<;>omega
   · --
    go_wp2
    try go_ret
    show Q0 (.returned (.bool false)) _
    exact(by obtain rfl:=hQ0.out;exact absurd hb2.out (by have q1:=hl1.out;have q2:=hl3.out;rw[q1,q2];simp))
  · --
   go_wp2
   try go_ret
   show Q0 (.returned (.bool true)) _
   exact(by obtain rfl:=hQ0.out;exact⟨rfl,hK.old⟩)
end Go.Proofs.YtlhbcopaakejgaaGreatDoor
