/- Certificates (one of several texts). Part 5 of 6. -/

import Derived.Test.YtgemmbpjebijlaaGreatDoorQD
import Derived.Laws.Strings3
import Derived.Laws.EntriesVeiled
import Derived.ChangeMaps5
import Derived.ProofKit
import Derived.OpenShut
import Derived.Lib.LaidTab
import Derived.Deep.Slices
namespace Go.Proofs.YtgemmbpjebijlaaGreatDoor
open Go.RowKit
open Go.Lib (decDigits)
section
def RsNil(rs:List Rw4):Prop:= ∀x∈rs,x.s=⟨none,0,0⟩
def NilZ(z:TbS):Prop:=RsNil z.rs/\z.g.s=⟨none,0,0⟩/\z.f=⟨none,0,0⟩
theorem T0_map(bs:List Rat):bs.map (fun b=>(⟨[],b⟩:LRow))=(T0 bs).rows:=by
  unfold T0;refine List.ext_getElem? fun i=>?_
  by_cases hi:i<bs.length
  . simp[List.getD,hi]
  simp[hi]
set_option maxRecDepth 100000 in
set_option maxHeartbeats 400000 in
theorem new_any(w:World){p_h0:Option Addr}{n_h0 c_h0:Nat}{bs:List Rat}(hh0:SlV ratK w (.slice p_h0 n_h0 c_h0) bs)(hb0:n_h0<=100000):
    Calls Tryz.prog 31 #[.slice p_h0 n_h0 c_h0] w fun e w'=> ∃a:Duo Nat TbS,e=.returned (.pointer (some ⟨a.a,0,none⟩))/\SS w [tbF a.a 0 a.b ⟨T0 bs,⟨[],0⟩⟩,cF (NilZ a.b)] w':=by
  have hK:=SS.start w;have⟨nh1,nh2⟩:=lle hh0.one0;refine Calls.hide (fun Q0 hQ0=>?_);go_enter Tryz.func31,Tryz.ntmps31;go_upto_region 1 with(fail);refine wp_region_T [0,3,0] hK ?_;clear hK;refine e0 ?_;refine eA (.cells #[.slice none 0 0,.slice none 0 0,.slice none 0 0,.slice none 0 0,.bool false,.slice none 0 0,.slice none 0 0,.int .i64 0] 121) (fun R1=>?_);refine e0 ?_;refine sxEnd (fun W2 hK=>?_);replace hK:=hK.fact (rO rw4K 119 none 0 0 ([]:List Rw4)) OwV.nil (fun _ h=>by cases h);replace hK:=hK.fact (rO intK 3 none 0 0 (slk 0)) OwV.nil (fun _ h=>by cases h);replace hK:=hK.rwZ 43;go_wp2_with fail;go_loopw [10] (fun s10 wl=> ∃(m:Nat) (rs:List Rw4) (pr:Option Addr) (nr:Nat) (cr:Nat) (pb:Option Addr) (nb:Nat) (cb:Nat),s10=.int .i64 (m:Int)/\(m<=n_h0)/\Hid (rs.length=((bs.take m).map fun b=>(⟨[],b⟩:LRow)).length)/\Hid (RsNil rs)/\Hid (rs=[]->pr=none)/\Hid (slk m=[]->pb=none)/\SS w ([bx R1 (.cells #[.slice pr nr cr,.slice pb nb cb,.slice none 0 0,.slice none 0 0,.bool false,.slice none 0 0,.slice none 0 0,.int .i64 0] 121),rO rw4K 119 pr nr cr rs,rO intK 3 pb nb cb (slk m),fmF 43 rs ((bs.take m).map fun b=>(⟨[],b⟩:LRow)) []]) wl) (fun s10 _=>n_h0-(intOf s10).toNat)
  case atStart=>exact⟨0,[],none,0,0,none,0,0,rfl,(by omega),hid rfl,hid (fun x hx=>absurd hx List.not_mem_nil),hid (fun _=>rfl),hid (fun _=>rfl),hK.up1.up2.up3⟩
  clear hK;obtain⟨m,rs,pr,nr,cr,pb,nb,cb,rfl,hk,h_l,h_s,h_r,h_b,hK⟩:=hrel;generalize wr=W3 at hK⊢;go_upto_region 3 with(fail);refine wp_region_T [0] hK ?_;clear hK;refine eB (decide (((m:Int))<((n_h0:Int)))) (fun b1 hb1=>?_);refine sxEnd (fun W4 hK=>?_)
  cases b1
  . --
   have q_b1:=nlt hb1;obtain rfl:m=bs.length:=(by omega);have hTr:((bs.take bs.length).map fun b=>(⟨[],b⟩:LRow))=(T0 bs).rows:=(by rw[List.take_length];exact T0_map bs);rw[hTr]at hK h_l;have hl:=h_l.out;replace hK:=hK.fact (rO intK 3 none 0 0 ([]:List Int)) OwV.nil (fun _ h=>by cases h);replace hK:=hK.fact (rO ratK 43 none 0 0 ([]:List Rat)) OwV.nil (fun _ h=>by cases h);replace hK:=hK.fact (qF (.agg #[.bool false,.slice none 0 0,.slice none 0 0]) (0:Rat)) (RatV.zero _);replace hK:=hK.up1;replace hK:=hK.up6;replace hK:=hK.up3;replace hK:=hK.up6;replace hK:=hK.up6;replace hK:=hK.up6;go_wp2
   try go_ret
   show Q0 (.returned (.pointer (some ⟨R1,0,none⟩))) _
   exact(qo hQ0 ⟨⟨R1,⟨⟨pr,nr,cr⟩,⟨pb,nb,cb⟩,⟨none,0,0⟩,⟨⟨none,0,0⟩,false,⟨none,0,0⟩,⟨none,0,0⟩⟩,rs⟩⟩,rfl,((SS.tb.2 (hK.fact (cF _) hl)).fact (cF _) (show NilZ _ from⟨h_s.out,rfl,rfl⟩)).up1⟩)
  have q_b1:=ylt hb1;have i5:m<n_h0:=(by omega);obtain⟨g5,o5,rfl⟩:=hh0.pt i5;have l5:m<bs.length:=Nat.lt_of_lt_of_eq i5 (hh0.one0);obtain⟨xb,exb⟩:=gtH l5;obtain⟨_,_,_,xb_c,xb_r⟩:=hh0.rat exb.out;obtain⟨rfl,⟨xb_p,xb_n,xb_d,rfl⟩,xb_q,xb_m,xb_e,rfl⟩:=ratV_cells' xb_r;replace hK:=hK.fact (qF (.agg #[.bool (isN xb),.slice xb_p xb_n xb_d,.slice xb_q xb_m xb_e]) xb) (xb_r.below hK.old);go_upto_region 4 with(fail);refine wp_region_T [0,0,0,3,0,4] hK ?_;clear hK
  iterate 2 refine e0 ?_
  refine eRm3 (fun w k=>xb_c.below k.old) ?_;refine eA (.cells #[.bool false,.slice none 0 0,.slice none 0 0] 43) (fun R6=>?_);refine e0 ?_;refine eP 0 0 [.bool (isN xb),.slice xb_p xb_n xb_d,.slice xb_q xb_m xb_e] ?_ (hq:=.inr ⟨rfl,rfl,rfl,rfl,rfl,trivial⟩);refine sxEnd (fun W7 hK=>?_);go_upto_region 5 with(fail);refine wp_region_S _ [0,0,0,0,1,0,0,3,5,0,0,4] hK ?_ (sK2 (sK2 (sC2 (sC2 (sR)))));clear hK
  iterate 4 refine e0 ?_
  refine eL m2 ?_;refine eL0 m0 ?_;refine e0 ?_;refine eA (.cells #[.slice none 0 0,.bool (isN xb),.slice xb_p xb_n xb_d,.slice xb_q xb_m xb_e] 119) (fun R8=>?_);refine eAppK 3 rw4K_hd rfl 4 h_r.out rfl infoW (fun w k=>k.one1 (K:=rw4K) (x:=⟨⟨none,0,0⟩,(isN xb),⟨xb_p,xb_n,xb_d⟩,⟨xb_q,xb_m,xb_e⟩⟩) m0 rfl) (by rw[h_l.out];simp;omega) (fun x9=>?_) (hs:=fun _=>(sC2 (sK2 (sK2 (sC2 (sC2 (sR)))))));obtain⟨p9,n9,c9⟩:=x9;dsimp only
  iterate 2 refine e0 ?_
  refine eP 3 0 [.slice p9 n9 c9] ?_ (hs:=(sC2 (sK2 (sK2 (sC2 (sC2 (sR))))))) (hq:=.inr ⟨rfl,rfl,rfl,rfl,rfl,rfl,trivial⟩);refine sxEnd (fun W10 hK=>?_);go_upto_region 6 with(fail);refine wp_region_T [0,0,0,0,1,0,3,5,0,0,4] hK ?_;clear hK
  iterate 4 refine e0 ?_
  refine eL m3 ?_;refine e0 ?_;refine eA (.cells #[.int .i64 (m:Int)] 3) (fun R11=>?_);refine eAppK 1 intK_hd rfl 6 h_b.out rfl infoZ (fun w k=>k.one1 (K:=intK) (x:=(m:Int)) m0 rfl) (by rw[slk_len];simp;omega) (fun x12=>?_);obtain⟨p12,n12,c12⟩:=x12;dsimp only
  iterate 2 refine e0 ?_
  refine eP 4 1 [.slice p12 n12 c12] ?_ (hq:=.inr ⟨rfl,rfl,rfl,rfl,rfl,rfl,rfl,trivial⟩);refine sxEnd (fun W13 hK=>?_);rw[show(slk m)++[(m:Int)]=slk (m+1)from(slk_snoc m)]at hK;replace hK:=hK.fact (rO ratK 43 none 0 0 ([]:List Rat)) OwV.nil (fun _ h=>by cases h);replace hK:=hK.up8;replace hK:=hK.up5;replace hK:=hK.up2;replace hK:=SS.rwN (x:=⟨⟨none,0,0⟩,(isN xb),⟨xb_p,xb_n,xb_d⟩,⟨xb_q,xb_m,xb_e⟩⟩) (y:=⟨[],xb⟩) hK h_l.out;rw[show((bs.take m).map fun b=>(⟨[],b⟩:LRow))++[⟨[],xb⟩]=(bs.take (m+1)).map fun b=>(⟨[],b⟩:LRow)from by rw[List.take_add_one,exb.out];simp]at hK
  (try go_wp2)
  go_roundw
  case rel=>exact⟨m+1,rs++[⟨⟨none,0,0⟩,(isN xb),⟨xb_p,xb_n,xb_d⟩,⟨xb_q,xb_m,xb_e⟩⟩],p9,n9,c9,p12,n12,c12,(by first|rfl|go_num),(by omega),hid (by rw[List.length_append,h_l.out];simp;omega),hid (fun x hx=>(List.mem_append.1 hx).elim (h_s.out x) fun h=>by rw[List.mem_singleton.1 h]),hid (fun e=>by simp at e),hid (fun e=>absurd (congrArg List.length e) (by rw[slk_len];simp)),(hK.subl (sK2 (sC2 (sC2 (sC2 (sR)))))).up3.up3.up3⟩
  case measure=>simp[intOf]<;>omega
set_option maxRecDepth 100000 in
set_option maxHeartbeats 400000 in
theorem adc_any(w V:World)(L:Lns){xp vp:Option Addr}{xl xc vl vc:Nat}{xn:Bool}{xy xz:Sl}{cs vs:List Rat}(b:Int){B:Nat}{S:Nat}{C:Nat}(l:List Ft)(hK:SS V ((bx B (.cells #[.slice vp vl vc] 34))::(bx S (.cells #[.slice none 0 0] 50))::(L.f ⟨⟨xp,xl,xc⟩,xn,⟨xy.p,xy.l,xy.c⟩,⟨xz.p,xz.l,xz.c⟩⟩)::(rO ratK 43 xp xl xc cs)::(rO ratK 43 vp vl vc vs)::l) w)(tz2:OkA 2 l)(tz3:OkA 3 l)(he:cs=[]->xp=none)(hcl:cs.length<=100000)(hbl: -1<=b)(hbu:b<=100000)(_hvl:vl<=100000):
    Calls Tryz.prog 66 #[.pointer (some ⟨L.g,L.o,none⟩),.int .i64 b,.pointer (some ⟨B,0,none⟩),.pointer (some ⟨S,0,none⟩),.pointer (some ⟨C,0,none⟩)] w fun e w'=> ∃y:Sl,e=.returned (.tuple #[])/\SS V (bx B (.cells #[.slice vp vl vc] 34)::bx S (.cells #[.slice none 0 0] 50)::L.f ⟨y,xn,xy,xz⟩::rO ratK 43 y.p y.l y.c (cs++[colC vs b])::rO ratK 43 vp vl vc vs::l) w':=by
  have nv:=hid (hK.len m4);have⟨nv1,nv2⟩:=lle nv.out;refine Calls.hide (fun Q0 hQ0=>?_);go_enter Tryz.func66,Tryz.ntmps66;go_upto_region 0 with(fail);refine wp_region_T [3] hK ?_;clear hK;refine eA (.cells #[.bool false,.slice none 0 0,.slice none 0 0] 43) (fun R1=>?_);refine sxEnd (fun W2 hK=>?_);go_upto_region 1 with(fail);refine wp_region_T [0,0,0,0,1,0,0,0] hK ?_;clear hK;refine e0 ?_;refine eB (decide (0<=b)) (fun b1 hb1=>?_);refine e0 ?_
  cases b1
  . --
   have q_b1:=nle hb1
   iterate 4 refine eN ?_
   refine e0 ?_;refine sxEnd (fun W3 hK=>?_);go_upto_region 3 with(fail);refine wp_region_T [1,0,0] hK ?_;clear hK;refine eL m2 ?_
   iterate 2 refine e0 ?_
   refine sxEnd (fun W4 hK=>?_);go_wp2_with fail;go_loopw [24] (fun s24 wl=> ∃(gu:Nat),s24=.int .i64 0/\SS V ((bx R1 (.cells #[.bool false,.slice none 0 0,.slice none 0 0] 43))::(bx B (.cells #[.slice vp vl vc] 34))::(bx S (.cells #[.slice none 0 0] 50))::(L.f ⟨⟨xp,xl,xc⟩,xn,⟨xy.p,xy.l,xy.c⟩,⟨xz.p,xz.l,xz.c⟩⟩)::(rO ratK 43 xp xl xc cs)::(rO ratK 43 vp vl vc vs)::l) wl) (fun s24 _=>0)
   case atStart=>exact⟨0,rfl,hK⟩
   clear hK;obtain⟨gu,rfl,hK⟩:=hrel;generalize wr=W5 at hK⊢;go_upto_region 4 with(fail);refine wp_region_T [0] hK ?_;clear hK;refine eV (.bool false) (fun w'=>by go_simp;(try go_bits);exact⟨rfl,rfl⟩) ?_;refine sxEnd (fun W6 hK=>?_);replace hK:=hK.fact (qF (.agg #[.bool false,.slice none 0 0,.slice none 0 0]) (0:Rat)) (RatV.zero _);go_upto_region 8 with(fail);refine wp_region_S _ [0,0,0,0,1,0,3,5,0,0,4] hK ?_ (sK2 (sK2 (sK2 (sK2 (sC2 (sC2 (sR)))))));clear hK
   iterate 4 refine e0 ?_
   refine eRm (F:=(L.f ⟨⟨xp,xl,xc⟩,xn,⟨xy.p,xy.l,xy.c⟩,⟨xz.p,xz.l,xz.c⟩⟩).F) (fun w k=>k.get m4) (h1:=by intro w' k;have c0:=L.rd0 k;go_simp;(try go_bits);exact⟨rfl,rfl⟩) ?_;refine eL0 m1 ?_;refine eA (.cells #[.bool false,.slice none 0 0,.slice none 0 0] 43) (fun R7=>?_);refine eAppK 2 ratK_hd rfl 6 he rfl infoQ (fun w k=>k.one1 (K:=ratK) (x:=(0:Rat)) m0 ⟨_,_,_,rfl,k.q m1⟩) (by simp;omega) (fun x8=>?_) (hs:=fun _=>(sC2 (sK2 (sK2 (sK2 (sK2 (sC2 (sC2 (sR)))))))));obtain⟨p8,n8,c8⟩:=x8;dsimp only
   iterate 2 refine e0 ?_
   refine eLw ⟨⟨p8,n8,c8⟩,xn,⟨xy.p,xy.l,xy.c⟩,⟨xz.p,xz.l,xz.c⟩⟩ 5 0 [.slice p8 n8 c8] ?_ (hs:=(sC2 (sK2 (sK2 (sK2 (sK2 (sC2 (sC2 (sR))))))))) (h1:=by intro w' k;have c0:=L.rd0 k;have c1:=L.rd1 k;have f:=L.fz k;go_simp;exact⟨rfl,rfl⟩);refine sxEnd (fun W9 hK=>?_);rw[show cs++[(0:Rat)]=cs++[colC vs b]from(by rw[colC_neg q_b1])]at hK;replace hK:=hK.subl (sC2 (sC2 (sC2 (sR))));go_wp2
   first|exact bodyPost_ret (v:=.tuple #[]) (results_none (by simp[Tryz.results66]) _ _ _) rfl (qo hQ0 ⟨⟨p8,n8,c8⟩,rfl,hK⟩)|exact bodyPost_end (v:=.tuple #[]) (results_none (by simp[Tryz.results66]) _ _ _) rfl (qo hQ0 ⟨⟨p8,n8,c8⟩,rfl,hK⟩)
  have q_b1:=ylt hb1;refine e0 ?_;refine eL m1 ?_;refine e0 ?_;refine eB (decide (b<((vl:Int)))) (fun b2 hb2=>?_);refine e0 ?_;refine sxEnd (fun W10 hK=>?_)
  cases b2
  . --
   have q_b2:=nlt hb2;go_upto_region 3 with(fail);refine wp_region_T [1,0,0] hK ?_;clear hK;refine eL m2 ?_
   iterate 2 refine e0 ?_
   refine sxEnd (fun W11 hK=>?_);go_wp2_with fail;go_loopw [24] (fun s24 wl=> ∃(gu:Nat),s24=.int .i64 0/\SS V ((bx R1 (.cells #[.bool false,.slice none 0 0,.slice none 0 0] 43))::(bx B (.cells #[.slice vp vl vc] 34))::(bx S (.cells #[.slice none 0 0] 50))::(L.f ⟨⟨xp,xl,xc⟩,xn,⟨xy.p,xy.l,xy.c⟩,⟨xz.p,xz.l,xz.c⟩⟩)::(rO ratK 43 xp xl xc cs)::(rO ratK 43 vp vl vc vs)::l) wl) (fun s24 _=>0)
   case atStart=>exact⟨0,rfl,hK⟩
   clear hK;obtain⟨gu,rfl,hK⟩:=hrel;generalize wr=W12 at hK⊢;go_upto_region 4 with(fail);refine wp_region_T [0] hK ?_;clear hK;refine eV (.bool false) (fun w'=>by go_simp;(try go_bits);exact⟨rfl,rfl⟩) ?_;refine sxEnd (fun W13 hK=>?_);replace hK:=hK.fact (qF (.agg #[.bool false,.slice none 0 0,.slice none 0 0]) (0:Rat)) (RatV.zero _);go_upto_region 8 with(fail);refine wp_region_S _ [0,0,0,0,1,0,3,5,0,0,4] hK ?_ (sK2 (sK2 (sK2 (sK2 (sC2 (sC2 (sR)))))));clear hK
   iterate 4 refine e0 ?_
   refine eRm (F:=(L.f ⟨⟨xp,xl,xc⟩,xn,⟨xy.p,xy.l,xy.c⟩,⟨xz.p,xz.l,xz.c⟩⟩).F) (fun w k=>k.get m4) (h1:=by intro w' k;have c0:=L.rd0 k;go_simp;(try go_bits);exact⟨rfl,rfl⟩) ?_;refine eL0 m1 ?_;refine eA (.cells #[.bool false,.slice none 0 0,.slice none 0 0] 43) (fun R14=>?_);refine eAppK 2 ratK_hd rfl 6 he rfl infoQ (fun w k=>k.one1 (K:=ratK) (x:=(0:Rat)) m0 ⟨_,_,_,rfl,k.q m1⟩) (by simp;omega) (fun x15=>?_) (hs:=fun _=>(sC2 (sK2 (sK2 (sK2 (sK2 (sC2 (sC2 (sR)))))))));obtain⟨p15,n15,c15⟩:=x15;dsimp only
   iterate 2 refine e0 ?_
   refine eLw ⟨⟨p15,n15,c15⟩,xn,⟨xy.p,xy.l,xy.c⟩,⟨xz.p,xz.l,xz.c⟩⟩ 5 0 [.slice p15 n15 c15] ?_ (hs:=(sC2 (sK2 (sK2 (sK2 (sK2 (sC2 (sC2 (sR))))))))) (h1:=by intro w' k;have c0:=L.rd0 k;have c1:=L.rd1 k;have f:=L.fz k;go_simp;exact⟨rfl,rfl⟩);refine sxEnd (fun W16 hK=>?_);rw[show cs++[(0:Rat)]=cs++[colC vs b]from(by rw[colC_out (by omega)])]at hK;replace hK:=hK.subl (sC2 (sC2 (sC2 (sR))));go_wp2
   first|exact bodyPost_ret (v:=.tuple #[]) (results_none (by simp[Tryz.results66]) _ _ _) rfl (qo hQ0 ⟨⟨p15,n15,c15⟩,rfl,hK⟩)|exact bodyPost_end (v:=.tuple #[]) (results_none (by simp[Tryz.results66]) _ _ _) rfl (qo hQ0 ⟨⟨p15,n15,c15⟩,rfl,hK⟩)
  have q_b2:=ylt hb2;obtain⟨k9,rfl⟩:=Int.eq_ofNat_of_zero_le q_b1;have i17:k9<vl:=(by have q:=of_decide_eq_true hb2.out;omega);obtain⟨g17,rfl⟩:=hK.pt m5 i17;have l17:k9<vs.length:=Nat.lt_of_lt_of_eq i17 (hK.len m5);obtain⟨xv,exv⟩:=gtH l17;go_upto_region 2 with(fail);refine wp_region_T [1,0,0,2,4] hK ?_;clear hK;refine eL m1 ?_
  iterate 2 refine e0 ?_
  refine eRq m5 exv.out (fun x18=>?_);obtain⟨⟨p18,l18,c18⟩,⟨q18,u18,d18⟩⟩:=x18;dsimp only;refine eP 1 0 [.bool (isN (xv)),.slice p18 l18 c18,.slice q18 u18 d18] ?_;refine sxEnd (fun W19 hK=>?_);go_upto_region 3 with(fail);refine wp_region_T [1,0,0] hK ?_;clear hK;refine eL m3 ?_
  iterate 2 refine e0 ?_
  refine sxEnd (fun W20 hK=>?_);go_wp2_with fail;go_loopw [24] (fun s24 wl=> ∃(gu:Nat),s24=.int .i64 0/\SS V ((qF (.agg #[.bool (isN (xv)),.slice p18 l18 c18,.slice q18 u18 d18]) (xv))::(bx R1 (.cells #[.bool (isN (xv)),.slice p18 l18 c18,.slice q18 u18 d18] 43))::(bx B (.cells #[.slice (some ⟨g17,0,none⟩) vl vc] 34))::(bx S (.cells #[.slice none 0 0] 50))::(L.f ⟨⟨xp,xl,xc⟩,xn,⟨xy.p,xy.l,xy.c⟩,⟨xz.p,xz.l,xz.c⟩⟩)::(rO ratK 43 xp xl xc cs)::(rO ratK 43 (some ⟨g17,0,none⟩) vl vc vs)::l) wl) (fun s24 _=>0)
  case atStart=>exact⟨0,rfl,hK⟩
  clear hK;obtain⟨gu,rfl,hK⟩:=hrel;generalize wr=W21 at hK⊢;go_upto_region 4 with(fail);refine wp_region_T [0] hK ?_;clear hK;refine eV (.bool false) (fun w'=>by go_simp;(try go_bits);exact⟨rfl,rfl⟩) ?_;refine sxEnd (fun W22 hK=>?_);go_upto_region 8 with(fail);refine wp_region_S _ [0,0,0,0,1,0,3,5,0,0,4] hK ?_ (sK2 (sK2 (sK2 (sK2 (sC2 (sC2 (sR)))))));clear hK
  iterate 4 refine e0 ?_
  refine eRm (F:=(L.f ⟨⟨xp,xl,xc⟩,xn,⟨xy.p,xy.l,xy.c⟩,⟨xz.p,xz.l,xz.c⟩⟩).F) (fun w k=>k.get m4) (h1:=by intro w' k;have c0:=L.rd0 k;go_simp;(try go_bits);exact⟨rfl,rfl⟩) ?_;refine eL0 m1 ?_;refine eA (.cells #[.bool (isN (xv)),.slice p18 l18 c18,.slice q18 u18 d18] 43) (fun R23=>?_);refine eAppK 2 ratK_hd rfl 6 he rfl infoQ (fun w k=>k.one1 (K:=ratK) (x:=xv) m0 ⟨_,_,_,rfl,k.q m1⟩) (by simp;omega) (fun x24=>?_) (hs:=fun _=>(sC2 (sK2 (sK2 (sK2 (sK2 (sC2 (sC2 (sR)))))))));obtain⟨p24,n24,c24⟩:=x24;dsimp only
  iterate 2 refine e0 ?_
  refine eLw ⟨⟨p24,n24,c24⟩,xn,⟨xy.p,xy.l,xy.c⟩,⟨xz.p,xz.l,xz.c⟩⟩ 5 0 [.slice p24 n24 c24] ?_ (hs:=(sC2 (sK2 (sK2 (sK2 (sK2 (sC2 (sC2 (sR))))))))) (h1:=by intro w' k;have c0:=L.rd0 k;have c1:=L.rd1 k;have f:=L.fz k;go_simp;exact⟨rfl,rfl⟩);refine sxEnd (fun W25 hK=>?_);rw[show cs++[xv]=cs++[colC vs (k9:Int)]from(by rw[colC_at exv.out])]at hK;replace hK:=hK.subl (sC2 (sC2 (sC2 (sR))));go_wp2
  first|exact bodyPost_ret (v:=.tuple #[]) (results_none (by simp[Tryz.results66]) _ _ _) rfl (qo hQ0 ⟨⟨p24,n24,c24⟩,rfl,hK⟩)|exact bodyPost_end (v:=.tuple #[]) (results_none (by simp[Tryz.results66]) _ _ _) rfl (qo hQ0 ⟨⟨p24,n24,c24⟩,rfl,hK⟩)
theorem addrow_any(w V:World){g n c k B S C:Nat}{vp:Option Addr}{vl vc:Nat}{rs:List Rw4}{T:List LRow}{x:Rw4}{y:LRow}{vs:List Rat}{b:Int}{l:List Ft}(hK:SS V (rO rw4K 119 (some ⟨g,0,none⟩) n c rs::fmF 43 rs T []::bx B (.cells #[.slice vp vl vc] 34)::bx S (.cells #[.slice none 0 0] 50)::rO ratK 43 vp vl vc vs::l) w)(tz2:OkA 2 l)(tz3:OkA 3 l)(hx:rs[k]?=some x)(hy:T[k]?=some y)(he:y.cs=[]->x.s.p=none)(hcl:y.cs.length<=100000)(hbl: -1<=b)(hbu:b<=100000)(hvl:vl<=100000):
    Calls Tryz.prog 66 #[.pointer (some ⟨g,k*4,none⟩),.int .i64 b,.pointer (some ⟨B,0,none⟩),.pointer (some ⟨S,0,none⟩),.pointer (some ⟨C,0,none⟩)] w fun e w'=> ∃x':Rw4,e=.returned (.tuple #[])/\SS V (rO rw4K 119 (some ⟨g,0,none⟩) n c (rs.set k x')::fmF 43 (rs.set k x') (T.set k ⟨y.cs++[colC vs b],y.r⟩) []::bx B (.cells #[.slice vp vl vc] 34)::bx S (.cells #[.slice none 0 0] 50)::rO ratK 43 vp vl vc vs::l) w':=by
  have hkl:=(List.getElem?_eq_some_iff.1 hx).1;have h1:=hK.up1.rwO List.not_mem_nil hx hy;rw[show rO rw4K 119 (some ⟨g,0,none⟩) n c rs=(lnE 119 g n c rs k hkl).f x from by show rO _ _ _ _ _ _=rO rw4K 119 (some ⟨g,0,none⟩) n c (rs.set k x);rw[set_same hx]]at h1;refine(adc_any w V (lnE 119 g n c rs k hkl) b (qF x.q y.r::fmF 43 rs T [k]::l) h1.up2.up2.up6.up3.up4.up6.up6 ⟨rfl,rfl,tz2⟩ ⟨rfl,rfl,tz3⟩ he hcl hbl hbu hvl).mono fun e w' ⟨s,e1,h4⟩=>⟨⟨s,x.n,x.y,x.z⟩,e1,?_⟩
  exact(SS.rwB (x:=⟨s,x.n,x.y,x.z⟩) (y:=⟨y.cs++[colC vs b],y.r⟩) h4.up4.up2.up2.up3.up6.up6.up6 List.not_mem_nil (List.getElem?_eq_some_iff.1 hy).1 hkl).up1
theorem addgl_any(w V:World){R B S C:Nat}{a b c:Sl}{nc:Int}{vp:Option Addr}{vl vc:Nat}{x:Rw4}{cs vs:List Rat}{l:List Ft}(hK:SS V (bx R (.cells #[.slice a.p a.l a.c,.slice b.p b.l b.c,.slice c.p c.l c.c,.slice x.s.p x.s.l x.s.c,.bool x.n,.slice x.y.p x.y.l x.y.c,.slice x.z.p x.z.l x.z.c,.int .i64 nc] 121)::rO ratK 43 x.s.p x.s.l x.s.c cs::bx B (.cells #[.slice vp vl vc] 34)::bx S (.cells #[.slice none 0 0] 50)::rO ratK 43 vp vl vc vs::l) w)(tz2:OkA 2 l)(tz3:OkA 3 l)(he:cs=[]->x.s.p=none)(hcl:cs.length<=100000)(hvl:vl<=100000):
    Calls Tryz.prog 66 #[.pointer (some ⟨R,3,none⟩),.int .i64 (-1),.pointer (some ⟨B,0,none⟩),.pointer (some ⟨S,0,none⟩),.pointer (some ⟨C,0,none⟩)] w fun e w'=> ∃y:Sl,e=.returned (.tuple #[])/\SS V (bx R (.cells #[.slice a.p a.l a.c,.slice b.p b.l b.c,.slice c.p c.l c.c,.slice y.p y.l y.c,.bool x.n,.slice x.y.p x.y.l x.y.c,.slice x.z.p x.z.l x.z.c,.int .i64 nc] 121)::rO ratK 43 y.p y.l y.c (cs++[0])::bx B (.cells #[.slice vp vl vc] 34)::bx S (.cells #[.slice none 0 0] 50)::rO ratK 43 vp vl vc vs::l) w':=by
  refine(adc_any w V (plG R a b c nc) (-1) l (xn:=x.n) (xy:=x.y) (xz:=x.z) hK.up4.up2.up2.up4.up4 tz2 tz3 he hcl (by omega) (by omega) hvl).mono fun e w' ⟨s,e1,h4⟩=>⟨s,e1,?_⟩
  rw[colC_neg (show(-1:Int)<0 by omega)]at h4;exact h4.up4.up2.up2.up4.up4
theorem NilZ.row{z:TbS}(h:NilZ z)(i:Nat):(z.rs[i]?.map fun x=>x.s.p).getD none=none:=by
  cases e:z.rs[i]? with
  |none=>rfl
  |some x=>show x.s.p=none;rw[h.1 x (List.mem_of_getElem? e)]
theorem NilZ.free{z:TbS}(h:NilZ z):z.f.p=none:=by rw[h.2.2]
theorem NilZ.goal{z:TbS}(h:NilZ z):z.g.s.p=none:=by rw[h.2.1]
set_option maxRecDepth 100000 in
set_option maxHeartbeats 1000000 in
theorem addcol_any(w V:World){R nc:Nat}{z:TbS}{s:LSt}{ts:List Trm}{vs:List Rat}{cost:Rat}{kn:Bool}{kp lp:Option Addr}{kl kc ll lc:Nat}{tp:Option Addr}{tl tc:Nat}(l:List Ft)(hK:SS V ((tbF R nc z s)::(rO trK 86 tp tl tc ts)::(qF (.agg #[.bool kn,.slice kp kl kc,.slice lp ll lc]) (cost))::l) w)(tz1:OkA 1 l)(tz2:OkA 2 l)(tz3:OkA 3 l)(hbas:s.T.basic=slk s.T.rows.length)(hfre:s.T.free=cls s.T.rows.length nc)(hgl:s.g.cs.length=nc)(hrl:∀y∈s.T.rows,y.cs.length=nc)(hti:∀t∈ts,t.i<s.T.rows.length)(hvs:valN s.T.rows.length ts=vs)(hm:s.T.rows.length<=2000)(hn:nc<=2000)(htn:ts.length<=2000)(hcl:LmQ 300 cost)(he:nc=0->NilZ z):
    Calls Tryz.prog 33 #[.pointer (some ⟨R,0,none⟩),.agg #[.bool kn,.slice kp kl kc,.slice lp ll lc],.slice tp tl tc] w fun e w'=> ∃z':TbS,e=.returned (.tuple #[])/\SS V (tbF R (nc+1) z' ⟨s.T.add vs ((s.T.rows.length+nc:Nat):Int),s.g.add cost⟩::l) w':=by
  obtain⟨⟨rp,rl,rc⟩,⟨bp,bl,bc⟩,⟨fp,fl,fc⟩,⟨⟨gp,gl,gc⟩,gn,gy,gz⟩,rs⟩:=z;obtain⟨T,y0⟩:=s;replace hK:=SS.tb.1 hK;dsimp only at*;dsimp only[tbL,List.cons_append,List.nil_append]at hK;have hrs:=hid (hK.get m0);have nr:=hid ((hK.len m2).trans hrs.out);have⟨nr1,nr2⟩:=lle nr.out;have nb:=hid ((hK.len m3).trans (show T.basic.length=T.rows.length by rw[hbas,slk_len]));have⟨nb1,nb2⟩:=lle nb.out;have nf:=hid ((hK.len m4).trans (show T.free.length=nc by rw[hfre,cls_len]));have⟨nf1,nf2⟩:=lle nf.out;have nt1:=Nat.le_of_eq (hK.len m8);have nt2:=Nat.le_of_eq (hK.len m8).symm;obtain⟨num,hnum⟩:∃z:Int,Hid (((T.rows.length+nc:Nat):Int)=z):=⟨_,hid rfl⟩;replace hbas:=hid hbas;replace hfre:=hid hfre;replace hvs:=hid hvs;replace hgl:=hid hgl;have hvl:=hid (show vs.length=T.rows.length by rw[<-hvs.out,valN_len]);replace hK:=hK.subl (sC2 (sR));refine Calls.hide (fun Q0 hQ0=>?_);go_enter Tryz.func33,Tryz.ntmps33;go_upto_region 0 with(fail);refine wp_region_T [3,3] hK ?_;clear hK;refine eA (.cells #[.pointer (some ⟨R,0,none⟩)] 81) (fun R1=>?_);refine eA (.cells #[.bool kn,.slice kp kl kc,.slice lp ll lc] 43) (fun R2=>?_);refine sxEnd (fun W3 hK=>?_);go_upto_region 1 with(fail);refine wp_region_S _ [0,0,0,0,0,0,0,0,0,0,0] hK ?_ (sR);clear hK;refine eL0 m1 ?_
  iterate 2 refine e0 ?_
  refine eL0 m2 ?_;refine e0 ?_;refine eL0 m1 ?_
  iterate 2 refine e0 ?_
  refine eL0 m2 ?_;refine eV (.int .i64 num) (fun w'=>by go_simp;(try go_bits);exact⟨congrArg (Value.int .i64) (by rw[<-hnum.out,nr.out];omega),rfl⟩) ?_;refine e0 ?_;refine sxEnd (fun W4 hK=>?_);go_upto_region 2 with(fail);refine wp_region_T [1,0,0,1,0,0,0,4] hK ?_;clear hK;refine eL m1 ?_
  iterate 2 refine e0 ?_
  refine eL m2 ?_;refine eV (.int .i64 ((nc+1:Nat):Int)) (fun w'=>by go_simp;(try go_bits);exact⟨congrArg (Value.int .i64) (by omega),rfl⟩) ?_
  iterate 2 refine e0 ?_
  refine eP 2 7 [.int .i64 ((nc+1:Nat):Int)] ?_;refine sxEnd (fun W5 hK=>?_);go_upto_region 3 with(fail);refine wp_region_T [1,0,0,1,0,3,3,4] hK ?_;clear hK;refine eL m1 ?_
  iterate 2 refine e0 ?_
  refine eL m2 ?_;refine e0 ?_;refine eMk (K:=ratK) (t:=43) (x:=(0:Rat)) rl rat0 rfl infoQ (by show rl*3<=_;omega) (by decide) (fun g6=>?_);refine eA (.cells #[.slice none 0 0] 34) (fun R7=>?_);refine eP 0 0 [.slice (some ⟨g6,0,none⟩) rl rl] ?_;refine sxEnd (fun W8 hK=>?_);replace hK:=hK.up1;replace hK:=hK.made (K:=ratK) (n:=rl) rat0 (by simp[maxLen];omega);rw[show List.replicate rl (0:Rat)=valN rl (ts.take 0)from rfl]at hK;go_wp2_with fail;go_loopw [41] (fun s41 wl=> ∃(m:Nat),s41=.int .i64 (m:Int)/\(m<=ts.length)/\SS V ((rO ratK 43 (some ⟨g6,0,none⟩) rl rl (valN rl (ts.take m)))::(bx R7 (.cells #[.slice (some ⟨g6,0,none⟩) rl rl] 34))::(bx R2 (.cells #[.bool kn,.slice kp kl kc,.slice lp ll lc] 43))::(bx R1 (.cells #[.pointer (some ⟨R,0,none⟩)] 81))::(bx R (.cells #[.slice rp rl rc,.slice bp bl bc,.slice fp fl fc,.slice gp gl gc,.bool gn,.slice gy.p gy.l gy.c,.slice gz.p gz.l gz.c,.int .i64 ((nc+1:Nat):Int)] 121))::(rO rw4K 119 rp rl rc rs)::(rO intK 3 bp bl bc T.basic)::(rO intK 3 fp fl fc T.free)::(fmF 43 rs T.rows [])::(rO ratK 43 gp gl gc y0.cs)::(qF (.agg #[.bool gn,.slice gy.p gy.l gy.c,.slice gz.p gz.l gz.c]) (y0.r))::(rO trK 86 tp tl tc ts)::(qF (.agg #[.bool kn,.slice kp kl kc,.slice lp ll lc]) (cost))::l) wl) (fun s41 _=>tl-(intOf s41).toNat)
  case atStart=>exact⟨0,rfl,(by omega),hK⟩
  clear hK;obtain⟨m,rfl,hm0,hK⟩:=hrel;generalize wr=W9 at hK⊢;go_upto_region 5 with(fail);refine wp_region_T [0] hK ?_;clear hK;refine eB (decide (((m:Int))<((tl:Int)))) (fun b1 hb1=>?_);refine sxEnd (fun W10 hK=>?_)
  cases b1
  . --
   have q_b1:=nlt hb1;go_upto_region 9 with(fail);refine wp_region_T [3] hK ?_;clear hK;refine eA (.cells #[.slice none 0 0] 50) (fun R11=>?_);refine sxEnd (fun W12 hK=>?_);go_upto_region 10 with(fail);refine wp_region_T [1,0,0,1,0,0] hK ?_;clear hK;refine eL m4 ?_
   iterate 2 refine e0 ?_
   refine eL m5 ?_
   iterate 2 refine e0 ?_
   refine sxEnd (fun W13 hK=>?_);rw[show valN rl (ts.take m)=vs from(by rw[List.take_of_length_le (by omega),nr.out];exact hvs.out)]at hK;go_wp2_with fail;go_loopw [57] (fun s57 wl=> ∃(jj:Nat),s57=.int .i64 (jj:Int)/\(jj<=nc)/\SS V ((bx R11 (.cells #[.slice none 0 0] 50))::(rO ratK 43 (some ⟨g6,0,none⟩) rl rl vs)::(bx R7 (.cells #[.slice (some ⟨g6,0,none⟩) rl rl] 34))::(bx R2 (.cells #[.bool kn,.slice kp kl kc,.slice lp ll lc] 43))::(bx R1 (.cells #[.pointer (some ⟨R,0,none⟩)] 81))::(bx R (.cells #[.slice rp rl rc,.slice bp bl bc,.slice fp fl fc,.slice gp gl gc,.bool gn,.slice gy.p gy.l gy.c,.slice gz.p gz.l gz.c,.int .i64 ((nc+1:Nat):Int)] 121))::(rO rw4K 119 rp rl rc rs)::(rO intK 3 bp bl bc T.basic)::(rO intK 3 fp fl fc T.free)::(fmF 43 rs T.rows [])::(rO ratK 43 gp gl gc y0.cs)::(qF (.agg #[.bool gn,.slice gy.p gy.l gy.c,.slice gz.p gz.l gz.c]) (y0.r))::(rO trK 86 tp tl tc ts)::(qF (.agg #[.bool kn,.slice kp kl kc,.slice lp ll lc]) (cost))::l) wl) (fun s57 _=>fl-(intOf s57).toNat)
   case atStart=>exact⟨0,rfl,(by omega),hK⟩
   clear hK;obtain⟨jj,rfl,hj0,hK⟩:=hrel;generalize wr=W14 at hK⊢;go_upto_region 11 with(fail);refine wp_region_T [0] hK ?_;clear hK;refine eB (decide (((jj:Int))<((fl:Int)))) (fun b2 hb2=>?_);refine sxEnd (fun W15 hK=>?_)
   cases b2
   . --
    have q_b2:=nlt hb2;go_upto_region 17 with(fail);refine wp_region_T [1,0,0,1,0,0] hK ?_;clear hK;refine eL m4 ?_
    iterate 2 refine e0 ?_
    refine eL m5 ?_
    iterate 2 refine e0 ?_
    refine sxEnd (fun W16 hK=>?_);replace hK:=hK.up1;replace hK:=hK.up1;replace hK:=hK.up2;replace hK:=hK.up9;replace hK:=hK.up7;have hz9:Hid (T.rows=updK (fun i x=>⟨x.cs++[vs.getD i 0],x.r⟩) T.rows 0):=hid updK_zero.symm;rw[show T.rows=updK (fun i x=>⟨x.cs++[vs.getD i 0],x.r⟩) T.rows 0 from hz9.out]at hK;go_wp2_with fail;go_loopw [89] (fun s89 wl=> ∃(m:Nat) (rs1:List Rw4),s89=.int .i64 (m:Int)/\(m<=rl)/\Hid (rs1.length=rs.length)/\Hid (∀i,m<=i->nc=0->(rs1[i]?.map fun x=>x.s.p).getD none=none)/\SS V ((rO rw4K 119 rp rl rc rs1)::(fmF 43 rs1 (updK (fun i x=>⟨x.cs++[vs.getD i 0],x.r⟩) T.rows m) [])::(bx R7 (.cells #[.slice (some ⟨g6,0,none⟩) rl rl] 34))::(bx R11 (.cells #[.slice none 0 0] 50))::(rO ratK 43 (some ⟨g6,0,none⟩) rl rl vs)::(bx R2 (.cells #[.bool kn,.slice kp kl kc,.slice lp ll lc] 43))::(bx R1 (.cells #[.pointer (some ⟨R,0,none⟩)] 81))::(bx R (.cells #[.slice rp rl rc,.slice bp bl bc,.slice fp fl fc,.slice gp gl gc,.bool gn,.slice gy.p gy.l gy.c,.slice gz.p gz.l gz.c,.int .i64 ((nc+1:Nat):Int)] 121))::(rO intK 3 bp bl bc T.basic)::(rO intK 3 fp fl fc T.free)::(rO ratK 43 gp gl gc y0.cs)::(qF (.agg #[.bool gn,.slice gy.p gy.l gy.c,.slice gz.p gz.l gz.c]) (y0.r))::(rO trK 86 tp tl tc ts)::(qF (.agg #[.bool kn,.slice kp kl kc,.slice lp ll lc]) (cost))::l) wl) (fun s89 _=>rl-(intOf s89).toNat)
    case atStart=>exact⟨0,rs,rfl,(by omega),hid rfl,hid (fun i _ e=>NilZ.row (he e) i),hK⟩
    clear hK;obtain⟨m,rs1,rfl,hm0,h_n,h_k,hK⟩:=hrel;generalize wr=W17 at hK⊢;go_upto_region 18 with(fail);refine wp_region_T [0] hK ?_;clear hK;refine eB (decide (((m:Int))<((rl:Int)))) (fun b3 hb3=>?_);refine sxEnd (fun W18 hK=>?_)
    cases b3
    . --
     have q_b3:=nlt hb3;have hmr:=hid (show m=rl by omega);go_upto_region 22 with(fail);refine wp_region_T [0,1,0,0,4] hK ?_;clear hK;refine e0 ?_;refine eL m6 ?_
     iterate 2 refine e0 ?_
     refine eM (fun w k=>addgl_any w _ (a:=⟨rp,rl,rc⟩) (b:=⟨bp,bl,bc⟩) (c:=⟨fp,fl,fc⟩) (x:=⟨⟨gp,gl,gc⟩,gn,gy,gz⟩) k.up4.up4.up4.up10.up8 ⟨rfl,rfl,rfl,rfl,rfl,rfl,rfl,rfl,rfl,tz2⟩ ⟨rfl,rfl,rfl,rfl,rfl,rfl,rfl,rfl,rfl,tz3⟩ (fun e=>NilZ.goal (he (by rw[<-hgl.out,e];rfl))) (by rw[hgl.out];omega) (by omega)) (fun x19=>?_);obtain⟨px19,nx19,cx19⟩:=x19;dsimp only;refine sxEnd (fun W20 hK=>?_);go_upto_region 23 with(fail);refine wp_region_T [1,0,0,1,0,0] hK ?_;clear hK;refine eL m8 ?_
     iterate 2 refine e0 ?_
     refine eL m0 ?_
     iterate 2 refine e0 ?_
     refine sxEnd (fun W21 hK=>?_);have hgn:fl<(y0.cs++[(0:Rat)]).length:=(by rw[List.length_append,hgl.out,nf.out];simp);have ngl:=hid (hK.len m1);have i22:fl<nx19:=(by rw[ngl.out];exact hgn);obtain⟨g22,rfl⟩:=hK.pt m1 i22;have l22:fl<(y0.cs++[0]).length:=Nat.lt_of_lt_of_eq i22 (hK.len m1);obtain⟨xg,exg⟩:=gtH l22;have hxg:Hid (xg=0):=hid (by have q:=exg.out;rw[nf.out,List.getElem?_append_right (by rw[hgl.out];omega),hgl.out]at q;simpa using q.symm);go_upto_region 24 with(fail);refine wp_region_S _ [0,0,0,0,0,0,0,0,0,0,0,0,0,2,0,2,0,4] hK ?_ (sK2 (sC2 (sR)));clear hK;refine eL0 m7 ?_
     iterate 3 refine e0 ?_
     refine eL0 m0 ?_;refine e0 ?_;refine eL0 m7 ?_
     iterate 3 refine e0 ?_
     refine eL0 m0 ?_
     iterate 2 refine e0 ?_
     refine eRq m1 exg.out (fun x23=>?_);obtain⟨⟨p23,l23,c23⟩,⟨q23,u23,d23⟩⟩:=x23;dsimp only;refine eL0 m6 ?_;refine eC (fun w k=>rat_S (qsub_any _ _ _ _ w (k.q m0) (k.q m14) (by rw[hxg.out];exact LmQ.nil0.up (by decide)) hcl (by decide))) (fun x24=>?_);obtain⟨⟨p25,l25,c25⟩,⟨q25,u25,d25⟩⟩:=x24;dsimp only;refine e0 ?_;refine eWQ (y:=(xg-cost)) 3 hgn m0 ?_ (hi:=rfl) (hs:=(sC2 (sC2 (sK2 (sC2 (sR))))));refine sxEnd (fun W26 hK=>?_);go_upto_region 25 with(fail);refine wp_region_S _ [0,0,0,0,1,0,3,5,0,0,4] hK ?_ (sK2 (sK2 (sC2 (sK2 (sK2 (sK2 (sK2 (sK2 (sK2 (sK2 (sK2 (sK2 (sC2 (sR))))))))))))));clear hK
     iterate 2 refine eL0 m9 ?_
     iterate 2 refine e0 ?_
     refine eL m2 ?_;refine e0 ?_;refine eA (.cells #[.int .i64 num] 3) (fun R27=>?_);refine eAppK 1 intK_hd rfl 13 (fun e=>NilZ.free (he (by have q:=congrArg List.length e;rw[hfre.out,cls_len]at q;exact q))) rfl infoZ (fun w k=>k.one1 (K:=intK) (x:=num) m0 rfl) (by rw[hfre.out,cls_len];simp;omega) (fun x28=>?_) (hs:=fun _=>(sC2 (sK2 (sK2 (sC2 (sK2 (sK2 (sK2 (sK2 (sK2 (sK2 (sK2 (sK2 (sK2 (sC2 (sR))))))))))))))));obtain⟨p28,n28,c28⟩:=x28;dsimp only
     iterate 2 refine e0 ?_
     refine eP 3 2 [.slice p28 n28 c28] ?_ (hs:=(sC2 (sK2 (sK2 (sC2 (sK2 (sK2 (sK2 (sK2 (sK2 (sK2 (sK2 (sK2 (sK2 (sC2 (sR))))))))))))))));refine sxEnd (fun W29 hK=>?_);replace hK:=hK.subl (sC2 (sC2 (sC2 (sK2 (sK2 (sC2 (sC2 (sC2 (sK2 (sK2 (sC2 (sC2 (sK2 (sK2 (sK2 (sC2 (sC2 (sR))))))))))))))))));replace hK:=hK.up6;replace hK:=hK.up2;replace hK:=hK.up4;replace hK:=hK.up6;replace hK:=hK.up6;replace hK:=hK.up6;replace hK:=hK.up6;have hl9:rs1.length=(T.add vs ((T.rows.length+nc:Nat):Int)).rows.length:=(by rw[h_n.out,hrs.out];simp[LTab.add]);rw[show updK (fun i x=>⟨x.cs++[vs.getD i 0],x.r⟩) T.rows m=(T.add vs ((T.rows.length+nc:Nat):Int)).rows from by rw[add_upd (Nat.le_of_eq (nr.out.symm.trans hmr.out.symm))],show T.free++[num]=(T.add vs ((T.rows.length+nc:Nat):Int)).free from by rw[<-hnum.out];rfl,show List.set (y0.cs++[0]) fl (xg-cost)=(y0.add cost).cs from by rw[hxg.out,nf.out];unfold LRow.add;rw[List.set_append_right _ _ (by rw[hgl.out];omega),hgl.out];simp]at hK;go_wp2
     first|exact bodyPost_ret (v:=.tuple #[]) (results_none (by simp[Tryz.results33]) _ _ _) rfl (qo hQ0 ⟨⟨⟨rp,rl,rc⟩,⟨bp,bl,bc⟩,⟨p28,n28,c28⟩,⟨⟨(some ⟨g22,0,none⟩),nx19,cx19⟩,gn,gy,gz⟩,rs1⟩,rfl,SS.tb.2 (hK.fact (cF _) hl9)⟩)|exact bodyPost_end (v:=.tuple #[]) (results_none (by simp[Tryz.results33]) _ _ _) rfl (qo hQ0 ⟨⟨⟨rp,rl,rc⟩,⟨bp,bl,bc⟩,⟨p28,n28,c28⟩,⟨⟨(some ⟨g22,0,none⟩),nx19,cx19⟩,gn,gy,gz⟩,rs1⟩,rfl,SS.tb.2 (hK.fact (cF _) hl9)⟩)
    have q_b3:=ylt hb3;have hkr:m<T.rows.length:=(by omega);obtain⟨y,ey⟩:∃y,Hid (T.rows[m]?=some y):=⟨_,hid (List.getElem?_eq_getElem hkr)⟩;have hy1:Hid ((updK (fun i x=>⟨x.cs++[vs.getD i 0],x.r⟩) T.rows m)[m]?=some y):=hid (updK_at.trans ey.out);have hyl:=hid (hrl y (List.mem_of_getElem? ey.out));have i30:m<rl:=(by omega);obtain⟨g30,rfl⟩:=hK.pt m0 i30;have l30:m<rs1.length:=Nat.lt_of_lt_of_eq i30 (hK.len m0);obtain⟨xm,exm⟩:=gtH l30;obtain⟨⟨xm_p,xm_l,xm_c⟩,xm_n,⟨xm_yp,xm_yl,xm_yc⟩,⟨xm_zp,xm_zl,xm_zc⟩⟩:=xm;have i31:m<bl:=(by omega);obtain⟨g31,rfl⟩:=hK.pt m8 i31;have l31:m<T.basic.length:=Nat.lt_of_lt_of_eq i31 (hK.len m8);obtain⟨xb,exb⟩:=gtH l31;obtain rfl:xb=(m:Int):=by have q:=exb.out;rw[hbas.out,slk_at hkr]at q;exact(Option.some.inj q).symm
    replace hK:=hK.up4;replace hK:=hK.up4;replace hK:=hK.up4;replace hK:=hK.up4;replace hK:=hK.up4;go_upto_region 20 with(fail);refine wp_region_S _ [0,0,0,0,0,0,0,0,0,0,0,0,0,0,4] hK ?_ (sC2 (sC2 (sR)));clear hK;refine e0 ?_;refine eL0 m4 ?_
    iterate 2 refine e0 ?_
    refine eL0 m5 ?_
    iterate 2 refine e0 ?_
    refine eL0 m4 ?_
    iterate 2 refine e0 ?_
    refine eL0 m5 ?_
    iterate 2 refine e0 ?_
    refine eR0 (fun w k=>(k.own m6).int exb.out) ?_;refine eM (fun w k=>addrow_any w _ (b:=(m:Int)) k.up4.up4.up4.up4.up4 ⟨rfl,rfl,rfl,rfl,rfl,rfl,rfl,rfl,rfl,tz2⟩ ⟨rfl,rfl,rfl,rfl,rfl,rfl,rfl,rfl,rfl,tz3⟩ exm.out hy1.out (fun e=>by have q:=h_k.out m (Nat.le_refl _) (by rw[<-hyl.out,e];rfl);rw[exm.out]at q;exact q) (by rw[hyl.out];omega) (by omega) (by omega) (by omega)) (fun x32=>?_) (hs:=fun _=>(sC2 (sC2 (sR))));refine sxEnd (fun W33 hK=>?_);rw[show(updK (fun i x=>⟨x.cs++[vs.getD i 0],x.r⟩) T.rows m).set m ⟨y.cs++[colC vs (m:Int)],y.r⟩=updK (fun i x=>⟨x.cs++[vs.getD i 0],x.r⟩) T.rows (m+1)from(by rw[colC_at (show vs[m]?=some (vs.getD m 0)from getD_lt (by have q:=hvl.out;omega))];exact updK_step ey.out)]at hK
    (try go_wp2)
    go_roundw
    case rel=>exact⟨m+1,rs1.set m x32,(by first|rfl|go_num),(by omega),hid (by rw[List.length_set];exact h_n.out),hid (fun i hi e=>by rw[List.getElem?_set_ne (by omega)];exact h_k.out i (by omega) e),hK⟩
    case measure=>simp[intOf]<;>omega
   have q_b2:=ylt hb2;have hml:jj<nc:=(by omega);have i34:jj<fl:=(by omega);obtain⟨g34,rfl⟩:=hK.pt m8 i34;have l34:jj<T.free.length:=Nat.lt_of_lt_of_eq i34 (hK.len m8);obtain⟨xf,exf⟩:=gtH l34;have hxf:Hid (xf=((T.rows.length+jj:Nat):Int)):=hid (by have q:=exf.out;rw[hfre.out,cls_at hml]at q;exact(Option.some.inj q).symm);have hxg:(rl:Int)<=xf:=by rw[hxf.out];omega
   go_upto_region 12 with(fail);refine wp_region_T [0,0,1,0,0] hK ?_;clear hK
   iterate 2 refine e0 ?_
   refine eR (fun w k=>(k.own m8).int exf.out) ?_
   iterate 2 refine e0 ?_
   refine sxEnd (fun W35 hK=>?_);go_upto_region 13 with(fail);refine wp_region_T [0,0,0,0,1,0,0,0,0,0,0,0,0,0,0,0] hK ?_;clear hK;refine e0 ?_;refine eV (.bool true) (fun w'=>by go_simp;(try go_bits);exact⟨congrArg Value.bool (decide_eq_true (by omega)),rfl⟩) ?_
   iterate 2 refine e0 ?_
   refine eL m2 ?_;refine e0 ?_;refine eV (.bool false) (fun w'=>by go_simp;(try go_bits);exact⟨congrArg Value.bool (decide_eq_false (by omega)),rfl⟩) ?_
   iterate 2 refine e0 ?_
   iterate 6 refine eN ?_
   refine e0 ?_;refine sxEnd (fun W36 hK=>?_)
   (try go_wp2)
   go_roundw
   case rel=>exact⟨jj+1,(by first|rfl|go_num),(by omega),hK⟩
   case measure=>simp[intOf]<;>omega
  have q_b1:=ylt hb1;have i37:m<tl:=(by omega);obtain⟨g37,rfl⟩:=hK.pt m11 i37;have l37:m<ts.length:=Nat.lt_of_lt_of_eq i37 (hK.len m11);obtain⟨t,et⟩:=gtH l37;have hti1:=hti t (List.mem_of_getElem? et.out);go_upto_region 6 with(fail);refine wp_region_T [0,2,3,4] hK ?_;clear hK;refine e0 ?_;refine eRt m11 et.out (fun x38=>?_);obtain⟨⟨p38,l38,c38⟩,⟨q38,u38,d38⟩⟩:=x38;dsimp only;refine eA (.cells #[.int .i64 0,.bool false,.slice none 0 0,.slice none 0 0] 86) (fun R39=>?_);refine eP 0 0 [.int .i64 (t.i:Int),.bool (isN t.v),.slice p38 l38 c38,.slice q38 u38 d38] ?_;refine sxEnd (fun W40 hK=>?_);have i41:t.i<rl:=(by omega);have l41:t.i<(valN rl (ts.take m)).length:=Nat.lt_of_lt_of_eq i41 (hK.len m2);obtain⟨xo,exo⟩:=gtH l41;go_upto_region 7 with(fail);refine wp_region_T [1,0,1,0,1,0,4] hK ?_;clear hK;refine eL m3 ?_;refine e0 ?_;refine eL m0 ?_;refine e0 ?_;refine eL m0 ?_;refine e0 ?_;refine eWQ (y:=t.v) 2 (by rw[valN_len];omega) m1 ?_ (hi:=rfl);refine sxEnd (fun W42 hK=>?_);rw[show(valN rl (ts.take m)).set (t.i) t.v=valN rl (ts.take (m+1))from(valN_take et.out)]at hK
  (try go_wp2)
  go_roundw
  case rel=>exact⟨m+1,(by first|rfl|go_num),(by omega),(hK.subl (sC2 (sC2 (sR))))⟩
  case measure=>simp[intOf]<;>omega
end
section
def SmX(X:Nat)(c:Rat):Prop:=c.num.natAbs<=X/\c.den<=X
structure SmR(X:Nat)(R:LpRes):Prop where
  x:∀c∈R.x,SmX X c
  y:∀c∈R.y,SmX X c
  r:∀c∈R.r,SmX X c
  z:SmX X R.z
def InfY(P:LPd)(Y:List Rat):Prop:=InfC P Y/\ ∀X,LimS X P-> ∀c∈Y,SmX X c
section
variable {P:LPd}{X:Nat}{T:LTab}{g z:LRow}{t:LSt}
theorem LimS.one(h:LimS X P)(hP:P.Ok):1<=X:=((h.i _ hP.init (Alike.refl _)).os P.goal (List.mem_singleton.2 rfl)).2.2
theorem smx0(h:1<=X):SmX X 0:=⟨Nat.zero_le _,h⟩
theorem smx1(h:1<=X):SmX X (1-0):=by rw[show(1:Rat)-0=1 by grind];exact⟨h,h⟩
theorem SmX.neg{c:Rat}(h:SmX X c):SmX X (-c):=⟨by rw[Rat.neg_num,Int.natAbs_neg];exact h.1,by rw[Rat.neg_den];exact h.2⟩
theorem asg_sm(h1:1<=X):∀(bs:List Int) (xs:List Rat) (n:Int),(∀x∈xs,SmX X x)->SmX X (asg bs xs n)
  |[],_,_,_=>by unfold asg;exact smx0 h1
  |_::_,[],_,_=>by unfold asg;exact smx0 h1
  | b::bs,x::xs,n,h=>by
    unfold asg
    split
    . exact h x (List.mem_cons_self ..)
    exact asg_sm h1 bs xs n fun y hy=>h y (List.mem_cons_of_mem _ hy)
theorem asg_dif(j:Nat)(n:Int):∀(bs:List Int) (rs:List LRow),asg bs (rs.map fun x=>x.r-x.cs.getD j 0*1) n-asg bs (rs.map fun x=>x.r-x.cs.getD j 0*0) n=asg bs (rs.map fun x=> -(x.cs.getD j 0)) n
  |[],_=>by simp only[asg];grind
  |_::_,[]=>by simp only[List.map_nil,asg];grind
  | b::bs,x::rs=>by
    simp only[List.map_cons,asg]
    split
    . grind
    exact asg_dif j n bs rs
theorem getD_sm(h1:1<=X){l:List Rat}(h:∀c∈l,SmX X c)(j:Nat):SmX X (l.getD j 0):=by
  cases e:l[j]? with
  |none=>rw[List.getD,e];exact smx0 h1
  |some c=>rw[getD_of e];exact h c (List.mem_of_getElem? e)
theorem prices_sm(h1:1<=X){m:Nat}{fs:List Int}{cs:List Rat}(h:∀c∈cs,SmX X c):∀c∈pricesL m fs cs,SmX X c:=fun c hc=>by
  obtain⟨k,_,rfl⟩:=List.mem_map.1 hc;exact asg_sm h1 _ _ _ h
theorem point_sm(h1:1<=X){m n:Nat}(h:∀x∈T.rows,SmX X x.r):∀c∈pointL m n T,SmX X c:=fun c hc=>by
  obtain⟨k,_,rfl⟩:=List.mem_map.1 hc;refine asg_sm h1 _ _ _ fun x hx=>?_
  obtain⟨y,hy,rfl⟩:=List.mem_map.1 hx;exact h y hy
theorem ray_sm(h1:1<=X){m n j:Nat}(h:∀x∈T.rows,∀c∈x.cs,SmX X c):∀c∈rayL m n T j,SmX X c:=fun c hc=>by
  obtain⟨k,_,rfl⟩:=List.mem_map.1 hc;unfold LTab.pt
  split
  . exact smx1 h1
  rw[asg_dif];refine asg_sm h1 _ _ _ fun x hx=>?_
  obtain⟨y,hy,rfl⟩:=List.mem_map.1 hx;exact(getD_sm h1 (h y hy) j).neg
theorem Ph1.infY(hP:P.Ok)(h:Ph1 P ⟨T,[g,z]⟩)(hr:z.r<0)(hc:(-1:Int)∉T.basic\/entN z.cs T.free z.cs.length<0):InfY P (pricesL T.rows.length T.free z.cs):=
  ⟨h.inf_case hP hr hc,fun _ q=>prices_sm (q.one hP) ((q.a _ h.ok h.al).os z (by simp)).1⟩
theorem inf_sm(hP:P.Ok){Y:List Rat}(q:LimS X P)(h:∀c∈Y,SmX X c):SmR X ⟨2,[],Y,[],0⟩:=⟨nofun,h,nofun,smx0 (q.one hP)⟩
theorem opt_sm(hP:P.Ok)(q:LimS X P)(ht:t.Ok)(ha:Alike t.obj P.init){m n m':Nat}:SmR X ⟨1,pointL m n t.T,pricesL m' t.T.free t.g.cs,[],t.g.r⟩:=
  have h:=q.i _ ht.obj ha;have h2:=h.os t.g (List.mem_singleton.2 rfl)
  ⟨point_sm (q.one hP) fun x hx=>(h.rows x hx).2,prices_sm (q.one hP) h2.1,nofun,h2.2⟩
theorem unb_sm(hP:P.Ok)(q:LimS X P)(ht:t.Ok)(ha:Alike t.obj P.init){m n m' n' j:Nat}:SmR X ⟨3,pointL m n t.T,[],rayL m' n' t.T j,0⟩:=
  have h:=q.i _ ht.obj ha
  ⟨point_sm (q.one hP) fun x hx=>(h.rows x hx).2,nofun,ray_sm (q.one hP) fun x hx=>(h.rows x hx).1,smx0 (q.one hP)⟩
end
end
section
def plZ(Z:Nat):Lns:=lnB Z [] [] (fun _=>rfl) 119
structure StR where
  b:Bool
  y:Sl
  z:TbS
  t:LSt
  Y:List Rat
instance :Nonempty StR:=⟨⟨true,⟨none,0,0⟩,Classical.choice inferInstance,Classical.choice inferInstance,[]⟩⟩
structure StOk(P:LPd)(a:StR):Prop where
  y:a.y=⟨none,0,0⟩
  ok:a.t.Ok
  al:Alike a.t.obj P.init
  lm:LmK 300 a.t
def stT(R nc:Nat)(P:LPd)(a:StR):Ft:=stF [0] [tbF R nc a.z a.t,cF (StOk P a)] (fun f hf n hn=>by
  rcases List.mem_cons.1 hf with rfl|hf
  . exact hn
  rw[List.mem_singleton.1 hf]at hn;cases hn)
def stN(P:LPd)(a:StR):Ft:=stF [0] [rO ratK 43 a.y.p a.y.l a.y.c a.Y,cF (InfY P a.Y)] (fun f hf n hn=>by
  rcases List.mem_cons.1 hf with rfl|hf
  . exact hn
  rw[List.mem_singleton.1 hf]at hn;cases hn)
def stA(R nc:Nat)(P:LPd)(a:StR):Ft:=match a.b with
  |true=>stT R nc P a
  |false=>stN P a
theorem SS.stT{V w:World}{l:List Ft}{R nc:Nat}{P:LPd}{a:StR}(h:SS V (tbF R nc a.z a.t::l) w)(hb:a.b=true)(ho:StOk P a):SS V (stA R nc P a::l) w:=by
  unfold stA;rw[hb];exact SS.star.2 (h.fact (cF _) ho).up1
theorem SS.stN{V w:World}{l:List Ft}{R nc:Nat}{P:LPd}{a:StR}(h:SS V (rO ratK 43 a.y.p a.y.l a.y.c a.Y::l) w)(hb:a.b=false)(ho:InfY P a.Y):SS V (stA R nc P a::l) w:=by
  unfold stA;rw[hb];exact SS.star.2 (h.fact (cF _) ho).up1
set_option maxRecDepth 100000 in
set_option maxHeartbeats 4000000 in
theorem start_any(w V:World){R nc:Nat}{z:TbS}{P:LPd}(l:List Ft)(hK:SS V ((tbF R nc z (⟨P.init.T,P.goal⟩))::l) w)(tz1:OkA 1 l)(tz2:OkA 2 l)(tz3:OkA 3 l)(hP:P.Ok)(hL:LimP P)(hn1:1<=P.c.length)(hmm:P.A.length<=2000)(hcc:P.c.length<=2000):
    Calls Tryz.prog 34 #[.pointer (some ⟨R,0,none⟩)] w fun e w'=> ∃a:StR,e=.returned (.tuple #[.slice a.y.p a.y.l a.y.c,.bool a.b])/\SS V (stA R nc P a::l) w':=by
  have hrl:=hid (init_rl P);have hbl:=hid (init_bl P);have hfl:=hid (init_fl P);have hgl:=hid (goal_len P);have hrs0:=hid (rows0_r hP);have hbn:=hid hP.hb;obtain⟨⟨rp,rl,rc⟩,⟨bp,bl,bc⟩,⟨fp,fl,fc⟩,⟨⟨gp,gl,gc⟩,gn,gy,gz⟩,rs⟩:=z;replace hK:=SS.tb.1 hK;dsimp only[tbL,List.cons_append,List.nil_append,Rw4.q]at hK;have hrs:=hid (hK.get m0);have nr:=hid ((hK.len m2).trans hrs.out);have⟨nr1,nr2⟩:=lle nr.out;have nb:=hid (hK.len m3);have⟨nb1,nb2⟩:=lle nb.out;have nf:=hid (hK.len m4);have⟨nf1,nf2⟩:=lle nf.out;have ng:=hid (hK.len m6);have⟨ng1,ng2⟩:=lle ng.out;replace hK:=hK.subl (sC2 (sR));have hra:=hid (nr.out.trans hrl.out);have⟨hra1,hra2⟩:=lle hra.out;refine Calls.hide (fun Q0 hQ0=>?_);go_enter Tryz.func34,Tryz.ntmps34;go_upto_region 2 with(fail);refine wp_region_T [0,0,0,1,0,0] hK ?_;clear hK
  iterate 3 refine e0 ?_
  refine eL m0 ?_
  iterate 2 refine e0 ?_
  refine sxEnd (fun W1 hK=>?_);go_wp2_with fail;go_loopw [4,16] (fun s4 s16 wl=> ∃(m:Nat) (e:Int),s4=.int .i64 e/\s16=.int .i64 (m:Int)/\(m<=rl)/\Hid (WorstP P.b m e)/\SS V ((bx R (.cells #[.slice rp rl rc,.slice bp bl bc,.slice fp fl fc,.slice gp gl gc,.bool gn,.slice gy.p gy.l gy.c,.slice gz.p gz.l gz.c,.int .i64 (nc:Int)] 121))::(rO rw4K 119 rp rl rc rs)::(rO intK 3 bp bl bc P.init.T.basic)::(rO intK 3 fp fl fc P.init.T.free)::(fmF 43 rs P.init.T.rows [])::(rO ratK 43 gp gl gc P.goal.cs)::(qF (.agg #[.bool gn,.slice gy.p gy.l gy.c,.slice gz.p gz.l gz.c]) (P.goal.r))::l) wl) (fun s4 s16 _=>rl-(intOf s16).toNat)
  case atStart=>exact⟨0,(-1),rfl,rfl,(by omega),hid WorstP.zero,hK⟩
  clear hK;obtain⟨m,e,rfl,rfl,hm0,h_w,hK⟩:=hrel;generalize wr=W2 at hK⊢;go_upto_region 3 with(fail);refine wp_region_T [0] hK ?_;clear hK;refine eB (decide (((m:Int))<((rl:Int)))) (fun b1 hb1=>?_);refine sxEnd (fun W3 hK=>?_)
  cases b1
  . --
   have q_b1:=nlt hb1;go_upto_region 8 with(fail);refine wp_region_T [0,0] hK ?_;clear hK;refine e0 ?_;refine eB (decide (e<0)) (fun b2 hb2=>?_);refine sxEnd (fun W4 hK=>?_)
   cases b2
   . --
    have q_b2:=nlt hb2;have hm9:m=P.A.length:=(by omega);have hwp9:=h_w.out;rw[hm9]at hwp9;obtain⟨mw,rfl⟩:∃q:Nat,e=(q:Int):=Int.eq_ofNat_of_zero_le q_b2;have hwm:=hid hwp9;clear hwp9 hm9;obtain⟨hma,hph0⟩:=worst_ph1 hP hwm.out;have hph:=hid hph0;clear hph0;obtain⟨X,hX,hLS0⟩:=hL.a (worst_neg hwm.out);have hLS:=hid hLS0;clear hLS0;obtain⟨ng,hng⟩:∃q:List Rat,Hid (List.replicate P.A.length (-1)=q):=⟨_,hid rfl⟩;go_upto_region 10 with(fail);refine wp_region_T [0,0,0,1,0,0] hK ?_;clear hK
    iterate 3 refine e0 ?_
    refine eL m0 ?_
    iterate 2 refine e0 ?_
    refine sxEnd (fun W5 hK=>?_);rw[show P.init.T.rows=updK (fun i x=>⟨x.cs++[ng.getD i 0],x.r⟩) P.init.T.rows 0 from updK_zero.symm]at hK;go_wp2_with fail;go_loopw [52] (fun s52 wl=> ∃(mr:Nat) (rs2:List Rw4),s52=.int .i64 (mr:Int)/\(mr<=rl)/\Hid (rs2.length=rs.length)/\SS V ((bx R (.cells #[.slice rp rl rc,.slice bp bl bc,.slice fp fl fc,.slice gp gl gc,.bool gn,.slice gy.p gy.l gy.c,.slice gz.p gz.l gz.c,.int .i64 (nc:Int)] 121))::(rO rw4K 119 rp rl rc rs2)::(rO intK 3 bp bl bc P.init.T.basic)::(rO intK 3 fp fl fc P.init.T.free)::(fmF 43 rs2 (updK (fun i x=>⟨x.cs++[ng.getD i 0],x.r⟩) P.init.T.rows mr) [])::(rO ratK 43 gp gl gc P.goal.cs)::(qF (.agg #[.bool gn,.slice gy.p gy.l gy.c,.slice gz.p gz.l gz.c]) (P.goal.r))::l) wl) (fun s52 _=>rl-(intOf s52).toNat)
    case atStart=>exact⟨0,rs,rfl,(by omega),hid rfl,hK⟩
    clear hK;obtain⟨mr,rs2,rfl,hm2,h_n,hK⟩:=hrel;generalize wr=W6 at hK⊢;go_upto_region 11 with(fail);refine wp_region_T [0] hK ?_;clear hK;refine eB (decide (((mr:Int))<((rl:Int)))) (fun b3 hb3=>?_);refine sxEnd (fun W7 hK=>?_)
    cases b3
    . --
     have q_b3:=nlt hb3;replace hK:=hK.fact (qF (.agg #[.bool false,.slice none 0 0,.slice none 0 0]) (0:Rat)) (RatV.zero _);go_upto_region 15 with(fail);refine wp_region_T [0,0,0,0,0,1,0,3,5,0,0,0,4] hK ?_;clear hK
     iterate 5 refine e0 ?_
     refine eL m1 ?_;refine e0 ?_;refine eA (.cells #[.bool false,.slice none 0 0,.slice none 0 0] 43) (fun R8=>?_);refine eAppK 2 ratK_hd rfl 7 (fun e=>by have q:=hgl.out;rw[e]at q;simp at q;omega) rfl infoQ (fun w k=>k.one1 (K:=ratK) (x:=(0:Rat)) m0 ⟨_,_,_,rfl,k.q m1⟩) (by rw[hgl.out];simp;omega) (fun x9=>?_);obtain⟨p9,n9,c9⟩:=x9;dsimp only
     iterate 3 refine e0 ?_
     refine eP 2 3 [.slice p9 n9 c9] ?_;refine sxEnd (fun W10 hK=>?_);go_upto_region 16 with(fail);refine wp_region_T [0,0,0,0,1,3,5,0,0,4] hK ?_;clear hK
     iterate 4 refine e0 ?_
     refine eL m2 ?_;refine eA (.cells #[.int .i64 (-1)] 3) (fun R11=>?_);refine eAppK 1 intK_hd rfl 6 (fun e=>by have q:=hfl.out;rw[e]at q;simp at q;omega) rfl infoZ (fun w k=>k.one1 (K:=intK) (x:=(-1)) m0 rfl) (by rw[hfl.out];simp;omega) (fun x12=>?_);obtain⟨p12,n12,c12⟩:=x12;dsimp only
     iterate 2 refine e0 ?_
     refine eP 3 2 [.slice p12 n12 c12] ?_;refine sxEnd (fun W13 hK=>?_);have hnn:=hid (show n12=P.c.length+1 from by have q:=hK.len m6;rw[List.length_append,hfl.out]at q;exact q);have hnn1:n12<=2001:=(by rw[hnn.out];omega);have hnn2:1<=n12:=(by rw[hnn.out];omega);go_upto_region 17 with(fail);refine wp_region_T [0,0,0,1,0,0,0] hK ?_;clear hK
     iterate 3 refine e0 ?_
     refine eL m3 ?_;refine e0 ?_;refine eV (.int .i64 (P.c.length:Int)) (fun w'=>by go_simp;(try go_bits);exact⟨congrArg (Value.int .i64) (by have q:=hnn.out;omega),rfl⟩) ?_;refine e0 ?_;refine sxEnd (fun W14 hK=>?_);go_upto_region 18 with(fail);refine wp_region_T [0,0,0,1,0,3,0,3,4] hK ?_;clear hK
     iterate 3 refine e0 ?_
     refine eL m3 ?_;refine e0 ?_;refine eMk (K:=ratK) (t:=43) (x:=(0:Rat)) n12 rat0 rfl infoQ (by have q:=hnn.out;show n12*3<=_;omega) (by decide) (fun g15=>?_);refine e0 ?_;refine eA (.cells #[.slice none 0 0,.bool false,.slice none 0 0,.slice none 0 0] 119) (fun R16=>?_);refine eP 0 0 [.slice (some ⟨g15,0,none⟩) n12 n12,.bool false,.slice none 0 0,.slice none 0 0] ?_;refine sxEnd (fun W17 hK=>?_);replace hK:=hK.up1;replace hK:=hK.made (K:=ratK) (n:=n12) rat0 (by simp[maxLen];omega);have hnn3:=hnn.out;have i18:P.c.length<n12:=(by omega);have l18:P.c.length<(List.replicate n12 (0:Rat)).length:=Nat.lt_of_lt_of_eq i18 (hK.len m0);obtain⟨xz,exz⟩:=gtH l18;go_upto_region 19 with(fail);refine wp_region_S _ [0,0,0,2,0,4] hK ?_ (sC2 (sR));clear hK;refine e0 ?_;refine eL0 m0 ?_;refine e0 ?_;refine eC (fun w k=>rat_S (qint_any 1 w (by omega) (by omega))) (fun x19=>?_);obtain⟨⟨p20,l20,c20⟩,⟨q20,u20,d20⟩⟩:=x19;dsimp only;refine e0 ?_;refine eWQ (y:=((1:Int):Rat)) 1 (by rw[List.length_replicate];omega) m0 ?_ (hi:=rfl) (hs:=(sC2 (sC2 (sR))));refine sxEnd (fun W21 hK=>?_);rw[show(List.replicate n12 (0:Rat)).set (P.c.length) ((1:Int):Rat)=P.zero.cs from(by rw[hnn.out];exact zero_cs P)]at hK;have hA:Hid (P.initA.T=P.init.T.add ng (-1)):=hid (by rw[initA_add,hng.out]);rw[show updK (fun i x=>⟨x.cs++[ng.getD i 0],x.r⟩) P.init.T.rows mr=P.initA.T.rows from(by rw[hA.out,add_upd (k:=mr) (by omega)])]at hK;rw[show P.init.T.free++[(-1)]=P.initA.T.free from(by rw[hA.out];rfl)]at hK;rw[show P.init.T.basic=P.initA.T.basic from(by rw[hA.out];rfl)]at hK;rw[show P.goal.cs++[(0:Rat)]=(P.goal.add 0).cs from(by rw[<-goal_add0])]at hK;replace hK:=hK.subl (sC2 (sK2 (sK2 (sC2 (sC2 (sR))))));replace hK:=hK.up2;replace hK:=hK.up1;replace hK:=hK.up2;replace hK:=hK.up9;replace hK:=hK.up9;replace hK:=hK.up9;replace hK:=hK.up9;replace hK:=hK.up9;replace hK:=hK.up9;replace hK:=hK.up9;replace hK:SS V (tbF R nc (⟨⟨rp,rl,rc⟩,⟨bp,bl,bc⟩,⟨p12,n12,c12⟩,⟨⟨p9,n9,c9⟩,gn,⟨gy.p,gy.l,gy.c⟩,⟨gz.p,gz.l,gz.c⟩⟩,rs2⟩) (⟨P.initA.T,(P.goal.add 0)⟩:LSt)::_) _:=SS.tb.2 (hK.fact (cF (List.length rs2=(LTab.rows P.initA.T).length)) (show rs2.length=P.initA.T.rows.length from by rw[h_n.out,hrs.out,initA_len];exact hrl.out))
     obtain⟨zA,hzA⟩:∃q:TbS,Hid ((⟨⟨rp,rl,rc⟩,⟨bp,bl,bc⟩,⟨p12,n12,c12⟩,⟨⟨p9,n9,c9⟩,gn,⟨gy.p,gy.l,gy.c⟩,⟨gz.p,gz.l,gz.c⟩⟩,rs2⟩:TbS)=q):=⟨_,hid rfl⟩;rw[hzA.out]at hK;have hlA:=hid ((hLS.out.a _ hP.initA (Alike.refl _)).lm hX);have hlB:=hid ((hLS.out.a _ hph.out.ok hph.out.al).lm hX);have hsp:=hid (start_piv P mw);have hmA:=hid (show LmO 300 ⟨P.initA.T,[P.goal.add 0,P.zero]⟩from by have q:=hlA.out;rwa [show P.initA=⟨P.initA.T,[P.goal.add 0,P.zero]⟩from by rw[<-initA_os]]at q);have hmB:=hid (show LmO 300 (LObj.piv ⟨P.initA.T,[P.goal.add 0,P.zero]⟩ mw P.c.length)from by have q:=hlB.out;rwa [hsp.out]at q);go_upto_region 20 with(fail);refine wp_region_T [0,0,0,0,0,0,3,4] hK ?_;clear hK
     iterate 6 refine e0 ?_
     refine eA (.cells #[.pointer (some ⟨R,3,none⟩),.pointer (some ⟨R16,0,none⟩)] 122) (fun R22=>?_);refine eM (fun w k=>piv2_any w _ _ (L:=plZ R16) (x:=⟨⟨(some ⟨g15,0,none⟩),n12,n12⟩,false,⟨none,0,0⟩,⟨none,0,0⟩⟩) (y:=P.zero) k.up4.up4.up4.up4 tz1 tz2 tz3 (by rw[initA_len];exact hma) (by rw[initA_free];omega) hP.initA.ok (hP.initA.len _ (by rw[initA_os];simp)) (hP.initA.len _ (by rw[initA_os];simp)) hmA.out hmB.out (by rw[initA_free];omega) (by rw[initA_len];omega)) (fun x23=>?_);refine sxEnd (fun W24 hK=>?_);go_wp2_with fail;go_loopg [] (muS ⟨(P.initA.T.pivot mw P.c.length),(P.initA.T.obj mw P.c.length P.zero)⟩) (fun gk0 wl=> ∃(TT:LTab) (gg:LRow) (zz:LRow) (zq:TbS) (zx:Rw4),Hid (Ph1 P ⟨TT,[gg,zz]⟩)/\Hid (gk0=muS ⟨TT,zz⟩)/\SS V ((tbF R nc zq (⟨TT,gg⟩))::(bx R16 (.cells #[.slice zx.s.p zx.s.l zx.s.c,.bool zx.n,.slice zx.y.p zx.y.l zx.y.c,.slice zx.z.p zx.z.l zx.z.c] 119))::(rO ratK 43 zx.s.p zx.s.l zx.s.c zz.cs)::(qF (.agg #[.bool zx.n,.slice zx.y.p zx.y.l zx.y.c,.slice zx.z.p zx.z.l zx.z.c]) (zz.r))::l) wl)
     case atStart=>exact⟨P.initA.T.pivot mw P.c.length,P.initA.T.obj mw P.c.length (P.goal.add 0),P.initA.T.obj mw P.c.length P.zero,x23.a,x23.b,hid (by have q:=hph.out;rw[hsp.out]at q;exact q),hid rfl,hK⟩
     clear hK;obtain⟨TT,gg,zz,zq,zx,h_p,hgk25,hK⟩:=hrel;generalize wr=W26 at hK⊢;have hok:=h_p.out.ok.ok;have hlm:=hid ((hLS.out.a _ h_p.out.ok h_p.out.al).lm hX);have hfl2:=hid h_p.out.free_len;have hrl2:=hid h_p.out.rows_len;have hzl:=hid (h_p.out.ok.len zz (List.mem_cons_of_mem _ (List.mem_cons_self ..)));have hgl2:=hid (h_p.out.ok.len gg (List.mem_cons_self ..));obtain⟨⟨rp2,rl2,rc2⟩,⟨bp2,bl2,bc2⟩,⟨fp2,fl2,fc2⟩,⟨⟨gp2,gl2,gc2⟩,gn2,gy2,gz2⟩,rs2⟩:=zq;replace hK:=SS.tb.1 hK;dsimp only[tbL,List.cons_append,List.nil_append,Rw4.q]at hK;have hrs2:=hid (hK.get m0);have n2r:=hid ((hK.len m2).trans hrs2.out);have⟨n2r1,n2r2⟩:=lle n2r.out;have n2b:=hid (hK.len m3);have⟨n2b1,n2b2⟩:=lle n2b.out;have n2f:=hid (hK.len m4);have⟨n2f1,n2f2⟩:=lle n2f.out;have n2g:=hid (hK.len m6);have⟨n2g1,n2g2⟩:=lle n2g.out;replace hK:=hK.subl (sC2 (sR));go_upto_region 21 with(fail);refine wp_region_T [0,0,0,1,1] hK ?_;clear hK
     iterate 3 refine e0 ?_
     refine eL m0 ?_;obtain⟨b4,hb4⟩:=nmB (TT.basic.contains (-1));refine eQ (v:=.bool b4) (fun w k=>contains_int (-1) (k.own m2)) ?_ (hv:=by rw[hb4.out]);refine sxEnd (fun W27 hK=>?_)
     cases b4
     . --
      go_upto_region 25 with(fail);refine wp_region_T [0,1,1,0] hK ?_;clear hK;refine e0 ?_;refine eL m7 ?_;obtain⟨z1,hz1⟩:=nmI (sgQ (zz.r));refine eQ (v:=.int .i64 z1) (fun w k=>sign_any _ _ w (k.q m9)) ?_ (hv:=by rw[hz1.out]);refine eB (decide (z1<0)) (fun b5 hb5=>?_);refine sxEnd (fun W28 hK=>?_)
      cases b5
      . --
       have q_b5:=nlt hb5;have hzr0:Hid (0<=zz.r):=hid (Rat.not_lt.1 (fun q=>absurd ((sgx_lt hz1.out).2 q) (of_decide_eq_false hb5.out)));replace hK:=hK.subl (sK2 (sK2 (sK2 (sK2 (sK2 (sK2 (sK2 (sC2 (sC2 (sC2 (sR)))))))))));replace hK:SS V (tbF R nc (⟨⟨rp2,rl2,rc2⟩,⟨bp2,bl2,bc2⟩,⟨fp2,fl2,fc2⟩,⟨⟨gp2,gl2,gc2⟩,gn2,⟨gy2.p,gy2.l,gy2.c⟩,⟨gz2.p,gz2.l,gz2.c⟩⟩,rs2⟩) (⟨TT,gg⟩:LSt)::_) _:=SS.tb.2 (hK.fact (cF (List.length rs2=(LTab.rows TT).length)) hrs2.out);obtain⟨zD,hzD⟩:∃q:TbS,Hid ((⟨⟨rp2,rl2,rc2⟩,⟨bp2,bl2,bc2⟩,⟨fp2,fl2,fc2⟩,⟨⟨gp2,gl2,gc2⟩,gn2,⟨gy2.p,gy2.l,gy2.c⟩,⟨gz2.p,gz2.l,gz2.c⟩⟩,rs2⟩:TbS)=q):=⟨_,hid rfl⟩;rw[hzD.out]at hK;go_upto_region 27 with(fail);refine wp_region_T [0,4] hK ?_;clear hK;refine e0 ?_;refine eM (fun w k=>remove_any w _ _ (z0:=zz) k tz1 tz2 tz3 hP h_p.out hzr0.out hLS.out hX hmm hcc) (fun x29=>?_);refine sxEnd (fun W30 hK=>?_);obtain⟨hr1,hr2⟩:=hK.get m1;replace hK:=hK.subl (sK2 (sC2 (sR)));go_wp2
       try go_ret
       show Q0 (.returned (.tuple #[.slice none 0 0,.bool true])) _
       exact(qo hQ0 ⟨⟨true,⟨none,0,0⟩,x29.a,x29.b,[]⟩,rfl,SS.stT hK rfl ⟨rfl,hr1,hr2,LmK.of hLS.out hX hr1 hr2⟩⟩)
      have q_b5:=ylt hb5;go_upto_region 26 with(fail);refine wp_region_T [0,1,2,0,0] hK ?_;clear hK;refine e0 ?_;refine eL m7 ?_;refine eC (fun w k=>prices_any w (z:=⟨⟨rp2,rl2,rc2⟩,⟨bp2,bl2,bc2⟩,⟨fp2,fl2,fc2⟩,⟨⟨gp2,gl2,gc2⟩,gn2,⟨gy2.p,gy2.l,gy2.c⟩,⟨gz2.p,gz2.l,gz2.c⟩⟩,rs2⟩) (s:=⟨TT,gg⟩) ⟨k.box m0,k.slv m1,k.slv m2,k.slv m3,k.fmV m4 hrs2.out,k.slv m5,k.q m6⟩ hok (Nat.le_trans (Nat.le_of_eq hrl2.out) (by omega)) (k.slv m8) hzl.out (Nat.le_trans (Nat.le_of_eq hfl2.out) (by omega))) (fun x31=>?_);obtain⟨px31,lx31,cx31⟩:=x31;dsimp only
      iterate 2 refine e0 ?_
      refine sxEnd (fun W32 hK=>?_);replace hK:=hK.subl (sK2 (sC2 (sC2 (sC2 (sC2 (sC2 (sC2 (sC2 (sC2 (sC2 (sC2 (sR))))))))))));go_wp2
      try go_ret
      show Q0 (.returned (.tuple #[.slice px31 lx31 cx31,.bool false])) _
      exact(qo hQ0 ⟨⟨false,⟨px31,lx31,cx31⟩,Classical.choice inferInstance,Classical.choice inferInstance,pricesL TT.rows.length TT.free zz.cs⟩,rfl,SS.stN hK rfl (h_p.out.infY hP ((sgx_lt hz1.out).1 q_b5) (.inl (notin_of hb4.out)))⟩)
     go_upto_region 22 with(fail);refine wp_region_T [0,1,0] hK ?_;clear hK;refine e0 ?_;obtain⟨z1,hz1⟩:=nmI (entN zz.cs TT.free zz.cs.length);refine eQ (v:=.int .i64 z1) (fun w k=>ent_any w (plZ R16) (k.box m0) (k.box m7) (k.slv m3) (k.slv m8) (Nat.le_of_eq hzl.out) (by rw[hfl2.out];omega)) ?_ (hv:=by rw[hz1.out]);refine e0 ?_;refine sxEnd (fun W33 hK=>?_);go_upto_region 23 with(fail);refine wp_region_T [0,0] hK ?_;clear hK;refine e0 ?_;refine eB (decide (z1<0)) (fun b5 hb5=>?_);refine sxEnd (fun W34 hK=>?_)
     cases b5
     . --
      have q_b5:=nlt hb5;obtain⟨j,rfl⟩:∃j:Nat,z1=(j:Int):=Int.eq_ofNat_of_zero_le q_b5;obtain⟨hjl,hjn⟩:=ent_some (s:=⟨TT,zz⟩) hz1.out;have hjf:j<TT.free.length:=(by rw[<-hzl.out];exact hjl);obtain⟨i,hie0,hil⟩:=h_p.out.lea (z:=zz) rfl hjf hjn;have hie:=hid hie0;clear hie0;have hst:=hid (Ph1.lstep h_p.out rfl hz1.out hie.out);have hpk:=hid (pick_of (s:=⟨TT,zz⟩) (h_p.out.lst (z:=zz) rfl) hz1.out hie.out);have hl2:=hid ((hLS.out.a _ hst.out.1.ok hst.out.1.al).lm hX);replace hjn:=hid hjn;replace hK:SS V (tbF R nc (⟨⟨rp2,rl2,rc2⟩,⟨bp2,bl2,bc2⟩,⟨fp2,fl2,fc2⟩,⟨⟨gp2,gl2,gc2⟩,gn2,⟨gy2.p,gy2.l,gy2.c⟩,⟨gz2.p,gz2.l,gz2.c⟩⟩,rs2⟩) (⟨TT,gg⟩:LSt)::_) _:=SS.tb.2 (hK.fact (cF (List.length rs2=(LTab.rows TT).length)) hrs2.out);obtain⟨zD,hzD⟩:∃q:TbS,Hid ((⟨⟨rp2,rl2,rc2⟩,⟨bp2,bl2,bc2⟩,⟨fp2,fl2,fc2⟩,⟨⟨gp2,gl2,gc2⟩,gn2,⟨gy2.p,gy2.l,gy2.c⟩,⟨gz2.p,gz2.l,gz2.c⟩⟩,rs2⟩:TbS)=q):=⟨_,hid rfl⟩;rw[hzD.out]at hK;go_upto_region 24 with(fail);refine wp_region_S _ [0,0,0,1,0,0,0,0,3,4] hK ?_ (sC2 (sC2 (sC2 (sC2 (sR)))));clear hK
      iterate 3 refine e0 ?_
      refine eQ (fun w k=>(leat_any w _ _ (j:=j) k hok hjf hlm.out.t (by rw[hok.nb,hrl2.out];omega) (by rw[hfl2.out];omega)).mono fun _ _ q=>by rw[hie.out]at q;exact q) ?_
      iterate 4 refine e0 ?_
      refine eA (.cells #[.pointer (some ⟨R,3,none⟩),.pointer (some ⟨R16,0,none⟩)] 122) (fun R35=>?_);refine eM (fun w k=>piv2_any w _ _ (L:=plZ R16) (x:=zx) (y:=zz) k.up4.up4.up4.up4 tz1 tz2 tz3 hpk.out.hi hjf hok hgl2.out hzl.out hlm.out hl2.out (by rw[hfl2.out];omega) (by rw[hrl2.out];omega)) (fun x36=>?_) (hs:=fun _=>(sC2 (sC2 (sC2 (sC2 (sR))))));refine sxEnd (fun W37 hK=>?_)
      (try go_wp2)
      go_roundg (muS ⟨(TT.pivot i j),(TT.obj i j zz)⟩)
      case measure=>rw[hgk25.out];exact hst.out.2.2
      case rel=>exact⟨TT.pivot i j,TT.obj i j gg,TT.obj i j zz,x36.a,x36.b,hid hst.out.1,hid rfl,hK⟩
     have q_b5:=ylt hb5;go_upto_region 25 with(fail);refine wp_region_T [0,1,1,0] hK ?_;clear hK;refine e0 ?_;refine eL m7 ?_;obtain⟨z2,hz2⟩:=nmI (sgQ (zz.r));refine eQ (v:=.int .i64 z2) (fun w k=>sign_any _ _ w (k.q m9)) ?_ (hv:=by rw[hz2.out]);refine eB (decide (z2<0)) (fun b6 hb6=>?_);refine sxEnd (fun W38 hK=>?_)
     cases b6
     . --
      have q_b6:=nlt hb6;have hzr0:Hid (0<=zz.r):=hid (Rat.not_lt.1 (fun q=>absurd ((sgx_lt hz2.out).2 q) (of_decide_eq_false hb6.out)));replace hK:=hK.subl (sK2 (sK2 (sK2 (sK2 (sK2 (sK2 (sK2 (sC2 (sC2 (sC2 (sR)))))))))));replace hK:SS V (tbF R nc (⟨⟨rp2,rl2,rc2⟩,⟨bp2,bl2,bc2⟩,⟨fp2,fl2,fc2⟩,⟨⟨gp2,gl2,gc2⟩,gn2,⟨gy2.p,gy2.l,gy2.c⟩,⟨gz2.p,gz2.l,gz2.c⟩⟩,rs2⟩) (⟨TT,gg⟩:LSt)::_) _:=SS.tb.2 (hK.fact (cF (List.length rs2=(LTab.rows TT).length)) hrs2.out);obtain⟨zD,hzD⟩:∃q:TbS,Hid ((⟨⟨rp2,rl2,rc2⟩,⟨bp2,bl2,bc2⟩,⟨fp2,fl2,fc2⟩,⟨⟨gp2,gl2,gc2⟩,gn2,⟨gy2.p,gy2.l,gy2.c⟩,⟨gz2.p,gz2.l,gz2.c⟩⟩,rs2⟩:TbS)=q):=⟨_,hid rfl⟩;rw[hzD.out]at hK;go_upto_region 27 with(fail);refine wp_region_T [0,4] hK ?_;clear hK;refine e0 ?_;refine eM (fun w k=>remove_any w _ _ (z0:=zz) k tz1 tz2 tz3 hP h_p.out hzr0.out hLS.out hX hmm hcc) (fun x39=>?_);refine sxEnd (fun W40 hK=>?_);obtain⟨hr1,hr2⟩:=hK.get m1;replace hK:=hK.subl (sK2 (sC2 (sR)));go_wp2
      try go_ret
      show Q0 (.returned (.tuple #[.slice none 0 0,.bool true])) _
      exact(qo hQ0 ⟨⟨true,⟨none,0,0⟩,x39.a,x39.b,[]⟩,rfl,SS.stT hK rfl ⟨rfl,hr1,hr2,LmK.of hLS.out hX hr1 hr2⟩⟩)
     have q_b6:=ylt hb6;go_upto_region 26 with(fail);refine wp_region_T [0,1,2,0,0] hK ?_;clear hK;refine e0 ?_;refine eL m7 ?_;refine eC (fun w k=>prices_any w (z:=⟨⟨rp2,rl2,rc2⟩,⟨bp2,bl2,bc2⟩,⟨fp2,fl2,fc2⟩,⟨⟨gp2,gl2,gc2⟩,gn2,⟨gy2.p,gy2.l,gy2.c⟩,⟨gz2.p,gz2.l,gz2.c⟩⟩,rs2⟩) (s:=⟨TT,gg⟩) ⟨k.box m0,k.slv m1,k.slv m2,k.slv m3,k.fmV m4 hrs2.out,k.slv m5,k.q m6⟩ hok (Nat.le_trans (Nat.le_of_eq hrl2.out) (by omega)) (k.slv m8) hzl.out (Nat.le_trans (Nat.le_of_eq hfl2.out) (by omega))) (fun x41=>?_);obtain⟨px41,lx41,cx41⟩:=x41;dsimp only
     iterate 2 refine e0 ?_
     refine sxEnd (fun W42 hK=>?_);replace hK:=hK.subl (sK2 (sC2 (sC2 (sC2 (sC2 (sC2 (sC2 (sC2 (sC2 (sC2 (sC2 (sR))))))))))));go_wp2
     try go_ret
     show Q0 (.returned (.tuple #[.slice px41 lx41 cx41,.bool false])) _
     exact(qo hQ0 ⟨⟨false,⟨px41,lx41,cx41⟩,Classical.choice inferInstance,Classical.choice inferInstance,pricesL TT.rows.length TT.free zz.cs⟩,rfl,SS.stN hK rfl (h_p.out.infY hP ((sgx_lt hz2.out).1 q_b6) (.inr (by rw[hz1.out];exact q_b5)))⟩)
    have q_b3:=ylt hb3;have hkr:mr<P.init.T.rows.length:=(by omega);obtain⟨y,ey⟩:∃y,Hid (P.init.T.rows[mr]?=some y):=⟨_,hid (List.getElem?_eq_getElem hkr)⟩;have hy1:Hid ((updK (fun i x=>⟨x.cs++[ng.getD i 0],x.r⟩) P.init.T.rows mr)[mr]?=some y):=hid (updK_at.trans ey.out);have hyc:=hid (init_row hP (List.mem_of_getElem? ey.out));have i43:mr<rl:=(by omega);obtain⟨g43,rfl⟩:=hK.pt m1 i43;have l43:mr<rs2.length:=Nat.lt_of_lt_of_eq i43 (hK.len m1);obtain⟨x,ex⟩:=gtH l43;obtain⟨⟨x_p,x_l,x_c⟩,x_n,⟨x_yp,x_yl,x_yc⟩,⟨x_zp,x_zl,x_zc⟩⟩:=x;replace hK:=hK.up4;replace hK:=hK.rwO List.not_mem_nil ex.out hy1.out;dsimp only[Rw4.q]at hK;go_upto_region 13 with(fail);refine wp_region_S _ [0,0,0,0,0,0,0,0,0,0,0,0,1,2,3,5,0,0,4] hK ?_ (sC2 (sK2 (sK2 (sK2 (sC2 (sR))))));clear hK
    iterate 3 refine e0 ?_
    refine eL0 m2 ?_
    iterate 4 refine e0 ?_
    refine eL0 m2 ?_
    iterate 3 refine e0 ?_
    refine eR (fun w k=>(k.own m4).rwc0 ex.out) ?_;refine eC (fun w k=>rat_S (qint_any (-1) w (by omega) (by omega))) (fun x44=>?_);obtain⟨⟨p45,l45,c45⟩,⟨q45,u45,d45⟩⟩:=x44;dsimp only;refine eA (.cells #[.bool (isN ((((-1):Int):Rat))),.slice p45 l45 c45,.slice q45 u45 d45] 43) (fun R46=>?_);refine eAppK 2 ratK_hd rfl 2 (fun e=>by have q:=hyc.out;rw[e]at q;simp at q;omega) rfl infoQ (fun w k=>k.one1 (K:=ratK) (x:=(((-1):Int):Rat)) m0 ⟨_,_,_,rfl,k.q m1⟩) (by rw[hyc.out];simp;omega) (fun x47=>?_) (hs:=fun _=>(sC2 (sC2 (sC2 (sK2 (sK2 (sK2 (sC2 (sR)))))))));obtain⟨p47,n47,c47⟩:=x47;dsimp only
    iterate 2 refine e0 ?_
    refine eWr ⟨⟨p47,n47,c47⟩,x_n,⟨x_yp,x_yl,x_yc⟩,⟨x_zp,x_zl,x_zc⟩⟩ 6 0 [.slice p47 n47 c47] ex.out ?_ (hi:=rfl) (h1:=by intro w' k;have c0:=k.rwc0 ex.out;have c1:=k.rwc ex.out 1 rfl;have c2:=k.rwc ex.out 2 rfl;have c3:=k.rwc ex.out 3 rfl;have f:=OwV.fz k;go_simp;exact⟨rfl,rfl⟩) (hs:=(sC2 (sC2 (sC2 (sK2 (sK2 (sK2 (sC2 (sR)))))))));refine sxEnd (fun W48 hK=>?_);rw[show y.cs++[(((-1):Int):Rat)]=y.cs++[ng.getD mr 0]from(by rw[<-hng.out,getD_of (show(List.replicate P.A.length (-1:Rat))[mr]?=some (-1)from List.getElem?_replicate_of_lt (by omega))];rfl)]at hK;replace hK:=hK.up4;replace hK:=hK.up4;replace hK:=hK.up4;replace hK:=SS.rwB (x:=⟨⟨p47,n47,c47⟩,x_n,⟨x_yp,x_yl,x_yc⟩,⟨x_zp,x_zl,x_zc⟩⟩) (y:=⟨y.cs++[ng.getD mr 0],y.r⟩) hK List.not_mem_nil (by rw[updK_len];exact hkr) (by rw[h_n.out,hrs.out];exact hkr);rw[updK_step ey.out]at hK
    (try go_wp2)
    go_roundw
    case rel=>exact⟨mr+1,rs2.set mr (⟨⟨p47,n47,c47⟩,x_n,⟨x_yp,x_yl,x_yc⟩,⟨x_zp,x_zl,x_zc⟩⟩),(by first|rfl|go_num),(by omega),hid (by rw[List.length_set];exact h_n.out),(hK.subl (sK2 (sC2 (sC2 (sR))))).up6.up6.up2.up6.up6.up6.up6⟩
    case measure=>simp[intOf]<;>omega
   have q_b2:=ylt hb2;replace hK:SS V (tbF R nc (⟨⟨rp,rl,rc⟩,⟨bp,bl,bc⟩,⟨fp,fl,fc⟩,⟨⟨gp,gl,gc⟩,gn,⟨gy.p,gy.l,gy.c⟩,⟨gz.p,gz.l,gz.c⟩⟩,rs⟩) (⟨P.init.T,P.goal⟩:LSt)::_) _:=SS.tb.2 (hK.fact (cF (List.length rs=(LTab.rows P.init.T).length)) hrs.out);have hm9:m=P.A.length:=(by omega);have hwp9:=h_w.out;rw[hm9]at hwp9;obtain rfl:e= -1:=(by rcases h_w.out.case with q|⟨n,q,_⟩;exact q;have q9:=q_b2;omega);go_wp2
   try go_ret
   show Q0 (.returned (.tuple #[.slice none 0 0,.bool true])) _
   exact(qo hQ0 ⟨⟨true,⟨none,0,0⟩,⟨⟨rp,rl,rc⟩,⟨bp,bl,bc⟩,⟨fp,fl,fc⟩,⟨⟨gp,gl,gc⟩,gn,⟨gy.p,gy.l,gy.c⟩,⟨gz.p,gz.l,gz.c⟩⟩,rs⟩,⟨P.init.T,P.goal⟩,[]⟩,rfl,SS.stT hK rfl ⟨rfl,init_lst hP hwp9,Alike.refl _,hL.i (worst_none hwp9)⟩⟩)
  have q_b1:=ylt hb1;obtain⟨y,ey⟩:∃y,Hid (P.init.T.rows[m]?=some y):=⟨_,hid (List.getElem?_eq_getElem (by omega))⟩;have er:Hid (P.b[m]?=some y.r):=hid (by rw[<-hrs0.out,List.getElem?_map,ey.out];rfl);have erl:=hid (hL.b y.r (List.mem_of_getElem? er.out));have i49:m<rl:=(by omega);obtain⟨g49,rfl⟩:=hK.pt m1 i49;have l49:m<rs.length:=Nat.lt_of_lt_of_eq i49 (hK.len m1);obtain⟨x,ex⟩:=gtH l49;obtain⟨⟨x_p,x_l,x_c⟩,x_n,⟨x_yp,x_yl,x_yc⟩,⟨x_zp,x_zl,x_zc⟩⟩:=x;replace hK:=hK.fact (qF (.agg #[.bool x_n,.slice x_yp x_yl x_yc,.slice x_zp x_zl x_zc]) y.r) (hK.rwQ m4 List.not_mem_nil ex.out ey.out);go_upto_region 4 with(fail);refine wp_region_T [0,0,1,3,0,4] hK ?_;clear hK
  iterate 2 refine e0 ?_
  refine eRm (F:=fun w=>OwV rw4K 119 0 w (.slice (some ⟨g49,0,none⟩) rl rc) rs) (fun w k=>k.own m2) (h1:=by intro w' k;have c0:=k.rwc0 ex.out;have c1:=k.rwc ex.out 1 rfl;have c2:=k.rwc ex.out 2 rfl;have c3:=k.rwc ex.out 3 rfl;go_simp;(try go_bits);exact⟨rfl,rfl⟩) ?_;refine eA (.cells #[.slice none 0 0,.bool false,.slice none 0 0,.slice none 0 0] 119) (fun R50=>?_);refine e0 ?_;refine eP 0 0 [.slice x_p x_l x_c,.bool x_n,.slice x_yp x_yl x_yc,.slice x_zp x_zl x_zc] ?_;refine sxEnd (fun W51 hK=>?_)
  rcases h_w.out.case with rfl|⟨mw,rfl,hmk⟩
  . --
   go_upto_region 5 with(fail);refine wp_region_S _ [0,0,1,0,0,0,0,0,0,0,0,0,0,0,0,0,0,0,0,0,0,0] hK ?_ (sR);clear hK;refine e0 ?_;refine eL0 m0 ?_;obtain⟨z1,hz1⟩:=nmI (sgQ (y.r));refine eQ (v:=.int .i64 z1) (fun w k=>sign_any _ _ w (k.q m1)) ?_ (hv:=by rw[hz1.out]);refine eB (decide (z1<0)) (fun b2 hb2=>?_);refine e0 ?_
   cases b2
   . --
    have q_b2:=nlt hb2
    iterate 3 refine eN ?_
    iterate 12 refine eU ?_
    refine eN ?_;refine e0 ?_;refine sxEnd (fun W52 hK=>?_)
    (try go_wp2)
    go_roundw
    case rel=>exact⟨m+1,(-1),(by first|rfl|go_num),(by first|rfl|go_num),(by omega),hid (h_w.out.pos er.out (Rat.not_lt.1 (fun q=>absurd ((sgx_lt hz1.out).2 q) (of_decide_eq_false hb2.out)))),(hK.subl (sC2 (sC2 (sR))))⟩
    case measure=>simp[intOf]<;>omega
   have q_b2:=ylt hb2;refine e0 ?_;refine eV (.bool true) (fun w'=>by go_simp;(try go_bits);exact⟨rfl,rfl⟩) ?_;refine e0 ?_
   iterate 12 refine eN ?_
   iterate 2 refine e0 ?_
   refine sxEnd (fun W53 hK=>?_)
   (try go_wp2)
   go_roundw
   case rel=>exact⟨m+1,(m:Int),(by first|rfl|go_num),(by first|rfl|go_num),(by omega),hid (h_w.out.first er.out ((sgx_lt hz1.out).1 (of_decide_eq_true hb2.out))),(hK.subl (sC2 (sC2 (sR))))⟩
   case measure=>simp[intOf]<;>omega
  obtain⟨ym,eym⟩:∃y,Hid (P.init.T.rows[mw]?=some y):=⟨_,hid (List.getElem?_eq_getElem (by omega))⟩;have erm:Hid (P.b[mw]?=some ym.r):=hid (by rw[<-hrs0.out,List.getElem?_map,eym.out];rfl);have erml:=hid (hL.b ym.r (List.mem_of_getElem? erm.out));have i54:mw<rl:=(by omega);have l54:mw<rs.length:=Nat.lt_of_lt_of_eq i54 (hK.len m3);obtain⟨xm,exm⟩:=gtH l54;obtain⟨⟨xm_p,xm_l,xm_c⟩,xm_n,⟨xm_yp,xm_yl,xm_yc⟩,⟨xm_zp,xm_zl,xm_zc⟩⟩:=xm;replace hK:=hK.fact (qF (.agg #[.bool xm_n,.slice xm_yp xm_yl xm_yc,.slice xm_zp xm_zl xm_zc]) ym.r) (hK.rwQ m6 List.not_mem_nil exm.out eym.out);go_upto_region 5 with(fail);refine wp_region_S _ [0,0,1,0,0,0,0,0,0,0,0,0,0,0,0,0,0,0,1,0,0,0] hK ?_ (sR);clear hK;refine e0 ?_;refine eL0 m1 ?_;obtain⟨z1,hz1⟩:=nmI (sgQ (y.r));refine eQ (v:=.int .i64 z1) (fun w k=>sign_any _ _ w (k.q m2)) ?_ (hv:=by rw[hz1.out]);refine eB (decide (z1<0)) (fun b2 hb2=>?_);refine e0 ?_
  cases b2
  . --
   have q_b2:=nlt hb2
   iterate 3 refine eN ?_
   iterate 12 refine eU ?_
   refine eN ?_;refine e0 ?_;refine sxEnd (fun W55 hK=>?_)
   (try go_wp2)
   go_roundw
   case rel=>exact⟨m+1,(mw:Int),(by first|rfl|go_num),(by first|rfl|go_num),(by omega),hid (h_w.out.pos er.out (Rat.not_lt.1 (fun q=>absurd ((sgx_lt hz1.out).2 q) (of_decide_eq_false hb2.out)))),(hK.subl (sC2 (sC2 (sC2 (sR)))))⟩
   case measure=>simp[intOf]<;>omega
  have q_b2:=ylt hb2;refine e0 ?_;refine eV (.bool false) (fun w'=>by go_simp;(try go_bits);exact⟨congrArg Value.bool (decide_eq_false (by omega)),rfl⟩) ?_
  iterate 2 refine e0 ?_
  refine eL0 m1 ?_
  iterate 3 refine e0 ?_
  refine eL0 m3 ?_
  iterate 3 refine e0 ?_
  refine eRm0 (F:=fun w=>OwV rw4K 119 0 w (.slice (some ⟨g49,0,none⟩) rl rc) rs) (fun w k=>k.own m4) (h1:=by intro w' k;have c0:=k.rwc0 exm.out;have c1:=k.rwc exm.out 1 rfl;have c2:=k.rwc exm.out 2 rfl;have c3:=k.rwc exm.out 3 rfl;go_simp;(try go_bits);exact⟨rfl,rfl⟩) ?_;obtain⟨z2,hz2⟩:=nmI (sgQ (y.r-ym.r));refine eQ (v:=.int .i64 z2) (fun w k=>qcmp_any _ _ _ _ w (k.q m2) (k.q m0) erl.out erml.out (by decide)) ?_ (hv:=by rw[hz2.out]);refine eB (decide (z2<0)) (fun b3 hb3=>?_)
  iterate 2 refine e0 ?_
  refine sxEnd (fun W56 hK=>?_)
  cases b3
  . --
   have q_b3:=nlt hb3
   (try go_wp2)
   go_roundw
   case rel=>exact⟨m+1,(mw:Int),(by first|rfl|go_num),(by first|rfl|go_num),(by omega),hid (h_w.out.more er.out erm.out (fun q=>absurd ((sgx_lt hz2.out).2 (sbx_lt.2 q)) (of_decide_eq_false hb3.out))),(hK.subl (sC2 (sC2 (sC2 (sR)))))⟩
   case measure=>simp[intOf]<;>omega
  have q_b3:=ylt hb3
  (try go_wp2)
  go_roundw
  case rel=>exact⟨m+1,(m:Int),(by first|rfl|go_num),(by first|rfl|go_num),(by omega),hid (h_w.out.less er.out erm.out (sbx_lt.1 ((sgx_lt hz2.out).1 (of_decide_eq_true hb3.out)))),(hK.subl (sC2 (sC2 (sC2 (sR)))))⟩
  case measure=>simp[intOf]<;>omega
end
section
instance :HdK ratK:=⟨2,ratK_hd⟩
abbrev rrK:EK (List Rat):=slK ratK
theorem celB{V w:World}{g i:Nat}{u:Value}(h:V.cell? ⟨g,i,none⟩=some u)(hb:Below V.heap.size V w):w.cell? ⟨g,i,none⟩=some u:=by
  have hg:g<V.heap.size:=by
    by_cases hg:g<V.heap.size
    . exact hg
    unfold World.cell? at h;rw[Array.getElem?_eq_none (show V.heap.size<=g by omega)]at h
    cases h
  rw[hb.cell (p:=⟨g,i,none⟩) hg];exact h
theorem SlV.row{α:Type}{K:EK α}{w:World}{g o n c i:Nat}{xss:List (List α)}{xs:List α}(h:SlV (slK K) w (.slice (some ⟨g,o,none⟩) n c) xss)(hx:xss[i]?=some xs):∃y:Sl,w.cell? ⟨g,o+i,none⟩=some (.slice y.p y.l y.c)/\SlV K w (.slice y.p y.l y.c) xs:=by
  obtain⟨cs,h1,p,d,rfl,h3,_⟩:=h.at hx;have h2:=h1.2 0 _ rfl;exact⟨⟨p,xs.length,d⟩,by rwa [show o+i*(slK K).sz+0=o+i from by show o+i*1+0=_;omega]at h2,h3⟩
structure SvR where
  R:LpRes
  x:Sl
  y:Sl
  r:Sl
  d:Sl
  e:Sl
  n:Int
instance :Nonempty SvR:=⟨⟨⟨0,[],[],[],0⟩,⟨none,0,0⟩,⟨none,0,0⟩,⟨none,0,0⟩,⟨none,0,0⟩,⟨none,0,0⟩,0⟩⟩
def SvR.v(a:SvR):Value:=.agg #[.int .i64 a.R.k,.slice a.x.p a.x.l a.x.c,.slice a.y.p a.y.l a.y.c,.slice a.r.p a.r.l a.r.c,.bool (isN a.R.z),.slice a.d.p a.d.l a.d.c,.slice a.e.p a.e.l a.e.c]
def SvOk(P:LPd)(a:SvR):Prop:=(vldP P=false/\a.n=1/\a.R=⟨0,[],[],[],0⟩)\/(vldP P=true/\a.n=0/\CertR P a.R/\ ∀X,LimS X P->SmR X a.R)
theorem ss_ofT{V w:World}{l:List Ft}{R nc:Nat}{P:LPd}{y:Sl}{z:TbS}{t:LSt}{Y:List Rat}(h:SS V (stA R nc P ⟨true,y,z,t,Y⟩::l) w):SS V (tbF R nc z t::cF (StOk P ⟨true,y,z,t,Y⟩)::l) w:=by
  have h:SS V (stT R nc P ⟨true,y,z,t,Y⟩::l) w:=h;exact SS.star.1 h
theorem ss_ofN{V w:World}{l:List Ft}{R nc:Nat}{P:LPd}{y:Sl}{z:TbS}{t:LSt}{Y:List Rat}(h:SS V (stA R nc P ⟨false,y,z,t,Y⟩::l) w):SS V (rO ratK 43 y.p y.l y.c Y::cF (InfY P Y)::l) w:=by
  have h:SS V (stN P ⟨false,y,z,t,Y⟩::l) w:=h;exact SS.star.1 h
theorem vldH_of{P:LPd}(h:1<=P.c.length/\P.c.length<=1024/\P.A.length<=1024/\P.b.length=P.A.length):vldH P=true:=by
  unfold vldH;simp only[Bool.and_eq_true,decide_eq_true_eq];omega
theorem vld_head{P:LPd}(h:¬(1<=P.c.length/\P.c.length<=1024/\P.A.length<=1024/\P.b.length=P.A.length)):vldP P=false:=by
  unfold vldP vldH;rw[Bool.eq_false_iff];simp only[ne_eq,Bool.and_eq_true,decide_eq_true_eq];omega
theorem vld_yes{P:LPd}(h:vldH P=true)(h':allN (rowP P) P.A.length=true):vldP P=true:=by unfold vldP;rw[h,h'];rfl
theorem vld_no{P:LPd}{i:Nat}(hi:i<P.A.length)(h:(P.A.getD i []).length≠P.c.length):vldP P=false:=by
  unfold vldP;rw[allN_no hi (by unfold rowP;simpa using h)];simp
end
section
set_option maxRecDepth 100000 in
set_option maxHeartbeats 400000 in
theorem lpvalid_any(w:World){cp ap bp:Option Addr}{cl cc al ac bl bc:Nat}{P:LPd}(hC:SlV ratK w (.slice cp cl cc) P.c)(hA:SlV rrK w (.slice ap al ac) P.A)(hB:SlV ratK w (.slice bp bl bc) P.b)(hn1:P.c.length<=100000)(hn2:P.A.length<=100000)(_hn3:P.b.length<=100000):
    Calls Tryz.prog 30 #[.agg #[.slice cp cl cc,.slice ap al ac,.slice bp bl bc]] w fun e w'=>e=.returned (.bool (vldP P))/\Below w.heap.size w w':=by
  have hK:=SS.start w;have⟨nc1,nc2⟩:=lle hC.one0;have⟨na1,na2⟩:=lle hA.one0;have⟨nb1,nb2⟩:=lle hB.one0;refine Calls.hide (fun Q0 hQ0=>?_);go_enter Tryz.func30,Tryz.ntmps30;go_upto_region 0 with(fail);refine wp_region_T [3,0] hK ?_;clear hK;refine eA (.cells #[.slice cp cl cc,.slice ap al ac,.slice bp bl bc] 37) (fun R1=>?_);refine e0 ?_;refine sxEnd (fun W2 hK=>?_);go_upto_region 1 with(fail);refine wp_region_T [0,1,0,0,0,0,1,0,0,0,0,0,1,0,0,0,0,0,1,0,0,1,0,0,0] hK ?_;clear hK;refine e0 ?_;refine eL m0 ?_;refine e0 ?_;refine eB (decide (((cl:Int))<1)) (fun b1 hb1=>?_);refine e0 ?_
  cases b1
  . --
   have q_b1:=nlt hb1;refine e0 ?_;refine eL m0 ?_;refine e0 ?_;refine eB (decide (1024<((cl:Int)))) (fun b2 hb2=>?_)
   iterate 2 refine e0 ?_
   cases b2
   . --
    have q_b2:=nlt hb2;refine e0 ?_;refine eL m0 ?_;refine e0 ?_;refine eB (decide (1024<((al:Int)))) (fun b3 hb3=>?_)
    iterate 2 refine e0 ?_
    cases b3
    . --
     have q_b3:=nlt hb3;refine e0 ?_;refine eL m0 ?_
     iterate 2 refine e0 ?_
     refine eL m0 ?_;refine e0 ?_;refine eB (((bl:Int)) !=((al:Int))) (fun b4 hb4=>?_);refine e0 ?_;refine sxEnd (fun W3 hK=>?_)
     cases b4
     . --
      have hvh:=hid (show vldH P=true from vldH_of (by have qb1:=hb1.out;(try simp at qb1);have qb2:=hb2.out;(try simp at qb2);have qb3:=hb3.out;(try simp at qb3);have qb4:=hb4.out;(try simp at qb4);omega));go_upto_region 3 with(fail);refine wp_region_T [0,1,0,0] hK ?_;clear hK;refine e0 ?_;refine eL m0 ?_
      iterate 2 refine e0 ?_
      refine sxEnd (fun W4 hK=>?_);go_wp2_with fail;go_loopw [33] (fun s33 wl=> ∃(m:Nat),s33=.int .i64 (m:Int)/\(m<=P.A.length)/\Hid (allN (rowP P) m=true)/\SS w ([bx R1 (.cells #[.slice cp cl cc,.slice ap al ac,.slice bp bl bc] 37)]) wl) (fun s33 _=>al-(intOf s33).toNat)
      case atStart=>exact⟨0,rfl,(by omega),hid rfl,hK⟩
      clear hK;obtain⟨m,rfl,hm0,h_o,hK⟩:=hrel;generalize wr=W5 at hK⊢;go_upto_region 4 with(fail);refine wp_region_T [0] hK ?_;clear hK;refine eB (decide (((m:Int))<((al:Int)))) (fun b5 hb5=>?_);refine sxEnd (fun W6 hK=>?_)
      cases b5
      . --
       have q_b5:=nlt hb5;go_wp2
       try go_ret
       show Q0 (.returned (.bool true)) _
       exact(qo hQ0 ⟨(by rw[vld_yes hvh.out (by rw[show P.A.length=m from(by omega)];exact h_o.out)]),hK.old⟩)
      have q_b5:=ylt hb5;have i7:m<al:=(by omega);obtain⟨g7,o7,rfl⟩:=hA.pt i7;have l7:m<P.A.length:=Nat.lt_of_lt_of_eq i7 (hA.one0);obtain⟨x,ex⟩:=gtH l7;obtain⟨⟨x_p,x_l,x_c⟩,x_h,x_s⟩:=hA.row ex.out;dsimp only at x_h x_s;have x_n:=hid x_s.one0;have⟨x_n1,x_n2⟩:=lle x_n.out;go_upto_region 5 with(fail);refine wp_region_T [0,0,0] hK ?_;clear hK;refine e0 ?_;refine eR0 (fun w k=>celB x_h k.old) ?_;refine e0 ?_;refine sxEnd (fun W8 hK=>?_);go_upto_region 6 with(fail);refine wp_region_T [0,0,0,1,0,0] hK ?_;clear hK
      iterate 3 refine e0 ?_
      refine eL m0 ?_;refine e0 ?_;refine eB (((x_l:Int)) !=((cl:Int))) (fun b6 hb6=>?_);refine sxEnd (fun W9 hK=>?_)
      cases b6
      . --
       (try go_wp2)
       go_roundw
       case rel=>exact⟨m+1,(by first|rfl|go_num),(by omega),hid (allN_step h_o.out (by unfold rowP;rw[getD_of ex.out];have qb1:=hb1.out;(try simp at qb1);have qb2:=hb2.out;(try simp at qb2);have qb3:=hb3.out;(try simp at qb3);have qb4:=hb4.out;(try simp at qb4);have qb5:=hb5.out;(try simp at qb5);have qb6:=hb6.out;(try simp at qb6);simp;omega)),hK⟩
       case measure=>simp[intOf]<;>omega
      go_wp2
      try go_ret
      show Q0 (.returned (.bool false)) _
      exact(qo hQ0 ⟨(by rw[vld_no (i:=m) (by omega) (by rw[getD_of ex.out];have qb1:=hb1.out;(try simp at qb1);have qb2:=hb2.out;(try simp at qb2);have qb3:=hb3.out;(try simp at qb3);have qb4:=hb4.out;(try simp at qb4);have qb5:=hb5.out;(try simp at qb5);have qb6:=hb6.out;(try simp at qb6);omega)]),hK.old⟩)
     go_wp2
     try go_ret
     show Q0 (.returned (.bool false)) _
     exact(qo hQ0 ⟨(by rw[vld_head (by have qb1:=hb1.out;(try simp at qb1);have qb2:=hb2.out;(try simp at qb2);have qb3:=hb3.out;(try simp at qb3);have qb4:=hb4.out;(try simp at qb4);omega)]),hK.old⟩)
    have q_b3:=ylt hb3
    iterate 7 refine eN ?_
    refine e0 ?_;refine sxEnd (fun W10 hK=>?_);go_wp2
    try go_ret
    show Q0 (.returned (.bool false)) _
    exact(qo hQ0 ⟨(by rw[vld_head (by have qb1:=hb1.out;(try simp at qb1);have qb2:=hb2.out;(try simp at qb2);have qb3:=hb3.out;(try simp at qb3);omega)]),hK.old⟩)
   have q_b2:=ylt hb2
   iterate 4 refine eN ?_
   iterate 2 refine e0 ?_
   iterate 7 refine eN ?_
   refine e0 ?_;refine sxEnd (fun W11 hK=>?_);go_wp2
   try go_ret
   show Q0 (.returned (.bool false)) _
   exact(qo hQ0 ⟨(by rw[vld_head (by have qb1:=hb1.out;(try simp at qb1);have qb2:=hb2.out;(try simp at qb2);omega)]),hK.old⟩)
  have q_b1:=ylt hb1
  iterate 4 refine eN ?_
  iterate 2 refine e0 ?_
  iterate 4 refine eN ?_
  iterate 2 refine e0 ?_
  iterate 7 refine eN ?_
  refine e0 ?_;refine sxEnd (fun W12 hK=>?_);go_wp2
  try go_ret
  show Q0 (.returned (.bool false)) _
  exact(qo hQ0 ⟨(by rw[vld_head (by have qb1:=hb1.out;(try simp at qb1);omega)]),hK.old⟩)
set_option maxRecDepth 100000 in
set_option maxHeartbeats 1000000 in
theorem solve_any(w:World){cp ap bp:Option Addr}{cl cc al ac bl bc:Nat}{P:LPd}(hC:SlV ratK w (.slice cp cl cc) P.c)(hA:SlV rrK w (.slice ap al ac) P.A)(hB:SlV ratK w (.slice bp bl bc) P.b)(hn1:P.c.length<=100000)(hn2:P.A.length<=100000)(hn3:P.b.length<=100000)(hL:vldP P=true->LimP P)(hCl:vldP P=true->LmL 300 P.c):
    Calls Tryz.prog 10 #[.agg #[.slice cp cl cc,.slice ap al ac,.slice bp bl bc]] w fun e w'=> ∃a:SvR,e=.returned (.tuple #[a.v,.int .i64 a.n])/\SS w [cF (SvOk P a),rO ratK 43 a.x.p a.x.l a.x.c a.R.x,rO ratK 43 a.y.p a.y.l a.y.c a.R.y,rO ratK 43 a.r.p a.r.l a.r.c a.R.r,qF (.agg #[.bool (isN a.R.z),.slice a.d.p a.d.l a.d.c,.slice a.e.p a.e.l a.e.c]) a.R.z] w':=by
  have hK:=SS.start w;have⟨nc1,nc2⟩:=lle hC.one0;have⟨na1,na2⟩:=lle hA.one0;have⟨nb1,nb2⟩:=lle hB.one0;refine Calls.hide (fun Q0 hQ0=>?_);go_enter Tryz.func10,Tryz.ntmps10;go_upto_region 0 with(fail);refine wp_region_T [3,3,0] hK ?_;clear hK;refine eA (.cells #[.slice cp cl cc,.slice ap al ac,.slice bp bl bc] 37) (fun R1=>?_);refine eA (.cells #[.int .i64 0,.slice none 0 0,.slice none 0 0,.slice none 0 0,.bool false,.slice none 0 0,.slice none 0 0] 45) (fun R2=>?_);refine e0 ?_;refine sxEnd (fun W3 hK=>?_);go_upto_region 1 with(fail);refine wp_region_T [1,1,0] hK ?_;clear hK;refine eL m1 ?_;obtain⟨b1,hb1⟩:=nmB (vldP P);refine eQ (v:=.bool b1) (fun w k=>lpvalid_any w (hC.below k.old) (hA.below k.old) (hB.below k.old) hn1 hn2 hn3) ?_ (hv:=by rw[hb1.out]);refine e0 ?_;refine sxEnd (fun W4 hK=>?_)
  cases b1
  . --
   have hvl:=hid hb1.out;go_upto_region 2 with(fail);refine wp_region_T [0,4,0] hK ?_;clear hK;refine e0 ?_;refine eP 0 0 [.int .i64 0,.slice none 0 0,.slice none 0 0,.slice none 0 0,.bool false,.slice none 0 0,.slice none 0 0] ?_;refine e0 ?_;refine sxEnd (fun W5 hK=>?_);have⟨c90,c91,c92,c93,c94,c95,c96⟩:=(hK.box m0).c7;replace hK:=hK.fact (rO ratK 43 none 0 0 ([]:List Rat)) OwV.nil (fun _ h=>by cases h);replace hK:=hK.fact (rO ratK 43 none 0 0 ([]:List Rat)) OwV.nil (fun _ h=>by cases h);replace hK:=hK.fact (rO ratK 43 none 0 0 ([]:List Rat)) OwV.nil (fun _ h=>by cases h);replace hK:=hK.fact (qF (.agg #[.bool false,.slice none 0 0,.slice none 0 0]) (0:Rat)) (RatV.zero _);replace hK:=hK.subl (sK2 (sK2 (sK2 (sK2 (sC2 (sC2 sZ2))))));replace hK:=hK.up1;replace hK:=hK.up2;replace hK:=hK.up3;go_wp2;exact bodyPost_ret (v:=.tuple #[.agg #[.int .i64 0,.slice none 0 0,.slice none 0 0,.slice none 0 0,.bool false,.slice none 0 0,.slice none 0 0],.int .i64 1]) (by simp[results,Tryz.results10,go_sem,c90,c91,c92,c93,c94,c95,c96]) rfl (qo hQ0 ⟨(⟨⟨0,[],[],[],(0:Rat)⟩,⟨none,0,0⟩,⟨none,0,0⟩,⟨none,0,0⟩,⟨none,0,0⟩,⟨none,0,0⟩,1⟩:SvR),rfl,hK.fact (cF (SvOk P (⟨⟨0,[],[],[],(0:Rat)⟩,⟨none,0,0⟩,⟨none,0,0⟩,⟨none,0,0⟩,⟨none,0,0⟩,⟨none,0,0⟩,1⟩:SvR))) (.inl ⟨hvl.out,rfl,rfl⟩)⟩)
  have hP:=hid (vld_ok hb1.out);have hdm:=hid (vld_dims hb1.out);have hd1:=hdm.out.1;have hd2:=hdm.out.2.1;have hd3:=hdm.out.2.2;have hLim:=hL hb1.out;have hLC:=hCl hb1.out;have hvl:=hid hb1.out;go_upto_region 3 with(fail);refine wp_region_T [0,1,2,0] hK ?_;clear hK;refine e0 ?_;refine eL m1 ?_;refine eC (fun w k=>new_any w (hB.below k.old) (by omega)) (fun x6=>?_);obtain⟨R,x6⟩:=x6;dsimp only;refine e0 ?_;refine sxEnd (fun W7 hK=>?_);go_upto_region 4 with(fail);refine wp_region_T [0,1,0,0] hK ?_;clear hK;refine e0 ?_;refine eL m3 ?_
  iterate 2 refine e0 ?_
  refine sxEnd (fun W8 hK=>?_);have hnz:=hK.get m1;rw[<-pre_T0 hP.out, <-pre_goal0 (P:=P)]at hK;go_wp2_with fail;go_loopw [22] (fun s22 wl=> ∃(m:Nat) (z:TbS),s22=.int .i64 (m:Int)/\(m<=P.c.length)/\Hid (m=0->NilZ z)/\SS w ([bx R2 (.cells #[.int .i64 0,.slice none 0 0,.slice none 0 0,.slice none 0 0,.bool false,.slice none 0 0,.slice none 0 0] 45),bx R1 (.cells #[.slice cp cl cc,.slice ap al ac,.slice bp bl bc] 37),tbF R m z (⟨(P.pre m).init.T,(P.pre m).goal⟩)]) wl) (fun s22 _=>cl-(intOf s22).toNat)
  case atStart=>exact⟨0,x6,rfl,(by omega),hid (fun _=>hnz),(hK.subl (sK2 (sC2 (sR)))).up2.up2⟩
  clear hK;obtain⟨m,z,rfl,hm0,h_z,hK⟩:=hrel;generalize wr=W9 at hK⊢;go_upto_region 5 with(fail);refine wp_region_T [0] hK ?_;clear hK;refine eB (decide (((m:Int))<((cl:Int)))) (fun b2 hb2=>?_);refine sxEnd (fun W10 hK=>?_)
  cases b2
  . --
   have q_b2:=nlt hb2;have hm9:m=P.c.length:=(by omega);rw[hm9,pre_all hP.out]at hK;clear hm9;go_upto_region 16 with(fail);refine wp_region_T [0,4,0,0,0,0,0] hK ?_;clear hK;refine e0 ?_;refine eM (fun w k=>start_any w _ _ k.up2 ⟨rfl,rfl,trivial⟩ ⟨rfl,rfl,trivial⟩ ⟨rfl,rfl,trivial⟩ hP.out hLim (by omega) (by omega) (by omega)) (fun x11=>?_);obtain⟨b3,⟨yp,yl,yc⟩,sz,st0,sY⟩:=x11;dsimp only
   iterate 5 refine e0 ?_
   refine sxEnd (fun W12 hK=>?_)
   cases b3
   . --
    replace hK:=ss_ofN hK;go_upto_region 18 with(fail);refine wp_region_T [0,0,4,0] hK ?_;clear hK
    iterate 2 refine e0 ?_
    refine eP 2 0 [.int .i64 2,.slice none 0 0,.slice yp yl yc,.slice none 0 0,.bool false,.slice none 0 0,.slice none 0 0] ?_ (hq:=.inr ⟨rfl,rfl,rfl,trivial⟩);refine e0 ?_;refine sxEnd (fun W13 hK=>?_);have⟨c90,c91,c92,c93,c94,c95,c96⟩:=(hK.box m2).c7;replace hK:=hK.fact (rO ratK 43 none 0 0 ([]:List Rat)) OwV.nil (fun _ h=>by cases h);replace hK:=hK.fact (rO ratK 43 none 0 0 ([]:List Rat)) OwV.nil (fun _ h=>by cases h);replace hK:=hK.fact (qF (.agg #[.bool false,.slice none 0 0,.slice none 0 0]) (0:Rat)) (RatV.zero _);have hIc:=hK.get m4;replace hK:=hK.subl (sK2 (sK2 (sK2 (sK2 (sC2 (sC2 (sC2 sZ2)))))));replace hK:=hK.up1;replace hK:=hK.up3;replace hK:=hK.up3;go_wp2;exact bodyPost_ret (v:=.tuple #[.agg #[.int .i64 2,.slice none 0 0,.slice yp yl yc,.slice none 0 0,.bool false,.slice none 0 0,.slice none 0 0],.int .i64 0]) (by simp[results,Tryz.results10,go_sem,c90,c91,c92,c93,c94,c95,c96]) rfl (qo hQ0 ⟨(⟨⟨2,[],sY,[],(0:Rat)⟩,⟨none,0,0⟩,⟨yp,yl,yc⟩,⟨none,0,0⟩,⟨none,0,0⟩,⟨none,0,0⟩,0⟩:SvR),rfl,hK.fact (cF (SvOk P (⟨⟨2,[],sY,[],(0:Rat)⟩,⟨none,0,0⟩,⟨yp,yl,yc⟩,⟨none,0,0⟩,⟨none,0,0⟩,⟨none,0,0⟩,0⟩:SvR))) (.inr ⟨hvl.out,rfl,(cert_inf hIc.1),fun X q=>inf_sm hP.out q (hIc.2 X q)⟩)⟩)
   replace hK:=ss_ofT hK;obtain⟨_,hok0,hal0,hlk0⟩:=hK.get m1;dsimp only at hok0 hal0 hlk0;have hed:=hid (end_dims hok0 hal0 (Rch.refl _));replace hK:=hK.subl (sK2 (sC2 (sR)));go_upto_region 19 with(fail);refine wp_region_T [0,4,0] hK ?_;clear hK;refine e0 ?_;refine eM (fun w k=>max_any w _ _ k ⟨rfl,rfl,trivial⟩ ⟨rfl,rfl,trivial⟩ ⟨rfl,rfl,trivial⟩ hok0 hlk0 (by rw[hed.out.2.2.2.2];omega) (by rw[hed.out.2.2.2.1];omega)) (fun x14=>?_);obtain⟨⟨b4,t⟩,mz⟩:=x14;dsimp only;refine e0 ?_;refine sxEnd (fun W15 hK=>?_)
   cases b4
   . --
    obtain⟨hr,h1,h2⟩:=hK.get m1;have hend:=end_dims hok0 hal0 hr;have hok:=hend.1;have hal:=hend.2.1;have he1:=hid hend.2.2.1;have he2:=hid hend.2.2.2.1;have he3:=hid hend.2.2.2.2;clear hend;obtain⟨j,hj0,hl0⟩:=h2 rfl;have hj:=hid hj0;have hl:=hid hl0;clear h1 h2 hj0 hl0;replace hK:=hK.subl (sK2 (sC2 (sR)));go_upto_region 20 with(fail);refine wp_region_T [0,2,0,2,0,4,0] hK ?_;clear hK;refine e0 ?_;refine eC (fun w k=>point_any w k.tbV hok.ok (by rw[he1.out];omega) (by omega) (fun x hx=>by rw[he1.out];exact end_lt hal x (.inl hx))) (fun x16=>?_);obtain⟨px16,lx16,cx16⟩:=x16;dsimp only;refine e0 ?_;refine eC (fun w k=>ray_any w j (k.up1).tbV hok.ok (by rw[he1.out];omega) (by omega) (fun x hx=>by rw[he1.out];exact end_lt hal x (.inl hx)) hj.out hok.len (by rw[he2.out];omega) (fun x hx=>by rw[he1.out];exact end_lt hal x (.inr hx))) (fun x17=>?_);obtain⟨px17,lx17,cx17⟩:=x17;dsimp only;refine e0 ?_;refine eP 3 0 [.int .i64 3,.slice px16 lx16 cx16,.slice none 0 0,.slice px17 lx17 cx17,.bool false,.slice none 0 0,.slice none 0 0] ?_ (hq:=.inr ⟨rfl,rfl,rfl,rfl,trivial⟩);refine e0 ?_;refine sxEnd (fun W18 hK=>?_);have⟨c90,c91,c92,c93,c94,c95,c96⟩:=(hK.box m3).c7;replace hK:=hK.fact (rO ratK 43 none 0 0 ([]:List Rat)) OwV.nil (fun _ h=>by cases h);replace hK:=hK.fact (qF (.agg #[.bool false,.slice none 0 0,.slice none 0 0]) (0:Rat)) (RatV.zero _);replace hK:=hK.subl (sK2 (sK2 (sK2 (sK2 (sC2 (sC2 (sC2 sZ2)))))));replace hK:=hK.up2;replace hK:=hK.up2;replace hK:=hK.up3;go_wp2;exact bodyPost_ret (v:=.tuple #[.agg #[.int .i64 3,.slice px16 lx16 cx16,.slice none 0 0,.slice px17 lx17 cx17,.bool false,.slice none 0 0,.slice none 0 0],.int .i64 0]) (by simp[results,Tryz.results10,go_sem,c90,c91,c92,c93,c94,c95,c96]) rfl (qo hQ0 ⟨(⟨⟨3,pointL t.T.rows.length P.c.length t.T,[],rayL t.T.rows.length P.c.length t.T j,(0:Rat)⟩,⟨px16,lx16,cx16⟩,⟨none,0,0⟩,⟨px17,lx17,cx17⟩,⟨none,0,0⟩,⟨none,0,0⟩,0⟩:SvR),rfl,hK.fact (cF (SvOk P (⟨⟨3,pointL t.T.rows.length P.c.length t.T,[],rayL t.T.rows.length P.c.length t.T j,(0:Rat)⟩,⟨px16,lx16,cx16⟩,⟨none,0,0⟩,⟨px17,lx17,cx17⟩,⟨none,0,0⟩,⟨none,0,0⟩,0⟩:SvR))) (.inr ⟨hvl.out,rfl,(by have q:=cert_unb hok hal hj.out hl.out;rw[<-he1.out]at q;exact q),fun X q=>unb_sm hP.out q hok hal⟩)⟩)
   obtain⟨hr,h1,h2⟩:=hK.get m1;have hend:=end_dims hok0 hal0 hr;have hok:=hend.1;have hal:=hend.2.1;have he1:=hid hend.2.2.1;have he2:=hid hend.2.2.2.1;have he3:=hid hend.2.2.2.2;clear hend;have hen:=hid (h1 rfl);clear h1 h2;replace hK:=hK.subl (sK2 (sC2 (sR)));go_upto_region 21 with(fail);refine wp_region_T [0,2,0,2,0,2,0,4,0] hK ?_;clear hK;refine e0 ?_;refine eC (fun w k=>point_any w k.tbV hok.ok (by rw[he1.out];omega) (by omega) (fun x hx=>by rw[he1.out];exact end_lt hal x (.inl hx))) (fun x19=>?_);obtain⟨px19,lx19,cx19⟩:=x19;dsimp only;refine e0 ?_;refine eC (fun w k=>Prices_any w (k.up1).tbV hok.ok (by rw[he1.out];omega) hok.len (by rw[he2.out];omega)) (fun x20=>?_);obtain⟨px20,lx20,cx20⟩:=x20;dsimp only;refine e0 ?_;refine eC (fun w k=>value_of w (k.up2).tbV hok.ok) (fun x21=>?_);obtain⟨⟨p22,l22,c22⟩,⟨q22,u22,d22⟩⟩:=x21;dsimp only;refine e0 ?_;refine eP 4 0 [.int .i64 1,.slice px19 lx19 cx19,.slice px20 lx20 cx20,.slice none 0 0,.bool (isN (t.g.r)),.slice p22 l22 c22,.slice q22 u22 d22] ?_ (hq:=.inr ⟨rfl,rfl,rfl,rfl,rfl,trivial⟩);refine e0 ?_;refine sxEnd (fun W23 hK=>?_);have⟨c90,c91,c92,c93,c94,c95,c96⟩:=(hK.box m4).c7;replace hK:=hK.fact (rO ratK 43 none 0 0 ([]:List Rat)) OwV.nil (fun _ h=>by cases h);replace hK:=hK.subl (sK2 (sK2 (sK2 (sK2 (sC2 (sC2 (sC2 sZ2)))))));replace hK:=hK.up1;replace hK:=hK.up1;replace hK:=hK.up2;replace hK:=hK.up3;go_wp2;exact bodyPost_ret (v:=.tuple #[.agg #[.int .i64 1,.slice px19 lx19 cx19,.slice px20 lx20 cx20,.slice none 0 0,.bool (isN (t.g.r)),.slice p22 l22 c22,.slice q22 u22 d22],.int .i64 0]) (by simp[results,Tryz.results10,go_sem,c90,c91,c92,c93,c94,c95,c96]) rfl (qo hQ0 ⟨(⟨⟨1,pointL t.T.rows.length P.c.length t.T,pricesL t.T.rows.length t.T.free t.g.cs,[],t.g.r⟩,⟨px19,lx19,cx19⟩,⟨px20,lx20,cx20⟩,⟨none,0,0⟩,⟨p22,l22,c22⟩,⟨q22,u22,d22⟩,0⟩:SvR),rfl,hK.fact (cF (SvOk P (⟨⟨1,pointL t.T.rows.length P.c.length t.T,pricesL t.T.rows.length t.T.free t.g.cs,[],t.g.r⟩,⟨px19,lx19,cx19⟩,⟨px20,lx20,cx20⟩,⟨none,0,0⟩,⟨p22,l22,c22⟩,⟨q22,u22,d22⟩,0⟩:SvR))) (.inr ⟨hvl.out,rfl,(by have q:=cert_opt hP.out hok hal hen.out;rw[<-he1.out]at q;exact q),fun X q=>opt_sm hP.out q hok hal⟩)⟩)
  have q_b2:=ylt hb2;have hmc:m<P.c.length:=(by omega);obtain⟨T,hT⟩:∃t,Hid ((P.pre m).init.T=t):=⟨_,hid rfl⟩;obtain⟨gg,hgg⟩:∃t,Hid ((P.pre m).goal=t):=⟨_,hid rfl⟩;rw[hT.out,hgg.out]at hK;have hrl:=hid (show T.rows.length=P.A.length by rw[<-hT.out];exact pre_rl P m);have⟨hrl1,hrl2⟩:=lle hrl.out;obtain⟨cv,hcv⟩:∃l,Hid (colP P m=l):=⟨_,hid rfl⟩;have hcll:=hid (show cv.length=P.A.length by rw[<-hcv.out];exact colP_len P m);have i24:m<cl:=(by omega);obtain⟨g24,o24,rfl⟩:=hC.pt i24;have l24:m<P.c.length:=Nat.lt_of_lt_of_eq i24 (hC.one0);obtain⟨xc,exc⟩:=gtH l24;obtain⟨_,_,_,xc_c,xc_r⟩:=hC.rat exc.out;obtain⟨rfl,⟨xc_p,xc_n,xc_d,rfl⟩,xc_q,xc_m,xc_e,rfl⟩:=ratV_cells' xc_r;have hxcl:=hid (hLC xc (List.mem_of_getElem? exc.out));have hxcd:=hid (getD_of (d:=(0:Rat)) exc.out);go_upto_region 6 with(fail);refine wp_region_T [0,0,0,3,0,4] hK ?_;clear hK
  iterate 2 refine e0 ?_
  refine eRm3 (fun w k=>xc_c.below k.old) ?_;refine eA (.cells #[.bool false,.slice none 0 0,.slice none 0 0] 43) (fun R25=>?_);refine e0 ?_;refine eP 0 0 [.bool (isN xc),.slice xc_p xc_n xc_d,.slice xc_q xc_m xc_e] ?_;refine sxEnd (fun W26 hK=>?_);go_upto_region 8 with(fail);refine wp_region_T [0,1,0,0] hK ?_;clear hK;refine e0 ?_;refine eL m2 ?_
  iterate 2 refine e0 ?_
  refine sxEnd (fun W27 hK=>?_);replace hK:=hK.fact (rO trK 86 none 0 0 (trmN cv 0)) OwV.nil (fun _ h=>by cases h);go_wp2_with fail;go_loopw [30,7] (fun s30 s7 wl=> ∃(mi:Nat) (tp:Option Addr) (tn:Nat) (tc:Nat),s30=.int .i64 (mi:Int)/\s7=.slice tp tn tc/\(mi<=P.A.length)/\Hid (trmN cv mi=[]->tp=none)/\SS w ([bx R25 (.cells #[.bool (isN xc),.slice xc_p xc_n xc_d,.slice xc_q xc_m xc_e] 43),bx R2 (.cells #[.int .i64 0,.slice none 0 0,.slice none 0 0,.slice none 0 0,.bool false,.slice none 0 0,.slice none 0 0] 45),bx R1 (.cells #[.slice (some ⟨g24,o24,none⟩) cl cc,.slice ap al ac,.slice bp bl bc] 37),tbF R m z (⟨T,gg⟩),rO trK 86 tp tn tc (trmN cv mi)]) wl) (fun s30 s7 _=>al-(intOf s30).toNat)
  case atStart=>exact⟨0,none,0,0,rfl,rfl,(by omega),hid (fun _=>rfl),hK.up4.up4.up4.up4⟩
  clear hK;obtain⟨mi,tp,tn,tc,rfl,rfl,hmi,h_e,hK⟩:=hrel;generalize wr=W28 at hK⊢;go_upto_region 9 with(fail);refine wp_region_T [0] hK ?_;clear hK;refine eB (decide (((mi:Int))<((al:Int)))) (fun b3 hb3=>?_);refine sxEnd (fun W29 hK=>?_)
  cases b3
  . --
   have q_b3:=nlt hb3;replace hK:=hK.fact (qF (.agg #[.bool (isN xc),.slice xc_p xc_n xc_d,.slice xc_q xc_m xc_e]) xc) (xc_r.below hK.old);have hmi9:mi=P.A.length:=(by omega);have htl:=hid (show valN T.rows.length (trmN cv mi)=cv by rw[hrl.out,hmi9, <-hcll.out];exact trm_all cv);clear hmi9;go_upto_region 14 with(fail);refine wp_region_T [0,1,0,4] hK ?_;clear hK;refine e0 ?_;refine eL m1 ?_;refine e0 ?_;refine eM (fun w k=>(addcol_any w _ _ k.up5.up5 ⟨rfl,rfl,rfl,trivial⟩ ⟨rfl,rfl,rfl,trivial⟩ ⟨rfl,rfl,rfl,trivial⟩ (by rw[<-hT.out];exact pre_bas P m) (by rw[<-hT.out];exact pre_fre (Nat.le_of_lt hmc)) (by rw[<-hgg.out];exact pre_gl (Nat.le_of_lt hmc)) (by rw[<-hT.out];exact pre_row hP.out (Nat.le_of_lt hmc)) (fun t ht=>by rw[hrl.out];exact Nat.lt_of_lt_of_le (trm_lt t ht) hmi) htl.out (by show T.rows.length<=2000;omega) (by omega) (Nat.le_trans trm_len (by omega)) hxcl.out h_z.out).mono fun e w5 ⟨z5,h5,h6⟩=>⟨z5,h5,by rw[<-hT.out, <-hgg.out, <-hcv.out,pre_rl, <-hxcd.out,pre_add hP.out hmc,goal_add hmc]at h6;exact h6⟩) (fun x30=>?_);refine sxEnd (fun W31 hK=>?_)
   (try go_wp2)
   go_roundw
   case rel=>exact⟨m+1,x30,(by first|rfl|go_num),(by omega),hid (fun e=>absurd e (by omega)),(hK.subl (sK2 (sC2 (sR)))).up2.up2⟩
   case measure=>simp[intOf]<;>omega
  have q_b3:=ylt hb3;have i32:mi<al:=(by omega);obtain⟨g32,o32,rfl⟩:=hA.pt i32;have l32:mi<P.A.length:=Nat.lt_of_lt_of_eq i32 (hA.one0);obtain⟨a,ea⟩:=gtH l32;obtain⟨⟨a_p,a_l,a_c⟩,a_h,a_s⟩:=hA.row ea.out;dsimp only at a_h a_s;have a_n:=hid a_s.one0;have⟨a_n1,a_n2⟩:=lle a_n.out;go_upto_region 10 with(fail);refine wp_region_T [0,0,0,0,0] hK ?_;clear hK
  iterate 2 refine e0 ?_
  refine eR0 (fun w k=>celB a_h k.old) ?_
  iterate 2 refine e0 ?_
  refine sxEnd (fun W33 hK=>?_);have hal:=hid (hP.out.ha a (List.mem_of_getElem? ea.out));have⟨hal1,hal2⟩:=lle hal.out;have i34:m<a_l:=(by omega);obtain⟨g34,o34,rfl⟩:=a_s.pt i34;have l34:m<a.length:=Nat.lt_of_lt_of_eq i34 (a_s.one0);obtain⟨x,ex⟩:=gtH l34;obtain⟨_,_,_,x_c,x_r⟩:=a_s.rat ex.out;obtain⟨rfl,⟨x_p,x_n,x_d,rfl⟩,x_q,x_m,x_e,rfl⟩:=ratV_cells' x_r;have hxd:=hid (show cv.getD mi 0=x by rw[<-hcv.out];exact col_at ea.out ex.out);go_upto_region 11 with(fail);refine wp_region_T [0,0,0,0,1,0] hK ?_;clear hK
  iterate 3 refine e0 ?_
  refine eRm3 (fun w k=>x_c.below k.old) ?_;obtain⟨z1,hz1⟩:=nmI (sgQ (x));refine eQ (v:=.int .i64 z1) (fun w k=>sign_any _ _ w (x_r.below k.old)) ?_ (hv:=by rw[hz1.out]);refine eB (z1 !=0) (fun b4 hb4=>?_);refine sxEnd (fun W35 hK=>?_)
  cases b4
  . --
   have hzz:=hid (show cv.getD mi 0=0 by rw[hxd.out];exact(sgx_z hz1.out).1 (by have q:=hb4.out;simpa using q));rw[show trmN cv mi=trmN cv (mi+1)from(trm_no hzz.out)]at hK
   (try go_wp2)
   go_roundw
   case rel=>exact⟨mi+1,tp,tn,tc,(by first|rfl|go_num),(by first|rfl|go_num),(by omega),hid (fun e=>h_e.out (by rw[trm_no hzz.out];exact e)),hK⟩
   case measure=>simp[intOf]<;>omega
  replace hK:=hK.fact (qF (.agg #[.bool (isN x),.slice x_p x_n x_d,.slice x_q x_m x_e]) x) (x_r.below hK.old);go_upto_region 12 with(fail);refine wp_region_T [0,0,0,0,0,0,0,3,5,0] hK ?_;clear hK
  iterate 5 refine e0 ?_
  refine eRm3 (fun w k=>x_c.below k.old) ?_;refine e0 ?_;refine eA (.cells #[.int .i64 (mi:Int),.bool (isN x),.slice x_p x_n x_d,.slice x_q x_m x_e] 86) (fun R36=>?_);refine eAppK 1 trK_hd rfl 6 h_e.out rfl infoT (fun w k=>k.one1 (K:=trK) (x:=⟨mi,x⟩) m0 ⟨_,_,_,rfl,k.q m1⟩) (Nat.le_trans (Nat.add_le_add_right trm_len 1) (by omega)) (fun x37=>?_);obtain⟨p37,n37,c37⟩:=x37;dsimp only;refine e0 ?_;refine sxEnd (fun W38 hK=>?_);have hnz:=hid (show x≠0 from fun e=>by have q:=hb4.out;rw[(sgx_z hz1.out).2 e]at q;simp at q);rw[show(trmN cv mi)++[⟨mi,x⟩]=trmN cv (mi+1)from(trm_yes hxd.out hnz.out)]at hK
  (try go_wp2)
  go_roundw
  case rel=>exact⟨mi+1,p37,n37,c37,(by first|rfl|go_num),(by first|rfl|go_num),(by omega),hid (fun e=>by rw[<-trm_yes hxd.out hnz.out]at e;simp at e),(hK.subl (sC2 (sC2 (sR))))⟩
  case measure=>simp[intOf]<;>omega
end
section
structure LmP(k:Nat)(P:LPd):Prop where
  c:LmL k P.c
  a:∀r∈P.A,LmL k r
  b:LmL k P.b
  n:P.c.length<=12
  m:P.A.length<=12
theorem LmL.up{k m:Nat}{xs:List Rat}(h:LmL k xs)(hk:k<=m):LmL m xs:=fun x hx=>(h x hx).up hk
theorem dotQ_lm{k:Nat}:∀{xs ys:List Rat},LmL k xs->LmL k ys->LmQ ((k+k+1)*xs.length+1) (dotQ xs ys)
  |[],ys,_,_=>by rw[dotQ_nil];exact LmQ.nil0.up (by omega)
  |x::xs,[],_,_=>by rw[dotQ_nil'];exact LmQ.nil0.up (by omega)
  | x::xs,y::ys,h,h'=>by
    have i1:=dotQ_lm (xs:=xs) (ys:=ys) (fun z hz=>h z (List.mem_cons_of_mem _ hz)) (fun z hz=>h' z (List.mem_cons_of_mem _ hz));have i2:=LmQ.mul (h x (List.mem_cons_self ..)) (h' y (List.mem_cons_self ..));rw[dotQ];exact(LmQ.add i2 i1).up (by rw[List.length_cons,Nat.mul_succ];omega)
theorem dotQ_take{xs ys:List Rat}{k:Nat}{x y:Rat}(hx:xs[k]?=some x)(hy:ys[k]?=some y):dotQ (xs.take (k+1)) (ys.take (k+1))=dotQ (xs.take k) (ys.take k)+x*y:=by
  have e1:xs.take (k+1)=xs.take k++[x]:=by rw[List.take_add_one,hx];rfl
  have e2:ys.take (k+1)=ys.take k++[y]:=by rw[List.take_add_one,hy];rfl
  have h1:=(List.getElem?_eq_some_iff.1 hx).1;have h2:=(List.getElem?_eq_some_iff.1 hy).1;rw[e1,e2,dotQ_append _ _ _ _ (by simp;omega)];simp only[dotQ]
  grind
theorem dotQ_lmt{k:Nat}{xs ys:List Rat}(hx:LmL k xs)(hy:LmL k ys)(hk:(k+k+1)*xs.length+1<=9999)(m:Nat):LmQ 9999 (dotQ (xs.take m) (ys.take m)):=
  (dotQ_lm (xs:=xs.take m) (ys:=ys.take m) (fun z hz=>hx z (List.mem_of_mem_take hz)) fun z hz=>hy z (List.mem_of_mem_take hz)).up (by
    have h1:(xs.take m).length<=xs.length:=by rw[List.length_take];omega
    have h2:=Nat.mul_le_mul_left (k+k+1) h1;omega)
theorem dotQ_end{m:Nat}:∀{xs ys:List Rat},xs.length<=m\/ys.length<=m->dotQ (xs.take m) (ys.take m)=dotQ xs ys:=fun{xs ys} h=>by
  have key:∀(m:Nat) (xs ys:List Rat),xs.length<=m\/ys.length<=m->dotQ (xs.take m) (ys.take m)=dotQ xs ys:=fun m=>by
    induction m with
    | zero=>
      intro xs ys h;rw[List.take_zero,List.take_zero,dotQ_nil]
      rcases h with h|h
      . rw[List.eq_nil_of_length_eq_zero (Nat.le_zero.1 h),dotQ_nil]
      rw[List.eq_nil_of_length_eq_zero (Nat.le_zero.1 h),dotQ_nil']
    | succ m ih=>
      intro xs ys h
      cases xs with
      |nil=>rw[List.take_nil,dotQ_nil,dotQ_nil]
      | cons x xs=>
        cases ys with
        |nil=>rw[List.take_nil,dotQ_nil',dotQ_nil']
        | cons y ys=>
          rw[List.take_succ_cons,List.take_succ_cons,dotQ,dotQ,ih xs ys (by simpa using h)]
  exact key m xs ys h
theorem infoR:(Tryz.prog.info? 53).map (fun i=>(i.zero,i.size,i.bytes))=some (some (.agg #[.bool false,.slice none 0 0,.slice none 0 0]),refK.sz,56):=by kernel_rfl
end
section
theorem same_of{x y:Rat}{z:Int}(h:sgQ (x-y)=z):(z==0)=decide (x=y):=by
  have h1:=(sgx_z h).trans sbx_z
  by_cases e:z=0
  . rw[decide_eq_true (h1.1 e),e];rfl
  rw[decide_eq_false fun q=>e (h1.2 q)];simpa using e
theorem nn_at{xs:List Rat}{m:Nat}{x:Rat}{z:Int}(hx:xs[m]?=some x)(hz:sgQ x=z)(h:0<=z):nnP xs m=true:=by
  unfold nnP;rw[getD_of hx];exact decide_eq_true (Rat.not_lt.1 fun e=>by have:=(sgx_lt hz).2 e;omega)
theorem nn_no{xs:List Rat}{m:Nat}{x:Rat}{z:Int}(hm:m<xs.length)(hx:xs[m]?=some x)(hz:sgQ x=z)(h:z<0):nnB xs=false:=by
  unfold nnB;refine allN_no hm ?_;unfold nnP;rw[getD_of hx];exact decide_eq_false fun e=>by have:=(sgx_lt hz).1 h;grind
theorem le_of_sg{x y:Rat}{z:Int}(hz:sgQ (x-y)=z)(h:z<=0):x<=y:=Rat.not_lt.1 fun e=>by have:=(sgx_gt hz).2 (sbx_gt.2 e);omega
theorem gt_of_sg{x y:Rat}{z:Int}(hz:sgQ (x-y)=z)(h:0<z):¬x<=y:=fun e=>by have:=sbx_gt.1 ((sgx_gt hz).1 h);grind
theorem ge_of_sg{x y:Rat}{z:Int}(hz:sgQ (x-y)=z)(h:0<=z):y<=x:=Rat.not_lt.1 fun e=>by have:=(sgx_lt hz).2 (sbx_lt.2 e);omega
theorem lt_of_sg{x y:Rat}{z:Int}(hz:sgQ (x-y)=z)(h:z<0):¬y<=x:=fun e=>by have:=sbx_lt.1 ((sgx_lt hz).1 h);grind
end
section
theorem LmP.colm{k j:Nat}{P:LPd}(h:LmP k P)(hk:1<=k):LmL k (P.A.map fun a=>a.getD j 0):=fun x hx=>by
  obtain⟨a,ha,rfl⟩:=List.mem_map.1 hx
  by_cases hj:j<a.length
  . exact h.a a ha _ (by rw[List.getD_eq_getElem?_getD,List.getElem?_eq_getElem hj];exact List.getElem_mem hj)
  rw[List.getD_eq_getElem?_getD,List.getElem?_eq_none (by omega)];exact LmQ.nil0.up hk
theorem LmL.nil{k:Nat}:LmL k []:=fun _x hx=>absurd hx List.not_mem_nil
theorem sgn_le{x:Rat}{z:Int}(hz:sgQ x=z)(h:z<=0):x<=0:=Rat.not_lt.1 fun e=>by have:=(sgx_gt hz).2 e;omega
theorem sgn_gt{x:Rat}{z:Int}(hz:sgQ x=z)(h:0<z):¬x<=0:=fun e=>by have:=(sgx_gt hz).1 h;grind
end
section

end
section
theorem LmQ.int{n:Int}(n0: -9223372036854775808<=n)(n1:n<=9223372036854775807):LmQ 2 ((n:Int):Rat):=by
  rw[<-int_of n];refine .ofS _ ?_ (Lm.one.up (by decide)) (by decide)
  show _<_
  have:B32^2=18446744073709551616:=by decide
  omega
def i8K:EK Int where
  sz:=1
  pos:=by decide
  R:=fun _ cs x=>cs=[.int .i8 x]
  len:=fun e=>by rw[e];rfl
  one:=fun e u hu=>by
    subst e;obtain rfl:=List.mem_singleton.1 hu;rfl
  below:=fun e _=>e
def Rng8(z:Int):Prop:= -128<=z/\z<=127
structure Sm where
  c:List Int
  a:List Int
  b:List Int
structure Sm.Ok(s:Sm):Prop where
  c:∀z∈s.c,Rng8 z
  a:∀z∈s.a,Rng8 z
  b:∀z∈s.b,Rng8 z
  cl:s.c.length<=9223372036854775807
  al:s.a.length<=9223372036854775807
  bl:s.b.length<=9223372036854775807
def atI(l:List Int)(i:Nat):Rat:=((l.getD i 0:Int):Rat)
def atL(l:List Int)(f k:Nat):List Rat:=(List.range k).map fun i=>atI l (f+i)
theorem atL_len(l:List Int)(f k:Nat):(atL l f k).length=k:=by simp[atL]
theorem atL_snoc(l:List Int)(f k:Nat):atL l f k++[atI l (f+k)]=atL l f (k+1):=by unfold atL;rw[List.range_succ,List.map_append];rfl
theorem atI_rng{l:List Int}(h:∀z∈l,Rng8 z)(i:Nat):Rng8 (l.getD i 0):=by
  cases e:l[i]? with
  |none=>rw[List.getD,e];exact⟨by decide,by decide⟩
  |some z=>rw[getD_of e];exact h z (List.mem_of_getElem? e)
theorem lm_i8{z:Int}(h:Rng8 z):LmQ 2 ((z:Int):Rat):=by obtain⟨h1,h2⟩:=h;exact LmQ.int (by omega) (by omega)
theorem atL_lm{l:List Int}(h:∀z∈l,Rng8 z)(f k:Nat):LmL 2 (atL l f k):=fun x hx=>by
  obtain⟨i,_,rfl⟩:=List.mem_map.1 hx;exact lm_i8 (atI_rng h _)
def ofN(s:Sm):Nat:=if s.c.length=0 then 1 else min s.c.length 4
def ofM(s:Sm):Nat:=min s.b.length 5
theorem ofN_le(s:Sm):1<=ofN s/\ofN s<=4:=by unfold ofN;split<;>omega
theorem ofM_le(s:Sm):ofM s<=5:=by unfold ofM;omega
def rowL(s:Sm)(i:Nat):List Rat:=atL s.a (i*ofN s) (ofN s)
def rowsL(s:Sm)(k:Nat):List (List Rat):=(List.range k).map fun i=>rowL s i
theorem rowsL_len(s:Sm)(k:Nat):(rowsL s k).length=k:=by simp[rowsL]
theorem rowsL_snoc(s:Sm)(k:Nat):rowsL s k++[rowL s k]=rowsL s (k+1):=by unfold rowsL;rw[List.range_succ,List.map_append];rfl
def ofSm(s:Sm):LPd:=⟨atL s.c 0 (ofN s),rowsL s (ofM s),atL s.b 0 (ofM s)⟩
theorem ofSm_n(s:Sm):(ofSm s).c.length=ofN s:=atL_len _ _ _
theorem ofSm_m(s:Sm):(ofSm s).A.length=ofM s:=rowsL_len _ _
theorem ofSm_b(s:Sm):(ofSm s).b.length=ofM s:=atL_len _ _ _
theorem ofSm_ok(s:Sm):(ofSm s).Ok:=⟨by rw[ofSm_b,ofSm_m],fun a ha=>by
  obtain⟨i,_,rfl⟩:=List.mem_map.1 ha;rw[ofSm_n];exact atL_len _ _ _⟩
theorem ofSm_v(s:Sm):vldP (ofSm s)=true:=by
  have h1:=ofN_le s;have h2:=ofM_le s;unfold vldP vldH;simp only[Bool.and_eq_true,decide_eq_true_eq,ofSm_n,ofSm_m,ofSm_b];refine⟨⟨⟨⟨h1.1,by omega⟩,by omega⟩,trivial⟩,allN_iff.2 fun i hi=>?_⟩;unfold rowP;exact decide_eq_true ((ofSm_ok s).ha _ (by rw[List.getD,List.getElem?_eq_getElem (by rw[ofSm_m];exact hi)];exact List.getElem_mem _))
theorem ofSm_lm{s:Sm}(h:s.Ok)(k:Nat)(hk:2<=k):LmP k (ofSm s):=by
  have h1:=ofN_le s;have h2:=ofM_le s;refine⟨(atL_lm h.c _ _).up hk,fun r hr=>?_,(atL_lm h.b _ _).up hk,by rw[ofSm_n];omega,by rw[ofSm_m];omega⟩;obtain⟨i,_,rfl⟩:=List.mem_map.1 hr;exact(atL_lm h.a _ _).up hk
theorem SlV.i8{w:World}{g o n c i:Nat}{xs:List Int}{x:Int}(h:SlV i8K w (.slice (some ⟨g,o,none⟩) n c) xs)(hx:xs[i]?=some x):w.cell? ⟨g,o+i,none⟩=some (.int .i8 x):=by
  have h1:=h.cel (f:=fun x=>[.int .i8 x]) (fun e=>e) hx 0 rfl
  rwa [show o+i*i8K.sz+0=o+i from by show o+i*1+0=_;omega]at h1
abbrev slcR:EK Sl:=slcK
theorem infoSR:(Tryz.prog.info? 29).map (fun i=>(i.zero,i.size,i.bytes))=some (some (.slice none 0 0),slcR.sz,24):=by kernel_rfl
theorem slcR_hd{w:World}{cs:List Value}{x:Sl}{u:Value}(h:slcR.R w cs x)(hu:cs[0]?=some u):rkV u=3:=by cases h;cases hu;rfl
structure PgR where
  c:Sl
  a:Sl
  b:Sl
  ss:List Sl
instance :Nonempty PgR:=⟨⟨⟨none,0,0⟩,⟨none,0,0⟩,⟨none,0,0⟩,[]⟩⟩
def PgR.v(z:PgR):Value:=.agg #[.slice z.c.p z.c.l z.c.c,.slice z.a.p z.a.l z.a.c,.slice z.b.p z.b.l z.b.c]
def pgL(K:EK Rat)[OwnK K](t tt:TypeId)(z:PgR)(P:LPd):List Ft:=[cF (z.ss.length=P.A.length),rO K t z.c.p z.c.l z.c.c P.c,rO slcR tt z.a.p z.a.l z.a.c z.ss,rsF K t z.ss P.A,rO K t z.b.p z.b.l z.b.c P.b]
theorem pg_ln{K:EK Rat}[OwnK K]{t tt:TypeId}{z:PgR}{P:LPd}:∀f∈pgL K t tt z P,∀n,f.ln.contains n=true->(EK.S K).contains n=true:=fun f hf n hn=>by
  unfold pgL at hf;simp only[List.mem_cons,List.not_mem_nil,or_false]at hf
  rcases hf with rfl|rfl|rfl|rfl|rfl<;>first|exact hn|cases hn
def pgF(K:EK Rat)[OwnK K](t tt:TypeId)(z:PgR)(P:LPd):Ft:=stF (EK.S K) (pgL K t tt z P) pg_ln
section
variable {K:EK Rat}[OwnK K]{t tt:TypeId}{V w:World}{l:List Ft}{z:PgR}{P:LPd}
theorem SS.pg(h:SS V l w)(hm:pgF K t tt z P∈l):SlV K w (.slice z.c.p z.c.l z.c.c) P.c/\SlV (slK K) w (.slice z.a.p z.a.l z.a.c) P.A/\SlV K w (.slice z.b.p z.b.l z.b.c) P.b:=by
  obtain⟨h1,_⟩:=h.get hm;have h2:OwV K t 0 w (.slice z.c.p z.c.l z.c.c) P.c:=h1 _ m1;have h3:OwV K t 0 w (.slice z.b.p z.b.l z.b.c) P.b:=h1 _ m4;exact⟨h2.slv,rsV_of (h1 _ m2) (h1 _ m3) (h1 _ m0),h3.slv⟩
end
end
section
section
variable {V w w':World}{l l':List Ft}{f f':Ft}{R n i:Nat}
theorem SS.turnX{b:Option Nat}(h:SS V l w)(hi:l[i]?=some f)(hg:w.grownBy w' b)(hb:∀R,b=some R->f.own R)(hq:∀R,b=some R-> ∀j f1,j≠i->l[j]?=some f1-> ¬f1.own R->Spares R w f1.F)(hf:f'.F w')(ho:∀g,f'.own g->f.own g\/w.heap.size<=g):SS V (l.set i f') w':=by
  have hm:=List.mem_of_getElem? hi;have hil:=(List.getElem?_eq_some_iff.1 hi).1
  have hall:∀j f1,j≠i->l[j]?=some f1->f1.F w':=fun j f1 hne hj=>by
    have h1:=h.has f1 (List.mem_of_getElem? hj)
    cases hbb:b with
    |none=>exact f1.bel h1 ⟨hg.os,hg.tape,hg.output,hg.size,fun k hk=>hg.block k hk (by rw[hbb];simp)⟩
    | some R=>
      refine hq R hbb j f1 hne hj (fun hR=>?_) w' hg.size (fun k hk hlt=>hg.block k hlt (by rw[hbb];simpa using hk)) w' (Below.refl _ _);have hfR:=hb R hbb;have hjl:=(List.getElem?_eq_some_iff.1 hj).1;have e1:l[j]=f1:=(List.getElem?_eq_some_iff.1 hj).2;have e2:l[i]=f:=(List.getElem?_eq_some_iff.1 hi).2
      rcases Nat.lt_or_gt_of_ne hne with hlt|hlt
      . exact List.pairwise_iff_getElem.1 h.ap j i hjl hil hlt R (by rw[e1];exact hR) (by rw[e2];exact hfR)
      exact List.pairwise_iff_getElem.1 h.ap i j hil hjl hlt R (by rw[e2];exact hfR) (by rw[e1];exact hR)
  have hcase:∀f1∈l.set i f',f1=f'\/ ∃j,j≠i/\l[j]?=some f1:=fun f1 hf1=>by
    obtain⟨j,hj⟩:=List.mem_iff_getElem?.1 hf1;rw[List.getElem?_set]at hj
    by_cases e:i=j
    . rw[if_pos e,if_pos hil]at hj;exact .inl (Option.some.inj hj).symm
    rw[if_neg e]at hj;exact .inr ⟨j,Ne.symm e,hj⟩
  have hfl:∀g,f'.own g->V.heap.size<=g:=fun g hgo=>(ho g hgo).elim (h.lo f hm g) fun h2=>Nat.le_trans h.old.size h2
  refine⟨h.old.trans ⟨hg.os,hg.tape,hg.output,hg.size,fun k hk=>hg.block k (Nat.lt_of_lt_of_le hk h.old.size) fun e=>absurd (h.lo f hm k (hb k e.symm)) (Nat.not_le.2 hk)⟩,fun f1 hf1=>?_,fun f1 hf1=>?_,?_⟩
  . rcases hcase f1 hf1 with rfl|⟨j,hne,hj⟩
    . exact hf
    exact hall j f1 hne hj
  . rcases hcase f1 hf1 with rfl|⟨j,hne,hj⟩
    . exact hfl
    exact h.lo f1 (List.mem_of_getElem? hj)
  refine List.pairwise_iff_getElem.2 fun j k hj hk hjk g h1 h2=>?_
  rw[List.length_set]at hj hk
  have key:∀m (hm:m<l.length),m≠i->f'.own g->l[m].own g->False:=fun m hm2 hne h3 h4=>by
    rcases ho g h3 with h5|h5
    . have e2:l[i]=f:=(List.getElem?_eq_some_iff.1 hi).2
      rcases Nat.lt_or_gt_of_ne hne with hlt|hlt
      . exact List.pairwise_iff_getElem.1 h.ap m i hm2 hil hlt g h4 (by rw[e2];exact h5)
      exact List.pairwise_iff_getElem.1 h.ap i m hil hm2 hlt g (by rw[e2];exact h5) h4
    exact absurd (l[m].lt (h.has _ (List.getElem_mem hm2)) h4) (Nat.not_lt.2 h5)
  by_cases ej:i=j
  . subst ej;simp only[List.getElem_set_self]at h1;rw[List.getElem_set_ne (by omega)]at h2;exact key k hk (by omega) h1 h2
  rw[List.getElem_set_ne ej]at h1
  by_cases ek:i=k
  . subst ek;simp only[List.getElem_set_self]at h2;exact key j hj (by omega) h2 h1
  rw[List.getElem_set_ne ek]at h2;exact List.pairwise_iff_getElem.1 h.ap j k hj hk hjk g h1 h2
end
def ZBox(R:Nat)(w:World):Prop:=w.cell? ⟨R,0,none⟩=some (.int .i64 0)/\ ∃p n c,w.cell? ⟨R,1,none⟩=some (.slice p n c)
theorem zbox_of{b R n c:Nat}{w:World}{p:Option Addr}{l:List Value}{t:TypeId}(h:Has b R (.cells (.int .i64 0::.slice p n c::l).toArray t) w):ZBox R w:=⟨h.at 0 rfl,p,n,c,h.at 1 rfl⟩
theorem digs_head{n:Nat}(h:n≠0):(digs B6 n).length=1->(digs B6 n)[0]?=some 0->False:=fun h1 h2=>by
  obtain⟨d,hd⟩:∃d,digs B6 n=[d]:=by
    cases e:digs B6 n with
    |nil=>rw[e]at h1;cases h1
    | cons a l=>cases l with
      |nil=>exact⟨a,rfl⟩
      |cons _ _=>rw[e]at h1;simp at h1
  rw[hd]at h2
  cases h2
  have hv:val B6 (digs B6 n)=n:=val_digs (by decide) n;rw[hd]at hv;simp[val]at hv;exact h hv.symm
theorem ref_spareZ{R:Nat}{w:World}{v:Value}{n:Nat}(h:RefV w v n)(hR:ZBox R w):Spares R w (fun w=>RefV w v n):=fun w1 hs hf w2 hb=>by
  refine RefV.below (W:=w1) ?_ hb
  rcases h with h|⟨g,c,e,hd,hc⟩
  . exact .inl h
  by_cases hx:digs B6 n=[]
  . rw[hx]at e;exact .inl ⟨hx,_,_,e⟩
  have hpos:0<(digs B6 n).length:=List.length_pos_iff.2 hx;have hn:n≠0:=fun e0=>hx (by rw[e0];exact digs_zero)
  have hne:g≠R:=fun e=>by
    subst e;have c0:=hd.at0 0 hpos;rw[hR.1]at c0
    by_cases h2:1<(digs B6 n).length
    . obtain⟨p,m,c',hc1⟩:=hR.2;have c1:=hd.at0 1 h2;rw[hc1]at c1;cases c1
    refine digs_head hn (by omega) ?_;rw[List.getElem?_eq_getElem hpos]
    have:((digs B6 n)[0]:Int)=0:=by
      have:=Option.some.inj c0;simp only[iCell,Value.int.injEq]at this;omega
    exact congrArg some (by omega)
  refine .inr ⟨g,c,e,⟨Nat.lt_of_lt_of_le hd.lt hs,fun k hk=>?_⟩,hc⟩;rw[<-hd.at0 k hk];exact World.cell?_of_block (w:=w) (hf g hne hd.lt)
theorem refr_spareZ{R:Nat}{w:World}{v:Value}{x:Rat}(h:RefR w v x)(hR:ZBox R w):Spares R w (fun w=>RefR w v x):=fun w1 hs hf w2 hb=>by
  obtain⟨nv,dv,rfl,h1,h2⟩:=h;exact⟨nv,dv,rfl,ref_spareZ h1 hR w1 hs hf w2 hb,ref_spareZ h2 hR w1 hs hf w2 hb⟩
theorem ZBox.no{R:Nat}{w:World}{S:List Nat}(h:ZBox R w)(hS:S.contains 1=false):NoHd S R w:=fun v hv=>by
  rw[h.1]at hv;rw[<-Option.some.inj hv];exact hS
class ZK{α:Type}(K:EK α):Prop where
  sp:∀{w cs x g},K.R w cs x->ZBox g w->Spares g w (fun w=>K.R w cs x)
theorem ZK.of{α:Type}{K:EK α}[OwnK K](h:K.S.contains 1=false):ZK K:=⟨fun h1 h2=>OwnK.spare h1 (h2.no h)⟩
instance :ZK refK:=⟨fun⟨a,b,c,e,h⟩ hg w1 h2 h3 w2 h4=>⟨a,b,c,e,refr_spareZ h hg w1 h2 h3 w2 h4⟩⟩
instance :ZK ratK:=.of rfl
instance :ZK slcK:=.of rfl
theorem OwV.spareZ{α:Type}{K:EK α}[ZK K]{R b n c:Nat}{t:TypeId}{w:World}{p:Option Addr}{xs:List α}(h:OwV K t b w (.slice p n c) xs)(hne:ob p≠some R)(hR:ZBox R w):Spares R w (fun w=>OwV K t b w (.slice p n c) xs):=fun w1 hs hf w2 hb=>by
  obtain⟨css,h1,hl,h2⟩:=h;refine⟨css,⟨h1.len,fun k cs x c1 c2=>ZK.sp (h1.el k cs x c1 c2) hR w1 hs hf w2 hb⟩,hl,h2.imp id fun⟨k,cap,cur,e,h3,hk,h4⟩=>⟨k,cap,cur,e,h3,?_,h4⟩⟩;have hlt:=(Array.getElem?_eq_some_iff.1 hk).1;have hob:ob p=some k:=by injection e with e;rw[e];rfl
  rw[hb.block k (Nat.lt_of_lt_of_le hlt hs),hf k (fun e'=>hne (by rw[hob,e'])) hlt];exact hk
class Zs(f:Ft):Prop where
  sp:∀{w R},f.F w-> ¬f.own R->ZBox R w->Spares R w f.F
theorem Zs.of{f:Ft}(h:f.ln.contains 1=false):Zs f:=⟨fun h1 h2 h3=>f.spa h1 h2 (h3.no h)⟩
instance {R:Nat}{obj:Obj}:Zs (bx R obj):=.of rfl
instance {p:Prop}:Zs (cF p):=.of rfl
instance {v:Value}{x:Rat}:Zs (qF v x):=.of rfl
instance {v:Value}{x:Rat}:Zs (rF v x):=⟨fun h _ h3=>refr_spareZ h h3⟩
instance {α:Type}{K:EK α}[OwnK K][ZK K]{t:TypeId}{p:Option Addr}{n c:Nat}{xs:List α}:Zs (rO K t p n c xs):=⟨fun h h2 h3=>OwV.spareZ h h2 h3⟩
theorem Zs.st{S:List Nat}{fs:List Ft}{hS:∀f∈fs,∀n,f.ln.contains n=true->S.contains n=true}(h:∀f∈fs,Zs f):Zs (stF S fs hS):=
  ⟨fun⟨h1,ha⟩ hn hz w1 h2 h3 w2 h4=>⟨fun f hf=>(h f hf).sp (h1 f hf) (fun e=>hn ⟨f,hf,e⟩) hz w1 h2 h3 w2 h4,ha⟩⟩
instance {α:Type}{K:EK α}[OwnK K][ZK K]{t:TypeId}{ss:List Sl}{xss:List (List α)}:Zs (rsF K t ss xss):=.st fun f hf=>by
  unfold rsL at hf;rw[List.mem_iff_getElem?]at hf;obtain⟨i,hi⟩:=hf;rw[List.getElem?_zipWith]at hi
  split at hi
  . cases hi;infer_instance
  cases hi
instance {K:EK Rat}[OwnK K][ZK K]{t tt:TypeId}{z:PgR}{P:LPd}:Zs (pgF K t tt z P):=.st fun f hf=>by
  unfold pgL at hf;simp only[List.mem_cons,List.not_mem_nil,or_false]at hf
  rcases hf with rfl|rfl|rfl|rfl|rfl<;>infer_instance
class ZsA(l:List Ft):Prop where
  sp:∀f∈l,Zs f
instance :ZsA []:=⟨fun _ h=>absurd h List.not_mem_nil⟩
instance {f:Ft}{l:List Ft}[hf:Zs f][hl:ZsA l]:ZsA (f::l):=⟨fun _ h=>(List.mem_cons.1 h).elim (fun e=>e▸hf) (hl.sp _)⟩
section
variable {P:Program}{V:World}{ops:Array Oper}{Q:Act->World->Prop}{f0 fs fs':List Ft}{k:Nat}{ks:List Nat}{o:Oper}{rest:List Oper}{a a':Act}{R:Nat}{t:TypeId}
theorem eZ{l:List Value}{p:Option Addr}{n c:Nat}(i o':Nat)(cs:List Value)(h:Sx P V ops Q f0 ks rest fs' a')(hz:ZsA fs:=by infer_instance)(hi:fs[i]?=some (bx R (.cells (.int .i64 0::.slice p n c::l).toArray t)):=by rfl)(hf:fs.set i (bx R (.cells (setL (.int .i64 0::.slice p n c::l) o' cs).toArray t))=fs':=by(simp only[setL,pB,pC])<;>exact rfl)(hs:f0.Sublist fs':=by exact List.nil_sublist _)(hg:Wants ops o a:=by first|exact wants0 rfl|exact wantsg rfl rfl rfl rfl)
    (h1:∀w,Has 0 R (.cells (.int .i64 0::.slice p n c::l).toArray t) w->Does P (fun u w'=>u=undef/\w'=putAt R o' cs w) ((execOp a.eval o).run P w):=by intro w' k;have⟨_,_,_,_,_,_,_⟩:=k.c7;have f:=k.fz;go_simp;exact⟨rfl,rfl⟩) (ha:a.put o.dst undef=a':=by(simp only[mkOf,Act.put,pA,pB,pC,pD,pE])<;>exact rfl):Sx P V ops Q f0 (4::ks) (o::rest) fs a:=by
  have hm:=List.mem_of_getElem? hi;refine sx4 (α:=Unit) (f:=fun _=>undef) (l':=fun _=>fs') hg (fun _=>hs) (fun w hw=>(h1 w (hw.get hm)).mono fun u w' ⟨e1,e2⟩=>⟨(),e1,?_⟩) fun _=>by rw[ha];exact h
  subst e2;rw[<-hf];exact hw.turnX hi (put_grown ..) (fun R' e=>by injection e with e;subst e;exact rfl) (fun R' e j f1 _ hj hn=>by injection e with e;subst e;exact(hz.sp f1 (List.mem_of_getElem? hj)).sp (hw.get (List.mem_of_getElem? hj)) hn (zbox_of (hw.get hm))) (has_put (hw.get hm) o' cs (Below.refl _ _)) fun g hg=>.inl hg
end
end
section
def Bas(w:World):Prop:=Tab w/\ ∃m,w.cell? ⟨1,0,none⟩=some (.int .i64 m)
theorem Bas.below{w w':World}(h:Bas w)(hb:Below w.heap.size w w'):Bas w':=by
  obtain⟨h1,m,hm⟩:=h;refine⟨h1.below hb,m,?_⟩;rw[<-hm];refine hb.cell (p:=⟨_,0,none⟩) ?_
  show _<_
  refine Nat.lt_of_not_le fun hle=>?_
  simp[World.cell?,Array.getElem?_eq_none hle]at hm
theorem ntext_q(v:Value)(n:Nat)(w:World)(hv:NatV w v n)(hB:Bas w)(hl:(digs B32 n).length<=100000):
    Calls Tryz.prog 45 #[v] w fun e w'=>e=.returned (.string ⟨(decDigits n).toArray⟩)/\Below w.heap.size w w':=text_any v n w hv hB.1 hl
theorem nparse_q(l:List UInt8)(w:World)(hl:l.length<=1000000):
    Calls Tryz.prog 98 #[.string ⟨l.toArray⟩] w fun e w'=> ∃v,e=.returned (.tuple #[v,.int .i64 (parseErr l)])/\NatV w' v (parseVal l)/\Below w.heap.size w w':=parse_any ⟨l.toArray⟩ w (by simpa[ByteArray.size]using hl)
theorem trim_minus(l:List UInt8):Lib.trimPrefix l [45]=noMinus l/\Lib.hasPrefix l [45]=isMinus l:=by
  cases l with
  |nil=>exact⟨rfl,rfl⟩
  | cons c l=>
    by_cases h:c=45
    . subst h;exact⟨by simp[Lib.trimPrefix,Lib.hasPrefix,noMinus],by simp[Lib.hasPrefix,isMinus]⟩
    have h1:¬45=c:=fun e=>h e.symm
    exact⟨by simp[Lib.trimPrefix,Lib.hasPrefix,noMinus,h,h1],by simp[Lib.hasPrefix,isMinus,List.isPrefixOf];rw[Bool.eq_iff_iff,beq_iff_eq,beq_iff_eq];exact eq_comm⟩
theorem cutp_q(l:List UInt8)(w:World):
    Calls Tryz.prog 96 #[.string ⟨l.toArray⟩,.string ⟨#[45]⟩] w fun e w'=>e=.returned (.tuple #[.string ⟨(noMinus l).toArray⟩,.bool (isMinus l)])/\Below w.heap.size w w':=by
  refine(Tryz.strings_CutPrefix ⟨l.toArray⟩ ⟨#[45]⟩ w).mono ?_
  rintro e w' ⟨rfl,rfl⟩
  refine⟨?_,Below.refl _ _⟩
  show Ending.returned (.tuple #[.string ⟨(Lib.trimPrefix l [45]).toArray⟩,.bool (Lib.hasPrefix l [45])])=_
  rw[(trim_minus l).1,(trim_minus l).2]
theorem textQ_eq{x:Rat}{b0 b1:Bool}(h0:isN x=b0)(h1:(den0 x==0)=b1):textQ x=(if b0 then[45]else[])++(decDigits x.num.natAbs++(if b1 then[]else 47::decDigits (den0 x))):=by
  subst h0;subst h1;unfold textQ
  congr 2
  by_cases h:x.den=1
  . rw[if_pos h,(den0_zero x).2 h];rfl
  have e:den0 x≠0:=fun e=>h ((den0_zero x).1 e)
  rw[if_neg h,if_neg (by simpa using e)];unfold den0;rw[if_neg h]
theorem textQ_eq2{x:Rat}{b0 b1:Bool}(h0:isN x=b0)(h1:decide (0<((digs B6 (den0 x)).length:Int))=b1):textQ x=(if b0 then[45]else[])++(decDigits x.num.natAbs++(if b1 then 47::decDigits (den0 x)else[])):=by
  have h2:=len6_lt h1;rw[textQ_eq h0 rfl]
  cases b1 with
  |false=>rw[h2.2 rfl];rfl
  | true=>
    have:den0 x≠0:=fun e=>by have:=h2.1 e;cases this
    rw[show(den0 x==0)=false by simp[this]];rfl
theorem idx47:∀l:List UInt8,(Lib.index l [47]= -1/\cutB l=none/\cutA l=l)\/ ∃k:Nat,Lib.index l [47]=(k:Int)/\cutA l=l.take k/\cutB l=some (l.drop (k+1))
  |[]=>.inl ⟨rfl,rfl,rfl⟩
  | c ::l=>by
    by_cases h:c=47
    . subst h;exact .inr ⟨0,by simp[Lib.index,List.isPrefixOf],by simp[cutA],by simp[cutB]⟩
    have h1:List.isPrefixOf [47] (c::l)=false:=by
      simp only[List.isPrefixOf,Bool.and_true];exact beq_false_of_ne fun e=>h e.symm
    have h2:Lib.index (c::l) [47]=if Lib.index l [47]== -1 then-1 else Lib.index l [47]+1:=by
      rw[Lib.index,h1];rfl
    rcases idx47 l with⟨e1,e2,e3⟩|⟨k,e1,e2,e3⟩
    . exact .inl ⟨by rw[h2,e1];rfl,by simp[cutB,h,e2],by simp[cutA,h,e3]⟩
    refine .inr ⟨k+1,?_,by simp[cutA,h,e2],by simp[cutB,h,e3]⟩;rw[h2,e1,if_neg (by simp)];omega
theorem cut_eq(l:List UInt8):Lib.cut l [47]=(cutA l,(cutB l).getD [],(cutB l).isSome):=by
  unfold Lib.cut
  rcases idx47 l with⟨e1,e2,e3⟩|⟨k,e1,e2,e3⟩
  . rw[e1,e2,e3];rfl
  rw[e1,e2,e3,if_pos (by omega)];simp
theorem below_drewN(w:World)(n:Nat):Below w.heap.size w (w.drewN n):=⟨rfl,rfl,rfl,by simp,fun i hi=>by simp only[World.heap_drewN]⟩
theorem cut_q(l:List UInt8)(w:World)(hB:Bas w)(hl:l.length<4294967281):
    Calls Tryz.prog 97 #[.string ⟨l.toArray⟩,.string ⟨#[47]⟩] w fun e w'=>e=.returned (.tuple #[.string ⟨(cutA l).toArray⟩,.string ⟨((cutB l).getD []).toArray⟩,.bool (cutB l).isSome])/\Below w.heap.size w w':=by
  obtain⟨_,m,hm⟩:=hB;refine(Tryz.strings_Cut ⟨l.toArray⟩ ⟨#[47]⟩ m w (by simpa[ByteArray.size]using hl) hm).mono ?_
  rintro e w' ⟨rfl,n,rfl⟩
  refine⟨?_,below_drewN w n⟩
  show Ending.returned (.tuple #[.string ⟨(Lib.cut l [47]).1.toArray⟩,.string ⟨(Lib.cut l [47]).2.1.toArray⟩,.bool (Lib.cut l [47]).2.2])=_
  rw[cut_eq]
theorem sec_t{l:List UInt8}(h:(cutB (noMinus l)).isSome=true):(cutB (noMinus l)).getD []=secQ l:=by
  unfold secQ
  cases e:cutB (noMinus l)with
  |none=>rw[e]at h;cases h
  |some m=>rfl
theorem sec_f{l:List UInt8}(h:(cutB (noMinus l)).isSome=false):[49]=secQ l:=by
  unfold secQ
  cases e:cutB (noMinus l)with
  |none=>rfl
  |some m=>rw[e]at h;cases h
theorem err_3{l m:List UInt8}{z1 z2:Int}(hm:m=secQ l)(h1:parseErr (cutA (noMinus l))=z1)(h2:parseErr m=z2)(h:(z1==3)=true\/(z2==3)=true):errQ l=3/\valQ l=0:=by
  subst hm
  have e:errQ l=3:=by
    unfold errQ firQ;rw[h1,h2,if_pos (by simpa using h)]
  exact⟨e,by unfold valQ;rw[if_neg (by rw[e];decide)]⟩
theorem err_6{l m:List UInt8}{z1 z2:Int}(hm:m=secQ l)(h1:parseErr (cutA (noMinus l))=z1)(h2:parseErr m=z2)(h3:(z1==3)=false)(h4:(z2==3)=false)(h:(z1 !=0)=true\/(z2 !=0)=true):errQ l=6/\valQ l=0:=by
  subst hm
  have e:errQ l=6:=by
    unfold errQ firQ;rw[h1,h2,if_neg (by simp at h3 h4;omega),if_pos (by simpa using h)]
  exact⟨e,by unfold valQ;rw[if_neg (by rw[e];decide)]⟩
theorem err_0{l m:List UInt8}{z1 z2 z:Int}(hm:m=secQ l)(h1:parseErr (cutA (noMinus l))=z1)(h2:parseErr m=z2)(h5:(z1 !=0)=false)(h6:(z2 !=0)=false)(hz:(if parseVal m=0 then(10:Int)else 0)=z):errQ l=z/\ofS (isMinus l) (parseVal (cutA (noMinus l))) (parseVal m)=valQ l:=by
  subst hm;have h7:z1=0:=by simpa using h5
  have h8:z2=0:=by simpa using h6
  subst h7;subst h8
  have e:errQ l=z:=by
    rw[<-hz];unfold errQ firQ;rw[h1,h2,if_neg (by decide),if_neg (by decide)]
  refine⟨e,?_⟩;unfold valQ;rw[e, <-hz]
  by_cases h:parseVal (secQ l)=0
  . rw[if_pos h,if_neg (by decide),h,ofS_d0]
  rw[if_neg h,if_pos rfl];rfl
theorem pv_len(l:List UInt8):(digs B32 (parseVal l)).length<=l.length:=digs_len_le b32_2 _ _ (Nat.lt_of_lt_of_le (parseVal_lt (Nat.le_refl _)) (Nat.pow_le_pow_left (by decide) _))
theorem secB_len(l:List UInt8):((cutB (noMinus l)).getD []).length<=l.length:=by
  cases e:cutB (noMinus l)with
  |none=>exact Nat.zero_le _
  |some m=>exact Nat.le_trans (cutB_len _ m e) (noMinus_len l)
theorem secQ_len{l:List UInt8}{n:Nat}(h:l.length<=n):(secQ l).length<=n+1:=by
  unfold secQ
  cases e:cutB (noMinus l)with
  |none=>exact Nat.succ_le_succ (Nat.zero_le _)
  |some m=>exact Nat.le_succ_of_le (Nat.le_trans (Nat.le_trans (cutB_len _ m e) (noMinus_len l)) h)
set_option maxRecDepth 100000 in
theorem qparse_q (l:List UInt8)(w:World) (hB0:Bas w)(hl:l.length<=10000):
    Calls Tryz.prog 58 #[.string ⟨l.toArray⟩] w fun e w'=> ∃y0,e=.returned (.tuple #[y0,.int .i64 (errQ l)])/\RatV w' y0 (valQ l)/\Below w.heap.size w w':=by
  have hK:=SS.start w;have e1:=noMinus_len l;have e2:=cutA_len (noMinus l);have e3:=secB_len l;have e4:=pv_len (cutA (noMinus l));have e5:=pv_len ((cutB (noMinus l)).getD []);have e6:(digs B32 (parseVal ([49]:List UInt8))).length<=1:=pv_len _;have e7:([49]:List UInt8).length=1:=rfl;have e8:(secQ l).length<=10001:=secQ_len hl;have e9:=pv_len (secQ l);refine Calls.hide (fun Q0 hQ0=>?_);go_enter Tryz.func58,Tryz.ntmps58;go_upto_region 0 with(fail);refine wp_region_T [3,0] hK ?_;clear hK;refine eA (.cells #[.bool false,.slice none 0 0,.slice none 0 0] 43) (fun R1=>?_);refine e0 ?_;refine sxEnd (fun W2 hK=>?_);go_upto_region 1 with(fail);refine wp_region_T [0,1,0,0,0,0,0] hK ?_;clear hK;refine e0 ?_;obtain⟨b1,hb1⟩:=nmB (isMinus l);refine eQ (v:=.tuple #[.string ⟨(noMinus l).toArray⟩,.bool b1]) (fun w k=>cutp_q l w) ?_ (hv:=by rw[hb1.out])
  iterate 5 refine e0 ?_
  refine sxEnd (fun W3 hK=>?_);go_upto_region 2 with(fail);refine wp_region_T [0,1,0,0,0,0,0,0,0] hK ?_;clear hK;refine e0 ?_;obtain⟨b2,hb2⟩:=nmB ((cutB (noMinus l)).isSome);refine eQ (v:=.tuple #[.string ⟨(cutA (noMinus l)).toArray⟩,.string ⟨((cutB (noMinus l)).getD []).toArray⟩,.bool b2]) (fun w k=>cut_q (noMinus l) w (hB0.below k.old) (by omega)) ?_ (hv:=by rw[hb2.out])
  iterate 7 refine e0 ?_
  refine sxEnd (fun W4 hK=>?_);go_upto_if 24 with(fail);go_cut [6]from 9999 to 9999 (fun s6 wl=>s6=.string ⟨(secQ l).toArray⟩/\SS w ([bx R1 (.cells #[.bool false,.slice none 0 0,.slice none 0 0] 43)]) wl)
  case first=>
   cases b2
   . --
    (try go_wp2)
    go_meet
    case rel=>exact⟨(congrArg (fun z=>Value.string ⟨z.toArray⟩) (sec_f hb2.out)),hK⟩
   (try go_wp2)
   go_meet
   case rel=>exact⟨(congrArg (fun z=>Value.string ⟨z.toArray⟩) (sec_t hb2.out)),hK⟩
  clear hK;obtain⟨rfl,hK⟩:=hcut;generalize wc=W5 at hK⊢;go_upto_region 5 with(fail);refine wp_region_T [0,2,0,0,0,3,4,0] hK ?_;clear hK;refine e0 ?_;obtain⟨z1,hz1⟩:=nmI (parseErr (cutA (noMinus l)));refine eC (fun w k=>(by have q:=nat_S (nparse_q (cutA (noMinus l)) w (by omega));rw[hz1.out]at q;exact q)) (fun x7=>?_);obtain⟨p6,l6,c6⟩:=x7;dsimp only
  iterate 3 refine e0 ?_
  refine eA (.cells #[.slice none 0 0] 41) (fun R8=>?_);refine eP 0 0 [.slice p6 l6 c6] ?_;refine e0 ?_;refine sxEnd (fun W9 hK=>?_);go_upto_region 6 with(fail);refine wp_region_T [0,2,0,0,0,3,4,0] hK ?_;clear hK;refine e0 ?_;obtain⟨z2,hz2⟩:=nmI (parseErr (secQ l));refine eC (fun w k=>(by have q:=nat_S (nparse_q (secQ l) w (by omega));rw[hz2.out]at q;exact q)) (fun x11=>?_);obtain⟨p10,l10,c10⟩:=x11;dsimp only
  iterate 3 refine e0 ?_
  refine eA (.cells #[.slice none 0 0] 41) (fun R12=>?_);refine eP 0 0 [.slice p10 l10 c10] ?_;refine e0 ?_;refine sxEnd (fun W13 hK=>?_);go_upto_region 7 with(fail);refine wp_region_T [0,0,0,0,0,0] hK ?_;clear hK;refine e0 ?_;refine eB (z1==3) (fun b3 hb3=>?_);refine e0 ?_
  cases b3
  . --
   refine e0 ?_;refine eB (z2==3) (fun b4 hb4=>?_);refine e0 ?_;refine sxEnd (fun W14 hK=>?_)
   cases b4
   . --
    go_upto_region 9 with(fail);refine wp_region_T [0,0,0,0,0,0] hK ?_;clear hK;refine e0 ?_;refine eB (z1 !=0) (fun b5 hb5=>?_);refine e0 ?_
    cases b5
    . --
     refine e0 ?_;refine eB (z2 !=0) (fun b6 hb6=>?_);refine e0 ?_;refine sxEnd (fun W15 hK=>?_)
     cases b6
     . --
      go_upto_region 11 with(fail);refine wp_region_T [0,1,1,2,0,0,4,0] hK ?_;clear hK;refine e0 ?_;refine eL m2 ?_;refine eL m0 ?_;obtain⟨z3,hz3⟩:=nmI (errD (parseVal (secQ l)));refine eC (fun w k=>(by have q:=rat2_S (qmake_any _ _ b1 _ _ w (k.nf m3) (k.nf m1) (by omega) (by omega));rw[hz3.out]at q;exact q)) (fun x17=>?_);obtain⟨⟨p16,l16,c16⟩,⟨q16,u16,d16⟩⟩:=x17;dsimp only
      iterate 2 refine e0 ?_
      refine eP 5 0 [.bool (isN (ofS b1 (parseVal (cutA (noMinus l))) (parseVal (secQ l)))),.slice p16 l16 c16,.slice q16 u16 d16] ?_ (hq:=.inr ⟨rfl,rfl,rfl,rfl,rfl,trivial⟩);refine e0 ?_;refine sxEnd (fun W18 hK=>?_);have⟨c90,c91,c92⟩:=(hK.box m5).c3;go_wp2;exact bodyPost_ret (v:=.tuple #[.agg #[.bool (isN (ofS b1 (parseVal (cutA (noMinus l))) (parseVal (secQ l)))),.slice p16 l16 c16,.slice q16 u16 d16],.int .i64 z3]) (by simp[results,Tryz.results58,go_sem,c90,c91,c92]) rfl (qo hQ0 ⟨_,(by rw[(err_0 rfl hz1.out hz2.out hb5.out hb6.out hz3.out).1]),((congrArg (RatV _ _) (by rw[<-hb1.out];exact(err_0 rfl hz1.out hz2.out hb5.out hb6.out hz3.out).2)).mp (hK.q m0)),hK.old⟩)
     go_upto_region 10 with(fail);refine wp_region_T [0,4,0] hK ?_;clear hK;refine e0 ?_;refine eP 4 0 [.bool false,.slice none 0 0,.slice none 0 0] ?_;refine e0 ?_;refine sxEnd (fun W19 hK=>?_);have⟨c90,c91,c92⟩:=(hK.box m4).c3;go_wp2;exact bodyPost_ret (v:=.tuple #[.agg #[.bool false,.slice none 0 0,.slice none 0 0],.int .i64 6]) (by simp[results,Tryz.results58,go_sem,c90,c91,c92]) rfl (qo hQ0 ⟨_,(by rw[(err_6 rfl hz1.out hz2.out hb3.out hb4.out (.inr hb6.out)).1]),(by rw[(err_6 rfl hz1.out hz2.out hb3.out hb4.out (.inr hb6.out)).2];exact RatV.zero _),hK.old⟩)
    iterate 2 refine eN ?_
    refine e0 ?_;refine sxEnd (fun W20 hK=>?_);go_upto_region 10 with(fail);refine wp_region_T [0,4,0] hK ?_;clear hK;refine e0 ?_;refine eP 4 0 [.bool false,.slice none 0 0,.slice none 0 0] ?_;refine e0 ?_;refine sxEnd (fun W21 hK=>?_);have⟨c90,c91,c92⟩:=(hK.box m4).c3;go_wp2;exact bodyPost_ret (v:=.tuple #[.agg #[.bool false,.slice none 0 0,.slice none 0 0],.int .i64 6]) (by simp[results,Tryz.results58,go_sem,c90,c91,c92]) rfl (qo hQ0 ⟨_,(by rw[(err_6 rfl hz1.out hz2.out hb3.out hb4.out (.inl hb5.out)).1]),(by rw[(err_6 rfl hz1.out hz2.out hb3.out hb4.out (.inl hb5.out)).2];exact RatV.zero _),hK.old⟩)
   go_upto_region 8 with(fail);refine wp_region_T [0,4,0] hK ?_;clear hK;refine e0 ?_;refine eP 4 0 [.bool false,.slice none 0 0,.slice none 0 0] ?_;refine e0 ?_;refine sxEnd (fun W22 hK=>?_);have⟨c90,c91,c92⟩:=(hK.box m4).c3;go_wp2;exact bodyPost_ret (v:=.tuple #[.agg #[.bool false,.slice none 0 0,.slice none 0 0],.int .i64 3]) (by simp[results,Tryz.results58,go_sem,c90,c91,c92]) rfl (qo hQ0 ⟨_,(by rw[(err_3 rfl hz1.out hz2.out (.inr hb4.out)).1]),(by rw[(err_3 rfl hz1.out hz2.out (.inr hb4.out)).2];exact RatV.zero _),hK.old⟩)
  iterate 2 refine eN ?_
  refine e0 ?_;refine sxEnd (fun W23 hK=>?_);go_upto_region 8 with(fail);refine wp_region_T [0,4,0] hK ?_;clear hK;refine e0 ?_;refine eP 4 0 [.bool false,.slice none 0 0,.slice none 0 0] ?_;refine e0 ?_;refine sxEnd (fun W24 hK=>?_);have⟨c90,c91,c92⟩:=(hK.box m4).c3;go_wp2;exact bodyPost_ret (v:=.tuple #[.agg #[.bool false,.slice none 0 0,.slice none 0 0],.int .i64 3]) (by simp[results,Tryz.results58,go_sem,c90,c91,c92]) rfl (qo hQ0 ⟨_,(by rw[(err_3 rfl hz1.out hz2.out (.inl hb3.out)).1]),(by rw[(err_3 rfl hz1.out hz2.out (.inl hb3.out)).2];exact RatV.zero _),hK.old⟩)
set_option maxRecDepth 100000 in
theorem qtext_q(v0:Value)(x:Rat)(w:World)(h0:RatV w v0 x)(hB0:Bas w){k:Nat}(hx:LmQ k x)(hk:k<=10000):
    Calls Tryz.prog 15 #[v0] w fun e w'=>e=.returned (.string ⟨(textQ x).toArray⟩)/\Below w.heap.size w w':=by
  have h0_0:=h0;obtain⟨p_h0,l_h0,c_h0,q_h0,m_h0,d_h0,rfl,h0_1,h0_2⟩:=h0;have hK:=SS.start w;have e1:=dec_len hx.n;have e2:=dec_len hx.d;have ez:(decDigits (den0 x)).length<=18*k+1:=dec_len hx.d0;have e3:=hx.n.len;have e4:=hx.d0.len;obtain⟨b0,hb0⟩:∃b,Hid (isN x=b):=⟨_,hid rfl⟩;rw[hb0.out]at h0_0⊢;obtain⟨sg,hsg⟩:∃s,Hid (s=(if b0 then[45]else[]:List UInt8)):=⟨_,hid rfl⟩;have eb:sg.length<=1:=by rw[hsg.out];cases b0<;>decide
  refine Calls.hide (fun Q0 hQ0=>?_);go_enter Tryz.func15,Tryz.ntmps15;go_upto_region 0 with(fail);refine wp_region_T [3,0] hK ?_;clear hK;refine eA (.cells #[.bool b0,.slice p_h0 l_h0 c_h0,.slice q_h0 m_h0 d_h0] 43) (fun R1=>?_);refine e0 ?_;refine sxEnd (fun W2 hK=>?_);go_upto_region 1 with(fail);refine wp_region_T [0,1,1,0] hK ?_;clear hK;refine e0 ?_;refine eL m0 ?_;refine eQ (fun w k=>ntext_q _ _ w (h0_1.below k.old) (hB0.below k.old) (by omega)) ?_;refine e0 ?_;refine sxEnd (fun W3 hK=>?_);go_upto_region 2 with(fail);refine wp_region_T [0,1] hK ?_;clear hK;refine e0 ?_;refine eL m0 ?_;refine sxEnd (fun W4 hK=>?_);go_upto_if 8 with(fail);go_cut [3]from 9999 to 9999 (fun s3 wl=>s3=.string ⟨(sg++decDigits x.num.natAbs).toArray⟩/\SS w ([bx R1 (.cells #[.bool b0,.slice p_h0 l_h0 c_h0,.slice q_h0 m_h0 d_h0] 43)]) wl)
  case first=>
   cases b0
   . --
    (try go_wp2)
    go_meet
    case rel=>exact⟨(by rw[hsg.out];rfl),hK⟩
   go_upto_region 3 with(fail);refine wp_region_T [0,0,0] hK ?_;clear hK;refine e0 ?_;refine eV (.string ⟨([45]++decDigits x.num.natAbs).toArray⟩) (fun w'=>by go_simp;(try go_bits);rw[if_neg (by omega)];exact⟨congrArg Value.string (str_add _ _),rfl⟩) ?_;refine e0 ?_;refine sxEnd (fun W5 hK=>?_)
   (try go_wp2)
   go_meet
   case rel=>exact⟨(by rw[hsg.out];rfl),hK⟩
  clear hK;obtain⟨rfl,hK⟩:=hcut;generalize wc=W6 at hK⊢;go_upto_region 4 with(fail);refine wp_region_T [0,1,1,0] hK ?_;clear hK;refine e0 ?_;refine eL m0 ?_;obtain⟨b1,hb1⟩:=nmB ((den0 x)==0);refine eQ (v:=.bool b1) (fun w k=>isZero_any _ _ w (h0_2.below k.old)) ?_ (hv:=by rw[hb1.out]);refine e0 ?_;refine sxEnd (fun W7 hK=>?_);go_upto_if 14 with(fail);go_cut [3]from 9999 to 9999 (fun s3 wl=>s3=.string ⟨(textQ x).toArray⟩/\SS w ([bx R1 (.cells #[.bool b0,.slice p_h0 l_h0 c_h0,.slice q_h0 m_h0 d_h0] 43)]) wl)
  case first=>
   cases b1
   . --
    go_upto_region 5 with(fail);refine wp_region_T [0,0,1,1,0,0,0] hK ?_;clear hK
    iterate 2 refine e0 ?_
    refine eL m0 ?_;refine eQ (fun w k=>ntext_q _ _ w (h0_2.below k.old) (hB0.below k.old) (by omega)) ?_;refine eV (.string ⟨([47]++decDigits (den0 x)).toArray⟩) (fun w'=>by go_simp;(try go_bits);rw[if_neg (by omega)];exact⟨congrArg Value.string (str_add _ _),rfl⟩) ?_;refine eV (.string ⟨((sg++decDigits x.num.natAbs)++([47]++decDigits (den0 x))).toArray⟩) (fun w'=>by go_simp;(try go_bits);rw[if_neg (by omega)];exact⟨congrArg Value.string ((str_add _ _).trans (by simp)),rfl⟩) ?_;refine e0 ?_;refine sxEnd (fun W8 hK=>?_)
    (try go_wp2)
    go_meet
    case rel=>exact⟨(by rw[textQ_eq hb0.out hb1.out,hsg.out];simp[]),hK⟩
   (try go_wp2)
   go_meet
   case rel=>exact⟨(by rw[textQ_eq hb0.out hb1.out,hsg.out];simp[]),hK⟩
  clear hK;obtain⟨rfl,hK⟩:=hcut;generalize wc=W9 at hK⊢;go_wp2
  try go_ret
  show Q0 (.returned (.string ⟨(textQ x).toArray⟩)) _
  exact(qo hQ0 ⟨rfl,hK.old⟩)
set_option maxRecDepth 100000 in
theorem rtext_q(v0:Value)(x:Rat)(w:World)(h0:RefR w v0 x) {k:Nat}(hx:LmQ k x)(hk:k<=10000):
    Calls Tryz.prog 55 #[v0] w fun e w'=>e=.returned (.string ⟨(textQ x).toArray⟩)/\Below w.heap.size w w':=by
  have h0_0:=h0;obtain⟨p_h0,c_h0,q_h0,d_h0,rfl,h0_1,h0_2⟩:=h0.slr;have hK:=SS.start w;have e1:=dec_len hx.n;have e2:=dec_len hx.d;have ez:(decDigits (den0 x)).length<=18*k+1:=dec_len hx.d0;have e3:=hx.n.len;have e4:=hx.d0.len;have e5:(decDigits (numQ x)).length<=18*k+1:=e1;have e6:(digs B6 (numQ x)).length<=2*k:=hx.n.len6;have e7:(digs B6 (den0 x)).length<=2*k:=hx.d0.len6;obtain⟨b0,hb0⟩:∃b,Hid (isN x=b):=⟨_,hid rfl⟩;rw[hb0.out]at h0_0⊢;obtain⟨sg,hsg⟩:∃s,Hid (s=(if b0 then[45]else[]:List UInt8)):=⟨_,hid rfl⟩;have eb:sg.length<=1:=by rw[hsg.out];cases b0<;>decide
  refine Calls.hide (fun Q0 hQ0=>?_);go_enter Tryz.func55,Tryz.ntmps55;go_upto_region 0 with(fail);refine wp_region_T [3,0] hK ?_;clear hK;refine eA (.cells #[.bool b0,.slice p_h0 (digs B6 (numQ x)).length c_h0,.slice q_h0 (digs B6 (den0 x)).length d_h0] 53) (fun R1=>?_);refine e0 ?_;refine sxEnd (fun W2 hK=>?_);go_upto_region 1 with(fail);refine wp_region_T [0,1,1,0] hK ?_;clear hK;refine e0 ?_;refine eL m0 ?_;refine eQ (fun w k=>rtext_any _ _ w (h0_1.below k.old) (by omega) (by omega)) ?_;refine e0 ?_;refine sxEnd (fun W3 hK=>?_);go_upto_region 2 with(fail);refine wp_region_T [0,1] hK ?_;clear hK;refine e0 ?_;refine eL m0 ?_;refine sxEnd (fun W4 hK=>?_);go_upto_if 8 with(fail);go_cut [3]from 9999 to 9999 (fun s3 wl=>s3=.string ⟨(sg++decDigits (numQ x)).toArray⟩/\SS w ([bx R1 (.cells #[.bool b0,.slice p_h0 (digs B6 (numQ x)).length c_h0,.slice q_h0 (digs B6 (den0 x)).length d_h0] 53)]) wl)
  case first=>
   cases b0
   . --
    (try go_wp2)
    go_meet
    case rel=>exact⟨(by rw[hsg.out];rfl),hK⟩
   go_upto_region 3 with(fail);refine wp_region_T [0,0,0] hK ?_;clear hK;refine e0 ?_;refine eV (.string ⟨([45]++decDigits (numQ x)).toArray⟩) (fun w'=>by go_simp;(try go_bits);rw[if_neg (by omega)];exact⟨congrArg Value.string (str_add _ _),rfl⟩) ?_;refine e0 ?_;refine sxEnd (fun W5 hK=>?_)
   (try go_wp2)
   go_meet
   case rel=>exact⟨(by rw[hsg.out];rfl),hK⟩
  clear hK;obtain⟨rfl,hK⟩:=hcut;generalize wc=W6 at hK⊢;go_upto_region 4 with(fail);refine wp_region_T [0,1,0,0] hK ?_;clear hK;refine e0 ?_;refine eL m0 ?_;refine e0 ?_;refine eB (decide (0<(((digs B6 (den0 x)).length:Int)))) (fun b1 hb1=>?_);refine sxEnd (fun W7 hK=>?_);go_upto_if 14 with(fail);go_cut [3]from 9999 to 9999 (fun s3 wl=>s3=.string ⟨(textQ x).toArray⟩/\SS w ([bx R1 (.cells #[.bool b0,.slice p_h0 (digs B6 (numQ x)).length c_h0,.slice q_h0 (digs B6 (den0 x)).length d_h0] 53)]) wl)
  case first=>
   cases b1
   . --
    have q_b1:=nlt hb1
    (try go_wp2)
    go_meet
    case rel=>exact⟨(by rw[textQ_eq2 hb0.out hb1.out,hsg.out];simp[numQ]),hK⟩
   have q_b1:=ylt hb1;go_upto_region 5 with(fail);refine wp_region_T [0,0,1,1,0,0,0] hK ?_;clear hK
   iterate 2 refine e0 ?_
   refine eL m0 ?_;refine eQ (fun w k=>rtext_any _ _ w (h0_2.below k.old) (by omega) (by omega)) ?_;refine eV (.string ⟨([47]++decDigits (den0 x)).toArray⟩) (fun w'=>by go_simp;(try go_bits);rw[if_neg (by omega)];exact⟨congrArg Value.string (str_add _ _),rfl⟩) ?_;refine eV (.string ⟨((sg++decDigits (numQ x))++([47]++decDigits (den0 x))).toArray⟩) (fun w'=>by go_simp;(try go_bits);rw[if_neg (by omega)];exact⟨congrArg Value.string ((str_add _ _).trans (by simp)),rfl⟩) ?_;refine e0 ?_;refine sxEnd (fun W8 hK=>?_)
   (try go_wp2)
   go_meet
   case rel=>exact⟨(by rw[textQ_eq2 hb0.out hb1.out,hsg.out];simp[numQ]),hK⟩
  clear hK;obtain⟨rfl,hK⟩:=hcut;generalize wc=W9 at hK⊢;go_wp2
  try go_ret
  show Q0 (.returned (.string ⟨(textQ x).toArray⟩)) _
  exact(qo hQ0 ⟨rfl,hK.old⟩)
end
section

end
section

end
section
structure NumS where
  neg:Bool
  ds:List Nat
  es:List Nat
def NumV(W:World)(v:Value)(n:NumS):Prop:= ∃nv dv,v=.agg #[.bool n.neg,nv,dv]/\InV W nv n.ds/\InV W dv n.es
theorem NumV.below{W W':World}{v:Value}{n:NumS}(h:NumV W v n)(hb:Below W.heap.size W W'):NumV W' v n:=by
  obtain⟨nv,dv,rfl,h1,h2⟩:=h;exact⟨nv,dv,rfl,h1.below hb,h2.below hb⟩
theorem NumV.sl{W:World}{v:Value}{n:NumS}(h:NumV W v n):∃p c q d,v=.agg #[.bool n.neg,.slice p n.ds.length c,.slice q n.es.length d]/\InV W (.slice p n.ds.length c) n.ds/\InV W (.slice q n.es.length d) n.es:=by
  obtain⟨nv,dv,rfl,h1,h2⟩:=h;obtain⟨p,c,rfl,_⟩:=h1.slice;obtain⟨q,d,rfl,_⟩:=h2.slice;exact⟨p,c,q,d,rfl,h1,h2⟩
structure NumOk(n:NumS):Prop where
  d:∀d∈n.ds,d<B32
  e:∀d∈n.es,d<B32
  l:n.ds.length<=8
  m:n.es.length<=8
def numX(n:NumS):Rat:=ofS n.neg (val B32 n.ds) (one0 (val B32 n.es))
theorem one0_ne(z:Nat):one0 z≠0:=by unfold one0;split<;>omega
theorem val_lm{ds:List Nat}{k:Nat}(h:∀d∈ds,d<B32)(hk:ds.length<=k):Lm k (val B32 ds):=Nat.lt_of_lt_of_le (val_lt b32_2 h) (Nat.pow_le_pow_right (by decide) hk)
theorem one0_lm{k z:Nat}(h:Lm k z)(hk:1<=k):Lm k (one0 z):=by
  unfold one0
  split
  . exact Lm.one.up hk
  exact h
theorem NumOk.lm{n:NumS}(h:NumOk n):LmQ 8 (numX n):=.ofS _ (val_lm h.d h.l) (one0_lm (val_lm h.e h.m) (by decide)) (one0_ne _)
theorem textQ_short{x:Rat}(h:LmQ 50 x):(decDigits x.num.natAbs).length<=1000/\(decDigits x.den).length<=1000:=⟨Nat.le_trans (dec_len h.n) (by decide),Nat.le_trans (dec_len h.d) (by decide)⟩
theorem textQ_len{x:Rat}(h:LmQ 50 x):(textQ x).length<=2002:=by
  have:=textQ_short h;unfold textQ
  split<;>split<;>simp<;>omega
theorem qparse_back(x:Rat)(w:World)(hB:Bas w)(hx:LmQ 50 x):
    Calls Tryz.prog 58 #[.string ⟨(textQ x).toArray⟩] w fun e w'=> ∃y0,e=.returned (.tuple #[y0,.int .i64 0])/\RatV w' y0 x/\Below w.heap.size w w':=by
  have h:=parse_text x (textQ_short hx).1 (textQ_short hx).2;have c:=qparse_q (textQ x) w hB (by have:=textQ_len hx;omega)
  rwa [h.1,h.2]at c
end
section
theorem take_snoc{l:List Rat}{m:Nat}{x:Rat}(h:l[m]?=some x):l.take m++[x]=l.take (m+1):=by rw[List.take_add_one,h];rfl
theorem take_len{l:List Rat}{m:Nat}(h:m<=l.length):(l.take m).length=m:=by rw[List.length_take];omega
abbrev slcQ:EK Sl:=slcK
theorem infoSQ:(Tryz.prog.info? 34).map (fun i=>(i.zero,i.size,i.bytes))=some (some (.slice none 0 0),slcQ.sz,24):=by kernel_rfl
structure RsS where
  x:Sl
  y:Sl
  r:Sl
  d:Sl
  e:Sl
instance :Nonempty RsS:=⟨⟨⟨none,0,0⟩,⟨none,0,0⟩,⟨none,0,0⟩,⟨none,0,0⟩,⟨none,0,0⟩⟩⟩
def RsS.v(a:RsS)(R:LpRes):Value:=.agg #[.int .i64 R.k,.slice a.x.p a.x.l a.x.c,.slice a.y.p a.y.l a.y.c,.slice a.r.p a.r.l a.r.c,.bool (isN R.z),.slice a.d.p a.d.l a.d.c,.slice a.e.p a.e.l a.e.c]
def rsl(a:RsS)(R:LpRes):List Ft:=[rO refK 53 a.x.p a.x.l a.x.c R.x,rO refK 53 a.y.p a.y.l a.y.c R.y,rO refK 53 a.r.p a.r.l a.r.c R.r,rF (.agg #[.bool (isN R.z),.slice a.d.p a.d.l a.d.c,.slice a.e.p a.e.l a.e.c]) R.z]
theorem rsl_ln{a:RsS}{R:LpRes}:∀f∈rsl a R,∀n,f.ln.contains n=true->([1]:List Nat).contains n=true:=fun f hf n hn=>by
  unfold rsl at hf;simp only[List.mem_cons,List.not_mem_nil,or_false]at hf
  rcases hf with rfl|rfl|rfl|rfl<;>exact hn
def rsR(a:RsS)(R:LpRes):Ft:=stF [1] (rsl a R) rsl_ln
instance {a:RsS}{R:LpRes}:Zs (rsR a R):=.st fun f hf=>by
  unfold rsl at hf;simp only[List.mem_cons,List.not_mem_nil,or_false]at hf
  rcases hf with rfl|rfl|rfl|rfl<;>infer_instance
section
variable {V w:World}{l:List Ft}{a:RsS}{R:LpRes}
theorem SS.rs(h:SS V l w)(hm:rsR a R∈l):SlV refK w (.slice a.x.p a.x.l a.x.c) R.x/\SlV refK w (.slice a.y.p a.y.l a.y.c) R.y/\SlV refK w (.slice a.r.p a.r.l a.r.c) R.r/\RefR w (.agg #[.bool (isN R.z),.slice a.d.p a.d.l a.d.c,.slice a.e.p a.e.l a.e.c]) R.z:=by
  obtain⟨h1,_⟩:=h.get hm;have h2:OwV refK _ 0 w (.slice a.x.p a.x.l a.x.c) R.x:=h1 _ m0;have h3:OwV refK _ 0 w (.slice a.y.p a.y.l a.y.c) R.y:=h1 _ m1;have h4:OwV refK _ 0 w (.slice a.r.p a.r.l a.r.c) R.r:=h1 _ m2;exact⟨h2.slv,h3.slv,h4.slv,h1 _ m3⟩
end
set_option maxRecDepth 100000 in
theorem numbers_any(w:World){p_h0:Option Addr}{n_h0 c_h0:Nat}{l:List Rat}(hh0:SlV refK w (.slice p_h0 n_h0 c_h0) l)(hB:Bas w)(hl:LmL 50 l)(hn:l.length<=100000):
    Calls Tryz.prog 22 #[.slice p_h0 n_h0 c_h0] w fun e w'=> ∃s:Sl,e=.returned (.slice s.p s.l s.c)/\SS w [rO ratK 43 s.p s.l s.c l] w':=by
  have hK:=SS.start w;have⟨n1,n2⟩:=lle hh0.one0;refine Calls.hide (fun Q0 hQ0=>?_);go_enter Tryz.func22,Tryz.ntmps22;replace hK:=hK.fact (rO ratK 43 none 0 0 (l.take 0)) OwV.nil (fun _ h=>by cases h);go_wp2_with fail;go_loopw [3,4] (fun s3 s4 wl=> ∃(m:Nat) (p:Option Addr) (n:Nat) (c:Nat),s3=.slice p n c/\s4=.int .i64 (m:Int)/\(m<=l.length)/\Hid (l.take m=[]->p=none)/\SS w ([rO ratK 43 p n c (l.take m)]) wl) (fun s3 s4 _=>n_h0-(intOf s4).toNat)
  case atStart=>exact⟨0,none,0,0,rfl,rfl,(by omega),hid (fun _=>rfl),hK⟩
  clear hK;obtain⟨m,p,n,c,rfl,rfl,hm0,h_e,hK⟩:=hrel;generalize wr=W1 at hK⊢;go_upto_region 3 with(fail);refine wp_region_T [0,0,0,0] hK ?_;clear hK
  iterate 3 refine e0 ?_
  refine eB (decide (((m:Int))<((n_h0:Int)))) (fun b1 hb1=>?_);refine sxEnd (fun W2 hK=>?_)
  cases b1
  . --
   have q_b1:=nlt hb1;have hme:m=l.length:=(by omega);rw[hme,List.take_length]at hK;clear hme;go_wp2
   try go_ret
   show Q0 (.returned (.slice p n c)) _
   exact(qo hQ0 ⟨⟨p,n,c⟩,rfl,hK⟩)
  have q_b1:=ylt hb1;have i3:m<n_h0:=(by omega);obtain⟨g3,o3,rfl⟩:=hh0.pt i3;have l3:m<l.length:=Nat.lt_of_lt_of_eq i3 (hh0.one0);obtain⟨x,ex⟩:=gtH l3;obtain⟨_,_,_,x_c,x_r⟩:=hh0.ref ex.out;obtain⟨rfl,⟨x_p,x_n,x_d,rfl⟩,x_q,x_m,x_e,rfl⟩:=refR_cells x_r;go_upto_region 5 with(fail);refine wp_region_T [0,0,0,0,1,2,0,0,0,3,4,0] hK ?_;clear hK
  iterate 3 refine e0 ?_
  refine eRm3 (fun w k=>x_c.below k.old) ?_;refine eQ (fun w k=>rtext_q _ _ w (x_r.below k.old) (hl x (List.mem_of_getElem? ex.out)) (by decide)) ?_;refine eC (fun w k=>rat2_S (qparse_back x w (hB.below k.old) (hl x (List.mem_of_getElem? ex.out)))) (fun x4=>?_);obtain⟨⟨p5,l5,c5⟩,⟨q5,u5,d5⟩⟩:=x4;dsimp only
  iterate 3 refine e0 ?_
  refine eA (.cells #[.bool false,.slice none 0 0,.slice none 0 0] 43) (fun R6=>?_);refine eP 0 0 [.bool (isN (x)),.slice p5 l5 c5,.slice q5 u5 d5] ?_ (hq:=.inr ⟨rfl,rfl,trivial⟩);refine e0 ?_;refine sxEnd (fun W7 hK=>?_);go_upto_region 6 with(fail);refine wp_region_T [0,1,3,5,0] hK ?_;clear hK;refine e0 ?_;refine eL m0 ?_;refine eA (.cells #[.bool (isN (x)),.slice p5 l5 c5,.slice q5 u5 d5] 43) (fun R8=>?_);refine eAppK 2 ratK_hd rfl 3 h_e.out rfl infoQ (fun w k=>k.one1 (K:=ratK) (x:=x) m0 ⟨_,_,_,rfl,k.q m2⟩) (by rw[take_len (by omega)];simp;omega) (fun x9=>?_);obtain⟨p9,n9,c9⟩:=x9;dsimp only;refine e0 ?_;refine sxEnd (fun W10 hK=>?_);rw[show(l.take m)++[x]=l.take (m+1)from(take_snoc ex.out)]at hK
  (try go_wp2)
  go_roundw
  case rel=>exact⟨m+1,p9,n9,c9,(by first|rfl|go_num),(by first|rfl|go_num),(by omega),hid (fun e=>absurd (congrArg List.length e) (by rw[take_len (by omega)];simp)),(hK.subl (sC2 (sC2 (sC2 (sR)))))⟩
  case measure=>simp[intOf]<;>omega
end
section
theorem take_snocA{l:List (List Rat)}{m:Nat}{x:List Rat}(h:l[m]?=some x):l.take m++[x]=l.take (m+1):=by rw[List.take_add_one,h];rfl
set_option maxRecDepth 100000 in
set_option maxHeartbeats 400000 in
theorem program_any(w:World){cp ap bp:Option Addr}{cl cc al ac bl bc:Nat}{P:LPd}(hC:SlV refK w (.slice cp cl cc) P.c)(hA:SlV rfK w (.slice ap al ac) P.A)(hB:SlV refK w (.slice bp bl bc) P.b)(hBs:Bas w)(hm:LmP 50 P)(hP:P.Ok):
    Calls Tryz.prog 9 #[.agg #[.slice cp cl cc,.slice ap al ac,.slice bp bl bc]] w fun e w'=> ∃z:PgR,e=.returned z.v/\SS w [pgF ratK 43 34 z P] w':=by
  have hK:=SS.start w;have⟨nc1,nc2⟩:=lle hC.one0;have⟨na1,na2⟩:=lle hA.one0;have⟨nb1,nb2⟩:=lle hB.one0;have hm1:=hm.n;have hm2:=hm.m;have hb9:=hid hP.hb;have hbl:P.b.length<=12:=by rw[hP.hb];exact hm2
  have hlr:∀a∈P.A,a.length<=12:=fun a ha=>by rw[hP.ha a ha];exact hm1
  refine Calls.hide (fun Q0 hQ0=>?_);go_enter Tryz.func9,Tryz.ntmps9;go_upto_region 0 with(fail);refine wp_region_T [3,3] hK ?_;clear hK;refine eA (.cells #[.slice cp cl cc,.slice ap al ac,.slice bp bl bc] 32) (fun R1=>?_);refine eA (.cells #[.slice none 0 0,.slice none 0 0,.slice none 0 0] 37) (fun R2=>?_);refine sxEnd (fun W3 hK=>?_);go_upto_region 1 with(fail);refine wp_region_S _ [0,0,2,0,0,2,0,3,4] hK ?_ (sR);clear hK;refine e0 ?_;refine eL0 m1 ?_;refine eC (fun w k=>numbers_any w (hC.below k.old) (hBs.below k.old) hm.c (by omega)) (fun x4=>?_);obtain⟨px4,lx4,cx4⟩:=x4;dsimp only;refine e0 ?_;refine eL0 m1 ?_;refine eC (fun w k=>numbers_any w (hB.below k.old) (hBs.below k.old) hm.b (by omega)) (fun x5=>?_);obtain⟨px5,lx5,cx5⟩:=x5;dsimp only;refine e0 ?_;refine eA (.cells #[.slice none 0 0,.slice none 0 0,.slice none 0 0] 37) (fun R6=>?_);refine eP 0 0 [.slice px4 lx4 cx4,.slice none 0 0,.slice px5 lx5 cx5] ?_ (hs:=(sC2 (sC2 (sC2 (sR))))) (hq:=.inr ⟨rfl,rfl,rfl,rfl,trivial⟩);refine sxEnd (fun W7 hK=>?_);replace hK:=hK.fact (rO slcQ 34 none 0 0 ([]:List Sl)) OwV.nil (fun _ h=>by cases h);replace hK:=hK.rs0 ratK 43;go_wp2_with fail;go_loopw [4] (fun s4 wl=> ∃(m:Nat) (pa:Option Addr) (na:Nat) (ca:Nat) (ss:List Sl),s4=.int .i64 (m:Int)/\(m<=P.A.length)/\Hid (ss.length=(P.A.take m).length)/\Hid (ss=[]->pa=none)/\SS w ([rsF ratK 43 ss (P.A.take m),rO slcQ 34 pa na ca ss,bx R6 (.cells #[.slice px4 lx4 cx4,.slice pa na ca,.slice px5 lx5 cx5] 37),rO ratK 43 px5 lx5 cx5 P.b,rO ratK 43 px4 lx4 cx4 P.c,bx R2 (.cells #[.slice none 0 0,.slice none 0 0,.slice none 0 0] 37),bx R1 (.cells #[.slice cp cl cc,.slice ap al ac,.slice bp bl bc] 32)]) wl) (fun s4 _=>al-(intOf s4).toNat)
  case atStart=>exact⟨0,none,0,0,[],rfl,(by omega),hid rfl,hid (fun _=>rfl),hK⟩
  clear hK;obtain⟨m,pa,na,ca,ss,rfl,hm0,h_l,h_a,hK⟩:=hrel;generalize wr=W8 at hK⊢;go_upto_region 3 with(fail);refine wp_region_T [0,0,1,0,0] hK ?_;clear hK
  iterate 2 refine e0 ?_
  refine eL m6 ?_;refine e0 ?_;refine eB (decide (((m:Int))<((al:Int)))) (fun b1 hb1=>?_);refine sxEnd (fun W9 hK=>?_)
  cases b1
  . --
   have q_b1:=nlt hb1;go_upto_region 6 with(fail);refine wp_region_T [1,4] hK ?_;clear hK;refine eL m2 ?_;refine eP 5 0 [.slice px4 lx4 cx4,.slice pa na ca,.slice px5 lx5 cx5] ?_ (hq:=.inr ⟨rfl,rfl,rfl,rfl,rfl,rfl,trivial⟩);refine sxEnd (fun W10 hK=>?_);have hme:m=P.A.length:=(by omega);rw[hme,List.take_length]at hK h_l;clear hme;have hl9:=h_l.out;have⟨c90,c91,c92⟩:=(hK.box m5).c3;replace hK:=hK.subl (sK2 (sK2 (sC2 (sK2 (sK2 (sC2 (sC2 sZ2)))))));replace hK:=hK.up2;replace hK:=hK.up1;replace hK:=hK.up2;replace hK:=hK.up3;go_wp2;exact bodyPost_ret (v:=.agg #[.slice px4 lx4 cx4,.slice pa na ca,.slice px5 lx5 cx5]) (by simp[results,Tryz.results9,go_sem,c90,c91,c92]) rfl (qo hQ0 ⟨⟨⟨px4,lx4,cx4⟩,⟨pa,na,ca⟩,⟨px5,lx5,cx5⟩,ss⟩,rfl,SS.star.2 (hK.fact (cF (ss.length=P.A.length)) hl9)⟩)
  have q_b1:=ylt hb1;have i11:m<al:=(by omega);obtain⟨g11,o11,rfl⟩:=hA.pt i11;have l11:m<P.A.length:=Nat.lt_of_lt_of_eq i11 (hA.one0);obtain⟨a,ea⟩:=gtH l11;obtain⟨⟨a_p,a_l,a_c⟩,a_h,a_s⟩:=hA.row ea.out;dsimp only at a_h a_s;have a_n:=hid a_s.one0;have⟨a_n1,a_n2⟩:=lle a_n.out;have hla:=hid (hlr a (List.mem_of_getElem? ea.out));go_upto_region 5 with(fail);refine wp_region_S _ [0,1,0,0,0,0,0,2,3,5,0,4] hK ?_ (sK2 (sC2 (sC2 (sR))));clear hK;refine e0 ?_;refine eL m2 ?_;refine e0 ?_;refine eL0 m4 ?_
  iterate 2 refine e0 ?_
  refine eR0 (fun w k=>celB a_h k.old) ?_;refine eC (fun w k=>numbers_any w (a_s.below k.old) (hBs.below k.old) (hm.a _ (List.mem_of_getElem? ea.out)) (by have q:=hlr a (List.mem_of_getElem? ea.out);omega)) (fun x12=>?_);obtain⟨px12,lx12,cx12⟩:=x12;dsimp only;refine eA (.cells #[.slice px12 lx12 cx12] 34) (fun R13=>?_);refine eAppK 3 slcR_hd rfl 3 h_a.out rfl infoSQ (fun w k=>k.one1 (K:=slcQ) (x:=⟨px12,lx12,cx12⟩) m0 rfl) (by rw[h_l.out,List.length_take];simp;omega) (fun x14=>?_) (hs:=fun _=>(sC2 (sC2 (sK2 (sC2 (sC2 (sR)))))));obtain⟨p14,n14,c14⟩:=x14;dsimp only;refine e0 ?_;refine eP 4 1 [.slice p14 n14 c14] ?_ (hs:=(sC2 (sC2 (sK2 (sC2 (sC2 (sR))))))) (hq:=.inr ⟨rfl,rfl,rfl,rfl,rfl,rfl,rfl,rfl,trivial⟩);refine sxEnd (fun W15 hK=>?_);replace hK:=hK.up2;replace hK:=hK.up2;replace hK:=SS.rsN (s:=⟨px12,lx12,cx12⟩) (xs:=a) hK h_l.out;rw[show(P.A.take m)++[a]=P.A.take (m+1)from(take_snocA ea.out)]at hK
  (try go_wp2)
  go_roundw
  case rel=>exact⟨m+1,p14,n14,c14,ss++[⟨px12,lx12,cx12⟩],(by first|rfl|go_num),(by omega),hid (by rw[List.length_append,h_l.out,List.length_take,List.length_take];show min m _+1=_;omega),hid (fun e=>absurd (congrArg List.length e) (by simp)),(hK.subl (sK2 (sC2 (sR))))⟩
  case measure=>simp[intOf]<;>omega
end
section
set_option maxRecDepth 100000 in
set_option maxHeartbeats 400000 in
theorem qnatural_any(w:World){p_h0:Option Addr}{n_h0 c_h0:Nat}{xs:List Rat}(hh0:SlV ratK w (.slice p_h0 n_h0 c_h0) xs)(n:Nat)(hb0:n_h0<=100000):
    Calls Tryz.prog 62 #[.slice p_h0 n_h0 c_h0,.int .i64 (n:Int)] w fun e w'=>e=.returned (.bool (nnB xs&&decide (xs.length=n)))/\Below w.heap.size w w':=by
  have hK:=SS.start w;have⟨nx1,nx2⟩:=lle hh0.one0;refine Calls.hide (fun Q0 hQ0=>?_);go_enter Tryz.func62,Tryz.ntmps62;go_wp2_with fail;go_loopw [9] (fun s9 wl=> ∃(m:Nat),s9=.int .i64 (m:Int)/\(m<=n_h0)/\Hid (allN (nnP xs) m=true)/\SS w ([]) wl) (fun s9 _=>n_h0-(intOf s9).toNat)
  case atStart=>exact⟨0,rfl,(by omega),hid rfl,hK⟩
  clear hK;obtain⟨m,rfl,hm0,h_o,hK⟩:=hrel;generalize wr=W1 at hK⊢;go_upto_region 2 with(fail);refine wp_region_T [0] hK ?_;clear hK;refine eB (decide (((m:Int))<((n_h0:Int)))) (fun b1 hb1=>?_);refine sxEnd (fun W2 hK=>?_)
  cases b1
  . --
   have q_b1:=nlt hb1;go_upto_region 7 with(fail);refine wp_region_T [0,0,0,0,0] hK ?_;clear hK
   iterate 3 refine e0 ?_
   refine eB (((n_h0:Int))==((n:Int))) (fun b2 hb2=>?_);refine e0 ?_;refine sxEnd (fun W3 hK=>?_);go_wp2
   try go_ret
   show Q0 (.returned (.bool b2)) _
   exact(qo hQ0 ⟨(by unfold nnB;rw[show xs.length=m from(by omega),h_o.out, <-hb2.out,Bool.true_and];congr 1;congr 1;rw[Bool.eq_iff_iff];simp;omega),hK.old⟩)
  have q_b1:=ylt hb1;have i4:m<n_h0:=(by omega);obtain⟨g4,o4,rfl⟩:=hh0.pt i4;have l4:m<xs.length:=Nat.lt_of_lt_of_eq i4 (hh0.one0);obtain⟨xa,exa⟩:=gtH l4;obtain⟨_,_,_,xa_c,xa_r⟩:=hh0.rat exa.out;obtain⟨rfl,⟨xa_p,xa_n,xa_d,rfl⟩,xa_q,xa_m,xa_e,rfl⟩:=ratV_cells' xa_r;go_upto_region 3 with(fail);refine wp_region_T [0,0,3,4] hK ?_;clear hK;refine e0 ?_;refine eRm3 (fun w k=>xa_c.below k.old) ?_;refine eA (.cells #[.bool false,.slice none 0 0,.slice none 0 0] 43) (fun R5=>?_);refine eP 0 0 [.bool (isN xa),.slice xa_p xa_n xa_d,.slice xa_q xa_m xa_e] ?_;refine sxEnd (fun W6 hK=>?_);go_upto_region 4 with(fail);refine wp_region_T [1,1,0] hK ?_;clear hK;refine eL m0 ?_;obtain⟨z1,hz1⟩:=nmI (sgQ (xa));refine eQ (v:=.int .i64 z1) (fun w k=>sign_any _ _ w (xa_r.below k.old)) ?_ (hv:=by rw[hz1.out]);refine eB (decide (z1<0)) (fun b2 hb2=>?_);refine sxEnd (fun W7 hK=>?_)
  cases b2
  . --
   have q_b2:=nlt hb2
   (try go_wp2)
   go_roundw
   case rel=>exact⟨m+1,(by first|rfl|go_num),(by omega),hid (allN_step h_o.out (nn_at exa.out hz1.out q_b2)),(hK.subl (sC2 sZ2))⟩
   case measure=>simp[intOf]<;>omega
  have q_b2:=ylt hb2;go_wp2
  try go_ret
  show Q0 (.returned (.bool false)) _
  exact(qo hQ0 ⟨(by rw[nn_no (by omega) exa.out hz1.out q_b2];rfl),hK.old⟩)
set_option maxRecDepth 100000 in
theorem mulat_any(w:World){xp yp:Option Addr}{xl xc yl yc:Nat}{xs ys:List Rat}(k:Nat){Ba:Nat}{Bb:Nat}(hX:SlV ratK w (.slice xp xl xc) xs)(hY:SlV ratK w (.slice yp yl yc) ys)(hBa:Has 0 Ba (.cells #[.slice xp xl xc] 34) w)(hBb:Has 0 Bb (.cells #[.slice yp yl yc] 34) w)(hk1:k<xs.length)(hk2:k<ys.length){j:Nat}(hx:LmL j xs)(hy:LmL j ys)(hj2:j<=4000):
    Calls Tryz.prog 102 #[.int .i64 (k:Int),.pointer (some ⟨Ba,0,none⟩),.pointer (some ⟨Bb,0,none⟩)] w fun e w'=> ∃x:Duo Sl Sl,e=.returned (.agg #[.bool (isN (xs.getD k 0*ys.getD k 0)),.slice x.a.p x.a.l x.a.c,.slice x.b.p x.b.l x.b.c])/\SS w [qF (.agg #[.bool (isN (xs.getD k 0*ys.getD k 0)),.slice x.a.p x.a.l x.a.c,.slice x.b.p x.b.l x.b.c]) (xs.getD k 0*ys.getD k 0)] w':=by
  have hK:=SS.start w;have⟨nx1,nx2⟩:=lle hX.one0;have⟨ny1,ny2⟩:=lle hY.one0;refine Calls.hide (fun Q0 hQ0=>?_);go_enter Tryz.func102,Tryz.ntmps102;go_upto_region 0 with(fail);refine wp_region_T [3] hK ?_;clear hK;refine eA (.cells #[.bool false,.slice none 0 0,.slice none 0 0] 43) (fun R1=>?_);refine sxEnd (fun W2 hK=>?_);have i3:k<xl:=(by omega);obtain⟨g3,o3,rfl⟩:=hX.pt i3;have l3:k<xs.length:=Nat.lt_of_lt_of_eq i3 (hX.one0);obtain⟨x,ex⟩:=gtH l3;obtain⟨_,_,_,x_c,x_r⟩:=hX.rat ex.out;obtain⟨rfl,⟨x_p,x_n,x_d,rfl⟩,x_q,x_m,x_e,rfl⟩:=ratV_cells' x_r;have i4:k<yl:=(by omega);obtain⟨g4,o4,rfl⟩:=hY.pt i4;have l4:k<ys.length:=Nat.lt_of_lt_of_eq i4 (hY.one0);obtain⟨y,ey⟩:=gtH l4;obtain⟨_,_,_,y_c,y_r⟩:=hY.rat ey.out;obtain⟨rfl,⟨y_p,y_n,y_d,rfl⟩,y_q,y_m,y_e,rfl⟩:=ratV_cells' y_r;go_upto_region 1 with(fail);refine wp_region_S _ [0,0,0,0,0,0,0,0,2,4] hK ?_ (sC2 sZ2);clear hK;refine eX0 (fun w k=>hBa.below k.old) ?_
  iterate 2 refine e0 ?_
  refine eRm3 (fun w k=>x_c.below k.old) ?_;refine eX0 (fun w k=>hBb.below k.old) ?_
  iterate 2 refine e0 ?_
  refine eRm3 (fun w k=>y_c.below k.old) ?_;refine eC (fun w k=>rat_S (qmul_any _ _ _ _ w (x_r.below k.old) (y_r.below k.old) ((hx x (List.mem_of_getElem? ex.out)).up hj2) ((hy y (List.mem_of_getElem? ey.out)).up hj2) (by decide))) (fun x5=>?_);obtain⟨⟨p6,l6,c6⟩,⟨q6,u6,d6⟩⟩:=x5;dsimp only;refine eP 1 0 [.bool (isN (x*y)),.slice p6 l6 c6,.slice q6 u6 d6] ?_ (hs:=(sC2 (sC2 sZ2))) (hq:=.inr ⟨rfl,trivial⟩);refine sxEnd (fun W7 hK=>?_);rw[show x*y=xs.getD k 0*ys.getD k 0 from(by rw[getD_of ex.out,getD_of ey.out])]at hK;have⟨c90,c91,c92⟩:=(hK.box m1).c3;replace hK:=hK.subl (sK2 (sC2 sZ2));go_wp2;exact bodyPost_ret (v:=.agg #[.bool (isN (xs.getD k 0*ys.getD k 0)),.slice p6 l6 c6,.slice q6 u6 d6]) (by simp[results,Tryz.results102,go_sem,c90,c91,c92]) rfl (qo hQ0 ⟨⟨⟨p6,l6,c6⟩,⟨q6,u6,d6⟩⟩,rfl,hK⟩)
theorem dotQ_tk{xs ys:List Rat}{k:Nat}(h1:k<xs.length)(h2:k<ys.length):dotQ (xs.take k) (ys.take k)+xs.getD k 0*ys.getD k 0=dotQ (xs.take (k+1)) (ys.take (k+1)):=by
  have hx:xs[k]?=some xs[k]:=List.getElem?_eq_getElem h1;have hy:ys[k]?=some ys[k]:=List.getElem?_eq_getElem h2;rw[getD_of hx,getD_of hy,dotQ_take hx hy]
theorem lm_mulat{xs ys:List Rat}{j k:Nat}(hx:LmL j xs)(hy:LmL j ys)(h1:k<xs.length)(h2:k<ys.length):LmQ (j+j) (xs.getD k 0*ys.getD k 0):=by
  have hx1:xs[k]?=some xs[k]:=List.getElem?_eq_getElem h1;have hy1:ys[k]?=some ys[k]:=List.getElem?_eq_getElem h2;rw[getD_of hx1,getD_of hy1];exact LmQ.mul (hx _ (List.getElem_mem h1)) (hy _ (List.getElem_mem h2))
set_option maxRecDepth 100000 in
set_option maxHeartbeats 400000 in
theorem sumdot_any(w:World){xp yp:Option Addr}{xl xc yl yc:Nat}{xs ys:List Rat}{Ba Bb:Nat}(hX:SlV ratK w (.slice xp xl xc) xs)(hY:SlV ratK w (.slice yp yl yc) ys)(hBa:Has 0 Ba (.cells #[.slice xp xl xc] 34) w)(hBb:Has 0 Bb (.cells #[.slice yp yl yc] 34) w)(hle:xs.length<=ys.length)(hb0:xs.length<=100000){j:Nat}(hx:LmL j xs)(hy:LmL j ys)(hj2:j<=4000)(hj:(j+j+1)*xs.length+1<=9999):
    Calls Tryz.prog 101 #[.int .i64 (xl:Int),.func (.func 102) #[] #[.pointer (some ⟨Ba,0,none⟩),.pointer (some ⟨Bb,0,none⟩)]] w fun e w'=> ∃x:Duo Sl Sl,e=.returned (.agg #[.bool (isN (dotQ xs ys)),.slice x.a.p x.a.l x.a.c,.slice x.b.p x.b.l x.b.c])/\SS w [qF (.agg #[.bool (isN (dotQ xs ys)),.slice x.a.p x.a.l x.a.c,.slice x.b.p x.b.l x.b.c]) (dotQ xs ys)] w':=by
  have hK:=SS.start w;have⟨nx1,nx2⟩:=lle hX.one0;have⟨ny1,ny2⟩:=lle hY.one0;refine Calls.hide (fun Q0 hQ0=>?_);go_enter Tryz.func101,Tryz.ntmps101;go_upto_region 0 with(fail);refine wp_region_T [3] hK ?_;clear hK;refine eA (.cells #[.bool false,.slice none 0 0,.slice none 0 0] 43) (fun R1=>?_);refine sxEnd (fun W2 hK=>?_);go_upto_region 1 with(fail);refine wp_region_T [3] hK ?_;clear hK;refine eA (.cells #[.bool false,.slice none 0 0,.slice none 0 0] 43) (fun R3=>?_);refine sxEnd (fun W4 hK=>?_);replace hK:=hK.fact (qF (.agg #[.bool false,.slice none 0 0,.slice none 0 0]) (0:Rat)) (RatV.zero _);rw[show(0:Rat)=dotQ (xs.take 0) (ys.take 0)from rfl]at hK;go_wp2_with fail;go_loopw [8] (fun s8 wl=> ∃(m:Nat) (qn:Bool) (up:Option Addr) (ul:Nat) (uc:Nat) (vp:Option Addr) (vl:Nat) (vc:Nat),s8=.int .i64 (m:Int)/\(m<=xl)/\SS w ([qF (.agg #[.bool qn,.slice up ul uc,.slice vp vl vc]) (dotQ (xs.take m) (ys.take m)),bx R3 (.cells #[.bool qn,.slice up ul uc,.slice vp vl vc] 43),bx R1 (.cells #[.bool false,.slice none 0 0,.slice none 0 0] 43)]) wl) (fun s8 _=>xl-(intOf s8).toNat)
  case atStart=>exact⟨0,false,none,0,0,none,0,0,rfl,(by omega),hK⟩
  clear hK;obtain⟨m,qn,up,ul,uc,vp,vl,vc,rfl,hm0,hK⟩:=hrel;generalize wr=W5 at hK⊢;go_upto_region 3 with(fail);refine wp_region_T [0] hK ?_;clear hK;refine eB (decide (((m:Int))<((xl:Int)))) (fun b1 hb1=>?_);refine sxEnd (fun W6 hK=>?_)
  cases b1
  . --
   have q_b1:=nlt hb1;go_upto_region 7 with(fail);refine wp_region_T [1,4] hK ?_;clear hK;refine eL m1 ?_;refine eP 2 0 [.bool qn,.slice up ul uc,.slice vp vl vc] ?_ (hq:=.inr ⟨rfl,rfl,trivial⟩);refine sxEnd (fun W7 hK=>?_);rw[show dotQ (xs.take m) (ys.take m)=dotQ xs ys from(dotQ_end (.inl (by omega)))]at hK;have hq0:=(ratV_cells' (hK.q m0)).1;injection hq0 with hq0;subst hq0;have⟨c90,c91,c92⟩:=(hK.box m2).c3;replace hK:=hK.subl (sK2 (sC2 (sC2 sZ2)));go_wp2;exact bodyPost_ret (v:=.agg #[.bool (isN (dotQ xs ys)),.slice up ul uc,.slice vp vl vc]) (by simp[results,Tryz.results101,go_sem,c90,c91,c92]) rfl (qo hQ0 ⟨⟨⟨up,ul,uc⟩,⟨vp,vl,vc⟩⟩,rfl,hK⟩)
  have q_b1:=ylt hb1;go_upto_region 5 with(fail);refine wp_region_S _ [1,0,0,2,2,4] hK ?_ (sK2 (sC2 (sR)));clear hK;refine eL m1 ?_
  iterate 2 refine e0 ?_
  refine eC (fun w k=>mulat_any (xs:=xs) (ys:=ys) w m (hX.below k.old) (hY.below k.old) (hBa.below k.old) (hBb.below k.old) (by omega) (by omega) hx hy hj2) (fun x8=>?_);obtain⟨⟨p9,l9,c9⟩,⟨q9,u9,d9⟩⟩:=x8;dsimp only;refine eC (fun w k=>rat_S (qadd_any _ _ _ _ w (k.q m1) (k.q m0) ((dotQ_lmt hx hy hj m).up (by decide)) ((lm_mulat hx hy (by omega) (by omega)).up (by omega)) (k:=10000) (by decide))) (fun x10=>?_);obtain⟨⟨p11,l11,c11⟩,⟨q11,u11,d11⟩⟩:=x10;dsimp only;refine eP 3 0 [.bool (isN ((dotQ (xs.take m) (ys.take m))+(xs.getD m 0*ys.getD m 0))),.slice p11 l11 c11,.slice q11 u11 d11] ?_ (hs:=(sC2 (sC2 (sK2 (sC2 (sR)))))) (hq:=.inr ⟨rfl,rfl,rfl,rfl,trivial⟩);refine sxEnd (fun W12 hK=>?_);rw[show(dotQ (xs.take m) (ys.take m))+(xs.getD m 0*ys.getD m 0)=dotQ (xs.take (m+1)) (ys.take (m+1))from(dotQ_tk (by omega) (by omega))]at hK
  (try go_wp2)
  go_roundw
  case rel=>exact⟨m+1,(isN (dotQ (xs.take (m+1)) (ys.take (m+1)))),p11,l11,c11,q11,u11,d11,(by first|rfl|go_num),(by omega),(hK.subl (sK2 (sC2 (sC2 (sR)))))⟩
  case measure=>simp[intOf]<;>omega
set_option maxRecDepth 100000 in
set_option maxHeartbeats 400000 in
theorem qdot_any(w:World){xp yp:Option Addr}{xl xc yl yc:Nat}{xs ys:List Rat}(hX:SlV ratK w (.slice xp xl xc) xs)(hY:SlV ratK w (.slice yp yl yc) ys)(hle:xs.length<=ys.length)(hb0:xs.length<=100000){j:Nat}(hx:LmL j xs)(hy:LmL j ys)(hj2:j<=4000)(hj:(j+j+1)*xs.length+1<=9999):
    Calls Tryz.prog 60 #[.slice xp xl xc,.slice yp yl yc] w fun e w'=> ∃x:Duo Sl Sl,e=.returned (.agg #[.bool (isN (dotQ xs ys)),.slice x.a.p x.a.l x.a.c,.slice x.b.p x.b.l x.b.c])/\SS w [qF (.agg #[.bool (isN (dotQ xs ys)),.slice x.a.p x.a.l x.a.c,.slice x.b.p x.b.l x.b.c]) (dotQ xs ys)] w':=by
  have hK:=SS.start w;have⟨nx1,nx2⟩:=lle hX.one0;have⟨ny1,ny2⟩:=lle hY.one0;refine Calls.hide (fun Q0 hQ0=>?_);go_enter Tryz.func60,Tryz.ntmps60;go_upto_region 0 with(fail);refine wp_region_T [3,3,3] hK ?_;clear hK;refine eA (.cells #[.slice xp xl xc] 34) (fun R1=>?_);refine eA (.cells #[.slice yp yl yc] 34) (fun R2=>?_);refine eA (.cells #[.bool false,.slice none 0 0,.slice none 0 0] 43) (fun R3=>?_);refine sxEnd (fun W4 hK=>?_);go_upto_region 1 with(fail);refine wp_region_T [1,0,0,2,4] hK ?_;clear hK;refine eL m2 ?_
  iterate 2 refine e0 ?_
  refine eC (fun w k=>sumdot_any (xs:=xs) (ys:=ys) w (hX.below k.old) (hY.below k.old) (k.box m2) (k.box m1) hle hb0 hx hy hj2 hj) (fun x5=>?_);obtain⟨⟨p6,l6,c6⟩,⟨q6,u6,d6⟩⟩:=x5;dsimp only;refine eP 1 0 [.bool (isN (dotQ xs ys)),.slice p6 l6 c6,.slice q6 u6 d6] ?_ (hq:=.inr ⟨rfl,rfl,rfl,trivial⟩);refine sxEnd (fun W7 hK=>?_);have⟨c90,c91,c92⟩:=(hK.box m1).c3;replace hK:=hK.subl (sK2 (sC2 (sC2 (sC2 sZ2))));go_wp2;exact bodyPost_ret (v:=.agg #[.bool (isN (dotQ xs ys)),.slice p6 l6 c6,.slice q6 u6 d6]) (by simp[results,Tryz.results60,go_sem,c90,c91,c92]) rfl (qo hQ0 ⟨⟨⟨p6,l6,c6⟩,⟨q6,u6,d6⟩⟩,rfl,hK⟩)
set_option maxRecDepth 100000 in
theorem mulcol_any(w:World){cp ap bp yp:Option Addr}{cl cc al ac bl bc yl yc:Nat}{P:LPd}{ys:List Rat}{k0:Nat}(k:Nat){Ba:Nat}{Bb:Nat}{Bc:Nat}(hC:SlV ratK w (.slice cp cl cc) P.c)(hA:SlV rrK w (.slice ap al ac) P.A)(hB:SlV ratK w (.slice bp bl bc) P.b)(hY:SlV ratK w (.slice yp yl yc) ys)(hBa:Has 0 Ba (.cells #[.slice yp yl yc] 34) w)(hBb:Has 0 Bb (.cells #[.slice cp cl cc,.slice ap al ac,.slice bp bl bc] 37) w)(hBc:Has 0 Bc (.cells #[.int .i64 (k0:Int)] 3) w)(hk1:k<ys.length)(hk2:k<P.A.length)(hr:∀a∈P.A,k0<a.length){j:Nat}(hy:LmL j ys)(hx:LmL j (P.A.map fun a=>a.getD k0 0))(hj2:j<=4000):
    Calls Tryz.prog 105 #[.int .i64 (k:Int),.pointer (some ⟨Ba,0,none⟩),.pointer (some ⟨Bb,0,none⟩),.pointer (some ⟨Bc,0,none⟩)] w fun e w'=> ∃x:Duo Sl Sl,e=.returned (.agg #[.bool (isN (ys.getD k 0*(P.A.getD k []).getD k0 0)),.slice x.a.p x.a.l x.a.c,.slice x.b.p x.b.l x.b.c])/\SS w [qF (.agg #[.bool (isN (ys.getD k 0*(P.A.getD k []).getD k0 0)),.slice x.a.p x.a.l x.a.c,.slice x.b.p x.b.l x.b.c]) (ys.getD k 0*(P.A.getD k []).getD k0 0)] w':=by
  have hK:=SS.start w;have⟨nc1,nc2⟩:=lle hC.one0;have⟨na1,na2⟩:=lle hA.one0;have⟨nb1,nb2⟩:=lle hB.one0;have⟨ny1,ny2⟩:=lle hY.one0;refine Calls.hide (fun Q0 hQ0=>?_);go_enter Tryz.func105,Tryz.ntmps105;go_upto_region 0 with(fail);refine wp_region_T [3] hK ?_;clear hK;refine eA (.cells #[.bool false,.slice none 0 0,.slice none 0 0] 43) (fun R1=>?_);refine sxEnd (fun W2 hK=>?_);have i3:k<yl:=(by omega);obtain⟨g3,o3,rfl⟩:=hY.pt i3;have l3:k<ys.length:=Nat.lt_of_lt_of_eq i3 (hY.one0);obtain⟨y,ey⟩:=gtH l3;obtain⟨_,_,_,y_c,y_r⟩:=hY.rat ey.out;obtain⟨rfl,⟨y_p,y_n,y_d,rfl⟩,y_q,y_m,y_e,rfl⟩:=ratV_cells' y_r;have i4:k<al:=(by omega);obtain⟨g4,o4,rfl⟩:=hA.pt i4;have l4:k<P.A.length:=Nat.lt_of_lt_of_eq i4 (hA.one0);obtain⟨a,ea⟩:=gtH l4;obtain⟨⟨a_p,a_l,a_c⟩,a_h,a_s⟩:=hA.row ea.out;dsimp only at a_h a_s;have a_n:=hid a_s.one0;have⟨a_n1,a_n2⟩:=lle a_n.out;have hal:=hr a (List.mem_of_getElem? ea.out);have i5:k0<a_l:=(by omega);obtain⟨g5,o5,rfl⟩:=a_s.pt i5;have l5:k0<a.length:=Nat.lt_of_lt_of_eq i5 (a_s.one0);obtain⟨x,ex⟩:=gtH l5;obtain⟨_,_,_,x_c,x_r⟩:=a_s.rat ex.out;obtain⟨rfl,⟨x_p,x_n,x_d,rfl⟩,x_q,x_m,x_e,rfl⟩:=ratV_cells' x_r;have hxl:=hid (hx x (by rw[<-getD_of (d:=(0:Rat)) ex.out];exact List.mem_map_of_mem (List.mem_of_getElem? ea.out)));go_upto_region 1 with(fail);refine wp_region_S _ [0,0,0,0,0,0,0,0,0,0,0,0,2,4] hK ?_ (sC2 sZ2);clear hK;refine eX0 (fun w k=>hBa.below k.old) ?_
  iterate 2 refine e0 ?_
  refine eRm3 (fun w k=>y_c.below k.old) ?_;refine e0 ?_;refine eX0 (fun w k=>hBb.below k.old) ?_
  iterate 2 refine e0 ?_
  refine eR0 (fun w k=>celB a_h k.old) ?_;refine eX0 (fun w k=>hBc.below k.old) ?_;refine e0 ?_;refine eRm3 (fun w k=>x_c.below k.old) ?_;refine eC (fun w k=>rat_S (qmul_any _ _ _ _ w (y_r.below k.old) (x_r.below k.old) ((hy y (List.mem_of_getElem? ey.out)).up hj2) (hxl.out.up hj2) (by decide))) (fun x6=>?_);obtain⟨⟨p7,l7,c7⟩,⟨q7,u7,d7⟩⟩:=x6;dsimp only;refine eP 1 0 [.bool (isN (y*x)),.slice p7 l7 c7,.slice q7 u7 d7] ?_ (hs:=(sC2 (sC2 sZ2))) (hq:=.inr ⟨rfl,trivial⟩);refine sxEnd (fun W8 hK=>?_);rw[show y*x=ys.getD k 0*(P.A.getD k []).getD k0 0 from(by rw[getD_of ey.out,getD_of ea.out,getD_of ex.out])]at hK;have⟨c90,c91,c92⟩:=(hK.box m1).c3;replace hK:=hK.subl (sK2 (sC2 sZ2));go_wp2;exact bodyPost_ret (v:=.agg #[.bool (isN (ys.getD k 0*(P.A.getD k []).getD k0 0)),.slice p7 l7 c7,.slice q7 u7 d7]) (by simp[results,Tryz.results105,go_sem,c90,c91,c92]) rfl (qo hQ0 ⟨⟨⟨p7,l7,c7⟩,⟨q7,u7,d7⟩⟩,rfl,hK⟩)
theorem colA_at{P:LPd}{k k0:Nat}(h:k<P.A.length):(P.A.map fun a=>a.getD k0 0).getD k 0=(P.A.getD k []).getD k0 0:=by
  have h1:P.A[k]?=some P.A[k]:=List.getElem?_eq_getElem h;rw[getD_of (d:=(0:Rat)) (x:=P.A[k].getD k0 0) (by rw[List.getElem?_map,h1];rfl),getD_of h1]
set_option maxRecDepth 100000 in
set_option maxHeartbeats 400000 in
theorem sumcol_any(w:World){cp ap bp yp:Option Addr}{cl cc al ac bl bc yl yc:Nat}{P:LPd}{ys:List Rat}{k0:Nat}{Ba Bb Bc:Nat}(hC:SlV ratK w (.slice cp cl cc) P.c)(hA:SlV rrK w (.slice ap al ac) P.A)(hB:SlV ratK w (.slice bp bl bc) P.b)(hY:SlV ratK w (.slice yp yl yc) ys)(hBa:Has 0 Ba (.cells #[.slice yp yl yc] 34) w)(hBb:Has 0 Bb (.cells #[.slice cp cl cc,.slice ap al ac,.slice bp bl bc] 37) w)(hBc:Has 0 Bc (.cells #[.int .i64 (k0:Int)] 3) w)(hle:P.A.length<=ys.length)(hb0:P.A.length<=100000)(hy9:ys.length<=P.A.length)(hr:∀a∈P.A,k0<a.length){j:Nat}(hy:LmL j ys)(hx:LmL j (P.A.map fun a=>a.getD k0 0))(hj2:j<=4000)(hj:(j+j+1)*ys.length+1<=9999):
    Calls Tryz.prog 101 #[.int .i64 (al:Int),.func (.func 105) #[] #[.pointer (some ⟨Ba,0,none⟩),.pointer (some ⟨Bb,0,none⟩),.pointer (some ⟨Bc,0,none⟩)]] w fun e w'=> ∃x:Duo Sl Sl,e=.returned (.agg #[.bool (isN (colQ P ys k0)),.slice x.a.p x.a.l x.a.c,.slice x.b.p x.b.l x.b.c])/\SS w [qF (.agg #[.bool (isN (colQ P ys k0)),.slice x.a.p x.a.l x.a.c,.slice x.b.p x.b.l x.b.c]) (colQ P ys k0)] w':=by
  have hK:=SS.start w;have⟨nc1,nc2⟩:=lle hC.one0;have⟨na1,na2⟩:=lle hA.one0;have⟨nb1,nb2⟩:=lle hB.one0;have⟨ny1,ny2⟩:=lle hY.one0;have hml:(P.A.map fun a=>a.getD k0 0).length=P.A.length:=List.length_map ..;have⟨hml1,hml2⟩:=lle hml;clear hml;refine Calls.hide (fun Q0 hQ0=>?_);go_enter Tryz.func101,Tryz.ntmps101;go_upto_region 0 with(fail);refine wp_region_T [3] hK ?_;clear hK;refine eA (.cells #[.bool false,.slice none 0 0,.slice none 0 0] 43) (fun R1=>?_);refine sxEnd (fun W2 hK=>?_);go_upto_region 1 with(fail);refine wp_region_T [3] hK ?_;clear hK;refine eA (.cells #[.bool false,.slice none 0 0,.slice none 0 0] 43) (fun R3=>?_);refine sxEnd (fun W4 hK=>?_);replace hK:=hK.fact (qF (.agg #[.bool false,.slice none 0 0,.slice none 0 0]) (0:Rat)) (RatV.zero _);rw[show(0:Rat)=dotQ (ys.take 0) ((P.A.map fun a=>a.getD k0 0).take 0)from rfl]at hK;go_wp2_with fail;go_loopw [8] (fun s8 wl=> ∃(m:Nat) (qn:Bool) (up:Option Addr) (ul:Nat) (uc:Nat) (vp:Option Addr) (vl:Nat) (vc:Nat),s8=.int .i64 (m:Int)/\(m<=al)/\SS w ([qF (.agg #[.bool qn,.slice up ul uc,.slice vp vl vc]) (dotQ (ys.take m) ((P.A.map fun a=>a.getD k0 0).take m)),bx R3 (.cells #[.bool qn,.slice up ul uc,.slice vp vl vc] 43),bx R1 (.cells #[.bool false,.slice none 0 0,.slice none 0 0] 43)]) wl) (fun s8 _=>al-(intOf s8).toNat)
  case atStart=>exact⟨0,false,none,0,0,none,0,0,rfl,(by omega),hK⟩
  clear hK;obtain⟨m,qn,up,ul,uc,vp,vl,vc,rfl,hm0,hK⟩:=hrel;generalize wr=W5 at hK⊢;go_upto_region 3 with(fail);refine wp_region_T [0] hK ?_;clear hK;refine eB (decide (((m:Int))<((al:Int)))) (fun b1 hb1=>?_);refine sxEnd (fun W6 hK=>?_)
  cases b1
  . --
   have q_b1:=nlt hb1;go_upto_region 7 with(fail);refine wp_region_T [1,4] hK ?_;clear hK;refine eL m1 ?_;refine eP 2 0 [.bool qn,.slice up ul uc,.slice vp vl vc] ?_ (hq:=.inr ⟨rfl,rfl,trivial⟩);refine sxEnd (fun W7 hK=>?_);rw[show dotQ (ys.take m) ((P.A.map fun a=>a.getD k0 0).take m)=colQ P ys k0 from(dotQ_end (.inl (by omega)))]at hK;have hq0:=(ratV_cells' (hK.q m0)).1;injection hq0 with hq0;subst hq0;have⟨c90,c91,c92⟩:=(hK.box m2).c3;replace hK:=hK.subl (sK2 (sC2 (sC2 sZ2)));go_wp2;exact bodyPost_ret (v:=.agg #[.bool (isN (colQ P ys k0)),.slice up ul uc,.slice vp vl vc]) (by simp[results,Tryz.results101,go_sem,c90,c91,c92]) rfl (qo hQ0 ⟨⟨⟨up,ul,uc⟩,⟨vp,vl,vc⟩⟩,rfl,hK⟩)
  have q_b1:=ylt hb1;go_upto_region 5 with(fail);refine wp_region_S _ [1,0,0,2,2,4] hK ?_ (sK2 (sC2 (sR)));clear hK;refine eL m1 ?_
  iterate 2 refine e0 ?_
  refine eC (fun w k=>mulcol_any (P:=P) (ys:=ys) w m (hC.below k.old) (hA.below k.old) (hB.below k.old) (hY.below k.old) (hBa.below k.old) (hBb.below k.old) (hBc.below k.old) (by omega) (by omega) hr hy hx hj2) (fun x8=>?_);obtain⟨⟨p9,l9,c9⟩,⟨q9,u9,d9⟩⟩:=x8;dsimp only;refine eC (fun w k=>rat_S (qadd_any _ _ _ _ w (k.q m1) (k.q m0) ((dotQ_lmt hy hx hj m).up (by decide)) ((colA_at (P:=P) (k:=m) (k0:=k0) (by omega)▸lm_mulat hy hx (by omega) (by omega)).up (by omega)) (k:=10000) (by decide))) (fun x10=>?_);obtain⟨⟨p11,l11,c11⟩,⟨q11,u11,d11⟩⟩:=x10;dsimp only;refine eP 3 0 [.bool (isN ((dotQ (ys.take m) ((P.A.map fun a=>a.getD k0 0).take m))+(ys.getD m 0*(P.A.getD m []).getD k0 0))),.slice p11 l11 c11,.slice q11 u11 d11] ?_ (hs:=(sC2 (sC2 (sK2 (sC2 (sR)))))) (hq:=.inr ⟨rfl,rfl,rfl,rfl,trivial⟩);refine sxEnd (fun W12 hK=>?_);rw[show(dotQ (ys.take m) ((P.A.map fun a=>a.getD k0 0).take m))+(ys.getD m 0*(P.A.getD m []).getD k0 0)=dotQ (ys.take (m+1)) ((P.A.map fun a=>a.getD k0 0).take (m+1))from(by rw[<-colA_at (by omega)];exact dotQ_tk (by omega) (by omega))]at hK
  (try go_wp2)
  go_roundw
  case rel=>exact⟨m+1,(isN (dotQ (ys.take (m+1)) ((P.A.map fun a=>a.getD k0 0).take (m+1)))),p11,l11,c11,q11,u11,d11,(by first|rfl|go_num),(by omega),(hK.subl (sK2 (sC2 (sC2 (sR)))))⟩
  case measure=>simp[intOf]<;>omega
set_option maxRecDepth 100000 in
set_option maxHeartbeats 400000 in
theorem qcol_any(w:World){cp ap bp yp:Option Addr}{cl cc al ac bl bc yl yc:Nat}{P:LPd}{ys:List Rat}{k0:Nat}(hC:SlV ratK w (.slice cp cl cc) P.c)(hA:SlV rrK w (.slice ap al ac) P.A)(hB:SlV ratK w (.slice bp bl bc) P.b)(hY:SlV ratK w (.slice yp yl yc) ys)(hle:P.A.length<=ys.length)(hb0:P.A.length<=100000)(hy9:ys.length<=P.A.length)(hr:∀a∈P.A,k0<a.length){j:Nat}(hy:LmL j ys)(hx:LmL j (P.A.map fun a=>a.getD k0 0))(hj2:j<=4000)(hj:(j+j+1)*ys.length+1<=9999):
    Calls Tryz.prog 64 #[.agg #[.slice cp cl cc,.slice ap al ac,.slice bp bl bc],.slice yp yl yc,.int .i64 (k0:Int)] w fun e w'=> ∃x:Duo Sl Sl,e=.returned (.agg #[.bool (isN (colQ P ys k0)),.slice x.a.p x.a.l x.a.c,.slice x.b.p x.b.l x.b.c])/\SS w [qF (.agg #[.bool (isN (colQ P ys k0)),.slice x.a.p x.a.l x.a.c,.slice x.b.p x.b.l x.b.c]) (colQ P ys k0)] w':=by
  have hK:=SS.start w;have⟨nc1,nc2⟩:=lle hC.one0;have⟨na1,na2⟩:=lle hA.one0;have⟨nb1,nb2⟩:=lle hB.one0;have⟨ny1,ny2⟩:=lle hY.one0;refine Calls.hide (fun Q0 hQ0=>?_);go_enter Tryz.func64,Tryz.ntmps64;go_upto_region 0 with(fail);refine wp_region_T [3,3,3,3] hK ?_;clear hK;refine eA (.cells #[.slice cp cl cc,.slice ap al ac,.slice bp bl bc] 37) (fun R1=>?_);refine eA (.cells #[.slice yp yl yc] 34) (fun R2=>?_);refine eA (.cells #[.int .i64 (k0:Int)] 3) (fun R3=>?_);refine eA (.cells #[.bool false,.slice none 0 0,.slice none 0 0] 43) (fun R4=>?_);refine sxEnd (fun W5 hK=>?_);go_upto_region 1 with(fail);refine wp_region_T [0,1,0,0,2,4] hK ?_;clear hK;refine e0 ?_;refine eL m3 ?_
  iterate 2 refine e0 ?_
  refine eC (fun w k=>sumcol_any (P:=P) (ys:=ys) w (hC.below k.old) (hA.below k.old) (hB.below k.old) (hY.below k.old) (k.box m2) (k.box m3) (k.box m1) hle hb0 hy9 hr hy hx hj2 hj) (fun x6=>?_);obtain⟨⟨p7,l7,c7⟩,⟨q7,u7,d7⟩⟩:=x6;dsimp only;refine eP 1 0 [.bool (isN (colQ P ys k0)),.slice p7 l7 c7,.slice q7 u7 d7] ?_ (hq:=.inr ⟨rfl,rfl,rfl,rfl,trivial⟩);refine sxEnd (fun W8 hK=>?_);have⟨c90,c91,c92⟩:=(hK.box m1).c3;replace hK:=hK.subl (sK2 (sC2 (sC2 (sC2 (sC2 sZ2)))));go_wp2;exact bodyPost_ret (v:=.agg #[.bool (isN (colQ P ys k0)),.slice p7 l7 c7,.slice q7 u7 d7]) (by simp[results,Tryz.results64,go_sem,c90,c91,c92]) rfl (qo hQ0 ⟨⟨⟨p7,l7,c7⟩,⟨q7,u7,d7⟩⟩,rfl,hK⟩)
end
section
set_option maxRecDepth 100000 in
set_option maxHeartbeats 400000 in
theorem cfeas_any(w:World){cp ap bp:Option Addr}{cl cc al ac bl bc:Nat}{P:LPd}{xp:Option Addr}{xl xc:Nat}{x:List Rat}(hC:SlV ratK w (.slice cp cl cc) P.c)(hA:SlV rrK w (.slice ap al ac) P.A)(hB:SlV ratK w (.slice bp bl bc) P.b){k:Nat}(hm:vldP P=true->LmP k P)(hk:(k+k+1)*12+1<=9999)(hk1:1<=k)(hn1:P.c.length<=100000)(hn2:P.A.length<=100000)(hn3:P.b.length<=100000)(hx:SlV ratK w (.slice xp xl xc) x)(lx:x.length<=100000)(mx:LmL k x):
    Calls Tryz.prog 27 #[.agg #[.slice cp cl cc,.slice ap al ac,.slice bp bl bc],.slice xp xl xc] w fun e w'=>e=.returned (.bool (vldP P&&feaB P x))/\Below w.heap.size w w':=by
  have hK:=SS.start w;have⟨nc1,nc2⟩:=lle hC.one0;have⟨na1,na2⟩:=lle hA.one0;have⟨nb1,nb2⟩:=lle hB.one0;have⟨nx1,nx2⟩:=lle hx.one0;have hk2:k<=4000:=(by omega);refine Calls.hide (fun Q0 hQ0=>?_);go_enter Tryz.func27,Tryz.ntmps27;go_upto_region 0 with(fail);refine wp_region_T [3,0] hK ?_;clear hK;refine eA (.cells #[.slice cp cl cc,.slice ap al ac,.slice bp bl bc] 37) (fun R1=>?_);refine e0 ?_;refine sxEnd (fun W2 hK=>?_);go_upto_region 1 with(fail);refine wp_region_T [1,1,0,0,0,0,1,0,1,0,0] hK ?_;clear hK;refine eL m0 ?_;obtain⟨b1,hb1⟩:=nmB (vldP P);refine eQ (v:=.bool b1) (fun w k=>lpvalid_any w (hC.below k.old) (hA.below k.old) (hB.below k.old) (by omega) (by omega) (by omega)) ?_ (hv:=by rw[hb1.out])
  iterate 2 refine e0 ?_
  cases b1
  . --
   iterate 6 refine eN ?_
   refine e0 ?_;refine sxEnd (fun W3 hK=>?_);go_wp2
   try go_ret
   show Q0 (.returned (.bool false)) _
   exact(qo hQ0 ⟨(by rw[hb1.out];rfl),hK.old⟩)
  iterate 2 refine e0 ?_
  refine eL m0 ?_;refine e0 ?_;obtain⟨b2,hb2⟩:=nmB (nnB x&&decide (x.length=cl));refine eQ (v:=.bool b2) (fun w k=>qnatural_any w (hx.below k.old) cl (by omega)) ?_ (hv:=by rw[hb2.out])
  iterate 2 refine e0 ?_
  refine sxEnd (fun W4 hK=>?_)
  cases b2
  . --
   have hcl:=hC.one0;go_wp2
   try go_ret
   show Q0 (.returned (.bool false)) _
   exact(qo hQ0 ⟨(by unfold feaB;have q:=hb2.out;rw[hcl]at q;rw[Bool.and_comm (nnB x)]at q;rw[q];simp),hK.old⟩)
  have hv:=hid (show vldP P=true from hb1.out);have hM:=hm hv.out;have hP:=vld_ok hv.out;have hn12:=hM.n;have hm12:=hM.m;have⟨hPb,hPb2⟩:=lle hP.hb;have hxx:nnB x=true/\x.length=P.c.length:=(by have q:=hb2.out;simp only[Bool.and_eq_true,decide_eq_true_eq]at q;exact⟨q.1,q.2.trans (by omega)⟩);have hxl:=hid hxx.2;have⟨hxl1,hxl2⟩:=lle hxx.2;have hxn:=hid hxx.1;clear hxx;go_upto_region 3 with(fail);refine wp_region_T [0,1,0,0] hK ?_;clear hK;refine e0 ?_;refine eL m0 ?_
  iterate 2 refine e0 ?_
  refine sxEnd (fun W5 hK=>?_);go_wp2_with fail;go_loopw [21] (fun s21 wl=> ∃(m:Nat),s21=.int .i64 (m:Int)/\(m<=al)/\Hid (allN (feaP P x) m=true)/\SS w ([bx R1 (.cells #[.slice cp cl cc,.slice ap al ac,.slice bp bl bc] 37)]) wl) (fun s21 _=>al-(intOf s21).toNat)
  case atStart=>exact⟨0,rfl,(by omega),hid rfl,hK⟩
  clear hK;obtain⟨m,rfl,hm0,h_o,hK⟩:=hrel;generalize wr=W6 at hK⊢;go_upto_region 4 with(fail);refine wp_region_T [0] hK ?_;clear hK;refine eB (decide (((m:Int))<((al:Int)))) (fun b3 hb3=>?_);refine sxEnd (fun W7 hK=>?_)
  cases b3
  . --
   have q_b3:=nlt hb3;go_wp2
   try go_ret
   show Q0 (.returned (.bool true)) _
   exact(qo hQ0 ⟨(by unfold feaB;rw[show P.A.length=m from(by omega),h_o.out,hxn.out,hv.out,decide_eq_true hxl.out];rfl),hK.old⟩)
  have q_b3:=ylt hb3;have i8:m<al:=(by omega);obtain⟨g8,o8,rfl⟩:=hA.pt i8;have l8:m<P.A.length:=Nat.lt_of_lt_of_eq i8 (hA.one0);obtain⟨a,ea⟩:=gtH l8;obtain⟨⟨a_p,a_l,a_c⟩,a_h,a_s⟩:=hA.row ea.out;dsimp only at a_h a_s;have a_n:=hid a_s.one0;have⟨a_n1,a_n2⟩:=lle a_n.out;have hal:=hP.ha a (List.mem_of_getElem? ea.out);have⟨hal1,hal2⟩:=lle hal;have hal9:=hid hal;clear hal;have ham:=hM.a a (List.mem_of_getElem? ea.out);go_upto_region 5 with(fail);refine wp_region_T [0,0,0,0,0] hK ?_;clear hK
  iterate 2 refine e0 ?_
  refine eR0 (fun w k=>celB a_h k.old) ?_
  iterate 2 refine e0 ?_
  refine sxEnd (fun W9 hK=>?_);have i10:m<bl:=(by omega);obtain⟨g10,o10,rfl⟩:=hB.pt i10;have l10:m<P.b.length:=Nat.lt_of_lt_of_eq i10 (hB.one0);obtain⟨xb,exb⟩:=gtH l10;obtain⟨_,_,_,xb_c,xb_r⟩:=hB.rat exb.out;obtain⟨rfl,⟨xb_p,xb_n,xb_d,rfl⟩,xb_q,xb_m,xb_e,rfl⟩:=ratV_cells' xb_r;have hxb:=hM.b xb (List.mem_of_getElem? exb.out);go_upto_region 6 with(fail);refine wp_region_S _ [0,0,2,0,0,0,0,0,1,0] hK ?_ (sR);clear hK
  iterate 2 refine e0 ?_
  refine eC (fun w k=>qdot_any (xs:=a) (ys:=x) w (a_s.below k.old) (hx.below k.old) (by omega) (by omega) ham mx hk2 (Nat.le_trans (Nat.succ_le_succ (Nat.mul_le_mul_left _ (by omega))) hk)) (fun x11=>?_);obtain⟨⟨p12,l12,c12⟩,⟨q12,u12,d12⟩⟩:=x11;dsimp only;refine e0 ?_;refine eL0 m0 ?_
  iterate 2 refine e0 ?_
  refine eRm3 (fun w k=>xb_c.below k.old) ?_;obtain⟨z1,hz1⟩:=nmI (sgQ ((dotQ a x)-xb));refine eQ (v:=.int .i64 z1) (fun w k=>qcmp_any _ _ _ _ w (k.q m0) (xb_r.below k.old) ((dotQ_lm ham mx).up (Nat.le_trans (Nat.succ_le_succ (Nat.mul_le_mul_left _ (by omega))) hk)) (hxb.up (by omega)) (by first|decide|omega)) ?_ (hv:=by rw[hz1.out]);refine eB (decide (0<z1)) (fun b4 hb4=>?_);refine sxEnd (fun W13 hK=>?_)
  cases b4
  . --
   have q_b4:=nlt hb4
   (try go_wp2)
   go_roundw
   case rel=>exact⟨m+1,(by first|rfl|go_num),(by omega),hid (allN_step h_o.out (by unfold feaP;rw[getD_of ea.out,getD_of exb.out];exact decide_eq_true (le_of_sg hz1.out q_b4))),(hK.subl (sC2 (sR)))⟩
   case measure=>simp[intOf]<;>omega
  have q_b4:=ylt hb4;go_wp2
  try go_ret
  show Q0 (.returned (.bool false)) _
  exact(qo hQ0 ⟨(by unfold feaB;rw[allN_no (k:=m) (by omega) (by unfold feaP;rw[getD_of ea.out,getD_of exb.out];exact decide_eq_false (gt_of_sg hz1.out q_b4))];simp),hK.old⟩)
set_option maxRecDepth 100000 in
set_option maxHeartbeats 400000 in
theorem csuff_any(w:World){cp ap bp:Option Addr}{cl cc al ac bl bc:Nat}{P:LPd}{yp:Option Addr}{yl yc:Nat}{y:List Rat}(hC:SlV ratK w (.slice cp cl cc) P.c)(hA:SlV rrK w (.slice ap al ac) P.A)(hB:SlV ratK w (.slice bp bl bc) P.b){k:Nat}(hm:vldP P=true->LmP k P)(hk:(k+k+1)*12+1<=9999)(hk1:1<=k)(hn1:P.c.length<=100000)(hn2:P.A.length<=100000)(hn3:P.b.length<=100000)(hy:SlV ratK w (.slice yp yl yc) y)(ly:y.length<=100000)(my:LmL k y):
    Calls Tryz.prog 28 #[.agg #[.slice cp cl cc,.slice ap al ac,.slice bp bl bc],.slice yp yl yc] w fun e w'=>e=.returned (.bool (vldP P&&covB P y P.c))/\Below w.heap.size w w':=by
  have hK:=SS.start w;have⟨nc1,nc2⟩:=lle hC.one0;have⟨na1,na2⟩:=lle hA.one0;have⟨nb1,nb2⟩:=lle hB.one0;have⟨ny1,ny2⟩:=lle hy.one0;have hk2:k<=4000:=(by omega);refine Calls.hide (fun Q0 hQ0=>?_);go_enter Tryz.func28,Tryz.ntmps28;go_upto_region 0 with(fail);refine wp_region_T [3,0] hK ?_;clear hK;refine eA (.cells #[.slice cp cl cc,.slice ap al ac,.slice bp bl bc] 37) (fun R1=>?_);refine e0 ?_;refine sxEnd (fun W2 hK=>?_);go_upto_region 1 with(fail);refine wp_region_T [1,1,0,0,0,0,1,0,1,0,0] hK ?_;clear hK;refine eL m0 ?_;obtain⟨b1,hb1⟩:=nmB (vldP P);refine eQ (v:=.bool b1) (fun w k=>lpvalid_any w (hC.below k.old) (hA.below k.old) (hB.below k.old) (by omega) (by omega) (by omega)) ?_ (hv:=by rw[hb1.out])
  iterate 2 refine e0 ?_
  cases b1
  . --
   iterate 6 refine eN ?_
   refine e0 ?_;refine sxEnd (fun W3 hK=>?_);go_wp2
   try go_ret
   show Q0 (.returned (.bool false)) _
   exact(qo hQ0 ⟨(by rw[hb1.out];rfl),hK.old⟩)
  iterate 2 refine e0 ?_
  refine eL m0 ?_;refine e0 ?_;obtain⟨b2,hb2⟩:=nmB (nnB y&&decide (y.length=al));refine eQ (v:=.bool b2) (fun w k=>qnatural_any w (hy.below k.old) al (by omega)) ?_ (hv:=by rw[hb2.out])
  iterate 2 refine e0 ?_
  refine sxEnd (fun W4 hK=>?_)
  cases b2
  . --
   have hcl:=hA.one0;go_wp2
   try go_ret
   show Q0 (.returned (.bool false)) _
   exact(qo hQ0 ⟨(by unfold covB;have q:=hb2.out;rw[hcl]at q;rw[Bool.and_comm (nnB y)]at q;rw[q];simp),hK.old⟩)
  have hv:=hid (show vldP P=true from hb1.out);have hM:=hm hv.out;have hP:=vld_ok hv.out;have hn12:=hM.n;have hm12:=hM.m;have⟨hPb,hPb2⟩:=lle hP.hb;have hyy:nnB y=true/\y.length=P.A.length:=(by have q:=hb2.out;simp only[Bool.and_eq_true,decide_eq_true_eq]at q;exact⟨q.1,q.2.trans (by omega)⟩);have hyl:=hid hyy.2;have⟨hyl1,hyl2⟩:=lle hyy.2;have hyn:=hid hyy.1;clear hyy;go_upto_region 3 with(fail);refine wp_region_T [0,1,0,0] hK ?_;clear hK;refine e0 ?_;refine eL m0 ?_
  iterate 2 refine e0 ?_
  refine sxEnd (fun W5 hK=>?_);go_wp2_with fail;go_loopw [21] (fun s21 wl=> ∃(m:Nat),s21=.int .i64 (m:Int)/\(m<=cl)/\Hid (allN (covP P y P.c) m=true)/\SS w ([bx R1 (.cells #[.slice cp cl cc,.slice ap al ac,.slice bp bl bc] 37)]) wl) (fun s21 _=>cl-(intOf s21).toNat)
  case atStart=>exact⟨0,rfl,(by omega),hid rfl,hK⟩
  clear hK;obtain⟨m,rfl,hm0,h_o,hK⟩:=hrel;generalize wr=W6 at hK⊢;go_upto_region 4 with(fail);refine wp_region_T [0] hK ?_;clear hK;refine eB (decide (((m:Int))<((cl:Int)))) (fun b3 hb3=>?_);refine sxEnd (fun W7 hK=>?_)
  cases b3
  . --
   have q_b3:=nlt hb3;go_wp2
   try go_ret
   show Q0 (.returned (.bool true)) _
   exact(qo hQ0 ⟨(by unfold covB;rw[show P.c.length=m from(by omega),h_o.out,hyn.out,hv.out,decide_eq_true hyl.out];rfl),hK.old⟩)
  have q_b3:=ylt hb3;have i8:m<cl:=(by omega);obtain⟨g8,o8,rfl⟩:=hC.pt i8;have l8:m<P.c.length:=Nat.lt_of_lt_of_eq i8 (hC.one0);obtain⟨xb,exb⟩:=gtH l8;obtain⟨_,_,_,xb_c,xb_r⟩:=hC.rat exb.out;obtain⟨rfl,⟨xb_p,xb_n,xb_d,rfl⟩,xb_q,xb_m,xb_e,rfl⟩:=ratV_cells' xb_r;have hxb:=hM.c xb (List.mem_of_getElem? exb.out);go_upto_region 5 with(fail);refine wp_region_T [0,0,0,3,0,4] hK ?_;clear hK
  iterate 2 refine e0 ?_
  refine eRm3 (fun w k=>xb_c.below k.old) ?_;refine eA (.cells #[.bool false,.slice none 0 0,.slice none 0 0] 43) (fun R9=>?_);refine e0 ?_;refine eP 0 0 [.bool (isN xb),.slice xb_p xb_n xb_d,.slice xb_q xb_m xb_e] ?_;refine sxEnd (fun W10 hK=>?_);go_upto_region 6 with(fail);refine wp_region_S _ [0,0,0,2,0,1,0] hK ?_ (sR);clear hK;refine eL0 m1 ?_
  iterate 2 refine e0 ?_
  refine eC (fun w k=>qcol_any (P:=P) (ys:=y) (k0:=m) w (hC.below k.old) (hA.below k.old) (hB.below k.old) (hy.below k.old) (by omega) (by omega) (by omega) (fun a ha=>by rw[hP.ha a ha];omega) my (hM.colm hk1) hk2 (Nat.le_trans (Nat.succ_le_succ (Nat.mul_le_mul_left _ (by omega))) hk)) (fun x11=>?_);obtain⟨⟨p12,l12,c12⟩,⟨q12,u12,d12⟩⟩:=x11;dsimp only;refine eL0 m0 ?_;obtain⟨z1,hz1⟩:=nmI (sgQ ((colQ P y m)-xb));refine eQ (v:=.int .i64 z1) (fun w k=>qcmp_any _ _ _ _ w (k.q m0) (xb_r.below k.old) ((dotQ_lm my (hM.colm hk1)).up (Nat.le_trans (Nat.succ_le_succ (Nat.mul_le_mul_left _ (by omega))) hk)) (hxb.up (by omega)) (by first|decide|omega)) ?_ (hv:=by rw[hz1.out]);refine eB (decide (z1<0)) (fun b4 hb4=>?_);refine sxEnd (fun W13 hK=>?_)
  cases b4
  . --
   have q_b4:=nlt hb4
   (try go_wp2)
   go_roundw
   case rel=>exact⟨m+1,(by first|rfl|go_num),(by omega),hid (allN_step h_o.out (by unfold covP;rw[getD_of exb.out];exact decide_eq_true (ge_of_sg hz1.out q_b4))),(hK.subl (sC2 (sC2 (sR))))⟩
   case measure=>simp[intOf]<;>omega
  have q_b4:=ylt hb4;go_wp2
  try go_ret
  show Q0 (.returned (.bool false)) _
  exact(qo hQ0 ⟨(by unfold covB;rw[allN_no (k:=m) (by omega) (by unfold covP;rw[getD_of exb.out];exact decide_eq_false (lt_of_sg hz1.out q_b4))];simp),hK.old⟩)
set_option maxRecDepth 100000 in
set_option maxHeartbeats 400000 in
theorem cgap_any(w:World){cp ap bp:Option Addr}{cl cc al ac bl bc:Nat}{P:LPd}{xp:Option Addr}{xl xc:Nat}{x:List Rat}{yp:Option Addr}{yl yc:Nat}{y:List Rat}(hC:SlV ratK w (.slice cp cl cc) P.c)(hA:SlV rrK w (.slice ap al ac) P.A)(hB:SlV ratK w (.slice bp bl bc) P.b){k:Nat}(hm:vldP P=true->LmP k P)(hk:(k+k+1)*12+1<=9999)(hk1:1<=k)(hn1:P.c.length<=100000)(hn2:P.A.length<=100000)(hn3:P.b.length<=100000)(hx:SlV ratK w (.slice xp xl xc) x)(lx:x.length<=100000)(mx:LmL k x)(hy:SlV ratK w (.slice yp yl yc) y)(ly:y.length<=100000)(my:LmL k y):
    Calls Tryz.prog 26 #[.agg #[.slice cp cl cc,.slice ap al ac,.slice bp bl bc],.slice xp xl xc,.slice yp yl yc] w fun e w'=> ∃u:Duo Sl Sl,e=.returned (.tuple #[.agg #[.bool (isN (gapQ P x y)),.slice u.a.p u.a.l u.a.c,.slice u.b.p u.b.l u.b.c],.int .i64 (gapE P x y)])/\SS w [qF (.agg #[.bool (isN (gapQ P x y)),.slice u.a.p u.a.l u.a.c,.slice u.b.p u.b.l u.b.c]) (gapQ P x y)] w':=by
  have hK:=SS.start w;have⟨nc1,nc2⟩:=lle hC.one0;have⟨na1,na2⟩:=lle hA.one0;have⟨nb1,nb2⟩:=lle hB.one0;have⟨nx1,nx2⟩:=lle hx.one0;have⟨ny1,ny2⟩:=lle hy.one0;have hk2:k<=4000:=(by omega);refine Calls.hide (fun Q0 hQ0=>?_);go_enter Tryz.func26,Tryz.ntmps26;go_upto_region 0 with(fail);refine wp_region_T [3,3,0] hK ?_;clear hK;refine eA (.cells #[.slice cp cl cc,.slice ap al ac,.slice bp bl bc] 37) (fun R1=>?_);refine eA (.cells #[.bool false,.slice none 0 0,.slice none 0 0] 43) (fun R2=>?_);refine e0 ?_;refine sxEnd (fun W3 hK=>?_);go_upto_region 1 with(fail);refine wp_region_T [1,1,0] hK ?_;clear hK;refine eL m1 ?_;obtain⟨b1,hb1⟩:=nmB (vldP P);refine eQ (v:=.bool b1) (fun w k=>lpvalid_any w (hC.below k.old) (hA.below k.old) (hB.below k.old) (by omega) (by omega) (by omega)) ?_ (hv:=by rw[hb1.out]);refine e0 ?_;refine sxEnd (fun W4 hK=>?_)
  cases b1
  . --
   go_upto_region 2 with(fail);refine wp_region_T [0,4,0] hK ?_;clear hK;refine e0 ?_;refine eP 0 0 [.bool false,.slice none 0 0,.slice none 0 0] ?_;refine e0 ?_;refine sxEnd (fun W5 hK=>?_);have hge:gapE P x y=1:=(by unfold gapE;rw[if_pos hb1.out]);have hgq:gapQ P x y=0:=(by unfold gapQ;rw[if_neg (by rw[hge];decide)]);replace hK:=hK.fact (qF (.agg #[.bool false,.slice none 0 0,.slice none 0 0]) (0:Rat)) (RatV.zero _);have⟨c90,c91,c92⟩:=(hK.box m1).c3;replace hK:=hK.subl (sK2 (sC2 (sC2 sZ2)));go_wp2;exact bodyPost_ret (v:=.tuple #[.agg #[.bool false,.slice none 0 0,.slice none 0 0],.int .i64 1]) (by simp[results,Tryz.results26,go_sem,c90,c91,c92]) rfl (by obtain rfl:=hQ0.out;rw[hge];rw[hgq];exact⟨⟨⟨none,0,0⟩,⟨none,0,0⟩⟩,rfl,hK⟩)
  go_upto_region 3 with(fail);refine wp_region_T [1,0,1,0] hK ?_;clear hK;refine eL m1 ?_;refine e0 ?_;obtain⟨b2,hb2⟩:=nmB (vldP P&&feaB P x);refine eQ (v:=.bool b2) (fun w k=>cfeas_any w (hC.below k.old) (hA.below k.old) (hB.below k.old) hm hk hk1 hn1 hn2 hn3 (hx.below k.old) lx mx) ?_ (hv:=by rw[hb2.out]);refine e0 ?_;refine sxEnd (fun W6 hK=>?_)
  cases b2
  . --
   go_upto_region 4 with(fail);refine wp_region_T [0,4,0] hK ?_;clear hK;refine e0 ?_;refine eP 0 0 [.bool false,.slice none 0 0,.slice none 0 0] ?_;refine e0 ?_;refine sxEnd (fun W7 hK=>?_);have hge:gapE P x y=13:=(by have hv:=hb1.out;have q:=hb2.out;rw[hv]at q;unfold gapE;rw[if_neg (by rw[hv];simp),if_pos (show feaB P x=false from q)]);have hgq:gapQ P x y=0:=(by unfold gapQ;rw[if_neg (by rw[hge];decide)]);replace hK:=hK.fact (qF (.agg #[.bool false,.slice none 0 0,.slice none 0 0]) (0:Rat)) (RatV.zero _);have⟨c90,c91,c92⟩:=(hK.box m1).c3;replace hK:=hK.subl (sK2 (sC2 (sC2 sZ2)));go_wp2;exact bodyPost_ret (v:=.tuple #[.agg #[.bool false,.slice none 0 0,.slice none 0 0],.int .i64 13]) (by simp[results,Tryz.results26,go_sem,c90,c91,c92]) rfl (by obtain rfl:=hQ0.out;rw[hge];rw[hgq];exact⟨⟨⟨none,0,0⟩,⟨none,0,0⟩⟩,rfl,hK⟩)
  go_upto_region 5 with(fail);refine wp_region_T [1,0,1,0] hK ?_;clear hK;refine eL m1 ?_;refine e0 ?_;obtain⟨b3,hb3⟩:=nmB (vldP P&&covB P y P.c);refine eQ (v:=.bool b3) (fun w k=>csuff_any w (hC.below k.old) (hA.below k.old) (hB.below k.old) hm hk hk1 hn1 hn2 hn3 (hy.below k.old) ly my) ?_ (hv:=by rw[hb3.out]);refine e0 ?_;refine sxEnd (fun W8 hK=>?_)
  cases b3
  . --
   go_upto_region 6 with(fail);refine wp_region_T [0,4,0] hK ?_;clear hK;refine e0 ?_;refine eP 0 0 [.bool false,.slice none 0 0,.slice none 0 0] ?_;refine e0 ?_;refine sxEnd (fun W9 hK=>?_);have hge:gapE P x y=7:=(by have hv:=hb1.out;have q:=hb2.out;have q2:=hb3.out;rw[hv]at q q2;unfold gapE;rw[if_neg (by rw[hv];simp),if_neg (by rw[show feaB P x=true from q];simp),if_pos (show covB P y P.c=false from q2)]);have hgq:gapQ P x y=0:=(by unfold gapQ;rw[if_neg (by rw[hge];decide)]);replace hK:=hK.fact (qF (.agg #[.bool false,.slice none 0 0,.slice none 0 0]) (0:Rat)) (RatV.zero _);have⟨c90,c91,c92⟩:=(hK.box m1).c3;replace hK:=hK.subl (sK2 (sC2 (sC2 sZ2)));go_wp2;exact bodyPost_ret (v:=.tuple #[.agg #[.bool false,.slice none 0 0,.slice none 0 0],.int .i64 7]) (by simp[results,Tryz.results26,go_sem,c90,c91,c92]) rfl (by obtain rfl:=hQ0.out;rw[hge];rw[hgq];exact⟨⟨⟨none,0,0⟩,⟨none,0,0⟩⟩,rfl,hK⟩)
  have hv:=hid (show vldP P=true from hb1.out);have hM:=hm hv.out;have hP:=vld_ok hv.out;have hn12:=hM.n;have hm12:=hM.m;have⟨hPb,hPb2⟩:=lle hP.hb;have hfx:=hid (show feaB P x=true from(by have q:=hb2.out;rw[hv.out]at q;exact q));have hsy:=hid (show covB P y P.c=true from(by have q:=hb3.out;rw[hv.out]at q;exact q));have hxl:=(fea_iff.1 hfx.out).1;have⟨hxl1,hxl2⟩:=lle hxl;have hyl:=(cov_iff.1 hsy.out).1;have⟨hyl1,hyl2⟩:=lle hyl;clear hxl hyl;go_upto_region 7 with(fail);refine wp_region_S _ [0,0,0,2,0,0,0,2,2,4,0] hK ?_ (sC2 (sR));clear hK
  iterate 2 refine e0 ?_
  refine eL0 m0 ?_;refine eC (fun w k=>qdot_any (xs:=y) (ys:=P.b) w (hy.below k.old) (hB.below k.old) (by omega) (by omega) my hM.b hk2 (Nat.le_trans (Nat.succ_le_succ (Nat.mul_le_mul_left _ (by omega))) hk)) (fun x10=>?_);obtain⟨⟨p11,l11,c11⟩,⟨q11,u11,d11⟩⟩:=x10;dsimp only;refine e0 ?_;refine eL0 m0 ?_;refine e0 ?_;refine eC (fun w k=>qdot_any (xs:=P.c) (ys:=x) w (hC.below k.old) (hx.below k.old) (by omega) (by omega) hM.c mx hk2 (Nat.le_trans (Nat.succ_le_succ (Nat.mul_le_mul_left _ (by omega))) hk)) (fun x12=>?_);obtain⟨⟨p13,l13,c13⟩,⟨q13,u13,d13⟩⟩:=x12;dsimp only;refine eC (fun w k=>rat_S (qsub_any _ _ _ _ w (k.q m1) (k.q m0) ((dotQ_lm my hM.b).up (Nat.le_trans (Nat.succ_le_succ (Nat.mul_le_mul_left _ (by omega))) hk)) ((dotQ_lm hM.c mx).up (Nat.le_trans (Nat.succ_le_succ (Nat.mul_le_mul_left _ (by omega))) hk)) (k:=9999) (by decide))) (fun x14=>?_);obtain⟨⟨p15,l15,c15⟩,⟨q15,u15,d15⟩⟩:=x14;dsimp only;refine eP 3 0 [.bool (isN ((dotQ y P.b)-(dotQ P.c x))),.slice p15 l15 c15,.slice q15 u15 d15] ?_ (hs:=(sC2 (sC2 (sC2 (sC2 (sR)))))) (hq:=.inr ⟨rfl,rfl,rfl,rfl,trivial⟩);refine e0 ?_;refine sxEnd (fun W16 hK=>?_);have hge:gapE P x y=0:=(gap_ok hv.out).2 ⟨hfx.out,hsy.out⟩;have hgq:gapQ P x y=dotQ y P.b-dotQ P.c x:=(by unfold gapQ;rw[if_pos hge]);rw[show(dotQ y P.b)-(dotQ P.c x)=gapQ P x y from hgq.symm]at hK;have⟨c90,c91,c92⟩:=(hK.box m3).c3;replace hK:=hK.subl (sK2 (sC2 (sC2 (sC2 (sC2 sZ2)))));go_wp2;exact bodyPost_ret (v:=.tuple #[.agg #[.bool (isN (gapQ P x y)),.slice p15 l15 c15,.slice q15 u15 d15],.int .i64 0]) (by simp[results,Tryz.results26,go_sem,c90,c91,c92]) rfl (by obtain rfl:=hQ0.out;rw[hge];exact⟨⟨⟨p15,l15,c15⟩,⟨q15,u15,d15⟩⟩,rfl,hK⟩)
end
section
theorem sgn_ge{x:Rat}{z:Int}(hz:sgQ x=z)(h:0<=z):0<=x:=Rat.not_lt.1 fun e=>by have:=(sgx_lt hz).2 e;omega
theorem sgn_lt{x:Rat}{z:Int}(hz:sgQ x=z)(h:z<0):¬0<=x:=fun e=>by have:=(sgx_lt hz).1 h;grind
theorem cov0{P:LPd}{y:List Rat}{m n:Nat}(h:0<=colQ P y m):covP P y (zerosQ n) m=true:=by unfold covP;rw[zeros_at];exact decide_eq_true h
theorem cov0n{P:LPd}{y:List Rat}{m n:Nat}(h:¬0<=colQ P y m):covP P y (zerosQ n) m=false:=by unfold covP;rw[zeros_at];exact decide_eq_false h
theorem sg0_of{x:Rat}{z:Int}(hz:sgQ x=z):decide (x=0)=decide (z=0):=by rw[Bool.eq_iff_iff];simp only[decide_eq_true_eq];exact(sgx_z hz).symm
theorem sgl_of{x:Rat}{z:Int}(hz:sgQ x=z):decide (x<0)=decide (z<0):=by rw[Bool.eq_iff_iff];simp only[decide_eq_true_eq];exact(sgx_lt hz).symm
theorem sgg_of{x:Rat}{z:Int}(hz:sgQ x=z):decide (0<x)=decide (0<z):=by rw[Bool.eq_iff_iff];simp only[decide_eq_true_eq];exact(sgx_gt hz).symm
theorem len0{α:Type}{l:List α}{n:Nat}(h:n=l.length):decide (l.length=0)=decide (n=0):=by rw[h]
set_option maxRecDepth 100000 in
set_option maxHeartbeats 400000 in
theorem copt_any(w:World){kk:Int}{cp ap bp:Option Addr}{cl cc al ac bl bc:Nat}{P:LPd}{xp yp rp zp zq:Option Addr}{xl xc yl yc rl rc zl zc zu zd:Nat}{zn:Bool}{x y r:List Rat}{z:Rat}(hC:SlV ratK w (.slice cp cl cc) P.c)(hA:SlV rrK w (.slice ap al ac) P.A)(hB:SlV ratK w (.slice bp bl bc) P.b){k:Nat}(hM:LmP k P)(hk:(k+k+1)*12+1<=9999)(hk1:1<=k)(hx:SlV ratK w (.slice xp xl xc) x)(lx:x.length<=100000)(mx:LmL k x)(hy:SlV ratK w (.slice yp yl yc) y)(ly:y.length<=100000)(my:LmL k y)(hr:SlV ratK w (.slice rp rl rc) r)(lr:r.length<=100000)(_mr:LmL k r)(hz:RatV w (.agg #[.bool zn,.slice zp zl zc,.slice zq zu zd]) z)(mz:LmQ k z)(hv:vldP P=true):
    Calls Tryz.prog 40 #[.agg #[.slice cp cl cc,.slice ap al ac,.slice bp bl bc],.agg #[.int .i64 kk,.slice xp xl xc,.slice yp yl yc,.slice rp rl rc,.bool zn,.slice zp zl zc,.slice zq zu zd]] w fun e w'=>e=.returned (.bool (chk1 P ⟨kk,x,y,r,z⟩))/\Below w.heap.size w w':=by
  have hK:=SS.start w;have⟨nc1,nc2⟩:=lle hC.one0;have⟨na1,na2⟩:=lle hA.one0;have⟨nb1,nb2⟩:=lle hB.one0;have⟨nx1,nx2⟩:=lle hx.one0;have⟨ny1,ny2⟩:=lle hy.one0;have⟨nr1,nr2⟩:=lle hr.one0;have hk2:k<=4000:=(by omega);have hP:=vld_ok hv;have hn12:=hM.n;have hm12:=hM.m;have⟨hPb,hPb2⟩:=lle hP.hb;have hn1:P.c.length<=100000:=(by omega);have hn2:P.A.length<=100000:=(by omega);have hn3:P.b.length<=100000:=(by omega);refine Calls.hide (fun Q0 hQ0=>?_);go_enter Tryz.func40,Tryz.ntmps40;go_upto_region 0 with(fail);refine wp_region_T [3,3,0] hK ?_;clear hK;refine eA (.cells #[.slice cp cl cc,.slice ap al ac,.slice bp bl bc] 37) (fun R1=>?_);refine eA (.cells #[.int .i64 kk,.slice xp xl xc,.slice yp yl yc,.slice rp rl rc,.bool zn,.slice zp zl zc,.slice zq zu zd] 45) (fun R2=>?_);refine e0 ?_;refine sxEnd (fun W3 hK=>?_);go_upto_region 1 with(fail);refine wp_region_T [1,0,1,0,1,2,0,0,0,3,4,0] hK ?_;clear hK;refine eL m1 ?_;refine e0 ?_;refine eL m0 ?_;refine e0 ?_;refine eL m0 ?_;obtain⟨z1,hz1⟩:=nmI (gapE P x y);refine eC (fun w k=>(by have q:=cgap_any w (hC.below k.old) (hA.below k.old) (hB.below k.old) (fun _=>hM) hk hk1 hn1 hn2 hn3 (hx.below k.old) lx mx (hy.below k.old) ly my;rw[hz1.out]at q;exact q)) (fun x4=>?_);obtain⟨⟨p5,l5,c5⟩,⟨q5,u5,d5⟩⟩:=x4;dsimp only
  iterate 3 refine e0 ?_
  refine eA (.cells #[.bool false,.slice none 0 0,.slice none 0 0] 43) (fun R6=>?_);refine eP 0 0 [.bool (isN (gapQ P x y)),.slice p5 l5 c5,.slice q5 u5 d5] ?_ (hq:=.inr ⟨rfl,rfl,rfl,trivial⟩);refine e0 ?_;refine sxEnd (fun W7 hK=>?_);go_upto_region 2 with(fail);refine wp_region_T [0,0,0,1,1,0,0,0,0,1,0,0,0] hK ?_;clear hK;refine e0 ?_;refine eB (z1 !=0) (fun b1 hb1=>?_);refine e0 ?_
  cases b1
  . --
   refine eL m0 ?_;obtain⟨z2,hz2⟩:=nmI (sgQ (gapQ P x y));refine eQ (v:=.int .i64 z2) (fun w k=>sign_any _ _ w (k.q m1)) ?_ (hv:=by rw[hz2.out]);refine eB (z2 !=0) (fun b2 hb2=>?_)
   iterate 2 refine e0 ?_
   cases b2
   . --
    refine e0 ?_;refine eL m2 ?_;refine e0 ?_;refine eB (decide (0<((rl:Int)))) (fun b3 hb3=>?_);refine e0 ?_;refine sxEnd (fun W8 hK=>?_)
    cases b3
    . --
     have q_b3:=nlt hb3;have hg0:=hid (show gapE P x y=0 from(by have q:=hb1.out;simp at q;rw[hz1.out];exact q));have hxl:=(fea_iff.1 ((gap_ok hv).1 hg0.out).1).1;have⟨hxl1,hxl2⟩:=lle hxl;clear hxl;go_upto_region 4 with(fail);refine wp_region_S _ [0,0,0,0,2,0,0,1,0,0] hK ?_ (sR);clear hK;refine e0 ?_;refine eL0 m3 ?_;refine e0 ?_;refine eL0 m2 ?_;refine eC (fun w k=>qdot_any (xs:=P.c) (ys:=x) w (hC.below k.old) (hx.below k.old) (by omega) (by omega) hM.c mx hk2 (Nat.le_trans (Nat.succ_le_succ (Nat.mul_le_mul_left _ (by omega))) hk)) (fun x9=>?_);obtain⟨⟨p10,l10,c10⟩,⟨q10,u10,d10⟩⟩:=x9;dsimp only;refine e0 ?_;refine eL0 m2 ?_;obtain⟨z3,hz3⟩:=nmI (sgQ ((dotQ P.c x)-z));refine eQ (v:=.int .i64 z3) (fun w k=>qcmp_any _ _ _ _ w (k.q m0) (hz.below k.old) ((dotQ_lm hM.c mx).up (Nat.le_trans (Nat.succ_le_succ (Nat.mul_le_mul_left _ (by omega))) hk)) (mz.up (by omega)) (k:=9999) (by first|decide|omega)) ?_ (hv:=by rw[hz3.out]);refine eB (z3==0) (fun b4 hb4=>?_);refine e0 ?_;refine sxEnd (fun W11 hK=>?_);have hrl9:=hid hr.one0;go_wp2
     try go_ret
     show Q0 (.returned (.bool b4)) _
     exact(qo hQ0 ⟨(by have qb1:=hb1.out;(try simp at qb1);have qb2:=hb2.out;(try simp at qb2);have qb3:=hb3.out;(try simp at qb3);have e1:=(sgx_z hz2.out).trans Iff.rfl;unfold chk1;rw[hz1.out];have e2:decide (dotQ P.c x=z)=b4:=(by rw[<-same_of hz3.out, <-hb4.out]);rw[e2,show r.length=0 from(by have q:=hrl9.out;omega),show gapQ P x y=0 from e1.1 (by omega)];simp_all),hK.old⟩)
    have q_b3:=ylt hb3;have hrl9:=hid hr.one0;go_wp2
    try go_ret
    show Q0 (.returned (.bool false)) _
    exact(qo hQ0 ⟨(by have qb1:=hb1.out;(try simp at qb1);have qb2:=hb2.out;(try simp at qb2);have qb3:=hb3.out;(try simp at qb3);unfold chk1;rw[hz1.out];rw[sg0_of hz2.out,len0 hr.one0];first|(rw[show decide (z2=0)=false from decide_eq_false (by omega)];simp)|(rw[show decide (rl=0)=false from decide_eq_false (by omega)];simp)),hK.old⟩)
   iterate 4 refine eN ?_
   refine e0 ?_;refine sxEnd (fun W12 hK=>?_);have hrl9:=hid hr.one0;go_wp2
   try go_ret
   show Q0 (.returned (.bool false)) _
   exact(qo hQ0 ⟨(by have qb1:=hb1.out;(try simp at qb1);have qb2:=hb2.out;(try simp at qb2);unfold chk1;rw[hz1.out];rw[sg0_of hz2.out,len0 hr.one0];first|(rw[show decide (z2=0)=false from decide_eq_false (by omega)];simp)|(rw[show decide (rl=0)=false from decide_eq_false (by omega)];simp)),hK.old⟩)
  iterate 3 refine eN ?_
  iterate 2 refine e0 ?_
  iterate 4 refine eN ?_
  refine e0 ?_;refine sxEnd (fun W13 hK=>?_);have hrl9:=hid hr.one0;go_wp2
  try go_ret
  show Q0 (.returned (.bool false)) _
  exact(qo hQ0 ⟨(by have qb1:=hb1.out;(try simp at qb1);unfold chk1;rw[hz1.out];rw[decide_eq_false (by omega)];rfl),hK.old⟩)
set_option maxRecDepth 100000 in
set_option maxHeartbeats 400000 in
theorem cinf_any(w:World){kk:Int}{cp ap bp:Option Addr}{cl cc al ac bl bc:Nat}{P:LPd}{xp yp rp zp zq:Option Addr}{xl xc yl yc rl rc zl zc zu zd:Nat}{zn:Bool}{x y r:List Rat}{z:Rat}(hC:SlV ratK w (.slice cp cl cc) P.c)(hA:SlV rrK w (.slice ap al ac) P.A)(hB:SlV ratK w (.slice bp bl bc) P.b){k:Nat}(hM:LmP k P)(hk:(k+k+1)*12+1<=9999)(hk1:1<=k)(hx:SlV ratK w (.slice xp xl xc) x)(lx:x.length<=100000)(_mx:LmL k x)(hy:SlV ratK w (.slice yp yl yc) y)(ly:y.length<=100000)(my:LmL k y)(hr:SlV ratK w (.slice rp rl rc) r)(lr:r.length<=100000)(_mr:LmL k r)(hz:RatV w (.agg #[.bool zn,.slice zp zl zc,.slice zq zu zd]) z)(_mz:LmQ k z)(hv:vldP P=true):
    Calls Tryz.prog 41 #[.agg #[.slice cp cl cc,.slice ap al ac,.slice bp bl bc],.agg #[.int .i64 kk,.slice xp xl xc,.slice yp yl yc,.slice rp rl rc,.bool zn,.slice zp zl zc,.slice zq zu zd]] w fun e w'=>e=.returned (.bool (chk2 P ⟨kk,x,y,r,z⟩))/\Below w.heap.size w w':=by
  have hK:=SS.start w;have⟨nc1,nc2⟩:=lle hC.one0;have⟨na1,na2⟩:=lle hA.one0;have⟨nb1,nb2⟩:=lle hB.one0;have⟨nx1,nx2⟩:=lle hx.one0;have⟨ny1,ny2⟩:=lle hy.one0;have⟨nr1,nr2⟩:=lle hr.one0;have hk2:k<=4000:=(by omega);have hP:=vld_ok hv;have hn12:=hM.n;have hm12:=hM.m;have⟨hPb,hPb2⟩:=lle hP.hb;have hn1:P.c.length<=100000:=(by omega);have hn2:P.A.length<=100000:=(by omega);have hn3:P.b.length<=100000:=(by omega);refine Calls.hide (fun Q0 hQ0=>?_);go_enter Tryz.func41,Tryz.ntmps41;go_upto_region 0 with(fail);refine wp_region_T [3,3,0] hK ?_;clear hK;refine eA (.cells #[.slice cp cl cc,.slice ap al ac,.slice bp bl bc] 37) (fun R1=>?_);refine eA (.cells #[.int .i64 kk,.slice xp xl xc,.slice yp yl yc,.slice rp rl rc,.bool zn,.slice zp zl zc,.slice zq zu zd] 45) (fun R2=>?_);refine e0 ?_;refine sxEnd (fun W3 hK=>?_);go_upto_region 1 with(fail);refine wp_region_T [0,1,0,0,0,0,1,0,0,0,0,0,1,1,0,0,0,0,1,0,1,0,1,0,0] hK ?_;clear hK;refine e0 ?_;refine eL m0 ?_;refine e0 ?_;refine eB (decide (0<((xl:Int)))) (fun b1 hb1=>?_);refine e0 ?_
  cases b1
  . --
   have q_b1:=nlt hb1;refine e0 ?_;refine eL m0 ?_;refine e0 ?_;refine eB (decide (0<((rl:Int)))) (fun b2 hb2=>?_)
   iterate 2 refine e0 ?_
   cases b2
   . --
    have q_b2:=nlt hb2;refine e0 ?_;refine eL m0 ?_;obtain⟨z1,hz1⟩:=nmI (sgQ (z));refine eQ (v:=.int .i64 z1) (fun w k=>sign_any _ _ w (hz.below k.old)) ?_ (hv:=by rw[hz1.out]);refine eB (z1 !=0) (fun b3 hb3=>?_)
    iterate 2 refine e0 ?_
    cases b3
    . --
     refine e0 ?_;refine eL m0 ?_;refine e0 ?_;refine eL m1 ?_;refine e0 ?_;obtain⟨b4,hb4⟩:=nmB (nnB y&&decide (y.length=al));refine eQ (v:=.bool b4) (fun w k=>qnatural_any w (hy.below k.old) al (by omega)) ?_ (hv:=by rw[hb4.out])
     iterate 2 refine e0 ?_
     refine sxEnd (fun W4 hK=>?_)
     cases b4
     . --
      have hx9:=hid (len0 hx.one0);have hr9:=hid (len0 hr.one0);have ha9:=hid hA.one0;go_wp2
      try go_ret
      show Q0 (.returned (.bool false)) _
      exact(qo hQ0 ⟨(by have qb1:=hb1.out;(try simp at qb1);have qb2:=hb2.out;(try simp at qb2);have qb3:=hb3.out;(try simp at qb3);have qb4:=hb4.out;(try simp at qb4);unfold chk2;rw[hx9.out,hr9.out,sg0_of hz1.out];have q9:=hb4.out;rw[ha9.out,Bool.and_comm (nnB y)]at q9;rw[q9];simp),hK.old⟩)
     go_upto_region 3 with(fail);refine wp_region_T [0,1,0,0] hK ?_;clear hK;refine e0 ?_;refine eL m1 ?_
     iterate 2 refine e0 ?_
     refine sxEnd (fun W5 hK=>?_);have hyy:nnB y=true/\y.length=P.A.length:=(by have q:=hb4.out;simp only[Bool.and_eq_true,decide_eq_true_eq]at q;exact⟨q.1,q.2.trans (by omega)⟩);have hyl:=hid hyy.2;have⟨hyl1,hyl2⟩:=lle hyy.2;have hyn:=hid hyy.1;clear hyy;go_wp2_with fail;go_loopw [34] (fun s34 wl=> ∃(m:Nat),s34=.int .i64 (m:Int)/\(m<=cl)/\Hid (allN (covP P y (zerosQ P.c.length)) m=true)/\SS w ([bx R2 (.cells #[.int .i64 kk,.slice xp xl xc,.slice yp yl yc,.slice rp rl rc,.bool zn,.slice zp zl zc,.slice zq zu zd] 45),bx R1 (.cells #[.slice cp cl cc,.slice ap al ac,.slice bp bl bc] 37)]) wl) (fun s34 _=>cl-(intOf s34).toNat)
     case atStart=>exact⟨0,rfl,(by omega),hid rfl,hK⟩
     clear hK;obtain⟨m,rfl,hm0,h_o,hK⟩:=hrel;generalize wr=W6 at hK⊢;go_upto_region 4 with(fail);refine wp_region_T [0] hK ?_;clear hK;refine eB (decide (((m:Int))<((cl:Int)))) (fun b5 hb5=>?_);refine sxEnd (fun W7 hK=>?_)
     cases b5
     . --
      have q_b5:=nlt hb5;go_upto_region 9 with(fail);refine wp_region_T [0,1,0,1,2,1,0,0] hK ?_;clear hK;refine e0 ?_;refine eL m0 ?_;refine e0 ?_;refine eL m1 ?_;refine eC (fun w k=>qdot_any (xs:=y) (ys:=P.b) w (hy.below k.old) (hB.below k.old) (by omega) (by omega) my hM.b hk2 (Nat.le_trans (Nat.succ_le_succ (Nat.mul_le_mul_left _ (by omega))) hk)) (fun x8=>?_);obtain⟨⟨p9,l9,c9⟩,⟨q9,u9,d9⟩⟩:=x8;dsimp only;obtain⟨z2,hz2⟩:=nmI (sgQ (dotQ y P.b));refine eQ (v:=.int .i64 z2) (fun w k=>sign_any _ _ w (k.q m0)) ?_ (hv:=by rw[hz2.out]);refine eB (decide (z2<0)) (fun b6 hb6=>?_);refine e0 ?_;refine sxEnd (fun W10 hK=>?_);have hx9:=hid (len0 hx.one0);have hr9:=hid (len0 hr.one0);have ha9:=hid hA.one0;go_wp2
      try go_ret
      show Q0 (.returned (.bool b6)) _
      exact(by obtain rfl:=hQ0.out;exact⟨(by have qb1:=hb1.out;(try simp at qb1);have qb2:=hb2.out;(try simp at qb2);have qb3:=hb3.out;(try simp at qb3);have qb4:=hb4.out;(try simp at qb4);have qb5:=hb5.out;(try simp at qb5);have h_o9:Hid (allN (covP P y (zerosQ P.c.length)) P.c.length=true):=hid (by have q:=h_o.out;rwa [show m=P.c.length from(by omega)]at q);unfold chk2;rw[hx9.out,hr9.out,sg0_of hz1.out];rw[decide_eq_true (show xl=0 from(by omega)),decide_eq_true (show rl=0 from(by omega)),decide_eq_true (show z1=0 from(by omega)),decide_eq_true hyl.out,hyn.out,h_o9.out,sgl_of hz2.out,hb6.out];rfl),hK.old⟩)
     have q_b5:=ylt hb5;go_upto_region 6 with(fail);refine wp_region_T [1,0,1,0,2,1,0] hK ?_;clear hK;refine eL m1 ?_;refine e0 ?_;refine eL m0 ?_;refine e0 ?_;refine eC (fun w k=>qcol_any (P:=P) (ys:=y) (k0:=m) w (hC.below k.old) (hA.below k.old) (hB.below k.old) (hy.below k.old) (by omega) (by omega) (by omega) (fun a ha=>by rw[hP.ha a ha];omega) my (hM.colm hk1) hk2 (Nat.le_trans (Nat.succ_le_succ (Nat.mul_le_mul_left _ (by omega))) hk)) (fun x11=>?_);obtain⟨⟨p12,l12,c12⟩,⟨q12,u12,d12⟩⟩:=x11;dsimp only;obtain⟨z2,hz2⟩:=nmI (sgQ (colQ P y m));refine eQ (v:=.int .i64 z2) (fun w k=>sign_any _ _ w (k.q m0)) ?_ (hv:=by rw[hz2.out]);refine eB (decide (z2<0)) (fun b6 hb6=>?_);refine sxEnd (fun W13 hK=>?_)
     cases b6
     . --
      have q_b6:=nlt hb6
      (try go_wp2)
      go_roundw
      case rel=>exact⟨m+1,(by first|rfl|go_num),(by omega),hid (allN_step h_o.out (cov0 (sgn_ge hz2.out q_b6))),(hK.subl (sC2 (sR)))⟩
      case measure=>simp[intOf]<;>omega
     have q_b6:=ylt hb6;have hx9:=hid (len0 hx.one0);have hr9:=hid (len0 hr.one0);have ha9:=hid hA.one0;go_wp2
     try go_ret
     show Q0 (.returned (.bool false)) _
     exact(qo hQ0 ⟨(by have qb1:=hb1.out;(try simp at qb1);have qb2:=hb2.out;(try simp at qb2);have qb3:=hb3.out;(try simp at qb3);have qb4:=hb4.out;(try simp at qb4);have qb5:=hb5.out;(try simp at qb5);have qb6:=hb6.out;(try simp at qb6);unfold chk2;rw[hx9.out,hr9.out,sg0_of hz1.out];rw[decide_eq_true (show xl=0 from(by omega)),decide_eq_true (show rl=0 from(by omega)),decide_eq_true (show z1=0 from(by omega)),decide_eq_true hyl.out,hyn.out,allN_no (k:=m) (by omega) (cov0n (sgn_lt hz2.out q_b6))];simp),hK.old⟩)
    iterate 7 refine eN ?_
    refine e0 ?_;refine sxEnd (fun W14 hK=>?_);have hx9:=hid (len0 hx.one0);have hr9:=hid (len0 hr.one0);have ha9:=hid hA.one0;go_wp2
    try go_ret
    show Q0 (.returned (.bool false)) _
    exact(qo hQ0 ⟨(by have qb1:=hb1.out;(try simp at qb1);have qb2:=hb2.out;(try simp at qb2);have qb3:=hb3.out;(try simp at qb3);unfold chk2;rw[hx9.out,hr9.out,sg0_of hz1.out];first|(rw[decide_eq_false (by omega)];rfl)|(rw[decide_eq_true (by omega),decide_eq_false (by omega)];rfl)|(rw[decide_eq_true (by omega),decide_eq_true (by omega),decide_eq_false (by omega)];rfl)),hK.old⟩)
   have q_b2:=ylt hb2
   iterate 4 refine eN ?_
   iterate 2 refine e0 ?_
   iterate 7 refine eN ?_
   refine e0 ?_;refine sxEnd (fun W15 hK=>?_);have hx9:=hid (len0 hx.one0);have hr9:=hid (len0 hr.one0);have ha9:=hid hA.one0;go_wp2
   try go_ret
   show Q0 (.returned (.bool false)) _
   exact(qo hQ0 ⟨(by have qb1:=hb1.out;(try simp at qb1);have qb2:=hb2.out;(try simp at qb2);unfold chk2;rw[hx9.out,hr9.out];first|(rw[decide_eq_false (by omega)];rfl)|(rw[decide_eq_true (by omega),decide_eq_false (by omega)];rfl)|(rw[decide_eq_true (by omega),decide_eq_true (by omega),decide_eq_false (by omega)];rfl)),hK.old⟩)
  have q_b1:=ylt hb1
  iterate 4 refine eN ?_
  iterate 2 refine e0 ?_
  iterate 4 refine eN ?_
  iterate 2 refine e0 ?_
  iterate 7 refine eN ?_
  refine e0 ?_;refine sxEnd (fun W16 hK=>?_);have hx9:=hid (len0 hx.one0);have hr9:=hid (len0 hr.one0);have ha9:=hid hA.one0;go_wp2
  try go_ret
  show Q0 (.returned (.bool false)) _
  exact(qo hQ0 ⟨(by have qb1:=hb1.out;(try simp at qb1);unfold chk2;rw[hx9.out,hr9.out];first|(rw[decide_eq_false (by omega)];rfl)|(rw[decide_eq_true (by omega),decide_eq_false (by omega)];rfl)|(rw[decide_eq_true (by omega),decide_eq_true (by omega),decide_eq_false (by omega)];rfl)),hK.old⟩)
set_option maxRecDepth 100000 in
set_option maxHeartbeats 400000 in
theorem cunb_any(w:World){kk:Int}{cp ap bp:Option Addr}{cl cc al ac bl bc:Nat}{P:LPd}{xp yp rp zp zq:Option Addr}{xl xc yl yc rl rc zl zc zu zd:Nat}{zn:Bool}{x y r:List Rat}{z:Rat}(hC:SlV ratK w (.slice cp cl cc) P.c)(hA:SlV rrK w (.slice ap al ac) P.A)(hB:SlV ratK w (.slice bp bl bc) P.b){k:Nat}(hM:LmP k P)(hk:(k+k+1)*12+1<=9999)(hk1:1<=k)(hx:SlV ratK w (.slice xp xl xc) x)(lx:x.length<=100000)(mx:LmL k x)(hy:SlV ratK w (.slice yp yl yc) y)(ly:y.length<=100000)(_my:LmL k y)(hr:SlV ratK w (.slice rp rl rc) r)(lr:r.length<=100000)(mr:LmL k r)(hz:RatV w (.agg #[.bool zn,.slice zp zl zc,.slice zq zu zd]) z)(_mz:LmQ k z)(hv:vldP P=true):
    Calls Tryz.prog 42 #[.agg #[.slice cp cl cc,.slice ap al ac,.slice bp bl bc],.agg #[.int .i64 kk,.slice xp xl xc,.slice yp yl yc,.slice rp rl rc,.bool zn,.slice zp zl zc,.slice zq zu zd]] w fun e w'=>e=.returned (.bool (chk3 P ⟨kk,x,y,r,z⟩))/\Below w.heap.size w w':=by
  have hK:=SS.start w;have⟨nc1,nc2⟩:=lle hC.one0;have⟨na1,na2⟩:=lle hA.one0;have⟨nb1,nb2⟩:=lle hB.one0;have⟨nx1,nx2⟩:=lle hx.one0;have⟨ny1,ny2⟩:=lle hy.one0;have⟨nr1,nr2⟩:=lle hr.one0;have hk2:k<=4000:=(by omega);have hP:=vld_ok hv;have hn12:=hM.n;have hm12:=hM.m;have⟨hPb,hPb2⟩:=lle hP.hb;have hn1:P.c.length<=100000:=(by omega);have hn2:P.A.length<=100000:=(by omega);have hn3:P.b.length<=100000:=(by omega);refine Calls.hide (fun Q0 hQ0=>?_);go_enter Tryz.func42,Tryz.ntmps42;go_upto_region 0 with(fail);refine wp_region_T [3,3,0] hK ?_;clear hK;refine eA (.cells #[.slice cp cl cc,.slice ap al ac,.slice bp bl bc] 37) (fun R1=>?_);refine eA (.cells #[.int .i64 kk,.slice xp xl xc,.slice yp yl yc,.slice rp rl rc,.bool zn,.slice zp zl zc,.slice zq zu zd] 45) (fun R2=>?_);refine e0 ?_;refine sxEnd (fun W3 hK=>?_);go_upto_region 1 with(fail);refine wp_region_T [0,1,0,0,0,0,1,1,0,0,0,1,0,1,1,0,0,0,0,1,0,1,0,1,0,0] hK ?_;clear hK;refine e0 ?_;refine eL m0 ?_;refine e0 ?_;refine eB (decide (0<((yl:Int)))) (fun b1 hb1=>?_);refine e0 ?_
  cases b1
  . --
   have q_b1:=nlt hb1;refine e0 ?_;refine eL m0 ?_;obtain⟨z1,hz1⟩:=nmI (sgQ (z));refine eQ (v:=.int .i64 z1) (fun w k=>sign_any _ _ w (hz.below k.old)) ?_ (hv:=by rw[hz1.out]);refine eB (z1 !=0) (fun b2 hb2=>?_)
   iterate 2 refine e0 ?_
   cases b2
   . --
    refine eL m1 ?_;refine e0 ?_;refine eL m0 ?_;obtain⟨b3,hb3⟩:=nmB (vldP P&&feaB P x);refine eQ (v:=.bool b3) (fun w k=>cfeas_any w (hC.below k.old) (hA.below k.old) (hB.below k.old) (fun _=>hM) hk hk1 hn1 hn2 hn3 (hx.below k.old) lx mx) ?_ (hv:=by rw[hb3.out])
    iterate 3 refine e0 ?_
    cases b3
    . --
     iterate 7 refine eN ?_
     refine e0 ?_;refine sxEnd (fun W4 hK=>?_);have hy9:=hid (len0 hy.one0);have hc9:=hid hC.one0;go_wp2
     try go_ret
     show Q0 (.returned (.bool false)) _
     exact(qo hQ0 ⟨(by have qb1:=hb1.out;(try simp at qb1);have qb2:=hb2.out;(try simp at qb2);have qb3:=hb3.out;(try simp at qb3);unfold chk3;rw[hy9.out,sg0_of hz1.out,hb3.out];simp),hK.old⟩)
    refine e0 ?_;refine eL m0 ?_;refine e0 ?_;refine eL m1 ?_;refine e0 ?_;obtain⟨b4,hb4⟩:=nmB (nnB r&&decide (r.length=cl));refine eQ (v:=.bool b4) (fun w k=>qnatural_any w (hr.below k.old) cl (by omega)) ?_ (hv:=by rw[hb4.out])
    iterate 2 refine e0 ?_
    refine sxEnd (fun W5 hK=>?_)
    cases b4
    . --
     have hy9:=hid (len0 hy.one0);have hc9:=hid hC.one0;go_wp2
     try go_ret
     show Q0 (.returned (.bool false)) _
     exact(qo hQ0 ⟨(by have qb1:=hb1.out;(try simp at qb1);have qb2:=hb2.out;(try simp at qb2);have qb3:=hb3.out;(try simp at qb3);have qb4:=hb4.out;(try simp at qb4);unfold chk3;rw[hy9.out,sg0_of hz1.out,hb3.out];have q9:=hb4.out;rw[hc9.out,Bool.and_comm (nnB r)]at q9;rw[q9];simp),hK.old⟩)
    go_upto_region 3 with(fail);refine wp_region_T [0,1,0,0] hK ?_;clear hK;refine e0 ?_;refine eL m1 ?_
    iterate 2 refine e0 ?_
    refine sxEnd (fun W6 hK=>?_);have hrr:nnB r=true/\r.length=P.c.length:=(by have q:=hb4.out;simp only[Bool.and_eq_true,decide_eq_true_eq]at q;exact⟨q.1,q.2.trans (by omega)⟩);have hrl:=hid hrr.2;have⟨hrl1,hrl2⟩:=lle hrr.2;have hrn:=hid hrr.1;clear hrr;go_wp2_with fail;go_loopw [36] (fun s36 wl=> ∃(m:Nat),s36=.int .i64 (m:Int)/\(m<=al)/\Hid (allN (falP P r) m=true)/\SS w ([bx R2 (.cells #[.int .i64 kk,.slice xp xl xc,.slice yp yl yc,.slice rp rl rc,.bool zn,.slice zp zl zc,.slice zq zu zd] 45),bx R1 (.cells #[.slice cp cl cc,.slice ap al ac,.slice bp bl bc] 37)]) wl) (fun s36 _=>al-(intOf s36).toNat)
    case atStart=>exact⟨0,rfl,(by omega),hid rfl,hK⟩
    clear hK;obtain⟨m,rfl,hm0,h_o,hK⟩:=hrel;generalize wr=W7 at hK⊢;go_upto_region 4 with(fail);refine wp_region_T [0] hK ?_;clear hK;refine eB (decide (((m:Int))<((al:Int)))) (fun b5 hb5=>?_);refine sxEnd (fun W8 hK=>?_)
    cases b5
    . --
     have q_b5:=nlt hb5;go_upto_region 9 with(fail);refine wp_region_T [0,1,0,1,2,1,0,0] hK ?_;clear hK;refine e0 ?_;refine eL m1 ?_;refine e0 ?_;refine eL m0 ?_;refine eC (fun w k=>qdot_any (xs:=P.c) (ys:=r) w (hC.below k.old) (hr.below k.old) (by omega) (by omega) hM.c mr hk2 (Nat.le_trans (Nat.succ_le_succ (Nat.mul_le_mul_left _ (by omega))) hk)) (fun x9=>?_);obtain⟨⟨p10,l10,c10⟩,⟨q10,u10,d10⟩⟩:=x9;dsimp only;obtain⟨z2,hz2⟩:=nmI (sgQ (dotQ P.c r));refine eQ (v:=.int .i64 z2) (fun w k=>sign_any _ _ w (k.q m0)) ?_ (hv:=by rw[hz2.out]);refine eB (decide (0<z2)) (fun b6 hb6=>?_);refine e0 ?_;refine sxEnd (fun W11 hK=>?_);have hy9:=hid (len0 hy.one0);have hc9:=hid hC.one0;go_wp2
     try go_ret
     show Q0 (.returned (.bool b6)) _
     exact(qo hQ0 ⟨(by have qb1:=hb1.out;(try simp at qb1);have qb2:=hb2.out;(try simp at qb2);have qb3:=hb3.out;(try simp at qb3);have qb4:=hb4.out;(try simp at qb4);have qb5:=hb5.out;(try simp at qb5);have h_o9:Hid (falB P r=true):=hid (by have q:=h_o.out;rwa [show m=P.A.length from(by omega)]at q);unfold chk3;rw[hy9.out,sg0_of hz1.out,hb3.out];rw[decide_eq_true (show yl=0 from(by omega)),decide_eq_true (show z1=0 from(by omega)),decide_eq_true hrl.out,hrn.out,h_o9.out,sgg_of hz2.out,hb6.out];rfl),hK.old⟩)
    have q_b5:=ylt hb5;have i12:m<al:=(by omega);obtain⟨g12,o12,rfl⟩:=hA.pt i12;have l12:m<P.A.length:=Nat.lt_of_lt_of_eq i12 (hA.one0);obtain⟨a,ea⟩:=gtH l12;obtain⟨⟨a_p,a_l,a_c⟩,a_h,a_s⟩:=hA.row ea.out;dsimp only at a_h a_s;have a_n:=hid a_s.one0;have⟨a_n1,a_n2⟩:=lle a_n.out;have hal:=hP.ha a (List.mem_of_getElem? ea.out);have⟨hal1,hal2⟩:=lle hal;clear hal;have ham:=hM.a a (List.mem_of_getElem? ea.out);go_upto_region 5 with(fail);refine wp_region_T [0,0,0] hK ?_;clear hK;refine e0 ?_;refine eR0 (fun w k=>celB a_h k.old) ?_;refine e0 ?_;refine sxEnd (fun W13 hK=>?_);go_upto_region 6 with(fail);refine wp_region_T [0,0,1,2,1,0] hK ?_;clear hK
    iterate 2 refine e0 ?_
    refine eL m0 ?_;refine eC (fun w k=>qdot_any (xs:=a) (ys:=r) w (a_s.below k.old) (hr.below k.old) (by omega) (by omega) ham mr hk2 (Nat.le_trans (Nat.succ_le_succ (Nat.mul_le_mul_left _ (by omega))) hk)) (fun x14=>?_);obtain⟨⟨p15,l15,c15⟩,⟨q15,u15,d15⟩⟩:=x14;dsimp only;obtain⟨z2,hz2⟩:=nmI (sgQ (dotQ a r));refine eQ (v:=.int .i64 z2) (fun w k=>sign_any _ _ w (k.q m0)) ?_ (hv:=by rw[hz2.out]);refine eB (decide (0<z2)) (fun b6 hb6=>?_);refine sxEnd (fun W16 hK=>?_)
    cases b6
    . --
     have q_b6:=nlt hb6
     (try go_wp2)
     go_roundw
     case rel=>exact⟨m+1,(by first|rfl|go_num),(by omega),hid (allN_step h_o.out (by unfold falP;rw[getD_of ea.out];exact decide_eq_true (sgn_le hz2.out q_b6))),(hK.subl (sC2 (sR)))⟩
     case measure=>simp[intOf]<;>omega
    have q_b6:=ylt hb6;have hy9:=hid (len0 hy.one0);have hc9:=hid hC.one0;go_wp2
    try go_ret
    show Q0 (.returned (.bool false)) _
    exact(qo hQ0 ⟨(by have qb1:=hb1.out;(try simp at qb1);have qb2:=hb2.out;(try simp at qb2);have qb3:=hb3.out;(try simp at qb3);have qb4:=hb4.out;(try simp at qb4);have qb5:=hb5.out;(try simp at qb5);have qb6:=hb6.out;(try simp at qb6);unfold chk3;rw[hy9.out,sg0_of hz1.out,hb3.out];rw[decide_eq_true (show yl=0 from(by omega)),decide_eq_true (show z1=0 from(by omega)),decide_eq_true hrl.out,hrn.out,show falB P r=false from allN_no (k:=m) (by omega) (by unfold falP;rw[getD_of ea.out];exact decide_eq_false (sgn_gt hz2.out q_b6))];simp),hK.old⟩)
   iterate 5 refine eN ?_
   iterate 2 refine e0 ?_
   iterate 7 refine eN ?_
   refine e0 ?_;refine sxEnd (fun W17 hK=>?_);have hy9:=hid (len0 hy.one0);have hc9:=hid hC.one0;go_wp2
   try go_ret
   show Q0 (.returned (.bool false)) _
   exact(qo hQ0 ⟨(by have qb1:=hb1.out;(try simp at qb1);have qb2:=hb2.out;(try simp at qb2);unfold chk3;rw[hy9.out,sg0_of hz1.out];first|(rw[decide_eq_false (by omega)];rfl)|(rw[decide_eq_true (by omega),decide_eq_false (by omega)];rfl)),hK.old⟩)
  have q_b1:=ylt hb1
  iterate 4 refine eN ?_
  iterate 2 refine e0 ?_
  iterate 5 refine eN ?_
  iterate 2 refine e0 ?_
  iterate 7 refine eN ?_
  refine e0 ?_;refine sxEnd (fun W18 hK=>?_);have hy9:=hid (len0 hy.one0);have hc9:=hid hC.one0;go_wp2
  try go_ret
  show Q0 (.returned (.bool false)) _
  exact(qo hQ0 ⟨(by have qb1:=hb1.out;(try simp at qb1);unfold chk3;rw[hy9.out];first|(rw[decide_eq_false (by omega)];rfl)|(rw[decide_eq_true (by omega),decide_eq_false (by omega)];rfl)),hK.old⟩)
theorem chk_no{P:LPd}{R:LpRes}(h:vldP P=false\/R.k<1\/3<R.k):chkB P R=false:=by
  unfold chkB
  rcases h with h|h|h
  . rw[h];rfl
  . rw[if_neg (by omega),if_neg (by omega),if_neg (by omega),Bool.and_false]
  rw[if_neg (by omega),if_neg (by omega),if_neg (by omega),Bool.and_false]
theorem chk_at{P:LPd}{x y r:List Rat}{z:Rat}(h:vldP P=true):chkB P ⟨1,x,y,r,z⟩=chk1 P ⟨1,x,y,r,z⟩/\chkB P ⟨2,x,y,r,z⟩=chk2 P ⟨2,x,y,r,z⟩/\chkB P ⟨3,x,y,r,z⟩=chk3 P ⟨3,x,y,r,z⟩:=by
  unfold chkB;rw[h];exact⟨rfl,rfl,rfl⟩
set_option maxRecDepth 100000 in
set_option maxHeartbeats 400000 in
theorem ccheck_any(w:World){kk:Int}{cp ap bp:Option Addr}{cl cc al ac bl bc:Nat}{P:LPd}{xp yp rp zp zq:Option Addr}{xl xc yl yc rl rc zl zc zu zd:Nat}{zn:Bool}{x y r:List Rat}{z:Rat}(hC:SlV ratK w (.slice cp cl cc) P.c)(hA:SlV rrK w (.slice ap al ac) P.A)(hB:SlV ratK w (.slice bp bl bc) P.b){k:Nat}(hm:vldP P=true->LmP k P)(hk:(k+k+1)*12+1<=9999)(hk1:1<=k)(hn1:P.c.length<=100000)(hn2:P.A.length<=100000)(hn3:P.b.length<=100000)(hx:SlV ratK w (.slice xp xl xc) x)(lx:x.length<=100000)(mx:LmL k x)(hy:SlV ratK w (.slice yp yl yc) y)(ly:y.length<=100000)(my:LmL k y)(hr:SlV ratK w (.slice rp rl rc) r)(lr:r.length<=100000)(mr:LmL k r)(hz:RatV w (.agg #[.bool zn,.slice zp zl zc,.slice zq zu zd]) z)(mz:LmQ k z):
    Calls Tryz.prog 11 #[.agg #[.slice cp cl cc,.slice ap al ac,.slice bp bl bc],.agg #[.int .i64 kk,.slice xp xl xc,.slice yp yl yc,.slice rp rl rc,.bool zn,.slice zp zl zc,.slice zq zu zd]] w fun e w'=>e=.returned (.bool (chkB P ⟨kk,x,y,r,z⟩))/\Below w.heap.size w w':=by
  have hK:=SS.start w;have⟨nc1,nc2⟩:=lle hC.one0;have⟨na1,na2⟩:=lle hA.one0;have⟨nb1,nb2⟩:=lle hB.one0;have⟨nx1,nx2⟩:=lle hx.one0;have⟨ny1,ny2⟩:=lle hy.one0;have⟨nr1,nr2⟩:=lle hr.one0;have hk2:k<=4000:=(by omega);refine Calls.hide (fun Q0 hQ0=>?_);go_enter Tryz.func11,Tryz.ntmps11;go_upto_region 0 with(fail);refine wp_region_T [3,3,0] hK ?_;clear hK;refine eA (.cells #[.slice cp cl cc,.slice ap al ac,.slice bp bl bc] 37) (fun R1=>?_);refine eA (.cells #[.int .i64 kk,.slice xp xl xc,.slice yp yl yc,.slice rp rl rc,.bool zn,.slice zp zl zc,.slice zq zu zd] 45) (fun R2=>?_);refine e0 ?_;refine sxEnd (fun W3 hK=>?_);go_upto_region 1 with(fail);refine wp_region_T [0,3,4] hK ?_;clear hK;refine e0 ?_;refine eA (.cells #[.nilFunc,.nilFunc,.nilFunc,.nilFunc] 92) (fun R4=>?_);refine eP 0 0 [.nilFunc,.func (.func 40) #[] #[],.func (.func 41) #[] #[],.func (.func 42) #[] #[]] ?_;refine sxEnd (fun W5 hK=>?_);go_upto_region 2 with(fail);refine wp_region_T [1,1,0,0,0,1,0,0,0,0,1,0,0] hK ?_;clear hK;refine eL m2 ?_;obtain⟨b1,hb1⟩:=nmB (vldP P);refine eQ (v:=.bool b1) (fun w k=>lpvalid_any w (hC.below k.old) (hA.below k.old) (hB.below k.old) (by omega) (by omega) (by omega)) ?_ (hv:=by rw[hb1.out])
  iterate 2 refine e0 ?_
  cases b1
  . --
   iterate 3 refine eN ?_
   iterate 2 refine e0 ?_
   iterate 3 refine eN ?_
   refine e0 ?_;refine sxEnd (fun W6 hK=>?_);go_wp2
   try go_ret
   show Q0 (.returned (.bool false)) _
   exact(qo hQ0 ⟨(by rw[chk_no (.inl hb1.out)]),hK.old⟩)
  refine e0 ?_;refine eL m1 ?_;refine eB (decide (kk<1)) (fun b2 hb2=>?_)
  iterate 2 refine e0 ?_
  cases b2
  . --
   have q_b2:=nlt hb2;refine e0 ?_;refine eL m1 ?_;refine eB (decide (3<kk)) (fun b3 hb3=>?_);refine e0 ?_;refine sxEnd (fun W7 hK=>?_)
   cases b3
   . --
    have q_b3:=nlt hb3
    rcases(show kk=1\/kk=2\/kk=3 from(by have qb1:=hb1.out;(try simp at qb1);have qb2:=hb2.out;(try simp at qb2);have qb3:=hb3.out;(try simp at qb3);omega))with rfl|rfl|rfl
    . --
     have hv:=hid (show vldP P=true from hb1.out);have hM:=hm hv.out;have hP:=vld_ok hv.out;have hn12:=hM.n;have hm12:=hM.m;have⟨hPb,hPb2⟩:=lle hP.hb;replace hM:=hid hM;go_upto_region 4 with(fail);refine wp_region_S _ [0,0,0,0,0,0,1,0] hK ?_ (sR);clear hK;refine e0 ?_;refine eL0 m1 ?_;refine e0 ?_;refine eL0 m0 ?_;refine eL0 m2 ?_;refine eL0 m1 ?_;obtain⟨b4,hb4⟩:=nmB (chk1 P ⟨1,x,y,r,z⟩);refine eQ (v:=.bool b4) (fun w k=>copt_any w (hC.below k.old) (hA.below k.old) (hB.below k.old) hM.out hk hk1 (hx.below k.old) lx mx (hy.below k.old) ly my (hr.below k.old) lr mr (hz.below k.old) mz hv.out) ?_ (hv:=by rw[hb4.out]);refine e0 ?_;refine sxEnd (fun W8 hK=>?_);go_wp2
     try go_ret
     show Q0 (.returned (.bool b4)) _
     exact(qo hQ0 ⟨(by rw[(chk_at hv.out).1,hb4.out]),hK.old⟩)
    . --
     have hv:=hid (show vldP P=true from hb1.out);have hM:=hm hv.out;have hP:=vld_ok hv.out;have hn12:=hM.n;have hm12:=hM.m;have⟨hPb,hPb2⟩:=lle hP.hb;replace hM:=hid hM;go_upto_region 4 with(fail);refine wp_region_S _ [0,0,0,0,0,0,1,0] hK ?_ (sR);clear hK;refine e0 ?_;refine eL0 m1 ?_;refine e0 ?_;refine eL0 m0 ?_;refine eL0 m2 ?_;refine eL0 m1 ?_;obtain⟨b4,hb4⟩:=nmB (chk2 P ⟨2,x,y,r,z⟩);refine eQ (v:=.bool b4) (fun w k=>cinf_any w (hC.below k.old) (hA.below k.old) (hB.below k.old) hM.out hk hk1 (hx.below k.old) lx mx (hy.below k.old) ly my (hr.below k.old) lr mr (hz.below k.old) mz hv.out) ?_ (hv:=by rw[hb4.out]);refine e0 ?_;refine sxEnd (fun W9 hK=>?_);go_wp2
     try go_ret
     show Q0 (.returned (.bool b4)) _
     exact(qo hQ0 ⟨(by rw[(chk_at hv.out).2.1,hb4.out]),hK.old⟩)
    have hv:=hid (show vldP P=true from hb1.out);have hM:=hm hv.out;have hP:=vld_ok hv.out;have hn12:=hM.n;have hm12:=hM.m;have⟨hPb,hPb2⟩:=lle hP.hb;replace hM:=hid hM;go_upto_region 4 with(fail);refine wp_region_S _ [0,0,0,0,0,0,1,0] hK ?_ (sR);clear hK;refine e0 ?_;refine eL0 m1 ?_;refine e0 ?_;refine eL0 m0 ?_;refine eL0 m2 ?_;refine eL0 m1 ?_;obtain⟨b4,hb4⟩:=nmB (chk3 P ⟨3,x,y,r,z⟩);refine eQ (v:=.bool b4) (fun w k=>cunb_any w (hC.below k.old) (hA.below k.old) (hB.below k.old) hM.out hk hk1 (hx.below k.old) lx mx (hy.below k.old) ly my (hr.below k.old) lr mr (hz.below k.old) mz hv.out) ?_ (hv:=by rw[hb4.out]);refine e0 ?_;refine sxEnd (fun W10 hK=>?_);go_wp2
    try go_ret
    show Q0 (.returned (.bool b4)) _
    exact(qo hQ0 ⟨(by rw[(chk_at hv.out).2.2,hb4.out]),hK.old⟩)
   have q_b3:=ylt hb3;go_wp2
   try go_ret
   show Q0 (.returned (.bool false)) _
   exact(qo hQ0 ⟨(by rw[chk_no (.inr (by have qb1:=hb1.out;(try simp at qb1);have qb2:=hb2.out;(try simp at qb2);have qb3:=hb3.out;(try simp at qb3);show kk<1\/3<kk;omega))]),hK.old⟩)
  have q_b2:=ylt hb2
  iterate 3 refine eN ?_
  refine e0 ?_;refine sxEnd (fun W11 hK=>?_);go_wp2
  try go_ret
  show Q0 (.returned (.bool false)) _
  exact(qo hQ0 ⟨(by rw[chk_no (.inr (by have qb1:=hb1.out;(try simp at qb1);have qb2:=hb2.out;(try simp at qb2);show kk<1\/3<kk;omega))]),hK.old⟩)
end
section
instance :Nonempty LpRes:=⟨⟨0,[],[],[],0⟩⟩
def lpl(a:RsS)(R:LpRes):List Ft:=[rO ratK 43 a.x.p a.x.l a.x.c R.x,rO ratK 43 a.y.p a.y.l a.y.c R.y,rO ratK 43 a.r.p a.r.l a.r.c R.r,qF (.agg #[.bool (isN R.z),.slice a.d.p a.d.l a.d.c,.slice a.e.p a.e.l a.e.c]) R.z]
theorem lpl_ln{a:RsS}{R:LpRes}:∀f∈lpl a R,∀n,f.ln.contains n=true->([0]:List Nat).contains n=true:=fun f hf n hn=>by
  unfold lpl at hf;simp only[List.mem_cons,List.not_mem_nil,or_false]at hf
  rcases hf with rfl|rfl|rfl|rfl<;>exact hn
def lpR(a:RsS)(R:LpRes):Ft:=stF [0] (lpl a R) lpl_ln
instance {a:RsS}{R:LpRes}:Zs (lpR a R):=.of rfl
section
variable {V w:World}{l:List Ft}{a:RsS}{R:LpRes}{P:LPd}{X k:Nat}
theorem SS.lp(h:SS V l w)(hm:lpR a R∈l):SlV ratK w (.slice a.x.p a.x.l a.x.c) R.x/\SlV ratK w (.slice a.y.p a.y.l a.y.c) R.y/\SlV ratK w (.slice a.r.p a.r.l a.r.c) R.r/\RatV w (.agg #[.bool (isN R.z),.slice a.d.p a.d.l a.d.c,.slice a.e.p a.e.l a.e.c]) R.z:=by
  obtain⟨h1,_⟩:=h.get hm;have h2:OwV ratK _ 0 w (.slice a.x.p a.x.l a.x.c) R.x:=h1 _ m0;have h3:OwV ratK _ 0 w (.slice a.y.p a.y.l a.y.c) R.y:=h1 _ m1;have h4:OwV ratK _ 0 w (.slice a.r.p a.r.l a.r.c) R.r:=h1 _ m2;exact⟨h2.slv,h3.slv,h4.slv,h1 _ m3⟩
theorem pow_up{a b:Nat}(h:X<B32^a)(hab:a<=b):X<B32^b:=Nat.lt_of_lt_of_le h (Nat.pow_le_pow_right (by decide) hab)
theorem limP_of(hP:P.Ok)(hm:LmP 50 P)(hS:LimS X P)(hX:X<B32^50):LimP P:=
  have hX3:=pow_up (b:=300) hX (by decide)
  ⟨hm.b.up (by decide),fun h=>LmK.of hS hX3 (init_lst hP (.inl ⟨rfl,h⟩)) (Alike.refl _),fun _=>⟨X,hX3,hS⟩⟩
variable {cp ap bp:Option Addr}{cl cc al ac bl bc:Nat}
theorem solve_ok(w:World)(hC:SlV ratK w (.slice cp cl cc) P.c)(hA:SlV rrK w (.slice ap al ac) P.A)(hB:SlV ratK w (.slice bp bl bc) P.b)(hv:vldP P=true)(hm:LmP 50 P)(hS:LimS X P)(hX:X<B32^50):
    Calls Tryz.prog 10 #[.agg #[.slice cp cl cc,.slice ap al ac,.slice bp bl bc]] w fun e w'=> ∃a:Duo RsS LpRes,e=.returned (.tuple #[a.a.v a.b,.int .i64 0])/\SS w [cF (CertR P a.b/\SmR X a.b),lpR a.a a.b] w':=by
  have hP:=vld_ok hv;refine(solve_any w hC hA hB (by have:=hm.n;omega) (by have:=hm.m;omega) (by rw[hP.hb];have:=hm.m;omega) (fun _=>limP_of hP hm hS hX) (fun _=>hm.c.up (by decide))).mono fun e w' ⟨a,e1,h⟩=>?_
  rcases h.get m0 with⟨h1,_⟩|⟨_,h2,h3,h4⟩
  . rw[hv]at h1;cases h1
  refine⟨⟨⟨a.x,a.y,a.r,a.d,a.e⟩,a.R⟩,by rw[e1,h2];rfl,?_⟩;have h5:SS w (lpl ⟨a.x,a.y,a.r,a.d,a.e⟩ a.R++[]) w':=h.subl (List.sublist_cons_self ..);exact(SS.star.2 h5).fact (cF _) ⟨h3,h4 X hS⟩
end
theorem fra8{z:Int}(h:Rng8 z):Fra 1 128 ((z:Int):Rat):=⟨z,by obtain⟨h1,h2⟩:=h;omega,by grind⟩
theorem ofSm_fr{s:Sm}(h:s.Ok):FrP 1 128 (ofSm s):=by
  have key:∀{l:List Int} {f k:Nat},(∀z∈l,Rng8 z)-> ∀e∈atL l f k,Fra 1 128 e:=fun hl e he=>by
    obtain⟨i,_,rfl⟩:=List.mem_map.1 he;exact fra8 (atI_rng hl _)
  refine⟨⟨by decide,by decide⟩,key h.c,fun r hr=>?_,key h.b⟩;obtain⟨i,_,rfl⟩:=List.mem_map.1 hr;exact key h.a
def X5:Nat:=bdN 5 128
theorem X5_lt:X5<B32^50:=by decide
theorem ofSm_lims{s:Sm}(h:s.Ok):LimS X5 (ofSm s):=by
  have h2:=ofM_le s;have hn:(ofSm s).A.length<=5:=by rw[ofSm_m];exact h2
  exact⟨fun _ hs ha=>(ofSm_fr h).small (ofSm_ok s) (.inl hn) hs ha,fun _ hs ha=>(ofSm_fr h).smallA (ofSm_ok s) (.inl hn) hs ha⟩
end
section
instance (z:Int):Decidable (Rng8 z):=by unfold Rng8;infer_instance
theorem litV8{w:World}{R:Nat}{ty:TypeId}{vs:List Value}(xs:List Int)(h:Has 0 R (.cells vs.toArray ty) w)(e:vs=xs.map fun x=>.int .i8 x)(hl:xs.length<=9223372036854775807):SlV i8K w (.slice (some ⟨R,0,none⟩) xs.length xs.length) xs:=by
  refine⟨xs.map fun x=>[.int .i8 x],⟨by simp,fun k cs x h1 h2=>?_⟩,.inr ⟨R,0,_,rfl,h.ltS,Nat.le_refl _,hl,fun k cs j u c1 c2=>?_⟩⟩
  . rw[List.getElem?_map,h2]at h1
    cases h1;rfl
  rw[List.getElem?_map]at c1
  cases hx:xs[k]? with
  |none=>rw[hx]at c1;cases c1
  | some x=>
    rw[hx]at c1
    cases c1
    cases j with
    |succ j=>simp at c2
    | zero=>
      simp at c2;subst c2;rw[show 0+k*i8K.sz+0=k by show 0+k*1+0=k;omega];exact h.at k (by rw[e,List.getElem?_map,hx];rfl)
def awA:Sm:=⟨[1,1],[1,2,3,1],[4,6]⟩
theorem awA_ok:awA.Ok:=⟨by decide,by decide,by decide,by decide,by decide,by decide⟩
theorem cert_uni{P:LPd}{a b:LpRes}(hP:P.Ok)(ha:CertR P a)(hb:CertR P b):a.k=b.k/\a.z=b.z:=
  Over.same (f:=fun z=>z) ⟨fun x y _ h=>⟨x,y,h⟩,fun y h=>⟨y,h⟩,fun x r h=>⟨x,r,h⟩⟩ hP rfl ha hb
end
section
set_option maxRecDepth 100000 in
theorem rat_any(w:World){p_h0:Option Addr}{n_h0 c_h0:Nat}{l:List Int}(hh0:SlV i8K w (.slice p_h0 n_h0 c_h0) l)(i:Nat)(hr:∀z∈l,Rng8 z):
    Calls Tryz.prog 29 #[.slice p_h0 n_h0 c_h0,.int .i64 (i:Int)] w fun e w'=> ∃x:Duo Sl Sl,e=.returned (.agg #[.bool (isN (atI l i)),.slice x.a.p x.a.l x.a.c,.slice x.b.p x.b.l x.b.c])/\SS w [rF (.agg #[.bool (isN (atI l i)),.slice x.a.p x.a.l x.a.c,.slice x.b.p x.b.l x.b.c]) (atI l i)] w':=by
  have hK:=SS.start w;have⟨n1,n2⟩:=lle hh0.one0;refine Calls.hide (fun Q0 hQ0=>?_);go_enter Tryz.func29,Tryz.ntmps29;go_upto_region 0 with(fail);refine wp_region_T [3] hK ?_;clear hK;refine eA (.cells #[.bool false,.slice none 0 0,.slice none 0 0] 53) (fun R1=>?_);refine sxEnd (fun W2 hK=>?_);go_upto_region 1 with(fail);refine wp_region_T [0,0,0,0] hK ?_;clear hK
  iterate 3 refine e0 ?_
  refine eB (decide (((i:Int))<((n_h0:Int)))) (fun b1 hb1=>?_);refine sxEnd (fun W3 hK=>?_)
  cases b1
  . --
   have q_b1:=nlt hb1;go_upto_region 3 with(fail);refine wp_region_T [0,4] hK ?_;clear hK;refine e0 ?_;refine eP 0 0 [.bool false,.slice none 0 0,.slice none 0 0] ?_;refine sxEnd (fun W4 hK=>?_);replace hK:=hK.fact (rF (.agg #[.bool false,.slice none 0 0,.slice none 0 0]) (0:Rat)) (refR0 _);have hq0:=(refR_cells (hK.rq m0)).1;injection hq0 with hq0;have⟨c90,c91,c92⟩:=(hK.box m1).c3;rw[show(0:Rat)=atI l i from(by unfold atI;rw[List.getD,List.getElem?_eq_none (by have qb1:=hb1.out;(try simp at qb1);omega)];rfl)]at hK hq0;replace hK:=hK.subl (sK2 (sC2 sZ2));go_wp2;exact bodyPost_ret (v:=.agg #[.bool false,.slice none 0 0,.slice none 0 0]) (by simp[results,Tryz.results29,go_sem,c90,c91,c92]) rfl (by obtain rfl:=hQ0.out;rw[<-hq0];exact⟨⟨⟨none,0,0⟩,⟨none,0,0⟩⟩,rfl,hK⟩)
  have q_b1:=ylt hb1;have i5:i<n_h0:=(by have q:=of_decide_eq_true hb1.out;omega);obtain⟨g5,o5,rfl⟩:=hh0.pt i5;have l5:i<l.length:=Nat.lt_of_lt_of_eq i5 (hh0.one0);obtain⟨xk,exk⟩:=gtH l5;have qxk:=hr _ (List.mem_of_getElem? exk.out);unfold Rng8 at qxk;go_upto_region 2 with(fail);refine wp_region_T [0,0,0,0,0,2,4] hK ?_;clear hK
  iterate 3 refine e0 ?_
  refine eR0 (fun w k=>(hh0.below k.old).i8 exk.out) ?_;refine eV (.int .i64 xk) (fun w'=>by go_simp;(try go_bits);first|exact⟨rfl,rfl⟩|go_num) ?_;refine eC (fun w k=>ref_S (rint_q xk w (by omega) (by omega))) (fun x6=>?_);obtain⟨⟨p7,l7,c7⟩,⟨q7,u7,d7⟩⟩:=x6;dsimp only;refine eP 1 0 [.bool (isN (((xk:Int):Rat))),.slice p7 l7 c7,.slice q7 u7 d7] ?_ (hq:=.inr ⟨rfl,trivial⟩);refine sxEnd (fun W8 hK=>?_);have hq0:=(refR_cells (hK.rq m0)).1;injection hq0 with hq0;have⟨c90,c91,c92⟩:=(hK.box m1).c3;rw[show((xk:Int):Rat)=atI l i from(by unfold atI;rw[getD_of exk.out])]at hK hq0;replace hK:=hK.subl (sK2 (sC2 sZ2));go_wp2;exact bodyPost_ret (v:=.agg #[.bool (isN (atI l i)),.slice p7 l7 c7,.slice q7 u7 d7]) (by simp[results,Tryz.results29,go_sem,c90,c91,c92,show((xk:Int):Rat)=atI l i from(by unfold atI;rw[getD_of exk.out])]) rfl (qo hQ0 ⟨⟨⟨p7,l7,c7⟩,⟨q7,u7,d7⟩⟩,rfl,hK⟩)
set_option maxRecDepth 100000 in
set_option maxHeartbeats 400000 in
theorem smof_any(w:World){cp ap bp:Option Addr}{cl cc al ac bl bc:Nat}{s:Sm}(hs:s.Ok)(hC:SlV i8K w (.slice cp cl cc) s.c)(hA:SlV i8K w (.slice ap al ac) s.a)(hB:SlV i8K w (.slice bp bl bc) s.b):
    Calls Tryz.prog 8 #[.agg #[.slice cp cl cc,.slice ap al ac,.slice bp bl bc]] w fun e w'=> ∃z:PgR,e=.returned z.v/\SS w [pgF refK 53 29 z (ofSm s)] w':=by
  have hK:=SS.start w;have⟨nc1,nc2⟩:=lle hC.one0;have⟨na1,na2⟩:=lle hA.one0;have⟨nb1,nb2⟩:=lle hB.one0;have hn4:=ofN_le s;have hm5:=ofM_le s;have l1:=hs.cl;have l2:=hs.al;have l3:=hs.bl;refine Calls.hide (fun Q0 hQ0=>?_);go_enter Tryz.func8,Tryz.ntmps8;go_upto_region 0 with(fail);refine wp_region_T [3,3] hK ?_;clear hK;refine eA (.cells #[.slice cp cl cc,.slice ap al ac,.slice bp bl bc] 24) (fun R1=>?_);refine eA (.cells #[.slice none 0 0,.slice none 0 0,.slice none 0 0] 32) (fun R2=>?_);refine sxEnd (fun W3 hK=>?_);go_upto_region 1 with(fail);refine wp_region_T [3] hK ?_;clear hK;refine eA (.cells #[.slice none 0 0,.slice none 0 0,.slice none 0 0] 32) (fun R4=>?_);refine sxEnd (fun W5 hK=>?_);go_upto_region 2 with(fail);refine wp_region_S _ [0,0,0,0,0,0] hK ?_ (sR);clear hK;refine e0 ?_;refine eL0 m2 ?_;refine e0 ?_;refine eV (.int .i64 (ofM s:Int)) (fun w'=>by go_simp;(try go_bits);exact⟨congrArg _ (by unfold ofM;omega),rfl⟩) ?_
  iterate 2 refine e0 ?_
  refine sxEnd (fun W6 hK=>?_);go_upto_region 3 with(fail);refine wp_region_T [0,1,0,0] hK ?_;clear hK;refine e0 ?_;refine eL m2 ?_;refine e0 ?_;refine eB (decide (0<((cl:Int)))) (fun b1 hb1=>?_);refine sxEnd (fun W7 hK=>?_);go_upto_if 17 with(fail);go_cut [4]from 9999 to 9999 (fun s4 wl=>s4=.int .i64 (ofN s:Int)/\SS w ([bx R4 (.cells #[.slice none 0 0,.slice none 0 0,.slice none 0 0] 32),bx R2 (.cells #[.slice none 0 0,.slice none 0 0,.slice none 0 0] 32),bx R1 (.cells #[.slice cp cl cc,.slice ap al ac,.slice bp bl bc] 24)]) wl)
  case first=>
   cases b1
   . --
    have q_b1:=nlt hb1
    (try go_wp2)
    go_meet
    case rel=>exact⟨(congrArg (Value.int .i64) (by unfold ofN;rw[if_pos (by have qb1:=hb1.out;(try simp at qb1);omega)];rfl)),hK⟩
   have q_b1:=ylt hb1;go_upto_region 4 with(fail);refine wp_region_T [0,1,0,0,0] hK ?_;clear hK;refine e0 ?_;refine eL m2 ?_;refine e0 ?_;refine eV (.int .i64 (ofN s:Int)) (fun w'=>by go_simp;(try go_bits);exact⟨congrArg _ (by unfold ofN;rw[if_neg (by have q:=hb1.out;(try simp at q);omega)];omega),rfl⟩) ?_;refine e0 ?_;refine sxEnd (fun W8 hK=>?_)
   (try go_wp2)
   go_meet
   case rel=>exact⟨rfl,hK⟩
  clear hK;obtain⟨rfl,hK⟩:=hcut;generalize wc=W9 at hK⊢;replace hK:=hK.fact (rO refK 53 none 0 0 (atL s.c 0 0)) OwV.nil (fun _ h=>by cases h);go_wp2_with fail;go_loopw [6] (fun s6 wl=> ∃(m:Nat) (p:Option Addr) (n:Nat) (c:Nat),s6=.int .i64 (m:Int)/\(m<=ofN s)/\Hid (atL s.c 0 m=[]->p=none)/\SS w ([rO refK 53 p n c (atL s.c 0 m),bx R4 (.cells #[.slice p n c,.slice none 0 0,.slice none 0 0] 32),bx R2 (.cells #[.slice none 0 0,.slice none 0 0,.slice none 0 0] 32),bx R1 (.cells #[.slice cp cl cc,.slice ap al ac,.slice bp bl bc] 24)]) wl) (fun s6 _=>ofN s-(intOf s6).toNat)
  case atStart=>exact⟨0,none,0,0,rfl,(by omega),hid (fun _=>rfl),hK⟩
  clear hK;obtain⟨m,p,n,c,rfl,hm0,h_e,hK⟩:=hrel;generalize wr=W10 at hK⊢;go_upto_region 6 with(fail);refine wp_region_T [0,0,0] hK ?_;clear hK
  iterate 2 refine e0 ?_
  refine eB (decide (((m:Int))<((ofN s:Int)))) (fun b2 hb2=>?_);refine sxEnd (fun W11 hK=>?_)
  cases b2
  . --
   have q_b2:=nlt hb2;have hme:m=ofN s:=(by omega);rw[hme]at hK;clear hme;go_upto_region 9 with(fail);refine wp_region_T [0] hK ?_;clear hK;refine e0 ?_;refine sxEnd (fun W12 hK=>?_);replace hK:=hK.fact (rO slcR 29 none 0 0 ([]:List Sl)) OwV.nil (fun _ h=>by cases h);replace hK:=hK.rs0 refK 53;replace hK:=hK.fact (rO refK 53 none 0 0 (atL s.b 0 0)) OwV.nil (fun _ h=>by cases h);go_wp2_with fail;go_loopw [7] (fun s7 wl=> ∃(mi:Nat) (pa:Option Addr) (na:Nat) (ca:Nat) (ss:List Sl) (pb:Option Addr) (nb:Nat) (cb:Nat),s7=.int .i64 (mi:Int)/\(mi<=ofM s)/\Hid (ss.length=(rowsL s mi).length)/\Hid (ss=[]->pa=none)/\Hid (atL s.b 0 mi=[]->pb=none)/\SS w ([rO refK 53 pb nb cb (atL s.b 0 mi),rsF refK 53 ss (rowsL s mi),rO slcR 29 pa na ca ss,rO refK 53 p n c (atL s.c 0 (ofN s)),bx R4 (.cells #[.slice p n c,.slice pa na ca,.slice pb nb cb] 32),bx R2 (.cells #[.slice none 0 0,.slice none 0 0,.slice none 0 0] 32),bx R1 (.cells #[.slice cp cl cc,.slice ap al ac,.slice bp bl bc] 24)]) wl) (fun s7 _=>ofM s-(intOf s7).toNat)
   case atStart=>exact⟨0,none,0,0,[],none,0,0,rfl,(by omega),hid rfl,hid (fun _=>rfl),hid (fun _=>rfl),hK⟩
   clear hK;obtain⟨mi,pa,na,ca,ss,pb,nb,cb,rfl,hmi,h_l,h_a,h_b,hK⟩:=hrel;generalize wr=W13 at hK⊢;go_upto_region 10 with(fail);refine wp_region_T [0,0,0] hK ?_;clear hK
   iterate 2 refine e0 ?_
   refine eB (decide (((mi:Int))<((ofM s:Int)))) (fun b3 hb3=>?_);refine sxEnd (fun W14 hK=>?_)
   cases b3
   . --
    have q_b3:=nlt hb3;go_upto_region 19 with(fail);refine wp_region_T [1,4] hK ?_;clear hK;refine eL m4 ?_;refine eP 5 0 [.slice p n c,.slice pa na ca,.slice pb nb cb] ?_ (hq:=.inr ⟨rfl,rfl,rfl,rfl,rfl,rfl,trivial⟩);refine sxEnd (fun W15 hK=>?_);have hme:mi=ofM s:=(by omega);rw[hme]at hK h_l;clear hme;have hl9:=h_l.out;have⟨c90,c91,c92⟩:=(hK.box m5).c3;replace hK:=hK.subl (sK2 (sK2 (sK2 (sK2 (sC2 (sC2 (sC2 sZ2)))))));replace hK:=hK.up1;replace hK:=hK.up2;replace hK:=hK.up3;go_wp2;exact bodyPost_ret (v:=.agg #[.slice p n c,.slice pa na ca,.slice pb nb cb]) (by simp[results,Tryz.results8,go_sem,c90,c91,c92]) rfl (qo hQ0 ⟨⟨⟨p,n,c⟩,⟨pa,na,ca⟩,⟨pb,nb,cb⟩,ss⟩,rfl,SS.star.2 (hK.fact (cF (ss.length=(ofSm s).A.length)) hl9)⟩)
   have q_b3:=ylt hb3;replace hK:=hK.fact (rO refK 53 none 0 0 (atL s.a (mi*ofN s) 0)) OwV.nil (fun _ h=>by cases h);go_wp2_with fail;go_loopw [8,9] (fun s8 s9 wl=> ∃(mj:Nat) (pr:Option Addr) (nr:Nat) (cr:Nat),s8=.slice pr nr cr/\s9=.int .i64 (mj:Int)/\(mj<=ofN s)/\Hid (atL s.a (mi*ofN s) mj=[]->pr=none)/\SS w ([rO refK 53 pr nr cr (atL s.a (mi*ofN s) mj),rO refK 53 pb nb cb (atL s.b 0 mi),rsF refK 53 ss (rowsL s mi),rO slcR 29 pa na ca ss,rO refK 53 p n c (atL s.c 0 (ofN s)),bx R4 (.cells #[.slice p n c,.slice pa na ca,.slice pb nb cb] 32),bx R2 (.cells #[.slice none 0 0,.slice none 0 0,.slice none 0 0] 32),bx R1 (.cells #[.slice cp cl cc,.slice ap al ac,.slice bp bl bc] 24)]) wl) (fun s8 s9 _=>ofN s-(intOf s9).toNat)
   case atStart=>exact⟨0,none,0,0,rfl,rfl,(by omega),hid (fun _=>rfl),hK⟩
   clear hK;obtain⟨mj,pr,nr,cr,rfl,rfl,hmj,h_r,hK⟩:=hrel;generalize wr=W16 at hK⊢;go_upto_region 14 with(fail);refine wp_region_T [0,0,0] hK ?_;clear hK
   iterate 2 refine e0 ?_
   refine eB (decide (((mj:Int))<((ofN s:Int)))) (fun b4 hb4=>?_);refine sxEnd (fun W17 hK=>?_)
   cases b4
   . --
    have q_b4:=nlt hb4;go_upto_region 17 with(fail);refine wp_region_T [0,1,0,3,5,0,4] hK ?_;clear hK;refine e0 ?_;refine eL m5 ?_;refine e0 ?_;refine eA (.cells #[.slice pr nr cr] 29) (fun R18=>?_);refine eAppK 3 slcR_hd rfl 4 h_a.out rfl infoSR (fun w k=>k.one1 (K:=slcR) (x:=⟨pr,nr,cr⟩) m0 rfl) (by rw[h_l.out,rowsL_len];simp;omega) (fun x19=>?_);obtain⟨p19,n19,c19⟩:=x19;dsimp only;refine e0 ?_;refine eP 6 1 [.slice p19 n19 c19] ?_ (hq:=.inr ⟨rfl,rfl,rfl,rfl,rfl,rfl,rfl,rfl,trivial⟩);refine sxEnd (fun W20 hK=>?_);have hme:mj=ofN s:=(by omega);rw[hme]at hK;clear hme;replace hK:=hK.up3;replace hK:=hK.up2;replace hK:=SS.rsN (s:=⟨pr,nr,cr⟩) (xs:=rowL s mi) hK h_l.out;rw[show(rowsL s mi)++[rowL s mi]=rowsL s (mi+1)from(rowsL_snoc _ _)]at hK;go_upto_region 18 with(fail);refine wp_region_S _ [0,1,0,0,0,2,3,5,0,4] hK ?_ (sK2 (sK2 (sC2 (sK2 (sK2 (sC2 (sR)))))));clear hK;refine e0 ?_;refine eL m5 ?_;refine e0 ?_;refine eL0 m5 ?_;refine e0 ?_;refine eC (fun w k=>rat_any w (hB.below k.old) mi hs.b) (fun x21=>?_);obtain⟨⟨p22,l22,c22⟩,⟨q22,u22,d22⟩⟩:=x21;dsimp only;refine eA (.cells #[.bool (isN (atI s.b mi)),.slice p22 l22 c22,.slice q22 u22 d22] 53) (fun R23=>?_);refine eAppK 2 refK_hd rfl 4 h_b.out rfl infoR (fun w k=>k.one1 (K:=refK) (x:=atI s.b mi) m0 ⟨_,_,_,rfl,k.rq m1⟩) (by rw[atL_len];simp;omega) (fun x24=>?_) (hs:=fun _=>(sC2 (sC2 (sK2 (sK2 (sC2 (sK2 (sK2 (sC2 (sR))))))))));obtain⟨p24,n24,c24⟩:=x24;dsimp only;refine e0 ?_;refine eP 7 2 [.slice p24 n24 c24] ?_ (hs:=(sC2 (sC2 (sK2 (sK2 (sC2 (sK2 (sK2 (sC2 (sR)))))))))) (hq:=.inr ⟨rfl,rfl,rfl,rfl,rfl,rfl,rfl,rfl,rfl,trivial⟩);refine sxEnd (fun W25 hK=>?_);rw[show(atL s.b 0 mi)++[atI s.b mi]=atL s.b 0 (mi+1)from(by rw[<-atL_snoc,Nat.zero_add])]at hK
    (try go_wp2)
    go_roundw
    case rel=>exact⟨mi+1,p19,n19,c19,ss++[⟨pr,nr,cr⟩],p24,n24,c24,(by first|rfl|go_num),(by omega),hid (by rw[List.length_append,h_l.out,rowsL_len,rowsL_len];rfl),hid (fun e=>absurd (congrArg List.length e) (by simp)),hid (fun e=>absurd (congrArg List.length e) (by rw[atL_len];simp)),(hK.subl (sC2 (sC2 (sK2 (sC2 (sR)))))).up6.up6.up6.up6.up6.up5.up6⟩
    case measure=>simp[intOf]<;>omega
   have q_b4:=ylt hb4;have hin:mi*ofN s<=20:=Nat.le_trans (Nat.mul_le_mul (show mi<=5 from(by omega)) hn4.2) (by decide);go_upto_region 16 with(fail);refine wp_region_T [0,0,1,0,0,0,0,0,2,3,5,0] hK ?_;clear hK
   iterate 2 refine e0 ?_
   refine eL m7 ?_
   iterate 2 refine e0 ?_
   refine eV (.int .i64 ((mi*ofN s:Nat):Int)) (fun w'=>by go_simp;(try go_bits);rw[<-Int.natCast_mul];(try go_bits);exact⟨rfl,rfl⟩) ?_;refine e0 ?_;refine eV (.int .i64 ((mi*ofN s+mj:Nat):Int)) (fun w'=>by go_simp;(try go_bits);rw[<-Int.natCast_mul];(try go_bits);exact⟨congrArg _ (by omega),rfl⟩) ?_;refine eC (fun w k=>rat_any w (hA.below k.old) (mi*ofN s+mj:Nat) hs.a) (fun x26=>?_);obtain⟨⟨p27,l27,c27⟩,⟨q27,u27,d27⟩⟩:=x26;dsimp only;refine eA (.cells #[.bool (isN (atI s.a (mi*ofN s+mj:Nat))),.slice p27 l27 c27,.slice q27 u27 d27] 53) (fun R28=>?_);refine eAppK 2 refK_hd rfl 2 h_r.out rfl infoR (fun w k=>k.one1 (K:=refK) (x:=atI s.a (mi*ofN s+mj:Nat)) m0 ⟨_,_,_,rfl,k.rq m1⟩) (by rw[atL_len];simp;omega) (fun x29=>?_);obtain⟨p29,n29,c29⟩:=x29;dsimp only;refine e0 ?_;refine sxEnd (fun W30 hK=>?_);rw[show(atL s.a (mi*ofN s) mj)++[atI s.a (mi*ofN s+mj:Nat)]=atL s.a (mi*ofN s) (mj+1)from(atL_snoc _ _ _)]at hK
   (try go_wp2)
   go_roundw
   case rel=>exact⟨mj+1,p29,n29,c29,(by first|rfl|go_num),(by first|rfl|go_num),(by omega),hid (fun e=>absurd (congrArg List.length e) (by rw[atL_len];simp)),(hK.subl (sC2 (sC2 (sR))))⟩
   case measure=>simp[intOf]<;>omega
  have q_b2:=ylt hb2;go_upto_region 8 with(fail);refine wp_region_S _ [0,1,0,0,0,2,3,5,0,4] hK ?_ (sC2 (sC2 (sR)));clear hK;refine e0 ?_;refine eL m1 ?_;refine e0 ?_;refine eL0 m1 ?_;refine e0 ?_;refine eC (fun w k=>rat_any w (hC.below k.old) m hs.c) (fun x31=>?_);obtain⟨⟨p32,l32,c32⟩,⟨q32,u32,d32⟩⟩:=x31;dsimp only;refine eA (.cells #[.bool (isN (atI s.c m)),.slice p32 l32 c32,.slice q32 u32 d32] 53) (fun R33=>?_);refine eAppK 2 refK_hd rfl 2 h_e.out rfl infoR (fun w k=>k.one1 (K:=refK) (x:=atI s.c m) m0 ⟨_,_,_,rfl,k.rq m1⟩) (by rw[atL_len];simp;omega) (fun x34=>?_) (hs:=fun _=>(sC2 (sC2 (sC2 (sC2 (sR))))));obtain⟨p34,n34,c34⟩:=x34;dsimp only;refine e0 ?_;refine eP 3 0 [.slice p34 n34 c34] ?_ (hs:=(sC2 (sC2 (sC2 (sC2 (sR)))))) (hq:=.inr ⟨rfl,rfl,rfl,rfl,rfl,trivial⟩);refine sxEnd (fun W35 hK=>?_);rw[show(atL s.c 0 m)++[atI s.c m]=atL s.c 0 (m+1)from(by rw[<-atL_snoc,Nat.zero_add])]at hK
  (try go_wp2)
  go_roundw
  case rel=>exact⟨m+1,p34,n34,c34,(by first|rfl|go_num),(by omega),hid (fun e=>absurd (congrArg List.length e) (by rw[atL_len];simp)),(hK.subl (sC2 (sC2 (sR))))⟩
  case measure=>simp[intOf]<;>omega
end
section
structure Frc where
  n:Int
  d:Int
def frC(x:Frc):List Value:=[.int .i8 x.n,.int .i8 x.d]
def frK:EK Frc where
  sz:=2
  pos:=by decide
  R:=fun _ cs x=>cs=frC x
  len:=fun e=>by rw[e];rfl
  one:=fun{_ _ x} e u hu=>by
    subst e;simp only[frC,List.mem_cons,List.not_mem_nil,or_false]at hu
    rcases hu with rfl|rfl<;>rfl
  below:=fun e _=>e
structure Frc.Ok(x:Frc):Prop where
  n:Rng8 x.n
  d:Rng8 x.d
def frX(x:Frc):Rat:=((x.n:Int):Rat)/(((if x.d=0 then 1 else x.d):Int):Rat)
def frL(l:List Frc):List Rat:=l.map frX
theorem frL_len(l:List Frc):(frL l).length=l.length:=List.length_map ..
theorem quo_lm{a b:Int}(h1: -128<=a)(h2:a<=127)(h3: -128<=b)(h4:b<=127)(h0:b≠0):LmQ 4 (((a:Int):Rat)/((b:Int):Rat)):=
  (sml_lm (X:=128) (Fra.num (D:=b) ⟨a,by omega,Rat.div_mul_cancel fun e=>h0 (Rat.intCast_inj.1 (e.trans (show(0:Rat)=((0:Int):Rat)from rfl)))⟩ ⟨h0,by omega⟩) (k:=1) (by decide)).up (by decide)
theorem frX_lm{x:Frc}(h:x.Ok):LmQ 4 (frX x):=by
  obtain⟨⟨h1,h2⟩,h3,h4⟩:=h;exact quo_lm h1 h2 (by split<;>omega) (by split<;>omega) (by split<;>omega)
theorem frL_lm{l:List Frc}(h:∀x∈l,x.Ok):LmL 4 (frL l):=fun x hx=>by
  obtain⟨y,hy,rfl⟩:=List.mem_map.1 hx;exact frX_lm (h y hy)
def frT(l:List Frc)(k:Nat):List Rat:=frL (l.take k)
theorem frT_len{l:List Frc}{k:Nat}(h:k<=l.length):(frT l k).length=k:=by unfold frT;rw[frL_len,List.length_take];omega
theorem frT_snoc{l:List Frc}{k:Nat}{x:Frc}(h:l[k]?=some x):frT l k++[frX x]=frT l (k+1):=by
  unfold frT frL;rw[List.take_add_one,h,List.map_append];rfl
theorem frT_all(l:List Frc):frT l l.length=frL l:=by unfold frT;rw[List.take_length]
structure Gs where
  k:Int
  x:List Frc
  y:List Frc
  r:List Frc
  z:Frc
structure Gs.Ok(g:Gs):Prop where
  k:Rng8 g.k
  x:∀e∈g.x,e.Ok
  y:∀e∈g.y,e.Ok
  r:∀e∈g.r,e.Ok
  z:g.z.Ok
  xl:g.x.length<=9223372036854775807
  yl:g.y.length<=9223372036854775807
  rl:g.r.length<=9223372036854775807
def resG(g:Gs):LpRes:=⟨g.k,frL g.x,frL g.y,frL g.r,frX g.z⟩
def briG(g:Gs):Bool:=decide ((g.x.length:Int)<=10)&&decide ((g.y.length:Int)<=10)&&decide ((g.r.length:Int)<=10)
theorem briG_iff{g:Gs}:briG g=true↔g.x.length<=10/\g.y.length<=10/\g.r.length<=10:=by
  unfold briG;simp only[Bool.and_eq_true,decide_eq_true_eq];omega
section
variable {α:Type}{K:EK α}{w:World}{t:TypeId}{b:Nat}{v:Value}{xs:List α}
theorem OwV.shN(h:OwV K t b w v xs)(hne:xs≠[]):∃g c,v=.slice (some ⟨g,0,none⟩) xs.length c/\SlV K w (.slice (some ⟨g,0,none⟩) xs.length c) xs:=by
  obtain⟨p,c,rfl,h1|⟨g,rfl,_⟩⟩:=h.sh
  . exact absurd h1.1 hne
  exact⟨g,c,rfl,h.slv⟩
end
section
variable {w:World}{g o n c i:Nat}{xs:List Frc}{x:Frc}
theorem SlV.fr0(h:SlV frK w (.slice (some ⟨g,o,none⟩) n c) xs)(hx:xs[i]?=some x):w.cell? ⟨g,o+i*2,none⟩=some (.int .i8 x.n):=h.cel (f:=frC) (fun e=>e) hx 0 rfl
theorem SlV.fr1(h:SlV frK w (.slice (some ⟨g,o,none⟩) n c) xs)(hx:xs[i]?=some x):w.cell? ⟨g,o+i*2+1,none⟩=some (.int .i8 x.d):=h.cel (f:=frC) (fun e=>e) hx 1 rfl
theorem slFr1{R:Nat}{a b:Int}{ty:TypeId}(h:Has 0 R (.cells #[.int .i8 a,.int .i8 b] ty) w):SlV frK w (.slice (some ⟨R,0,none⟩) 1 1) [⟨a,b⟩]:=.one h rfl (Nat.le_refl 1) (by decide)
end
section
variable {P:Program}{V:World}{ops:Array Oper}{Q:Act->World->Prop}{f0 fs fs':List Ft}{ks:List Nat}{o:Oper}{rest:List Oper}{a a':Act}{t:TypeId}
theorem eRr{g n c j:Nat}{xs:List Rat}{q:Rat}{a2:Duo Sl Sl->Act}(hm:rO refK t (some ⟨g,0,none⟩) n c xs∈fs)(hx:xs[j]?=some q)(h:∀x:Duo Sl Sl,Sx P V ops Q f0 ks rest (rF (.agg #[.bool (isN q),.slice x.a.p x.a.l x.a.c,.slice x.b.p x.b.l x.b.c]) q::fs) (a2 x))(hg:Wants ops o a:=by first|exact wants0 rfl|exact wantsg rfl rfl rfl rfl)
    (h1:∀w v0 v1 v2,w.cell? ⟨g,j*3,none⟩=some v0->w.cell? ⟨g,j*3+1,none⟩=some v1->w.cell? ⟨g,j*3+2,none⟩=some v2->Flt (.agg #[v0,v1,v2]) w ((execOp a.eval o).run P w):=by intro w' v0 v1 v2 c0 c1 c2;go_simp;(try go_bits);exact⟨rfl,rfl⟩) (ha:∀x:Duo Sl Sl,a.put o.dst (.agg #[.bool (isN q),.slice x.a.p x.a.l x.a.c,.slice x.b.p x.b.l x.b.c])=a2 x:=by intro x;(simp only[mkOf,Act.put,pA,pB,pC,pD,pE])<;>exact rfl):Sx P V ops Q f0 (2::ks) (o::rest) fs a:=
  sx2 (α:=Duo Sl Sl) (f:=fun x=>.agg #[.bool (isN q),.slice x.a.p x.a.l x.a.c,.slice x.b.p x.b.l x.b.c]) (l':=fun x=>[rF (.agg #[.bool (isN q),.slice x.a.p x.a.l x.a.c,.slice x.b.p x.b.l x.b.c]) q]) hg (fun w hw=>by
    obtain⟨v0,v1,v2,hc,hr⟩:=(hw.own hm).slv.ref hx;have hf:=h1 w v0 v1 v2 (by have:=hc.2.1;rwa [show 0+j*3=j*3 by omega]at this) (by have:=hc.2.2.1;rwa [show 0+j*3=j*3 by omega]at this) (by have:=hc.2.2.2;rwa [show 0+j*3=j*3 by omega]at this);obtain⟨rfl,⟨p,l,d,rfl⟩,p',l',d',rfl⟩:=refR_cells hr;exact Flt.does ⟨⟨⟨p,l,d⟩,⟨p',l',d'⟩⟩,rfl,(SS.start w).fact (rF _ _) hr⟩ hf) fun x=>by rw[ha];exact h x
end
theorem one_row{P:Program}{f:FuncId}{args:Array Value}{w:World}{K:EK Rat}[OwnK K]{t:TypeId}{x:Rat}(h:Calls P f args w fun e w'=> ∃s:Sl,e=.returned (.slice s.p s.l s.c)/\SS w [rO K t s.p s.l s.c [x]] w'):
    Calls P f args w fun e w'=> ∃s:Duo Nat Nat,e=.returned (.slice (some ⟨s.a,0,none⟩) 1 s.b)/\SS w [rO K t (some ⟨s.a,0,none⟩) 1 s.b [x]] w':=
  h.mono fun e w' ⟨s,e1,h1⟩=>by
    obtain⟨g,c,e2,_⟩:=(h1.own m0).shN (by simp)
    injection e2 with e2 e3 e4
    rw[e2,e3,e4]at h1 e1;exact⟨⟨g,c⟩,e1,h1⟩
def exP:LPd:=ofSm awA
def exX:List Rat:=[((1:Int):Rat),((1:Int):Rat)]
def exY:List Rat:=[((1:Int):Rat),((0:Int):Rat)]
theorem ints_lm{a b:Int}(ha: -100<=a)(ha2:a<=100)(hb: -100<=b)(hb2:b<=100):LmL 50 [(a:Rat),(b:Rat)]:=fun x hx=>by
  simp only[List.mem_cons,List.not_mem_nil,or_false]at hx
  rcases hx with rfl|rfl
  . exact(LmQ.int (by omega) (by omega)).up (by decide)
  exact(LmQ.int (by omega) (by omega)).up (by decide)
theorem exGap:gapE exP exX exY=0/\gapQ exP exX exY=2:=by decide+kernel
theorem exTxt:textQ 2=[50]:=by decide+kernel
theorem two_lm:LmQ 50 (2:Rat):=by
  rw[show(2:Rat)=((2:Int):Rat) by decide+kernel];exact(LmQ.int (by decide) (by decide)).up (by decide)
def exF:List Frc:=[⟨8,5⟩,⟨6,5⟩]
def exG:List Frc:=[⟨2,5⟩,⟨1,5⟩]
theorem exChk:chkB exP ⟨1,frL exF,frL exG,[],frX ⟨14,5⟩⟩=true/\chkB exP ⟨1,[],[],[],0⟩=false:=by decide+kernel
theorem frc_ok{a b:Int}(h1: -128<=a)(h2:a<=127)(h3: -128<=b)(h4:b<=127):(⟨a,b⟩:Frc).Ok:=⟨⟨h1,h2⟩,h3,h4⟩
theorem exF_ok:∀x∈exF,x.Ok:=fun x hx=>by
  simp only[exF,List.mem_cons,List.not_mem_nil,or_false]at hx
  rcases hx with rfl|rfl<;>exact frc_ok (by decide) (by decide) (by decide) (by decide)
theorem exG_ok:∀x∈exG,x.Ok:=fun x hx=>by
  simp only[exG,List.mem_cons,List.not_mem_nil,or_false]at hx
  rcases hx with rfl|rfl<;>exact frc_ok (by decide) (by decide) (by decide) (by decide)
end
end Go.Proofs.YtgemmbpjebijlaaGreatDoor
namespace Go.Proofs.YtgemmbpjebijlaaGreatDoor
open Go.RowKit Go.ChangeShapes Go.WideShapes Go.ChangeAt Go.Deep
section
variable {α H:Type}{enc:TypeId × Value->H}{P:Program}{w:World}{base:Nat}{sp:Nat->Bool}{hd:Bool}
theorem open_slv{K:EK α}{t e:TypeId}{Ok:α->Prop}(ht:P.underlying t=some (.slice e))(hsz:P.cellsOf e=K.sz)
    (hel:∀(cs:List Value) (m:Nat) (y:DataW H × List MemPlace),cs.length=K.sz->DataW.trod enc P w base sp hd m e cs=some y-> ∃x,K.R w cs x/\Ok x)
    {v:Value} {d:DataW H} {p:List MemPlace} (hv:∃a len cap,v=.slice a len cap) (h:DataW.Trod enc P w base sp hd t v d p):∃xs:List α,SlV K w v xs/\ ∀x∈xs,Ok x:=by
  obtain⟨a0,len0,cap0,rfl⟩:=hv;obtain⟨fuel,hf⟩:=h
  rcases open_slice ht hf with⟨hcs,_⟩|⟨a,len,cap,m,n,D,Pl,hcs,_,hl,hm,hmm,hx,hi⟩
  . simp[Value.cells]at hcs;obtain⟨rfl,rfl,rfl⟩:=hcs;exact⟨[],.nil,fun _ h=>by cases h⟩
  simp[Value.cells]at hcs;obtain⟨rfl,rfl,rfl⟩:=hcs;have hlm:len0<=m:=by rw[hmm];split<;>omega
  by_cases h0:len0=0
  . subst h0;exact⟨[],.nil,fun _ h=>by cases h⟩
  have each:∀i,i<len0-> ∃q:List Value × α,K.R w q.1 q.2/\Ok q.2/\ ∀j,j<K.sz->w.cell? ((a.add (i*K.sz)).add j)=q.1[j]?:=fun i hil=>by
    obtain⟨cs',hc,ht'⟩:=hi i (by omega);rw[hsz]at hc;obtain⟨_,hcl,hat⟩:=World.cells?_some hc;obtain⟨x,h1,h2⟩:=hel cs' _ _ hcl ht';exact⟨(cs',x),h1,h2,hat⟩
  haveI:Inhabited (List Value × α):=⟨(each 0 (by omega)).choose⟩
  obtain⟨f,hf⟩:=choose_lt each;obtain⟨b,off,spot⟩:=a;have hp:=K.pos;have hfl:=fun i (hil:i<len0)=>K.len (hf i hil).1
  have hspot:spot=none:=by
    have h1:=(hf 0 (by omega)).2.2 0 hp;have h2:(f 0).1[0]?=some ((f 0).1[0]'(by rw[hfl 0 (by omega)];exact hp)):=List.getElem?_eq_getElem _;have:=World.cell?_spot (h1.trans h2)
    simpa[Addr.add]using this
  subst hspot;have he:∀k o,(⟨b,o,none⟩:Addr).add k=⟨b,o+k,none⟩:=fun k o=>by unfold Addr.add;split<;>simp_all
  refine⟨(List.range len0).map fun i=>(f i).2,⟨(List.range len0).map fun i=>(f i).1,⟨by simp,fun k cs x h1 h2=>?_⟩,.inr ⟨b,off,cap0,by simp,?_,by simpa using hl,by simpa[maxLen]using hm,fun k cs j u h1 h2=>?_⟩⟩,fun x hx=>?_⟩
  . have hk:k<len0:=by
      have:=(List.getElem?_eq_some_iff.1 h1).1
      simpa using this
    simp[hk]at h1 h2;subst h1;subst h2;exact(hf k hk).1
  . have h1:=(hf 0 (by omega)).2.2 0 hp;have h2:(f 0).1[0]?=some ((f 0).1[0]'(by rw[hfl 0 (by omega)];exact hp)):=List.getElem?_eq_getElem _;rw[he,he]at h1;exact World.block_lt_of_cell? w _ (h1.trans h2)
  . have hk:k<len0:=by
      have:=(List.getElem?_eq_some_iff.1 h1).1
      simpa using this
    simp[hk]at h1;subst h1;have hj:j<K.sz:=(hfl k hk)▸(List.getElem?_eq_some_iff.1 h2).1;have h3:=(hf k hk).2.2 j hj;rw[he,he]at h3;exact h3.trans h2
  obtain⟨k,hk,rfl⟩:=List.mem_map.1 hx;exact(hf k (List.mem_range.1 hk)).2.1
end
end Go.Proofs.YtgemmbpjebijlaaGreatDoor
