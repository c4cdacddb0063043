/- Laws of linear programs with up to 4 variables and 5 rows: for every input the law's function returns true; no condition. Part 5 of 6. -/

import Derived.Test.YtjhaedfpigebdaaGreatDoorQD
import Derived.Deep.RegionLaw
import Derived.Lib.SliceRun
import Derived.WalkKit
import Derived.Deep.LoopGhost
namespace Go.Proofs.YtjhaedfpigebdaaGreatDoor
open Go.RowKit
open Go.Lib (decDigits)
section
set_option maxRecDepth 100000 in
set_option maxHeartbeats 400000 in
theorem sbr_any(w V:World)(L:Lns){xp:Option Addr}{xl xc:Nat}{xn:Bool}{xy xz:Sl}(x:LRow)(j:Nat){bp:Option Addr}{bl bc:Nat}{bn:Bool}{by1 bz:Sl}(p:LRow)(l:List Ft)(hK:SS V ((L.f ⟨⟨xp,xl,xc⟩,xn,⟨xy.p,xy.l,xy.c⟩,⟨xz.p,xz.l,xz.c⟩⟩)::(rO ratK 70 xp xl xc x.cs)::(qF (.agg #[.bool xn,.slice xy.p xy.l xy.c,.slice xz.p xz.l xz.c]) (x.r))::(rO ratK 70 bp bl bc p.cs)::(qF (.agg #[.bool bn,.slice by1.p by1.l by1.c,.slice bz.p bz.l bz.c]) (p.r))::l) w)(hz:OkA 2 l)(hz3:OkA 3 l)(hj:j<x.cs.length)(hlen:p.cs.length=x.cs.length)(hk:x.cs.length<=100000)(hm1:LmL 300 x.cs)(hm2:LmL 300 p.cs)(hm3:LmQ 300 x.r)(hm4:LmQ 300 p.r):
    Calls Tryz.prog 118 #[.pointer (some ⟨L.g,L.o,none⟩),.int .i64 (j:Int),.agg #[.slice bp bl bc,.bool bn,.slice by1.p by1.l by1.c,.slice bz.p bz.l bz.c]] w fun e w'=> ∃z:Duo Bool (Duo Sl Sl),e=.returned (.tuple #[])/\SS V (L.f ⟨⟨xp,xl,xc⟩,z.a,z.b.a,z.b.b⟩::rO ratK 70 xp xl xc (x.subst j p).cs::qF (.agg #[.bool z.a,.slice z.b.a.p z.b.a.l z.b.a.c,.slice z.b.b.p z.b.b.l z.b.b.c]) (x.subst j p).r::rO ratK 70 bp bl bc p.cs::qF (.agg #[.bool bn,.slice by1.p by1.l by1.c,.slice bz.p bz.l bz.c]) p.r::l) w':=by
  have hxn:=hid (hK.len m1);have hbn2:=hid ((hK.len m3).trans hlen);have⟨n1,n2⟩:=lle hxn.out;have⟨n3,n4⟩:=lle hbn2.out;refine Calls.hide (fun Q0 hQ0=>?_);go_enter Tryz.func118,Tryz.ntmps118;go_upto_region 0 with(fail);refine wp_region_T [3] hK ?_;clear hK;refine eA (.cells #[.slice bp bl bc,.bool bn,.slice by1.p by1.l by1.c,.slice bz.p bz.l bz.c] 149) (fun R1=>?_);refine sxEnd (fun W2 hK=>?_);have i3:j<xl:=(by omega);obtain⟨g3,rfl⟩:=hK.pt m2 i3;have l3:j<x.cs.length:=Nat.lt_of_lt_of_eq i3 (hK.len m2);obtain⟨fx,efx⟩:=gtH l3;have hfl:=hid (show LmQ 300 fx from hm1 _ (List.mem_of_getElem? efx.out));go_upto_region 1 with(fail);refine wp_region_T [0,0,0,1,0,0,2,3,4] hK ?_;clear hK
  iterate 3 refine e0 ?_
  refine eRm (F:=(L.f ⟨⟨(some ⟨g3,0,none⟩),xl,xc⟩,xn,⟨xy.p,xy.l,xy.c⟩,⟨xz.p,xz.l,xz.c⟩⟩).F) (fun w k=>k.get m1) (h1:=by intro w' k;have c0:=L.rd0 k;go_simp;(try go_bits);exact⟨rfl,rfl⟩) ?_
  iterate 2 refine e0 ?_
  refine eRq m2 efx.out (fun x4=>?_);obtain⟨⟨p4,l4,c4⟩,⟨q4,u4,d4⟩⟩:=x4;dsimp only;refine eA (.cells #[.bool false,.slice none 0 0,.slice none 0 0] 70) (fun R5=>?_);refine eP 0 0 [.bool (isN (fx)),.slice p4 l4 c4,.slice q4 u4 d4] ?_;refine sxEnd (fun W6 hK=>?_);go_upto_region 2 with(fail);refine wp_region_T [1,1,0] hK ?_;clear hK;refine eL m0 ?_;obtain⟨z1,hz1⟩:=nmI (sgQ (fx));refine eQ (v:=.int .i64 z1) (fun w k=>sign_any _ _ w (k.q m1)) ?_ (hv:=by rw[hz1.out]);refine eB (z1==0) (fun b1 hb1=>?_);refine sxEnd (fun W7 hK=>?_)
  cases b1
  . --
   replace hK:=hK.fact (qF (.agg #[.bool false,.slice none 0 0,.slice none 0 0]) 0) (RatV.zero _);go_upto_region 3 with(fail);refine wp_region_T [0,0,0,1,0,0,0,4] hK ?_;clear hK
   iterate 3 refine e0 ?_
   refine eRm (F:=(L.f ⟨⟨(some ⟨g3,0,none⟩),xl,xc⟩,xn,⟨xy.p,xy.l,xy.c⟩,⟨xz.p,xz.l,xz.c⟩⟩).F) (fun w k=>k.get m4) (h1:=by intro w' k;have c0:=L.rd0 k;go_simp;(try go_bits);exact⟨rfl,rfl⟩) ?_
   iterate 3 refine e0 ?_
   refine eWQ (y:=0) 5 l3 m0 ?_ (hi:=rfl);refine sxEnd (fun W8 hK=>?_);go_upto_region 4 with(fail);refine wp_region_T [0,1,0,0] hK ?_;clear hK;refine e0 ?_;refine eL m3 ?_
   iterate 2 refine e0 ?_
   refine sxEnd (fun W9 hK=>?_);rw[show x.cs.set j 0=subN fx (x.cs.set j 0) p.cs 0 from(subN_zero _ _ _).symm]at hK;go_wp2_with fail;go_loopw [29] (fun s29 wl=> ∃(m:Nat),s29=.int .i64 (m:Int)/\(m<=bl)/\SS V ((L.f ⟨⟨(some ⟨g3,0,none⟩),xl,xc⟩,xn,⟨xy.p,xy.l,xy.c⟩,⟨xz.p,xz.l,xz.c⟩⟩)::(rO ratK 70 (some ⟨g3,0,none⟩) xl xc (subN fx (x.cs.set j 0) p.cs m))::(rO ratK 70 bp bl bc p.cs)::(qF (.agg #[.bool (isN (fx)),.slice p4 l4 c4,.slice q4 u4 d4]) (fx))::(qF (.agg #[.bool xn,.slice xy.p xy.l xy.c,.slice xz.p xz.l xz.c]) (x.r))::(qF (.agg #[.bool bn,.slice by1.p by1.l by1.c,.slice bz.p bz.l bz.c]) (p.r))::(bx R5 (.cells #[.bool (isN (fx)),.slice p4 l4 c4,.slice q4 u4 d4] 70))::(bx R1 (.cells #[.slice bp bl bc,.bool bn,.slice by1.p by1.l by1.c,.slice bz.p bz.l bz.c] 149))::l) wl) (fun s29 _=>bl-(intOf s29).toNat)
   case atStart=>exact⟨0,rfl,(by omega),(((((((((hK.up3).up2).up8).up7).up5).up8).up8).up8).subl (sK2 (sK2 (sK2 (sK2 (sK2 (sK2 (sK2 (sK2 (sC2 (sR)))))))))))⟩
   clear hK;obtain⟨m,rfl,hm0,hK⟩:=hrel;generalize wr=W10 at hK⊢;go_upto_region 5 with(fail);refine wp_region_T [0] hK ?_;clear hK;refine eB (decide (((m:Int))<((bl:Int)))) (fun b2 hb2=>?_);refine sxEnd (fun W11 hK=>?_)
   cases b2
   . --
    have q_b2:=nlt hb2;go_upto_region 10 with(fail);refine wp_region_S _ [0,0,0,0,1,0,0,0,2,2,0,0,4] hK ?_ (sC2 (sR));clear hK
    iterate 4 refine e0 ?_
    refine eRm (F:=(L.f ⟨⟨(some ⟨g3,0,none⟩),xl,xc⟩,xn,⟨xy.p,xy.l,xy.c⟩,⟨xz.p,xz.l,xz.c⟩⟩).F) (fun w k=>k.get m0) (h1:=by intro w' k;have c0:=L.rd1 k;have c1:=L.rd2 k;have c2:=L.rd3 k;go_simp;(try go_bits);exact⟨rfl,rfl⟩) ?_;refine eL0 m5 ?_;refine e0 ?_;refine eL0 m6 ?_;refine eC (fun w k=>rat_S (qmul_any _ _ _ _ w (k.q m3) (k.q m5) hfl.out hm4 (by decide))) (fun x12=>?_);obtain⟨⟨p13,l13,c13⟩,⟨q13,u13,d13⟩⟩:=x12;dsimp only;refine eC (fun w k=>rat_S (qsub_any _ _ _ _ w (k.q m5) (k.q m0) (hm3.up (by decide)) ((LmQ.mul hfl.out hm4).up (by decide)) (k:=700) (by decide))) (fun x14=>?_);obtain⟨⟨p15,l15,c15⟩,⟨q15,u15,d15⟩⟩:=x14;dsimp only
    iterate 2 refine e0 ?_
    refine eLw ⟨⟨(some ⟨g3,0,none⟩),xl,xc⟩,(isN (x.r-(fx*p.r))),⟨p15,l15,c15⟩,⟨q15,u15,d15⟩⟩ 2 1 [.bool (isN (x.r-(fx*p.r))),.slice p15 l15 c15,.slice q15 u15 d15] ?_ (hs:=(sC2 (sC2 (sC2 (sR)))));refine sxEnd (fun W16 hK=>?_);have hY:(x.subst j p).cs=subN fx (x.cs.set j 0) p.cs m:=by rw[subst_cs efx.out,subN_all _ (by rw[List.length_set];omega) (by rw[List.length_set];omega)]
    have hR:(x.subst j p).r=x.r-fx*p.r:=subst_r efx.out;replace hK:=hK.up7;replace hK:=hK.up5;replace hK:=hK.up2;replace hK:=hK.up5;replace hK:=hK.up5;replace hK:=hK.subl (sK2 (sK2 (sK2 (sK2 (sK2 (sC2 (sC2 (sC2 (sC2 (sC2 (sR)))))))))));rw[<-hY]at hK;rw[<-hR]at hK;go_wp2
    first|exact bodyPost_ret (v:=.tuple #[]) (results_none (by simp[Tryz.results118]) _ _ _) rfl (qo hQ0 ⟨⟨isN (x.subst j p).r,⟨p15,l15,c15⟩,⟨q15,u15,d15⟩⟩,rfl,hK⟩)|exact bodyPost_end (v:=.tuple #[]) (results_none (by simp[Tryz.results118]) _ _ _) rfl (qo hQ0 ⟨⟨isN (x.subst j p).r,⟨p15,l15,c15⟩,⟨q15,u15,d15⟩⟩,rfl,hK⟩)
   have q_b2:=ylt hb2;have hm:m<bl:=(by omega);have i17:m<bl:=(by omega);obtain⟨g17,rfl⟩:=hK.pt m2 i17;have l17:m<p.cs.length:=Nat.lt_of_lt_of_eq i17 (hK.len m2);obtain⟨cc,ecc⟩:=gtH l17;have hcl:=hid (show LmQ 300 cc from hm2 _ (List.mem_of_getElem? ecc.out));go_upto_region 6 with(fail);refine wp_region_T [0,0,2,3,0,4] hK ?_;clear hK
   iterate 2 refine e0 ?_
   refine eRq m2 ecc.out (fun x18=>?_);obtain⟨⟨p18,l18,c18⟩,⟨q18,u18,d18⟩⟩:=x18;dsimp only;refine eA (.cells #[.bool false,.slice none 0 0,.slice none 0 0] 70) (fun R19=>?_);refine e0 ?_;refine eP 0 0 [.bool (isN (cc)),.slice p18 l18 c18,.slice q18 u18 d18] ?_;refine sxEnd (fun W20 hK=>?_);go_upto_region 7 with(fail);refine wp_region_T [1,1,0] hK ?_;clear hK;refine eL m0 ?_;obtain⟨z2,hz2⟩:=nmI (sgQ (cc));refine eQ (v:=.int .i64 z2) (fun w k=>sign_any _ _ w (k.q m1)) ?_ (hv:=by rw[hz2.out]);refine eB (z2 !=0) (fun b3 hb3=>?_);refine sxEnd (fun W21 hK=>?_)
   cases b3
   . --
    rw[show subN fx (x.cs.set j 0) p.cs m=subN fx (x.cs.set j 0) p.cs (m+1)from(subN_same fx (List.getElem?_eq_getElem (by rw[List.length_set];omega)) (by rw[ecc.out,sgQ_zero.1 (hz2.out.trans (by have q:=hb3.out;simpa using q))])).symm]at hK
    (try go_wp2)
    go_roundw
    case rel=>exact⟨m+1,(by first|rfl|go_num),(by omega),(hK.subl (sC2 (sC2 (sR))))⟩
    case measure=>simp[intOf]<;>omega
   have i22:m<xl:=(by omega);have l22:m<(subN fx (x.cs.set j 0) p.cs m).length:=Nat.lt_of_lt_of_eq i22 (hK.len m3);obtain⟨xa,exa⟩:=gtH l22;have ea:Hid ((x.cs.set j 0)[m]?=some xa):=hid (by have q:=exa.out;rwa [subN_at _ (by rw[List.length_set];omega)]at q);have hal:=hid (show LmQ 300 xa from LmL_set hm1 (by decide) _ (List.mem_of_getElem? ea.out));replace hK:=hK.up3;obtain⟨⟨⟨p23,l23,c23⟩,⟨q23,u23,d23⟩⟩,hK⟩:=hK.toC exa.out;go_upto_region 8 with(fail);refine wp_region_S _ [0,0,0,0,0,0,0,0,0,0,0,1,0,0,2,2,0,4] hK ?_ (sC2 (sR));clear hK
   iterate 3 refine e0 ?_
   refine eRm0 (F:=(L.f ⟨⟨(some ⟨g3,0,none⟩),xl,xc⟩,xn,⟨xy.p,xy.l,xy.c⟩,⟨xz.p,xz.l,xz.c⟩⟩).F) (fun w k=>k.get m3) (h1:=by intro w' k;have c0:=L.rd0 k;go_simp;(try go_bits);exact⟨rfl,rfl⟩) ?_
   iterate 4 refine e0 ?_
   refine eRm0 (F:=(L.f ⟨⟨(some ⟨g3,0,none⟩),xl,xc⟩,xn,⟨xy.p,xy.l,xy.c⟩,⟨xz.p,xz.l,xz.c⟩⟩).F) (fun w k=>k.get m3) (h1:=by intro w' k;have c0:=L.rd0 k;go_simp;(try go_bits);exact⟨rfl,rfl⟩) ?_
   iterate 2 refine e0 ?_
   refine eRm (F:=(rC 70 g3 xl xc (subN fx (x.cs.set j 0) p.cs m) m ⟨⟨p23,l23,c23⟩,⟨q23,u23,d23⟩⟩ xa).F) (fun w k=>k.get m0) (h1:=by intro w' k;obtain⟨_,_,c0,c1,c2⟩:=k;(try simp at c0 c1 c2);go_simp;(try go_bits);exact⟨rfl,rfl⟩) ?_;refine eL0 m8 ?_;refine eL0 m1 ?_;refine eC (fun w k=>rat_S (qmul_any _ _ _ _ w (k.q m6) (k.q m3) hfl.out hcl.out (by decide))) (fun x24=>?_);obtain⟨⟨p25,l25,c25⟩,⟨q25,u25,d25⟩⟩:=x24;dsimp only;refine eC (fun w k=>rat_S (qsub_any _ _ _ _ w (k.q m2) (k.q m0) (hal.out.up (by decide)) ((LmQ.mul hfl.out hcl.out).up (by decide)) (k:=700) (by decide))) (fun x26=>?_);obtain⟨⟨p27,l27,c27⟩,⟨q27,u27,d27⟩⟩:=x26;dsimp only;refine e0 ?_;refine eWC (y:=(xa-(fx*cc))) 2 l22 m0 ?_ (hi:=rfl) (hs:=(sC2 (sC2 (sC2 (sR)))));refine sxEnd (fun W28 hK=>?_);rw[show(subN fx (x.cs.set j 0) p.cs m).set m (xa-(fx*cc))=subN fx (x.cs.set j 0) p.cs (m+1)from(subN_succ fx ea.out ecc.out)]at hK
   (try go_wp2)
   go_roundw
   case rel=>exact⟨m+1,(by first|rfl|go_num),(by omega),(((((((((hK.up12).up12).up12).up12).up12).up12).up8).up12).subl (sK2 (sK2 (sK2 (sK2 (sK2 (sK2 (sK2 (sK2 (sC2 (sC2 (sC2 (sC2 (sC2 (sR)))))))))))))))⟩
   case measure=>simp[intOf]<;>omega
  have hY0:x.subst j p=x:=subst_zero (by rw[getD_eq_of efx.out];exact sgQ_zero.1 (hz1.out.trans (by have q:=hb1.out;simpa using q)));have hY:(x.subst j p).cs=x.cs:=(by rw[hY0]);have hR:(x.subst j p).r=x.r:=(by rw[hY0]);replace hK:=hK.up7;replace hK:=hK.up7;replace hK:=hK.up7;replace hK:=hK.up7;replace hK:=hK.up7;replace hK:=hK.subl (sK2 (sK2 (sK2 (sK2 (sK2 (sC2 (sC2 (sC2 (sR)))))))));rw[<-hY]at hK;rw[<-hR]at hK;go_wp2
  first|exact bodyPost_ret (v:=.tuple #[]) (results_none (by simp[Tryz.results118]) _ _ _) rfl (qo hQ0 ⟨⟨xn,⟨xy.p,xy.l,xy.c⟩,⟨xz.p,xz.l,xz.c⟩⟩,rfl,hK⟩)|exact bodyPost_end (v:=.tuple #[]) (results_none (by simp[Tryz.results118]) _ _ _) rfl (qo hQ0 ⟨⟨xn,⟨xy.p,xy.l,xy.c⟩,⟨xz.p,xz.l,xz.c⟩⟩,rfl,hK⟩)
end
section
structure FmV(w:World)(rs:List Rw4)(T:List LRow):Prop where
  len:rs.length=T.length
  cs:∀{k:Nat} {x:Rw4} {y:LRow},rs[k]?=some x->T[k]?=some y->SlV ratK w (.slice x.s.p x.s.l x.s.c) y.cs
  q:∀{k:Nat} {x:Rw4} {y:LRow},rs[k]?=some x->T[k]?=some y->RatV w x.q y.r
structure LmT(k:Nat)(T:LTab):Prop where
  cs:∀y∈T.rows,LmL k y.cs
  r:∀y∈T.rows,LmQ k y.r
theorem LmQ.quo0{a b:Nat}{x y:Rat}(hx:LmQ a x)(hy:LmQ b y):LmQ (a+b) (x/y):=by
  by_cases h:y=0
  . subst h;rw[div_zero']
    have hb:1<=b:=by
      rcases Nat.eq_zero_or_pos b with e|e
      . subst e;have h2:(0:Rat).den<B32^0:=hy.d
        revert h2
        decide
      exact e
    exact LmQ.nil0.up (by omega)
  exact hx.div hy h
theorem LmL.set{k j:Nat}{cs:List Rat}{x:Rat}(h:LmL k cs)(hx:LmQ k x):LmL k (cs.set j x):=fun y hy=>by
  rcases List.mem_or_eq_of_mem_set hy with hy|rfl
  . exact h y hy
  exact hx
theorem LmQ.int1:LmQ 1 ((1:Int):Rat):=⟨by show _<_;decide,by show _<_;decide⟩
theorem scale_cs{y:LRow}{j:Nat}{q:Rat}(h:y.cs[j]?=some q):(y.cs.set j ((1:Int):Rat)).map (fun c=>c*(((1:Int):Rat)/q))=(y.scale j).cs:=by
  unfold LRow.scale;rw[getD_eq_of h];rfl
theorem scale_r{y:LRow}{j:Nat}{q:Rat}(h:y.cs[j]?=some q):y.r*(((1:Int):Rat)/q)=(y.scale j).r:=by
  unfold LRow.scale;rw[getD_eq_of h];rfl
def adV(x:Duo Nat Nat):Value:=.pointer (some ⟨x.a,x.b,none⟩)
def adK:EK (Duo Nat Nat) where
  sz:=1
  pos:=by decide
  R:=fun _ cs s=>cs=[adV s]
  len:=fun e=>by rw[e];rfl
  one:=fun e u hu=>by
    subst e;simp only[List.mem_cons,List.not_mem_nil,or_false]at hu;subst hu;rfl
  below:=fun e _=>e
theorem adK_free:adK.Free:=fun _ _ _ _ h=>h
instance :OwnK adK:=⟨[],fun h _ _ _ _ _ _=>h,.inl adK_free⟩
theorem OwV.ad{w:World}{t:TypeId}{b i g n c p q:Nat}{xs:List (Duo Nat Nat)}(h:OwV adK t b w (.slice (some ⟨g,0,none⟩) n c) xs)(hx:xs[i]?=some ⟨p,q⟩):w.cell? ⟨g,i,none⟩=some (.pointer (some ⟨p,q,none⟩)):=by
  have h1:=h.slv.cel (f:=fun x=>[adV x]) (fun e=>e) hx 0 rfl
  rwa [show 0+i*adK.sz+0=i from by show 0+i*1+0=_;omega]at h1
section
variable {V w:World}{l:List Ft}{t ty:TypeId}{rs:List Rw4}{T:List LRow}{G R:Nat}
theorem set_same{α:Type}{l:List α}{k:Nat}{x:α}(h:l[k]?=some x):l.set k x=l:=by
  refine List.ext_getElem? fun m=>?_
  by_cases e:k=m
  . subst e;rw[List.getElem?_set_self (List.getElem?_eq_some_iff.1 h).1,h]
  rw[List.getElem?_set_ne e]
theorem SS.fmV(h:SS V l w)(hf:fmF t rs T []∈l)(hl:rs.length=T.length):FmV w rs T:=⟨hl,fun hx hy=>(h.rwR hf List.not_mem_nil hx hy).slv,fun hx hy=>h.rwQ hf List.not_mem_nil hx hy⟩
theorem FmV.below{w':World}(h:FmV w rs T)(hb:Below w.heap.size w w'):FmV w' rs T:=⟨h.len,fun hx hy=>(h.cs hx hy).below hb,fun hx hy=>(h.q hx hy).below hb⟩
theorem els_ad(ads:List (Duo Nat Nat)):Els adK w (ads.map fun x=>[adV x]) ads:=by
  induction ads with
  |nil=>exact .nil
  |cons a bs ih=>exact Els.append (css:=[[adV a]]) (xs:=[a]) (.one rfl) ih
theorem flat_ad:∀ads:List (Duo Nat Nat),(ads.map fun x=>[adV x]).flatten=ads.map adV
  |[]=>rfl
  |a::l=>by rw[List.map_cons,List.flatten_cons,flat_ad l];rfl
theorem SS.adR{ads:List (Duo Nat Nat)}(h:SS V (bx G (.cells (ads.map adV).toArray ty)::l) w)(hl:ads.length<=1000):SS V (rO adK ty (some ⟨G,0,none⟩) ads.length ads.length ads::l) w:=by
  obtain⟨h1,h2⟩:=List.pairwise_cons.1 h.ap;have hb:=h.get (List.mem_cons_self ..);refine⟨h.old,fun f hf=>?_,fun f hf g hg=>?_,.cons (fun f' hf' g hg=>h1 f' hf' g ?_) h2⟩
  . rcases List.mem_cons.1 hf with rfl|hf
    . have hfl:=flat_ad ads;refine⟨_,els_ad ads,by rw[hfl,List.length_map];exact(Nat.mul_one _).symm,.inr ⟨G,ads.length,_,rfl,hb.1,hb.2,Nat.le_refl _,by simp[maxLen];omega,?_,?_⟩⟩
      . show _=ads.length*1
        simp
      rw[hfl,show adK.sz=1 from rfl,Nat.mul_one,List.take_of_length_le (by simp)]
    exact h.has f (List.mem_cons_of_mem _ hf)
  . rcases List.mem_cons.1 hf with rfl|hf
    . exact h.lo _ (List.mem_cons_self ..) g (by injection hg with e;exact e.symm)
    exact h.lo f (List.mem_cons_of_mem _ hf) g hg
  injection hg with e;exact e.symm
end
theorem SlV.rw4{w:World}{g o n c i:Nat}{rs:List Rw4}{x:Rw4}(h:SlV rw4K w (.slice (some ⟨g,o,none⟩) n c) rs)(hx:rs[i]?=some x)(j:Nat){u:Value}(hu:x.cs[j]?=some u):w.cell? ⟨g,o+i*4+j,none⟩=some u:=h.cel (f:=Rw4.cs) (fun e=>e) hx j hu
theorem SlV.rw40{w:World}{g o n c i:Nat}{rs:List Rw4}{x:Rw4}(h:SlV rw4K w (.slice (some ⟨g,o,none⟩) n c) rs)(hx:rs[i]?=some x):w.cell? ⟨g,o+i*4,none⟩=some (.slice x.s.p x.s.l x.s.c):=h.rw4 hx 0 rfl
structure Gl where
  L:Lns
  x:Rw4
  y:LRow
def Gl.fs(t:TypeId)(a:Gl):List Ft:=[a.L.f a.x,rO ratK t a.x.s.p a.x.s.l a.x.s.c a.y.cs,qF a.x.q a.y.r]
theorem gl_ln{t:TypeId}{gs:List Gl}:∀f∈gs.flatMap (Gl.fs t),∀n,f.ln.contains n=true->[0].contains n=true:=fun f hf n hn=>by
  obtain⟨a,_,h⟩:=List.mem_flatMap.1 hf
  rcases List.mem_cons.1 h with rfl|h
  . cases hn
  rcases List.mem_cons.1 h with rfl|h
  . exact hn
  rcases List.mem_cons.1 h with rfl|h
  . exact hn
  cases h
def glF(t:TypeId)(gs:List Gl):Ft:=stF [0] (gs.flatMap (Gl.fs t)) gl_ln
section
variable {V w:World}{l:List Ft}{t:TypeId}{gs gs':List Gl}{a:Gl}{m:Nat}
theorem SS.glP(h:SS V (glF t gs::l) w)(hp:gs.Perm gs'):SS V (glF t gs'::l) w:=SS.star.2 ((SS.star.1 h).perm ((hp.flatMap_right _).append_right l))
theorem SS.glC:SS V (glF t (a::gs)::l) w↔SS V (a.L.f a.x::rO ratK t a.x.s.p a.x.s.l a.x.s.c a.y.cs::qF a.x.q a.y.r::glF t gs::l) w:=by
  have e1:∀x y z u:Ft,(u::x::y::z::l).Perm (x::y::z::u::l):=fun x y z u=>(List.Perm.swap ..).trans (((List.Perm.swap ..).trans ((List.Perm.swap ..).cons _)).cons _)
  have e2:∀(x y z:Ft) (us:List Ft),(us++x::y::z::l).Perm (x::y::z::(us++l)):=fun x y z us=>List.perm_middle.trans ((List.perm_middle.trans (List.perm_middle.cons _)).cons _)
  constructor
  . intro h;exact(SS.star.2 ((SS.star.1 h).perm (e2 _ _ _ _).symm)).perm (e1 _ _ _ _)
  intro h;exact SS.star.2 ((SS.star.1 (h.perm (e1 _ _ _ _).symm)).perm (e2 _ _ _ _))
theorem cons_erase:∀{l:List Gl} {m:Nat} {a:Gl},l[m]?=some a->(a::l.eraseIdx m).Perm l
  |_::l,0,_,h=>by cases h;exact .refl _
  |b::l,m+1,a,h=>(List.Perm.swap ..).trans ((cons_erase (l:=l) (m:=m) (by simpa using h)).cons b)
theorem SS.glO(h:SS V (glF t gs::l) w)(hm:gs[m]?=some a):SS V (a.L.f a.x::rO ratK t a.x.s.p a.x.s.l a.x.s.c a.y.cs::qF a.x.q a.y.r::glF t (gs.eraseIdx m)::l) w:=SS.glC.1 (h.glP (cons_erase hm).symm)
theorem SS.glB(h:SS V (a.L.f a.x::rO ratK t a.x.s.p a.x.s.l a.x.s.c a.y.cs::qF a.x.q a.y.r::glF t (gs.eraseIdx m)::l) w)(hm:m<gs.length):SS V (glF t (gs.set m a)::l) w:=by
  have h1:=SS.glC.2 h;rw[<-List.eraseIdx_set_eq (a:=a)]at h1;exact h1.glP (cons_erase (List.getElem?_set_self hm))
end
def GsR(gs:List Gl)(j:Nat)(p:LRow)(m:Nat)(gs1:List Gl):Prop:=gs1.length=gs.length/\ ∀(k:Nat) (a:Gl),gs[k]?=some a-> ∃x':Rw4,x'.s=a.x.s/\gs1[k]?=some ⟨a.L,x',if k<m then a.y.subst j p else a.y⟩
section
variable {gs gs1:List Gl}{a:Gl}{j m:Nat}{p:LRow}
theorem GsR.start:GsR gs j p 0 gs:=⟨rfl,fun k a h=>⟨a.x,rfl,by rw[if_neg (by omega)];exact h⟩⟩
theorem GsR.at(h:GsR gs j p m gs1)(ha:gs[m]?=some a):∃x:Rw4,x.s=a.x.s/\gs1[m]?=some ⟨a.L,x,a.y⟩:=by
  obtain⟨x,h1,h2⟩:=h.2 m a ha;rw[if_neg (by omega)]at h2;exact⟨x,h1,h2⟩
theorem GsR.step{x:Rw4}(h:GsR gs j p m gs1)(ha:gs[m]?=some a)(hx:x.s=a.x.s):GsR gs j p (m+1) (gs1.set m ⟨a.L,x,a.y.subst j p⟩):=by
  refine⟨by rw[List.length_set];exact h.1,fun k b hb=>?_⟩
  by_cases e:m=k
  . subst e;rw[ha]at hb;cases hb
    exact⟨x,hx,by rw[List.getElem?_set_self (by have:=(List.getElem?_eq_some_iff.1 ha).1;have:=h.1;omega),if_pos (by omega)]⟩
  obtain⟨x',h1,h2⟩:=h.2 k b hb;refine⟨x',h1,?_⟩;rw[List.getElem?_set_ne e,h2];have:(k<m+1)=(k<m):=by rw[eq_iff_iff];omega
  simp only[this]
theorem GsR.cons(h:GsR (a::gs) j p m gs1)(hm:gs.length<m):∃(x:Rw4) (gs2:List Gl),x.s=a.x.s/\gs1=⟨a.L,x,a.y.subst j p⟩::gs2/\GsR gs j p gs.length gs2:=by
  obtain⟨h1,h2⟩:=h;obtain⟨x,e1,e2⟩:=h2 0 a rfl
  cases gs1 with
  |nil=>cases e2
  | cons b gs2=>
    rw[if_pos (by omega)]at e2
    injection e2 with e2
    refine⟨x,gs2,e1,by rw[e2],by simpa using h1,fun k c hc=>?_⟩;obtain⟨x',f1,f2⟩:=h2 (k+1) c hc;have hk:=(List.getElem?_eq_some_iff.1 hc).1;rw[if_pos (by omega)]at f2;exact⟨x',f1,by rw[if_pos hk];exact f2⟩
end
def plG(R:Nat)(a b c:Sl)(nc:Int):Lns:=lnB R [.slice a.p a.l a.c,.slice b.p b.l b.c,.slice c.p c.l c.c] [.int .i64 nc] (fun _=>rfl) 151
theorem SS.toG{V w:World}{l:List Ft}{R:Nat}{a b c:Sl}{nc:Int}{x:Rw4}{y:LRow}{zs:List Gl}{t:TypeId}(h:SS V (bx R (.cells #[.slice a.p a.l a.c,.slice b.p b.l b.c,.slice c.p c.l c.c,.slice x.s.p x.s.l x.s.c,.bool x.n,.slice x.y.p x.y.l x.y.c,.slice x.z.p x.z.l x.z.c,.int .i64 nc] 151)::rO ratK t x.s.p x.s.l x.s.c y.cs::qF x.q y.r::glF t zs::l) w):SS V (glF t (⟨plG R a b c nc,x,y⟩::zs)::l) w:=SS.glC.2 h
theorem SS.ofG{V w:World}{l:List Ft}{R:Nat}{a b c:Sl}{nc:Int}{x:Rw4}{y:LRow}{zs:List Gl}{t:TypeId}(h:SS V (glF t (⟨plG R a b c nc,x,y⟩::zs)::l) w):SS V (bx R (.cells #[.slice a.p a.l a.c,.slice b.p b.l b.c,.slice c.p c.l c.c,.slice x.s.p x.s.l x.s.c,.bool x.n,.slice x.y.p x.y.l x.y.c,.slice x.z.p x.z.l x.z.c,.int .i64 nc] 151)::rO ratK t x.s.p x.s.l x.s.c y.cs::qF x.q y.r::glF t zs::l) w:=SS.glC.1 h
structure PvZ where
  rs:List Rw4
  g:Rw4
  zs:List Gl
theorem subrow_any(w V:World){g n c i j k:Nat}{rs:List Rw4}{T:List LRow}{x b:Rw4}{y p:LRow}{l:List Ft}(hK:SS V (rO rw4K 149 (some ⟨g,0,none⟩) n c rs::fmF 70 rs T [i]::rO ratK 70 b.s.p b.s.l b.s.c p.cs::qF b.q p.r::l) w)(hz:OkA 2 l)(hz3:OkA 3 l)(hx:rs[k]?=some x)(hy:T[k]?=some y)(hki:k≠i)
    (hj:j<y.cs.length) (hlen:p.cs.length=y.cs.length) (hk:y.cs.length<=100000) (hm1:LmL 300 y.cs) (hm2:LmL 300 p.cs) (hm3:LmQ 300 y.r) (hm4:LmQ 300 p.r):
    Calls Tryz.prog 118 #[.pointer (some ⟨g,k*4,none⟩),.int .i64 (j:Int),.agg #[.slice b.s.p b.s.l b.s.c,.bool b.n,.slice b.y.p b.y.l b.y.c,.slice b.z.p b.z.l b.z.c]] w fun e w'=> ∃x':Rw4,e=.returned (.tuple #[])/\SS V (rO rw4K 149 (some ⟨g,0,none⟩) n c (rs.set k x')::fmF 70 (rs.set k x') (T.set k (y.subst j p)) [i]::rO ratK 70 b.s.p b.s.l b.s.c p.cs::qF b.q p.r::l) w':=by
  have hkl:=(List.getElem?_eq_some_iff.1 hx).1;have h1:=hK.up1.rwO (by simpa using hki) hx hy
  have h2:SS V ((lnE 149 g n c rs k hkl).f x::rO ratK 70 x.s.p x.s.l x.s.c y.cs::qF x.q y.r::rO ratK 70 b.s.p b.s.l b.s.c p.cs::qF b.q p.r::fmF 70 rs T [k,i]::l) w:=by
    have h3:=h1.up3;rw[show rO rw4K 149 (some ⟨g,0,none⟩) n c rs=(lnE 149 g n c rs k hkl).f x from by show rO _ _ _ _ _ _=rO rw4K 149 (some ⟨g,0,none⟩) n c (rs.set k x);rw[set_same hx]]at h3;exact h3.up3.up5.up5.up5.up5.up5
  refine(sbr_any w V (lnE 149 g n c rs k hkl) y j p (fmF 70 rs T [k,i]::l) h2 ⟨rfl,hz⟩ ⟨rfl,hz3⟩ hj hlen hk hm1 hm2 hm3 hm4).mono fun e w' ⟨z,e1,h4⟩=>⟨⟨x.s,z.a,z.b.a,z.b.b⟩,e1,?_⟩
  have h5:SS V (rO ratK 70 x.s.p x.s.l x.s.c (y.subst j p).cs::qF (Rw4.q ⟨x.s,z.a,z.b.a,z.b.b⟩) (y.subst j p).r::fmF 70 rs T [k,i]::rO rw4K 149 (some ⟨g,0,none⟩) n c (rs.set k ⟨x.s,z.a,z.b.a,z.b.b⟩)::rO ratK 70 b.s.p b.s.l b.s.c p.cs::qF b.q p.r::l) w':=
    h4.up4.up4.up2.up5.up5.up5
  have h6:=SS.rwB (x:=⟨x.s,z.a,z.b.a,z.b.b⟩) h5 (by simpa using hki) (List.getElem?_eq_some_iff.1 hy).1 hkl;exact h6.up1
theorem subgl_any(w V:World){m j:Nat}{gs:List Gl}{a:Gl}{b:Rw4}{p:LRow}{l:List Ft}(hK:SS V (glF 70 gs::rO ratK 70 b.s.p b.s.l b.s.c p.cs::qF b.q p.r::l) w)(hz:OkA 2 l)(hz3:OkA 3 l)(ha:gs[m]?=some a)
    (hj:j<a.y.cs.length) (hlen:p.cs.length=a.y.cs.length) (hk:a.y.cs.length<=100000) (hm1:LmL 300 a.y.cs) (hm2:LmL 300 p.cs) (hm3:LmQ 300 a.y.r) (hm4:LmQ 300 p.r):
    Calls Tryz.prog 118 #[.pointer (some ⟨a.L.g,a.L.o,none⟩),.int .i64 (j:Int),.agg #[.slice b.s.p b.s.l b.s.c,.bool b.n,.slice b.y.p b.y.l b.y.c,.slice b.z.p b.z.l b.z.c]] w fun e w'=> ∃x':Rw4,e=.returned (.tuple #[])/\SS V (glF 70 (gs.set m ⟨a.L,⟨a.x.s,x'.n,x'.y,x'.z⟩,a.y.subst j p⟩)::rO ratK 70 b.s.p b.s.l b.s.c p.cs::qF b.q p.r::l) w':=by
  have h1:=hK.glO ha;have h2:=h1.up3.up5.up5.up5.up5.up5;refine(sbr_any w V a.L a.y j p (glF 70 (gs.eraseIdx m)::l) h2 ⟨rfl,hz⟩ ⟨rfl,hz3⟩ hj hlen hk hm1 hm2 hm3 hm4).mono fun e w' ⟨z,e1,h4⟩=>⟨⟨a.x.s,z.a,z.b.a,z.b.b⟩,e1,?_⟩
  exact SS.glB (a:=⟨a.L,⟨a.x.s,z.a,z.b.a,z.b.b⟩,a.y.subst j p⟩) h4.up4.up4.up5.up5.up5.up5 (List.getElem?_eq_some_iff.1 ha).1
end
section
section
variable {cs:List Rat}{fs:List Int}{k:Nat}{e:Int}{c:Rat}{f h:Int}{m:Nat}
theorem ent_case(he:entN cs fs k=e):e= -1\/ ∃m:Nat,e=(m:Int)/\m<k:=by
  rcases entN_spec cs fs k with⟨h,_⟩|⟨j,h1,h2,_⟩
  . exact .inl (he.symm.trans h)
  exact .inr ⟨j,he.symm.trans h2,h1⟩
theorem ent_no(he:entN cs fs k=e)(hc:cs[k]?=some c)(h:¬c<0):entN cs fs (k+1)=e:=by
  rw[entN,getD_eq_of hc,if_neg (fun q=>h q.1)];exact he
theorem ent_first(he:entN cs fs k= -1)(hc:cs[k]?=some c)(h:c<0):entN cs fs (k+1)=(k:Int):=by
  rw[entN,getD_eq_of hc,he,if_pos ⟨h,.inl (by decide)⟩]
theorem ent_yes(he:entN cs fs k=(m:Int))(hc:cs[k]?=some c)(h0:c<0)(hf:fs[k]?=some f)(hm:fs[m]?=some h)(hlt:f<h):entN cs fs (k+1)=(k:Int):=by
  rw[entN,getD_eq_of hc,he,getD_eq_of hf,Int.toNat_natCast,getD_eq_of hm,if_pos ⟨h0,.inr hlt⟩]
theorem ent_keep(he:entN cs fs k=(m:Int))(hc:cs[k]?=some c)(hf:fs[k]?=some f)(hm:fs[m]?=some h)(hlt:¬f<h):entN cs fs (k+1)=(m:Int):=by
  rw[entN,getD_eq_of hc,he,getD_eq_of hf,Int.toNat_natCast,getD_eq_of hm,if_neg]
  rintro⟨_,h1|h1⟩
  . omega
  exact hlt h1
end
section
variable {rs:List LRow}{bs:List Int}{j k m:Nat}{e:Int}{l:Rat}{y:LRow}{a:Rat}{f h:Int}
theorem lea_case(he:leaN rs bs j k=(e,l)):e= -1\/ ∃m:Nat,e=(m:Int)/\m<k:=by
  rcases leaN_spec rs bs j k with⟨h,_⟩|⟨i,h1,h2,_⟩
  . rw[h]at he;cases he;exact .inl rfl
  rw[h2]at he;cases he;exact .inr ⟨i,rfl,h1⟩
theorem lea_no(he:leaN rs bs j k=(e,l))(hy:rs[k]?=some y)(ha:y.cs[j]?=some a)(h:a<=0):leaN rs bs j (k+1)=(e,l):=by
  rw[leaN,getD_eq_of hy,getD_eq_of ha,if_pos h];exact he
theorem lea_first(he:leaN rs bs j k=(-1,l))(hy:rs[k]?=some y)(ha:y.cs[j]?=some a)(h:0<a):leaN rs bs j (k+1)=((k:Int),y.r/a):=by
  rw[leaN,getD_eq_of hy,getD_eq_of ha,if_neg (Rat.not_le.2 h),he,if_pos (.inl (by show(-1:Int)<0;decide))]
theorem lea_less(he:leaN rs bs j k=(e,l))(hy:rs[k]?=some y)(ha:y.cs[j]?=some a)(h:0<a)(hq:y.r/a<l):leaN rs bs j (k+1)=((k:Int),y.r/a):=by
  rw[leaN,getD_eq_of hy,getD_eq_of ha,if_neg (Rat.not_le.2 h),he,if_pos (.inr (.inl hq))]
theorem lea_even{f0 h0:Int}(he:leaN rs bs j k=((m:Int),l))(hy:rs[k]?=some y)(ha:y.cs[j]?=some a)(h:0<a)(hq:y.r/a=l)(hf:bs[k]?=some f0)(hm:bs[m]?=some h0)(hlt:f0<h0):leaN rs bs j (k+1)=((k:Int),y.r/a):=by
  rw[leaN,getD_eq_of hy,getD_eq_of ha,if_neg (Rat.not_le.2 h),he,getD_eq_of hf,Int.toNat_natCast,getD_eq_of hm,if_pos (.inr (.inr ⟨hq,hlt⟩))]
theorem lea_more(he:leaN rs bs j k=((m:Int),l))(hy:rs[k]?=some y)(ha:y.cs[j]?=some a)(h:0<a)(hq:l<y.r/a):leaN rs bs j (k+1)=((m:Int),l):=by
  rw[leaN,getD_eq_of hy,getD_eq_of ha,if_neg (Rat.not_le.2 h),he,if_neg]
  rintro(h1|h1|⟨h1,_⟩)
  . dsimp only at h1;omega
  . dsimp only at h1;grind
  dsimp only at h1;grind
theorem lea_keep{f0 h0:Int}(he:leaN rs bs j k=((m:Int),l))(hy:rs[k]?=some y)(ha:y.cs[j]?=some a)(h:0<a)(hq:y.r/a=l)(hf:bs[k]?=some f0)(hm:bs[m]?=some h0)(hlt:¬f0<h0):leaN rs bs j (k+1)=((m:Int),l):=by
  rw[leaN,getD_eq_of hy,getD_eq_of ha,if_neg (Rat.not_le.2 h),he,getD_eq_of hf,Int.toNat_natCast,getD_eq_of hm,if_neg]
  rintro(h1|h1|⟨_,h1⟩)
  . dsimp only at h1;omega
  . dsimp only at h1;grind
  exact hlt h1
end
end
section
theorem sgx_lt{x:Rat}{z:Int}(h:sgQ x=z):z<0↔x<0:=by
  subst h
  rcases sgQ_range x with e|e|e
  . rw[e];have:=sgQ_zero.1 e;subst this;decide
  . rw[e];exact⟨fun _=>sgQ_neg.1 e,fun _=>by decide⟩
  rw[e];have:=sgQ_pos.1 e;exact⟨fun h=>absurd h (by decide),fun h=>by grind⟩
theorem sgx_gt{x:Rat}{z:Int}(h:sgQ x=z):0<z↔0<x:=by
  subst h
  rcases sgQ_range x with e|e|e
  . rw[e];have:=sgQ_zero.1 e;subst this;decide
  . rw[e];have:=sgQ_neg.1 e;exact⟨fun h=>absurd h (by decide),fun h=>by grind⟩
  rw[e];exact⟨fun _=>sgQ_pos.1 e,fun _=>by decide⟩
theorem sgx_z{x:Rat}{z:Int}(h:sgQ x=z):z=0↔x=0:=by subst h;exact sgQ_zero
theorem sbx_lt{x y:Rat}:x-y<0↔x<y:=by constructor<;>intro h<;>grind
theorem sbx_gt{x y:Rat}:0<x-y↔y<x:=by constructor<;>intro h<;>grind
theorem sbx_z{x y:Rat}:x-y=0↔x=y:=by constructor<;>intro h<;>grind
theorem nsx_le{x:Rat}{z:Int}(h:sgQ x=z)(hb:decide (z<=0)=true):x<=0:=Rat.not_lt.1 fun e=>by
  have h1:=of_decide_eq_true hb;have:=(sgx_gt h).2 e;omega
theorem nsx_pos{x:Rat}{z:Int}(h:sgQ x=z)(hb:decide (z<=0)=false):0<x:=(sgx_gt h).1 (by have:=of_decide_eq_false hb;omega)
theorem nsx_gt{x y:Rat}{z:Int}(h:sgQ (x-y)=z)(hb:decide (z<0)=false)(hc:(z==0)=false):y<x:=by
  have h1:=of_decide_eq_false hb;have h2:z≠0:=by simpa using hc
  exact sbx_gt.1 ((sgx_gt h).1 (by omega))
set_option maxRecDepth 100000 in
set_option maxHeartbeats 1000000 in
theorem ent_any(w:World){R:Nat}{rp bp fp gp:Option Addr}{rl rc bl bc fl fc gl gc:Nat}{gn:Bool}{gy gz:Sl}{nc:Int}(L:Lns){xp:Option Addr}{xl xc:Nat}{xn:Bool}{xy xz:Sl}{cs:List Rat}{fs:List Int}(hR:Has 0 R (.cells #[.slice rp rl rc,.slice bp bl bc,.slice fp fl fc,.slice gp gl gc,.bool gn,.slice gy.p gy.l gy.c,.slice gz.p gz.l gz.c,.int .i64 nc] 151) w)(hL:(L.f ⟨⟨xp,xl,xc⟩,xn,⟨xy.p,xy.l,xy.c⟩,⟨xz.p,xz.l,xz.c⟩⟩).F w)(hF:SlV intK w (.slice fp fl fc) fs)(hG:SlV ratK w (.slice xp xl xc) cs)(hgf:cs.length<=fs.length)(hlb:fs.length<=100000):
    Calls Tryz.prog 91 #[.pointer (some ⟨R,0,none⟩),.pointer (some ⟨L.g,L.o,none⟩)] w fun e w'=>e=.returned (.int .i64 (entN cs fs cs.length))/\Below w.heap.size w w':=by
  have hK:=SS.start w;have⟨n1,n2⟩:=lle hG.one0;have⟨n3,n4⟩:=lle hF.one0;refine Calls.hide (fun Q0 hQ0=>?_);go_enter Tryz.func91,Tryz.ntmps91;go_upto_region 2 with(fail);refine wp_region_T [0,0,0,0,0,0] hK ?_;clear hK
  iterate 3 refine e0 ?_
  refine eRm0 (F:=(L.f ⟨⟨xp,xl,xc⟩,xn,⟨xy.p,xy.l,xy.c⟩,⟨xz.p,xz.l,xz.c⟩⟩).F) (fun w k=>(L.f ⟨⟨xp,xl,xc⟩,xn,⟨xy.p,xy.l,xy.c⟩,⟨xz.p,xz.l,xz.c⟩⟩).bel hL k.old) (h1:=by intro w' k;have c0:=L.rd0 k;go_simp;(try go_bits);exact⟨rfl,rfl⟩) ?_
  iterate 2 refine e0 ?_
  refine sxEnd (fun W1 hK=>?_);go_wp2_with fail;go_loopw [5,13] (fun s5 s13 wl=> ∃(k:Nat) (e:Int),s5=.int .i64 e/\s13=.int .i64 (k:Int)/\(k<=xl)/\Hid (entN cs fs k=e)/\SS w ([]) wl) (fun s5 s13 _=>xl-(intOf s13).toNat)
  case atStart=>exact⟨0,(-1),rfl,rfl,(by omega),hid rfl,hK⟩
  clear hK;obtain⟨k,e,rfl,rfl,hk,h_e,hK⟩:=hrel;generalize wr=W2 at hK⊢;go_upto_region 3 with(fail);refine wp_region_T [0] hK ?_;clear hK;refine eB (decide (((k:Int))<((xl:Int)))) (fun b1 hb1=>?_);refine sxEnd (fun W3 hK=>?_)
  cases b1
  . --
   have q_b1:=nlt hb1;go_upto_region 8 with(fail);refine wp_region_T [0,0] hK ?_;clear hK
   iterate 2 refine e0 ?_
   refine sxEnd (fun W4 hK=>?_);go_wp2
   try go_ret
   show Q0 (.returned (.int .i64 e)) _
   exact(qo hQ0 ⟨(by rw[show cs.length=k from by omega,h_e.out]),hK.old⟩)
  have q_b1:=ylt hb1;have hkx:k<xl:=(by omega);have i5:k<xl:=(by omega);obtain⟨g5,o5,rfl⟩:=hG.pt i5;have l5:k<cs.length:=Nat.lt_of_lt_of_eq i5 (hG.one0);obtain⟨y,ey⟩:=gtH l5;obtain⟨_,_,_,y_c,y_r⟩:=hG.rat ey.out;obtain⟨rfl,⟨y_p,y_n,y_d,rfl⟩,y_q,y_m,y_e,rfl⟩:=ratV_cells' y_r;go_upto_region 4 with(fail);refine wp_region_T [0,0,0,3,0,4] hK ?_;clear hK
  iterate 2 refine e0 ?_
  refine eRm3 (fun w k=>y_c.below k.old) ?_;refine eA (.cells #[.bool false,.slice none 0 0,.slice none 0 0] 70) (fun R6=>?_);refine e0 ?_;refine eP 0 0 [.bool (isN y),.slice y_p y_n y_d,.slice y_q y_m y_e] ?_;refine sxEnd (fun W7 hK=>?_)
  rcases ent_case h_e.out with rfl|⟨m,rfl,hmk⟩
  . --
   go_upto_region 5 with(fail);refine wp_region_S _ [0,1,0,0,0,0,0,0,0,0,0,0,0,0,0,0,0,0,0,0,0,0,0,0] hK ?_ (sR);clear hK;refine eL0 m0 ?_;obtain⟨z1,hz1⟩:=nmI (sgQ (y));refine eQ (v:=.int .i64 z1) (fun w k=>sign_any _ _ w (y_r.below k.old)) ?_ (hv:=by rw[hz1.out]);refine eB (decide (z1<0)) (fun b2 hb2=>?_);refine e0 ?_
   cases b2
   . --
    have q_b2:=nlt hb2
    iterate 3 refine eN ?_
    iterate 15 refine eU ?_
    refine eN ?_;refine e0 ?_;refine sxEnd (fun W8 hK=>?_)
    (try go_wp2)
    go_roundw
    case rel=>exact⟨k+1,(-1),(by first|rfl|go_num),(by first|rfl|go_num),(by omega),hid (ent_no h_e.out ey.out (fun q=>absurd ((sgx_lt hz1.out).2 q) (of_decide_eq_false hb2.out))),(hK.subl (sC2 sZ2))⟩
    case measure=>simp[intOf]<;>omega
   have q_b2:=ylt hb2;refine e0 ?_;refine eV (.bool true) (fun w'=>by go_simp;(try go_bits);exact⟨rfl,rfl⟩) ?_;refine e0 ?_
   iterate 15 refine eN ?_
   iterate 2 refine e0 ?_
   refine sxEnd (fun W9 hK=>?_)
   (try go_wp2)
   go_roundw
   case rel=>exact⟨k+1,(k:Int),(by first|rfl|go_num),(by first|rfl|go_num),(by omega),hid (ent_first h_e.out ey.out ((sgx_lt hz1.out).1 (of_decide_eq_true hb2.out))),(hK.subl (sC2 sZ2))⟩
   case measure=>simp[intOf]<;>omega
  have i10:k<fl:=(by omega);obtain⟨g10,o10,rfl⟩:=hF.pt i10;have l10:k<fs.length:=Nat.lt_of_lt_of_eq i10 (hF.one0);obtain⟨fk,efk⟩:=gtH l10;have i11:m<fl:=(by omega);have l11:m<fs.length:=Nat.lt_of_lt_of_eq i11 (hF.one0);obtain⟨fm,efm⟩:=gtH l11;go_upto_region 5 with(fail);refine wp_region_S _ [0,1,0,0,0,0,0,0,0,0,0,0,0,0,0,0,0,0,0,0,0,0,0,0] hK ?_ (sR);clear hK;refine eL0 m0 ?_;obtain⟨z1,hz1⟩:=nmI (sgQ (y));refine eQ (v:=.int .i64 z1) (fun w k=>sign_any _ _ w (y_r.below k.old)) ?_ (hv:=by rw[hz1.out]);refine eB (decide (z1<0)) (fun b2 hb2=>?_);refine e0 ?_
  cases b2
  . --
   have q_b2:=nlt hb2
   iterate 3 refine eN ?_
   iterate 15 refine eU ?_
   refine eN ?_;refine e0 ?_;refine sxEnd (fun W12 hK=>?_)
   (try go_wp2)
   go_roundw
   case rel=>exact⟨k+1,(m:Int),(by first|rfl|go_num),(by first|rfl|go_num),(by omega),hid (ent_no h_e.out ey.out (fun q=>absurd ((sgx_lt hz1.out).2 q) (of_decide_eq_false hb2.out))),(hK.subl (sC2 sZ2))⟩
   case measure=>simp[intOf]<;>omega
  have q_b2:=ylt hb2;refine e0 ?_;refine eV (.bool false) (fun w'=>by go_simp;(try go_bits);exact⟨congrArg Value.bool (decide_eq_false (by omega)),rfl⟩) ?_
  iterate 4 refine e0 ?_
  refine eX0 (fun w k=>hR.below k.old) ?_
  iterate 2 refine e0 ?_
  refine eR0 (fun w k=>(hF.below k.old).int efk.out) ?_
  iterate 3 refine e0 ?_
  refine eX0 (fun w k=>hR.below k.old) ?_
  iterate 2 refine e0 ?_
  refine eR0 (fun w k=>(hF.below k.old).int efm.out) ?_;refine eB (decide (fk<fm)) (fun b3 hb3=>?_)
  iterate 2 refine e0 ?_
  refine sxEnd (fun W13 hK=>?_)
  cases b3
  . --
   have q_b3:=nlt hb3
   (try go_wp2)
   go_roundw
   case rel=>exact⟨k+1,(m:Int),(by first|rfl|go_num),(by first|rfl|go_num),(by omega),hid (ent_keep h_e.out ey.out efk.out efm.out (of_decide_eq_false hb3.out)),(hK.subl (sC2 sZ2))⟩
   case measure=>simp[intOf]<;>omega
  have q_b3:=ylt hb3
  (try go_wp2)
  go_roundw
  case rel=>exact⟨k+1,(k:Int),(by first|rfl|go_num),(by first|rfl|go_num),(by omega),hid (ent_yes h_e.out ey.out ((sgx_lt hz1.out).1 (of_decide_eq_true hb2.out)) efk.out efm.out (of_decide_eq_true hb3.out)),(hK.subl (sC2 sZ2))⟩
  case measure=>simp[intOf]<;>omega
end
section
set_option maxRecDepth 100000 in
set_option maxHeartbeats 1000000 in
theorem lea_any(w:World){R:Nat}{rp bp fp gp:Option Addr}{rl rc bl bc fl fc gl gc:Nat}{gn:Bool}{gy gz:Sl}{nc:Int}(j:Nat){rs:List Rw4}{T:LTab}(hR:Has 0 R (.cells #[.slice rp rl rc,.slice bp bl bc,.slice fp fl fc,.slice gp gl gc,.bool gn,.slice gy.p gy.l gy.c,.slice gz.p gz.l gz.c,.int .i64 nc] 151) w)(hW:SlV rw4K w (.slice rp rl rc) rs)(hB:SlV intK w (.slice bp bl bc) T.basic)(hF:FmV w rs T.rows)(hj:∀y∈T.rows,j<y.cs.length)(hbl:T.rows.length<=T.basic.length)(hlb:T.basic.length<=100000)(hm:LmT 300 T)(_hlc:∀y∈T.rows,y.cs.length<=100000):
    Calls Tryz.prog 92 #[.pointer (some ⟨R,0,none⟩),.int .i64 (j:Int)] w fun e w'=>e=.returned (.int .i64 (leaN T.rows T.basic j T.rows.length).1)/\Below w.heap.size w w':=by
  have hK:=SS.start w;have n1:=hid (hW.one0.trans hF.len);have⟨n2,n3⟩:=lle n1.out;have n4:=hid hF.len;have⟨n5,n6⟩:=lle hB.one0;refine Calls.hide (fun Q0 hQ0=>?_);go_enter Tryz.func92,Tryz.ntmps92;go_upto_region 2 with(fail);refine wp_region_T [3] hK ?_;clear hK;refine eA (.cells #[.bool false,.slice none 0 0,.slice none 0 0] 70) (fun R1=>?_);refine sxEnd (fun W2 hK=>?_);replace hK:=hK.fact (qF (.agg #[.bool false,.slice none 0 0,.slice none 0 0]) 0) (RatV.zero _);go_upto_region 3 with(fail);refine wp_region_T [0,0,0,0,0,0] hK ?_;clear hK
  iterate 3 refine e0 ?_
  refine eX0 (fun w k=>hR.below k.old) ?_
  iterate 2 refine e0 ?_
  refine sxEnd (fun W3 hK=>?_);go_wp2_with fail;go_loopw [5,17] (fun s5 s17 wl=> ∃(k:Nat) (e:Int) (lq:Rat) (qn:Bool) (up:Option Addr) (ul:Nat) (uc:Nat) (vp:Option Addr) (vl:Nat) (vc:Nat),s5=.int .i64 e/\s17=.int .i64 (k:Int)/\(k<=T.rows.length)/\Hid (leaN T.rows T.basic j k=(e,lq))/\Hid (LmQ 700 lq)/\SS w ([bx R1 (.cells #[.bool qn,.slice up ul uc,.slice vp vl vc] 70),qF (.agg #[.bool qn,.slice up ul uc,.slice vp vl vc]) (lq)]) wl) (fun s5 s17 _=>rl-(intOf s17).toNat)
  case atStart=>exact⟨0,(-1),0,false,none,0,0,none,0,0,rfl,rfl,(by omega),hid rfl,hid (LmQ.nil0.up (by decide)),(hK.up1)⟩
  clear hK;obtain⟨k,e,lq,qn,up,ul,uc,vp,vl,vc,rfl,rfl,hk,h_e,h_q,hK⟩:=hrel;generalize wr=W4 at hK⊢;go_upto_region 4 with(fail);refine wp_region_T [0] hK ?_;clear hK;refine eB (decide (((k:Int))<((rl:Int)))) (fun b1 hb1=>?_);refine sxEnd (fun W5 hK=>?_)
  cases b1
  . --
   have q_b1:=nlt hb1;go_upto_region 14 with(fail);refine wp_region_T [0,0] hK ?_;clear hK
   iterate 2 refine e0 ?_
   refine sxEnd (fun W6 hK=>?_);go_wp2
   try go_ret
   show Q0 (.returned (.int .i64 e)) _
   exact(qo hQ0 ⟨(by rw[show T.rows.length=k from by omega,h_e.out]),hK.old⟩)
  have q_b1:=ylt hb1;have hkr:k<T.rows.length:=by omega
  obtain⟨y,ey⟩:∃y,Hid (T.rows[k]?=some y):=⟨_,hid (List.getElem?_eq_getElem hkr)⟩;have hym:=List.mem_of_getElem? ey.out;have hjy:=hj y hym;have i7:k<rl:=(by omega);obtain⟨g7,o7,rfl⟩:=hW.pt i7;have l7:k<rs.length:=Nat.lt_of_lt_of_eq i7 (hW.one0);obtain⟨x,ex⟩:=gtH l7;obtain⟨⟨x_p,x_l,x_c⟩,x_n,⟨x_yp,x_yl,x_yc⟩,⟨x_zp,x_zl,x_zc⟩⟩:=x;have hxc:=hF.cs ex.out ey.out;have hxq:=hF.q ex.out ey.out;dsimp only[Rw4.q]at hxc hxq;have hxl:=hid hxc.one0;have⟨hxa,hxb⟩:=lle hxl.out;go_upto_region 5 with(fail);refine wp_region_T [0,0,0,3,0,4] hK ?_;clear hK
  iterate 2 refine e0 ?_
  refine eRm0 (F:=fun w=>SlV rw4K w (.slice (some ⟨g7,o7,none⟩) rl rc) rs) (fun w k=>hW.below k.old) (h1:=by intro w' k;have c0:=k.rw40 ex.out;have c1:=k.rw4 ex.out 1 rfl;have c2:=k.rw4 ex.out 2 rfl;have c3:=k.rw4 ex.out 3 rfl;go_simp;(try go_bits);exact⟨rfl,rfl⟩) ?_;refine eA (.cells #[.slice none 0 0,.bool false,.slice none 0 0,.slice none 0 0] 149) (fun R8=>?_);refine e0 ?_;refine eP 0 0 [.slice x_p x_l x_c,.bool x_n,.slice x_yp x_yl x_yc,.slice x_zp x_zl x_zc] ?_ (hq:=.inr ⟨rfl,rfl,trivial⟩);refine sxEnd (fun W9 hK=>?_);have i10:j<x_l:=(by omega);obtain⟨g10,o10,rfl⟩:=hxc.pt i10;have l10:j<y.cs.length:=Nat.lt_of_lt_of_eq i10 (hxc.one0);obtain⟨xa,exa⟩:=gtH l10;obtain⟨_,_,_,xa_c,xa_r⟩:=hxc.rat exa.out;obtain⟨rfl,⟨xa_p,xa_n,xa_d,rfl⟩,xa_q,xa_m,xa_e,rfl⟩:=ratV_cells' xa_r;have hal:=hid (show LmQ 300 xa from hm.cs y hym _ (List.mem_of_getElem? exa.out));have hyr:=hid (hm.r y hym);have hnq:=hid (show LmQ 700 (y.r/xa)from(LmQ.quo0 hyr.out hal.out).up (by decide));go_upto_region 6 with(fail);refine wp_region_T [0,1,0,0,0,1,0] hK ?_;clear hK;refine e0 ?_;refine eL m0 ?_
  iterate 2 refine e0 ?_
  refine eRm3 (fun w k=>xa_c.below k.old) ?_;obtain⟨z1,hz1⟩:=nmI (sgQ (xa));refine eQ (v:=.int .i64 z1) (fun w k=>sign_any _ _ w (xa_r.below k.old)) ?_ (hv:=by rw[hz1.out]);refine eB (decide (z1<=0)) (fun b2 hb2=>?_);refine sxEnd (fun W11 hK=>?_)
  cases b2
  . --
   have q_b2:=nle hb2
   rcases lea_case h_e.out with rfl|⟨m,rfl,hmk⟩
   . --
    go_upto_region 7 with(fail);refine wp_region_S _ [0,0,0,0,0,0,0,2,0,0,0,3,4,0] hK ?_ (sR);clear hK;refine e0 ?_;refine eL0 m0 ?_;refine e0 ?_;refine eL0 m0 ?_
    iterate 2 refine e0 ?_
    refine eRm3 (fun w k=>xa_c.below k.old) ?_;refine eC (fun w k=>rat2_S (qdiv_any _ _ _ _ w (hxq.below k.old) (xa_r.below k.old) hyr.out hal.out (by decide))) (fun x12=>?_);obtain⟨⟨p13,l13,c13⟩,⟨q13,u13,d13⟩⟩:=x12;dsimp only
    iterate 3 refine e0 ?_
    refine eA (.cells #[.bool false,.slice none 0 0,.slice none 0 0] 70) (fun R14=>?_);refine eP 0 0 [.bool (isN (y.r/xa)),.slice p13 l13 c13,.slice q13 u13 d13] ?_ (hs:=(sC2 (sC2 (sR)))) (hq:=.inr ⟨rfl,rfl,rfl,rfl,trivial⟩);refine e0 ?_;refine sxEnd (fun W15 hK=>?_);go_upto_region 9 with(fail);refine wp_region_T [0,0] hK ?_;clear hK;refine e0 ?_;refine eV (.bool false) (fun w'=>by go_simp;(try go_bits);exact⟨rfl,rfl⟩) ?_;refine sxEnd (fun W16 hK=>?_);go_upto_region 11 with(fail);refine wp_region_S _ [0,0,0,0,0,0,0,0,0,0,0,0,0,0,0,0,0,0,0,0,0,0,0] hK ?_ (sR);clear hK;refine e0 ?_;refine eV (.bool true) (fun w'=>by go_simp;(try go_bits);exact⟨rfl,rfl⟩) ?_;refine e0 ?_
    iterate 3 refine eN ?_
    iterate 15 refine eU ?_
    refine eN ?_;refine e0 ?_;refine sxEnd (fun W17 hK=>?_);go_upto_region 12 with(fail);refine wp_region_S _ [0,0,0,4] hK ?_ (sK2 (sK2 (sK2 (sC2 (sR)))));clear hK;refine e0 ?_;refine eL0 m0 ?_;refine e0 ?_;refine eP 3 0 [.bool (isN (y.r/xa)),.slice p13 l13 c13,.slice q13 u13 d13] ?_ (hs:=(sK2 (sK2 (sK2 (sC2 (sR)))))) (hq:=.inr ⟨rfl,rfl,rfl,rfl,trivial⟩);refine sxEnd (fun W18 hK=>?_)
    (try go_wp2)
    go_roundw
    case rel=>exact⟨k+1,(k:Int),y.r/xa,(isN (y.r/xa)),p13,l13,c13,q13,u13,d13,(by first|rfl|go_num),(by first|rfl|go_num),(by omega),hid (lea_first h_e.out ey.out exa.out (nsx_pos hz1.out hb2.out)),hid hnq.out,(((hK.up1).up3).subl (sK2 (sK2 (sC2 (sC2 (sC2 sZ2))))))⟩
    case measure=>simp[intOf]<;>omega
   go_upto_region 7 with(fail);refine wp_region_S _ [0,0,0,0,0,0,0,2,0,0,0,3,4,0] hK ?_ (sR);clear hK;refine e0 ?_;refine eL0 m0 ?_;refine e0 ?_;refine eL0 m0 ?_
   iterate 2 refine e0 ?_
   refine eRm3 (fun w k=>xa_c.below k.old) ?_;refine eC (fun w k=>rat2_S (qdiv_any _ _ _ _ w (hxq.below k.old) (xa_r.below k.old) hyr.out hal.out (by decide))) (fun x19=>?_);obtain⟨⟨p20,l20,c20⟩,⟨q20,u20,d20⟩⟩:=x19;dsimp only
   iterate 3 refine e0 ?_
   refine eA (.cells #[.bool false,.slice none 0 0,.slice none 0 0] 70) (fun R21=>?_);refine eP 0 0 [.bool (isN (y.r/xa)),.slice p20 l20 c20,.slice q20 u20 d20] ?_ (hs:=(sC2 (sC2 (sR)))) (hq:=.inr ⟨rfl,rfl,rfl,rfl,trivial⟩);refine e0 ?_;refine sxEnd (fun W22 hK=>?_);go_upto_region 9 with(fail);refine wp_region_T [0,0] hK ?_;clear hK;refine e0 ?_;refine eV (.bool true) (fun w'=>by go_simp;(try go_bits);exact⟨rfl,rfl⟩) ?_;refine sxEnd (fun W23 hK=>?_);go_upto_region 10 with(fail);refine wp_region_T [1,1,1,0] hK ?_;clear hK;refine eL m0 ?_;refine eL m3 ?_;obtain⟨z2,hz2⟩:=nmI (sgQ ((y.r/xa)-lq));refine eQ (v:=.int .i64 z2) (fun w k=>qcmp_any _ _ _ _ w (k.q m1) (k.q m4) hnq.out h_q.out (by decide)) ?_ (hv:=by rw[hz2.out]);refine e0 ?_;refine sxEnd (fun W24 hK=>?_);have i25:k<bl:=(by omega);obtain⟨g25,o25,rfl⟩:=hB.pt i25;have l25:k<T.basic.length:=Nat.lt_of_lt_of_eq i25 (hB.one0);obtain⟨bk,ebk⟩:=gtH l25;have i26:m<bl:=(by omega);have l26:m<T.basic.length:=Nat.lt_of_lt_of_eq i26 (hB.one0);obtain⟨bm,ebm⟩:=gtH l26;go_upto_region 11 with(fail);refine wp_region_S _ [0,0,0,0,0,0,0,0,0,0,0,0,0,0,0,0,0,0,0,0,0,0,0] hK ?_ (sR);clear hK;refine e0 ?_;refine eB (decide (z2<0)) (fun b3 hb3=>?_);refine e0 ?_
   cases b3
   . --
    have q_b3:=nlt hb3;refine e0 ?_;refine eB (z2==0) (fun b4 hb4=>?_);refine e0 ?_
    cases b4
    . --
     iterate 15 refine eN ?_
     iterate 2 refine e0 ?_
     refine sxEnd (fun W27 hK=>?_)
     (try go_wp2)
     go_roundw
     case rel=>exact⟨k+1,(m:Int),lq,qn,up,ul,uc,vp,vl,vc,(by first|rfl|go_num),(by first|rfl|go_num),(by omega),hid (lea_more h_e.out ey.out exa.out (nsx_pos hz1.out hb2.out) (nsx_gt hz2.out hb3.out hb4.out)),hid h_q.out,(hK.subl (sC2 (sC2 (sC2 (sR)))))⟩
     case measure=>simp[intOf]<;>omega
    iterate 3 refine e0 ?_
    refine eX0 (fun w k=>hR.below k.old) ?_
    iterate 2 refine e0 ?_
    refine eR0 (fun w k=>(hB.below k.old).int ebk.out) ?_
    iterate 3 refine e0 ?_
    refine eX0 (fun w k=>hR.below k.old) ?_
    iterate 2 refine e0 ?_
    refine eR0 (fun w k=>(hB.below k.old).int ebm.out) ?_;refine eB (decide (bk<bm)) (fun b5 hb5=>?_)
    iterate 2 refine e0 ?_
    refine sxEnd (fun W28 hK=>?_)
    cases b5
    . --
     have q_b5:=nlt hb5
     (try go_wp2)
     go_roundw
     case rel=>exact⟨k+1,(m:Int),lq,qn,up,ul,uc,vp,vl,vc,(by first|rfl|go_num),(by first|rfl|go_num),(by omega),hid (lea_keep h_e.out ey.out exa.out (nsx_pos hz1.out hb2.out) (sbx_z.1 ((sgx_z hz2.out).1 (by have q:=hb4.out;simpa using q))) ebk.out ebm.out (of_decide_eq_false hb5.out)),hid h_q.out,(hK.subl (sC2 (sC2 (sC2 (sR)))))⟩
     case measure=>simp[intOf]<;>omega
    have q_b5:=ylt hb5;go_upto_region 12 with(fail);refine wp_region_S _ [0,0,0,4] hK ?_ (sK2 (sK2 (sK2 (sC2 (sR)))));clear hK;refine e0 ?_;refine eL0 m0 ?_;refine e0 ?_;refine eP 3 0 [.bool (isN (y.r/xa)),.slice p20 l20 c20,.slice q20 u20 d20] ?_ (hs:=(sK2 (sK2 (sK2 (sC2 (sR)))))) (hq:=.inr ⟨rfl,rfl,rfl,rfl,trivial⟩);refine sxEnd (fun W29 hK=>?_)
    (try go_wp2)
    go_roundw
    case rel=>exact⟨k+1,(k:Int),y.r/xa,(isN (y.r/xa)),p20,l20,c20,q20,u20,d20,(by first|rfl|go_num),(by first|rfl|go_num),(by omega),hid (lea_even h_e.out ey.out exa.out (nsx_pos hz1.out hb2.out) (sbx_z.1 ((sgx_z hz2.out).1 (by have q:=hb4.out;simpa using q))) ebk.out ebm.out (of_decide_eq_true hb5.out)),hid hnq.out,(((hK.up1).up3).subl (sK2 (sK2 (sC2 (sC2 (sC2 sZ2))))))⟩
    case measure=>simp[intOf]<;>omega
   have q_b3:=ylt hb3
   iterate 3 refine eN ?_
   iterate 15 refine eU ?_
   refine eN ?_;refine e0 ?_;refine sxEnd (fun W30 hK=>?_);go_upto_region 12 with(fail);refine wp_region_S _ [0,0,0,4] hK ?_ (sK2 (sK2 (sK2 (sC2 (sR)))));clear hK;refine e0 ?_;refine eL0 m0 ?_;refine e0 ?_;refine eP 3 0 [.bool (isN (y.r/xa)),.slice p20 l20 c20,.slice q20 u20 d20] ?_ (hs:=(sK2 (sK2 (sK2 (sC2 (sR)))))) (hq:=.inr ⟨rfl,rfl,rfl,rfl,trivial⟩);refine sxEnd (fun W31 hK=>?_)
   (try go_wp2)
   go_roundw
   case rel=>exact⟨k+1,(k:Int),y.r/xa,(isN (y.r/xa)),p20,l20,c20,q20,u20,d20,(by first|rfl|go_num),(by first|rfl|go_num),(by omega),hid (lea_less h_e.out ey.out exa.out (nsx_pos hz1.out hb2.out) (sbx_lt.1 ((sgx_lt hz2.out).1 (of_decide_eq_true hb3.out)))),hid hnq.out,(((hK.up1).up3).subl (sK2 (sK2 (sC2 (sC2 (sC2 sZ2))))))⟩
   case measure=>simp[intOf]<;>omega
  have q_b2:=ylt hb2
  (try go_wp2)
  go_roundw
  case rel=>exact⟨k+1,e,lq,qn,up,ul,uc,vp,vl,vc,(by first|rfl|go_num),(by first|rfl|go_num),(by omega),hid (lea_no h_e.out ey.out exa.out (nsx_le hz1.out hb2.out)),hid h_q.out,(hK.subl (sC2 (sR)))⟩
  case measure=>simp[intOf]<;>omega
end
section
theorem scale_len(y:LRow)(j:Nat):(y.scale j).cs.length=y.cs.length:=by unfold LRow.scale;simp
set_option maxRecDepth 100000 in
set_option maxHeartbeats 2000000 in
theorem pivot_any(w V:World){R:Nat}{rp bp fp gp:Option Addr}{rl rc bl bc fl fc gl gc:Nat}{gn:Bool}{gy gz:Sl}{nc:Int}{rs:List Rw4}{T:LTab}{g:LRow}{zs:List Gl}{ads:List (Duo Nat Nat)}(i:Nat)(j:Nat){qp:Option Addr}{ql qc:Nat}(l:List Ft)(hK:SS V ((bx R (.cells #[.slice rp rl rc,.slice bp bl bc,.slice fp fl fc,.slice gp gl gc,.bool gn,.slice gy.p gy.l gy.c,.slice gz.p gz.l gz.c,.int .i64 nc] 151))::(rO rw4K 149 rp rl rc rs)::(rO intK 3 bp bl bc T.basic)::(rO intK 3 fp fl fc T.free)::(fmF 70 rs T.rows [])::(rO ratK 70 gp gl gc g.cs)::(qF (.agg #[.bool gn,.slice gy.p gy.l gy.c,.slice gz.p gz.l gz.c]) (g.r))::(glF 70 zs)::(rO adK 152 qp ql qc ads)::l) w)(hz1:OkA 1 l)(hz:OkA 2 l)(hz3:OkA 3 l)(hi:i<T.rows.length)(hj:j<T.free.length)(hok:T.Ok)(hrl:rs.length=T.rows.length)(hm:LmT 300 T)(hfn:T.free.length<=100000)(hrn:T.rows.length<=100000)(hgl:g.cs.length=T.free.length)(hgm:LmL 300 g.cs)(hgr:LmQ 300 g.r)(hzs:∀a∈zs,a.y.cs.length=T.free.length/\LmL 300 a.y.cs/\LmQ 300 a.y.r)(hzn:zs.length<=100)(had:ads=⟨R,3⟩::zs.map fun a=>⟨a.L.g,a.L.o⟩)(hps:LmL 300 ((T.rows.getD i default).scale j).cs)(hpr:LmQ 300 ((T.rows.getD i default).scale j).r):
    Calls Tryz.prog 89 #[.pointer (some ⟨R,0,none⟩),.int .i64 (i:Int),.int .i64 (j:Int),.slice qp ql qc] w fun e w'=> ∃z:PvZ,e=.returned (.tuple #[])/\SS V ((bx R (.cells #[.slice rp rl rc,.slice bp bl bc,.slice fp fl fc,.slice gp gl gc,.bool z.g.n,.slice z.g.y.p z.g.y.l z.g.y.c,.slice z.g.z.p z.g.z.l z.g.z.c,.int .i64 nc] 151))::(rO rw4K 149 rp rl rc z.rs)::(rO intK 3 bp bl bc ((T.pivot i j).basic))::(rO intK 3 fp fl fc ((T.pivot i j).free))::(fmF 70 z.rs ((T.pivot i j).rows) [])::(rO ratK 70 gp gl gc ((T.obj i j g).cs))::(qF (.agg #[.bool z.g.n,.slice z.g.y.p z.g.y.l z.g.y.c,.slice z.g.z.p z.g.z.l z.g.z.c]) ((T.obj i j g).r))::(glF 70 z.zs)::(cF (z.rs.length=T.rows.length/\GsR zs j ((T.rows.getD i default).scale j) zs.length z.zs))::l) w':=by
  obtain⟨y,ey⟩:∃y,Hid (T.rows[i]?=some y):=⟨_,hid (List.getElem?_eq_getElem hi)⟩;have hym:=List.mem_of_getElem? ey.out;have hyl:=hid (hok.row ey.out);have n1:=hid ((hK.len m1).trans hrl);have⟨n2,n3⟩:=lle n1.out;have hbl:=hid ((hK.len m2).trans hok.nb);have⟨n4,n5⟩:=lle hbl.out;have n6:=Nat.le_of_eq (hK.len m3);have n7:=Nat.le_of_eq (hK.len m3).symm;have⟨n8,n9⟩:=lle hyl.out;have hyd:T.rows.getD i default=y:=getD_eq_of ey.out;rw[hyd]at hps hpr;refine Calls.hide (fun Q0 hQ0=>?_);go_enter Tryz.func89,Tryz.ntmps89;have i1:i<rl:=(by omega);obtain⟨g1,rfl⟩:=hK.pt m1 i1;have l1:i<rs.length:=Nat.lt_of_lt_of_eq i1 (hK.len m1);obtain⟨x,ex⟩:=gtH l1;obtain⟨⟨x_p,x_l,x_c⟩,x_n,⟨x_yp,x_yl,x_yc⟩,⟨x_zp,x_zl,x_zc⟩⟩:=x;replace hK:=hK.up4;replace hK:=hK.rwO List.not_mem_nil ex.out ey.out;dsimp only[Rw4.q]at hK;have nxl:=hid (hK.len m0);have⟨nx1,nx2⟩:=lle nxl.out;have i2:j<x_l:=(by omega);obtain⟨g2,rfl⟩:=hK.pt m0 i2;have l2:j<y.cs.length:=Nat.lt_of_lt_of_eq i2 (hK.len m0);obtain⟨pv,epv⟩:=gtH l2;obtain⟨⟨⟨p3,l3,c3⟩,⟨q3,u3,d3⟩⟩,hK⟩:=hK.toC epv.out;have hpl:=hid (show LmQ 300 pv from hm.cs y hym _ (List.mem_of_getElem? epv.out));have hsl:=hid (show LmQ 301 (((1:Int):Rat)/pv)from LmQ.quo0 LmQ.int1 hpl.out);have hyr:=hid (hm.r y hym);go_upto_region 0 with(fail);refine wp_region_T [0,0,0,1,0,0,0] hK ?_;clear hK
  iterate 3 refine e0 ?_
  refine eL m4 ?_
  iterate 3 refine e0 ?_
  refine sxEnd (fun W4 hK=>?_);go_upto_region 1 with(fail);refine wp_region_S _ [2,0,0,0,0,0,0,0,2,0,0,0,3,4,0] hK ?_ (sR);clear hK;refine eC (fun w k=>rat_S (qint_any 1 w (by omega) (by omega))) (fun x5=>?_);obtain⟨⟨p6,l6,c6⟩,⟨q6,u6,d6⟩⟩:=x5;dsimp only
  iterate 3 refine e0 ?_
  refine eR0 (fun w k=>(k.own m5).rwc0 ex.out) ?_
  iterate 2 refine e0 ?_
  refine eRm0 (F:=(rC 70 g2 x_l x_c y.cs j ⟨⟨p3,l3,c3⟩,⟨q3,u3,d3⟩⟩ pv).F) (fun w k=>k.get m0) (h1:=by intro w' k;obtain⟨_,_,c0,c1,c2⟩:=k;(try simp at c0 c1 c2);go_simp;(try go_bits);exact⟨rfl,rfl⟩) ?_;refine eC (fun w k=>rat2_S (qdiv_any _ _ _ _ w (k.q m0) (k.q m2) (LmQ.int1.up (by decide)) hpl.out (by decide))) (fun x7=>?_);obtain⟨⟨p8,l8,c8⟩,⟨q8,u8,d8⟩⟩:=x7;dsimp only;generalize (if pv=0 then(10:Int)else 0)=z8e
  iterate 3 refine e0 ?_
  refine eA (.cells #[.bool false,.slice none 0 0,.slice none 0 0] 70) (fun R9=>?_);refine eP 0 0 [.bool (isN (((1:Int):Rat)/pv)),.slice p8 l8 c8,.slice q8 u8 d8] ?_ (hs:=(sC2 (sC2 (sC2 (sR)))));refine e0 ?_;refine sxEnd (fun W10 hK=>?_);go_upto_region 2 with(fail);refine wp_region_S _ [0,0,0,0,0,2,0,4] hK ?_ (sK2 (sK2 (sK2 (sC2 (sR)))));clear hK
  iterate 3 refine e0 ?_
  refine eR0 (fun w k=>(k.own m7).rwc0 ex.out) ?_;refine e0 ?_;refine eC (fun w k=>rat_S (qint_any 1 w (by omega) (by omega))) (fun x11=>?_);obtain⟨⟨p12,l12,c12⟩,⟨q12,u12,d12⟩⟩:=x11;dsimp only;refine e0 ?_;refine eWC (y:=((1:Int):Rat)) 4 l2 m0 ?_ (hi:=rfl) (hs:=(sC2 (sK2 (sK2 (sK2 (sC2 (sR)))))));refine sxEnd (fun W13 hK=>?_);go_upto_region 3 with(fail);refine wp_region_T [0,0,0,1,0,0] hK ?_;clear hK
  iterate 3 refine e0 ?_
  refine eR (fun w k=>(k.own m9).rwc0 ex.out) ?_
  iterate 2 refine e0 ?_
  refine sxEnd (fun W14 hK=>?_);rw[show y.cs.set j ((1:Int):Rat)=stepN (fun c=>c*(((1:Int):Rat)/pv)) (y.cs.set j ((1:Int):Rat)) 0 from(stepN_zero _ _).symm]at hK;go_wp2_with fail;go_loopw [46] (fun s46 wl=> ∃(m:Nat),s46=.int .i64 (m:Int)/\(m<=x_l)/\SS V ((bx R9 (.cells #[.bool (isN (((1:Int):Rat)/pv)),.slice p8 l8 c8,.slice q8 u8 d8] 70))::(qF (.agg #[.bool (isN (((1:Int):Rat)/pv)),.slice p8 l8 c8,.slice q8 u8 d8]) (((1:Int):Rat)/pv))::(rO ratK 70 (some ⟨g2,0,none⟩) x_l x_c (stepN (fun c=>c*(((1:Int):Rat)/pv)) (y.cs.set j ((1:Int):Rat)) m))::(qF (.agg #[.bool x_n,.slice x_yp x_yl x_yc,.slice x_zp x_zl x_zc]) (y.r))::(fmF 70 rs T.rows [i])::(bx R (.cells #[.slice (some ⟨g1,0,none⟩) rl rc,.slice bp bl bc,.slice fp fl fc,.slice gp gl gc,.bool gn,.slice gy.p gy.l gy.c,.slice gz.p gz.l gz.c,.int .i64 nc] 151))::(rO rw4K 149 (some ⟨g1,0,none⟩) rl rc rs)::(rO intK 3 bp bl bc T.basic)::(rO intK 3 fp fl fc T.free)::(rO ratK 70 gp gl gc g.cs)::(qF (.agg #[.bool gn,.slice gy.p gy.l gy.c,.slice gz.p gz.l gz.c]) (g.r))::(glF 70 zs)::(rO adK 152 qp ql qc ads)::l) wl) (fun s46 _=>x_l-(intOf s46).toNat)
  case atStart=>exact⟨0,rfl,(by omega),(hK.subl (sC2 (sK2 (sK2 (sC2 (sK2 (sC2 (sR))))))))⟩
  clear hK;obtain⟨m,rfl,hm0,hK⟩:=hrel;generalize wr=W15 at hK⊢;go_upto_region 4 with(fail);refine wp_region_T [0] hK ?_;clear hK;refine eB (decide (((m:Int))<((x_l:Int)))) (fun b1 hb1=>?_);refine sxEnd (fun W16 hK=>?_)
  cases b1
  . --
   have q_b1:=nlt hb1;rw[show stepN (fun c=>c*(((1:Int):Rat)/pv)) (y.cs.set j ((1:Int):Rat)) m=(y.scale j).cs from((stepN_all _ _ (by rw[List.length_set];omega)).trans (scale_cs epv.out))]at hK;go_upto_region 9 with(fail);refine wp_region_S _ [0,0,0,0,1,0,2,0,0,4] hK ?_ (sK2 (sK2 (sK2 (sK2 (sK2 (sK2 (sC2 (sR))))))));clear hK
   iterate 4 refine e0 ?_
   refine eRm (F:=fun w=>OwV rw4K 149 0 w (.slice (some ⟨g1,0,none⟩) rl rc) rs) (fun w k=>k.own m6) (h1:=by intro w' k;have c0:=k.rwc0 ex.out;have c1:=k.rwc ex.out 1 rfl;have c2:=k.rwc ex.out 2 rfl;have c3:=k.rwc ex.out 3 rfl;go_simp;(try go_bits);exact⟨rfl,rfl⟩) ?_;refine eL0 m0 ?_;refine eC (fun w k=>rat_S (qmul_any _ _ _ _ w (k.q m3) (k.q m1) (hyr.out.up (by decide)) hsl.out (by decide))) (fun x17=>?_);obtain⟨⟨p18,l18,c18⟩,⟨q18,u18,d18⟩⟩:=x17;dsimp only
   iterate 2 refine e0 ?_
   refine eWr ⟨⟨(some ⟨g2,0,none⟩),x_l,x_c⟩,(isN (y.r*(((1:Int):Rat)/pv))),⟨p18,l18,c18⟩,⟨q18,u18,d18⟩⟩ 7 1 [.bool (isN (y.r*(((1:Int):Rat)/pv))),.slice p18 l18 c18,.slice q18 u18 d18] ex.out ?_ (hi:=rfl) (h1:=by intro w' k;have c0:=k.rwc0 ex.out;have c1:=k.rwc ex.out 1 rfl;have c2:=k.rwc ex.out 2 rfl;have c3:=k.rwc ex.out 3 rfl;have f:=OwV.fz k;go_simp;exact⟨rfl,rfl⟩) (hs:=(sC2 (sK2 (sK2 (sK2 (sK2 (sK2 (sK2 (sC2 (sR))))))))));refine sxEnd (fun W19 hK=>?_);generalize hn9:isN (y.r*(((1:Int):Rat)/pv))=n9 at hK;rw[scale_r epv.out]at hK;replace hK:=hK.subl (sK2 (sC2 (sC2 (sK2 (sC2 (sR))))));have i20:i<bl:=(by omega);obtain⟨g20,rfl⟩:=hK.pt m5 i20;have l20:i<T.basic.length:=Nat.lt_of_lt_of_eq i20 (hK.len m5);obtain⟨bi,ebi⟩:=gtH l20;have i21:j<fl:=(by omega);obtain⟨g21,rfl⟩:=hK.pt m6 i21;have l21:j<T.free.length:=Nat.lt_of_lt_of_eq i21 (hK.len m6);obtain⟨fj,efj⟩:=gtH l21;go_upto_region 10 with(fail);refine wp_region_S _ [0,0,0,0,0,0,0,0,0,0,0,0,0,0,0,0,1,0,0,0,0,0,0,1,0,4,0,4] hK ?_ (sK2 (sK2 (sK2 (sK2 (sK2 (sC2 (sC2 (sR))))))));clear hK
   iterate 3 refine e0 ?_
   refine eL0 m3 ?_
   iterate 4 refine e0 ?_
   refine eL0 m3 ?_
   iterate 4 refine e0 ?_
   refine eL0 m3 ?_
   iterate 2 refine e0 ?_
   refine eR (fun w k=>(k.own m6).int efj.out) ?_
   iterate 3 refine e0 ?_
   refine eL0 m3 ?_
   iterate 2 refine e0 ?_
   refine eR (fun w k=>(k.own m5).int ebi.out) ?_;refine e0 ?_;refine eWI (y:=fj) 5 l20 ?_ (hi:=rfl) (hs:=(sK2 (sK2 (sK2 (sK2 (sK2 (sC2 (sC2 (sR)))))))));refine e0 ?_;refine eWI (y:=bi) 6 l21 ?_ (hi:=rfl) (hs:=(sK2 (sK2 (sK2 (sK2 (sK2 (sC2 (sC2 (sR)))))))));refine sxEnd (fun W22 hK=>?_);go_upto_region 11 with(fail);refine wp_region_T [0,0,0,1,0,0] hK ?_;clear hK
   iterate 3 refine e0 ?_
   refine eL m3 ?_
   iterate 2 refine e0 ?_
   refine sxEnd (fun W23 hK=>?_);replace hK:=hK.up2;replace hK:=hK.rwX ⟨⟨(some ⟨g2,0,none⟩),x_l,x_c⟩,n9,⟨p18,l18,c18⟩,⟨q18,u18,d18⟩⟩ (y.scale j);rw[<-pivK_zero (j:=j) ey.out]at hK;go_wp2_with fail;go_loopw [104] (fun s104 wl=> ∃(m:Nat) (rs1:List Rw4),s104=.int .i64 (m:Int)/\(m<=rl)/\Hid (rs1[i]?=some ⟨⟨(some ⟨g2,0,none⟩),x_l,x_c⟩,n9,⟨p18,l18,c18⟩,⟨q18,u18,d18⟩⟩)/\Hid (rs1.length=rl)/\SS V ((fmF 70 rs1 (pivK T.rows i j m) [i])::(qF (.agg #[.bool n9,.slice p18 l18 c18,.slice q18 u18 d18]) ((y.scale j).r))::(rO ratK 70 (some ⟨g2,0,none⟩) x_l x_c ((y.scale j).cs))::(bx R (.cells #[.slice (some ⟨g1,0,none⟩) rl rc,.slice (some ⟨g20,0,none⟩) bl bc,.slice (some ⟨g21,0,none⟩) fl fc,.slice gp gl gc,.bool gn,.slice gy.p gy.l gy.c,.slice gz.p gz.l gz.c,.int .i64 nc] 151))::(rO rw4K 149 (some ⟨g1,0,none⟩) rl rc rs1)::(rO intK 3 (some ⟨g20,0,none⟩) bl bc (T.basic.set i fj))::(rO intK 3 (some ⟨g21,0,none⟩) fl fc (T.free.set j bi))::(rO ratK 70 gp gl gc g.cs)::(qF (.agg #[.bool gn,.slice gy.p gy.l gy.c,.slice gz.p gz.l gz.c]) (g.r))::(glF 70 zs)::(rO adK 152 qp ql qc ads)::l) wl) (fun s104 _=>rl-(intOf s104).toNat)
   case atStart=>exact⟨0,rs.set i ⟨⟨(some ⟨g2,0,none⟩),x_l,x_c⟩,n9,⟨p18,l18,c18⟩,⟨q18,u18,d18⟩⟩,rfl,(by omega),hid (List.getElem?_set_self (Nat.lt_of_lt_of_eq hi hrl.symm)),hid (List.length_set.trans (hrl.trans n1.out.symm)),hK⟩
   clear hK;obtain⟨m,rs1,rfl,hm0,h_x,h_len,hK⟩:=hrel;generalize wr=W24 at hK⊢;go_upto_region 12 with(fail);refine wp_region_T [0] hK ?_;clear hK;refine eB (decide (((m:Int))<((rl:Int)))) (fun b2 hb2=>?_);refine sxEnd (fun W25 hK=>?_)
   cases b2
   . --
    have q_b2:=nlt hb2;replace hK:=hK.up9;replace hK:=hK.up9;replace hK:=hK.up9;replace hK:=hK.up6;replace hK:=SS.toG (a:=(⟨(some ⟨g1,0,none⟩),rl,rc⟩:Sl)) (b:=(⟨(some ⟨g20,0,none⟩),bl,bc⟩:Sl)) (c:=(⟨(some ⟨g21,0,none⟩),fl,fc⟩:Sl)) (x:=⟨⟨gp,gl,gc⟩,gn,⟨gy.p,gy.l,gy.c⟩,⟨gz.p,gz.l,gz.c⟩⟩) (y:=g) hK;obtain⟨gs0,hgs0⟩:∃gs0,Hid (gs0=(⟨plG R (⟨(some ⟨g1,0,none⟩),rl,rc⟩:Sl) (⟨(some ⟨g20,0,none⟩),bl,bc⟩:Sl) (⟨(some ⟨g21,0,none⟩),fl,fc⟩:Sl) nc,⟨⟨gp,gl,gc⟩,gn,⟨gy.p,gy.l,gy.c⟩,⟨gz.p,gz.l,gz.c⟩⟩,g⟩::zs)):=⟨_,hid rfl⟩;rw[<-hgs0.out]at hK;have hads:Hid (ads=gs0.map fun a=>⟨a.L.g,a.L.o⟩):=hid (by rw[had,hgs0.out];rfl);have hgn:Hid (ads.length=gs0.length):=hid (by rw[hads.out,List.length_map]);have hqn:=hid (hK.len m7);have hq9:ql<=1000:=(by rw[hqn.out,had];simp;omega);have nq1:=Nat.le_of_eq (hqn.out.trans hgn.out);have nq2:=Nat.le_of_eq (hqn.out.trans hgn.out).symm;have hga:Hid (∀a∈gs0,a.y.cs.length=T.free.length/\LmL 300 a.y.cs/\LmQ 300 a.y.r):=hid (by rw[hgs0.out];intro a ha;rcases List.mem_cons.1 ha with rfl|ha;exact⟨hgl,hgm,hgr⟩;exact hzs a ha);go_wp2_with fail;go_loopw [124] (fun s124 wl=> ∃(mg:Nat) (gs1:List Gl),s124=.int .i64 (mg:Int)/\(mg<=ql)/\Hid (GsR gs0 j (y.scale j) mg gs1)/\SS V ((glF 70 gs1)::(fmF 70 rs1 (pivK T.rows i j m) [i])::(qF (.agg #[.bool n9,.slice p18 l18 c18,.slice q18 u18 d18]) ((y.scale j).r))::(rO ratK 70 (some ⟨g2,0,none⟩) x_l x_c ((y.scale j).cs))::(rO rw4K 149 (some ⟨g1,0,none⟩) rl rc rs1)::(rO intK 3 (some ⟨g20,0,none⟩) bl bc (T.basic.set i fj))::(rO intK 3 (some ⟨g21,0,none⟩) fl fc (T.free.set j bi))::(rO adK 152 qp ql qc ads)::l) wl) (fun s124 _=>ql-(intOf s124).toNat)
    case atStart=>exact⟨0,gs0,rfl,(by omega),hid GsR.start,hK⟩
    clear hK;obtain⟨mg,gs1,rfl,hmg0,h_gs,hK⟩:=hrel;generalize wr=W26 at hK⊢;go_upto_region 18 with(fail);refine wp_region_T [0] hK ?_;clear hK;refine eB (decide (((mg:Int))<((ql:Int)))) (fun b3 hb3=>?_);refine sxEnd (fun W27 hK=>?_)
    cases b3
    . --
     have q_b3:=nlt hb3;obtain⟨gx,zs1,hgx,hgs1,hzr⟩:=GsR.cons (hgs0.out▸h_gs.out) (by rw[hgs0.out]at nq1 nq2;simp at nq1 nq2;omega);rw[hgs1]at hK;replace hK:=SS.ofG hK;obtain⟨⟨sp,sl,sc⟩,n8,y8,z8⟩:=gx;injection hgx with e1 e2 e3;subst e1 e2 e3;dsimp only[Rw4.q]at hK;replace hK:=hK.up4;replace hK:=hK.up5;replace hK:=hK.up6;replace hK:=SS.rwB (x:=⟨⟨(some ⟨g2,0,none⟩),x_l,x_c⟩,n9,⟨p18,l18,c18⟩,⟨q18,u18,d18⟩⟩) (y:=y.scale j) hK List.not_mem_nil (by rw[pivK_len];exact hi) (by rw[h_len.out,n1.out];exact hi);rw[set_same h_x.out,set_same (pivK_i ey.out),pivK_all (T:=T) (by omega)]at hK;have hbs:T.basic.set i fj=(T.pivot i j).basic:=(by show _=T.basic.set i (T.free.getD j 0);rw[getD_eq_of efj.out]);have hfs:T.free.set j bi=(T.pivot i j).free:=(by show _=T.free.set j (T.basic.getD i 0);rw[getD_eq_of ebi.out]);have hgo:g.subst j (y.scale j)=T.obj i j g:=(by unfold LTab.obj;rw[hyd]);rw[hbs,hfs,hgo]at hK;replace hK:=hK.fact (cF (rs1.length=T.rows.length/\GsR zs j ((T.rows.getD i default).scale j) zs.length zs1)) ⟨h_len.out.trans n1.out,by rw[hyd];exact hzr⟩;replace hK:=hK.up5;replace hK:=hK.up5;replace hK:=hK.up5;replace hK:=hK.up4;replace hK:=hK.up8;replace hK:=hK.up8;replace hK:=hK.up8;replace hK:=hK.up8;replace hK:=hK.subl (sK2 (sK2 (sK2 (sK2 (sK2 (sK2 (sK2 (sK2 (sK2 (sC2 (sR)))))))))));go_wp2
     first|exact bodyPost_ret (v:=.tuple #[]) (results_none (by simp[Tryz.results89]) _ _ _) rfl (qo hQ0 ⟨⟨rs1,⟨⟨sp,sl,sc⟩,n8,y8,z8⟩,zs1⟩,rfl,hK⟩)|exact bodyPost_end (v:=.tuple #[]) (results_none (by simp[Tryz.results89]) _ _ _) rfl (qo hQ0 ⟨⟨rs1,⟨⟨sp,sl,sc⟩,n8,y8,z8⟩,zs1⟩,rfl,hK⟩)
    have q_b3:=ylt hb3;have hmg:mg<gs0.length:=(by omega);obtain⟨a1,ea⟩:∃a,Hid (gs0[mg]?=some a):=⟨_,hid (List.getElem?_eq_getElem hmg)⟩;obtain⟨x1,hx1,ea1⟩:∃x1:Rw4,Hid (x1.s=a1.x.s)/\Hid (gs1[mg]?=some ⟨a1.L,x1,a1.y⟩):=(by obtain⟨x,q1,q2⟩:=h_gs.out.at ea.out;exact⟨x,hid q1,hid q2⟩);have ha1:=hid (hga.out _ (List.mem_of_getElem? ea.out));have i28:mg<ql:=(by omega);obtain⟨g28,rfl⟩:=hK.pt m7 i28;have l28:mg<ads.length:=Nat.lt_of_lt_of_eq i28 (hK.len m7);obtain⟨qa,eqa⟩:=gtH l28;have exq:Hid (ads[mg]?=some ⟨a1.L.g,a1.L.o⟩):=hid (by rw[hads.out,List.getElem?_map,ea.out];rfl);go_upto_region 19 with(fail);refine wp_region_T [0,1,0] hK ?_;clear hK;refine e0 ?_;refine eR (fun w k=>(k.own m7).ad exq.out) ?_;refine e0 ?_;refine sxEnd (fun W29 hK=>?_);go_upto_region 20 with(fail);refine wp_region_T [0,0,0,0,1,4] hK ?_;clear hK
    iterate 4 refine e0 ?_
    refine eRm (F:=fun w=>OwV rw4K 149 0 w (.slice (some ⟨g1,0,none⟩) rl rc) rs1) (fun w k=>k.own m4) (h1:=by intro w' k;have c0:=k.rwc0 h_x.out;have c1:=k.rwc h_x.out 1 rfl;have c2:=k.rwc h_x.out 2 rfl;have c3:=k.rwc h_x.out 3 rfl;go_simp;(try go_bits);exact⟨rfl,rfl⟩) ?_;refine eM (fun w k=>subgl_any w _ (b:=⟨⟨(some ⟨g2,0,none⟩),x_l,x_c⟩,n9,⟨p18,l18,c18⟩,⟨q18,u18,d18⟩⟩) k.up2.up3.up2 ⟨rfl,rfl,rfl,rfl,rfl,hz⟩ ⟨rfl,rfl,rfl,rfl,rfl,hz3⟩ ea1.out (Nat.lt_of_lt_of_eq hj ha1.out.1.symm) (by rw[scale_len];exact hyl.out.trans ha1.out.1.symm) (Nat.le_trans (Nat.le_of_eq ha1.out.1) hfn) ha1.out.2.1 hps ha1.out.2.2 hpr) (fun x30=>?_);refine sxEnd (fun W31 hK=>?_)
    (try go_wp2)
    go_roundw
    case rel=>exact⟨mg+1,gs1.set mg ⟨a1.L,⟨x1.s,x30.n,x30.y,x30.z⟩,a1.y.subst j (y.scale j)⟩,(by first|rfl|go_num),(by omega),hid (h_gs.out.step ea.out hx1.out),((((((((hK.up7).up7).up7).up7).up5).up6).up7).up7)⟩
    case measure=>simp[intOf]<;>omega
   have q_b2:=ylt hb2;go_upto_region 14 with(fail);refine wp_region_T [0,0,0] hK ?_;clear hK
   iterate 2 refine e0 ?_
   refine eB (((m:Int)) !=((i:Int))) (fun b3 hb3=>?_);refine sxEnd (fun W32 hK=>?_)
   cases b3
   . --
    rw[show pivK T.rows i j m=pivK T.rows i j (m+1)from by rw[show m=i from by have q:=hb3.out;simp at q;omega];exact pivK_skip.symm]at hK
    (try go_wp2)
    go_roundw
    case rel=>exact⟨m+1,rs1,(by first|rfl|go_num),(by omega),hid h_x.out,hid h_len.out,hK⟩
    case measure=>simp[intOf]<;>omega
   have hki:m≠i:=(by have q:=hb3.out;simp at q;omega);have hmr:m<T.rows.length:=(by omega);obtain⟨ym,eym⟩:∃y,Hid (T.rows[m]?=some y):=⟨_,hid (List.getElem?_eq_getElem hmr)⟩;have hymm:=List.mem_of_getElem? eym.out;have hyml:=hid (hok.row eym.out);have i33:m<rl:=(by omega);have l33:m<rs1.length:=Nat.lt_of_lt_of_eq i33 (hK.len m4);obtain⟨xm,exm⟩:=gtH l33;obtain⟨⟨xm_p,xm_l,xm_c⟩,xm_n,⟨xm_yp,xm_yl,xm_yc⟩,⟨xm_zp,xm_zl,xm_zc⟩⟩:=xm;replace hK:=hK.up1;replace hK:=hK.up2;replace hK:=hK.up2;replace hK:=hK.up4;go_upto_region 15 with(fail);refine wp_region_S _ [0,0,0,0,0,0,0,0,0,1,4] hK ?_ (sC2 (sC2 (sR)));clear hK
   iterate 3 refine e0 ?_
   refine eL0 m2 ?_
   iterate 5 refine e0 ?_
   refine eRm (F:=fun w=>OwV rw4K 149 0 w (.slice (some ⟨g1,0,none⟩) rl rc) rs1) (fun w k=>k.own m0) (h1:=by intro w' k;have c0:=k.rwc0 h_x.out;have c1:=k.rwc h_x.out 1 rfl;have c2:=k.rwc h_x.out 2 rfl;have c3:=k.rwc h_x.out 3 rfl;go_simp;(try go_bits);exact⟨rfl,rfl⟩) ?_;refine eM (fun w k=>subrow_any w _ (b:=⟨⟨(some ⟨g2,0,none⟩),x_l,x_c⟩,n9,⟨p18,l18,c18⟩,⟨q18,u18,d18⟩⟩) k.up3.up3.up3.up3 ⟨rfl,rfl,rfl,rfl,rfl,rfl,rfl,hz⟩ ⟨rfl,rfl,rfl,rfl,rfl,rfl,rfl,hz3⟩ exm.out ((pivK_k hki).trans eym.out) hki (by rw[hyml.out];exact hj) (by rw[scale_len,hyml.out];exact hyl.out) (by rw[hyml.out];exact hfn) (hm.cs _ hymm) hps (hm.r _ hymm) hpr) (fun x34=>?_) (hs:=fun _=>(sC2 (sC2 (sR))));refine sxEnd (fun W35 hK=>?_);rw[pivK_step hki ey.out eym.out]at hK
   (try go_wp2)
   go_roundw
   case rel=>exact⟨m+1,rs1.set m x34,(by first|rfl|go_num),(by omega),hid ((List.getElem?_set_ne hki).trans h_x.out),hid (List.length_set.trans h_len.out),(((((((((((hK.up10).up10).up10).up10).up10).up10).up6).up10).up9).up10).up10)⟩
   case measure=>simp[intOf]<;>omega
  have q_b1:=ylt hb1;have hmx:m<x_l:=(by omega);have i36:m<x_l:=(by omega);have l36:m<(stepN (fun c=>c*(((1:Int):Rat)/pv)) (y.cs.set j ((1:Int):Rat)) m).length:=Nat.lt_of_lt_of_eq i36 (hK.len m2);obtain⟨ca,eca⟩:=gtH l36;have ea:Hid ((y.cs.set j ((1:Int):Rat))[m]?=some ca):=hid (by have q:=eca.out;rwa [stepN_at _ (by rw[List.length_set];omega)]at q);have hcl:=hid ((hm.cs y hym).set (LmQ.int1.up (by decide)) _ (List.mem_of_getElem? ea.out));go_upto_region 5 with(fail);refine wp_region_T [0,0,2,3,0,4] hK ?_;clear hK
  iterate 2 refine e0 ?_
  refine eRq m2 eca.out (fun x37=>?_);obtain⟨⟨p37,l37,c37⟩,⟨q37,u37,d37⟩⟩:=x37;dsimp only;refine eA (.cells #[.bool false,.slice none 0 0,.slice none 0 0] 70) (fun R38=>?_);refine e0 ?_;refine eP 0 0 [.bool (isN (ca)),.slice p37 l37 c37,.slice q37 u37 d37] ?_;refine sxEnd (fun W39 hK=>?_);go_upto_region 6 with(fail);refine wp_region_T [1,1,0] hK ?_;clear hK;refine eL m0 ?_;obtain⟨z1,hz1⟩:=nmI (sgQ (ca));refine eQ (v:=.int .i64 z1) (fun w k=>sign_any _ _ w (k.q m1)) ?_ (hv:=by rw[hz1.out]);refine eB (z1 !=0) (fun b2 hb2=>?_);refine sxEnd (fun W40 hK=>?_)
  cases b2
  . --
   rw[show stepN (fun c=>c*(((1:Int):Rat)/pv)) (y.cs.set j ((1:Int):Rat)) m=stepN (fun c=>c*(((1:Int):Rat)/pv)) (y.cs.set j ((1:Int):Rat)) (m+1)from(stepN_same (fun c=>c*(((1:Int):Rat)/pv)) ea.out (by rw[sgQ_zero.1 (hz1.out.trans (by have q:=hb2.out;simpa using q))];exact Rat.zero_mul _)).symm]at hK
   (try go_wp2)
   go_roundw
   case rel=>exact⟨m+1,(by first|rfl|go_num),(by omega),(hK.subl (sC2 (sC2 (sR))))⟩
   case measure=>simp[intOf]<;>omega
  go_upto_region 7 with(fail);refine wp_region_S _ [0,0,0,0,0,0,0,2,0,4] hK ?_ (sK2 (sK2 (sK2 (sK2 (sC2 (sR))))));clear hK
  iterate 3 refine e0 ?_
  refine eR0 (fun w k=>(k.own m7).rwc0 ex.out) ?_;refine e0 ?_;refine eL0 m0 ?_;refine eL0 m2 ?_;refine eC (fun w k=>rat_S (qmul_any _ _ _ _ w (k.q m1) (k.q m3) (hcl.out.up (by decide)) hsl.out (by decide))) (fun x41=>?_);obtain⟨⟨p42,l42,c42⟩,⟨q42,u42,d42⟩⟩:=x41;dsimp only;refine e0 ?_;refine eWQ (y:=(ca*(((1:Int):Rat)/pv))) 5 l36 m0 ?_ (hi:=rfl) (hs:=(sC2 (sK2 (sK2 (sK2 (sK2 (sC2 (sR))))))));refine sxEnd (fun W43 hK=>?_);rw[show(stepN (fun c=>c*(((1:Int):Rat)/pv)) (y.cs.set j ((1:Int):Rat)) m).set m (ca*(((1:Int):Rat)/pv))=stepN (fun c=>c*(((1:Int):Rat)/pv)) (y.cs.set j ((1:Int):Rat)) (m+1)from(stepN_succ (fun c=>c*(((1:Int):Rat)/pv)) ea.out)]at hK
  (try go_wp2)
  go_roundw
  case rel=>exact⟨m+1,(by first|rfl|go_num),(by omega),(hK.subl (sC2 (sC2 (sC2 (sR)))))⟩
  case measure=>simp[intOf]<;>omega
end
section
def plcN(m n:Nat)(bs:List Int)(xs:List Rat)(k:Nat):List Rat:=(cls m n).map (asg (bs.take k) (xs.take k))
theorem plcN_len(m n:Nat)(bs:List Int)(xs:List Rat)(k:Nat):(plcN m n bs xs k).length=n:=by simp[plcN,cls_len]
theorem plcN_zero(m n:Nat)(bs:List Int)(xs:List Rat):plcN m n bs xs 0=List.replicate n 0:=by
  unfold plcN;rw[List.take_zero,List.take_zero,List.eq_replicate_iff];refine⟨by simp[cls_len],fun b hb=>?_⟩;obtain⟨x,_,rfl⟩:=List.mem_map.1 hb;rfl
theorem asg_snoc(b:Int)(x:Rat)(n:Int):∀(bs:List Int) (xs:List Rat),bs.length=xs.length->b∉bs->asg (bs++[b]) (xs++[x]) n=if n=b then x else asg bs xs n
  |[],[],_,_=>rfl
  |[],_::_,h,_=>by simp at h
  |_::_,[],h,_=>by simp at h
  | c::bs,y::xs,h,hn=>by
    have ih:=asg_snoc b x n bs xs (by simpa using h) (fun q=>hn (List.mem_cons_of_mem _ q));have hc:c≠b:=fun e=>hn (by simp[e])
    simp only[List.cons_append,asg]
    by_cases e:n=c
    . rw[if_pos e,if_pos e,if_neg (by rw[e];exact hc)]
    rw[if_neg e,if_neg e,ih]
section
variable {m n k:Nat}{bs:List Int}{xs:List Rat}{b:Int}{x:Rat}
theorem not_taken(hn:bs.Nodup)(hb:bs[k]?=some b):b∉bs.take k:=fun h=>by
  obtain⟨i,hi⟩:=List.mem_iff_getElem?.1 h
  have hik:i<k:=by
    have:=(List.getElem?_eq_some_iff.1 hi).1;simp at this;omega
  rw[List.getElem?_take,if_pos hik]at hi;have h1:=(List.getElem?_eq_some_iff.1 hi);have h2:=(List.getElem?_eq_some_iff.1 hb);have:=nodup_inj hn h1.1 h2.1 (h1.2.trans h2.2.symm);omega
theorem plc_asg(hn:bs.Nodup)(hb:bs[k]?=some b)(hx:xs[k]?=some x)(i:Int):asg (bs.take (k+1)) (xs.take (k+1)) i=if i=b then x else asg (bs.take k) (xs.take k) i:=by
  have h1:=(List.getElem?_eq_some_iff.1 hb).1;have h2:=(List.getElem?_eq_some_iff.1 hx).1;rw[List.take_add_one,List.take_add_one,hb,hx];exact asg_snoc b x i _ _ (by simp;omega) (not_taken hn hb)
theorem plc_in(hn:bs.Nodup)(hb:bs[k]?=some b)(hx:xs[k]?=some x){i:Nat}(hi:b=((m+i:Nat):Int))(hl:i<n):(plcN m n bs xs k).set i x=plcN m n bs xs (k+1):=by
  refine List.ext_getElem? fun j=>?_
  by_cases e:i=j
  . subst e;rw[List.getElem?_set_self (by rw[plcN_len];exact hl),plcN,List.getElem?_map,cls_at hl,Option.map_some,plc_asg hn hb hx,if_pos hi.symm]
  rw[List.getElem?_set_ne e,plcN,plcN,List.getElem?_map,List.getElem?_map]
  by_cases hj:j<n
  . rw[cls_at hj,Option.map_some,Option.map_some,plc_asg hn hb hx,if_neg (by omega)]
  rw[List.getElem?_eq_none (by rw[cls_len];omega)];rfl
theorem plc_out(hn:bs.Nodup)(hb:bs[k]?=some b)(hx:xs[k]?=some x)(h:b<(m:Int)\/(m:Int)+(n:Int)<=b):plcN m n bs xs k=plcN m n bs xs (k+1):=by
  unfold plcN;refine List.map_congr_left fun i hi=>?_
  have:=mem_cls.1 hi;rw[plc_asg hn hb hx,if_neg (by omega)]
theorem plc_all(h1:bs.length<=k)(h2:xs.length<=k):plcN m n bs xs k=(cls m n).map (asg bs xs):=by
  unfold plcN;rw[List.take_of_length_le h1,List.take_of_length_le h2]
end
theorem cls_slk(m:Nat):cls 0 m=slk m:=by simp[cls,slk]
theorem prices_plc{m k:Nat}{fs:List Int}{cs:List Rat}(h1:fs.length<=k)(h2:cs.length<=k):plcN 0 m fs cs k=pricesL m fs cs:=by
  rw[plc_all h1 h2,cls_slk];rfl
theorem point_plc{m n k:Nat}{T:LTab}(h1:T.basic.length<=k)(h2:T.rows.length<=k):plcN m n T.basic (T.rows.map (·.r)) k=pointL m n T:=by
  rw[plc_all h1 (by simpa using h2)];rfl
def dirL(T:LTab)(j:Nat):List Rat:=T.rows.map fun x=>0-x.cs.getD j 0
def rayN(m n:Nat)(T:LTab)(j k:Nat):List Rat:=(cls m n).map fun i=>if i=T.free.getD j 0 then 1 else asg (T.basic.take k) ((dirL T j).take k) i
theorem rayN_len(m n:Nat)(T:LTab)(j k:Nat):(rayN m n T j k).length=n:=by simp[rayN,cls_len]
section
variable {m n j k:Nat}{T:LTab}{b:Int}{y:LRow}
theorem ray_zero_in{i:Nat}(hf:T.free.getD j 0=((m+i:Nat):Int))(hl:i<n):(List.replicate n (0:Rat)).set i ((1:Int):Rat)=rayN m n T j 0:=by
  refine List.ext_getElem? fun q=>?_
  unfold rayN;rw[List.getElem?_map]
  by_cases hq:q<n
  . rw[cls_at hq,Option.map_some,hf]
    by_cases e:i=q
    . subst e;rw[List.getElem?_set_self (by simp;exact hl),if_pos rfl];rfl
    rw[List.getElem?_set_ne e,if_neg (by omega),List.getElem?_replicate,if_pos hq];rfl
  rw[List.getElem?_eq_none (by simp;omega),List.getElem?_eq_none (by rw[cls_len];omega)];rfl
theorem ray_zero_out(hf:T.free.getD j 0<(m:Int)\/(m:Int)+(n:Int)<=T.free.getD j 0):List.replicate n (0:Rat)=rayN m n T j 0:=by
  unfold rayN
  symm
  rw[List.eq_replicate_iff];refine⟨by simp[cls_len],fun b hb=>?_⟩;obtain⟨x,hx,rfl⟩:=List.mem_map.1 hb;have:=mem_cls.1 hx;rw[if_neg (by omega)];rfl
theorem ray_in(h:T.Ok)(hj:j<T.free.length)(hb:T.basic[k]?=some b)(hy:T.rows[k]?=some y){i:Nat}(hi:b=((m+i:Nat):Int))(hl:i<n):(rayN m n T j k).set i (0-y.cs.getD j 0)=rayN m n T j (k+1):=by
  have hx:(dirL T j)[k]?=some (0-y.cs.getD j 0):=by unfold dirL;rw[List.getElem?_map,hy];rfl
  have hne:b≠T.free.getD j 0:=fun e=>h.apart (List.mem_of_getElem? hb) (e▸mem_getD hj)
  refine List.ext_getElem? fun q=>?_
  by_cases e:i=q
  . subst e;rw[List.getElem?_set_self (by rw[rayN_len];exact hl),rayN,List.getElem?_map,cls_at hl,Option.map_some, <-hi,if_neg hne,plc_asg h.nd1 hb hx,if_pos rfl]
  rw[List.getElem?_set_ne e,rayN,rayN,List.getElem?_map,List.getElem?_map]
  by_cases hq:q<n
  . rw[cls_at hq,Option.map_some,Option.map_some,plc_asg h.nd1 hb hx,if_neg (show ¬((m+q:Nat):Int)=b by omega)]
  rw[List.getElem?_eq_none (by rw[cls_len];omega)];rfl
theorem ray_out(h:T.Ok)(hb:T.basic[k]?=some b)(hy:T.rows[k]?=some y)(ho:b<(m:Int)\/(m:Int)+(n:Int)<=b):rayN m n T j k=rayN m n T j (k+1):=by
  have hx:(dirL T j)[k]?=some (0-y.cs.getD j 0):=by unfold dirL;rw[List.getElem?_map,hy];rfl
  unfold rayN;refine List.map_congr_left fun i hi=>?_
  have:=mem_cls.1 hi;rw[plc_asg h.nd1 hb hx,if_neg (show ¬i=b by omega)]
theorem asg_sub(p q:LRow->Rat)(i:Int):∀(bs:List Int) (rs:List LRow),asg bs (rs.map p) i-asg bs (rs.map q) i=asg bs (rs.map fun x=>p x-q x) i
  |[],rs=>by simp[asg];grind
  |_::_,[]=>by simp[asg];grind
  | b::bs,r::rs=>by
    have ih:=asg_sub p q i bs rs;simp only[List.map_cons,asg]
    split
    . rfl
    exact ih
theorem ray_all(h1:T.basic.length<=k)(h2:T.rows.length<=k):rayN m n T j k=rayL m n T j:=by
  unfold rayN rayL;refine List.map_congr_left fun i hi=>?_
  rw[List.take_of_length_le h1,List.take_of_length_le (by simp[dirL];exact h2)];unfold LTab.pt
  split
  . grind
  rw[asg_sub];unfold dirL
  congr 1
  refine List.map_congr_left fun x _=>?_
  grind
end
def Rch(s t:LSt):Prop:= ∃n,itS n s=some t
theorem Rch.refl(s:LSt):Rch s s:=⟨0,rfl⟩
theorem Rch.step{s t u:LSt}(h:Rch s t)(hs:stepS t=some u):Rch s u:=by
  obtain⟨n,hn⟩:=h;exact⟨n+1,by rw[itS_succ,hn];exact hs⟩
theorem Rch.ok{s t:LSt}(h:Rch s t)(hs:s.Ok):t.Ok:=by
  obtain⟨n,hn⟩:=h;exact itS_ok hs hn
theorem step_of{s:LSt}{i j:Nat}(hj:entN s.g.cs s.T.free s.g.cs.length=(j:Int))(hi:(leaN s.T.rows s.T.basic j s.T.rows.length).1=(i:Int)):stepS s=some (s.next i j):=by
  unfold stepS;rw[hj,if_neg (by omega),Int.toNat_natCast,hi,if_neg (by omega),Int.toNat_natCast]
def LSt.obj(s:LSt):LObj:=⟨s.T,[s.g]⟩
theorem LSt.Ok.obj{s:LSt}(h:s.Ok):s.obj.Ok:=⟨h.ok,fun g hg=>by rw[List.mem_singleton.1 hg];exact h.len⟩
theorem Rch.alike{s t:LSt}(h:Rch s t)(hs:s.Ok):Alike t.obj s.obj:=by
  obtain⟨n,hn⟩:=h
  induction n generalizing t with
  |zero=>cases hn;exact .refl _
  | succ n ih=>
    rw[itS_succ]at hn
    cases e:itS n s with
    |none=>rw[e]at hn;cases hn
    | some u=>
      rw[e]at hn;obtain⟨i,j,hp,rfl⟩:=stepS_pick (itS_ok hs e) hn;have:=(itS_ok hs e).obj.alike (i:=i) (j:=j) (row_getD hp.hi) hp.hj (pos_ne hp.a);exact this.trans (ih e)
theorem ent_none{s:LSt}(h:entN s.g.cs s.T.free s.g.cs.length<0):∀k,0<=s.g.cs.getD k 0:=fun k=>by
  rcases entN_spec s.g.cs s.T.free s.g.cs.length with⟨_,h2⟩|⟨j,_,h2,_⟩
  . by_cases hk:k<s.g.cs.length
    . exact h2 k hk
    rw[List.getD,List.getElem?_eq_none (by omega)];exact Rat.le_refl
  omega
theorem ent_some{s:LSt}{j:Nat}(h:entN s.g.cs s.T.free s.g.cs.length=(j:Int)):j<s.g.cs.length/\s.g.cs.getD j 0<0:=by
  rcases entN_spec s.g.cs s.T.free s.g.cs.length with⟨h1,_⟩|⟨j',h1,h2,h3,_⟩
  . omega
  obtain rfl:j=j':=by omega
  exact⟨h1,h3⟩
theorem lea_none{T:LTab}{j:Nat}(h:(leaN T.rows T.basic j T.rows.length).1<0):∀i,i<T.rows.length->cofR T.rows j i<=0:=by
  rcases leaN_spec T.rows T.basic j T.rows.length with⟨_,h2⟩|⟨i,_,h2,_⟩
  . exact h2
  rw[h2]at h;dsimp only at h;omega
theorem lea_nat{T:LTab}{j:Nat}(h:¬(leaN T.rows T.basic j T.rows.length).1<0):∃i:Nat,(leaN T.rows T.basic j T.rows.length).1=(i:Int)/\i<T.rows.length:=by
  rcases leaN_spec T.rows T.basic j T.rows.length with⟨h1,_⟩|⟨i,h1,h2,_⟩
  . rw[h1]at h;exact absurd (by decide) h
  exact⟨i,by rw[h2],h1⟩
theorem Ph1.lea{P:LPd}{s:LObj}{z:LRow}{j:Nat}(h:Ph1 P s)(hz:s.os[1]?=some z)(hj:j<s.T.free.length)(hc:z.cs.getD j 0<0):∃i:Nat,(leaN s.T.rows s.T.basic j s.T.rows.length).1=(i:Int)/\i<s.T.rows.length:=by
  obtain⟨i,h1,h2⟩:=h.stop hz hj hc;refine lea_nat fun h3=>?_
  have:=lea_none h3 i h1
  grind
end
section
theorem Fra.num{D:Int}{X:Nat}{e:Rat}(h:Fra D X e)(hD:Den D X):e.num.natAbs<=X/\e.den<=X:=by
  obtain⟨M,hM,he⟩:=h
  have h1:e.num*D=M*(e.den:Int):=by
    have h2:e*((e.den:Int):Rat)=(e.num:Rat):=by
      have h:=Rat.num_divInt_den e;rw[Rat.divInt_eq_div]at h;have h0:((e.den:Int):Rat)≠0:=by have:=e.den_nz;exact_mod_cast this
      have h1:=Rat.div_mul_cancel (a:=(e.num:Rat)) h0
      rwa [h]at h1
    have h3:((e.num*D:Int):Rat)=((M*(e.den:Int):Int):Rat):=by
      rw[Rat.intCast_mul,Rat.intCast_mul, <-he, <-h2]
      grind
    exact Rat.intCast_inj.1 h3
  have h2:e.num.natAbs*D.natAbs=M.natAbs*e.den:=by
    have:=congrArg Int.natAbs h1
    rwa [Int.natAbs_mul,Int.natAbs_mul,Int.natAbs_natCast]at this
  have h3:e.den∣D.natAbs:=(Nat.Coprime.symm e.reduced).dvd_of_dvd_mul_left (h2▸Nat.dvd_mul_left _ _);obtain⟨t,ht⟩:=h3;have hd0:0<e.den:=e.den_pos;have hD0:0<D.natAbs:=Int.natAbs_pos.2 hD.nz;have ht0:0<t:=Nat.pos_of_ne_zero fun e0=>by subst e0;omega
  have h4:e.num.natAbs*t=M.natAbs:=by
    rw[ht]at h2;refine Nat.eq_of_mul_eq_mul_right hd0 ?_;rw[<-h2,Nat.mul_assoc,Nat.mul_comm t]
  have h5:=hD.le;constructor
  . have:e.num.natAbs<=e.num.natAbs*t:=Nat.le_mul_of_pos_right _ ht0;omega
  have:e.den<=e.den*t:=Nat.le_mul_of_pos_right _ ht0;omega
structure Sml(X:Nat)(s:LObj):Prop where
  rows:∀x∈s.T.rows,(∀c∈x.cs,c.num.natAbs<=X/\c.den<=X)/\x.r.num.natAbs<=X/\x.r.den<=X
  os:∀x∈s.os,(∀c∈x.cs,c.num.natAbs<=X/\c.den<=X)/\x.r.num.natAbs<=X/\x.r.den<=X
theorem LObj.Bd.sml{D:Int}{X:Nat}{s:LObj}(h:s.Bd D X):Sml X s:=
  ⟨fun x hx=>⟨fun c hc=>((h.rows x hx).cs c hc).num h.den,(h.rows x hx).r.num h.den⟩,fun x hx=>⟨fun c hc=>((h.os x hx).cs c hc).num h.den,(h.os x hx).r.num h.den⟩⟩
structure FrP(D:Int)(X:Nat)(P:LPd):Prop where
  den:Den D X
  c:∀e∈P.c,Fra D X e
  a:∀r∈P.A,∀e∈r,Fra D X e
  b:∀e∈P.b,Fra D X e
section
variable {D:Int}{X:Nat}{P:LPd}
theorem Fra.neg{e:Rat}(h:Fra D X e):Fra D X (0-e):=by
  obtain⟨M,h1,h2⟩:=h;exact⟨-M,by omega,by rw[Rat.intCast_neg, <-h2];grind⟩
theorem Fra.one(hD:Den D X):Fra D X 1:=⟨D,hD.le,by grind⟩
theorem Fra.getD{l:List Rat}(h:∀e∈l,Fra D X e)(k:Nat):Fra D X (l.getD k 0):=by
  cases e:l[k]? with
  |none=>rw[List.getD,e];exact Fra.zero D X
  |some c=>rw[getD_of e];exact h c (List.mem_of_getElem? e)
theorem getD_mem_nil{l:List (List Rat)}{k:Nat}{e:Rat}(h:e∈l.getD k []):∃r∈l,e∈r:=by
  cases q:l[k]? with
  |none=>rw[List.getD,q]at h;exact(List.not_mem_nil h).elim
  |some r=>rw[getD_of q]at h;exact⟨r,List.mem_of_getElem? q,h⟩
theorem FrP.init(h:FrP D X P):P.init.Bd D X:=by
  refine⟨h.den,fun x hx=>?_,fun x hx=>?_⟩
  . obtain⟨i,_,rfl⟩:=List.mem_map.1 (show x∈P.rows0 from hx);exact⟨Fra.getD h.b i,fun c hc=>by obtain⟨r,h1,h2⟩:=getD_mem_nil hc;exact h.a r h1 c h2⟩
  rw[List.mem_singleton.1 (show x∈[(⟨P.c.map fun x=>0-x,0⟩:LRow)]from hx)];refine⟨Fra.zero D X,fun c hc=>?_⟩;obtain⟨e,he,rfl⟩:=List.mem_map.1 hc;exact(h.c e he).neg
theorem FrP.initA(h:FrP D X P):P.initA.Bd D X:=by
  refine⟨h.den,fun x hx=>?_,fun x hx=>?_⟩
  . obtain⟨i,_,rfl⟩:=List.mem_map.1 (show x∈P.rowsA from hx);refine⟨Fra.getD h.b i,fun c hc=>?_⟩
    rcases List.mem_append.1 hc with hc|hc
    . obtain⟨r,h1,h2⟩:=getD_mem_nil hc;exact h.a r h1 c h2
    rw[List.mem_singleton.1 hc,show(-1:Rat)=0-1 by grind];exact(Fra.one h.den).neg
  rcases List.mem_cons.1 (show x∈[(⟨(P.c.map fun x=>0-x)++[0],0⟩:LRow),⟨List.replicate P.c.length 0++[1],0⟩]from hx)with rfl|hx
  . refine⟨Fra.zero D X,fun c hc=>?_⟩
    rcases List.mem_append.1 hc with hc|hc
    . obtain⟨e,he,rfl⟩:=List.mem_map.1 hc;exact(h.c e he).neg
    rw[List.mem_singleton.1 hc];exact Fra.zero D X
  rw[List.mem_singleton.1 hx];refine⟨Fra.zero D X,fun c hc=>?_⟩
  rcases List.mem_append.1 hc with hc|hc
  . rw[(List.mem_replicate.1 hc).2];exact Fra.zero D X
  rw[List.mem_singleton.1 hc];exact Fra.one h.den
theorem FrP.pos(h:FrP D X P):0<X:=by
  have h1:=h.den.le;have h2:=Int.natAbs_pos.2 h.den.nz;omega
theorem FrP.small(h:FrP D X P)(hP:P.Ok){n:Nat}(hn:P.A.length<=n\/P.c.length<=n){s:LObj}(hs:s.Ok)(ha:Alike s P.init):Sml (bdN n X) s:=by
  obtain⟨D',h1⟩:=Alike.small hP.init hs ha.symm h.init h.pos (n:=n) (by
    rcases hn with hn|hn
    . left;show(slk P.A.length).length<=n;rw[slk_len];exact hn
    right;show(cls P.A.length P.c.length).length<=n;rw[cls_len];exact hn)
  exact h1.sml
theorem FrP.smallA(h:FrP D X P)(hP:P.Ok){n:Nat}(hn:P.A.length<=n\/P.c.length+1<=n){s:LObj}(hs:s.Ok)(ha:Alike s P.initA):Sml (bdN n X) s:=by
  obtain⟨D',h1⟩:=Alike.small hP.initA hs ha.symm h.initA h.pos (n:=n) (by
    rcases hn with hn|hn
    . left;show(slk P.A.length).length<=n;rw[slk_len];exact hn
    right;show(cls P.A.length P.c.length++[-1]).length<=n;rw[List.length_append,cls_len];exact hn)
  exact h1.sml
end
end
section
def LPd.pre(P:LPd)(k:Nat):LPd:=⟨P.c.take k,P.A.map (·.take k),P.b⟩
def LTab.add(T:LTab)(vs:List Rat)(n:Int):LTab:=⟨T.rows.mapIdx fun i x=>⟨x.cs++[vs.getD i 0],x.r⟩,T.basic,T.free++[n]⟩
def LRow.add(g:LRow)(c:Rat):LRow:=⟨g.cs++[0-c],g.r⟩
def LPd.goal(P:LPd):LRow:=⟨P.c.map fun x=>0-x,0⟩
def colP(P:LPd)(k:Nat):List Rat:=P.A.map fun a=>a.getD k 0
section
variable {P:LPd}{k:Nat}
theorem pre_all(hP:P.Ok):P.pre P.c.length=P:=by
  unfold LPd.pre;rw[List.take_length]
  have:(P.A.map fun x=>x.take P.c.length)=P.A:=by
    refine(List.map_congr_left fun a ha=>?_).trans (List.map_id _);rw[<-hP.ha a ha,List.take_length];rfl
  rw[this]
theorem pre_A(i:Nat):(P.A.map fun x=>x.take k).getD i []=(P.A.getD i []).take k:=by
  rw[List.getD,List.getElem?_map,List.getD]
  cases P.A[i]?<;>simp
theorem take_getD{α:Type _}{l:List α}{d:α}(h:k<l.length):l.take (k+1)=l.take k++[l.getD k d]:=by
  rw[List.take_add_one,List.getD,List.getElem?_eq_getElem h];rfl
theorem pre_add(hP:P.Ok)(hk:k<P.c.length):(P.pre k).init.T.add (colP P k) ((P.A.length+k:Nat):Int)=(P.pre (k+1)).init.T:=by
  unfold LTab.add LPd.init LPd.rows0 LPd.pre;dsimp only;simp only[List.length_map,List.length_take,Nat.min_eq_left (Nat.le_of_lt hk),Nat.min_eq_left (show k+1<=P.c.length from hk)]
  have e1:(List.range P.A.length).map (fun i=>(⟨(P.A.map fun x=>x.take (k+1)).getD i [],P.b.getD i 0⟩:LRow))=((List.range P.A.length).map fun i=>(⟨(P.A.map fun x=>x.take k).getD i [],P.b.getD i 0⟩:LRow)).mapIdx fun i x=>⟨x.cs++[(colP P k).getD i 0],x.r⟩:=by
    refine List.ext_getElem? fun i=>?_
    rw[List.getElem?_mapIdx,List.getElem?_map,List.getElem?_map]
    by_cases hi:i<P.A.length
    . rw[List.getElem?_range hi];simp only[Option.map_some]
      have h1:(colP P k).getD i 0=(P.A.getD i []).getD k 0:=by
        have e1:(colP P k)[i]?=some ((P.A[i]).getD k 0):=by unfold colP;rw[List.getElem?_map,List.getElem?_eq_getElem hi];rfl
        have e2:P.A[i]?=some P.A[i]:=List.getElem?_eq_getElem hi;rw[getD_of e1,getD_of e2]
      rw[pre_A,pre_A,h1,take_getD (d:=0) (by rw[hP.row hi];exact hk)]
    rw[List.getElem?_eq_none (by simpa using hi)];rfl
  have e2:cls P.A.length (k+1)=cls P.A.length k++[((P.A.length+k:Nat):Int)]:=by
    unfold cls;rw[List.range_succ,List.map_append];rfl
  rw[e1,e2]
theorem goal_add(hk:k<P.c.length):(P.pre k).goal.add (P.c.getD k 0)=(P.pre (k+1)).goal:=by
  unfold LRow.add LPd.goal LPd.pre;dsimp only;rw[take_getD (d:=0) hk,List.map_append];rfl
theorem pre_zero:(P.pre 0).init.T=⟨(List.range P.A.length).map fun i=>⟨[],P.b.getD i 0⟩,slk P.A.length,[]⟩:=by
  unfold LPd.init LPd.rows0 LPd.pre;dsimp only;simp only[List.length_map,List.take_zero,List.length_nil]
  have e1:(List.range P.A.length).map (fun i=>(⟨(P.A.map fun x=>x.take 0).getD i [],P.b.getD i 0⟩:LRow))=(List.range P.A.length).map fun i=>⟨[],P.b.getD i 0⟩:=by
    refine List.map_congr_left fun i _=>?_
    rw[pre_A,List.take_zero]
  have e2:(P.A.map fun _=>([]:List Rat))=P.A.map fun x=>x.take 0:=List.map_congr_left fun x _=>by rw[List.take_zero]
  rw[e2,e1];rfl
theorem pre_goal0:(P.pre 0).goal=⟨[],0⟩:=by unfold LPd.goal LPd.pre;rw[List.take_zero];rfl
end
structure Trm where
  i:Nat
  v:Rat
def trmN(vs:List Rat):Nat->List Trm
  |0=>[]
  |k+1=>if vs.getD k 0=0 then trmN vs k else trmN vs k++[⟨k,vs.getD k 0⟩]
def valN(m:Nat)(ts:List Trm):List Rat:=ts.foldl (fun l t=>l.set t.i t.v) (List.replicate m 0)
theorem valN_len(m:Nat)(ts:List Trm):(valN m ts).length=m:=by
  have:∀(ts:List Trm) (l:List Rat),(ts.foldl (fun l t=>l.set t.i t.v) l).length=l.length:=fun ts=>by
    induction ts with
    |nil=>exact fun _=>rfl
    |cons t ts ih=>intro l;rw[List.foldl_cons,ih];simp
  unfold valN;rw[this];simp
theorem valN_snoc(m:Nat)(ts:List Trm)(t:Trm):valN m (ts++[t])=(valN m ts).set t.i t.v:=by unfold valN;rw[List.foldl_append];rfl
theorem valN_take{m k:Nat}{ts:List Trm}{t:Trm}(h:ts[k]?=some t):(valN m (ts.take k)).set t.i t.v=valN m (ts.take (k+1)):=by
  rw[List.take_add_one,h];exact(valN_snoc m _ t).symm
theorem trm_lt{vs:List Rat}{k:Nat}:∀t∈trmN vs k,t.i<k:=by
  induction k with
  |zero=>intro t h;exact(List.not_mem_nil h).elim
  | succ k ih=>
    intro t h;rw[trmN]at h
    split at h
    . exact Nat.lt_succ_of_lt (ih t h)
    rcases List.mem_append.1 h with h|h
    . exact Nat.lt_succ_of_lt (ih t h)
    rw[List.mem_singleton.1 h];exact Nat.lt_succ_self k
theorem trm_len{vs:List Rat}{k:Nat}:(trmN vs k).length<=k:=by
  induction k with
  |zero=>exact Nat.le_refl 0
  | succ k ih=>
    rw[trmN]
    split
    . omega
    rw[List.length_append];simp;omega
theorem trm_vals(vs:List Rat):∀k,k<=vs.length->valN vs.length (trmN vs k)=vs.take k++List.replicate (vs.length-k) 0:=by
  intro k
  induction k with
  |zero=>intro _;rfl
  | succ k ih=>
    intro hk;have h1:=ih (by omega)
    have h2:List.replicate (vs.length-k) (0:Rat)=0::List.replicate (vs.length-(k+1)) 0:=by
      rw[show vs.length-k=(vs.length-(k+1))+1 by omega,List.replicate_succ]
    have h3:vs.take (k+1)=vs.take k++[vs.getD k 0]:=by rw[List.take_add_one,List.getD,List.getElem?_eq_getElem (show k<vs.length by omega)];rfl
    rw[trmN]
    split
    . rename_i h0
      rw[h1,h2,h3,h0,List.append_assoc];rfl
    rw[valN_snoc,h1,h2,h3,List.set_append_right _ _ (by simp;omega)];simp[Nat.min_eq_left (show k<=vs.length by omega)]
theorem trm_all(vs:List Rat):valN vs.length (trmN vs vs.length)=vs:=by rw[trm_vals vs _ (Nat.le_refl _),List.take_length];simp
end
section
def updK(f:Nat->LRow->LRow)(rows:List LRow)(k:Nat):List LRow:=rows.mapIdx fun i x=>if i<k then f i x else x
section
variable {f:Nat->LRow->LRow}{rows:List LRow}{k:Nat}{y:LRow}
theorem updK_len:(updK f rows k).length=rows.length:=by simp[updK]
theorem updK_get(m:Nat):(updK f rows k)[m]?=rows[m]?.map fun x=>if m<k then f m x else x:=by unfold updK;simp[List.getElem?_mapIdx]
theorem updK_zero:updK f rows 0=rows:=by
  refine List.ext_getElem? fun m=>?_
  rw[updK_get]
  cases rows[m]?<;>simp
theorem updK_at:(updK f rows k)[k]?=rows[k]?:=by
  rw[updK_get]
  cases rows[k]?<;>simp
theorem updK_step(hy:rows[k]?=some y):(updK f rows k).set k (f k y)=updK f rows (k+1):=by
  refine List.ext_getElem? fun m=>?_
  by_cases e:k=m
  . subst e;rw[List.getElem?_set_self (by rw[updK_len];exact(List.getElem?_eq_some_iff.1 hy).1),updK_get,hy];simp
  rw[List.getElem?_set_ne e,updK_get,updK_get];have:(m<k+1)=(m<k):=by rw[eq_iff_iff];omega
  simp[this]
theorem updK_all(h:rows.length<=k):updK f rows k=rows.mapIdx f:=by
  refine List.ext_getElem? fun m=>?_
  rw[updK_get,List.getElem?_mapIdx]
  by_cases hm:m<rows.length
  . simp[show m<k by omega]
  rw[List.getElem?_eq_none (by omega)];rfl
end
theorem add_upd{T:LTab}{vs:List Rat}{n:Int}{k:Nat}(h:T.rows.length<=k):T.add vs n=⟨updK (fun i x=>⟨x.cs++[vs.getD i 0],x.r⟩) T.rows k,T.basic,T.free++[n]⟩:=by rw[updK_all h];rfl
theorem strike_upd{T:LTab}{j k:Nat}(h:T.rows.length<=k):T.strike j=⟨updK (fun _ x=>x.strike j) T.rows k,T.basic,T.free.eraseIdx j⟩:=by
  rw[updK_all h];unfold LTab.strike
  congr 1
  refine List.ext_getElem? fun m=>?_
  rw[List.getElem?_mapIdx,List.getElem?_map]
def WorstP(rs:List Rat)(k:Nat)(e:Int):Prop:=(e= -1/\ ∀i,i<k->0<=rs.getD i 0)\/ ∃m:Nat,e=(m:Int)/\m<k/\rs.getD m 0<0/\ ∀i,i<k->rs.getD m 0<=rs.getD i 0
section
variable {rs:List Rat}{k m:Nat}{e:Int}{x y:Rat}
theorem WorstP.zero:WorstP rs 0 (-1):=.inl ⟨rfl,fun i h=>absurd h (Nat.not_lt_zero i)⟩
theorem WorstP.case(h:WorstP rs k e):e= -1\/ ∃m:Nat,e=(m:Int)/\m<k:=by
  rcases h with⟨h,_⟩|⟨m,h1,h2,_⟩
  . exact .inl h
  exact .inr ⟨m,h1,h2⟩
theorem WorstP.pos(h:WorstP rs k e)(hx:rs[k]?=some x)(h0:0<=x):WorstP rs (k+1) e:=by
  rcases h with⟨h,h2⟩|⟨m,h1,h2,h3,h4⟩
  . refine .inl ⟨h,fun i hi=>?_⟩
    by_cases q:i=k
    . subst q;rw[getD_of hx];exact h0
    exact h2 i (by omega)
  refine .inr ⟨m,h1,by omega,h3,fun i hi=>?_⟩
  by_cases q:i=k
  . subst q;rw[getD_of hx];grind
  exact h4 i (by omega)
theorem WorstP.first(h:WorstP rs k (-1))(hx:rs[k]?=some x)(h0:x<0):WorstP rs (k+1) (k:Int):=by
  rcases h with⟨h,h2⟩|⟨m,h1,_⟩
  . refine .inr ⟨k,rfl,by omega,by rw[getD_of hx];exact h0,fun i hi=>?_⟩
    by_cases q:i=k
    . subst q;exact Rat.le_refl
    have:=h2 i (by omega);rw[getD_of hx];grind
  omega
theorem WorstP.less(h:WorstP rs k (m:Int))(hx:rs[k]?=some x)(hy:rs[m]?=some y)(h0:x<y):WorstP rs (k+1) (k:Int):=by
  rcases h with⟨h,_⟩|⟨m',h1,h2,h3,h4⟩
  . omega
  obtain rfl:m=m':=by omega
  rw[getD_of hy]at h3 h4;refine .inr ⟨k,rfl,by omega,by rw[getD_of hx];grind,fun i hi=>?_⟩
  by_cases q:i=k
  . subst q;exact Rat.le_refl
  have:=h4 i (by omega);rw[getD_of hx];grind
theorem WorstP.more(h:WorstP rs k (m:Int))(hx:rs[k]?=some x)(hy:rs[m]?=some y)(h0:¬x<y):WorstP rs (k+1) (m:Int):=by
  rcases h with⟨h,_⟩|⟨m',h1,h2,h3,h4⟩
  . omega
  obtain rfl:m=m':=by omega
  refine .inr ⟨m,rfl,by omega,h3,fun i hi=>?_⟩
  by_cases q:i=k
  . subst q;rw[getD_of hx,getD_of hy];exact Rat.not_lt.1 h0
  exact h4 i (by omega)
end
section
variable {P:LPd}{k:Nat}
theorem rows0_r(hP:P.Ok):P.init.T.rows.map (·.r)=P.b:=by
  rw[b_eq hP]
  show P.rows0.map _=_
  unfold LPd.rows0;rw[List.map_map];rfl
theorem worst_feas(_hP:P.Ok)(h:WorstP P.b P.A.length (-1)):P.init.T.Feas:=fun x hx=>by
  obtain⟨i,hi,rfl⟩:=List.mem_map.1 (show x∈P.rows0 from hx)
  rcases h with⟨_,h2⟩|⟨m,h1,_⟩
  . exact h2 i (List.mem_range.1 hi)
  omega
theorem worst_ph1(hP:P.Ok){m:Nat}(h:WorstP P.b P.A.length (m:Int)):m<P.A.length/\Ph1 P (P.initA.piv m P.c.length):=by
  rcases h with⟨h1,_⟩|⟨m',h1,h2,h3,h4⟩
  . omega
  obtain rfl:m=m':=by omega
  exact⟨h2,Ph1.start hP h2 h3 h4⟩
def LPd.zero(P:LPd):LRow:=⟨List.replicate P.c.length 0++[1],0⟩
theorem initA_add:P.initA.T=P.init.T.add (List.replicate P.A.length (-1)) (-1):=by
  unfold LTab.add LPd.initA LPd.init LPd.rowsA LPd.rows0;dsimp only
  congr 1
  refine List.ext_getElem? fun i=>?_
  rw[List.getElem?_mapIdx,List.getElem?_map,List.getElem?_map]
  by_cases hi:i<P.A.length
  . rw[List.getElem?_range hi];simp only[Option.map_some];have h1:(List.replicate P.A.length (-1:Rat)).getD i 0= -1:=getD_of (by rw[List.getElem?_replicate,if_pos hi]);rw[h1]
  rw[List.getElem?_eq_none (by simpa using hi)];rfl
theorem initA_os:P.initA.os=[P.goal.add 0,P.zero]:=by
  show[_,_]=_
  unfold LRow.add LPd.goal LPd.zero;rw[show(0:Rat)-0=0 by grind]
end
structure LimS(X:Nat)(P:LPd):Prop where
  i:∀s:LObj,s.Ok->Alike s P.init->Sml X s
  a:∀s:LObj,s.Ok->Alike s P.initA->Sml X s
theorem Ph1.lstep{P:LPd}{s:LObj}{g z:LRow}{i j:Nat}(h:Ph1 P s)(ho:s.os=[g,z])(hj:entN z.cs s.T.free z.cs.length=(j:Int))(hi:(leaN s.T.rows s.T.basic j s.T.rows.length).1=(i:Int)):
    Ph1 P (s.piv i j)/\(s.piv i j).os=[s.T.obj i j g,s.T.obj i j z]/\muS ⟨(s.piv i j).T,s.T.obj i j z⟩<muS ⟨s.T,z⟩:=by
  have hz:s.os[1]?=some z:=by rw[ho];rfl
  have hl:=h.lst hz;have hp:=pick_of hl hj hi;refine⟨h.next hp,by unfold LObj.piv;rw[ho];rfl,?_⟩;exact muS_lt hl (step_of hj hi)
end
section
theorem sml_lm{X k:Nat}{e:Rat}(h:e.num.natAbs<=X/\e.den<=X)(hX:X<B32^k):LmQ k e:=⟨Nat.lt_of_le_of_lt h.1 hX,Nat.lt_of_le_of_lt h.2 hX⟩
theorem getD_lt{cs:List Rat}{j:Nat}(h:j<cs.length):cs[j]?=some (cs.getD j 0):=by rw[List.getD,List.getElem?_eq_getElem h];rfl
structure LmG(k:Nat)(g:LRow):Prop where
  cs:LmL k g.cs
  r:LmQ k g.r
structure LmO(k:Nat)(s:LObj):Prop where
  t:LmT k s.T
  os:∀g∈s.os,LmG k g
theorem Sml.lm{X k:Nat}{s:LObj}(h:Sml X s)(hX:X<B32^k):LmO k s:=
  ⟨⟨fun y hy c hc=>sml_lm ((h.rows y hy).1 c hc) hX,fun y hy=>sml_lm (h.rows y hy).2 hX⟩,fun g hg=>⟨fun c hc=>sml_lm ((h.os g hg).1 c hc) hX,sml_lm (h.os g hg).2 hX⟩⟩
def LmK(k:Nat)(s:LSt):Prop:= ∀t,Rch s t->LmO k t.obj
theorem LmK.at{k:Nat}{s t:LSt}(h:LmK k s)(ht:Rch s t):LmT k t.T/\LmL k t.g.cs/\LmQ k t.g.r:=⟨(h t ht).t,((h t ht).os _ (List.mem_singleton.2 rfl)).cs,((h t ht).os _ (List.mem_singleton.2 rfl)).r⟩
theorem LmK.of{X k:Nat}{P:LPd}{s:LSt}(hL:LimS X P)(hX:X<B32^k)(hs:s.Ok)(ha:Alike s.obj P.init):LmK k s:=fun _ ht=>(hL.i _ (ht.ok hs).obj ((ht.alike hs).trans ha)).lm hX
theorem Rch.lens{s t:LSt}(h:Rch s t)(hs:s.Ok):t.T.basic.length=s.T.basic.length/\t.T.free.length=s.T.free.length:=⟨(h.alike hs).nb,(h.alike hs).nf⟩
theorem idx_from(x:Int):∀(xs:List Int) (i:Nat),(Lib.idxFrom xs x i= -1/\x∉xs)\/ ∃k:Nat,Lib.idxFrom xs x i=((i+k:Nat):Int)/\xs[k]?=some x
  |[],i=>.inl ⟨rfl,List.not_mem_nil⟩
  | z::zs,i=>by
    by_cases e:z=x
    . exact .inr ⟨0,by simp[Lib.idxFrom,e],by simp[e]⟩
    rcases idx_from x zs (i+1)with⟨h1,h2⟩|⟨k,h1,h2⟩
    . exact .inl ⟨by simp[Lib.idxFrom,e,h1],fun h=>by
        rcases List.mem_cons.1 h with h|h
        . exact e h.symm
        exact h2 h⟩
    refine .inr ⟨k+1,?_,by simpa using h2⟩;have:Lib.idxFrom (z::zs) x i=Lib.idxFrom zs x (i+1):=by simp[Lib.idxFrom,e]
    rw[this,h1];congr 1;omega
theorem idx_spec(x:Int)(xs:List Int):(Lib.idxOf xs x= -1/\x∉xs)\/ ∃i:Nat,Lib.idxOf xs x=(i:Int)/\xs[i]?=some x:=by
  rcases idx_from x xs 0 with h|⟨k,h1,h2⟩
  . exact .inl h
  exact .inr ⟨k,by rw[Lib.idxOf,h1,Nat.zero_add],h2⟩
theorem int_at{b n c:Nat}{t:TypeId}{p:Option Addr}{xs:List Int}{w:World}(h:OwV intK t b w (.slice p n c) xs):n=xs.length/\xs.length<=9223372036854775807/\(xs≠[]-> ∃g,p=some ⟨g,0,none⟩/\ ∀j,j<xs.length->w.cell? ⟨g,0+j,none⟩=some (.int .i64 (xs.getD j 0))):=by
  have hn:=h.slv.one0;have hle:=h.le;refine⟨hn,by omega,fun hne=>?_⟩;obtain⟨g,o,hp,_⟩:=h.slv.ptr (List.getElem?_eq_getElem (List.length_pos_iff.2 hne));obtain rfl:o=0:=h.off hp;subst hp;refine⟨g,rfl,fun j hj=>?_⟩;obtain⟨cs,h1,h2⟩:=h.slv.at (List.getElem?_eq_getElem hj);have h3:cs=[.int .i64 xs[j]]:=h2;have h4:=h1.2 0 _ (by rw[h3];rfl);rw[List.getD,List.getElem?_eq_getElem hj]
  simpa[intK]using h4
theorem index_int{b n c:Nat}{t:TypeId}{p:Option Addr}{xs:List Int}{w:World}(x:Int)(h:OwV intK t b w (.slice p n c) xs):Calls Tryz.prog 119 #[.slice p n c,.int .i64 x] w fun e w'=>e=.returned (.int .i64 (Lib.idxOf xs x))/\Below w.heap.size w w':=by
  obtain⟨hn,hb,hc⟩:=int_at h;subst hn
  by_cases hne:xs=[]
  . subst hne;exact(Tryz.slices_Index_int_empty p c x w).mono fun e w' ⟨h1,h2⟩=>⟨h1,h2▸Below.refl _ _⟩
  obtain⟨g,rfl,hc2⟩:=hc hne;refine(Tryz.slices_Index_int g 0 xs.length c xs x w (Nat.le_refl _) hb hc2).mono fun e w' ⟨h1,h2⟩=>⟨?_,h2▸Below.refl _ _⟩
  rwa [List.take_length]at h1
theorem contains_int{b n c:Nat}{t:TypeId}{p:Option Addr}{xs:List Int}{w:World}(x:Int)(h:OwV intK t b w (.slice p n c) xs):Calls Tryz.prog 90 #[.slice p n c,.int .i64 x] w fun e w'=>e=.returned (.bool (xs.contains x))/\Below w.heap.size w w':=by
  obtain⟨hn,hb,hc⟩:=int_at h;subst hn
  by_cases hne:xs=[]
  . subst hne;exact(Tryz.slices_Contains_int_empty p c x w).mono fun e w' ⟨h1,h2⟩=>⟨h1,h2▸Below.refl _ _⟩
  obtain⟨g,rfl,hc2⟩:=hc hne;refine(Tryz.slices_Contains_int g 0 xs.length c xs x w (Nat.le_refl _) hb hc2).mono fun e w' ⟨h1,h2⟩=>⟨?_,h2▸Below.refl _ _⟩
  rwa [List.take_length]at h1
def nzN(xs:List Rat):Nat->Int
  |0=> -1
  |k+1=>if nzN xs k= -1 then(if xs.getD k 0=0 then-1 else(k:Int))else nzN xs k
section
variable {xs:List Rat}{k m:Nat}{x:Rat}
theorem nz_zero(h:nzN xs k= -1)(hx:xs[k]?=some x)(h0:x=0):nzN xs (k+1)= -1:=by rw[nzN,if_pos h,getD_of hx,if_pos h0]
theorem nz_yes(h:nzN xs k= -1)(hx:xs[k]?=some x)(h0:x≠0):nzN xs (k+1)=(k:Int):=by rw[nzN,if_pos h,getD_of hx,if_neg h0]
theorem nz_stay(h:nzN xs k=(m:Int)):∀d,nzN xs (k+d)=(m:Int)
  |0=>h
  | d+1=>by
    have ih:=nz_stay h d;rw[<-Nat.add_assoc,nzN,ih,if_neg (by omega)]
theorem nz_end(h:nzN xs k= -1)(hx:xs[k]?=some x)(h0:x≠0):nzN xs xs.length=(k:Int):=by
  have hk:=(List.getElem?_eq_some_iff.1 hx).1;have:=nz_stay (nz_yes h hx h0) (xs.length-(k+1))
  rwa [show k+1+(xs.length-(k+1))=xs.length by omega]at this
theorem nz_spec(xs:List Rat):∀k,(nzN xs k= -1/\ ∀i,i<k->xs.getD i 0=0)\/ ∃m:Nat,m<k/\nzN xs k=(m:Int)/\xs.getD m 0≠0
  |0=>.inl ⟨rfl,fun i h=>absurd h (Nat.not_lt_zero i)⟩
  | k + 1=>by
    rcases nz_spec xs k with⟨h1,h2⟩|⟨m,h1,h2,h3⟩
    . by_cases h0:xs.getD k 0=0
      . refine .inl ⟨by rw[nzN,if_pos h1,if_pos h0],fun i hi=>?_⟩
        by_cases e:i=k
        . rw[e];exact h0
        exact h2 i (by omega)
      exact .inr ⟨k,by omega,by rw[nzN,if_pos h1,if_neg h0],h0⟩
    exact .inr ⟨m,by omega,by rw[nzN,h2,if_neg (by omega)],h3⟩
theorem nz_some{j:Nat}(hj:j<xs.length)(h:xs.getD j 0≠0):∃m:Nat,nzN xs xs.length=(m:Int)/\m<xs.length/\xs.getD m 0≠0:=by
  rcases nz_spec xs xs.length with⟨_,h2⟩|⟨m,h1,h2,h3⟩
  . exact absurd (h2 j hj) h
  exact⟨m,h2,h1,h3⟩
end
theorem idx_ge{xs:List Int}{x z:Int}(h:Lib.idxOf xs x=z)(h0:0<=z):∃i:Nat,z=(i:Int)/\xs[i]?=some x:=by
  rcases idx_spec x xs with⟨h1,_⟩|⟨i,h1,h2⟩
  . rw[h1]at h;omega
  exact⟨i,by rw[<-h,h1],h2⟩
theorem idx_lt{xs:List Int}{x z:Int}(h:Lib.idxOf xs x=z)(h0:z<0):x∉xs:=by
  rcases idx_spec x xs with⟨_,h2⟩|⟨i,h1,_⟩
  . exact h2
  rw[h1]at h;omega
theorem idx_in{xs:List Int}{x:Int}(h:x∈xs):∃i:Nat,Lib.idxOf xs x=(i:Int)/\xs[i]?=some x:=by
  rcases idx_spec x xs with⟨_,h2⟩|h2
  . exact absurd h h2
  exact h2
section
variable {P:LPd}{T:LTab}{s:LObj}{g z:LRow}{i j:Nat}
theorem Ph1.art_in(h:Ph1 P s)(hb:(-1:Int)∉s.T.basic):(-1:Int)∈s.T.free:=by
  have h1:(-1:Int)∈s.T.basic++s.T.free:=(h.al.mem (-1)).2 (List.mem_append_right _ (by show(-1:Int)∈cls _ _++[-1];simp));exact(List.mem_append.1 h1).resolve_left hb
theorem piv_notin(h:((s.piv i j).T).Ok)(hb:s.T.basic[i]?=some (-1))(hj:j<s.T.free.length):(-1:Int)∉(s.piv i j).T.basic:=fun hm=>by
  refine h.apart hm ?_
  show(-1:Int)∈s.T.free.set j (s.T.basic.getD i 0)
  rw[getD_of hb];exact mem_set_self hj
theorem Ph1.free_len(h:Ph1 P s):s.T.free.length=P.c.length+1:=by rw[h.al.nf,initA_free]
theorem Ph1.rows_len(h:Ph1 P s):s.T.rows.length=P.A.length:=by
  rw[<-h.ok.ok.nb,h.al.nb]
  show(slk _).length=_
  exact slk_len _
theorem Ph1.row_ne(h:Ph1 P s){y:LRow}(hy:y∈s.T.rows):y.cs.length=P.c.length+1:=by rw[h.ok.ok.cl y hy,h.free_len]
theorem Ph1.lst_strike(hP:P.Ok)(h:Ph1 P s)(hg:s.os[0]?=some g)(hj:s.T.free[j]?=some (-1)):(⟨s.T.strike j,g.strike j⟩:LSt).Ok/\Alike (⟨s.T.strike j,g.strike j⟩:LSt).obj P.init:=by
  obtain⟨h1,h2,h3⟩:=h.strike hP hg hj;exact⟨⟨h1.ok,h3,h1.len _ (List.mem_singleton.2 rfl)⟩,h2⟩
end
structure LimP(P:LPd):Prop where
  b:LmL 300 P.b
  i:(∀i,i<P.A.length->0<=P.b.getD i 0)->LmK 300 ⟨P.init.T,P.goal⟩
  a:(∃i,P.b.getD i 0<0)-> ∃X,X<B32^300/\LimS X P
section
variable {P:LPd}{m:Nat}{T:LTab}{g z:LRow}
theorem init_lst(hP:P.Ok)(h:WorstP P.b P.A.length (-1)):(⟨P.init.T,P.goal⟩:LSt).Ok:=⟨hP.init.ok,worst_feas hP h,hP.init.len _ (List.mem_singleton.2 rfl)⟩
theorem worst_none(h:WorstP P.b P.A.length (-1)):∀i,i<P.A.length->0<=P.b.getD i 0:=by
  rcases h with⟨_,h2⟩|⟨m,h1,_⟩
  . exact h2
  omega
theorem worst_neg(h:WorstP P.b P.A.length (m:Int)):∃i,P.b.getD i 0<0:=by
  rcases h with⟨h1,_⟩|⟨m',h1,h2,h3,_⟩
  . omega
  exact⟨m',h3⟩
theorem init_rl(P:LPd):P.init.T.rows.length=P.A.length:=by simp[LPd.init,LPd.rows0]
theorem init_bl(P:LPd):P.init.T.basic.length=P.A.length:=slk_len _
theorem init_fl(P:LPd):P.init.T.free.length=P.c.length:=cls_len _ _
theorem goal_len(P:LPd):P.goal.cs.length=P.c.length:=by simp[LPd.goal]
theorem init_row(hP:P.Ok){y:LRow}(hy:y∈P.init.T.rows):y.cs.length=P.c.length:=(hP.init.ok.cl y hy).trans (init_fl P)
theorem zero_cs(P:LPd):(List.replicate (P.c.length+1) (0:Rat)).set P.c.length ((1:Int):Rat)=P.zero.cs:=by
  show _=List.replicate P.c.length 0++[1]
  rw[List.replicate_succ',List.set_append_right _ _ (by simp)];simp
theorem goal_add0(P:LPd):(⟨P.goal.cs++[0],P.goal.r⟩:LRow)=P.goal.add 0:=by
  unfold LRow.add;rw[show(0:Rat)-0=0 by grind]
theorem start_piv(P:LPd)(m:Nat):P.initA.piv m P.c.length=⟨P.initA.T.pivot m P.c.length,[P.initA.T.obj m P.c.length (P.goal.add 0),P.initA.T.obj m P.c.length P.zero]⟩:=by
  unfold LObj.piv;rw[initA_os];rfl
theorem Ph1.inf_case(hP:P.Ok)(h:Ph1 P ⟨T,[g,z]⟩)(hr:z.r<0)(hc:(-1:Int)∉T.basic\/entN z.cs T.free z.cs.length<0):InfC P (pricesL T.rows.length T.free z.cs):=by
  rw[h.rows_len]
  rcases hc with hc|hc
  . have:=h.out (z:=z) rfl hc
    grind
  exact h.infeasible hP (z:=z) rfl (ent_none (s:=⟨T,z⟩) hc) hr
theorem notin_of{xs:List Int}(h:xs.contains (-1)=false):(-1:Int)∉xs:=fun hm=>by
  have:=List.contains_iff_mem.2 hm;rw[h]at this;cases this
end
def T0(bs:List Rat):LTab:=⟨(List.range bs.length).map fun i=>⟨[],bs.getD i 0⟩,slk bs.length,[]⟩
theorem slk_snoc(k:Nat):slk k++[(k:Int)]=slk (k+1):=by unfold slk;rw[List.range_succ,List.map_append];rfl
section
variable {P:LPd}{k:Nat}
theorem pre_T0(hP:P.Ok):(P.pre 0).init.T=T0 P.b:=by rw[pre_zero,T0,hP.hb]
theorem pre_rl(P:LPd)(k:Nat):(P.pre k).init.T.rows.length=P.A.length:=by rw[init_rl];simp[LPd.pre]
theorem pre_bas(P:LPd)(k:Nat):(P.pre k).init.T.basic=slk (P.pre k).init.T.rows.length:=by rw[init_rl];rfl
theorem pre_fre(hk:k<=P.c.length):(P.pre k).init.T.free=cls (P.pre k).init.T.rows.length k:=by
  rw[init_rl]
  show cls (P.pre k).A.length (P.pre k).c.length=_
  rw[show(P.pre k).c.length=k by simp[LPd.pre];omega]
theorem pre_gl(hk:k<=P.c.length):(P.pre k).goal.cs.length=k:=by rw[goal_len];simp[LPd.pre];omega
theorem pre_ok(hP:P.Ok):(P.pre k).Ok:=⟨by simp[LPd.pre,hP.hb],fun a ha=>by
  obtain⟨x,hx,rfl⟩:=List.mem_map.1 ha;simp[LPd.pre,hP.ha x hx]⟩
theorem pre_row(hP:P.Ok)(hk:k<=P.c.length):∀y∈(P.pre k).init.T.rows,y.cs.length=k:=fun y hy=>by
  rw[init_row (pre_ok hP) hy];simp[LPd.pre];omega
theorem colP_len(P:LPd)(k:Nat):(colP P k).length=P.A.length:=by simp[colP]
theorem trm_no{vs:List Rat}{i:Nat}(h:vs.getD i 0=0):trmN vs i=trmN vs (i+1):=by rw[trmN,if_pos h]
theorem trm_yes{vs:List Rat}{i:Nat}{x:Rat}(hx:vs.getD i 0=x)(h:x≠0):trmN vs i++[⟨i,x⟩]=trmN vs (i+1):=by rw[trmN,hx,if_neg h]
theorem col_at{a:List Rat}{x:Rat}{i:Nat}(ha:P.A[i]?=some a)(hx:a[k]?=some x):(colP P k).getD i 0=x:=by
  have e1:(colP P k)[i]?=some (a.getD k 0):=by unfold colP;rw[List.getElem?_map,ha];rfl
  rw[getD_of e1,getD_of hx]
theorem vld_dims(h:vldP P=true):1<=P.c.length/\P.c.length<=1024/\P.A.length<=1024:=by
  unfold vldP vldH at h;simp only[Bool.and_eq_true,decide_eq_true_eq]at h;omega
theorem cert_inf{Y:List Rat}(h:InfC P Y):CertR P ⟨2,[],Y,[],0⟩:=.inr (.inl ⟨rfl,h,rfl,rfl,rfl⟩)
variable {s t:LSt}
theorem end_dims(hs:s.Ok)(ha:Alike s.obj P.init)(hr:Rch s t):t.Ok/\Alike t.obj P.init/\t.T.rows.length=P.A.length/\t.T.free.length=P.c.length/\t.T.basic.length=P.A.length:=by
  have h1:=(hr.alike hs).trans ha;have h2:=hr.ok hs;have e1:t.T.basic.length=P.A.length:=h1.nb.trans (init_bl P);have e2:t.T.free.length=P.c.length:=h1.nf.trans (init_fl P);exact⟨h2,h1,h2.ok.nb.symm.trans e1,e2,e1⟩
theorem end_lt(ha:Alike t.obj P.init)(n:Int)(hn:n∈t.T.basic\/n∈t.T.free):n<(P.A.length:Int)+(P.c.length:Int):=by
  have q:=(ha.mem n).1 (List.mem_append.2 hn)
  rcases List.mem_append.1 q with q|q
  . have:=(mem_slk.1 q).2;omega
  exact(mem_cls.1 q).2
theorem cert_opt(hP:P.Ok)(ht:t.Ok)(ha:Alike t.obj P.init)(he:entN t.g.cs t.T.free t.g.cs.length<0):CertR P ⟨1,pointL P.A.length P.c.length t.T,pricesL P.A.length t.T.free t.g.cs,[],t.g.r⟩:=
  .inl ⟨rfl,optimal_of hP ht.obj ha rfl ht.feas (ent_none he),rfl⟩
theorem cert_unb(ht:t.Ok)(ha:Alike t.obj P.init){j:Nat}(he:entN t.g.cs t.T.free t.g.cs.length=(j:Int))(hl:(leaN t.T.rows t.T.basic j t.T.rows.length).1<0):CertR P ⟨3,pointL P.A.length P.c.length t.T,[],rayL P.A.length P.c.length t.T j,0⟩:=by
  obtain⟨h1,h2⟩:=ent_some he;exact .inr (.inr ⟨rfl,unbounded_of ht.obj ha rfl ht.feas (show j<t.T.free.length by rw[<-ht.len];exact h1) h2 (lea_none hl),rfl,rfl⟩)
end
end
section
structure TbS where
  r:Sl
  b:Sl
  f:Sl
  g:Rw4
  rs:List Rw4
instance :Nonempty TbS:=⟨⟨⟨none,0,0⟩,⟨none,0,0⟩,⟨none,0,0⟩,default,[]⟩⟩
instance :Nonempty LSt:=⟨⟨⟨[],[],[]⟩,⟨[],0⟩⟩⟩
instance :Nonempty Rw4:=⟨default⟩
def tbL(R nc:Nat)(z:TbS)(s:LSt):List Ft:=
  [cF (z.rs.length=s.T.rows.length),bx R (.cells #[.slice z.r.p z.r.l z.r.c,.slice z.b.p z.b.l z.b.c,.slice z.f.p z.f.l z.f.c,.slice z.g.s.p z.g.s.l z.g.s.c,.bool z.g.n,.slice z.g.y.p z.g.y.l z.g.y.c,.slice z.g.z.p z.g.z.l z.g.z.c,.int .i64 (nc:Int)] 151),
    rO rw4K 149 z.r.p z.r.l z.r.c z.rs,rO intK 3 z.b.p z.b.l z.b.c s.T.basic,rO intK 3 z.f.p z.f.l z.f.c s.T.free,fmF 70 z.rs s.T.rows [],rO ratK 70 z.g.s.p z.g.s.l z.g.s.c s.g.cs,qF z.g.q s.g.r]
theorem tb_ln{R nc:Nat}{z:TbS}{s:LSt}:∀f∈tbL R nc z s,∀n,f.ln.contains n=true->[0].contains n=true:=fun f hf n hn=>by
  unfold tbL at hf;simp only[List.mem_cons,List.not_mem_nil,or_false]at hf
  rcases hf with rfl|rfl|rfl|rfl|rfl|rfl|rfl|rfl<;>first|exact hn|cases hn
def tbF(R nc:Nat)(z:TbS)(s:LSt):Ft:=stF [0] (tbL R nc z s) tb_ln
section
variable {V w:World}{l:List Ft}{R nc:Nat}{z:TbS}{s:LSt}{i j:Nat}
theorem SS.tb:SS V (tbF R nc z s::l) w↔SS V (tbL R nc z s++l) w:=SS.star
theorem SS.tbN(h:SS V (tbF R nc z s::l) w):z.rs.length=s.T.rows.length:=(SS.tb.1 h).get m0
def TbS.L(R nc:Nat)(z:TbS):Lns:=plG R z.r z.b z.f (nc:Int)
theorem piv_row{T:LTab}(hi:i<T.rows.length):(T.pivot i j).rows[i]?=some ((T.rows.getD i default).scale j):=by
  rw[pivot_rows,row_getD hi,Option.map_some,if_pos rfl]
theorem entg_any(w V:World)(l:List Ft)(h:SS V (tbF R nc z s::l) w)(hok:s.Ok)(hlf:s.T.free.length<=100000):
    Calls Tryz.prog 91 #[.pointer (some ⟨R,0,none⟩),.pointer (some ⟨R,3,none⟩)] w fun e w'=>e=.returned (.int .i64 (entN s.g.cs s.T.free s.g.cs.length))/\Below w.heap.size w w':=by
  have k:=SS.tb.1 h;exact ent_any w (z.L R nc) (k.box m1) (k.box m1) (k.slv m4) (k.slv m6) (Nat.le_of_eq hok.len) hlf
theorem leat_any(w V:World)(l:List Ft)(h:SS V (tbF R nc z s::l) w)(hok:s.T.Ok)(hj:j<s.T.free.length)(hm:LmT 300 s.T)(hlb:s.T.basic.length<=100000)(hlf:s.T.free.length<=100000):
    Calls Tryz.prog 92 #[.pointer (some ⟨R,0,none⟩),.int .i64 (j:Int)] w fun e w'=>e=.returned (.int .i64 (leaN s.T.rows s.T.basic j s.T.rows.length).1)/\Below w.heap.size w w':=by
  have k:=SS.tb.1 h;exact lea_any w j (k.box m1) (k.slv m2) (k.slv m3) (k.fmV m5 (k.get m0)) (fun y hy=>by rw[hok.cl y hy];exact hj) (Nat.le_of_eq hok.nb.symm) hlb hm fun y hy=>by rw[hok.cl y hy];exact hlf
theorem piv1_any(w V:World)(l:List Ft){G:Nat}(h:SS V (tbF R nc z s::bx G (.cells #[.pointer (some ⟨R,3,none⟩)] 152)::l) w)(hz1:OkA 1 l)(hz:OkA 2 l)(hz3:OkA 3 l)(hi:i<s.T.rows.length)(hj:j<s.T.free.length)(hok:s.T.Ok)(hgl:s.g.cs.length=s.T.free.length)(hm:LmO 300 s.obj)(hn:LmO 300 (s.next i j).obj)(hfn:s.T.free.length<=100000)(hrn:s.T.rows.length<=100000):
    Calls Tryz.prog 89 #[.pointer (some ⟨R,0,none⟩),.int .i64 (i:Int),.int .i64 (j:Int),.slice (some ⟨G,0,none⟩) 1 1] w fun e w'=> ∃z':TbS,e=.returned (.tuple #[])/\SS V (tbF R nc z' (s.next i j)::l) w':=by
  have hrl:z.rs.length=s.T.rows.length:=h.tbN;have h2:SS V (bx G (.cells ([(⟨R,3⟩:Duo Nat Nat)].map adV).toArray 152)::tbL R nc z s++l) w:=(SS.tb.1 h).up8;have h3:SS V (glF 70 []::rO adK 152 (some ⟨G,0,none⟩) 1 1 [⟨R,3⟩]::(tbL R nc z s).tail++l) w:=SS.star.2 ((h2.adR (by simp)).subl (sK2 (sC2 (sR))));have hx:=List.mem_of_getElem? (piv_row (j:=j) hi);refine(pivot_any w V i j (l:=l) (T:=s.T) (g:=s.g) (zs:=[]) h3.up8.up8.up8.up8.up8.up8.up8 hz1 hz hz3 hi hj hok hrl hm.t hfn hrn hgl (hm.os _ (List.mem_singleton.2 rfl)).cs (hm.os _ (List.mem_singleton.2 rfl)).r (fun a ha=>absurd ha List.not_mem_nil) (by simp) rfl (hn.t.cs _ hx) (hn.t.r _ hx)).mono fun e w' ⟨y,e1,h4⟩=>?_
  have h5:=(h4.subl (sK2 (sK2 (sK2 (sK2 (sK2 (sK2 (sK2 (sC2 (sC2 (sR))))))))))).fact (cF (y.rs.length=(s.T.pivot i j).rows.length)) ((h4.get m8).1.trans (by simp[LTab.pivot]));exact⟨⟨z.r,z.b,z.f,⟨z.g.s,y.g.n,y.g.y,y.g.z⟩,y.rs⟩,e1,SS.tb.2 h5⟩
theorem piv2_any(w V:World)(l:List Ft){G:Nat}{L:Lns}{x:Rw4}{y:LRow}(h:SS V (tbF R nc z s::L.f x::rO ratK 70 x.s.p x.s.l x.s.c y.cs::qF x.q y.r::bx G (.cells #[.pointer (some ⟨R,3,none⟩),.pointer (some ⟨L.g,L.o,none⟩)] 152)::l) w)(hz1:OkA 1 l)(hz:OkA 2 l)(hz3:OkA 3 l)(hi:i<s.T.rows.length)(hj:j<s.T.free.length)(hok:s.T.Ok)(hgl:s.g.cs.length=s.T.free.length)(hyl:y.cs.length=s.T.free.length)(hm:LmO 300 ⟨s.T,[s.g,y]⟩)(hn:LmO 300 (LObj.piv ⟨s.T,[s.g,y]⟩ i j))(hfn:s.T.free.length<=100000)(hrn:s.T.rows.length<=100000):
    Calls Tryz.prog 89 #[.pointer (some ⟨R,0,none⟩),.int .i64 (i:Int),.int .i64 (j:Int),.slice (some ⟨G,0,none⟩) 2 2] w fun e w'=> ∃a:Duo TbS Rw4,e=.returned (.tuple #[])/\SS V (tbF R nc a.a (s.next i j)::L.f a.b::rO ratK 70 a.b.s.p a.b.s.l a.b.s.c (s.T.obj i j y).cs::qF a.b.q (s.T.obj i j y).r::l) w':=by
  have hrl:z.rs.length=s.T.rows.length:=h.tbN;have h2:SS V (bx G (.cells ([(⟨R,3⟩:Duo Nat Nat),⟨L.g,L.o⟩].map adV).toArray 152)::L.f x::rO ratK 70 x.s.p x.s.l x.s.c y.cs::qF x.q y.r::tbL R nc z s++l) w:=(SS.tb.1 h).up11.up11.up11.up11.up3;have h3:SS V (glF 70 [⟨L,x,y⟩]::rO adK 152 (some ⟨G,0,none⟩) 2 2 [⟨R,3⟩,⟨L.g,L.o⟩]::(tbL R nc z s).tail++l) w:=SS.glC.2 (SS.star.2 (((h2.adR (by simp)).subl (sK2 (sK2 (sK2 (sK2 (sC2 (sR))))))).up3.up3.up3)).up3.up3.up3;have hx:=List.mem_of_getElem? (piv_row (j:=j) hi);have hy:=hm.os y (List.mem_cons_of_mem _ (List.mem_singleton.2 rfl));have hg:=hm.os s.g (List.mem_cons_self ..);refine(pivot_any w V i j (l:=l) (T:=s.T) (g:=s.g) (zs:=[⟨L,x,y⟩]) h3.up8.up8.up8.up8.up8.up8.up8 hz1 hz hz3 hi hj hok hrl hm.t hfn hrn hgl hg.cs hg.r (fun a ha=>by rw[List.mem_singleton.1 ha];exact⟨hyl,hy.cs,hy.r⟩) (by simp) rfl (hn.t.cs _ hx) (hn.t.r _ hx)).mono fun e w' ⟨a,e1,h4⟩=>?_
  obtain⟨q1,q2⟩:=h4.get m8;obtain⟨x',_,_,hzs,hr⟩:=GsR.cons (gs:=[]) q2 (by simp);obtain rfl:=List.eq_nil_of_length_eq_zero (hr.1.trans rfl);rw[hzs]at h4;have h5:=(h4.subl (sK2 (sK2 (sK2 (sK2 (sK2 (sK2 (sK2 (sK2 (sC2 (sR))))))))))).fact (cF (a.rs.length=(s.T.pivot i j).rows.length)) (q1.trans (by simp[LTab.pivot]));have h6:=(SS.glC.1 h5.up8).subl (sK2 (sK2 (sK2 (sC2 (sR)))));have h7:=h6.up10.up10.up10.up10.up10.up10.up10.up10;exact⟨⟨⟨z.r,z.b,z.f,⟨z.g.s,a.g.n,a.g.y,a.g.z⟩,a.rs⟩,x'⟩,e1,SS.tb.2 h7⟩
end
end
section
section
variable {P:Program}{V:World}{ops:Array Oper}{Q:Act->World->Prop}{f0 fs fs':List Ft}{ks:List Nat}{o:Oper}{rest:List Oper}{a a':Act}{t:TypeId}
theorem eAppK{α:Type}{K:EK α}[OwnK K](m0:Nat)(hd:∀{w cs x u},K.R w cs x->cs[0]?=some u->rkV u=m0)(hno:(OwnK.S (K:=K)).contains m0=false){q p:Option Addr}{n d m c bytes:Nat}{tt uu u':TypeId}{xs ys:List α}{z:Value}{s x:Operand}{a2:Sl->Act}{fs2:Sl->List Ft}(i:Nat)(he:xs=[]->q=none)(hi:fs[i]?=some (rO K t q n d xs))(hinf:(P.info? t).map (fun i=>(i.zero,i.size,i.bytes))=some (some z,K.sz,bytes))(hsrc:∀w,SS V fs w->SlV K w (.slice p m c) ys)(h63:xs.length+ys.length<=1000000000)(h:∀y,Sx P V ops Q f0 ks rest (fs2 y) (a2 y))(hf:∀y:Sl,fs.set i (rO K t y.p y.l y.c (xs++ys))=fs2 y:=by intro y;(simp only[pB,pC])<;>exact rfl)(hs:∀x,f0.Sublist (fs2 x):=by exact fun _=>List.nil_sublist _)(hq:OkL m0 i fs:=by repeat (first|exact trivial|(show OkA _ _;assumption)|refine⟨rfl,?_⟩))
    (ho:o.op=.call {callee:=.builtin .append,args:=#[s,x],argTypes:=#[tt,uu]}:=by rfl) (ht:P.underlying tt=some (.slice t):=by first|rfl|kernel_rfl) (hu:P.underlying uu=some (.slice u'):=by first|rfl|kernel_rfl) (hzs:z.cells.size=K.sz:=by rfl) (hbz:bytes<=100000:=by decide) (hes:a.eval s=.slice q n d:=by rfl) (hex:a.eval x=.slice p m c:=by rfl) (hg:Wants ops o a:=by first|exact wants0 rfl|exact wantsg rfl rfl rfl rfl) (ha:∀y:Sl,a.put o.dst (.slice y.p y.l y.c)=a2 y:=by intro x;(simp only[mkOf,Act.put,pA,pB,pC,pD,pE])<;>exact rfl):Sx P V ops Q f0 (5::ks) (o::rest) fs a:=
  sxG (α:=Sl) (g:=fun y=>.slice y.p y.l y.c) (f2:=fun y=>rO K t y.p y.l y.c (xs++ys)) (b:=ob q) hi (fun R h=>h) (fun w k=>qtN (OwV.hd' k he hd) hq) (fun y=>by rw[hf];exact hs y) hg (fun w hw k=>by
    refine(app_doesS (u':=u') ho ht hu hinf hzs hes hex (by simp[maxLen];omega) (Nat.le_trans (Nat.mul_le_mul h63 hbz) (by decide)) k (fun g hg=>.inr ((OwV.hd' k he hd g hg).no hno)) (hsrc w hw)).mono fun u w' ⟨y,e1,e2,e3,e4⟩=>⟨y,e1,e2,e3,e4⟩) fun y=>by rw[hf,ha];exact h y
end
theorem rw4K_hd{w:World}{cs:List Value}{x:Rw4}{u:Value}(h:rw4K.R w cs x)(hu:cs[0]?=some u):rkV u=3:=by cases h;cases hu;rfl
theorem intK_hd{w:World}{cs:List Value}{x:Int}{u:Value}(h:intK.R w cs x)(hu:cs[0]?=some u):rkV u=1:=by cases h;cases hu;rfl
def trK:EK Trm where
  sz:=4
  pos:=by decide
  R:=fun w cs x=> ∃a b d,cs=[.int .i64 (x.i:Int),a,b,d]/\RatV w (.agg #[a,b,d]) x.v
  len:=fun⟨_,_,_,e,_⟩=>by rw[e];rfl
  one:=fun⟨a,b,d,e,h⟩ u hu=>by
    obtain⟨rfl,⟨_,_,_,rfl⟩,_,_,_,rfl⟩:=ratV_cells' h;subst e;simp only[List.mem_cons,List.not_mem_nil,or_false]at hu
    rcases hu with rfl|rfl|rfl|rfl<;>rfl
  below:=fun⟨a,b,d,e,h⟩ hb=>⟨a,b,d,e,h.below hb⟩
theorem trK_hd{w:World}{cs:List Value}{x:Trm}{u:Value}(h:trK.R w cs x)(hu:cs[0]?=some u):rkV u=1:=by
  obtain⟨a,b,c,rfl,h⟩:=h
  cases hu;rfl
instance :OwnK trK:=⟨[0],fun⟨a,b,c,e,h⟩ hg w1 h2 h3 w2 h4=>⟨a,b,c,e,rat_spare h hg w1 h2 h3 w2 h4⟩,.inr ⟨1,rfl,trK_hd⟩⟩
theorem infoT:(Tryz.prog.info? 113).map (fun i=>(i.zero,i.size,i.bytes))=some (some (.agg #[.int .i64 0,.bool false,.slice none 0 0,.slice none 0 0]),trK.sz,64):=by kernel_rfl
theorem SlV.trm{w:World}{g o n c i:Nat}{sh:List Trm}{x:Trm}(h:SlV trK w (.slice (some ⟨g,o,none⟩) n c) sh)(hx:sh[i]?=some x):∃a b d,w.cell? ⟨g,o+i*4,none⟩=some (.int .i64 (x.i:Int))/\w.cell? ⟨g,o+i*4+1,none⟩=some a/\w.cell? ⟨g,o+i*4+2,none⟩=some b/\w.cell? ⟨g,o+i*4+3,none⟩=some d/\RatV w (.agg #[a,b,d]) x.v:=by
  obtain⟨cs,h1,a,b,d,rfl,h3⟩:=h.at hx;exact⟨a,b,d,h1.2 0 _ rfl,h1.2 1 _ rfl,h1.2 2 _ rfl,h1.2 3 _ rfl,h3⟩
section
variable {P:Program}{V:World}{ops:Array Oper}{Q:Act->World->Prop}{f0 fs fs':List Ft}{ks:List Nat}{o:Oper}{rest:List Oper}{a a':Act}{t:TypeId}
theorem eRt{g n c j:Nat}{xs:List Trm}{q:Trm}{a2:Duo Sl Sl->Act}(hm:rO trK t (some ⟨g,0,none⟩) n c xs∈fs)(hx:xs[j]?=some q)(h:∀x:Duo Sl Sl,Sx P V ops Q f0 ks rest (qF (.agg #[.bool (isN q.v),.slice x.a.p x.a.l x.a.c,.slice x.b.p x.b.l x.b.c]) q.v::fs) (a2 x))(hg:Wants ops o a:=by first|exact wants0 rfl|exact wantsg rfl rfl rfl rfl)
    (h1:∀w v0 v1 v2,w.cell? ⟨g,j*4,none⟩=some (.int .i64 (q.i:Int))->w.cell? ⟨g,j*4+1,none⟩=some v0->w.cell? ⟨g,j*4+2,none⟩=some v1->w.cell? ⟨g,j*4+3,none⟩=some v2->Flt (.agg #[.int .i64 (q.i:Int),v0,v1,v2]) w ((execOp a.eval o).run P w):=by intro w' v0 v1 v2 c0 c1 c2 c3;go_simp;(try go_bits);exact⟨rfl,rfl⟩) (ha:∀x:Duo Sl Sl,a.put o.dst (.agg #[.int .i64 (q.i:Int),.bool (isN q.v),.slice x.a.p x.a.l x.a.c,.slice x.b.p x.b.l x.b.c])=a2 x:=by intro x;(simp only[mkOf,Act.put,pA,pB,pC,pD,pE])<;>exact rfl):Sx P V ops Q f0 (2::ks) (o::rest) fs a:=
  sx2 (α:=Duo Sl Sl) (f:=fun x=>.agg #[.int .i64 (q.i:Int),.bool (isN q.v),.slice x.a.p x.a.l x.a.c,.slice x.b.p x.b.l x.b.c]) (l':=fun x=>[qF (.agg #[.bool (isN q.v),.slice x.a.p x.a.l x.a.c,.slice x.b.p x.b.l x.b.c]) q.v]) hg (fun w hw=>by
    obtain⟨v0,v1,v2,c0,c1,c2,c3,hr⟩:=(hw.own hm).slv.trm hx;rw[Nat.zero_add]at c0 c1 c2 c3;have hf:=h1 w v0 v1 v2 c0 c1 c2 c3;obtain⟨rfl,⟨p,l,d,rfl⟩,p',l',d',rfl⟩:=ratV_cells' hr;exact Flt.does ⟨⟨⟨p,l,d⟩,⟨p',l',d'⟩⟩,rfl,(SS.start w).fact (qF _ _) hr⟩ hf) fun x=>by rw[ha];exact h x
end
def colC(vs:List Rat)(b:Int):Rat:=if 0<=b then vs.getD b.toNat 0 else 0
theorem colC_neg{vs:List Rat}{b:Int}(h:b<0):colC vs b=0:=if_neg (by omega)
theorem colC_at{vs:List Rat}{k:Nat}{x:Rat}(h:vs[k]?=some x):colC vs (k:Int)=x:=by
  rw[colC,if_pos (by omega),Int.toNat_natCast,getD_of h]
theorem colC_out{vs:List Rat}{b:Int}(h:(vs.length:Int)<=b):colC vs b=0:=by
  rw[colC,if_pos (by omega),List.getD_eq_getElem?_getD,List.getElem?_eq_none (by omega)];rfl
end
section
def refK:EK Rat where
  sz:=3
  pos:=by decide
  R:=fun w cs x=> ∃a b d,cs=[a,b,d]/\RefR w (.agg #[a,b,d]) x
  len:=fun⟨_,_,_,e,_⟩=>by rw[e];rfl
  one:=fun⟨a,b,d,e,h⟩ u hu=>by
    obtain⟨rfl,⟨_,_,_,rfl⟩,_,_,_,rfl⟩:=refR_cells h;subst e;simp only[List.mem_cons,List.not_mem_nil,or_false]at hu
    rcases hu with rfl|rfl|rfl<;>rfl
  below:=fun⟨a,b,d,e,h⟩ hb=>⟨a,b,d,e,h.below hb⟩
theorem refK_hd{w:World}{cs:List Value}{x:Rat}{u:Value}(h:refK.R w cs x)(hu:cs[0]?=some u):rkV u=2:=by
  obtain⟨a,b,c,rfl,h⟩:=h;obtain⟨rfl,_⟩:=refR_cells h
  cases hu;rfl
instance :OwnK refK:=⟨[1],fun⟨a,b,c,e,h⟩ hg w1 h2 h3 w2 h4=>⟨a,b,c,e,refr_spare h hg w1 h2 h3 w2 h4⟩,.inr ⟨2,rfl,refK_hd⟩⟩
theorem SlV.ref{w:World}{g o n c i:Nat}{sh:List Rat}{x:Rat}(h:SlV refK w (.slice (some ⟨g,o,none⟩) n c) sh)(hx:sh[i]?=some x):∃a b d,C3 w g (o+i*3) a b d/\RefR w (.agg #[a,b,d]) x:=by
  obtain⟨cs,h1,a,b,d,rfl,h3⟩:=h.at hx;exact⟨a,b,d,⟨h1.1,h1.2 0 _ rfl,h1.2 1 _ rfl,h1.2 2 _ rfl⟩,h3⟩
instance :HdK refK:=⟨2,refK_hd⟩
abbrev rfK:EK (List Rat):=slK refK
section
variable {α:Type}{K:EK α}[OwnK K]{V w:World}{l:List Ft}{tt t:TypeId}{p:Option Addr}{n c:Nat}{ss:List Sl}{xss:List (List α)}{s:Sl}{xs:List α}
def rsL(K:EK α)[OwnK K](t:TypeId)(ss:List Sl)(xss:List (List α)):List Ft:=List.zipWith (fun s xs=>rO K t s.p s.l s.c xs) ss xss
theorem rs_ln:∀f∈rsL K t ss xss,∀n,f.ln.contains n=true->(EK.S K).contains n=true:=fun f hf n hn=>by
  unfold rsL at hf;rw[List.mem_iff_getElem?]at hf;obtain⟨i,hi⟩:=hf;rw[List.getElem?_zipWith]at hi
  split at hi
  . cases hi;exact hn
  cases hi
def rsF(K:EK α)[OwnK K](t:TypeId)(ss:List Sl)(xss:List (List α)):Ft:=stF (EK.S K) (rsL K t ss xss) rs_ln
theorem SS.rs0(h:SS V l w)(K:EK α)[OwnK K](t:TypeId):SS V (rsF K t [] []::l) w:=SS.star.2 h
theorem SS.rsN(h:SS V (rO K t s.p s.l s.c xs::rsF K t ss xss::l) w)(hl:ss.length=xss.length):SS V (rsF K t (ss++[s]) (xss++[xs])::l) w:=by
  have h2:=SS.star.1 h.up1;refine SS.star.2 ?_
  have e:rsL K t (ss++[s]) (xss++[xs])=rsL K t ss xss++[rO K t s.p s.l s.c xs]:=by
    unfold rsL;rw[List.zipWith_append hl];rfl
  rw[e,List.append_assoc];exact h2
theorem rsV_of{w:World}(h1:OwV slcK tt 0 w (.slice p n c) ss)(h2:(rsF K t ss xss).F w)(hl:ss.length=xss.length):SlV (slK K) w (.slice p n c) xss:=by
  have hr:∀(i:Nat) (s:Sl) (xs:List α),ss[i]?=some s->xss[i]?=some xs->OwV K t 0 w (.slice s.p s.l s.c) xs:=fun i s xs e1 e2=>
    h2.1 (rO K t s.p s.l s.c xs) (List.mem_of_getElem? (i:=i) (by unfold rsL;rw[List.getElem?_zipWith,e1,e2]))
  obtain⟨css,h3,h4⟩:=h1.slv;refine⟨css,⟨h3.len.trans hl,fun i cs xs e1 e2=>?_⟩,h4.imp (fun e=>?_) fun e=>?_⟩
  . have hi:i<ss.length:=by rw[hl];exact(List.getElem?_eq_some_iff.1 e2).1
    have h5:cs=[.slice ss[i].p ss[i].l ss[i].c]:=h3.el i cs _ e1 (List.getElem?_eq_getElem hi);rw[h5];exact(hr i _ xs (List.getElem?_eq_getElem hi) e2).toR
  . exact⟨List.eq_nil_of_length_eq_zero (by rw[<-hl,e.1];rfl),e.2⟩
  obtain⟨g,o,c',e1,e2,e3,e4,e5⟩:=e;exact⟨g,o,c',by rw[<-hl];exact e1,e2,by rw[<-hl];exact e3,e4,e5⟩
end
end
section
set_option maxRecDepth 100000 in
set_option maxHeartbeats 400000 in
theorem max_any(w V:World){R nc:Nat}{z:TbS}{s:LSt}(l:List Ft)(hK:SS V ((tbF R nc z s)::l) w)(tz1:OkA 1 l)(tz2:OkA 2 l)(tz3:OkA 3 l)(hs:s.Ok)(hL:LmK 300 s)(hlb:s.T.basic.length<=100000)(hlf:s.T.free.length<=100000):
    Calls Tryz.prog 62 #[.pointer (some ⟨R,0,none⟩)] w fun e w'=> ∃a:Duo (Duo Bool LSt) TbS,e=.returned (.bool a.a.a)/\SS V (tbF R nc a.b a.a.b::cF (Rch s a.a.b/\(a.a.a=true->entN a.a.b.g.cs a.a.b.T.free a.a.b.g.cs.length<0)/\(a.a.a=false-> ∃j:Nat,entN a.a.b.g.cs a.a.b.T.free a.a.b.g.cs.length=(j:Int)/\(leaN a.a.b.T.rows a.a.b.T.basic j a.a.b.T.rows.length).1<0))::l) w':=by
  refine Calls.hide (fun Q0 hQ0=>?_);go_enter Tryz.func62,Tryz.ntmps62;go_wp2_with fail;go_loopg [] (muS s) (fun gk0 wl=> ∃(t:LSt) (z:TbS),Hid (Rch s t)/\Hid (gk0=muS t)/\SS V ((tbF R nc z t)::l) wl)
  case atStart=>exact⟨s,z,hid (Rch.refl s),hid rfl,hK⟩
  clear hK;obtain⟨t,z,h_t,hgk1,hK⟩:=hrel;generalize wr=W2 at hK⊢;have ht:=h_t;go_upto_region 1 with(fail);refine wp_region_T [0,0,0,0,1,0] hK ?_;clear hK
  iterate 4 refine e0 ?_
  obtain⟨z1,hz1⟩:=nmI (entN t.g.cs t.T.free t.g.cs.length);refine eQ (v:=.int .i64 z1) (fun w k=>entg_any w _ _ k (h_t.out.ok hs) (by rw[(h_t.out.lens hs).2];exact hlf)) ?_ (hv:=by rw[hz1.out]);refine e0 ?_;refine sxEnd (fun W3 hK=>?_);go_upto_region 2 with(fail);refine wp_region_T [0,0] hK ?_;clear hK;refine e0 ?_;refine eB (decide (z1<0)) (fun b1 hb1=>?_);refine sxEnd (fun W4 hK=>?_)
  cases b1
  . --
   have q_b1:=nlt hb1;obtain⟨j,rfl⟩:∃j:Nat,z1=(j:Int):=Int.eq_ofNat_of_zero_le q_b1;have hok:=ht.out.ok hs;have hen:=hid (ent_some (s:=t) hz1.out);have hlm:=hid (hL _ ht.out);have hln:=hid (ht.out.lens hs);have hjf:=hid (Nat.lt_of_lt_of_eq hen.out.1 hok.len);go_upto_region 4 with(fail);refine wp_region_T [0,0,1,0] hK ?_;clear hK
   iterate 2 refine e0 ?_
   obtain⟨z2,hz2⟩:=nmI ((leaN t.T.rows t.T.basic j t.T.rows.length).1);refine eQ (v:=.int .i64 z2) (fun w k=>leat_any w _ _ (j:=j) k hok.ok hjf.out hlm.out.t (by rw[hln.out.1];exact hlb) (by rw[hln.out.2];exact hlf)) ?_ (hv:=by rw[hz2.out]);refine e0 ?_;refine sxEnd (fun W5 hK=>?_);go_upto_region 5 with(fail);refine wp_region_T [0,0] hK ?_;clear hK;refine e0 ?_;refine eB (decide (z2<0)) (fun b2 hb2=>?_);refine sxEnd (fun W6 hK=>?_)
   cases b2
   . --
    have q_b2:=nlt hb2;obtain⟨i,rfl⟩:∃i:Nat,z2=(i:Int):=Int.eq_ofNat_of_zero_le q_b2;have hp:=hid (pick_of hok hz1.out hz2.out);have hnx:=hid (step_of hz1.out hz2.out);have hr2:=hid (ht.out.step hnx.out);go_upto_region 7 with(fail);refine wp_region_T [0,0,0,0,0,0,3,4] hK ?_;clear hK
    iterate 6 refine e0 ?_
    refine eA (.cells #[.pointer (some ⟨R,3,none⟩)] 152) (fun R7=>?_);refine eM (fun w k=>piv1_any w _ _ k.up1 tz1 tz2 tz3 hp.out.hi hjf.out hok.ok hok.len hlm.out (hL _ hr2.out) (by rw[hln.out.2];exact hlf) (by rw[<-hok.ok.nb,hln.out.1];exact hlb)) (fun x8=>?_);refine sxEnd (fun W9 hK=>?_)
    (try go_wp2)
    go_roundg (muS (t.next i j))
    case measure=>rw[hgk1.out];exact muS_lt hok hnx.out
    case rel=>exact⟨t.next i j,x8,hid hr2.out,hid rfl,hK⟩
   have q_b2:=ylt hb2;go_wp2
   try go_ret
   show Q0 (.returned (.bool false)) _
   exact(by obtain rfl:=hQ0.out;have hc:Rch s t/\(false=true->entN t.g.cs t.T.free t.g.cs.length<0)/\(false=false-> ∃j:Nat,entN t.g.cs t.T.free t.g.cs.length=(j:Int)/\(leaN t.T.rows t.T.basic j t.T.rows.length).1<0):=⟨ht.out,(fun e=>by cases e),(fun _=>⟨j,hz1.out,by rw[hz2.out];exact q_b2⟩)⟩;exact⟨⟨⟨false,t⟩,z⟩,rfl,(hK.fact (cF _) hc).up1⟩)
  have q_b1:=ylt hb1;go_wp2
  try go_ret
  show Q0 (.returned (.bool true)) _
  exact(by obtain rfl:=hQ0.out;have hc:Rch s t/\(true=true->entN t.g.cs t.T.free t.g.cs.length<0)/\(true=false-> ∃j:Nat,entN t.g.cs t.T.free t.g.cs.length=(j:Int)/\(leaN t.T.rows t.T.basic j t.T.rows.length).1<0):=⟨ht.out,(fun _=>by rw[hz1.out];exact q_b1),(fun e=>by cases e)⟩;exact⟨⟨⟨true,t⟩,z⟩,rfl,(hK.fact (cF _) hc).up1⟩)
end
section
theorem put_cells(R:Nat):∀(cs:List Value) (o:Nat) (w:World),w.setCells R o cs=putAt R o cs w
  |[],_,_=>rfl
  |c::cs,o,w=>put_cells R cs (o+1) (w.setCell ⟨R,o,none⟩ c)
theorem put_app(R:Nat):∀(cs ds:List Value) (o:Nat) (w:World),putAt R o (cs++ds) w=putAt R (o+cs.length) ds (putAt R o cs w)
  |[],_,_,_=>rfl
  | c::cs,ds,o,w=>by
    show putAt R (o+1) (cs++ds) (w.setCell ⟨R,o,none⟩ c)=_
    rw[put_app R cs ds (o+1)]
    show _=putAt R (o+(cs.length+1)) ds (putAt R (o+1) cs (w.setCell ⟨R,o,none⟩ c))
    rw[show o+1+cs.length=o+(cs.length+1) by omega]
section
variable {α:Type}{K:EK α}[OwnK K]{t:TypeId}{base g n c:Nat}
theorem OwV.puts:∀(ys:List α) (dss:List (List Value)) (k:Nat) (xs:List α) (w:World),OwV K t base w (.slice (some ⟨g,0,none⟩) n c) xs->Els K w dss ys->k+ys.length<=xs.length->
    OwV K t base (putAt g (k*K.sz) dss.flatten w) (.slice (some ⟨g,0,none⟩) n c) (xs.take k++ys++xs.drop (k+ys.length))
  | [],dss,k,xs,w,h,hd,_=>by
    obtain rfl:dss=[]:=List.eq_nil_of_length_eq_zero (by rw[hd.len];rfl)
    simpa[putAt]using h
  | y ::ys,dss,k,xs,w,h,hd,hk=>by
    simp only[List.length_cons]at hk
    obtain⟨d,dss',rfl⟩:∃d ds,dss=d::ds:=by
      cases dss with
      |nil=>have:=hd.len;simp at this
      |cons d ds=>exact⟨d,ds,rfl⟩
    have hr:K.R w d y:=hd.el 0 d y rfl rfl;have hd':Els K w dss' ys:=⟨by have:=hd.len;simpa using this,fun i cs x h1 h2=>hd.el (i+1) cs x (by simpa using h1) (by simpa using h2)⟩;have hn:=h.noInt (List.ne_nil_of_length_pos (by omega)) (g:=g) rfl;have h1:=h.put hr (show k<xs.length by omega) _ (Below.refl _ _)
    have hd1:Els K (putAt g (k*K.sz) d w) dss' ys:=by
      rcases hn with hf|hn
      . exact hd'.free hf
      exact Spares.put (hd'.spare hn) (k*K.sz) d _ (Below.refl _ _)
    have ih:=OwV.puts ys dss' (k+1) (xs.set k y) _ h1 hd1 (by rw[List.length_set];omega);rw[List.flatten_cons,put_app,K.len hr, <-Nat.succ_mul]
    have e:(xs.set k y).take (k+1)++ys++(xs.set k y).drop (k+1+ys.length)=xs.take k++y::ys++xs.drop (k+(ys.length+1)):=by
      rw[List.drop_set,if_pos (by omega),List.take_succ_eq_append_getElem (by rw[List.length_set];omega),List.getElem_set_self,List.take_set_of_le (Nat.le_refl k),show k+1+ys.length=k+(ys.length+1) by omega];simp
    rw[e]at ih;exact ih
theorem drop_flat{sz:Nat}(css:List (List Value))(h:∀cs∈css,cs.length=sz)(k:Nat):(css.drop k).flatten=css.flatten.drop (k*sz):=by
  have e2:css.flatten=(css.take k).flatten++(css.drop k).flatten:=by rw[<-List.flatten_append,List.take_append_drop]
  by_cases hk:k<=css.length
  . have e3:(css.take k).flatten.length=k*sz:=by
      rw[flat_len (sz:=sz) _ (fun x hx=>h x (List.mem_of_mem_take hx)),List.length_take,Nat.min_eq_left hk]
    rw[e2, <-e3,List.drop_left]
  rw[List.drop_eq_nil_of_le (by omega),List.drop_eq_nil_of_le (by rw[flat_len css h];exact Nat.mul_le_mul_right _ (by omega))];rfl
theorem OwV.cut{xs:List α}{w:World}{css:List (List Value)}{zs:List Value}{z:α}{j:Nat}(h:OwV K t base w (.slice (some ⟨g,0,none⟩) n c) xs)(he:Els K w css xs)(hj:j<xs.length)(hz:∀w',K.R w' zs z):
    OwV K t base (putAt g ((xs.length-1)*K.sz) zs (putAt g (j*K.sz) (css.flatten.drop ((j+1)*K.sz)) w)) (.slice (some ⟨g,0,none⟩) (xs.length-1) c) (xs.eraseIdx j):=by
  have h1:=OwV.puts (xs.drop (j+1)) (css.drop (j+1)) j xs w h (he.drop (j+1)) (by rw[List.length_drop];omega);rw[drop_flat css he.sizes]at h1;have e0:(xs.take j++xs.drop (j+1)++xs.drop (j+(xs.drop (j+1)).length)).length=xs.length:=by simp;omega
  have h2:=h1.put (k:=xs.length-1) (hz _) (by rw[e0];omega) _ (Below.refl _ _);have h3:=OwV.take (m:=xs.length-1) h2 (by rw[List.length_set,e0];omega)
  have e1:((xs.take j++xs.drop (j+1)++xs.drop (j+(xs.drop (j+1)).length)).set (xs.length-1) z).take (xs.length-1)=xs.eraseIdx j:=by
    rw[List.take_set_of_le (Nat.le_refl _),List.take_append_of_le_length (by simp;omega),List.eraseIdx_eq_take_drop_succ,List.take_of_length_le (by simp;omega)]
  rw[e1]at h3;exact h3
end
theorem grow_trans2{w w1 w2:World}{r:Option Nat}(h:w.grownBy w1 r)(h':w1.grownBy w2 r):w.grownBy w2 r:=⟨h'.os.trans h.os,h'.tape.trans h.tape,h'.output.trans h.output,Nat.le_trans h.size h'.size,fun k hk hne=>(h'.block k (Nat.lt_of_lt_of_le hk h.size) hne).trans (h.block k hk hne)⟩
theorem drew_grown(w:World)(n:Nat)(r:Option Nat):w.grownBy (w.drewN n) r:=⟨rfl,rfl,rfl,Nat.le_refl _,fun _ _ _=>rfl⟩
theorem drew_below(w:World)(n:Nat):Below w.heap.size w (w.drewN n):=⟨rfl,rfl,rfl,Nat.le_refl _,fun _ _=>rfl⟩
structure DelRes{α:Type}(K:EK α)(t:TypeId)(b g c j:Nat)(xs:List α)(w:World)(e:Ending)(w':World):Prop where
  e:e=.returned (.slice (some ⟨g,0,none⟩) (xs.eraseIdx j).length c)
  own:OwV K t b w' (.slice (some ⟨g,0,none⟩) (xs.eraseIdx j).length c) (xs.eraseIdx j)
  grown:w.grownBy w' (some g)
theorem own_cells{α:Type}{K:EK α}{t:TypeId}{b g n c:Nat}{w:World}{xs:List α}(h:OwV K t b w (.slice (some ⟨g,0,none⟩) n c) xs):∃css,Els K w css xs/\n=xs.length/\ ∀j u,css.flatten[j]?=some u->w.cell? ⟨g,j,none⟩=some u:=by
  obtain⟨css,h1,h2⟩:=h;refine⟨css,h1,?_⟩
  rcases h2.2 with⟨e,h0⟩|⟨g',cap,cur,e,hb',hg,hc1,hc2,hsz,ht⟩
  . cases e
  injection e with e1 e2 e3
  injection e1 with e1
  injection e1 with e1 _ _
  subst e1;subst e2;subst e3;refine⟨rfl,fun j u hu=>?_⟩;have hj:=(List.getElem?_eq_some_iff.1 hu).1;rw[<-ht]at hu
  have hcur:cur[j]?=some u:=by
    rw[List.getElem?_take]at hu
    split at hu
    . simpa using hu
    cases hu
  simp[World.cell?,hg,hcur]
theorem int_flat:∀xs:List Int,(xs.map fun x=>[Value.int .i64 x]).flatten=xs.map (Value.int .i64)
  |[]=>rfl
  |x::xs=>by simp only[List.map_cons,List.flatten_cons,int_flat xs];rfl
theorem int_els(w:World)(xs:List Int):Els intK w (xs.map fun x=>[Value.int .i64 x]) xs:=⟨by simp,fun i cs x h1 h2=>by
  rw[List.getElem?_map,h2]at h1
  cases h1;rfl⟩
theorem delete_int{b g n c j:Nat}{xs:List Int}{w:World}(h:OwV intK 3 b w (.slice (some ⟨g,0,none⟩) n c) xs)(hj:j<xs.length):
    Calls Tryz.prog 123 #[.slice (some ⟨g,0,none⟩) n c,.int .i64 (j:Int),.int .i64 ((j+1:Nat):Int)] w (DelRes intK 3 b g c j xs w):=by
  obtain⟨css,he,hn,hc⟩:=own_cells h;have hle:=h.le
  have hcs:css=xs.map fun x=>[.int .i64 x]:=by
    refine List.ext_getElem? fun i=>?_
    rw[List.getElem?_map]
    by_cases hi:i<xs.length
    . have h1:css[i]?=some (css[i]'(by rw[he.len];exact hi)):=List.getElem?_eq_getElem _;have h2:=he.el i _ _ h1 (List.getElem?_eq_getElem hi);rw[h1,List.getElem?_eq_getElem hi];exact congrArg some h2
    rw[List.getElem?_eq_none (by rw[he.len];omega),List.getElem?_eq_none (by omega)];rfl
  refine(Tryz.slices_Delete_int_cells g 0 n c j (j+1) xs w (by omega) (by omega) (by omega) (by omega) (by omega) (fun i hi=>?_) (fun i _=>?_)).mono ?_
  . rw[Nat.zero_add];refine hc i _ ?_;rw[hcs,int_flat,List.getElem?_map,List.getElem?_eq_getElem hi,List.getD,List.getElem?_eq_getElem hi];rfl
  . exact h.fz _
  rintro e w' ⟨rfl,q,rfl⟩
  have hd:=h.below (drew_below w q);have hlen:(xs.eraseIdx j).length=xs.length-1:=List.length_eraseIdx_of_lt hj;have h1:=OwV.puts (xs.take j++xs.drop (j+1)++[0]) _ 0 xs (w.drewN q) hd (int_els _ _) (by simp;omega);have hyl:(xs.take j++xs.drop (j+1)++[(0:Int)]).length=xs.length:=by simp;omega
  rw[int_flat,Nat.zero_mul, <-put_cells,List.take_zero,List.nil_append,hyl,Nat.zero_add,List.drop_length,List.append_nil]at h1;have h3:=OwV.take (m:=xs.length-1) h1 (by rw[hyl];omega)
  have e1:(xs.take j++xs.drop (j+1)++[0]).take (xs.length-1)=xs.eraseIdx j:=by
    rw[List.take_append_of_le_length (by simp;omega),List.eraseIdx_eq_take_drop_succ,List.take_of_length_le (by simp;omega)]
  rw[e1]at h3
  have e2:(xs.take n).take j++(xs.take n).drop (j+1)++List.replicate (j+1-j) 0=xs.take j++xs.drop (j+1)++[0]:=by
    rw[hn,List.take_length,show j+1-j=1 by omega];rfl
  refine⟨by rw[hlen,hn,show j+1-j=1 by omega],?_,?_⟩
  . rw[e2,hlen];exact h3
  rw[put_cells];exact grow_trans2 (drew_grown w q _) (put_grown ..)
theorem clear_one{P:Program}(w:World)(t e ty:TypeId)(z:Value)(zs:List Value)(ht:P.underlying t=some (.slice e))(hv:∀w,(zeroValue e).run P w=.ok z w)(hz:z.cells=zs.toArray)(h1:∀u∈zs,u.oneCell'=true)(b o c:Nat)
    (hc:∀j,j<zs.length->(w.cell? ⟨b,o+j,none⟩).isSome=true) (hf:∀j,j<zs.length->w.frozen? ⟨b,o+j,none⟩=false):
    (Builtin.clear_ #[t] ty #[.slice (some ⟨b,o,none⟩) 1 c]).run P w=.ok (.tuple #[]) (w.setCells b o zs):=by
  have hzc:(Builtin.zeroCells z.cells 1).toList=zs:=by
    rw[hz];simp[Builtin.zeroCells];apply List.ext_getElem
    . simp
    intro i h1 h2;simp[Nat.mod_eq_of_lt h2,h2]
  have hst:=run_storeCells_cells (P:=P) b o zs 0 w (by simpa using hc) (by simpa using hf) h1;simp only[Nat.add_zero]at hst;simp[Builtin.clear_,run_underlying ht,hv,hzc,hst]
end
section
set_option maxHeartbeats 4000000 in
set_option maxRecDepth 1000000 in
theorem delete_rat{b g n c j:Nat}{xs:List Rat}{w:World}(h:OwV ratK 70 b w (.slice (some ⟨g,0,none⟩) n c) xs)(hj:j<xs.length):
    Calls Tryz.prog 122 #[.slice (some ⟨g,0,none⟩) n c,.int .i64 (j:Int),.int .i64 ((j+1:Nat):Int)] w (DelRes ratK 70 b g c j xs w):=by
  obtain⟨css,he,hn,hc⟩:=own_cells h;have hle:=h.le;obtain⟨k,hk⟩:∃k,Hid (j+1=k):=⟨_,hid rfl⟩;have hkj:=hk.out;rw[hkj];have hfz:=h.fz;have hfl:css.flatten.length=xs.length*3:=by rw[flat_len css he.sizes,he.len];rfl
  have hones:=he.ones;obtain⟨news,hnews⟩:∃news,news=css.flatten.drop (k*3):=⟨_,rfl⟩;have hlen:news.length=(xs.length-k)*3:=by rw[hnews,List.length_drop,hfl,Nat.sub_mul]
  obtain⟨A,hA,hsrc⟩:∃A:Addr,(if c=k then some (⟨g,0,none⟩:Addr)else some ⟨g,k*3,none⟩)=some A/\Hid (∀t u,news[t]?=some u->w.drew.cell? (A.add t)=some u):=by
    by_cases hcj:c=k
    . refine⟨⟨g,0,none⟩,by simp[hcj],hid fun t u hu=>?_⟩;have h0:news.length=0:=by rw[hlen];omega
      rw[List.length_eq_zero_iff.1 h0]at hu;simp at hu
    refine⟨⟨g,k*3,none⟩,by simp[hcj],hid fun t u hu=>?_⟩;rw[hnews,List.getElem?_drop]at hu;have hadd:(⟨g,k*3,none⟩:Addr).add t=⟨g,k*3+t,none⟩:=by unfold Addr.add;split<;>simp_all
    rw[hadd];exact hc _ _ hu
  have s1:Hid (news.length=(xs.length-k)*3):=hid hlen;have s2:Hid (∀u∈news,u.oneCell'=true):=hid fun u hu=>hones u (by rw[hnews]at hu;exact List.mem_of_mem_drop hu)
  have s3:Hid (∀t,t<news.length->(w.drew.cell? ⟨g,0+j*3+t,none⟩).isSome=true/\w.drew.frozen? ⟨g,0+j*3+t,none⟩=false):=hid fun t ht=>by
    rw[hlen]at ht;have hlt:j*3+t<css.flatten.length:=by rw[hfl];omega
    rw[Nat.zero_add];exact⟨by show(w.cell? _).isSome=true;rw[hc _ _ (List.getElem?_eq_getElem hlt)];rfl,hfz _⟩
  have hnw:=hid hnews;subst hn;obtain⟨W1,hW1⟩:∃W1,W1=w.drew.setCells g (0+j*3) news:=⟨_,rfl⟩;have hW:Hid (W1=w.drew.setCells g (0+j*3) news):=hid hW1;have hjk:j<k:=by omega
  have hkn:k<=xs.length:=by omega
  have hO:OwV ratK 70 b w.drew (.slice (some ⟨g,0,none⟩) xs.length c) xs:=h.below (drew_below w 1);have hE:Els ratK w.drew css xs:=he.below (drew_below w 1);have hO1:=OwV.puts (xs.drop k) (css.drop k) j xs w.drew hO (hE.drop k) (by rw[List.length_drop];omega);rw[drop_flat css he.sizes,show ratK.sz=3 from rfl, <-hnews, <-put_cells, <-Nat.zero_add (j*3), <-hW1]at hO1;have hy:(xs.take j++xs.drop k++xs.drop (j+(xs.drop k).length)).length=xs.length:=by simp;omega
  have hcl:∀ty,(Builtin.clear_ #[56] ty #[.slice (some ⟨g,(j+(xs.length-k))*3,none⟩) (xs.length-(j+(xs.length-k))) (c-(j+(xs.length-k)))]).run Tryz.prog W1=.ok (.tuple #[]) (W1.setCells g ((j+(xs.length-k))*3) [.bool false,.slice none 0 0,.slice none 0 0]):=fun ty=>by
    obtain⟨css1,hE1,_,hc1⟩:=own_cells hO1;rw[show xs.length-(j+(xs.length-k))=1 by omega];refine clear_one W1 _ _ ty _ [.bool false,.slice none 0 0,.slice none 0 0] Tryz.underlying56 Tryz.zeroValue70 rfl (fun u hu=>?_) g _ _ (fun i hi=>?_) (fun i _=>hO1.fz _)
    . simp only[List.mem_cons,List.not_mem_nil,or_false]at hu
      rcases hu with rfl|rfl|rfl<;>rfl
    have h3:css1.flatten.length=xs.length*3:=by rw[flat_len css1 hE1.sizes,hE1.len,hy];rfl
    have h4:(j+(xs.length-k))*3+i<css1.flatten.length:=by
      rw[h3];simp at hi;omega
    rw[hc1 _ _ (List.getElem?_eq_getElem h4)];rfl
  have hne:¬c=j+(xs.length-k):=by omega
  have hst:j+(xs.length-k)<=xs.length:=by omega
  have hne2:xs.length<=c:=by omega
  clear hW1 hlen hnews hfl hones hfz hO hO1 hy hE hkj;go_enter Tryz.func122,Tryz.ntmps122;go_wp2_with fail;have hic:j<=c:=by omega
  have hjc:k<=c:=by omega
  obtain⟨i0,hi0,hz0,hz1,hz2⟩:=info_parts infoQ;go_region_law (refine step_append_room rfl (.tmp 22) (.tmp 25) 56 rfl 70 i0 3 Tryz.underlying56 hi0 hz1 g 0 j c (by simp[Act.eval,Act.put]) A (xs.length-k) (c-k) news (by simp[Act.eval,Act.put]) s1.out hsrc.out s2.out (by omega) s3.out ?_;rw[<-hW.out]);go_wp2;go_ret;have e0:j+(xs.length-k)=xs.length-1:=by have:=hk.out;omega
  have hd:=h.below (drew_below w 1);have h1:=OwV.cut (j:=j) (zs:=[.bool false,.slice none 0 0,.slice none 0 0]) (z:=0) hd (he.below (drew_below w 1)) hj (fun w'=>rat0 w');have hl1:(xs.eraseIdx j).length=xs.length-1:=List.length_eraseIdx_of_lt hj
  have e1:W1.setCells g ((j+(xs.length-k))*3) [.bool false,.slice none 0 0,.slice none 0 0]=putAt g ((xs.length-1)*ratK.sz) [.bool false,.slice none 0 0,.slice none 0 0] (putAt g (j*ratK.sz) (css.flatten.drop ((j+1)*ratK.sz)) (w.drewN 1)):=by
    rw[hW.out,put_cells,put_cells,e0,Nat.zero_add,hnw.out,hk.out];rfl
  refine⟨by rw[hl1,e0];rfl,?_,?_⟩
  . rw[e1,hl1];exact h1
  rw[e1];exact grow_trans2 (drew_grown w 1 _) (grow_trans2 (put_grown ..) (put_grown ..))
def delL{α:Type}(xs:List α)(j:Nat):List α:=xs.eraseIdx j
section
variable {V w:World}{g n c j:Nat}{l:List Ft}
theorem delq_S{xs:List Rat}(k:SS V (rO ratK 70 (some ⟨g,0,none⟩) n c xs::l) w)(hz:OkA 2 l)(hj:j<xs.length):
    Calls Tryz.prog 122 #[.slice (some ⟨g,0,none⟩) n c,.int .i64 (j:Int),.int .i64 ((j+1:Nat):Int)] w fun e w'=> ∃_u:Unit,e=.returned (.slice (some ⟨g,0,none⟩) (delL xs j).length c)/\SS V (rO ratK 70 (some ⟨g,0,none⟩) (delL xs j).length c (delL xs j)::l) w':=
  (delete_rat (k.own m0) hj).mono fun e w' ⟨h1,h2,h3⟩=>⟨(),h1,k.turn (i:=0) rfl h3 (fun R e=>by injection e with e;subst e;rfl) (qtN (n:=2) (fun R e=>by injection e with e;subst e;exact OwV.hd (k.own m0) (List.ne_nil_of_length_pos (by omega)) (fun h hu=>ratK_hd h hu)) hz) h2 fun _ e=>.inl e⟩
theorem deli_S{xs:List Int}(k:SS V (rO intK 3 (some ⟨g,0,none⟩) n c xs::l) w)(hz:OkA 1 l)(hj:j<xs.length):
    Calls Tryz.prog 123 #[.slice (some ⟨g,0,none⟩) n c,.int .i64 (j:Int),.int .i64 ((j+1:Nat):Int)] w fun e w'=> ∃_u:Unit,e=.returned (.slice (some ⟨g,0,none⟩) (delL xs j).length c)/\SS V (rO intK 3 (some ⟨g,0,none⟩) (delL xs j).length c (delL xs j)::l) w':=
  (delete_int (k.own m0) hj).mono fun e w' ⟨h1,h2,h3⟩=>⟨(),h1,k.turn (i:=0) rfl h3 (fun R e=>by injection e with e;subst e;rfl) (qtN (n:=1) (fun R e=>by injection e with e;subst e;exact OwV.hd (k.own m0) (List.ne_nil_of_length_pos (by omega)) (fun h hu=>intK_hd h hu)) hz) h2 fun _ e=>.inl e⟩
end
end
section
set_option maxRecDepth 100000 in
theorem rm1_any(w:World){x:Rat}{xn:Bool}{xp yp:Option Addr}{xl xc yl yc:Nat}(hq:RatV w (.agg #[.bool xn,.slice xp xl xc,.slice yp yl yc]) x):
    Calls Tryz.prog 121 #[.agg #[.bool xn,.slice xp xl xc,.slice yp yl yc]] w fun e w'=>e=.returned (.bool (sgQ x !=0))/\Below w.heap.size w w':=by
  have hK:=SS.start w;refine Calls.hide (fun Q0 hQ0=>?_);go_enter Tryz.func121,Tryz.ntmps121;go_upto_region 0 with(fail);refine wp_region_T [3,0] hK ?_;clear hK;refine eA (.cells #[.bool xn,.slice xp xl xc,.slice yp yl yc] 70) (fun R1=>?_);refine e0 ?_;refine sxEnd (fun W2 hK=>?_);go_upto_region 1 with(fail);refine wp_region_T [1,1,0,0] hK ?_;clear hK;refine eL m0 ?_;obtain⟨z1,hz1⟩:=nmI (sgQ (x));refine eQ (v:=.int .i64 z1) (fun w k=>sign_any _ _ w (hq.below k.old)) ?_ (hv:=by rw[hz1.out]);refine eB (z1 !=0) (fun b1 hb1=>?_);refine e0 ?_;refine sxEnd (fun W3 hK=>?_);go_wp2
  try go_ret
  show Q0 (.returned (.bool b1)) _
  exact(qo hQ0 ⟨(by first|rfl|rw[<-hb1.out, <-hz1.out]|rw[<-hb1.out]),hK.old⟩)
set_option maxRecDepth 100000 in
set_option maxHeartbeats 400000 in
theorem ixf_any(w:World){p_h0:Option Addr}{n_h0 c_h0:Nat}{xs:List Rat}(hh0:SlV ratK w (.slice p_h0 n_h0 c_h0) xs)(hb0:n_h0<=100000):
    Calls Tryz.prog 120 #[.slice p_h0 n_h0 c_h0,.func (.func 121) #[] #[]] w fun e w'=>e=.returned (.int .i64 (nzN xs xs.length))/\Below w.heap.size w w':=by
  have hK:=SS.start w;have⟨nh1,nh2⟩:=lle hh0.one0;refine Calls.hide (fun Q0 hQ0=>?_);go_enter Tryz.func120,Tryz.ntmps120;go_wp2_with fail;go_loopw [8] (fun s8 wl=> ∃(m:Nat),s8=.int .i64 (m:Int)/\(m<=n_h0)/\Hid (nzN xs m= -1)/\SS w ([]) wl) (fun s8 _=>n_h0-(intOf s8).toNat)
  case atStart=>exact⟨0,rfl,(by omega),hid rfl,hK⟩
  clear hK;obtain⟨m,rfl,hm0,h_z,hK⟩:=hrel;generalize wr=W1 at hK⊢;go_upto_region 2 with(fail);refine wp_region_T [0] hK ?_;clear hK;refine eB (decide (((m:Int))<((n_h0:Int)))) (fun b1 hb1=>?_);refine sxEnd (fun W2 hK=>?_)
  cases b1
  . --
   have q_b1:=nlt hb1;go_wp2
   try go_ret
   show Q0 (.returned (.int .i64 (-1))) _
   exact(qo hQ0 ⟨(by rw[show xs.length=m from(by omega),h_z.out]),hK.old⟩)
  have q_b1:=ylt hb1;have i3:m<n_h0:=(by omega);obtain⟨g3,o3,rfl⟩:=hh0.pt i3;have l3:m<xs.length:=Nat.lt_of_lt_of_eq i3 (hh0.one0);obtain⟨xc,exc⟩:=gtH l3;obtain⟨_,_,_,xc_c,xc_r⟩:=hh0.rat exc.out;obtain⟨rfl,⟨xc_p,xc_n,xc_d,rfl⟩,xc_q,xc_m,xc_e,rfl⟩:=ratV_cells' xc_r;go_upto_region 4 with(fail);refine wp_region_T [0,0,0,0,0,1] hK ?_;clear hK
  iterate 4 refine e0 ?_
  refine eRm3 (fun w k=>xc_c.below k.old) ?_;obtain⟨b2,hb2⟩:=nmB (sgQ (xc) !=0);refine eQ (v:=.bool b2) (fun w k=>rm1_any w (xc_r.below k.old)) ?_ (hv:=by rw[hb2.out]);refine sxEnd (fun W4 hK=>?_)
  cases b2
  . --
   (try go_wp2)
   go_roundw
   case rel=>exact⟨m+1,(by first|rfl|go_num),(by omega),hid (nz_zero h_z.out exc.out (sgQ_zero.1 (by have q:=hb2.out;simpa using q))),hK⟩
   case measure=>simp[intOf]<;>omega
  go_wp2
  try go_ret
  show Q0 (.returned (.int .i64 (m:Int))) _
  exact(qo hQ0 ⟨(by rw[nz_end h_z.out exc.out (fun e=>by have q:=hb2.out;rw[e]at q;simp[sgQ_zero.2]at q)]),hK.old⟩)
set_option maxRecDepth 100000 in
set_option maxHeartbeats 1000000 in
theorem remove_any(w V:World){R nc X:Nat}{z:TbS}{P:LPd}{T:LTab}{g0 z0:LRow}(l:List Ft)(hK:SS V ((tbF R nc z (⟨T,g0⟩))::l) w)(tz1:OkA 1 l)(tz2:OkA 2 l)(tz3:OkA 3 l)(hP:P.Ok)(h:Ph1 P (⟨T,[g0,z0]⟩:LObj))(hr:0<=z0.r)(hL:LimS X P)(hX:X<B32^300)(hmm:P.A.length<=2000)(hcc:P.c.length<=2000):
    Calls Tryz.prog 94 #[.pointer (some ⟨R,0,none⟩)] w fun e w'=> ∃a:Duo TbS LSt,e=.returned (.tuple #[])/\SS V (tbF R nc a.a a.b::cF (a.b.Ok/\Alike a.b.obj P.init)::l) w':=by
  have hlm:=hid ((hL.a _ h.ok h.al).lm hX);have hrl:=hid h.rows_len;have hfl:=hid h.free_len;have hok:=h.ok.ok;have hgl:=hid (h.ok.len g0 (List.mem_cons_self ..));obtain⟨⟨rp,rl,rc⟩,⟨bp,bl,bc⟩,⟨fp,fl,fc⟩,⟨⟨gp,gl,gc⟩,gn,gy,gz⟩,rs⟩:=z;replace hK:=SS.tb.1 hK;dsimp only[tbL,List.cons_append,List.nil_append,Rw4.q]at hK;have hrs:=hid (hK.get m0);have nr:=hid ((hK.len m2).trans hrs.out);have⟨nr1,nr2⟩:=lle nr.out;have nb:=hid (hK.len m3);have⟨nb1,nb2⟩:=lle nb.out;have nf:=hid (hK.len m4);have⟨nf1,nf2⟩:=lle nf.out;have ng:=hid (hK.len m6);have⟨ng1,ng2⟩:=lle ng.out;replace hK:=hK.subl (sC2 (sR));refine Calls.hide (fun Q0 hQ0=>?_);go_enter Tryz.func94,Tryz.ntmps94;go_upto_region 0 with(fail);refine wp_region_T [0,0,0,1,1,0] hK ?_;clear hK
  iterate 3 refine e0 ?_
  refine eL m0 ?_;obtain⟨z1,hz1⟩:=nmI (Lib.idxOf T.basic (-1));refine eQ (v:=.int .i64 z1) (fun w k=>index_int (-1) (k.own m2)) ?_ (hv:=by rw[hz1.out]);refine e0 ?_;refine sxEnd (fun W1 hK=>?_);go_upto_region 1 with(fail);refine wp_region_T [0,0] hK ?_;clear hK;refine e0 ?_;refine eB (decide (0<=z1)) (fun b1 hb1=>?_);refine sxEnd (fun W2 hK=>?_);go_upto_if 12 with(fail);go_cut []from 9999 to 9999 (fun wl=> ∃(s1:LObj) (g1:LRow) (zz:TbS),Hid (Ph1 P s1)/\Hid (s1.os[0]?=some g1)/\Hid ((-1:Int)∉s1.T.basic)/\SS V ((tbF R nc zz (⟨s1.T,g1⟩))::l) wl)
  case first=>
   cases b1
   . --
    have q_b1:=nle hb1;replace hK:SS V (tbF R nc (⟨⟨rp,rl,rc⟩,⟨bp,bl,bc⟩,⟨fp,fl,fc⟩,⟨⟨gp,gl,gc⟩,gn,⟨gy.p,gy.l,gy.c⟩,⟨gz.p,gz.l,gz.c⟩⟩,rs⟩) (⟨T,g0⟩:LSt)::_) _:=SS.tb.2 (hK.fact (cF (List.length rs=(LTab.rows T).length)) hrs.out)
    (try go_wp2)
    go_meet
    case rel=>exact⟨(⟨T,[g0,z0]⟩:LObj),g0,⟨⟨rp,rl,rc⟩,⟨bp,bl,bc⟩,⟨fp,fl,fc⟩,⟨⟨gp,gl,gc⟩,gn,⟨gy.p,gy.l,gy.c⟩,⟨gz.p,gz.l,gz.c⟩⟩,rs⟩,hid h,hid rfl,hid (idx_lt hz1.out q_b1),hK⟩
   have q_b1:=ylt hb1;obtain⟨i,rfl,hbi0⟩:=idx_ge hz1.out q_b1;have hbi:=hid hbi0;clear hbi0;have hil:i<T.rows.length:=(by rw[<-hok.nb];exact(List.getElem?_eq_some_iff.1 hbi.out).1);obtain⟨y,ey⟩:∃y,Hid (T.rows[i]?=some y):=⟨_,hid (List.getElem?_eq_getElem hil)⟩;have hyc:=hid (hok.row ey.out);obtain⟨j0,hj0,hn0⟩:=h.find hP rfl hr hbi.out;have hgd:=hid (getD_of (d:=(default:LRow)) ey.out);obtain⟨j,hnz0,hjl,hjn⟩:=nz_some (xs:=y.cs) (j:=j0) (by rw[hyc.out];exact hj0) (by rw[<-hgd.out];exact hn0);have hnz:=hid hnz0;clear hnz0;have i3:i<rl:=(by omega);obtain⟨g3,rfl⟩:=hK.pt m1 i3;have l3:i<rs.length:=Nat.lt_of_lt_of_eq i3 (hK.len m1);obtain⟨x,ex⟩:=gtH l3;obtain⟨⟨x_p,x_l,x_c⟩,x_n,⟨x_yp,x_yl,x_yc⟩,⟨x_zp,x_zl,x_zc⟩⟩:=x;go_upto_region 2 with(fail);refine wp_region_T [0,0,0,1,0,0,0,1,1,0] hK ?_;clear hK
   iterate 3 refine e0 ?_
   refine eL m0 ?_
   iterate 3 refine e0 ?_
   refine eR (fun w k=>(k.own m1).rwc0 ex.out) ?_;refine eQ (fun w k=>(ixf_any w (xs:=y.cs) ((k.rwR m4 List.not_mem_nil ex.out ey.out).slv) (by rw[(k.rwR m4 List.not_mem_nil ex.out ey.out).len,hyc.out,hfl.out];omega)).mono fun _ _ q=>by rw[hnz.out]at q;exact q) ?_;refine e0 ?_;refine sxEnd (fun W4 hK=>?_);replace hK:SS V (tbF R nc (⟨⟨(some ⟨g3,0,none⟩),rl,rc⟩,⟨bp,bl,bc⟩,⟨fp,fl,fc⟩,⟨⟨gp,gl,gc⟩,gn,⟨gy.p,gy.l,gy.c⟩,⟨gz.p,gz.l,gz.c⟩⟩,rs⟩) (⟨T,g0⟩:LSt)::_) _:=SS.tb.2 (hK.fact (cF (List.length rs=(LTab.rows T).length)) hrs.out);obtain⟨zq,hzq⟩:∃q:TbS,Hid ((⟨⟨(some ⟨g3,0,none⟩),rl,rc⟩,⟨bp,bl,bc⟩,⟨fp,fl,fc⟩,⟨⟨gp,gl,gc⟩,gn,⟨gy.p,gy.l,gy.c⟩,⟨gz.p,gz.l,gz.c⟩⟩,rs⟩:TbS)=q):=⟨_,hid rfl⟩;rw[hzq.out]at hK;have hjf:j<T.free.length:=(by rw[<-hyc.out];exact hjl);have h2:Ph1 P ((⟨T,[g0,z0]⟩:LObj).piv i j):=h.take rfl hr hbi.out hjf (by show(T.rows.getD i default).cs.getD j 0≠0;rw[hgd.out];exact hjn);have hl2:=hid ((hL.a _ h2.ok h2.al).lm hX);go_upto_region 3 with(fail);refine wp_region_T [0,0,0,0,0,0,3,4] hK ?_;clear hK
   iterate 6 refine e0 ?_
   refine eA (.cells #[.pointer (some ⟨R,3,none⟩)] 152) (fun R5=>?_);refine eM (fun w k=>piv1_any w _ _ k.up1 tz1 tz2 tz3 hil hjf hok hgl.out ⟨hlm.out.t,fun g hg=>hlm.out.os g (by rw[List.mem_singleton.1 hg];exact List.mem_cons_self ..)⟩ ⟨hl2.out.t,fun g hg=>hl2.out.os g (by rw[List.mem_singleton.1 hg];exact List.mem_cons_self ..)⟩ (by rw[hfl.out];omega) (by rw[hrl.out];omega)) (fun x6=>?_);refine sxEnd (fun W7 hK=>?_)
   (try go_wp2)
   go_meet
   case rel=>exact⟨((⟨T,[g0,z0]⟩:LObj).piv i j),T.obj i j g0,x6,hid h2,hid rfl,hid (piv_notin h2.ok.ok hbi.out hjf),hK⟩
  clear hK;obtain⟨s1,g1,zz,h_p,h_g,h_n,hK⟩:=hcut;generalize wc=W8 at hK⊢;have hs1:=h_p;have hg1:=h_g;have hok1:=hs1.out.ok.ok;have hrl1:=hid hs1.out.rows_len;have hfl1:=hid hs1.out.free_len;have hgl1:=hid (hs1.out.ok.len g1 (List.mem_of_getElem? hg1.out));obtain⟨jj,hjj0,hfj0⟩:=idx_in (hs1.out.art_in h_n.out);have hjj:=hid hjj0;have hfj:=hid hfj0;clear hjj0 hfj0;have hjf1:=(List.getElem?_eq_some_iff.1 hfj.out).1;have hj2:jj<=2001:=(by have:=hfl1.out;omega);have hrb:s1.T.rows.length<=2000:=(by rw[hrl1.out];exact hmm);obtain⟨⟨rp1,rl1,rc1⟩,⟨bp1,bl1,bc1⟩,⟨fp1,fl1,fc1⟩,⟨⟨gp1,gl1,gc1⟩,gn1,gy1,gz1⟩,rs1⟩:=zz;replace hK:=SS.tb.1 hK;dsimp only[tbL,List.cons_append,List.nil_append,Rw4.q]at hK;have hrs1:=hid (hK.get m0);have n1r:=hid ((hK.len m2).trans hrs1.out);have⟨n1r1,n1r2⟩:=lle n1r.out;have n1b:=hid (hK.len m3);have⟨n1b1,n1b2⟩:=lle n1b.out;have n1f:=hid (hK.len m4);have⟨n1f1,n1f2⟩:=lle n1f.out;have n1g:=hid (hK.len m6);have⟨n1g1,n1g2⟩:=lle n1g.out;replace hK:=hK.subl (sC2 (sR));go_upto_region 4 with(fail);refine wp_region_T [0,0,0,1,1,0] hK ?_;clear hK
  iterate 3 refine e0 ?_
  refine eL m0 ?_;refine eQ (v:=.int .i64 (jj:Int)) (fun w k=>index_int (-1) (k.own m3)) ?_ (hv:=by rw[hjj.out]);refine e0 ?_;refine sxEnd (fun W9 hK=>?_);go_upto_region 5 with(fail);refine wp_region_T [0,0,0,1,0,0] hK ?_;clear hK
  iterate 3 refine e0 ?_
  refine eL m0 ?_
  iterate 2 refine e0 ?_
  refine sxEnd (fun W10 hK=>?_);rw[show s1.T.rows=updK (fun _ x=>x.strike jj) s1.T.rows 0 from updK_zero.symm]at hK;go_wp2_with fail;go_loopw [40] (fun s40 wl=> ∃(m:Nat) (rs2:List Rw4),s40=.int .i64 (m:Int)/\(m<=rl1)/\Hid (rs2.length=rs1.length)/\SS V ((bx R (.cells #[.slice rp1 rl1 rc1,.slice bp1 bl1 bc1,.slice fp1 fl1 fc1,.slice gp1 gl1 gc1,.bool gn1,.slice gy1.p gy1.l gy1.c,.slice gz1.p gz1.l gz1.c,.int .i64 (nc:Int)] 151))::(rO rw4K 149 rp1 rl1 rc1 rs2)::(rO intK 3 bp1 bl1 bc1 s1.T.basic)::(rO intK 3 fp1 fl1 fc1 s1.T.free)::(fmF 70 rs2 (updK (fun _ x=>x.strike jj) s1.T.rows m) [])::(rO ratK 70 gp1 gl1 gc1 g1.cs)::(qF (.agg #[.bool gn1,.slice gy1.p gy1.l gy1.c,.slice gz1.p gz1.l gz1.c]) (g1.r))::l) wl) (fun s40 _=>rl1-(intOf s40).toNat)
  case atStart=>exact⟨0,rs1,rfl,(by omega),hid rfl,hK⟩
  clear hK;obtain⟨m,rs2,rfl,hm0,h_m,hK⟩:=hrel;generalize wr=W11 at hK⊢;go_upto_region 6 with(fail);refine wp_region_T [0] hK ?_;clear hK;refine eB (decide (((m:Int))<((rl1:Int)))) (fun b2 hb2=>?_);refine sxEnd (fun W12 hK=>?_)
  cases b2
  . --
   have q_b2:=nlt hb2;have hjg:jj<g1.cs.length:=(by rw[hgl1.out];exact hjf1);have i13:jj<gl1:=(by rw[n1g.out];exact hjg);obtain⟨g13,rfl⟩:=hK.pt m5 i13;have l13:jj<g1.cs.length:=Nat.lt_of_lt_of_eq i13 (hK.len m5);obtain⟨xg,exg⟩:=gtH l13;go_upto_region 10 with(fail);refine wp_region_T [0,0,0,0,0,1,0,0,0,4,0,0,0,4] hK ?_;clear hK
   iterate 5 refine e0 ?_
   refine eL m0 ?_
   iterate 2 refine e0 ?_
   refine eV (.int .i64 ((jj+1:Nat):Int)) (fun w'=>by go_simp;(try go_bits);exact⟨congrArg (Value.int .i64) (by omega),rfl⟩) ?_;refine eM (fun w k=>delq_S k.up5 ⟨rfl,rfl,rfl,rfl,rfl,rfl,tz2⟩ hjg) (fun x14=>?_)
   iterate 3 refine e0 ?_
   refine eP 1 3 [.slice (some ⟨g13,0,none⟩) (delL g1.cs jj).length gc1] ?_;refine sxEnd (fun W15 hK=>?_);have i16:jj<fl1:=(by rw[n1f.out];exact hjf1);obtain⟨g16,rfl⟩:=hK.pt m4 i16;have l16:jj<s1.T.free.length:=Nat.lt_of_lt_of_eq i16 (hK.len m4);obtain⟨xf,exf⟩:=gtH l16;go_upto_region 11 with(fail);refine wp_region_T [0,0,0,0,1,0,0,0,4,0,0,4] hK ?_;clear hK
   iterate 4 refine e0 ?_
   refine eL m1 ?_
   iterate 2 refine e0 ?_
   refine eV (.int .i64 ((jj+1:Nat):Int)) (fun w'=>by go_simp;(try go_bits);exact⟨congrArg (Value.int .i64) (by omega),rfl⟩) ?_;refine eM (fun w k=>deli_S k.up4 ⟨rfl,rfl,rfl,rfl,rfl,rfl,tz1⟩ hjf1) (fun x17=>?_)
   iterate 2 refine e0 ?_
   refine eP 2 2 [.slice (some ⟨g16,0,none⟩) (delL s1.T.free jj).length fc1] ?_;refine sxEnd (fun W18 hK=>?_);rw[show updK (fun _ x=>x.strike jj) s1.T.rows m=(s1.T.strike jj).rows from(by rw[strike_upd (k:=m) (by omega)])]at hK;replace hK:=hK.up6;replace hK:=hK.up2;replace hK:=hK.up6;replace hK:=hK.up3;replace hK:=hK.up6;replace hK:=hK.up6;replace hK:=hK.up6;replace hK:SS V (tbF R nc (⟨⟨rp1,rl1,rc1⟩,⟨bp1,bl1,bc1⟩,⟨(some ⟨g16,0,none⟩),(delL s1.T.free jj).length,fc1⟩,⟨⟨(some ⟨g13,0,none⟩),(delL g1.cs jj).length,gc1⟩,gn1,⟨gy1.p,gy1.l,gy1.c⟩,⟨gz1.p,gz1.l,gz1.c⟩⟩,rs2⟩) (⟨s1.T.strike jj,g1.strike jj⟩:LSt)::_) _:=SS.tb.2 (hK.fact (cF (List.length rs2=(LTab.rows (s1.T.strike jj)).length)) (show rs2.length=(s1.T.strike jj).rows.length from by rw[h_m.out,hrs1.out];simp[LTab.strike]));go_wp2
   first|exact bodyPost_ret (v:=.tuple #[]) (results_none (by simp[Tryz.results94]) _ _ _) rfl (qo hQ0 ⟨⟨⟨⟨rp1,rl1,rc1⟩,⟨bp1,bl1,bc1⟩,⟨(some ⟨g16,0,none⟩),(delL s1.T.free jj).length,fc1⟩,⟨⟨(some ⟨g13,0,none⟩),(delL g1.cs jj).length,gc1⟩,gn1,⟨gy1.p,gy1.l,gy1.c⟩,⟨gz1.p,gz1.l,gz1.c⟩⟩,rs2⟩,⟨s1.T.strike jj,g1.strike jj⟩⟩,rfl,(hK.fact (cF _) (hs1.out.lst_strike hP hg1.out hfj.out)).up1⟩)|exact bodyPost_end (v:=.tuple #[]) (results_none (by simp[Tryz.results94]) _ _ _) rfl (qo hQ0 ⟨⟨⟨⟨rp1,rl1,rc1⟩,⟨bp1,bl1,bc1⟩,⟨(some ⟨g16,0,none⟩),(delL s1.T.free jj).length,fc1⟩,⟨⟨(some ⟨g13,0,none⟩),(delL g1.cs jj).length,gc1⟩,gn1,⟨gy1.p,gy1.l,gy1.c⟩,⟨gz1.p,gz1.l,gz1.c⟩⟩,rs2⟩,⟨s1.T.strike jj,g1.strike jj⟩⟩,rfl,(hK.fact (cF _) (hs1.out.lst_strike hP hg1.out hfj.out)).up1⟩)
  have q_b2:=ylt hb2;have hkr:m<s1.T.rows.length:=(by omega);obtain⟨y,ey⟩:∃y,Hid (s1.T.rows[m]?=some y):=⟨_,hid (List.getElem?_eq_getElem hkr)⟩;have hy1:Hid ((updK (fun _ x=>x.strike jj) s1.T.rows m)[m]?=some y):=hid (updK_at.trans ey.out);have hyc:=hid (hs1.out.row_ne (List.mem_of_getElem? ey.out));have hjy:jj<y.cs.length:=(by rw[hyc.out, <-hfl1.out];exact hjf1);have i19:m<rl1:=(by omega);obtain⟨g19,rfl⟩:=hK.pt m1 i19;have l19:m<rs2.length:=Nat.lt_of_lt_of_eq i19 (hK.len m1);obtain⟨x,ex⟩:=gtH l19;obtain⟨⟨x_p,x_l,x_c⟩,x_n,⟨x_yp,x_yl,x_yc⟩,⟨x_zp,x_zl,x_zc⟩⟩:=x;replace hK:=hK.up4;replace hK:=hK.rwO List.not_mem_nil ex.out hy1.out;dsimp only[Rw4.q]at hK;have nx:=hid (hK.len m0);have i20:jj<x_l:=(by rw[nx.out];exact hjy);obtain⟨g20,rfl⟩:=hK.pt m0 i20;have l20:jj<y.cs.length:=Nat.lt_of_lt_of_eq i20 (hK.len m0);obtain⟨xq,exq⟩:=gtH l20;go_upto_region 8 with(fail);refine wp_region_S _ [0,0,0,0,0,0,0,0,0,0,0,0,1,0,0,0,4,0,0,4] hK ?_ (sC2 (sK2 (sK2 (sK2 (sC2 (sR))))));clear hK
  iterate 3 refine e0 ?_
  refine eL0 m2 ?_
  iterate 4 refine e0 ?_
  refine eL0 m2 ?_
  iterate 3 refine e0 ?_
  refine eR (fun w k=>(k.own m4).rwc0 ex.out) ?_
  iterate 2 refine e0 ?_
  refine eV (.int .i64 ((jj+1:Nat):Int)) (fun w'=>by go_simp;(try go_bits);exact⟨congrArg (Value.int .i64) (by omega),rfl⟩) ?_;refine eM (fun w k=>delq_S k ⟨rfl,rfl,rfl,rfl,rfl,rfl,rfl,rfl,tz2⟩ hjy) (fun x21=>?_) (hs:=fun _=>(sC2 (sK2 (sK2 (sK2 (sC2 (sR)))))))
  iterate 2 refine e0 ?_
  refine eWr ⟨⟨(some ⟨g20,0,none⟩),(delL y.cs jj).length,x_c⟩,x_n,⟨x_yp,x_yl,x_yc⟩,⟨x_zp,x_zl,x_zc⟩⟩ 4 0 [.slice (some ⟨g20,0,none⟩) (delL y.cs jj).length x_c] ex.out ?_ (hi:=rfl) (h1:=by intro w' k;have c0:=k.rwc0 ex.out;have c1:=k.rwc ex.out 1 rfl;have c2:=k.rwc ex.out 2 rfl;have c3:=k.rwc ex.out 3 rfl;have f:=OwV.fz k;go_simp;exact⟨rfl,rfl⟩) (hs:=(sC2 (sK2 (sK2 (sK2 (sC2 (sR)))))));refine sxEnd (fun W22 hK=>?_);replace hK:=hK.up2;replace hK:=hK.up2;replace hK:=hK.up2;replace hK:=SS.rwB (x:=⟨⟨(some ⟨g20,0,none⟩),(delL y.cs jj).length,x_c⟩,x_n,⟨x_yp,x_yl,x_yc⟩,⟨x_zp,x_zl,x_zc⟩⟩) (y:=y.strike jj) hK List.not_mem_nil (by rw[updK_len];exact hkr) (by rw[h_m.out,hrs1.out];exact hkr);rw[updK_step ey.out]at hK
  (try go_wp2)
  go_roundw
  case rel=>exact⟨m+1,rs2.set m (⟨⟨(some ⟨g20,0,none⟩),(delL y.cs jj).length,x_c⟩,x_n,⟨x_yp,x_yl,x_yc⟩,⟨x_zp,x_zl,x_zc⟩⟩),(by first|rfl|go_num),(by omega),hid (by rw[List.length_set];exact h_m.out),hK.up6.up6.up2.up6.up6.up6.up6⟩
  case measure=>simp[intOf]<;>omega
end
section
structure TbV(w:World)(R nc:Nat)(z:TbS)(s:LSt):Prop where
  box:Has 0 R (.cells #[.slice z.r.p z.r.l z.r.c,.slice z.b.p z.b.l z.b.c,.slice z.f.p z.f.l z.f.c,.slice z.g.s.p z.g.s.l z.g.s.c,.bool z.g.n,.slice z.g.y.p z.g.y.l z.g.y.c,.slice z.g.z.p z.g.z.l z.g.z.c,.int .i64 (nc:Int)] 151) w
  rows:SlV rw4K w (.slice z.r.p z.r.l z.r.c) z.rs
  basic:SlV intK w (.slice z.b.p z.b.l z.b.c) s.T.basic
  free:SlV intK w (.slice z.f.p z.f.l z.f.c) s.T.free
  fm:FmV w z.rs s.T.rows
  goal:SlV ratK w (.slice z.g.s.p z.g.s.l z.g.s.c) s.g.cs
  rest:RatV w z.g.q s.g.r
theorem SS.tbV{V w:World}{l:List Ft}{R nc:Nat}{z:TbS}{s:LSt}(h:SS V (tbF R nc z s::l) w):TbV w R nc z s:=by
  have k:=SS.tb.1 h;exact⟨k.box m1,k.slv m2,k.slv m3,k.slv m4,k.fmV m5 (k.get m0),k.slv m6,k.q m7⟩
theorem TbV.below{w w':World}{R nc:Nat}{z:TbS}{s:LSt}(h:TbV w R nc z s)(hb:Below w.heap.size w w'):TbV w' R nc z s:=⟨Has.below (base:=0) h.box hb,h.rows.below hb,h.basic.below hb,h.free.below hb,h.fm.below hb,h.goal.below hb,h.rest.below hb⟩
set_option maxRecDepth 100000 in
set_option maxHeartbeats 400000 in
theorem prices_any(w:World){R nc:Nat}{z:TbS}{s:LSt}{p2:Option Addr}{l2 c2:Nat}{s2:Bool}{u v:Sl}{cs:List Rat}(hT:TbV w R nc z s)(hok:s.T.Ok)(hm:s.T.rows.length<=100000)(h2:SlV ratK w (.slice p2 l2 c2) cs)(hl:cs.length=s.T.free.length)(hn:s.T.free.length<=100000):
    Calls Tryz.prog 93 #[.pointer (some ⟨R,0,none⟩),.agg #[.slice p2 l2 c2,.bool s2,.slice u.p u.l u.c,.slice v.p v.l v.c]] w fun e w'=> ∃y:Sl,e=.returned (.slice y.p y.l y.c)/\SS w [rO ratK 70 y.p y.l y.c (pricesL s.T.rows.length s.T.free cs)] w':=by
  have hK:=SS.start w;have hT0:=hT;obtain⟨⟨rp,rl,rc⟩,⟨bp,bl,bc⟩,⟨fp,fl,fc⟩,⟨⟨gp,gl,gc⟩,gn,gy,gz⟩,rs⟩:=z;obtain⟨T,y0⟩:=s;obtain⟨hR,hW,hB,hF,hM,hG,hQ⟩:=hT;dsimp only at*;have nr:=hid (hW.one0.trans hM.len);have⟨nr1,nr2⟩:=lle nr.out;have nb:=hid hB.one0;have⟨nb1,nb2⟩:=lle nb.out;have nf:=hid hF.one0;have⟨nf1,nf2⟩:=lle nf.out;have⟨hbm,hbm2⟩:=lle hok.nb;have h2l:=hid h2.one0;have⟨h2a,h2b⟩:=lle h2l.out;refine Calls.hide (fun Q0 hQ0=>?_);go_enter Tryz.func93,Tryz.ntmps93;go_upto_region 0 with(fail);refine wp_region_T [3,0] hK ?_;clear hK;refine eA (.cells #[.slice p2 l2 c2,.bool s2,.slice u.p u.l u.c,.slice v.p v.l v.c] 149) (fun R1=>?_);refine e0 ?_;refine sxEnd (fun W2 hK=>?_);go_upto_region 1 with(fail);refine wp_region_T [0,0,0,0,0,3,0] hK ?_;clear hK
  iterate 3 refine e0 ?_
  refine eX0 (fun w k=>hR.below k.old) ?_;refine e0 ?_;refine eMk (K:=ratK) (t:=70) (x:=(0:Rat)) rl rat0 rfl infoQ (by show rl*3<=_;omega) (by decide) (fun g3=>?_);refine e0 ?_;refine sxEnd (fun W4 hK=>?_);replace hK:=hK.made (K:=ratK) (n:=rl) rat0 (by simp[maxLen];omega);go_upto_region 2 with(fail);refine wp_region_T [0,0,0,0,0,0] hK ?_;clear hK
  iterate 3 refine e0 ?_
  refine eX0 (fun w k=>hR.below k.old) ?_
  iterate 2 refine e0 ?_
  refine sxEnd (fun W5 hK=>?_);rw[show List.replicate rl (0:Rat)=plcN 0 rl T.free cs 0 from(plcN_zero _ _ _ _).symm]at hK;go_wp2_with fail;go_loopw [19] (fun s19 wl=> ∃(k:Nat),s19=.int .i64 (k:Int)/\(k<=fl)/\SS w ([rO ratK 70 (some ⟨g3,0,none⟩) rl rl (plcN 0 rl T.free cs k),bx R1 (.cells #[.slice p2 l2 c2,.bool s2,.slice u.p u.l u.c,.slice v.p v.l v.c] 149)]) wl) (fun s19 _=>fl-(intOf s19).toNat)
  case atStart=>exact⟨0,rfl,(by omega),hK⟩
  clear hK;obtain⟨k,rfl,hk,hK⟩:=hrel;generalize wr=W6 at hK⊢;go_upto_region 3 with(fail);refine wp_region_T [0] hK ?_;clear hK;refine eB (decide (((k:Int))<((fl:Int)))) (fun b1 hb1=>?_);refine sxEnd (fun W7 hK=>?_)
  cases b1
  . --
   have q_b1:=nlt hb1;rw[show plcN 0 rl T.free cs k=pricesL T.rows.length T.free cs from(by rw[nr.out];exact prices_plc (by omega) (by omega))]at hK;replace hK:=hK.subl (sK2 (sC2 sZ2));go_wp2
   try go_ret
   show Q0 (.returned (.slice (some ⟨g3,0,none⟩) rl rl)) _
   exact(qo hQ0 ⟨⟨(some ⟨g3,0,none⟩),rl,rl⟩,rfl,hK⟩)
  have q_b1:=ylt hb1;have i8:k<fl:=(by omega);obtain⟨g8,o8,rfl⟩:=hF.pt i8;have l8:k<T.free.length:=Nat.lt_of_lt_of_eq i8 (hF.one0);obtain⟨xf,exf⟩:=gtH l8;go_upto_region 4 with(fail);refine wp_region_T [0,0,0,0,0] hK ?_;clear hK
  iterate 2 refine e0 ?_
  refine eR0 (fun w k=>(hF.below k.old).int exf.out) ?_
  iterate 2 refine e0 ?_
  refine sxEnd (fun W9 hK=>?_);go_upto_region 5 with(fail);refine wp_region_T [0,0,0,0,0,0,0,0] hK ?_;clear hK;refine e0 ?_;refine eB (decide (0<=xf)) (fun b2 hb2=>?_);refine e0 ?_
  cases b2
  . --
   have q_b2:=nle hb2
   iterate 4 refine eN ?_
   refine e0 ?_;refine sxEnd (fun W10 hK=>?_);rw[show plcN 0 rl T.free cs k=plcN 0 rl T.free cs (k+1)from(plc_out hok.nd2 exf.out (List.getElem?_eq_getElem (show k<cs.length by omega)) (by left;omega))]at hK
   (try go_wp2)
   go_roundw
   case rel=>exact⟨k+1,(by first|rfl|go_num),(by omega),hK⟩
   case measure=>simp[intOf]<;>omega
  have q_b2:=ylt hb2
  iterate 3 refine e0 ?_
  refine eB (decide (xf<((rl:Int)))) (fun b3 hb3=>?_);refine e0 ?_;refine sxEnd (fun W11 hK=>?_)
  cases b3
  . --
   have q_b3:=nlt hb3;rw[show plcN 0 rl T.free cs k=plcN 0 rl T.free cs (k+1)from(plc_out hok.nd2 exf.out (List.getElem?_eq_getElem (show k<cs.length by omega)) (by right;omega))]at hK
   (try go_wp2)
   go_roundw
   case rel=>exact⟨k+1,(by first|rfl|go_num),(by omega),hK⟩
   case measure=>simp[intOf]<;>omega
  have q_b3:=ylt hb3;obtain⟨i,hi0⟩:=Int.eq_ofNat_of_zero_le q_b2;have hi:Hid (xf=((0+i:Nat):Int)):=hid (by omega);have hil:i<rl:=(by omega);subst hi0;have i12:i<rl:=(by omega);have l12:i<(plcN 0 rl T.free cs k).length:=Nat.lt_of_lt_of_eq i12 (hK.len m0);obtain⟨xl,exl⟩:=gtH l12;have i13:k<l2:=(by omega);obtain⟨g13,o13,rfl⟩:=h2.pt i13;have l13:k<cs.length:=Nat.lt_of_lt_of_eq i13 (h2.one0);obtain⟨xc,exc⟩:=gtH l13;obtain⟨_,_,_,xc_c,xc_r⟩:=h2.rat exc.out;obtain⟨rfl,⟨xc_p,xc_n,xc_d,rfl⟩,xc_q,xc_m,xc_e,rfl⟩:=ratV_cells' xc_r;replace hK:=hK.fact (qF (.agg #[.bool (isN xc),.slice xc_p xc_n xc_d,.slice xc_q xc_m xc_e]) xc) (xc_r.below hK.old);go_upto_region 6 with(fail);refine wp_region_T [0,0,0,1,0,0,0,0,4] hK ?_;clear hK
  iterate 3 refine e0 ?_
  refine eL m2 ?_
  iterate 2 refine e0 ?_
  refine eRm3 (fun w k=>xc_c.below k.old) ?_;refine e0 ?_;refine eWQ (y:=xc) 1 (by rw[plcN_len];exact hil) m0 ?_ (hi:=rfl);refine sxEnd (fun W14 hK=>?_);rw[show(plcN 0 rl T.free cs k).set i xc=plcN 0 rl T.free cs (k+1)from(plc_in hok.nd2 exf.out exc.out (i:=i) hi.out hil)]at hK
  (try go_wp2)
  go_roundw
  case rel=>exact⟨k+1,(by first|rfl|go_num),(by omega),(hK.subl (sC2 (sR)))⟩
  case measure=>simp[intOf]<;>omega
set_option maxRecDepth 100000 in
set_option maxHeartbeats 400000 in
theorem Prices_any(w:World){R nc:Nat}{z:TbS}{s:LSt}(hT:TbV w R nc z s)(hok:s.T.Ok)(hm:s.T.rows.length<=100000)(hl:s.g.cs.length=s.T.free.length)(hn:s.T.free.length<=100000):
    Calls Tryz.prog 65 #[.pointer (some ⟨R,0,none⟩)] w fun e w'=> ∃y:Sl,e=.returned (.slice y.p y.l y.c)/\SS w [rO ratK 70 y.p y.l y.c (pricesL s.T.rows.length s.T.free s.g.cs)] w':=by
  have hK:=SS.start w;have hT0:=hT;obtain⟨⟨rp,rl,rc⟩,⟨bp,bl,bc⟩,⟨fp,fl,fc⟩,⟨⟨gp,gl,gc⟩,gn,gy,gz⟩,rs⟩:=z;obtain⟨T,y0⟩:=s;obtain⟨hR,hW,hB,hF,hM,hG,hQ⟩:=hT;dsimp only at*;have nr:=hid (hW.one0.trans hM.len);have⟨nr1,nr2⟩:=lle nr.out;have nb:=hid hB.one0;have⟨nb1,nb2⟩:=lle nb.out;have nf:=hid hF.one0;have⟨nf1,nf2⟩:=lle nf.out;have⟨hbm,hbm2⟩:=lle hok.nb;refine Calls.hide (fun Q0 hQ0=>?_);go_enter Tryz.func65,Tryz.ntmps65;go_upto_region 1 with(fail);refine wp_region_T [0,0,0,0,0,2,0] hK ?_;clear hK
  iterate 4 refine e0 ?_
  refine eX0 (fun w k=>hR.below k.old) ?_;refine eC (fun w k=>prices_any w (hT0.below k.old) hok hm (hG.below k.old) hl hn) (fun x1=>?_);obtain⟨px1,lx1,cx1⟩:=x1;dsimp only;refine e0 ?_;refine sxEnd (fun W2 hK=>?_);go_wp2
  try go_ret
  show Q0 (.returned (.slice px1 lx1 cx1)) _
  exact(qo hQ0 ⟨⟨px1,lx1,cx1⟩,rfl,hK⟩)
set_option maxRecDepth 100000 in
set_option maxHeartbeats 400000 in
theorem value_of(w:World){R nc:Nat}{z:TbS}{s:LSt}(hT:TbV w R nc z s)(hok:s.T.Ok):
    Calls Tryz.prog 66 #[.pointer (some ⟨R,0,none⟩)] w fun e w'=> ∃x:Duo Sl Sl,e=.returned (.agg #[.bool (isN s.g.r),.slice x.a.p x.a.l x.a.c,.slice x.b.p x.b.l x.b.c])/\SS w [qF (.agg #[.bool (isN s.g.r),.slice x.a.p x.a.l x.a.c,.slice x.b.p x.b.l x.b.c]) s.g.r] w':=by
  have hK:=SS.start w;have hT0:=hT;obtain⟨⟨rp,rl,rc⟩,⟨bp,bl,bc⟩,⟨fp,fl,fc⟩,⟨⟨gp,gl,gc⟩,gn,gy,gz⟩,rs⟩:=z;obtain⟨T,y0⟩:=s;obtain⟨hR,hW,hB,hF,hM,hG,hQ⟩:=hT;dsimp only at*;have nr:=hid (hW.one0.trans hM.len);have⟨nr1,nr2⟩:=lle nr.out;have nb:=hid hB.one0;have⟨nb1,nb2⟩:=lle nb.out;have nf:=hid hF.one0;have⟨nf1,nf2⟩:=lle nf.out;have⟨hbm,hbm2⟩:=lle hok.nb;obtain⟨hq0,_⟩:=ratV_cells' hQ;injection hq0 with hq0;subst hq0;refine Calls.hide (fun Q0 hQ0=>?_);go_enter Tryz.func66,Tryz.ntmps66;go_upto_region 0 with(fail);refine wp_region_T [3] hK ?_;clear hK;refine eA (.cells #[.bool false,.slice none 0 0,.slice none 0 0] 70) (fun R1=>?_);refine sxEnd (fun W2 hK=>?_);go_upto_region 1 with(fail);refine wp_region_T [0,0,0,0,0,4] hK ?_;clear hK
  iterate 4 refine e0 ?_
  refine eX0 (fun w k=>hR.below k.old) ?_;refine eP 0 0 [.bool (isN y0.r),.slice gy.p gy.l gy.c,.slice gz.p gz.l gz.c] ?_;refine sxEnd (fun W3 hK=>?_);have⟨c90,c91,c92⟩:=(hK.box m0).c3;go_wp2;exact bodyPost_ret (v:=.agg #[.bool (isN y0.r),.slice gy.p gy.l gy.c,.slice gz.p gz.l gz.c]) (by simp[results,Tryz.results66,go_sem,c90,c91,c92]) rfl (qo hQ0 ⟨⟨gy,gz⟩,rfl,(SS.start w).step hK.old|>.fact (qF _ _) (hQ.below hK.old)⟩)
set_option maxRecDepth 100000 in
set_option maxHeartbeats 400000 in
theorem point_any(w:World){R nc:Nat}{z:TbS}{s:LSt}(hT:TbV w R nc z s)(hok:s.T.Ok)(hm:s.T.rows.length<=100000)(hn:nc<=100000)(hxs:∀x∈s.T.basic,x<(s.T.rows.length:Int)+(nc:Int)):
    Calls Tryz.prog 63 #[.pointer (some ⟨R,0,none⟩)] w fun e w'=> ∃y:Sl,e=.returned (.slice y.p y.l y.c)/\SS w [rO ratK 70 y.p y.l y.c (pointL s.T.rows.length nc s.T)] w':=by
  have hK:=SS.start w;have hT0:=hT;obtain⟨⟨rp,rl,rc⟩,⟨bp,bl,bc⟩,⟨fp,fl,fc⟩,⟨⟨gp,gl,gc⟩,gn,gy,gz⟩,rs⟩:=z;obtain⟨T,y0⟩:=s;obtain⟨hR,hW,hB,hF,hM,hG,hQ⟩:=hT;dsimp only at*;have nr:=hid (hW.one0.trans hM.len);have⟨nr1,nr2⟩:=lle nr.out;have nb:=hid hB.one0;have⟨nb1,nb2⟩:=lle nb.out;have nf:=hid hF.one0;have⟨nf1,nf2⟩:=lle nf.out;have⟨hbm,hbm2⟩:=lle hok.nb;refine Calls.hide (fun Q0 hQ0=>?_);go_enter Tryz.func63,Tryz.ntmps63;go_upto_region 1 with(fail);refine wp_region_T [0,0,0,0,3,0] hK ?_;clear hK
  iterate 3 refine e0 ?_
  refine eX0 (fun w k=>hR.below k.old) ?_;refine eMk (K:=ratK) (t:=70) (x:=(0:Rat)) nc rat0 rfl infoQ (by show nc*3<=_;omega) (by decide) (fun g1=>?_);refine e0 ?_;refine sxEnd (fun W2 hK=>?_);replace hK:=hK.made (K:=ratK) (n:=nc) rat0 (by simp[maxLen];omega);go_upto_region 2 with(fail);refine wp_region_T [0,0,0,0,0,0] hK ?_;clear hK
  iterate 3 refine e0 ?_
  refine eX0 (fun w k=>hR.below k.old) ?_
  iterate 2 refine e0 ?_
  refine sxEnd (fun W3 hK=>?_);rw[show List.replicate nc (0:Rat)=plcN rl nc T.basic (T.rows.map (·.r)) 0 from(plcN_zero _ _ _ _).symm]at hK;go_wp2_with fail;go_loopw [16] (fun s16 wl=> ∃(k:Nat),s16=.int .i64 (k:Int)/\(k<=bl)/\SS w ([rO ratK 70 (some ⟨g1,0,none⟩) nc nc (plcN rl nc T.basic (T.rows.map (·.r)) k)]) wl) (fun s16 _=>bl-(intOf s16).toNat)
  case atStart=>exact⟨0,rfl,(by omega),hK⟩
  clear hK;obtain⟨k,rfl,hk,hK⟩:=hrel;generalize wr=W4 at hK⊢;go_upto_region 3 with(fail);refine wp_region_T [0] hK ?_;clear hK;refine eB (decide (((k:Int))<((bl:Int)))) (fun b1 hb1=>?_);refine sxEnd (fun W5 hK=>?_)
  cases b1
  . --
   have q_b1:=nlt hb1;rw[show plcN rl nc T.basic (T.rows.map (·.r)) k=pointL T.rows.length nc T from(by rw[nr.out];exact point_plc (by omega) (by omega))]at hK;go_wp2
   try go_ret
   show Q0 (.returned (.slice (some ⟨g1,0,none⟩) nc nc)) _
   exact(qo hQ0 ⟨⟨(some ⟨g1,0,none⟩),nc,nc⟩,rfl,hK⟩)
  have q_b1:=ylt hb1;have i6:k<bl:=(by omega);obtain⟨g6,o6,rfl⟩:=hB.pt i6;have l6:k<T.basic.length:=Nat.lt_of_lt_of_eq i6 (hB.one0);obtain⟨xb,exb⟩:=gtH l6;have hkr:k<T.rows.length:=(by omega);obtain⟨y,ey⟩:∃y,Hid (T.rows[k]?=some y):=⟨_,hid (List.getElem?_eq_getElem hkr)⟩;have hxn:=hxs xb (List.mem_of_getElem? exb.out);have hyr:=hid (show(T.rows.map (·.r))[k]?=some y.r by rw[List.getElem?_map,ey.out];rfl);go_upto_region 4 with(fail);refine wp_region_T [0,0,0,0,0] hK ?_;clear hK
  iterate 2 refine e0 ?_
  refine eR0 (fun w k=>(hB.below k.old).int exb.out) ?_
  iterate 2 refine e0 ?_
  refine sxEnd (fun W7 hK=>?_);go_upto_region 5 with(fail);refine wp_region_T [0,0,0,0,0,0,0] hK ?_;clear hK
  iterate 4 refine e0 ?_
  refine eX0 (fun w k=>hR.below k.old) ?_;refine e0 ?_;refine eB (decide (((rl:Int))<=xb)) (fun b2 hb2=>?_);refine sxEnd (fun W8 hK=>?_)
  cases b2
  . --
   have q_b2:=nle hb2;rw[show plcN rl nc T.basic (T.rows.map (·.r)) k=plcN rl nc T.basic (T.rows.map (·.r)) (k+1)from(plc_out hok.nd1 exb.out hyr.out (by left;omega))]at hK
   (try go_wp2)
   go_roundw
   case rel=>exact⟨k+1,(by first|rfl|go_num),(by omega),hK⟩
   case measure=>simp[intOf]<;>omega
  have q_b2:=ylt hb2;have hge:(rl:Int)<=xb:=by have q:=q_b2;omega
  obtain⟨i,hi⟩:∃i:Nat,Hid (xb=((rl+i:Nat):Int)):=⟨(xb-(rl:Int)).toNat,hid (by omega)⟩;have hie:=hi.out;have hil:i<nc:=(by omega);have hxj:=hid (show xb-(rl:Int)=(i:Int) by omega);clear hie;have i9:i<nc:=(by omega);have l9:i<(plcN rl nc T.basic (T.rows.map (·.r)) k).length:=Nat.lt_of_lt_of_eq i9 (hK.len m0);obtain⟨xl,exl⟩:=gtH l9;have i10:k<rl:=(by omega);obtain⟨g10,o10,rfl⟩:=hW.pt i10;have l10:k<rs.length:=Nat.lt_of_lt_of_eq i10 (hW.one0);obtain⟨x,ex⟩:=gtH l10;obtain⟨⟨x_p,x_l,x_c⟩,x_n,⟨x_yp,x_yl,x_yc⟩,⟨x_zp,x_zl,x_zc⟩⟩:=x;have hxq:=hM.q ex.out ey.out;dsimp only[Rw4.q]at hxq;replace hK:=hK.fact (qF (.agg #[.bool x_n,.slice x_yp x_yl x_yc,.slice x_zp x_zl x_zc]) y.r) (hxq.below hK.old);go_upto_region 6 with(fail);refine wp_region_S _ [0,0,0,0,0,0,0,0,0,0,0,0,0,0,0,0,0,4] hK ?_ (sK2 (sC2 sZ2));clear hK
  iterate 5 refine e0 ?_
  refine eX0 (fun w k=>hR.below k.old) ?_;refine e0 ?_;refine eV (.int .i64 (i:Int)) (fun w'=>by go_simp;(try go_bits);have q:=hxj.out;first|exact⟨congrArg (Value.int .i64) q,rfl⟩|(rw[wrap_sub_of];exact⟨congrArg (Value.int .i64) q,rfl⟩)) ?_
  iterate 3 refine e0 ?_
  refine eX0 (fun w k=>hR.below k.old) ?_
  iterate 3 refine e0 ?_
  refine eRm0 (F:=fun w=>SlV rw4K w (.slice (some ⟨g10,o10,none⟩) rl rc) rs) (fun w k=>hW.below k.old) (h1:=by intro w' k;have c0:=k.rw40 ex.out;have c1:=k.rw4 ex.out 1 rfl;have c2:=k.rw4 ex.out 2 rfl;have c3:=k.rw4 ex.out 3 rfl;go_simp;(try go_bits);exact⟨rfl,rfl⟩) ?_;refine e0 ?_;refine eWQ (y:=y.r) 1 (by rw[plcN_len];exact hil) m0 ?_ (hi:=rfl) (hs:=(sK2 (sC2 sZ2)));refine sxEnd (fun W11 hK=>?_);rw[show(plcN rl nc T.basic (T.rows.map (·.r)) k).set i y.r=plcN rl nc T.basic (T.rows.map (·.r)) (k+1)from(plc_in hok.nd1 exb.out hyr.out hi.out hil)]at hK
  (try go_wp2)
  go_roundw
  case rel=>exact⟨k+1,(by first|rfl|go_num),(by omega),(hK.subl (sC2 (sR)))⟩
  case measure=>simp[intOf]<;>omega
set_option maxRecDepth 100000 in
set_option maxHeartbeats 1000000 in
theorem ray_any(w:World)(j:Nat){R nc:Nat}{z:TbS}{s:LSt}(hT:TbV w R nc z s)(hok:s.T.Ok)(hm:s.T.rows.length<=100000)(hn:nc<=100000)(hxs:∀x∈s.T.basic,x<(s.T.rows.length:Int)+(nc:Int))(hj:entN s.g.cs s.T.free s.g.cs.length=(j:Int))(hl:s.g.cs.length=s.T.free.length)(hnf:s.T.free.length<=100000)(hfs:∀x∈s.T.free,x<(s.T.rows.length:Int)+(nc:Int)):
    Calls Tryz.prog 64 #[.pointer (some ⟨R,0,none⟩)] w fun e w'=> ∃y:Sl,e=.returned (.slice y.p y.l y.c)/\SS w [rO ratK 70 y.p y.l y.c (rayL s.T.rows.length nc s.T j)] w':=by
  have hK:=SS.start w;have hT0:=hT;obtain⟨⟨rp,rl,rc⟩,⟨bp,bl,bc⟩,⟨fp,fl,fc⟩,⟨⟨gp,gl,gc⟩,gn,gy,gz⟩,rs⟩:=z;obtain⟨T,y0⟩:=s;obtain⟨hR,hW,hB,hF,hM,hG,hQ⟩:=hT;dsimp only at*;have nr:=hid (hW.one0.trans hM.len);have⟨nr1,nr2⟩:=lle nr.out;have nb:=hid hB.one0;have⟨nb1,nb2⟩:=lle nb.out;have nf:=hid hF.one0;have⟨nf1,nf2⟩:=lle nf.out;have⟨hbm,hbm2⟩:=lle hok.nb;have hjl:j<T.free.length:=by have q:=(ent_some (s:=⟨T,y0⟩) hj).1;rw[<-hl];exact q
  replace hj:=hid hj;refine Calls.hide (fun Q0 hQ0=>?_);go_enter Tryz.func64,Tryz.ntmps64;go_upto_region 1 with(fail);refine wp_region_T [0,0,0,0,3,0] hK ?_;clear hK
  iterate 3 refine e0 ?_
  refine eX0 (fun w k=>hR.below k.old) ?_;refine eMk (K:=ratK) (t:=70) (x:=(0:Rat)) nc rat0 rfl infoQ (by show nc*3<=_;omega) (by decide) (fun g1=>?_);refine e0 ?_;refine sxEnd (fun W2 hK=>?_);replace hK:=hK.made (K:=ratK) (n:=nc) rat0 (by simp[maxLen];omega);go_upto_region 2 with(fail);refine wp_region_T [0,0,0,0,1,0] hK ?_;clear hK
  iterate 4 refine e0 ?_
  refine eQ (fun w k=>(ent_any w (plG R ⟨rp,rl,rc⟩ ⟨bp,bl,bc⟩ ⟨fp,fl,fc⟩ (nc:Int)) (Has.below (base:=0) hR k.old) (Has.below (base:=0) hR k.old) (hF.below k.old) (hG.below k.old) (Nat.le_of_eq hl) hnf).mono fun _ _ q=>by rw[hj.out]at q;exact q) ?_;refine e0 ?_;refine sxEnd (fun W3 hK=>?_);go_upto_region 3 with(fail);refine wp_region_T [0,0] hK ?_;clear hK;refine e0 ?_;refine eV (.bool false) (fun w'=>by go_simp;(try go_bits);exact⟨congrArg Value.bool (decide_eq_false (by omega)),rfl⟩) ?_;refine sxEnd (fun W4 hK=>?_);have i5:j<fl:=(by omega);obtain⟨g5,o5,rfl⟩:=hF.pt i5;have l5:j<T.free.length:=Nat.lt_of_lt_of_eq i5 (hF.one0);obtain⟨xf,exf⟩:=gtH l5;have hxf:=hfs xf (List.mem_of_getElem? exf.out);have hfd:=hid (getD_of (d:=(0:Int)) exf.out);go_upto_region 5 with(fail);refine wp_region_T [0,0,0,0,0,0,0,0] hK ?_;clear hK
  iterate 3 refine e0 ?_
  refine eX0 (fun w k=>hR.below k.old) ?_
  iterate 2 refine e0 ?_
  refine eR0 (fun w k=>(hF.below k.old).int exf.out) ?_;refine e0 ?_;refine sxEnd (fun W6 hK=>?_);go_upto_region 6 with(fail);refine wp_region_T [0,0,0,0,0,0,0] hK ?_;clear hK
  iterate 4 refine e0 ?_
  refine eX0 (fun w k=>hR.below k.old) ?_;refine e0 ?_;refine eB (decide (((rl:Int))<=xf)) (fun b1 hb1=>?_);refine sxEnd (fun W7 hK=>?_);go_upto_if 34 with(fail);go_cut []from 9999 to 9999 (fun wl=>SS w ([rO ratK 70 (some ⟨g1,0,none⟩) nc nc (rayN rl nc T j 0)]) wl)
  case first=>
   cases b1
   . --
    have q_b1:=nle hb1;rw[show List.replicate nc (0:Rat)=rayN rl nc T j 0 from(ray_zero_out (by rw[hfd.out];left;omega))]at hK
    (try go_wp2)
    go_meet
    case rel=>exact hK
   have q_b1:=ylt hb1;have hge:(rl:Int)<=xf:=by have q:=q_b1;omega
   obtain⟨i,hi⟩:∃i:Nat,Hid (xf=((rl+i:Nat):Int)):=⟨(xf-(rl:Int)).toNat,hid (by omega)⟩;have hie:=hi.out;have hil:i<nc:=(by omega);have hxj:=hid (show xf-(rl:Int)=(i:Int) by omega);clear hie;have i8:i<nc:=(by omega);have l8:i<(List.replicate nc (0:Rat)).length:=Nat.lt_of_lt_of_eq i8 (hK.len m0);obtain⟨xl,exl⟩:=gtH l8;go_upto_region 7 with(fail);refine wp_region_S _ [0,0,0,0,0,0,0,0,2,0,4] hK ?_ (sC2 sZ2);clear hK
   iterate 5 refine e0 ?_
   refine eX0 (fun w k=>hR.below k.old) ?_;refine e0 ?_;refine eV (.int .i64 (i:Int)) (fun w'=>by go_simp;(try go_bits);have q:=hxj.out;first|exact⟨congrArg (Value.int .i64) q,rfl⟩|(rw[wrap_sub_of];exact⟨congrArg (Value.int .i64) q,rfl⟩)) ?_;refine eC (fun w k=>rat_S (qint_any 1 w (by omega) (by omega))) (fun x9=>?_);obtain⟨⟨p10,l10,c10⟩,⟨q10,u10,d10⟩⟩:=x9;dsimp only;refine e0 ?_;refine eWQ (y:=((1:Int):Rat)) 1 (by rw[List.length_replicate];exact hil) m0 ?_ (hi:=rfl) (hs:=(sC2 (sC2 sZ2)));refine sxEnd (fun W11 hK=>?_);rw[show(List.replicate nc (0:Rat)).set i ((1:Int):Rat)=rayN rl nc T j 0 from(ray_zero_in (hfd.out.trans hi.out) hil)]at hK
   (try go_wp2)
   go_meet
   case rel=>exact(hK.subl (sC2 (sR)))
  clear hK;have hK:=hcut;clear hcut;generalize wc=W12 at hK⊢;go_upto_region 8 with(fail);refine wp_region_T [0,0,0,0,0,0] hK ?_;clear hK
  iterate 3 refine e0 ?_
  refine eX0 (fun w k=>hR.below k.old) ?_
  iterate 2 refine e0 ?_
  refine sxEnd (fun W13 hK=>?_);go_wp2_with fail;go_loopw [50] (fun s50 wl=> ∃(k:Nat),s50=.int .i64 (k:Int)/\(k<=bl)/\SS w ([rO ratK 70 (some ⟨g1,0,none⟩) nc nc (rayN rl nc T j k)]) wl) (fun s50 _=>bl-(intOf s50).toNat)
  case atStart=>exact⟨0,rfl,(by omega),hK⟩
  clear hK;obtain⟨k,rfl,hk,hK⟩:=hrel;generalize wr=W14 at hK⊢;go_upto_region 9 with(fail);refine wp_region_T [0] hK ?_;clear hK;refine eB (decide (((k:Int))<((bl:Int)))) (fun b2 hb2=>?_);refine sxEnd (fun W15 hK=>?_)
  cases b2
  . --
   have q_b2:=nlt hb2;rw[show rayN rl nc T j k=rayL T.rows.length nc T j from(by rw[nr.out];exact ray_all (by omega) (by omega))]at hK;go_wp2
   try go_ret
   show Q0 (.returned (.slice (some ⟨g1,0,none⟩) nc nc)) _
   exact(qo hQ0 ⟨⟨(some ⟨g1,0,none⟩),nc,nc⟩,rfl,hK⟩)
  have q_b2:=ylt hb2;have i16:k<bl:=(by omega);obtain⟨g16,o16,rfl⟩:=hB.pt i16;have l16:k<T.basic.length:=Nat.lt_of_lt_of_eq i16 (hB.one0);obtain⟨xb,exb⟩:=gtH l16;have hkr:k<T.rows.length:=(by omega);obtain⟨y,ey⟩:∃y,Hid (T.rows[k]?=some y):=⟨_,hid (List.getElem?_eq_getElem hkr)⟩;have hxn:=hxs xb (List.mem_of_getElem? exb.out);have hyr:=hid (show(T.rows.map (·.r))[k]?=some y.r by rw[List.getElem?_map,ey.out];rfl);have hyc:=hid (hok.cl y (List.mem_of_getElem? ey.out));go_upto_region 10 with(fail);refine wp_region_T [0,0,0,0,0] hK ?_;clear hK
  iterate 2 refine e0 ?_
  refine eR0 (fun w k=>(hB.below k.old).int exb.out) ?_
  iterate 2 refine e0 ?_
  refine sxEnd (fun W17 hK=>?_);go_upto_region 11 with(fail);refine wp_region_T [0,0,0,0,0,0,0] hK ?_;clear hK
  iterate 4 refine e0 ?_
  refine eX0 (fun w k=>hR.below k.old) ?_;refine e0 ?_;refine eB (decide (((rl:Int))<=xb)) (fun b3 hb3=>?_);refine sxEnd (fun W18 hK=>?_)
  cases b3
  . --
   have q_b3:=nle hb3;rw[show rayN rl nc T j k=rayN rl nc T j (k+1)from(ray_out hok exb.out ey.out (by left;omega))]at hK
   (try go_wp2)
   go_roundw
   case rel=>exact⟨k+1,(by first|rfl|go_num),(by omega),hK⟩
   case measure=>simp[intOf]<;>omega
  have q_b3:=ylt hb3;have hge:(rl:Int)<=xb:=by have q:=q_b3;omega
  obtain⟨i,hi⟩:∃i:Nat,Hid (xb=((rl+i:Nat):Int)):=⟨(xb-(rl:Int)).toNat,hid (by omega)⟩;have hie:=hi.out;have hil:i<nc:=(by omega);have hxj:=hid (show xb-(rl:Int)=(i:Int) by omega);clear hie;have i19:i<nc:=(by omega);have l19:i<(rayN rl nc T j k).length:=Nat.lt_of_lt_of_eq i19 (hK.len m0);obtain⟨xl,exl⟩:=gtH l19;have i20:k<rl:=(by omega);obtain⟨g20,o20,rfl⟩:=hW.pt i20;have l20:k<rs.length:=Nat.lt_of_lt_of_eq i20 (hW.one0);obtain⟨x,ex⟩:=gtH l20;obtain⟨⟨x_p,x_l,x_c⟩,x_n,⟨x_yp,x_yl,x_yc⟩,⟨x_zp,x_zl,x_zc⟩⟩:=x;have hxc:=hM.cs ex.out ey.out;dsimp only at hxc;have hxa:=Nat.le_of_eq hxc.one0.symm;have i21:j<x_l:=(by have q:=hyc.out;omega);obtain⟨g21,o21,rfl⟩:=hxc.pt i21;have l21:j<y.cs.length:=Nat.lt_of_lt_of_eq i21 (hxc.one0);obtain⟨xc,exc⟩:=gtH l21;obtain⟨_,_,_,xc_c,xc_r⟩:=hxc.rat exc.out;obtain⟨rfl,⟨xc_p,xc_n,xc_d,rfl⟩,xc_q,xc_m,xc_e,rfl⟩:=ratV_cells' xc_r;have hneg:=hid (show-xc=0-y.cs.getD j 0 by rw[getD_of exc.out];grind);go_upto_region 12 with(fail);refine wp_region_S _ [0,0,0,0,0,0,0,0,0,0,0,0,0,0,0,0,0,0,0,2,0,4] hK ?_ (sC2 sZ2);clear hK
  iterate 5 refine e0 ?_
  refine eX0 (fun w k=>hR.below k.old) ?_;refine e0 ?_;refine eV (.int .i64 (i:Int)) (fun w'=>by go_simp;(try go_bits);have q:=hxj.out;first|exact⟨congrArg (Value.int .i64) q,rfl⟩|(rw[wrap_sub_of];exact⟨congrArg (Value.int .i64) q,rfl⟩)) ?_
  iterate 3 refine e0 ?_
  refine eX0 (fun w k=>hR.below k.old) ?_
  iterate 3 refine e0 ?_
  refine eRm0 (F:=fun w=>SlV rw4K w (.slice (some ⟨g20,o20,none⟩) rl rc) rs) (fun w k=>hW.below k.old) (h1:=by intro w' k;have c0:=k.rw40 ex.out;have c1:=k.rw4 ex.out 1 rfl;have c2:=k.rw4 ex.out 2 rfl;have c3:=k.rw4 ex.out 3 rfl;go_simp;(try go_bits);exact⟨rfl,rfl⟩) ?_
  iterate 2 refine e0 ?_
  refine eRm3 (fun w k=>xc_c.below k.old) ?_;refine eC (fun w k=>rat_S (qneg_any _ _ w (xc_r.below k.old))) (fun x22=>?_);obtain⟨⟨p23,l23,c23⟩,⟨q23,u23,d23⟩⟩:=x22;dsimp only;refine e0 ?_;refine eWQ (y:=(-xc)) 1 (by rw[rayN_len];exact hil) m0 ?_ (hi:=rfl) (hs:=(sC2 (sC2 sZ2)));refine sxEnd (fun W24 hK=>?_);rw[show(rayN rl nc T j k).set i (-xc)=rayN rl nc T j (k+1)from(by rw[hneg.out];exact ray_in hok hjl exb.out ey.out hi.out hil)]at hK
  (try go_wp2)
  go_roundw
  case rel=>exact⟨k+1,(by first|rfl|go_num),(by omega),(hK.subl (sC2 (sR)))⟩
  case measure=>simp[intOf]<;>omega
end
section
def RsNil(rs:List Rw4):Prop:= ∀x∈rs,x.s=⟨none,0,0⟩
def NilZ(z:TbS):Prop:=RsNil z.rs/\z.g.s=⟨none,0,0⟩/\z.f=⟨none,0,0⟩
theorem T0_map(bs:List Rat):bs.map (fun b=>(⟨[],b⟩:LRow))=(T0 bs).rows:=by
  unfold T0;refine List.ext_getElem? fun i=>?_
  by_cases hi:i<bs.length
  . simp[List.getD,hi]
  simp[hi]
set_option maxRecDepth 100000 in
set_option maxHeartbeats 400000 in
theorem new_any(w:World){p_h0:Option Addr}{n_h0 c_h0:Nat}{bs:List Rat}(hh0:SlV ratK w (.slice p_h0 n_h0 c_h0) bs)(hb0:n_h0<=100000):
    Calls Tryz.prog 59 #[.slice p_h0 n_h0 c_h0] w fun e w'=> ∃a:Duo Nat TbS,e=.returned (.pointer (some ⟨a.a,0,none⟩))/\SS w [tbF a.a 0 a.b ⟨T0 bs,⟨[],0⟩⟩,cF (NilZ a.b)] w':=by
  have hK:=SS.start w;have⟨nh1,nh2⟩:=lle hh0.one0;refine Calls.hide (fun Q0 hQ0=>?_);go_enter Tryz.func59,Tryz.ntmps59;go_upto_region 1 with(fail);refine wp_region_T [0,3,0] hK ?_;clear hK;refine e0 ?_;refine eA (.cells #[.slice none 0 0,.slice none 0 0,.slice none 0 0,.slice none 0 0,.bool false,.slice none 0 0,.slice none 0 0,.int .i64 0] 151) (fun R1=>?_);refine e0 ?_;refine sxEnd (fun W2 hK=>?_);replace hK:=hK.fact (rO rw4K 149 none 0 0 ([]:List Rw4)) OwV.nil (fun _ h=>by cases h);replace hK:=hK.fact (rO intK 3 none 0 0 (slk 0)) OwV.nil (fun _ h=>by cases h);replace hK:=hK.rwZ 70;go_wp2_with fail;go_loopw [10] (fun s10 wl=> ∃(m:Nat) (rs:List Rw4) (pr:Option Addr) (nr:Nat) (cr:Nat) (pb:Option Addr) (nb:Nat) (cb:Nat),s10=.int .i64 (m:Int)/\(m<=n_h0)/\Hid (rs.length=((bs.take m).map fun b=>(⟨[],b⟩:LRow)).length)/\Hid (RsNil rs)/\Hid (rs=[]->pr=none)/\Hid (slk m=[]->pb=none)/\SS w ([bx R1 (.cells #[.slice pr nr cr,.slice pb nb cb,.slice none 0 0,.slice none 0 0,.bool false,.slice none 0 0,.slice none 0 0,.int .i64 0] 151),rO rw4K 149 pr nr cr rs,rO intK 3 pb nb cb (slk m),fmF 70 rs ((bs.take m).map fun b=>(⟨[],b⟩:LRow)) []]) wl) (fun s10 _=>n_h0-(intOf s10).toNat)
  case atStart=>exact⟨0,[],none,0,0,none,0,0,rfl,(by omega),hid rfl,hid (fun x hx=>absurd hx List.not_mem_nil),hid (fun _=>rfl),hid (fun _=>rfl),hK.up1.up2.up3⟩
  clear hK;obtain⟨m,rs,pr,nr,cr,pb,nb,cb,rfl,hk,h_l,h_s,h_r,h_b,hK⟩:=hrel;generalize wr=W3 at hK⊢;go_upto_region 3 with(fail);refine wp_region_T [0] hK ?_;clear hK;refine eB (decide (((m:Int))<((n_h0:Int)))) (fun b1 hb1=>?_);refine sxEnd (fun W4 hK=>?_)
  cases b1
  . --
   have q_b1:=nlt hb1;obtain rfl:m=bs.length:=(by omega);have hTr:((bs.take bs.length).map fun b=>(⟨[],b⟩:LRow))=(T0 bs).rows:=(by rw[List.take_length];exact T0_map bs);rw[hTr]at hK h_l;have hl:=h_l.out;replace hK:=hK.fact (rO intK 3 none 0 0 ([]:List Int)) OwV.nil (fun _ h=>by cases h);replace hK:=hK.fact (rO ratK 70 none 0 0 ([]:List Rat)) OwV.nil (fun _ h=>by cases h);replace hK:=hK.fact (qF (.agg #[.bool false,.slice none 0 0,.slice none 0 0]) (0:Rat)) (RatV.zero _);replace hK:=hK.up1;replace hK:=hK.up6;replace hK:=hK.up3;replace hK:=hK.up6;replace hK:=hK.up6;replace hK:=hK.up6;go_wp2
   try go_ret
   show Q0 (.returned (.pointer (some ⟨R1,0,none⟩))) _
   exact(qo hQ0 ⟨⟨R1,⟨⟨pr,nr,cr⟩,⟨pb,nb,cb⟩,⟨none,0,0⟩,⟨⟨none,0,0⟩,false,⟨none,0,0⟩,⟨none,0,0⟩⟩,rs⟩⟩,rfl,((SS.tb.2 (hK.fact (cF _) hl)).fact (cF _) (show NilZ _ from⟨h_s.out,rfl,rfl⟩)).up1⟩)
  have q_b1:=ylt hb1;have i5:m<n_h0:=(by omega);obtain⟨g5,o5,rfl⟩:=hh0.pt i5;have l5:m<bs.length:=Nat.lt_of_lt_of_eq i5 (hh0.one0);obtain⟨xb,exb⟩:=gtH l5;obtain⟨_,_,_,xb_c,xb_r⟩:=hh0.rat exb.out;obtain⟨rfl,⟨xb_p,xb_n,xb_d,rfl⟩,xb_q,xb_m,xb_e,rfl⟩:=ratV_cells' xb_r;replace hK:=hK.fact (qF (.agg #[.bool (isN xb),.slice xb_p xb_n xb_d,.slice xb_q xb_m xb_e]) xb) (xb_r.below hK.old);go_upto_region 4 with(fail);refine wp_region_T [0,0,0,3,0,4] hK ?_;clear hK
  iterate 2 refine e0 ?_
  refine eRm3 (fun w k=>xb_c.below k.old) ?_;refine eA (.cells #[.bool false,.slice none 0 0,.slice none 0 0] 70) (fun R6=>?_);refine e0 ?_;refine eP 0 0 [.bool (isN xb),.slice xb_p xb_n xb_d,.slice xb_q xb_m xb_e] ?_ (hq:=.inr ⟨rfl,rfl,rfl,rfl,rfl,trivial⟩);refine sxEnd (fun W7 hK=>?_);go_upto_region 5 with(fail);refine wp_region_S _ [0,0,0,0,1,0,0,3,5,0,0,4] hK ?_ (sK2 (sK2 (sC2 (sC2 (sR)))));clear hK
  iterate 4 refine e0 ?_
  refine eL m2 ?_;refine eL0 m0 ?_;refine e0 ?_;refine eA (.cells #[.slice none 0 0,.bool (isN xb),.slice xb_p xb_n xb_d,.slice xb_q xb_m xb_e] 149) (fun R8=>?_);refine eAppK 3 rw4K_hd rfl 4 h_r.out rfl infoW (fun w k=>k.one1 (K:=rw4K) (x:=⟨⟨none,0,0⟩,(isN xb),⟨xb_p,xb_n,xb_d⟩,⟨xb_q,xb_m,xb_e⟩⟩) m0 rfl) (by rw[h_l.out];simp;omega) (fun x9=>?_) (hs:=fun _=>(sC2 (sK2 (sK2 (sC2 (sC2 (sR)))))));obtain⟨p9,n9,c9⟩:=x9;dsimp only
  iterate 2 refine e0 ?_
  refine eP 3 0 [.slice p9 n9 c9] ?_ (hs:=(sC2 (sK2 (sK2 (sC2 (sC2 (sR))))))) (hq:=.inr ⟨rfl,rfl,rfl,rfl,rfl,rfl,trivial⟩);refine sxEnd (fun W10 hK=>?_);go_upto_region 6 with(fail);refine wp_region_T [0,0,0,0,1,0,3,5,0,0,4] hK ?_;clear hK
  iterate 4 refine e0 ?_
  refine eL m3 ?_;refine e0 ?_;refine eA (.cells #[.int .i64 (m:Int)] 3) (fun R11=>?_);refine eAppK 1 intK_hd rfl 6 h_b.out rfl infoZ (fun w k=>k.one1 (K:=intK) (x:=(m:Int)) m0 rfl) (by rw[slk_len];simp;omega) (fun x12=>?_);obtain⟨p12,n12,c12⟩:=x12;dsimp only
  iterate 2 refine e0 ?_
  refine eP 4 1 [.slice p12 n12 c12] ?_ (hq:=.inr ⟨rfl,rfl,rfl,rfl,rfl,rfl,rfl,trivial⟩);refine sxEnd (fun W13 hK=>?_);rw[show(slk m)++[(m:Int)]=slk (m+1)from(slk_snoc m)]at hK;replace hK:=hK.fact (rO ratK 70 none 0 0 ([]:List Rat)) OwV.nil (fun _ h=>by cases h);replace hK:=hK.up8;replace hK:=hK.up5;replace hK:=hK.up2;replace hK:=SS.rwN (x:=⟨⟨none,0,0⟩,(isN xb),⟨xb_p,xb_n,xb_d⟩,⟨xb_q,xb_m,xb_e⟩⟩) (y:=⟨[],xb⟩) hK h_l.out;rw[show((bs.take m).map fun b=>(⟨[],b⟩:LRow))++[⟨[],xb⟩]=(bs.take (m+1)).map fun b=>(⟨[],b⟩:LRow)from by rw[List.take_add_one,exb.out];simp]at hK
  (try go_wp2)
  go_roundw
  case rel=>exact⟨m+1,rs++[⟨⟨none,0,0⟩,(isN xb),⟨xb_p,xb_n,xb_d⟩,⟨xb_q,xb_m,xb_e⟩⟩],p9,n9,c9,p12,n12,c12,(by first|rfl|go_num),(by omega),hid (by rw[List.length_append,h_l.out];simp;omega),hid (fun x hx=>(List.mem_append.1 hx).elim (h_s.out x) fun h=>by rw[List.mem_singleton.1 h]),hid (fun e=>by simp at e),hid (fun e=>absurd (congrArg List.length e) (by rw[slk_len];simp)),(hK.subl (sK2 (sC2 (sC2 (sC2 (sR)))))).up3.up3.up3⟩
  case measure=>simp[intOf]<;>omega
set_option maxRecDepth 100000 in
set_option maxHeartbeats 400000 in
theorem adc_any(w V:World)(L:Lns){xp vp:Option Addr}{xl xc vl vc:Nat}{xn:Bool}{xy xz:Sl}{cs vs:List Rat}(b:Int){B:Nat}{S:Nat}{C:Nat}(l:List Ft)(hK:SS V ((bx B (.cells #[.slice vp vl vc] 56))::(bx S (.cells #[.slice none 0 0] 31))::(L.f ⟨⟨xp,xl,xc⟩,xn,⟨xy.p,xy.l,xy.c⟩,⟨xz.p,xz.l,xz.c⟩⟩)::(rO ratK 70 xp xl xc cs)::(rO ratK 70 vp vl vc vs)::l) w)(tz2:OkA 2 l)(tz3:OkA 3 l)(he:cs=[]->xp=none)(hcl:cs.length<=100000)(hbl: -1<=b)(hbu:b<=100000)(_hvl:vl<=100000):
    Calls Tryz.prog 84 #[.pointer (some ⟨L.g,L.o,none⟩),.int .i64 b,.pointer (some ⟨B,0,none⟩),.pointer (some ⟨S,0,none⟩),.pointer (some ⟨C,0,none⟩)] w fun e w'=> ∃y:Sl,e=.returned (.tuple #[])/\SS V (bx B (.cells #[.slice vp vl vc] 56)::bx S (.cells #[.slice none 0 0] 31)::L.f ⟨y,xn,xy,xz⟩::rO ratK 70 y.p y.l y.c (cs++[colC vs b])::rO ratK 70 vp vl vc vs::l) w':=by
  have nv:=hid (hK.len m4);have⟨nv1,nv2⟩:=lle nv.out;refine Calls.hide (fun Q0 hQ0=>?_);go_enter Tryz.func84,Tryz.ntmps84;go_upto_region 0 with(fail);refine wp_region_T [3] hK ?_;clear hK;refine eA (.cells #[.bool false,.slice none 0 0,.slice none 0 0] 70) (fun R1=>?_);refine sxEnd (fun W2 hK=>?_);go_upto_region 1 with(fail);refine wp_region_T [0,0,0,0,1,0,0,0] hK ?_;clear hK;refine e0 ?_;refine eB (decide (0<=b)) (fun b1 hb1=>?_);refine e0 ?_
  cases b1
  . --
   have q_b1:=nle hb1
   iterate 4 refine eN ?_
   refine e0 ?_;refine sxEnd (fun W3 hK=>?_);go_upto_region 3 with(fail);refine wp_region_T [1,0,0] hK ?_;clear hK;refine eL m2 ?_
   iterate 2 refine e0 ?_
   refine sxEnd (fun W4 hK=>?_);go_wp2_with fail;go_loopw [24] (fun s24 wl=> ∃(gu:Nat),s24=.int .i64 0/\SS V ((bx R1 (.cells #[.bool false,.slice none 0 0,.slice none 0 0] 70))::(bx B (.cells #[.slice vp vl vc] 56))::(bx S (.cells #[.slice none 0 0] 31))::(L.f ⟨⟨xp,xl,xc⟩,xn,⟨xy.p,xy.l,xy.c⟩,⟨xz.p,xz.l,xz.c⟩⟩)::(rO ratK 70 xp xl xc cs)::(rO ratK 70 vp vl vc vs)::l) wl) (fun s24 _=>0)
   case atStart=>exact⟨0,rfl,hK⟩
   clear hK;obtain⟨gu,rfl,hK⟩:=hrel;generalize wr=W5 at hK⊢;go_upto_region 4 with(fail);refine wp_region_T [0] hK ?_;clear hK;refine eV (.bool false) (fun w'=>by go_simp;(try go_bits);exact⟨rfl,rfl⟩) ?_;refine sxEnd (fun W6 hK=>?_);replace hK:=hK.fact (qF (.agg #[.bool false,.slice none 0 0,.slice none 0 0]) (0:Rat)) (RatV.zero _);go_upto_region 8 with(fail);refine wp_region_S _ [0,0,0,0,1,0,3,5,0,0,4] hK ?_ (sK2 (sK2 (sK2 (sK2 (sC2 (sC2 (sR)))))));clear hK
   iterate 4 refine e0 ?_
   refine eRm (F:=(L.f ⟨⟨xp,xl,xc⟩,xn,⟨xy.p,xy.l,xy.c⟩,⟨xz.p,xz.l,xz.c⟩⟩).F) (fun w k=>k.get m4) (h1:=by intro w' k;have c0:=L.rd0 k;go_simp;(try go_bits);exact⟨rfl,rfl⟩) ?_;refine eL0 m1 ?_;refine eA (.cells #[.bool false,.slice none 0 0,.slice none 0 0] 70) (fun R7=>?_);refine eAppK 2 ratK_hd rfl 6 he rfl infoQ (fun w k=>k.one1 (K:=ratK) (x:=(0:Rat)) m0 ⟨_,_,_,rfl,k.q m1⟩) (by simp;omega) (fun x8=>?_) (hs:=fun _=>(sC2 (sK2 (sK2 (sK2 (sK2 (sC2 (sC2 (sR)))))))));obtain⟨p8,n8,c8⟩:=x8;dsimp only
   iterate 2 refine e0 ?_
   refine eLw ⟨⟨p8,n8,c8⟩,xn,⟨xy.p,xy.l,xy.c⟩,⟨xz.p,xz.l,xz.c⟩⟩ 5 0 [.slice p8 n8 c8] ?_ (hs:=(sC2 (sK2 (sK2 (sK2 (sK2 (sC2 (sC2 (sR))))))))) (h1:=by intro w' k;have c0:=L.rd0 k;have c1:=L.rd1 k;have f:=L.fz k;go_simp;exact⟨rfl,rfl⟩);refine sxEnd (fun W9 hK=>?_);rw[show cs++[(0:Rat)]=cs++[colC vs b]from(by rw[colC_neg q_b1])]at hK;replace hK:=hK.subl (sC2 (sC2 (sC2 (sR))));go_wp2
   first|exact bodyPost_ret (v:=.tuple #[]) (results_none (by simp[Tryz.results84]) _ _ _) rfl (qo hQ0 ⟨⟨p8,n8,c8⟩,rfl,hK⟩)|exact bodyPost_end (v:=.tuple #[]) (results_none (by simp[Tryz.results84]) _ _ _) rfl (qo hQ0 ⟨⟨p8,n8,c8⟩,rfl,hK⟩)
  have q_b1:=ylt hb1;refine e0 ?_;refine eL m1 ?_;refine e0 ?_;refine eB (decide (b<((vl:Int)))) (fun b2 hb2=>?_);refine e0 ?_;refine sxEnd (fun W10 hK=>?_)
  cases b2
  . --
   have q_b2:=nlt hb2;go_upto_region 3 with(fail);refine wp_region_T [1,0,0] hK ?_;clear hK;refine eL m2 ?_
   iterate 2 refine e0 ?_
   refine sxEnd (fun W11 hK=>?_);go_wp2_with fail;go_loopw [24] (fun s24 wl=> ∃(gu:Nat),s24=.int .i64 0/\SS V ((bx R1 (.cells #[.bool false,.slice none 0 0,.slice none 0 0] 70))::(bx B (.cells #[.slice vp vl vc] 56))::(bx S (.cells #[.slice none 0 0] 31))::(L.f ⟨⟨xp,xl,xc⟩,xn,⟨xy.p,xy.l,xy.c⟩,⟨xz.p,xz.l,xz.c⟩⟩)::(rO ratK 70 xp xl xc cs)::(rO ratK 70 vp vl vc vs)::l) wl) (fun s24 _=>0)
   case atStart=>exact⟨0,rfl,hK⟩
   clear hK;obtain⟨gu,rfl,hK⟩:=hrel;generalize wr=W12 at hK⊢;go_upto_region 4 with(fail);refine wp_region_T [0] hK ?_;clear hK;refine eV (.bool false) (fun w'=>by go_simp;(try go_bits);exact⟨rfl,rfl⟩) ?_;refine sxEnd (fun W13 hK=>?_);replace hK:=hK.fact (qF (.agg #[.bool false,.slice none 0 0,.slice none 0 0]) (0:Rat)) (RatV.zero _);go_upto_region 8 with(fail);refine wp_region_S _ [0,0,0,0,1,0,3,5,0,0,4] hK ?_ (sK2 (sK2 (sK2 (sK2 (sC2 (sC2 (sR)))))));clear hK
   iterate 4 refine e0 ?_
   refine eRm (F:=(L.f ⟨⟨xp,xl,xc⟩,xn,⟨xy.p,xy.l,xy.c⟩,⟨xz.p,xz.l,xz.c⟩⟩).F) (fun w k=>k.get m4) (h1:=by intro w' k;have c0:=L.rd0 k;go_simp;(try go_bits);exact⟨rfl,rfl⟩) ?_;refine eL0 m1 ?_;refine eA (.cells #[.bool false,.slice none 0 0,.slice none 0 0] 70) (fun R14=>?_);refine eAppK 2 ratK_hd rfl 6 he rfl infoQ (fun w k=>k.one1 (K:=ratK) (x:=(0:Rat)) m0 ⟨_,_,_,rfl,k.q m1⟩) (by simp;omega) (fun x15=>?_) (hs:=fun _=>(sC2 (sK2 (sK2 (sK2 (sK2 (sC2 (sC2 (sR)))))))));obtain⟨p15,n15,c15⟩:=x15;dsimp only
   iterate 2 refine e0 ?_
   refine eLw ⟨⟨p15,n15,c15⟩,xn,⟨xy.p,xy.l,xy.c⟩,⟨xz.p,xz.l,xz.c⟩⟩ 5 0 [.slice p15 n15 c15] ?_ (hs:=(sC2 (sK2 (sK2 (sK2 (sK2 (sC2 (sC2 (sR))))))))) (h1:=by intro w' k;have c0:=L.rd0 k;have c1:=L.rd1 k;have f:=L.fz k;go_simp;exact⟨rfl,rfl⟩);refine sxEnd (fun W16 hK=>?_);rw[show cs++[(0:Rat)]=cs++[colC vs b]from(by rw[colC_out (by omega)])]at hK;replace hK:=hK.subl (sC2 (sC2 (sC2 (sR))));go_wp2
   first|exact bodyPost_ret (v:=.tuple #[]) (results_none (by simp[Tryz.results84]) _ _ _) rfl (qo hQ0 ⟨⟨p15,n15,c15⟩,rfl,hK⟩)|exact bodyPost_end (v:=.tuple #[]) (results_none (by simp[Tryz.results84]) _ _ _) rfl (qo hQ0 ⟨⟨p15,n15,c15⟩,rfl,hK⟩)
  have q_b2:=ylt hb2;obtain⟨k9,rfl⟩:=Int.eq_ofNat_of_zero_le q_b1;have i17:k9<vl:=(by have q:=of_decide_eq_true hb2.out;omega);obtain⟨g17,rfl⟩:=hK.pt m5 i17;have l17:k9<vs.length:=Nat.lt_of_lt_of_eq i17 (hK.len m5);obtain⟨xv,exv⟩:=gtH l17;go_upto_region 2 with(fail);refine wp_region_T [1,0,0,2,4] hK ?_;clear hK;refine eL m1 ?_
  iterate 2 refine e0 ?_
  refine eRq m5 exv.out (fun x18=>?_);obtain⟨⟨p18,l18,c18⟩,⟨q18,u18,d18⟩⟩:=x18;dsimp only;refine eP 1 0 [.bool (isN (xv)),.slice p18 l18 c18,.slice q18 u18 d18] ?_;refine sxEnd (fun W19 hK=>?_);go_upto_region 3 with(fail);refine wp_region_T [1,0,0] hK ?_;clear hK;refine eL m3 ?_
  iterate 2 refine e0 ?_
  refine sxEnd (fun W20 hK=>?_);go_wp2_with fail;go_loopw [24] (fun s24 wl=> ∃(gu:Nat),s24=.int .i64 0/\SS V ((qF (.agg #[.bool (isN (xv)),.slice p18 l18 c18,.slice q18 u18 d18]) (xv))::(bx R1 (.cells #[.bool (isN (xv)),.slice p18 l18 c18,.slice q18 u18 d18] 70))::(bx B (.cells #[.slice (some ⟨g17,0,none⟩) vl vc] 56))::(bx S (.cells #[.slice none 0 0] 31))::(L.f ⟨⟨xp,xl,xc⟩,xn,⟨xy.p,xy.l,xy.c⟩,⟨xz.p,xz.l,xz.c⟩⟩)::(rO ratK 70 xp xl xc cs)::(rO ratK 70 (some ⟨g17,0,none⟩) vl vc vs)::l) wl) (fun s24 _=>0)
  case atStart=>exact⟨0,rfl,hK⟩
  clear hK;obtain⟨gu,rfl,hK⟩:=hrel;generalize wr=W21 at hK⊢;go_upto_region 4 with(fail);refine wp_region_T [0] hK ?_;clear hK;refine eV (.bool false) (fun w'=>by go_simp;(try go_bits);exact⟨rfl,rfl⟩) ?_;refine sxEnd (fun W22 hK=>?_);go_upto_region 8 with(fail);refine wp_region_S _ [0,0,0,0,1,0,3,5,0,0,4] hK ?_ (sK2 (sK2 (sK2 (sK2 (sC2 (sC2 (sR)))))));clear hK
  iterate 4 refine e0 ?_
  refine eRm (F:=(L.f ⟨⟨xp,xl,xc⟩,xn,⟨xy.p,xy.l,xy.c⟩,⟨xz.p,xz.l,xz.c⟩⟩).F) (fun w k=>k.get m4) (h1:=by intro w' k;have c0:=L.rd0 k;go_simp;(try go_bits);exact⟨rfl,rfl⟩) ?_;refine eL0 m1 ?_;refine eA (.cells #[.bool (isN (xv)),.slice p18 l18 c18,.slice q18 u18 d18] 70) (fun R23=>?_);refine eAppK 2 ratK_hd rfl 6 he rfl infoQ (fun w k=>k.one1 (K:=ratK) (x:=xv) m0 ⟨_,_,_,rfl,k.q m1⟩) (by simp;omega) (fun x24=>?_) (hs:=fun _=>(sC2 (sK2 (sK2 (sK2 (sK2 (sC2 (sC2 (sR)))))))));obtain⟨p24,n24,c24⟩:=x24;dsimp only
  iterate 2 refine e0 ?_
  refine eLw ⟨⟨p24,n24,c24⟩,xn,⟨xy.p,xy.l,xy.c⟩,⟨xz.p,xz.l,xz.c⟩⟩ 5 0 [.slice p24 n24 c24] ?_ (hs:=(sC2 (sK2 (sK2 (sK2 (sK2 (sC2 (sC2 (sR))))))))) (h1:=by intro w' k;have c0:=L.rd0 k;have c1:=L.rd1 k;have f:=L.fz k;go_simp;exact⟨rfl,rfl⟩);refine sxEnd (fun W25 hK=>?_);rw[show cs++[xv]=cs++[colC vs (k9:Int)]from(by rw[colC_at exv.out])]at hK;replace hK:=hK.subl (sC2 (sC2 (sC2 (sR))));go_wp2
  first|exact bodyPost_ret (v:=.tuple #[]) (results_none (by simp[Tryz.results84]) _ _ _) rfl (qo hQ0 ⟨⟨p24,n24,c24⟩,rfl,hK⟩)|exact bodyPost_end (v:=.tuple #[]) (results_none (by simp[Tryz.results84]) _ _ _) rfl (qo hQ0 ⟨⟨p24,n24,c24⟩,rfl,hK⟩)
theorem addrow_any(w V:World){g n c k B S C:Nat}{vp:Option Addr}{vl vc:Nat}{rs:List Rw4}{T:List LRow}{x:Rw4}{y:LRow}{vs:List Rat}{b:Int}{l:List Ft}(hK:SS V (rO rw4K 149 (some ⟨g,0,none⟩) n c rs::fmF 70 rs T []::bx B (.cells #[.slice vp vl vc] 56)::bx S (.cells #[.slice none 0 0] 31)::rO ratK 70 vp vl vc vs::l) w)(tz2:OkA 2 l)(tz3:OkA 3 l)(hx:rs[k]?=some x)(hy:T[k]?=some y)(he:y.cs=[]->x.s.p=none)(hcl:y.cs.length<=100000)(hbl: -1<=b)(hbu:b<=100000)(hvl:vl<=100000):
    Calls Tryz.prog 84 #[.pointer (some ⟨g,k*4,none⟩),.int .i64 b,.pointer (some ⟨B,0,none⟩),.pointer (some ⟨S,0,none⟩),.pointer (some ⟨C,0,none⟩)] w fun e w'=> ∃x':Rw4,e=.returned (.tuple #[])/\SS V (rO rw4K 149 (some ⟨g,0,none⟩) n c (rs.set k x')::fmF 70 (rs.set k x') (T.set k ⟨y.cs++[colC vs b],y.r⟩) []::bx B (.cells #[.slice vp vl vc] 56)::bx S (.cells #[.slice none 0 0] 31)::rO ratK 70 vp vl vc vs::l) w':=by
  have hkl:=(List.getElem?_eq_some_iff.1 hx).1;have h1:=hK.up1.rwO List.not_mem_nil hx hy;rw[show rO rw4K 149 (some ⟨g,0,none⟩) n c rs=(lnE 149 g n c rs k hkl).f x from by show rO _ _ _ _ _ _=rO rw4K 149 (some ⟨g,0,none⟩) n c (rs.set k x);rw[set_same hx]]at h1;refine(adc_any w V (lnE 149 g n c rs k hkl) b (qF x.q y.r::fmF 70 rs T [k]::l) h1.up2.up2.up6.up3.up4.up6.up6 ⟨rfl,rfl,tz2⟩ ⟨rfl,rfl,tz3⟩ he hcl hbl hbu hvl).mono fun e w' ⟨s,e1,h4⟩=>⟨⟨s,x.n,x.y,x.z⟩,e1,?_⟩
  exact(SS.rwB (x:=⟨s,x.n,x.y,x.z⟩) (y:=⟨y.cs++[colC vs b],y.r⟩) h4.up4.up2.up2.up3.up6.up6.up6 List.not_mem_nil (List.getElem?_eq_some_iff.1 hy).1 hkl).up1
theorem addgl_any(w V:World){R B S C:Nat}{a b c:Sl}{nc:Int}{vp:Option Addr}{vl vc:Nat}{x:Rw4}{cs vs:List Rat}{l:List Ft}(hK:SS V (bx R (.cells #[.slice a.p a.l a.c,.slice b.p b.l b.c,.slice c.p c.l c.c,.slice x.s.p x.s.l x.s.c,.bool x.n,.slice x.y.p x.y.l x.y.c,.slice x.z.p x.z.l x.z.c,.int .i64 nc] 151)::rO ratK 70 x.s.p x.s.l x.s.c cs::bx B (.cells #[.slice vp vl vc] 56)::bx S (.cells #[.slice none 0 0] 31)::rO ratK 70 vp vl vc vs::l) w)(tz2:OkA 2 l)(tz3:OkA 3 l)(he:cs=[]->x.s.p=none)(hcl:cs.length<=100000)(hvl:vl<=100000):
    Calls Tryz.prog 84 #[.pointer (some ⟨R,3,none⟩),.int .i64 (-1),.pointer (some ⟨B,0,none⟩),.pointer (some ⟨S,0,none⟩),.pointer (some ⟨C,0,none⟩)] w fun e w'=> ∃y:Sl,e=.returned (.tuple #[])/\SS V (bx R (.cells #[.slice a.p a.l a.c,.slice b.p b.l b.c,.slice c.p c.l c.c,.slice y.p y.l y.c,.bool x.n,.slice x.y.p x.y.l x.y.c,.slice x.z.p x.z.l x.z.c,.int .i64 nc] 151)::rO ratK 70 y.p y.l y.c (cs++[0])::bx B (.cells #[.slice vp vl vc] 56)::bx S (.cells #[.slice none 0 0] 31)::rO ratK 70 vp vl vc vs::l) w':=by
  refine(adc_any w V (plG R a b c nc) (-1) l (xn:=x.n) (xy:=x.y) (xz:=x.z) hK.up4.up2.up2.up4.up4 tz2 tz3 he hcl (by omega) (by omega) hvl).mono fun e w' ⟨s,e1,h4⟩=>⟨s,e1,?_⟩
  rw[colC_neg (show(-1:Int)<0 by omega)]at h4;exact h4.up4.up2.up2.up4.up4
theorem NilZ.row{z:TbS}(h:NilZ z)(i:Nat):(z.rs[i]?.map fun x=>x.s.p).getD none=none:=by
  cases e:z.rs[i]? with
  |none=>rfl
  |some x=>show x.s.p=none;rw[h.1 x (List.mem_of_getElem? e)]
theorem NilZ.free{z:TbS}(h:NilZ z):z.f.p=none:=by rw[h.2.2]
theorem NilZ.goal{z:TbS}(h:NilZ z):z.g.s.p=none:=by rw[h.2.1]
set_option maxRecDepth 100000 in
set_option maxHeartbeats 1000000 in
theorem addcol_any(w V:World){R nc:Nat}{z:TbS}{s:LSt}{ts:List Trm}{vs:List Rat}{cost:Rat}{kn:Bool}{kp lp:Option Addr}{kl kc ll lc:Nat}{tp:Option Addr}{tl tc:Nat}(l:List Ft)(hK:SS V ((tbF R nc z s)::(rO trK 113 tp tl tc ts)::(qF (.agg #[.bool kn,.slice kp kl kc,.slice lp ll lc]) (cost))::l) w)(tz1:OkA 1 l)(tz2:OkA 2 l)(tz3:OkA 3 l)(hbas:s.T.basic=slk s.T.rows.length)(hfre:s.T.free=cls s.T.rows.length nc)(hgl:s.g.cs.length=nc)(hrl:∀y∈s.T.rows,y.cs.length=nc)(hti:∀t∈ts,t.i<s.T.rows.length)(hvs:valN s.T.rows.length ts=vs)(hm:s.T.rows.length<=2000)(hn:nc<=2000)(htn:ts.length<=2000)(hcl:LmQ 300 cost)(he:nc=0->NilZ z):
    Calls Tryz.prog 60 #[.pointer (some ⟨R,0,none⟩),.agg #[.bool kn,.slice kp kl kc,.slice lp ll lc],.slice tp tl tc] w fun e w'=> ∃z':TbS,e=.returned (.tuple #[])/\SS V (tbF R (nc+1) z' ⟨s.T.add vs ((s.T.rows.length+nc:Nat):Int),s.g.add cost⟩::l) w':=by
  obtain⟨⟨rp,rl,rc⟩,⟨bp,bl,bc⟩,⟨fp,fl,fc⟩,⟨⟨gp,gl,gc⟩,gn,gy,gz⟩,rs⟩:=z;obtain⟨T,y0⟩:=s;replace hK:=SS.tb.1 hK;dsimp only at*;dsimp only[tbL,List.cons_append,List.nil_append]at hK;have hrs:=hid (hK.get m0);have nr:=hid ((hK.len m2).trans hrs.out);have⟨nr1,nr2⟩:=lle nr.out;have nb:=hid ((hK.len m3).trans (show T.basic.length=T.rows.length by rw[hbas,slk_len]));have⟨nb1,nb2⟩:=lle nb.out;have nf:=hid ((hK.len m4).trans (show T.free.length=nc by rw[hfre,cls_len]));have⟨nf1,nf2⟩:=lle nf.out;have nt1:=Nat.le_of_eq (hK.len m8);have nt2:=Nat.le_of_eq (hK.len m8).symm;obtain⟨num,hnum⟩:∃z:Int,Hid (((T.rows.length+nc:Nat):Int)=z):=⟨_,hid rfl⟩;replace hbas:=hid hbas;replace hfre:=hid hfre;replace hvs:=hid hvs;replace hgl:=hid hgl;have hvl:=hid (show vs.length=T.rows.length by rw[<-hvs.out,valN_len]);replace hK:=hK.subl (sC2 (sR));refine Calls.hide (fun Q0 hQ0=>?_);go_enter Tryz.func60,Tryz.ntmps60;go_upto_region 0 with(fail);refine wp_region_T [3,3] hK ?_;clear hK;refine eA (.cells #[.pointer (some ⟨R,0,none⟩)] 109) (fun R1=>?_);refine eA (.cells #[.bool kn,.slice kp kl kc,.slice lp ll lc] 70) (fun R2=>?_);refine sxEnd (fun W3 hK=>?_);go_upto_region 1 with(fail);refine wp_region_S _ [0,0,0,0,0,0,0,0,0,0,0] hK ?_ (sR);clear hK;refine eL0 m1 ?_
  iterate 2 refine e0 ?_
  refine eL0 m2 ?_;refine e0 ?_;refine eL0 m1 ?_
  iterate 2 refine e0 ?_
  refine eL0 m2 ?_;refine eV (.int .i64 num) (fun w'=>by go_simp;(try go_bits);exact⟨congrArg (Value.int .i64) (by rw[<-hnum.out,nr.out];omega),rfl⟩) ?_;refine e0 ?_;refine sxEnd (fun W4 hK=>?_);go_upto_region 2 with(fail);refine wp_region_T [1,0,0,1,0,0,0,4] hK ?_;clear hK;refine eL m1 ?_
  iterate 2 refine e0 ?_
  refine eL m2 ?_;refine eV (.int .i64 ((nc+1:Nat):Int)) (fun w'=>by go_simp;(try go_bits);exact⟨congrArg (Value.int .i64) (by omega),rfl⟩) ?_
  iterate 2 refine e0 ?_
  refine eP 2 7 [.int .i64 ((nc+1:Nat):Int)] ?_;refine sxEnd (fun W5 hK=>?_);go_upto_region 3 with(fail);refine wp_region_T [1,0,0,1,0,3,3,4] hK ?_;clear hK;refine eL m1 ?_
  iterate 2 refine e0 ?_
  refine eL m2 ?_;refine e0 ?_;refine eMk (K:=ratK) (t:=70) (x:=(0:Rat)) rl rat0 rfl infoQ (by show rl*3<=_;omega) (by decide) (fun g6=>?_);refine eA (.cells #[.slice none 0 0] 56) (fun R7=>?_);refine eP 0 0 [.slice (some ⟨g6,0,none⟩) rl rl] ?_;refine sxEnd (fun W8 hK=>?_);replace hK:=hK.up1;replace hK:=hK.made (K:=ratK) (n:=rl) rat0 (by simp[maxLen];omega);rw[show List.replicate rl (0:Rat)=valN rl (ts.take 0)from rfl]at hK;go_wp2_with fail;go_loopw [41] (fun s41 wl=> ∃(m:Nat),s41=.int .i64 (m:Int)/\(m<=ts.length)/\SS V ((rO ratK 70 (some ⟨g6,0,none⟩) rl rl (valN rl (ts.take m)))::(bx R7 (.cells #[.slice (some ⟨g6,0,none⟩) rl rl] 56))::(bx R2 (.cells #[.bool kn,.slice kp kl kc,.slice lp ll lc] 70))::(bx R1 (.cells #[.pointer (some ⟨R,0,none⟩)] 109))::(bx R (.cells #[.slice rp rl rc,.slice bp bl bc,.slice fp fl fc,.slice gp gl gc,.bool gn,.slice gy.p gy.l gy.c,.slice gz.p gz.l gz.c,.int .i64 ((nc+1:Nat):Int)] 151))::(rO rw4K 149 rp rl rc rs)::(rO intK 3 bp bl bc T.basic)::(rO intK 3 fp fl fc T.free)::(fmF 70 rs T.rows [])::(rO ratK 70 gp gl gc y0.cs)::(qF (.agg #[.bool gn,.slice gy.p gy.l gy.c,.slice gz.p gz.l gz.c]) (y0.r))::(rO trK 113 tp tl tc ts)::(qF (.agg #[.bool kn,.slice kp kl kc,.slice lp ll lc]) (cost))::l) wl) (fun s41 _=>tl-(intOf s41).toNat)
  case atStart=>exact⟨0,rfl,(by omega),hK⟩
  clear hK;obtain⟨m,rfl,hm0,hK⟩:=hrel;generalize wr=W9 at hK⊢;go_upto_region 5 with(fail);refine wp_region_T [0] hK ?_;clear hK;refine eB (decide (((m:Int))<((tl:Int)))) (fun b1 hb1=>?_);refine sxEnd (fun W10 hK=>?_)
  cases b1
  . --
   have q_b1:=nlt hb1;go_upto_region 9 with(fail);refine wp_region_T [3] hK ?_;clear hK;refine eA (.cells #[.slice none 0 0] 31) (fun R11=>?_);refine sxEnd (fun W12 hK=>?_);go_upto_region 10 with(fail);refine wp_region_T [1,0,0,1,0,0] hK ?_;clear hK;refine eL m4 ?_
   iterate 2 refine e0 ?_
   refine eL m5 ?_
   iterate 2 refine e0 ?_
   refine sxEnd (fun W13 hK=>?_);rw[show valN rl (ts.take m)=vs from(by rw[List.take_of_length_le (by omega),nr.out];exact hvs.out)]at hK;go_wp2_with fail;go_loopw [57] (fun s57 wl=> ∃(jj:Nat),s57=.int .i64 (jj:Int)/\(jj<=nc)/\SS V ((bx R11 (.cells #[.slice none 0 0] 31))::(rO ratK 70 (some ⟨g6,0,none⟩) rl rl vs)::(bx R7 (.cells #[.slice (some ⟨g6,0,none⟩) rl rl] 56))::(bx R2 (.cells #[.bool kn,.slice kp kl kc,.slice lp ll lc] 70))::(bx R1 (.cells #[.pointer (some ⟨R,0,none⟩)] 109))::(bx R (.cells #[.slice rp rl rc,.slice bp bl bc,.slice fp fl fc,.slice gp gl gc,.bool gn,.slice gy.p gy.l gy.c,.slice gz.p gz.l gz.c,.int .i64 ((nc+1:Nat):Int)] 151))::(rO rw4K 149 rp rl rc rs)::(rO intK 3 bp bl bc T.basic)::(rO intK 3 fp fl fc T.free)::(fmF 70 rs T.rows [])::(rO ratK 70 gp gl gc y0.cs)::(qF (.agg #[.bool gn,.slice gy.p gy.l gy.c,.slice gz.p gz.l gz.c]) (y0.r))::(rO trK 113 tp tl tc ts)::(qF (.agg #[.bool kn,.slice kp kl kc,.slice lp ll lc]) (cost))::l) wl) (fun s57 _=>fl-(intOf s57).toNat)
   case atStart=>exact⟨0,rfl,(by omega),hK⟩
   clear hK;obtain⟨jj,rfl,hj0,hK⟩:=hrel;generalize wr=W14 at hK⊢;go_upto_region 11 with(fail);refine wp_region_T [0] hK ?_;clear hK;refine eB (decide (((jj:Int))<((fl:Int)))) (fun b2 hb2=>?_);refine sxEnd (fun W15 hK=>?_)
   cases b2
   . --
    have q_b2:=nlt hb2;go_upto_region 17 with(fail);refine wp_region_T [1,0,0,1,0,0] hK ?_;clear hK;refine eL m4 ?_
    iterate 2 refine e0 ?_
    refine eL m5 ?_
    iterate 2 refine e0 ?_
    refine sxEnd (fun W16 hK=>?_);replace hK:=hK.up1;replace hK:=hK.up1;replace hK:=hK.up2;replace hK:=hK.up9;replace hK:=hK.up7;have hz9:Hid (T.rows=updK (fun i x=>⟨x.cs++[vs.getD i 0],x.r⟩) T.rows 0):=hid updK_zero.symm;rw[show T.rows=updK (fun i x=>⟨x.cs++[vs.getD i 0],x.r⟩) T.rows 0 from hz9.out]at hK;go_wp2_with fail;go_loopw [89] (fun s89 wl=> ∃(m:Nat) (rs1:List Rw4),s89=.int .i64 (m:Int)/\(m<=rl)/\Hid (rs1.length=rs.length)/\Hid (∀i,m<=i->nc=0->(rs1[i]?.map fun x=>x.s.p).getD none=none)/\SS V ((rO rw4K 149 rp rl rc rs1)::(fmF 70 rs1 (updK (fun i x=>⟨x.cs++[vs.getD i 0],x.r⟩) T.rows m) [])::(bx R7 (.cells #[.slice (some ⟨g6,0,none⟩) rl rl] 56))::(bx R11 (.cells #[.slice none 0 0] 31))::(rO ratK 70 (some ⟨g6,0,none⟩) rl rl vs)::(bx R2 (.cells #[.bool kn,.slice kp kl kc,.slice lp ll lc] 70))::(bx R1 (.cells #[.pointer (some ⟨R,0,none⟩)] 109))::(bx R (.cells #[.slice rp rl rc,.slice bp bl bc,.slice fp fl fc,.slice gp gl gc,.bool gn,.slice gy.p gy.l gy.c,.slice gz.p gz.l gz.c,.int .i64 ((nc+1:Nat):Int)] 151))::(rO intK 3 bp bl bc T.basic)::(rO intK 3 fp fl fc T.free)::(rO ratK 70 gp gl gc y0.cs)::(qF (.agg #[.bool gn,.slice gy.p gy.l gy.c,.slice gz.p gz.l gz.c]) (y0.r))::(rO trK 113 tp tl tc ts)::(qF (.agg #[.bool kn,.slice kp kl kc,.slice lp ll lc]) (cost))::l) wl) (fun s89 _=>rl-(intOf s89).toNat)
    case atStart=>exact⟨0,rs,rfl,(by omega),hid rfl,hid (fun i _ e=>NilZ.row (he e) i),hK⟩
    clear hK;obtain⟨m,rs1,rfl,hm0,h_n,h_k,hK⟩:=hrel;generalize wr=W17 at hK⊢;go_upto_region 18 with(fail);refine wp_region_T [0] hK ?_;clear hK;refine eB (decide (((m:Int))<((rl:Int)))) (fun b3 hb3=>?_);refine sxEnd (fun W18 hK=>?_)
    cases b3
    . --
     have q_b3:=nlt hb3;have hmr:=hid (show m=rl by omega);go_upto_region 22 with(fail);refine wp_region_T [0,1,0,0,4] hK ?_;clear hK;refine e0 ?_;refine eL m6 ?_
     iterate 2 refine e0 ?_
     refine eM (fun w k=>addgl_any w _ (a:=⟨rp,rl,rc⟩) (b:=⟨bp,bl,bc⟩) (c:=⟨fp,fl,fc⟩) (x:=⟨⟨gp,gl,gc⟩,gn,gy,gz⟩) k.up4.up4.up4.up10.up8 ⟨rfl,rfl,rfl,rfl,rfl,rfl,rfl,rfl,rfl,tz2⟩ ⟨rfl,rfl,rfl,rfl,rfl,rfl,rfl,rfl,rfl,tz3⟩ (fun e=>NilZ.goal (he (by rw[<-hgl.out,e];rfl))) (by rw[hgl.out];omega) (by omega)) (fun x19=>?_);obtain⟨px19,nx19,cx19⟩:=x19;dsimp only;refine sxEnd (fun W20 hK=>?_);go_upto_region 23 with(fail);refine wp_region_T [1,0,0,1,0,0] hK ?_;clear hK;refine eL m8 ?_
     iterate 2 refine e0 ?_
     refine eL m0 ?_
     iterate 2 refine e0 ?_
     refine sxEnd (fun W21 hK=>?_);have hgn:fl<(y0.cs++[(0:Rat)]).length:=(by rw[List.length_append,hgl.out,nf.out];simp);have ngl:=hid (hK.len m1);have i22:fl<nx19:=(by rw[ngl.out];exact hgn);obtain⟨g22,rfl⟩:=hK.pt m1 i22;have l22:fl<(y0.cs++[0]).length:=Nat.lt_of_lt_of_eq i22 (hK.len m1);obtain⟨xg,exg⟩:=gtH l22;have hxg:Hid (xg=0):=hid (by have q:=exg.out;rw[nf.out,List.getElem?_append_right (by rw[hgl.out];omega),hgl.out]at q;simpa using q.symm);go_upto_region 24 with(fail);refine wp_region_S _ [0,0,0,0,0,0,0,0,0,0,0,0,0,2,0,2,0,4] hK ?_ (sK2 (sC2 (sR)));clear hK;refine eL0 m7 ?_
     iterate 3 refine e0 ?_
     refine eL0 m0 ?_;refine e0 ?_;refine eL0 m7 ?_
     iterate 3 refine e0 ?_
     refine eL0 m0 ?_
     iterate 2 refine e0 ?_
     refine eRq m1 exg.out (fun x23=>?_);obtain⟨⟨p23,l23,c23⟩,⟨q23,u23,d23⟩⟩:=x23;dsimp only;refine eL0 m6 ?_;refine eC (fun w k=>rat_S (qsub_any _ _ _ _ w (k.q m0) (k.q m14) (by rw[hxg.out];exact LmQ.nil0.up (by decide)) hcl (by decide))) (fun x24=>?_);obtain⟨⟨p25,l25,c25⟩,⟨q25,u25,d25⟩⟩:=x24;dsimp only;refine e0 ?_;refine eWQ (y:=(xg-cost)) 3 hgn m0 ?_ (hi:=rfl) (hs:=(sC2 (sC2 (sK2 (sC2 (sR))))));refine sxEnd (fun W26 hK=>?_);go_upto_region 25 with(fail);refine wp_region_S _ [0,0,0,0,1,0,3,5,0,0,4] hK ?_ (sK2 (sK2 (sC2 (sK2 (sK2 (sK2 (sK2 (sK2 (sK2 (sK2 (sK2 (sK2 (sC2 (sR))))))))))))));clear hK
     iterate 2 refine eL0 m9 ?_
     iterate 2 refine e0 ?_
     refine eL m2 ?_;refine e0 ?_;refine eA (.cells #[.int .i64 num] 3) (fun R27=>?_);refine eAppK 1 intK_hd rfl 13 (fun e=>NilZ.free (he (by have q:=congrArg List.length e;rw[hfre.out,cls_len]at q;exact q))) rfl infoZ (fun w k=>k.one1 (K:=intK) (x:=num) m0 rfl) (by rw[hfre.out,cls_len];simp;omega) (fun x28=>?_) (hs:=fun _=>(sC2 (sK2 (sK2 (sC2 (sK2 (sK2 (sK2 (sK2 (sK2 (sK2 (sK2 (sK2 (sK2 (sC2 (sR))))))))))))))));obtain⟨p28,n28,c28⟩:=x28;dsimp only
     iterate 2 refine e0 ?_
     refine eP 3 2 [.slice p28 n28 c28] ?_ (hs:=(sC2 (sK2 (sK2 (sC2 (sK2 (sK2 (sK2 (sK2 (sK2 (sK2 (sK2 (sK2 (sK2 (sC2 (sR))))))))))))))));refine sxEnd (fun W29 hK=>?_);replace hK:=hK.subl (sC2 (sC2 (sC2 (sK2 (sK2 (sC2 (sC2 (sC2 (sK2 (sK2 (sC2 (sC2 (sK2 (sK2 (sK2 (sC2 (sC2 (sR))))))))))))))))));replace hK:=hK.up6;replace hK:=hK.up2;replace hK:=hK.up4;replace hK:=hK.up6;replace hK:=hK.up6;replace hK:=hK.up6;replace hK:=hK.up6;have hl9:rs1.length=(T.add vs ((T.rows.length+nc:Nat):Int)).rows.length:=(by rw[h_n.out,hrs.out];simp[LTab.add]);rw[show updK (fun i x=>⟨x.cs++[vs.getD i 0],x.r⟩) T.rows m=(T.add vs ((T.rows.length+nc:Nat):Int)).rows from by rw[add_upd (Nat.le_of_eq (nr.out.symm.trans hmr.out.symm))],show T.free++[num]=(T.add vs ((T.rows.length+nc:Nat):Int)).free from by rw[<-hnum.out];rfl,show List.set (y0.cs++[0]) fl (xg-cost)=(y0.add cost).cs from by rw[hxg.out,nf.out];unfold LRow.add;rw[List.set_append_right _ _ (by rw[hgl.out];omega),hgl.out];simp]at hK;go_wp2
     first|exact bodyPost_ret (v:=.tuple #[]) (results_none (by simp[Tryz.results60]) _ _ _) rfl (qo hQ0 ⟨⟨⟨rp,rl,rc⟩,⟨bp,bl,bc⟩,⟨p28,n28,c28⟩,⟨⟨(some ⟨g22,0,none⟩),nx19,cx19⟩,gn,gy,gz⟩,rs1⟩,rfl,SS.tb.2 (hK.fact (cF _) hl9)⟩)|exact bodyPost_end (v:=.tuple #[]) (results_none (by simp[Tryz.results60]) _ _ _) rfl (qo hQ0 ⟨⟨⟨rp,rl,rc⟩,⟨bp,bl,bc⟩,⟨p28,n28,c28⟩,⟨⟨(some ⟨g22,0,none⟩),nx19,cx19⟩,gn,gy,gz⟩,rs1⟩,rfl,SS.tb.2 (hK.fact (cF _) hl9)⟩)
    have q_b3:=ylt hb3;have hkr:m<T.rows.length:=(by omega);obtain⟨y,ey⟩:∃y,Hid (T.rows[m]?=some y):=⟨_,hid (List.getElem?_eq_getElem hkr)⟩;have hy1:Hid ((updK (fun i x=>⟨x.cs++[vs.getD i 0],x.r⟩) T.rows m)[m]?=some y):=hid (updK_at.trans ey.out);have hyl:=hid (hrl y (List.mem_of_getElem? ey.out));have i30:m<rl:=(by omega);obtain⟨g30,rfl⟩:=hK.pt m0 i30;have l30:m<rs1.length:=Nat.lt_of_lt_of_eq i30 (hK.len m0);obtain⟨xm,exm⟩:=gtH l30;obtain⟨⟨xm_p,xm_l,xm_c⟩,xm_n,⟨xm_yp,xm_yl,xm_yc⟩,⟨xm_zp,xm_zl,xm_zc⟩⟩:=xm;have i31:m<bl:=(by omega);obtain⟨g31,rfl⟩:=hK.pt m8 i31;have l31:m<T.basic.length:=Nat.lt_of_lt_of_eq i31 (hK.len m8);obtain⟨xb,exb⟩:=gtH l31;obtain rfl:xb=(m:Int):=by have q:=exb.out;rw[hbas.out,slk_at hkr]at q;exact(Option.some.inj q).symm
    replace hK:=hK.up4;replace hK:=hK.up4;replace hK:=hK.up4;replace hK:=hK.up4;replace hK:=hK.up4;go_upto_region 20 with(fail);refine wp_region_S _ [0,0,0,0,0,0,0,0,0,0,0,0,0,0,4] hK ?_ (sC2 (sC2 (sR)));clear hK;refine e0 ?_;refine eL0 m4 ?_
    iterate 2 refine e0 ?_
    refine eL0 m5 ?_
    iterate 2 refine e0 ?_
    refine eL0 m4 ?_
    iterate 2 refine e0 ?_
    refine eL0 m5 ?_
    iterate 2 refine e0 ?_
    refine eR0 (fun w k=>(k.own m6).int exb.out) ?_;refine eM (fun w k=>addrow_any w _ (b:=(m:Int)) k.up4.up4.up4.up4.up4 ⟨rfl,rfl,rfl,rfl,rfl,rfl,rfl,rfl,rfl,tz2⟩ ⟨rfl,rfl,rfl,rfl,rfl,rfl,rfl,rfl,rfl,tz3⟩ exm.out hy1.out (fun e=>by have q:=h_k.out m (Nat.le_refl _) (by rw[<-hyl.out,e];rfl);rw[exm.out]at q;exact q) (by rw[hyl.out];omega) (by omega) (by omega) (by omega)) (fun x32=>?_) (hs:=fun _=>(sC2 (sC2 (sR))));refine sxEnd (fun W33 hK=>?_);rw[show(updK (fun i x=>⟨x.cs++[vs.getD i 0],x.r⟩) T.rows m).set m ⟨y.cs++[colC vs (m:Int)],y.r⟩=updK (fun i x=>⟨x.cs++[vs.getD i 0],x.r⟩) T.rows (m+1)from(by rw[colC_at (show vs[m]?=some (vs.getD m 0)from getD_lt (by have q:=hvl.out;omega))];exact updK_step ey.out)]at hK
    (try go_wp2)
    go_roundw
    case rel=>exact⟨m+1,rs1.set m x32,(by first|rfl|go_num),(by omega),hid (by rw[List.length_set];exact h_n.out),hid (fun i hi e=>by rw[List.getElem?_set_ne (by omega)];exact h_k.out i (by omega) e),hK⟩
    case measure=>simp[intOf]<;>omega
   have q_b2:=ylt hb2;have hml:jj<nc:=(by omega);have i34:jj<fl:=(by omega);obtain⟨g34,rfl⟩:=hK.pt m8 i34;have l34:jj<T.free.length:=Nat.lt_of_lt_of_eq i34 (hK.len m8);obtain⟨xf,exf⟩:=gtH l34;have hxf:Hid (xf=((T.rows.length+jj:Nat):Int)):=hid (by have q:=exf.out;rw[hfre.out,cls_at hml]at q;exact(Option.some.inj q).symm);have hxg:(rl:Int)<=xf:=by rw[hxf.out];omega
   go_upto_region 12 with(fail);refine wp_region_T [0,0,1,0,0] hK ?_;clear hK
   iterate 2 refine e0 ?_
   refine eR (fun w k=>(k.own m8).int exf.out) ?_
   iterate 2 refine e0 ?_
   refine sxEnd (fun W35 hK=>?_);go_upto_region 13 with(fail);refine wp_region_T [0,0,0,0,1,0,0,0,0,0,0,0,0,0,0,0] hK ?_;clear hK;refine e0 ?_;refine eV (.bool true) (fun w'=>by go_simp;(try go_bits);exact⟨congrArg Value.bool (decide_eq_true (by omega)),rfl⟩) ?_
   iterate 2 refine e0 ?_
   refine eL m2 ?_;refine e0 ?_;refine eV (.bool false) (fun w'=>by go_simp;(try go_bits);exact⟨congrArg Value.bool (decide_eq_false (by omega)),rfl⟩) ?_
   iterate 2 refine e0 ?_
   iterate 6 refine eN ?_
   refine e0 ?_;refine sxEnd (fun W36 hK=>?_)
   (try go_wp2)
   go_roundw
   case rel=>exact⟨jj+1,(by first|rfl|go_num),(by omega),hK⟩
   case measure=>simp[intOf]<;>omega
  have q_b1:=ylt hb1;have i37:m<tl:=(by omega);obtain⟨g37,rfl⟩:=hK.pt m11 i37;have l37:m<ts.length:=Nat.lt_of_lt_of_eq i37 (hK.len m11);obtain⟨t,et⟩:=gtH l37;have hti1:=hti t (List.mem_of_getElem? et.out);go_upto_region 6 with(fail);refine wp_region_T [0,2,3,4] hK ?_;clear hK;refine e0 ?_;refine eRt m11 et.out (fun x38=>?_);obtain⟨⟨p38,l38,c38⟩,⟨q38,u38,d38⟩⟩:=x38;dsimp only;refine eA (.cells #[.int .i64 0,.bool false,.slice none 0 0,.slice none 0 0] 113) (fun R39=>?_);refine eP 0 0 [.int .i64 (t.i:Int),.bool (isN t.v),.slice p38 l38 c38,.slice q38 u38 d38] ?_;refine sxEnd (fun W40 hK=>?_);have i41:t.i<rl:=(by omega);have l41:t.i<(valN rl (ts.take m)).length:=Nat.lt_of_lt_of_eq i41 (hK.len m2);obtain⟨xo,exo⟩:=gtH l41;go_upto_region 7 with(fail);refine wp_region_T [1,0,1,0,1,0,4] hK ?_;clear hK;refine eL m3 ?_;refine e0 ?_;refine eL m0 ?_;refine e0 ?_;refine eL m0 ?_;refine e0 ?_;refine eWQ (y:=t.v) 2 (by rw[valN_len];omega) m1 ?_ (hi:=rfl);refine sxEnd (fun W42 hK=>?_);rw[show(valN rl (ts.take m)).set (t.i) t.v=valN rl (ts.take (m+1))from(valN_take et.out)]at hK
  (try go_wp2)
  go_roundw
  case rel=>exact⟨m+1,(by first|rfl|go_num),(by omega),(hK.subl (sC2 (sC2 (sR))))⟩
  case measure=>simp[intOf]<;>omega
end
section
def SmX(X:Nat)(c:Rat):Prop:=c.num.natAbs<=X/\c.den<=X
structure SmR(X:Nat)(R:LpRes):Prop where
  x:∀c∈R.x,SmX X c
  y:∀c∈R.y,SmX X c
  r:∀c∈R.r,SmX X c
  z:SmX X R.z
def InfY(P:LPd)(Y:List Rat):Prop:=InfC P Y/\ ∀X,LimS X P-> ∀c∈Y,SmX X c
section
variable {P:LPd}{X:Nat}{T:LTab}{g z:LRow}{t:LSt}
theorem LimS.one(h:LimS X P)(hP:P.Ok):1<=X:=((h.i _ hP.init (Alike.refl _)).os P.goal (List.mem_singleton.2 rfl)).2.2
theorem smx0(h:1<=X):SmX X 0:=⟨Nat.zero_le _,h⟩
theorem smx1(h:1<=X):SmX X (1-0):=by rw[show(1:Rat)-0=1 by grind];exact⟨h,h⟩
theorem SmX.neg{c:Rat}(h:SmX X c):SmX X (-c):=⟨by rw[Rat.neg_num,Int.natAbs_neg];exact h.1,by rw[Rat.neg_den];exact h.2⟩
theorem asg_sm(h1:1<=X):∀(bs:List Int) (xs:List Rat) (n:Int),(∀x∈xs,SmX X x)->SmX X (asg bs xs n)
  |[],_,_,_=>by unfold asg;exact smx0 h1
  |_::_,[],_,_=>by unfold asg;exact smx0 h1
  | b::bs,x::xs,n,h=>by
    unfold asg
    split
    . exact h x (List.mem_cons_self ..)
    exact asg_sm h1 bs xs n fun y hy=>h y (List.mem_cons_of_mem _ hy)
theorem asg_dif(j:Nat)(n:Int):∀(bs:List Int) (rs:List LRow),asg bs (rs.map fun x=>x.r-x.cs.getD j 0*1) n-asg bs (rs.map fun x=>x.r-x.cs.getD j 0*0) n=asg bs (rs.map fun x=> -(x.cs.getD j 0)) n
  |[],_=>by simp only[asg];grind
  |_::_,[]=>by simp only[List.map_nil,asg];grind
  | b::bs,x::rs=>by
    simp only[List.map_cons,asg]
    split
    . grind
    exact asg_dif j n bs rs
theorem getD_sm(h1:1<=X){l:List Rat}(h:∀c∈l,SmX X c)(j:Nat):SmX X (l.getD j 0):=by
  cases e:l[j]? with
  |none=>rw[List.getD,e];exact smx0 h1
  |some c=>rw[getD_of e];exact h c (List.mem_of_getElem? e)
theorem prices_sm(h1:1<=X){m:Nat}{fs:List Int}{cs:List Rat}(h:∀c∈cs,SmX X c):∀c∈pricesL m fs cs,SmX X c:=fun c hc=>by
  obtain⟨k,_,rfl⟩:=List.mem_map.1 hc;exact asg_sm h1 _ _ _ h
theorem point_sm(h1:1<=X){m n:Nat}(h:∀x∈T.rows,SmX X x.r):∀c∈pointL m n T,SmX X c:=fun c hc=>by
  obtain⟨k,_,rfl⟩:=List.mem_map.1 hc;refine asg_sm h1 _ _ _ fun x hx=>?_
  obtain⟨y,hy,rfl⟩:=List.mem_map.1 hx;exact h y hy
theorem ray_sm(h1:1<=X){m n j:Nat}(h:∀x∈T.rows,∀c∈x.cs,SmX X c):∀c∈rayL m n T j,SmX X c:=fun c hc=>by
  obtain⟨k,_,rfl⟩:=List.mem_map.1 hc;unfold LTab.pt
  split
  . exact smx1 h1
  rw[asg_dif];refine asg_sm h1 _ _ _ fun x hx=>?_
  obtain⟨y,hy,rfl⟩:=List.mem_map.1 hx;exact(getD_sm h1 (h y hy) j).neg
theorem Ph1.infY(hP:P.Ok)(h:Ph1 P ⟨T,[g,z]⟩)(hr:z.r<0)(hc:(-1:Int)∉T.basic\/entN z.cs T.free z.cs.length<0):InfY P (pricesL T.rows.length T.free z.cs):=
  ⟨h.inf_case hP hr hc,fun _ q=>prices_sm (q.one hP) ((q.a _ h.ok h.al).os z (by simp)).1⟩
theorem inf_sm(hP:P.Ok){Y:List Rat}(q:LimS X P)(h:∀c∈Y,SmX X c):SmR X ⟨2,[],Y,[],0⟩:=⟨nofun,h,nofun,smx0 (q.one hP)⟩
theorem opt_sm(hP:P.Ok)(q:LimS X P)(ht:t.Ok)(ha:Alike t.obj P.init){m n m':Nat}:SmR X ⟨1,pointL m n t.T,pricesL m' t.T.free t.g.cs,[],t.g.r⟩:=
  have h:=q.i _ ht.obj ha;have h2:=h.os t.g (List.mem_singleton.2 rfl)
  ⟨point_sm (q.one hP) fun x hx=>(h.rows x hx).2,prices_sm (q.one hP) h2.1,nofun,h2.2⟩
theorem unb_sm(hP:P.Ok)(q:LimS X P)(ht:t.Ok)(ha:Alike t.obj P.init){m n m' n' j:Nat}:SmR X ⟨3,pointL m n t.T,[],rayL m' n' t.T j,0⟩:=
  have h:=q.i _ ht.obj ha
  ⟨point_sm (q.one hP) fun x hx=>(h.rows x hx).2,nofun,ray_sm (q.one hP) fun x hx=>(h.rows x hx).1,smx0 (q.one hP)⟩
end
end
section
def plZ(Z:Nat):Lns:=lnB Z [] [] (fun _=>rfl) 149
structure StR where
  b:Bool
  y:Sl
  z:TbS
  t:LSt
  Y:List Rat
instance :Nonempty StR:=⟨⟨true,⟨none,0,0⟩,Classical.choice inferInstance,Classical.choice inferInstance,[]⟩⟩
structure StOk(P:LPd)(a:StR):Prop where
  y:a.y=⟨none,0,0⟩
  ok:a.t.Ok
  al:Alike a.t.obj P.init
  lm:LmK 300 a.t
def stT(R nc:Nat)(P:LPd)(a:StR):Ft:=stF [0] [tbF R nc a.z a.t,cF (StOk P a)] (fun f hf n hn=>by
  rcases List.mem_cons.1 hf with rfl|hf
  . exact hn
  rw[List.mem_singleton.1 hf]at hn;cases hn)
def stN(P:LPd)(a:StR):Ft:=stF [0] [rO ratK 70 a.y.p a.y.l a.y.c a.Y,cF (InfY P a.Y)] (fun f hf n hn=>by
  rcases List.mem_cons.1 hf with rfl|hf
  . exact hn
  rw[List.mem_singleton.1 hf]at hn;cases hn)
def stA(R nc:Nat)(P:LPd)(a:StR):Ft:=match a.b with
  |true=>stT R nc P a
  |false=>stN P a
theorem SS.stT{V w:World}{l:List Ft}{R nc:Nat}{P:LPd}{a:StR}(h:SS V (tbF R nc a.z a.t::l) w)(hb:a.b=true)(ho:StOk P a):SS V (stA R nc P a::l) w:=by
  unfold stA;rw[hb];exact SS.star.2 (h.fact (cF _) ho).up1
theorem SS.stN{V w:World}{l:List Ft}{R nc:Nat}{P:LPd}{a:StR}(h:SS V (rO ratK 70 a.y.p a.y.l a.y.c a.Y::l) w)(hb:a.b=false)(ho:InfY P a.Y):SS V (stA R nc P a::l) w:=by
  unfold stA;rw[hb];exact SS.star.2 (h.fact (cF _) ho).up1
set_option maxRecDepth 100000 in
set_option maxHeartbeats 4000000 in
theorem start_any(w V:World){R nc:Nat}{z:TbS}{P:LPd}(l:List Ft)(hK:SS V ((tbF R nc z (⟨P.init.T,P.goal⟩))::l) w)(tz1:OkA 1 l)(tz2:OkA 2 l)(tz3:OkA 3 l)(hP:P.Ok)(hL:LimP P)(hn1:1<=P.c.length)(hmm:P.A.length<=2000)(hcc:P.c.length<=2000):
    Calls Tryz.prog 61 #[.pointer (some ⟨R,0,none⟩)] w fun e w'=> ∃a:StR,e=.returned (.tuple #[.slice a.y.p a.y.l a.y.c,.bool a.b])/\SS V (stA R nc P a::l) w':=by
  have hrl:=hid (init_rl P);have hbl:=hid (init_bl P);have hfl:=hid (init_fl P);have hgl:=hid (goal_len P);have hrs0:=hid (rows0_r hP);have hbn:=hid hP.hb;obtain⟨⟨rp,rl,rc⟩,⟨bp,bl,bc⟩,⟨fp,fl,fc⟩,⟨⟨gp,gl,gc⟩,gn,gy,gz⟩,rs⟩:=z;replace hK:=SS.tb.1 hK;dsimp only[tbL,List.cons_append,List.nil_append,Rw4.q]at hK;have hrs:=hid (hK.get m0);have nr:=hid ((hK.len m2).trans hrs.out);have⟨nr1,nr2⟩:=lle nr.out;have nb:=hid (hK.len m3);have⟨nb1,nb2⟩:=lle nb.out;have nf:=hid (hK.len m4);have⟨nf1,nf2⟩:=lle nf.out;have ng:=hid (hK.len m6);have⟨ng1,ng2⟩:=lle ng.out;replace hK:=hK.subl (sC2 (sR));have hra:=hid (nr.out.trans hrl.out);have⟨hra1,hra2⟩:=lle hra.out;refine Calls.hide (fun Q0 hQ0=>?_);go_enter Tryz.func61,Tryz.ntmps61;go_upto_region 2 with(fail);refine wp_region_T [0,0,0,1,0,0] hK ?_;clear hK
  iterate 3 refine e0 ?_
  refine eL m0 ?_
  iterate 2 refine e0 ?_
  refine sxEnd (fun W1 hK=>?_);go_wp2_with fail;go_loopw [4,16] (fun s4 s16 wl=> ∃(m:Nat) (e:Int),s4=.int .i64 e/\s16=.int .i64 (m:Int)/\(m<=rl)/\Hid (WorstP P.b m e)/\SS V ((bx R (.cells #[.slice rp rl rc,.slice bp bl bc,.slice fp fl fc,.slice gp gl gc,.bool gn,.slice gy.p gy.l gy.c,.slice gz.p gz.l gz.c,.int .i64 (nc:Int)] 151))::(rO rw4K 149 rp rl rc rs)::(rO intK 3 bp bl bc P.init.T.basic)::(rO intK 3 fp fl fc P.init.T.free)::(fmF 70 rs P.init.T.rows [])::(rO ratK 70 gp gl gc P.goal.cs)::(qF (.agg #[.bool gn,.slice gy.p gy.l gy.c,.slice gz.p gz.l gz.c]) (P.goal.r))::l) wl) (fun s4 s16 _=>rl-(intOf s16).toNat)
  case atStart=>exact⟨0,(-1),rfl,rfl,(by omega),hid WorstP.zero,hK⟩
  clear hK;obtain⟨m,e,rfl,rfl,hm0,h_w,hK⟩:=hrel;generalize wr=W2 at hK⊢;go_upto_region 3 with(fail);refine wp_region_T [0] hK ?_;clear hK;refine eB (decide (((m:Int))<((rl:Int)))) (fun b1 hb1=>?_);refine sxEnd (fun W3 hK=>?_)
  cases b1
  . --
   have q_b1:=nlt hb1;go_upto_region 8 with(fail);refine wp_region_T [0,0] hK ?_;clear hK;refine e0 ?_;refine eB (decide (e<0)) (fun b2 hb2=>?_);refine sxEnd (fun W4 hK=>?_)
   cases b2
   . --
    have q_b2:=nlt hb2;have hm9:m=P.A.length:=(by omega);have hwp9:=h_w.out;rw[hm9]at hwp9;obtain⟨mw,rfl⟩:∃q:Nat,e=(q:Int):=Int.eq_ofNat_of_zero_le q_b2;have hwm:=hid hwp9;clear hwp9 hm9;obtain⟨hma,hph0⟩:=worst_ph1 hP hwm.out;have hph:=hid hph0;clear hph0;obtain⟨X,hX,hLS0⟩:=hL.a (worst_neg hwm.out);have hLS:=hid hLS0;clear hLS0;obtain⟨ng,hng⟩:∃q:List Rat,Hid (List.replicate P.A.length (-1)=q):=⟨_,hid rfl⟩;go_upto_region 10 with(fail);refine wp_region_T [0,0,0,1,0,0] hK ?_;clear hK
    iterate 3 refine e0 ?_
    refine eL m0 ?_
    iterate 2 refine e0 ?_
    refine sxEnd (fun W5 hK=>?_);rw[show P.init.T.rows=updK (fun i x=>⟨x.cs++[ng.getD i 0],x.r⟩) P.init.T.rows 0 from updK_zero.symm]at hK;go_wp2_with fail;go_loopw [52] (fun s52 wl=> ∃(mr:Nat) (rs2:List Rw4),s52=.int .i64 (mr:Int)/\(mr<=rl)/\Hid (rs2.length=rs.length)/\SS V ((bx R (.cells #[.slice rp rl rc,.slice bp bl bc,.slice fp fl fc,.slice gp gl gc,.bool gn,.slice gy.p gy.l gy.c,.slice gz.p gz.l gz.c,.int .i64 (nc:Int)] 151))::(rO rw4K 149 rp rl rc rs2)::(rO intK 3 bp bl bc P.init.T.basic)::(rO intK 3 fp fl fc P.init.T.free)::(fmF 70 rs2 (updK (fun i x=>⟨x.cs++[ng.getD i 0],x.r⟩) P.init.T.rows mr) [])::(rO ratK 70 gp gl gc P.goal.cs)::(qF (.agg #[.bool gn,.slice gy.p gy.l gy.c,.slice gz.p gz.l gz.c]) (P.goal.r))::l) wl) (fun s52 _=>rl-(intOf s52).toNat)
    case atStart=>exact⟨0,rs,rfl,(by omega),hid rfl,hK⟩
    clear hK;obtain⟨mr,rs2,rfl,hm2,h_n,hK⟩:=hrel;generalize wr=W6 at hK⊢;go_upto_region 11 with(fail);refine wp_region_T [0] hK ?_;clear hK;refine eB (decide (((mr:Int))<((rl:Int)))) (fun b3 hb3=>?_);refine sxEnd (fun W7 hK=>?_)
    cases b3
    . --
     have q_b3:=nlt hb3;replace hK:=hK.fact (qF (.agg #[.bool false,.slice none 0 0,.slice none 0 0]) (0:Rat)) (RatV.zero _);go_upto_region 15 with(fail);refine wp_region_T [0,0,0,0,0,1,0,3,5,0,0,0,4] hK ?_;clear hK
     iterate 5 refine e0 ?_
     refine eL m1 ?_;refine e0 ?_;refine eA (.cells #[.bool false,.slice none 0 0,.slice none 0 0] 70) (fun R8=>?_);refine eAppK 2 ratK_hd rfl 7 (fun e=>by have q:=hgl.out;rw[e]at q;simp at q;omega) rfl infoQ (fun w k=>k.one1 (K:=ratK) (x:=(0:Rat)) m0 ⟨_,_,_,rfl,k.q m1⟩) (by rw[hgl.out];simp;omega) (fun x9=>?_);obtain⟨p9,n9,c9⟩:=x9;dsimp only
     iterate 3 refine e0 ?_
     refine eP 2 3 [.slice p9 n9 c9] ?_;refine sxEnd (fun W10 hK=>?_);go_upto_region 16 with(fail);refine wp_region_T [0,0,0,0,1,3,5,0,0,4] hK ?_;clear hK
     iterate 4 refine e0 ?_
     refine eL m2 ?_;refine eA (.cells #[.int .i64 (-1)] 3) (fun R11=>?_);refine eAppK 1 intK_hd rfl 6 (fun e=>by have q:=hfl.out;rw[e]at q;simp at q;omega) rfl infoZ (fun w k=>k.one1 (K:=intK) (x:=(-1)) m0 rfl) (by rw[hfl.out];simp;omega) (fun x12=>?_);obtain⟨p12,n12,c12⟩:=x12;dsimp only
     iterate 2 refine e0 ?_
     refine eP 3 2 [.slice p12 n12 c12] ?_;refine sxEnd (fun W13 hK=>?_);have hnn:=hid (show n12=P.c.length+1 from by have q:=hK.len m6;rw[List.length_append,hfl.out]at q;exact q);have hnn1:n12<=2001:=(by rw[hnn.out];omega);have hnn2:1<=n12:=(by rw[hnn.out];omega);go_upto_region 17 with(fail);refine wp_region_T [0,0,0,1,0,0,0] hK ?_;clear hK
     iterate 3 refine e0 ?_
     refine eL m3 ?_;refine e0 ?_;refine eV (.int .i64 (P.c.length:Int)) (fun w'=>by go_simp;(try go_bits);exact⟨congrArg (Value.int .i64) (by have q:=hnn.out;omega),rfl⟩) ?_;refine e0 ?_;refine sxEnd (fun W14 hK=>?_);go_upto_region 18 with(fail);refine wp_region_T [0,0,0,1,0,3,0,3,4] hK ?_;clear hK
     iterate 3 refine e0 ?_
     refine eL m3 ?_;refine e0 ?_;refine eMk (K:=ratK) (t:=70) (x:=(0:Rat)) n12 rat0 rfl infoQ (by have q:=hnn.out;show n12*3<=_;omega) (by decide) (fun g15=>?_);refine e0 ?_;refine eA (.cells #[.slice none 0 0,.bool false,.slice none 0 0,.slice none 0 0] 149) (fun R16=>?_);refine eP 0 0 [.slice (some ⟨g15,0,none⟩) n12 n12,.bool false,.slice none 0 0,.slice none 0 0] ?_;refine sxEnd (fun W17 hK=>?_);replace hK:=hK.up1;replace hK:=hK.made (K:=ratK) (n:=n12) rat0 (by simp[maxLen];omega);have hnn3:=hnn.out;have i18:P.c.length<n12:=(by omega);have l18:P.c.length<(List.replicate n12 (0:Rat)).length:=Nat.lt_of_lt_of_eq i18 (hK.len m0);obtain⟨xz,exz⟩:=gtH l18;go_upto_region 19 with(fail);refine wp_region_S _ [0,0,0,2,0,4] hK ?_ (sC2 (sR));clear hK;refine e0 ?_;refine eL0 m0 ?_;refine e0 ?_;refine eC (fun w k=>rat_S (qint_any 1 w (by omega) (by omega))) (fun x19=>?_);obtain⟨⟨p20,l20,c20⟩,⟨q20,u20,d20⟩⟩:=x19;dsimp only;refine e0 ?_;refine eWQ (y:=((1:Int):Rat)) 1 (by rw[List.length_replicate];omega) m0 ?_ (hi:=rfl) (hs:=(sC2 (sC2 (sR))));refine sxEnd (fun W21 hK=>?_);rw[show(List.replicate n12 (0:Rat)).set (P.c.length) ((1:Int):Rat)=P.zero.cs from(by rw[hnn.out];exact zero_cs P)]at hK;have hA:Hid (P.initA.T=P.init.T.add ng (-1)):=hid (by rw[initA_add,hng.out]);rw[show updK (fun i x=>⟨x.cs++[ng.getD i 0],x.r⟩) P.init.T.rows mr=P.initA.T.rows from(by rw[hA.out,add_upd (k:=mr) (by omega)])]at hK;rw[show P.init.T.free++[(-1)]=P.initA.T.free from(by rw[hA.out];rfl)]at hK;rw[show P.init.T.basic=P.initA.T.basic from(by rw[hA.out];rfl)]at hK;rw[show P.goal.cs++[(0:Rat)]=(P.goal.add 0).cs from(by rw[<-goal_add0])]at hK;replace hK:=hK.subl (sC2 (sK2 (sK2 (sC2 (sC2 (sR))))));replace hK:=hK.up2;replace hK:=hK.up1;replace hK:=hK.up2;replace hK:=hK.up9;replace hK:=hK.up9;replace hK:=hK.up9;replace hK:=hK.up9;replace hK:=hK.up9;replace hK:=hK.up9;replace hK:=hK.up9;replace hK:SS V (tbF R nc (⟨⟨rp,rl,rc⟩,⟨bp,bl,bc⟩,⟨p12,n12,c12⟩,⟨⟨p9,n9,c9⟩,gn,⟨gy.p,gy.l,gy.c⟩,⟨gz.p,gz.l,gz.c⟩⟩,rs2⟩) (⟨P.initA.T,(P.goal.add 0)⟩:LSt)::_) _:=SS.tb.2 (hK.fact (cF (List.length rs2=(LTab.rows P.initA.T).length)) (show rs2.length=P.initA.T.rows.length from by rw[h_n.out,hrs.out,initA_len];exact hrl.out))
     obtain⟨zA,hzA⟩:∃q:TbS,Hid ((⟨⟨rp,rl,rc⟩,⟨bp,bl,bc⟩,⟨p12,n12,c12⟩,⟨⟨p9,n9,c9⟩,gn,⟨gy.p,gy.l,gy.c⟩,⟨gz.p,gz.l,gz.c⟩⟩,rs2⟩:TbS)=q):=⟨_,hid rfl⟩;rw[hzA.out]at hK;have hlA:=hid ((hLS.out.a _ hP.initA (Alike.refl _)).lm hX);have hlB:=hid ((hLS.out.a _ hph.out.ok hph.out.al).lm hX);have hsp:=hid (start_piv P mw);have hmA:=hid (show LmO 300 ⟨P.initA.T,[P.goal.add 0,P.zero]⟩from by have q:=hlA.out;rwa [show P.initA=⟨P.initA.T,[P.goal.add 0,P.zero]⟩from by rw[<-initA_os]]at q);have hmB:=hid (show LmO 300 (LObj.piv ⟨P.initA.T,[P.goal.add 0,P.zero]⟩ mw P.c.length)from by have q:=hlB.out;rwa [hsp.out]at q);go_upto_region 20 with(fail);refine wp_region_T [0,0,0,0,0,0,3,4] hK ?_;clear hK
     iterate 6 refine e0 ?_
     refine eA (.cells #[.pointer (some ⟨R,3,none⟩),.pointer (some ⟨R16,0,none⟩)] 152) (fun R22=>?_);refine eM (fun w k=>piv2_any w _ _ (L:=plZ R16) (x:=⟨⟨(some ⟨g15,0,none⟩),n12,n12⟩,false,⟨none,0,0⟩,⟨none,0,0⟩⟩) (y:=P.zero) k.up4.up4.up4.up4 tz1 tz2 tz3 (by rw[initA_len];exact hma) (by rw[initA_free];omega) hP.initA.ok (hP.initA.len _ (by rw[initA_os];simp)) (hP.initA.len _ (by rw[initA_os];simp)) hmA.out hmB.out (by rw[initA_free];omega) (by rw[initA_len];omega)) (fun x23=>?_);refine sxEnd (fun W24 hK=>?_);go_wp2_with fail;go_loopg [] (muS ⟨(P.initA.T.pivot mw P.c.length),(P.initA.T.obj mw P.c.length P.zero)⟩) (fun gk0 wl=> ∃(TT:LTab) (gg:LRow) (zz:LRow) (zq:TbS) (zx:Rw4),Hid (Ph1 P ⟨TT,[gg,zz]⟩)/\Hid (gk0=muS ⟨TT,zz⟩)/\SS V ((tbF R nc zq (⟨TT,gg⟩))::(bx R16 (.cells #[.slice zx.s.p zx.s.l zx.s.c,.bool zx.n,.slice zx.y.p zx.y.l zx.y.c,.slice zx.z.p zx.z.l zx.z.c] 149))::(rO ratK 70 zx.s.p zx.s.l zx.s.c zz.cs)::(qF (.agg #[.bool zx.n,.slice zx.y.p zx.y.l zx.y.c,.slice zx.z.p zx.z.l zx.z.c]) (zz.r))::l) wl)
     case atStart=>exact⟨P.initA.T.pivot mw P.c.length,P.initA.T.obj mw P.c.length (P.goal.add 0),P.initA.T.obj mw P.c.length P.zero,x23.a,x23.b,hid (by have q:=hph.out;rw[hsp.out]at q;exact q),hid rfl,hK⟩
     clear hK;obtain⟨TT,gg,zz,zq,zx,h_p,hgk25,hK⟩:=hrel;generalize wr=W26 at hK⊢;have hok:=h_p.out.ok.ok;have hlm:=hid ((hLS.out.a _ h_p.out.ok h_p.out.al).lm hX);have hfl2:=hid h_p.out.free_len;have hrl2:=hid h_p.out.rows_len;have hzl:=hid (h_p.out.ok.len zz (List.mem_cons_of_mem _ (List.mem_cons_self ..)));have hgl2:=hid (h_p.out.ok.len gg (List.mem_cons_self ..));obtain⟨⟨rp2,rl2,rc2⟩,⟨bp2,bl2,bc2⟩,⟨fp2,fl2,fc2⟩,⟨⟨gp2,gl2,gc2⟩,gn2,gy2,gz2⟩,rs2⟩:=zq;replace hK:=SS.tb.1 hK;dsimp only[tbL,List.cons_append,List.nil_append,Rw4.q]at hK;have hrs2:=hid (hK.get m0);have n2r:=hid ((hK.len m2).trans hrs2.out);have⟨n2r1,n2r2⟩:=lle n2r.out;have n2b:=hid (hK.len m3);have⟨n2b1,n2b2⟩:=lle n2b.out;have n2f:=hid (hK.len m4);have⟨n2f1,n2f2⟩:=lle n2f.out;have n2g:=hid (hK.len m6);have⟨n2g1,n2g2⟩:=lle n2g.out;replace hK:=hK.subl (sC2 (sR));go_upto_region 21 with(fail);refine wp_region_T [0,0,0,1,1] hK ?_;clear hK
     iterate 3 refine e0 ?_
     refine eL m0 ?_;obtain⟨b4,hb4⟩:=nmB (TT.basic.contains (-1));refine eQ (v:=.bool b4) (fun w k=>contains_int (-1) (k.own m2)) ?_ (hv:=by rw[hb4.out]);refine sxEnd (fun W27 hK=>?_)
     cases b4
     . --
      go_upto_region 25 with(fail);refine wp_region_T [0,1,1,0] hK ?_;clear hK;refine e0 ?_;refine eL m7 ?_;obtain⟨z1,hz1⟩:=nmI (sgQ (zz.r));refine eQ (v:=.int .i64 z1) (fun w k=>sign_any _ _ w (k.q m9)) ?_ (hv:=by rw[hz1.out]);refine eB (decide (z1<0)) (fun b5 hb5=>?_);refine sxEnd (fun W28 hK=>?_)
      cases b5
      . --
       have q_b5:=nlt hb5;have hzr0:Hid (0<=zz.r):=hid (Rat.not_lt.1 (fun q=>absurd ((sgx_lt hz1.out).2 q) (of_decide_eq_false hb5.out)));replace hK:=hK.subl (sK2 (sK2 (sK2 (sK2 (sK2 (sK2 (sK2 (sC2 (sC2 (sC2 (sR)))))))))));replace hK:SS V (tbF R nc (⟨⟨rp2,rl2,rc2⟩,⟨bp2,bl2,bc2⟩,⟨fp2,fl2,fc2⟩,⟨⟨gp2,gl2,gc2⟩,gn2,⟨gy2.p,gy2.l,gy2.c⟩,⟨gz2.p,gz2.l,gz2.c⟩⟩,rs2⟩) (⟨TT,gg⟩:LSt)::_) _:=SS.tb.2 (hK.fact (cF (List.length rs2=(LTab.rows TT).length)) hrs2.out);obtain⟨zD,hzD⟩:∃q:TbS,Hid ((⟨⟨rp2,rl2,rc2⟩,⟨bp2,bl2,bc2⟩,⟨fp2,fl2,fc2⟩,⟨⟨gp2,gl2,gc2⟩,gn2,⟨gy2.p,gy2.l,gy2.c⟩,⟨gz2.p,gz2.l,gz2.c⟩⟩,rs2⟩:TbS)=q):=⟨_,hid rfl⟩;rw[hzD.out]at hK;go_upto_region 27 with(fail);refine wp_region_T [0,4] hK ?_;clear hK;refine e0 ?_;refine eM (fun w k=>remove_any w _ _ (z0:=zz) k tz1 tz2 tz3 hP h_p.out hzr0.out hLS.out hX hmm hcc) (fun x29=>?_);refine sxEnd (fun W30 hK=>?_);obtain⟨hr1,hr2⟩:=hK.get m1;replace hK:=hK.subl (sK2 (sC2 (sR)));go_wp2
       try go_ret
       show Q0 (.returned (.tuple #[.slice none 0 0,.bool true])) _
       exact(qo hQ0 ⟨⟨true,⟨none,0,0⟩,x29.a,x29.b,[]⟩,rfl,SS.stT hK rfl ⟨rfl,hr1,hr2,LmK.of hLS.out hX hr1 hr2⟩⟩)
      have q_b5:=ylt hb5;go_upto_region 26 with(fail);refine wp_region_T [0,1,2,0,0] hK ?_;clear hK;refine e0 ?_;refine eL m7 ?_;refine eC (fun w k=>prices_any w (z:=⟨⟨rp2,rl2,rc2⟩,⟨bp2,bl2,bc2⟩,⟨fp2,fl2,fc2⟩,⟨⟨gp2,gl2,gc2⟩,gn2,⟨gy2.p,gy2.l,gy2.c⟩,⟨gz2.p,gz2.l,gz2.c⟩⟩,rs2⟩) (s:=⟨TT,gg⟩) ⟨k.box m0,k.slv m1,k.slv m2,k.slv m3,k.fmV m4 hrs2.out,k.slv m5,k.q m6⟩ hok (Nat.le_trans (Nat.le_of_eq hrl2.out) (by omega)) (k.slv m8) hzl.out (Nat.le_trans (Nat.le_of_eq hfl2.out) (by omega))) (fun x31=>?_);obtain⟨px31,lx31,cx31⟩:=x31;dsimp only
      iterate 2 refine e0 ?_
      refine sxEnd (fun W32 hK=>?_);replace hK:=hK.subl (sK2 (sC2 (sC2 (sC2 (sC2 (sC2 (sC2 (sC2 (sC2 (sC2 (sC2 (sR))))))))))));go_wp2
      try go_ret
      show Q0 (.returned (.tuple #[.slice px31 lx31 cx31,.bool false])) _
      exact(qo hQ0 ⟨⟨false,⟨px31,lx31,cx31⟩,Classical.choice inferInstance,Classical.choice inferInstance,pricesL TT.rows.length TT.free zz.cs⟩,rfl,SS.stN hK rfl (h_p.out.infY hP ((sgx_lt hz1.out).1 q_b5) (.inl (notin_of hb4.out)))⟩)
     go_upto_region 22 with(fail);refine wp_region_T [0,1,0] hK ?_;clear hK;refine e0 ?_;obtain⟨z1,hz1⟩:=nmI (entN zz.cs TT.free zz.cs.length);refine eQ (v:=.int .i64 z1) (fun w k=>ent_any w (plZ R16) (k.box m0) (k.box m7) (k.slv m3) (k.slv m8) (Nat.le_of_eq hzl.out) (by rw[hfl2.out];omega)) ?_ (hv:=by rw[hz1.out]);refine e0 ?_;refine sxEnd (fun W33 hK=>?_);go_upto_region 23 with(fail);refine wp_region_T [0,0] hK ?_;clear hK;refine e0 ?_;refine eB (decide (z1<0)) (fun b5 hb5=>?_);refine sxEnd (fun W34 hK=>?_)
     cases b5
     . --
      have q_b5:=nlt hb5;obtain⟨j,rfl⟩:∃j:Nat,z1=(j:Int):=Int.eq_ofNat_of_zero_le q_b5;obtain⟨hjl,hjn⟩:=ent_some (s:=⟨TT,zz⟩) hz1.out;have hjf:j<TT.free.length:=(by rw[<-hzl.out];exact hjl);obtain⟨i,hie0,hil⟩:=h_p.out.lea (z:=zz) rfl hjf hjn;have hie:=hid hie0;clear hie0;have hst:=hid (Ph1.lstep h_p.out rfl hz1.out hie.out);have hpk:=hid (pick_of (s:=⟨TT,zz⟩) (h_p.out.lst (z:=zz) rfl) hz1.out hie.out);have hl2:=hid ((hLS.out.a _ hst.out.1.ok hst.out.1.al).lm hX);replace hjn:=hid hjn;replace hK:SS V (tbF R nc (⟨⟨rp2,rl2,rc2⟩,⟨bp2,bl2,bc2⟩,⟨fp2,fl2,fc2⟩,⟨⟨gp2,gl2,gc2⟩,gn2,⟨gy2.p,gy2.l,gy2.c⟩,⟨gz2.p,gz2.l,gz2.c⟩⟩,rs2⟩) (⟨TT,gg⟩:LSt)::_) _:=SS.tb.2 (hK.fact (cF (List.length rs2=(LTab.rows TT).length)) hrs2.out);obtain⟨zD,hzD⟩:∃q:TbS,Hid ((⟨⟨rp2,rl2,rc2⟩,⟨bp2,bl2,bc2⟩,⟨fp2,fl2,fc2⟩,⟨⟨gp2,gl2,gc2⟩,gn2,⟨gy2.p,gy2.l,gy2.c⟩,⟨gz2.p,gz2.l,gz2.c⟩⟩,rs2⟩:TbS)=q):=⟨_,hid rfl⟩;rw[hzD.out]at hK;go_upto_region 24 with(fail);refine wp_region_S _ [0,0,0,1,0,0,0,0,3,4] hK ?_ (sC2 (sC2 (sC2 (sC2 (sR)))));clear hK
      iterate 3 refine e0 ?_
      refine eQ (fun w k=>(leat_any w _ _ (j:=j) k hok hjf hlm.out.t (by rw[hok.nb,hrl2.out];omega) (by rw[hfl2.out];omega)).mono fun _ _ q=>by rw[hie.out]at q;exact q) ?_
      iterate 4 refine e0 ?_
      refine eA (.cells #[.pointer (some ⟨R,3,none⟩),.pointer (some ⟨R16,0,none⟩)] 152) (fun R35=>?_);refine eM (fun w k=>piv2_any w _ _ (L:=plZ R16) (x:=zx) (y:=zz) k.up4.up4.up4.up4 tz1 tz2 tz3 hpk.out.hi hjf hok hgl2.out hzl.out hlm.out hl2.out (by rw[hfl2.out];omega) (by rw[hrl2.out];omega)) (fun x36=>?_) (hs:=fun _=>(sC2 (sC2 (sC2 (sC2 (sR))))));refine sxEnd (fun W37 hK=>?_)
      (try go_wp2)
      go_roundg (muS ⟨(TT.pivot i j),(TT.obj i j zz)⟩)
      case measure=>rw[hgk25.out];exact hst.out.2.2
      case rel=>exact⟨TT.pivot i j,TT.obj i j gg,TT.obj i j zz,x36.a,x36.b,hid hst.out.1,hid rfl,hK⟩
     have q_b5:=ylt hb5;go_upto_region 25 with(fail);refine wp_region_T [0,1,1,0] hK ?_;clear hK;refine e0 ?_;refine eL m7 ?_;obtain⟨z2,hz2⟩:=nmI (sgQ (zz.r));refine eQ (v:=.int .i64 z2) (fun w k=>sign_any _ _ w (k.q m9)) ?_ (hv:=by rw[hz2.out]);refine eB (decide (z2<0)) (fun b6 hb6=>?_);refine sxEnd (fun W38 hK=>?_)
     cases b6
     . --
      have q_b6:=nlt hb6;have hzr0:Hid (0<=zz.r):=hid (Rat.not_lt.1 (fun q=>absurd ((sgx_lt hz2.out).2 q) (of_decide_eq_false hb6.out)));replace hK:=hK.subl (sK2 (sK2 (sK2 (sK2 (sK2 (sK2 (sK2 (sC2 (sC2 (sC2 (sR)))))))))));replace hK:SS V (tbF R nc (⟨⟨rp2,rl2,rc2⟩,⟨bp2,bl2,bc2⟩,⟨fp2,fl2,fc2⟩,⟨⟨gp2,gl2,gc2⟩,gn2,⟨gy2.p,gy2.l,gy2.c⟩,⟨gz2.p,gz2.l,gz2.c⟩⟩,rs2⟩) (⟨TT,gg⟩:LSt)::_) _:=SS.tb.2 (hK.fact (cF (List.length rs2=(LTab.rows TT).length)) hrs2.out);obtain⟨zD,hzD⟩:∃q:TbS,Hid ((⟨⟨rp2,rl2,rc2⟩,⟨bp2,bl2,bc2⟩,⟨fp2,fl2,fc2⟩,⟨⟨gp2,gl2,gc2⟩,gn2,⟨gy2.p,gy2.l,gy2.c⟩,⟨gz2.p,gz2.l,gz2.c⟩⟩,rs2⟩:TbS)=q):=⟨_,hid rfl⟩;rw[hzD.out]at hK;go_upto_region 27 with(fail);refine wp_region_T [0,4] hK ?_;clear hK;refine e0 ?_;refine eM (fun w k=>remove_any w _ _ (z0:=zz) k tz1 tz2 tz3 hP h_p.out hzr0.out hLS.out hX hmm hcc) (fun x39=>?_);refine sxEnd (fun W40 hK=>?_);obtain⟨hr1,hr2⟩:=hK.get m1;replace hK:=hK.subl (sK2 (sC2 (sR)));go_wp2
      try go_ret
      show Q0 (.returned (.tuple #[.slice none 0 0,.bool true])) _
      exact(qo hQ0 ⟨⟨true,⟨none,0,0⟩,x39.a,x39.b,[]⟩,rfl,SS.stT hK rfl ⟨rfl,hr1,hr2,LmK.of hLS.out hX hr1 hr2⟩⟩)
     have q_b6:=ylt hb6;go_upto_region 26 with(fail);refine wp_region_T [0,1,2,0,0] hK ?_;clear hK;refine e0 ?_;refine eL m7 ?_;refine eC (fun w k=>prices_any w (z:=⟨⟨rp2,rl2,rc2⟩,⟨bp2,bl2,bc2⟩,⟨fp2,fl2,fc2⟩,⟨⟨gp2,gl2,gc2⟩,gn2,⟨gy2.p,gy2.l,gy2.c⟩,⟨gz2.p,gz2.l,gz2.c⟩⟩,rs2⟩) (s:=⟨TT,gg⟩) ⟨k.box m0,k.slv m1,k.slv m2,k.slv m3,k.fmV m4 hrs2.out,k.slv m5,k.q m6⟩ hok (Nat.le_trans (Nat.le_of_eq hrl2.out) (by omega)) (k.slv m8) hzl.out (Nat.le_trans (Nat.le_of_eq hfl2.out) (by omega))) (fun x41=>?_);obtain⟨px41,lx41,cx41⟩:=x41;dsimp only
     iterate 2 refine e0 ?_
     refine sxEnd (fun W42 hK=>?_);replace hK:=hK.subl (sK2 (sC2 (sC2 (sC2 (sC2 (sC2 (sC2 (sC2 (sC2 (sC2 (sC2 (sR))))))))))));go_wp2
     try go_ret
     show Q0 (.returned (.tuple #[.slice px41 lx41 cx41,.bool false])) _
     exact(qo hQ0 ⟨⟨false,⟨px41,lx41,cx41⟩,Classical.choice inferInstance,Classical.choice inferInstance,pricesL TT.rows.length TT.free zz.cs⟩,rfl,SS.stN hK rfl (h_p.out.infY hP ((sgx_lt hz2.out).1 q_b6) (.inr (by rw[hz1.out];exact q_b5)))⟩)
    have q_b3:=ylt hb3;have hkr:mr<P.init.T.rows.length:=(by omega);obtain⟨y,ey⟩:∃y,Hid (P.init.T.rows[mr]?=some y):=⟨_,hid (List.getElem?_eq_getElem hkr)⟩;have hy1:Hid ((updK (fun i x=>⟨x.cs++[ng.getD i 0],x.r⟩) P.init.T.rows mr)[mr]?=some y):=hid (updK_at.trans ey.out);have hyc:=hid (init_row hP (List.mem_of_getElem? ey.out));have i43:mr<rl:=(by omega);obtain⟨g43,rfl⟩:=hK.pt m1 i43;have l43:mr<rs2.length:=Nat.lt_of_lt_of_eq i43 (hK.len m1);obtain⟨x,ex⟩:=gtH l43;obtain⟨⟨x_p,x_l,x_c⟩,x_n,⟨x_yp,x_yl,x_yc⟩,⟨x_zp,x_zl,x_zc⟩⟩:=x;replace hK:=hK.up4;replace hK:=hK.rwO List.not_mem_nil ex.out hy1.out;dsimp only[Rw4.q]at hK;go_upto_region 13 with(fail);refine wp_region_S _ [0,0,0,0,0,0,0,0,0,0,0,0,1,2,3,5,0,0,4] hK ?_ (sC2 (sK2 (sK2 (sK2 (sC2 (sR))))));clear hK
    iterate 3 refine e0 ?_
    refine eL0 m2 ?_
    iterate 4 refine e0 ?_
    refine eL0 m2 ?_
    iterate 3 refine e0 ?_
    refine eR (fun w k=>(k.own m4).rwc0 ex.out) ?_;refine eC (fun w k=>rat_S (qint_any (-1) w (by omega) (by omega))) (fun x44=>?_);obtain⟨⟨p45,l45,c45⟩,⟨q45,u45,d45⟩⟩:=x44;dsimp only;refine eA (.cells #[.bool (isN ((((-1):Int):Rat))),.slice p45 l45 c45,.slice q45 u45 d45] 70) (fun R46=>?_);refine eAppK 2 ratK_hd rfl 2 (fun e=>by have q:=hyc.out;rw[e]at q;simp at q;omega) rfl infoQ (fun w k=>k.one1 (K:=ratK) (x:=(((-1):Int):Rat)) m0 ⟨_,_,_,rfl,k.q m1⟩) (by rw[hyc.out];simp;omega) (fun x47=>?_) (hs:=fun _=>(sC2 (sC2 (sC2 (sK2 (sK2 (sK2 (sC2 (sR)))))))));obtain⟨p47,n47,c47⟩:=x47;dsimp only
    iterate 2 refine e0 ?_
    refine eWr ⟨⟨p47,n47,c47⟩,x_n,⟨x_yp,x_yl,x_yc⟩,⟨x_zp,x_zl,x_zc⟩⟩ 6 0 [.slice p47 n47 c47] ex.out ?_ (hi:=rfl) (h1:=by intro w' k;have c0:=k.rwc0 ex.out;have c1:=k.rwc ex.out 1 rfl;have c2:=k.rwc ex.out 2 rfl;have c3:=k.rwc ex.out 3 rfl;have f:=OwV.fz k;go_simp;exact⟨rfl,rfl⟩) (hs:=(sC2 (sC2 (sC2 (sK2 (sK2 (sK2 (sC2 (sR)))))))));refine sxEnd (fun W48 hK=>?_);rw[show y.cs++[(((-1):Int):Rat)]=y.cs++[ng.getD mr 0]from(by rw[<-hng.out,getD_of (show(List.replicate P.A.length (-1:Rat))[mr]?=some (-1)from List.getElem?_replicate_of_lt (by omega))];rfl)]at hK;replace hK:=hK.up4;replace hK:=hK.up4;replace hK:=hK.up4;replace hK:=SS.rwB (x:=⟨⟨p47,n47,c47⟩,x_n,⟨x_yp,x_yl,x_yc⟩,⟨x_zp,x_zl,x_zc⟩⟩) (y:=⟨y.cs++[ng.getD mr 0],y.r⟩) hK List.not_mem_nil (by rw[updK_len];exact hkr) (by rw[h_n.out,hrs.out];exact hkr);rw[updK_step ey.out]at hK
    (try go_wp2)
    go_roundw
    case rel=>exact⟨mr+1,rs2.set mr (⟨⟨p47,n47,c47⟩,x_n,⟨x_yp,x_yl,x_yc⟩,⟨x_zp,x_zl,x_zc⟩⟩),(by first|rfl|go_num),(by omega),hid (by rw[List.length_set];exact h_n.out),(hK.subl (sK2 (sC2 (sC2 (sR))))).up6.up6.up2.up6.up6.up6.up6⟩
    case measure=>simp[intOf]<;>omega
   have q_b2:=ylt hb2;replace hK:SS V (tbF R nc (⟨⟨rp,rl,rc⟩,⟨bp,bl,bc⟩,⟨fp,fl,fc⟩,⟨⟨gp,gl,gc⟩,gn,⟨gy.p,gy.l,gy.c⟩,⟨gz.p,gz.l,gz.c⟩⟩,rs⟩) (⟨P.init.T,P.goal⟩:LSt)::_) _:=SS.tb.2 (hK.fact (cF (List.length rs=(LTab.rows P.init.T).length)) hrs.out);have hm9:m=P.A.length:=(by omega);have hwp9:=h_w.out;rw[hm9]at hwp9;obtain rfl:e= -1:=(by rcases h_w.out.case with q|⟨n,q,_⟩;exact q;have q9:=q_b2;omega);go_wp2
   try go_ret
   show Q0 (.returned (.tuple #[.slice none 0 0,.bool true])) _
   exact(qo hQ0 ⟨⟨true,⟨none,0,0⟩,⟨⟨rp,rl,rc⟩,⟨bp,bl,bc⟩,⟨fp,fl,fc⟩,⟨⟨gp,gl,gc⟩,gn,⟨gy.p,gy.l,gy.c⟩,⟨gz.p,gz.l,gz.c⟩⟩,rs⟩,⟨P.init.T,P.goal⟩,[]⟩,rfl,SS.stT hK rfl ⟨rfl,init_lst hP hwp9,Alike.refl _,hL.i (worst_none hwp9)⟩⟩)
  have q_b1:=ylt hb1;obtain⟨y,ey⟩:∃y,Hid (P.init.T.rows[m]?=some y):=⟨_,hid (List.getElem?_eq_getElem (by omega))⟩;have er:Hid (P.b[m]?=some y.r):=hid (by rw[<-hrs0.out,List.getElem?_map,ey.out];rfl);have erl:=hid (hL.b y.r (List.mem_of_getElem? er.out));have i49:m<rl:=(by omega);obtain⟨g49,rfl⟩:=hK.pt m1 i49;have l49:m<rs.length:=Nat.lt_of_lt_of_eq i49 (hK.len m1);obtain⟨x,ex⟩:=gtH l49;obtain⟨⟨x_p,x_l,x_c⟩,x_n,⟨x_yp,x_yl,x_yc⟩,⟨x_zp,x_zl,x_zc⟩⟩:=x;replace hK:=hK.fact (qF (.agg #[.bool x_n,.slice x_yp x_yl x_yc,.slice x_zp x_zl x_zc]) y.r) (hK.rwQ m4 List.not_mem_nil ex.out ey.out);go_upto_region 4 with(fail);refine wp_region_T [0,0,1,3,0,4] hK ?_;clear hK
  iterate 2 refine e0 ?_
  refine eRm (F:=fun w=>OwV rw4K 149 0 w (.slice (some ⟨g49,0,none⟩) rl rc) rs) (fun w k=>k.own m2) (h1:=by intro w' k;have c0:=k.rwc0 ex.out;have c1:=k.rwc ex.out 1 rfl;have c2:=k.rwc ex.out 2 rfl;have c3:=k.rwc ex.out 3 rfl;go_simp;(try go_bits);exact⟨rfl,rfl⟩) ?_;refine eA (.cells #[.slice none 0 0,.bool false,.slice none 0 0,.slice none 0 0] 149) (fun R50=>?_);refine e0 ?_;refine eP 0 0 [.slice x_p x_l x_c,.bool x_n,.slice x_yp x_yl x_yc,.slice x_zp x_zl x_zc] ?_;refine sxEnd (fun W51 hK=>?_)
  rcases h_w.out.case with rfl|⟨mw,rfl,hmk⟩
  . --
   go_upto_region 5 with(fail);refine wp_region_S _ [0,0,1,0,0,0,0,0,0,0,0,0,0,0,0,0,0,0,0,0,0,0] hK ?_ (sR);clear hK;refine e0 ?_;refine eL0 m0 ?_;obtain⟨z1,hz1⟩:=nmI (sgQ (y.r));refine eQ (v:=.int .i64 z1) (fun w k=>sign_any _ _ w (k.q m1)) ?_ (hv:=by rw[hz1.out]);refine eB (decide (z1<0)) (fun b2 hb2=>?_);refine e0 ?_
   cases b2
   . --
    have q_b2:=nlt hb2
    iterate 3 refine eN ?_
    iterate 12 refine eU ?_
    refine eN ?_;refine e0 ?_;refine sxEnd (fun W52 hK=>?_)
    (try go_wp2)
    go_roundw
    case rel=>exact⟨m+1,(-1),(by first|rfl|go_num),(by first|rfl|go_num),(by omega),hid (h_w.out.pos er.out (Rat.not_lt.1 (fun q=>absurd ((sgx_lt hz1.out).2 q) (of_decide_eq_false hb2.out)))),(hK.subl (sC2 (sC2 (sR))))⟩
    case measure=>simp[intOf]<;>omega
   have q_b2:=ylt hb2;refine e0 ?_;refine eV (.bool true) (fun w'=>by go_simp;(try go_bits);exact⟨rfl,rfl⟩) ?_;refine e0 ?_
   iterate 12 refine eN ?_
   iterate 2 refine e0 ?_
   refine sxEnd (fun W53 hK=>?_)
   (try go_wp2)
   go_roundw
   case rel=>exact⟨m+1,(m:Int),(by first|rfl|go_num),(by first|rfl|go_num),(by omega),hid (h_w.out.first er.out ((sgx_lt hz1.out).1 (of_decide_eq_true hb2.out))),(hK.subl (sC2 (sC2 (sR))))⟩
   case measure=>simp[intOf]<;>omega
  obtain⟨ym,eym⟩:∃y,Hid (P.init.T.rows[mw]?=some y):=⟨_,hid (List.getElem?_eq_getElem (by omega))⟩;have erm:Hid (P.b[mw]?=some ym.r):=hid (by rw[<-hrs0.out,List.getElem?_map,eym.out];rfl);have erml:=hid (hL.b ym.r (List.mem_of_getElem? erm.out));have i54:mw<rl:=(by omega);have l54:mw<rs.length:=Nat.lt_of_lt_of_eq i54 (hK.len m3);obtain⟨xm,exm⟩:=gtH l54;obtain⟨⟨xm_p,xm_l,xm_c⟩,xm_n,⟨xm_yp,xm_yl,xm_yc⟩,⟨xm_zp,xm_zl,xm_zc⟩⟩:=xm;replace hK:=hK.fact (qF (.agg #[.bool xm_n,.slice xm_yp xm_yl xm_yc,.slice xm_zp xm_zl xm_zc]) ym.r) (hK.rwQ m6 List.not_mem_nil exm.out eym.out);go_upto_region 5 with(fail);refine wp_region_S _ [0,0,1,0,0,0,0,0,0,0,0,0,0,0,0,0,0,0,1,0,0,0] hK ?_ (sR);clear hK;refine e0 ?_;refine eL0 m1 ?_;obtain⟨z1,hz1⟩:=nmI (sgQ (y.r));refine eQ (v:=.int .i64 z1) (fun w k=>sign_any _ _ w (k.q m2)) ?_ (hv:=by rw[hz1.out]);refine eB (decide (z1<0)) (fun b2 hb2=>?_);refine e0 ?_
  cases b2
  . --
   have q_b2:=nlt hb2
   iterate 3 refine eN ?_
   iterate 12 refine eU ?_
   refine eN ?_;refine e0 ?_;refine sxEnd (fun W55 hK=>?_)
   (try go_wp2)
   go_roundw
   case rel=>exact⟨m+1,(mw:Int),(by first|rfl|go_num),(by first|rfl|go_num),(by omega),hid (h_w.out.pos er.out (Rat.not_lt.1 (fun q=>absurd ((sgx_lt hz1.out).2 q) (of_decide_eq_false hb2.out)))),(hK.subl (sC2 (sC2 (sC2 (sR)))))⟩
   case measure=>simp[intOf]<;>omega
  have q_b2:=ylt hb2;refine e0 ?_;refine eV (.bool false) (fun w'=>by go_simp;(try go_bits);exact⟨congrArg Value.bool (decide_eq_false (by omega)),rfl⟩) ?_
  iterate 2 refine e0 ?_
  refine eL0 m1 ?_
  iterate 3 refine e0 ?_
  refine eL0 m3 ?_
  iterate 3 refine e0 ?_
  refine eRm0 (F:=fun w=>OwV rw4K 149 0 w (.slice (some ⟨g49,0,none⟩) rl rc) rs) (fun w k=>k.own m4) (h1:=by intro w' k;have c0:=k.rwc0 exm.out;have c1:=k.rwc exm.out 1 rfl;have c2:=k.rwc exm.out 2 rfl;have c3:=k.rwc exm.out 3 rfl;go_simp;(try go_bits);exact⟨rfl,rfl⟩) ?_;obtain⟨z2,hz2⟩:=nmI (sgQ (y.r-ym.r));refine eQ (v:=.int .i64 z2) (fun w k=>qcmp_any _ _ _ _ w (k.q m2) (k.q m0) erl.out erml.out (by decide)) ?_ (hv:=by rw[hz2.out]);refine eB (decide (z2<0)) (fun b3 hb3=>?_)
  iterate 2 refine e0 ?_
  refine sxEnd (fun W56 hK=>?_)
  cases b3
  . --
   have q_b3:=nlt hb3
   (try go_wp2)
   go_roundw
   case rel=>exact⟨m+1,(mw:Int),(by first|rfl|go_num),(by first|rfl|go_num),(by omega),hid (h_w.out.more er.out erm.out (fun q=>absurd ((sgx_lt hz2.out).2 (sbx_lt.2 q)) (of_decide_eq_false hb3.out))),(hK.subl (sC2 (sC2 (sC2 (sR)))))⟩
   case measure=>simp[intOf]<;>omega
  have q_b3:=ylt hb3
  (try go_wp2)
  go_roundw
  case rel=>exact⟨m+1,(m:Int),(by first|rfl|go_num),(by first|rfl|go_num),(by omega),hid (h_w.out.less er.out erm.out (sbx_lt.1 ((sgx_lt hz2.out).1 (of_decide_eq_true hb3.out)))),(hK.subl (sC2 (sC2 (sC2 (sR)))))⟩
  case measure=>simp[intOf]<;>omega
end
section
instance :HdK ratK:=⟨2,ratK_hd⟩
abbrev rrK:EK (List Rat):=slK ratK
theorem celB{V w:World}{g i:Nat}{u:Value}(h:V.cell? ⟨g,i,none⟩=some u)(hb:Below V.heap.size V w):w.cell? ⟨g,i,none⟩=some u:=by
  have hg:g<V.heap.size:=by
    by_cases hg:g<V.heap.size
    . exact hg
    unfold World.cell? at h;rw[Array.getElem?_eq_none (show V.heap.size<=g by omega)]at h
    cases h
  rw[hb.cell (p:=⟨g,i,none⟩) hg];exact h
theorem SlV.row{α:Type}{K:EK α}{w:World}{g o n c i:Nat}{xss:List (List α)}{xs:List α}(h:SlV (slK K) w (.slice (some ⟨g,o,none⟩) n c) xss)(hx:xss[i]?=some xs):∃y:Sl,w.cell? ⟨g,o+i,none⟩=some (.slice y.p y.l y.c)/\SlV K w (.slice y.p y.l y.c) xs:=by
  obtain⟨cs,h1,p,d,rfl,h3,_⟩:=h.at hx;have h2:=h1.2 0 _ rfl;exact⟨⟨p,xs.length,d⟩,by rwa [show o+i*(slK K).sz+0=o+i from by show o+i*1+0=_;omega]at h2,h3⟩
structure SvR where
  R:LpRes
  x:Sl
  y:Sl
  r:Sl
  d:Sl
  e:Sl
  n:Int
instance :Nonempty SvR:=⟨⟨⟨0,[],[],[],0⟩,⟨none,0,0⟩,⟨none,0,0⟩,⟨none,0,0⟩,⟨none,0,0⟩,⟨none,0,0⟩,0⟩⟩
def SvR.v(a:SvR):Value:=.agg #[.int .i64 a.R.k,.slice a.x.p a.x.l a.x.c,.slice a.y.p a.y.l a.y.c,.slice a.r.p a.r.l a.r.c,.bool (isN a.R.z),.slice a.d.p a.d.l a.d.c,.slice a.e.p a.e.l a.e.c]
def SvOk(P:LPd)(a:SvR):Prop:=(vldP P=false/\a.n=1/\a.R=⟨0,[],[],[],0⟩)\/(vldP P=true/\a.n=0/\CertR P a.R/\ ∀X,LimS X P->SmR X a.R)
theorem ss_ofT{V w:World}{l:List Ft}{R nc:Nat}{P:LPd}{y:Sl}{z:TbS}{t:LSt}{Y:List Rat}(h:SS V (stA R nc P ⟨true,y,z,t,Y⟩::l) w):SS V (tbF R nc z t::cF (StOk P ⟨true,y,z,t,Y⟩)::l) w:=by
  have h:SS V (stT R nc P ⟨true,y,z,t,Y⟩::l) w:=h;exact SS.star.1 h
theorem ss_ofN{V w:World}{l:List Ft}{R nc:Nat}{P:LPd}{y:Sl}{z:TbS}{t:LSt}{Y:List Rat}(h:SS V (stA R nc P ⟨false,y,z,t,Y⟩::l) w):SS V (rO ratK 70 y.p y.l y.c Y::cF (InfY P Y)::l) w:=by
  have h:SS V (stN P ⟨false,y,z,t,Y⟩::l) w:=h;exact SS.star.1 h
theorem vldH_of{P:LPd}(h:1<=P.c.length/\P.c.length<=1024/\P.A.length<=1024/\P.b.length=P.A.length):vldH P=true:=by
  unfold vldH;simp only[Bool.and_eq_true,decide_eq_true_eq];omega
theorem vld_head{P:LPd}(h:¬(1<=P.c.length/\P.c.length<=1024/\P.A.length<=1024/\P.b.length=P.A.length)):vldP P=false:=by
  unfold vldP vldH;rw[Bool.eq_false_iff];simp only[ne_eq,Bool.and_eq_true,decide_eq_true_eq];omega
theorem vld_yes{P:LPd}(h:vldH P=true)(h':allN (rowP P) P.A.length=true):vldP P=true:=by unfold vldP;rw[h,h'];rfl
theorem vld_no{P:LPd}{i:Nat}(hi:i<P.A.length)(h:(P.A.getD i []).length≠P.c.length):vldP P=false:=by
  unfold vldP;rw[allN_no hi (by unfold rowP;simpa using h)];simp
end
end Go.Proofs.YtjhaedfpigebdaaGreatDoor
