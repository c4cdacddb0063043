/- Law 41: a result with one changed number. -/

import Derived.Test.YtgemmbpjebijlaaGreatDoorScU
namespace Go.Proofs.YtgemmbpjebijlaaGreatDoor
open Go.RowKit
open Go.Lib (decDigits)
def spoR(R:LpRes)(b:Nat)(q:Rat):LpRes:=
  if b<R.x.length then⟨R.k,R.x.set b (R.x.getD b 0+q),R.y,R.r,R.z⟩
  else if b-R.x.length<R.y.length then⟨R.k,R.x,R.y.set (b-R.x.length) (R.y.getD (b-R.x.length) 0+q),R.r,R.z⟩
  else if b-R.x.length-R.y.length<R.r.length then⟨R.k,R.x,R.y,R.r.set (b-R.x.length-R.y.length) (R.r.getD (b-R.x.length-R.y.length) 0+q),R.z⟩
  else⟨R.k,R.x,R.y,R.r,R.z+q⟩
def spP(R:LpRes)(i:Int):Nat:=if i=0 then 0 else if i=1 then R.x.length else if i=2 then R.x.length+R.y.length else R.x.length+R.y.length+R.r.length
structure LmR9(k:Nat)(R:LpRes):Prop where
  x:LmL k R.x
  y:LmL k R.y
  r:LmL k R.r
  z:LmQ k R.z
theorem LmL.put{k j:Nat}{l:List Rat}{b:Nat}{q:Rat}(h:LmL k l)(hq:LmQ j q):LmL (k+j+1) (l.set b (l.getD b 0+q)):=fun x hx=>by
  rcases List.mem_or_eq_of_mem_set hx with h1|rfl
  . exact(h x h1).up (by omega)
  by_cases hb:b<l.length
  . rw[getD_of (List.getElem?_eq_getElem hb)];exact(h _ (List.getElem_mem hb)).add hq
  rw[List.set_eq_of_length_le (by omega)]at hx;exact(h _ hx).up (by omega)
theorem LmL.ups{k j:Nat}{l:List Rat}(h:LmL k l)(hk:k<=j):LmL j l:=fun x hx=>(h x hx).up hk
theorem spoR_lm{k j:Nat}{R:LpRes}{b:Nat}{q:Rat}(h:LmR9 k R)(hq:LmQ j q):LmR9 (k+j+1) (spoR R b q):=by
  unfold spoR
  split
  . exact⟨h.x.put hq,h.y.ups (by omega),h.r.ups (by omega),h.z.up (by omega)⟩
  split
  . exact⟨h.x.ups (by omega),h.y.put hq,h.r.ups (by omega),h.z.up (by omega)⟩
  split
  . exact⟨h.x.ups (by omega),h.y.ups (by omega),h.r.put hq,h.z.up (by omega)⟩
  exact⟨h.x.ups (by omega),h.y.ups (by omega),h.r.ups (by omega),h.z.add hq⟩
theorem spoR_len{R:LpRes}{b:Nat}{q:Rat}:(spoR R b q).k=R.k/\(spoR R b q).x.length=R.x.length/\(spoR R b q).y.length=R.y.length/\(spoR R b q).r.length=R.r.length:=by
  unfold spoR
  split
  . exact⟨rfl,List.length_set ..,rfl,rfl⟩
  split
  . exact⟨rfl,rfl,List.length_set ..,rfl⟩
  split
  . exact⟨rfl,rfl,rfl,List.length_set ..⟩
  exact⟨rfl,rfl,rfl,rfl⟩
theorem setL_zero:∀(ds l:List Value) (o:Nat),(setL l (o+1) ds)[0]?=l[0]?
  |[],_,_=>rfl
  |d::ds,l,o=>by unfold setL;rw[setL_zero ds _ (o+1),List.getElem?_set_ne (by omega)]
/-! A store behind the first cell of a box whose second cell is a slice spares the numbers-/
theorem ref_put1{w:World}{v:Value}{n R o m c:Nat}{z:Int}{p:Option Addr}{l ds:List Value}{t:TypeId}(h:RefV w v n)(hb:Has 0 R (.cells (.int .i64 z::.slice p m c::l).toArray t) w):RefV (putAt R (o+1) ds w) v n:=by
  rcases h with h|⟨g,c',e,hd,hc⟩
  . exact .inl h
  refine .inr ⟨g,c',e,⟨Nat.lt_of_lt_of_le hd.lt (put_size ..),fun k hk=>?_⟩,hc⟩
  by_cases hR:g=R
  . subst hR
    have hl:¬1<(digs B6 n).length:=fun h2=>by
      have c1:=hd.at0 1 h2;rw[hb.at 1 rfl]at c1;cases c1
    obtain rfl:k=0:=by omega
    rw[<-hd.at0 0 hk,hb.at 0 rfl];exact(has_put hb (o+1) ds (Below.refl _ _)).at 0 (by rw[setL_zero];rfl)
  rw[<-hd.at0 k hk];exact World.cell?_of_block (w:=w) (put_far hR ..)
theorem refr_put1{w:World}{v:Value}{x:Rat}{R o m c:Nat}{z:Int}{p:Option Addr}{l ds:List Value}{t:TypeId}(h:RefR w v x)(hb:Has 0 R (.cells (.int .i64 z::.slice p m c::l).toArray t) w):RefR (putAt R (o+1) ds w) v x:=by
  obtain⟨nv,dv,rfl,h1,h2⟩:=h;exact⟨nv,dv,rfl,ref_put1 h1 hb,ref_put1 h2 hb⟩
class Zp(f:Ft):Prop where
  sp:∀{w R z p n c l t o ds},f.F w-> ¬f.own R->Has 0 R (.cells (.int .i64 z::.slice p n c::l).toArray t) w->f.F (putAt R (o+1) ds w)
theorem Zp.of{f:Ft}(h:f.ln.contains 1=false):Zp f:=⟨fun h1 h2 h3=>Spares.put (f.spa h1 h2 fun v hv=>by rw[h3.at 0 rfl]at hv;rw[<-Option.some.inj hv];exact h) _ _ _ (Below.refl _ _)⟩
instance {R:Nat}{obj:Obj}:Zp (bx R obj):=.of rfl
instance {p:Prop}:Zp (cF p):=.of rfl
instance {v:Value}{x:Rat}:Zp (rF v x):=⟨fun h _ h3=>refr_put1 h h3⟩
class ZpA(l:List Ft):Prop where
  sp:∀f∈l,Zp f
instance :ZpA []:=⟨fun _ h=>absurd h List.not_mem_nil⟩
instance {f:Ft}{l:List Ft}[hf:Zp f][hl:ZpA l]:ZpA (f::l):=⟨fun _ h=>(List.mem_cons.1 h).elim (fun e=>e▸hf) (hl.sp _)⟩
theorem SS.put1{V w:World}{l:List Ft}{i R o m c:Nat}{z:Int}{p:Option Addr}{k ds:List Value}{t:TypeId}(h:SS V l w)(hz:ZpA l)(hi:l[i]?=some (bx R (.cells (.int .i64 z::.slice p m c::k).toArray t))):SS V (l.set i (bx R (.cells (setL (.int .i64 z::.slice p m c::k) (o+1) ds).toArray t))) (putAt R (o+1) ds w):=by
  have hm:=List.mem_of_getElem? hi;have hb:=h.get hm;have hg:=put_grown (R:=R) ds (o+1) w;have hil:=(List.getElem?_eq_some_iff.1 hi).1;have hR:=h.lo _ hm R rfl
  have hw:(l.set i (bx R (.cells (setL (.int .i64 z::.slice p m c::k) (o+1) ds).toArray t))).map Ft.own=l.map Ft.own:=by
    refine List.ext_getElem? fun j=>?_
    rw[List.getElem?_map,List.getElem?_map,List.getElem?_set]
    by_cases e:i=j
    . subst e;rw[if_pos rfl,if_pos hil,hi];rfl
    rw[if_neg e]
  refine⟨h.old.trans ⟨hg.os,hg.tape,hg.output,hg.size,fun q hq=>hg.block q (Nat.lt_of_lt_of_le hq h.old.size) fun e=>by injection e with e;omega⟩,fun f hf=>?_,fun f hf g hgo=>?_,?_⟩
  . obtain⟨j,hj⟩:=List.mem_iff_getElem?.1 hf;rw[List.getElem?_set]at hj
    by_cases e:i=j
    . rw[if_pos e,if_pos hil]at hj;rw[<-Option.some.inj hj];exact has_put hb (o+1) ds (Below.refl _ _)
    rw[if_neg e]at hj;refine(hz.sp f (List.mem_of_getElem? hj)).sp (h.has f (List.mem_of_getElem? hj)) (fun hR'=>?_) hb;have hjl:=(List.getElem?_eq_some_iff.1 hj).1;have e1:l[j]=f:=(List.getElem?_eq_some_iff.1 hj).2;have e2:l[i]=_:=(List.getElem?_eq_some_iff.1 hi).2
    rcases Nat.lt_or_gt_of_ne e with hlt|hlt
    . exact List.pairwise_iff_getElem.1 h.ap i j hil hjl hlt R (by rw[e2];rfl) (by rw[e1];exact hR')
    exact List.pairwise_iff_getElem.1 h.ap j i hjl hil hlt R (by rw[e1];exact hR') (by rw[e2];rfl)
  . have h1:f.own∈l.map Ft.own:=hw▸List.mem_map_of_mem hf;obtain⟨f',hf',e⟩:=List.mem_map.1 h1;exact h.lo f' hf' g (by rw[e];exact hgo)
  have h1:(l.map Ft.own).Pairwise fun a b=> ∀g,a g-> ¬b g:=List.pairwise_map.2 h.ap
  exact List.pairwise_map.1 (hw▸h1)
instance {t:TypeId}{p:Option Addr}{n c:Nat}{xs:List Rat}:Zp (rO refK t p n c xs):=⟨fun{w R z q m c' l t' o ds} h hn hb=>by
  obtain⟨css,h1,hl,h2⟩:=h;refine⟨css,⟨h1.len,fun k cs x c1 c2=>by obtain⟨a,b,c,e,hr⟩:=h1.el k cs x c1 c2;exact⟨a,b,c,e,refr_put1 hr hb⟩⟩,hl,h2.imp id fun⟨k,cap,cur,e,h3,hk,h4⟩=>⟨k,cap,cur,e,h3,?_,h4⟩⟩;have hob:ob p=some k:=by injection e with e;rw[e];rfl
  exact(put_far (fun e'=>hn (by rw[<-e'];exact hob)) ..).trans hk⟩
section
variable {P:Program}{V:World}{ops:Array Oper}{Q:Act->World->Prop}{f0 fs fs':List Ft}{k:Nat}{ks:List Nat}{o:Oper}{rest:List Oper}{a a':Act}{R:Nat}{t:TypeId}
theorem eZ1{z:Int}{l:List Value}{p:Option Addr}{n c:Nat}(i o':Nat)(cs:List Value)(h:Sx P V ops Q f0 ks rest fs' a')(hz:ZpA fs:=by infer_instance)(hi:fs[i]?=some (bx R (.cells (.int .i64 z::.slice p n c::l).toArray t)):=by rfl)(hf:fs.set i (bx R (.cells (setL (.int .i64 z::.slice p n c::l) (o'+1) cs).toArray t))=fs':=by(simp only[setL,pB,pC])<;>exact rfl)(hs:f0.Sublist fs':=by exact List.nil_sublist _)(hg:Wants ops o a:=by first|exact wants0 rfl|exact wantsg rfl rfl rfl rfl)
    (h1:∀w,Has 0 R (.cells (.int .i64 z::.slice p n c::l).toArray t) w->Does P (fun u w'=>u=undef/\w'=putAt R (o'+1) cs w) ((execOp a.eval o).run P w):=by intro w' k;have⟨_,_,_,_,_,_,_⟩:=k.c7;have f:=k.fz;go_simp;exact⟨rfl,rfl⟩) (ha:a.put o.dst undef=a':=by(simp only[mkOf,Act.put,pA,pB,pC,pD,pE])<;>exact rfl):Sx P V ops Q f0 (4::ks) (o::rest) fs a:=by
  have hm:=List.mem_of_getElem? hi;refine sx4 (α:=Unit) (f:=fun _=>undef) (l':=fun _=>fs') hg (fun _=>hs) (fun w hw=>(h1 w (hw.get hm)).mono fun u w' ⟨e1,e2⟩=>⟨(),e1,?_⟩) fun _=>by rw[ha];exact h
  subst e2;rw[<-hf];exact hw.put1 hz hi
end
set_option maxRecDepth 100000 in
set_option maxHeartbeats 4000000 in
theorem spoil_any(w:World){R:LpRes}{xp yp rp dp ep:Option Addr}{xl xc yl yc rl rc dl dc el ec:Nat}{bq:Nat}{f:Frc}(hX:SlV refK w (.slice xp xl xc) R.x)(hY:SlV refK w (.slice yp yl yc) R.y)(hR:SlV refK w (.slice rp rl rc) R.r)(hZ:RefR w (.agg #[.bool (isN R.z),.slice dp dl dc,.slice ep el ec]) R.z)(hm:LmR9 45 R)(hnx:R.x.length<=100000)(hny:R.y.length<=100000)(hnr:R.r.length<=100000)(h8:bq<256)(hf:f.Ok):
    Calls Tryz.prog 12 #[.agg #[.int .i64 R.k,.slice xp xl xc,.slice yp yl yc,.slice rp rl rc,.bool (isN R.z),.slice dp dl dc,.slice ep el ec],.int .u8 (bq:Int),.agg #[.int .i8 f.n,.int .i8 f.d]] w fun e w'=> ∃a:RsS,e=.returned (a.v (spoR R bq (frX f)))/\SS w [rsR a (spoR R bq (frX f))] w':=by
  have hK:=SS.start w;have⟨nx1,nx2⟩:=lle hX.one0;have⟨ny1,ny2⟩:=lle hY.one0;have⟨nr1,nr2⟩:=lle hR.one0;obtain⟨dd,hdd⟩:∃q,Hid (frX f=q):=⟨_,hid rfl⟩;have hdl:LmQ 4 dd:=(by rw[<-hdd.out];exact frX_lm hf);replace hK:=hK.fact (rF (.agg #[.bool (isN R.z),.slice dp dl dc,.slice ep el ec]) R.z) (hZ.below hK.old);refine Calls.hide (fun Q0 hQ0=>?_);go_enter Tryz.func12,Tryz.ntmps12;go_upto_region 0 with(fail);refine wp_region_T [3,3,3] hK ?_;clear hK;refine eA (.cells #[.int .i64 R.k,.slice xp xl xc,.slice yp yl yc,.slice rp rl rc,.bool (isN R.z),.slice dp dl dc,.slice ep el ec] 55) (fun R1=>?_);refine eA (.cells #[.int .i8 f.n,.int .i8 f.d] 27) (fun R2=>?_);refine eA (.cells #[.int .i64 0,.slice none 0 0,.slice none 0 0,.slice none 0 0,.bool false,.slice none 0 0,.slice none 0 0] 55) (fun R3=>?_);refine sxEnd (fun W4 hK=>?_);go_upto_region 1 with(fail);refine wp_region_T [1,3,2,0,2,3,4] hK ?_;clear hK;refine eL m1 ?_;refine eA (.cells #[.int .i8 f.n,.int .i8 f.d] 27) (fun R5=>?_);refine eC (fun w k=>one_row (x:=dd) (by have q:=frof_any w (slFr1 (k.box m0)) (l:=[f]) (fun x hx=>by rw[List.mem_singleton.1 hx];exact hf) (by show 1<=_;decide);rw[show frL [f]=[dd]from congrArg (fun q=>[q]) hdd.out]at q;exact q)) (fun x7=>?_);obtain⟨g6,c6⟩:=x7;dsimp only;refine e0 ?_;refine eRr m0 (show[dd][0]?=some dd from rfl) (fun x8=>?_);obtain⟨⟨p8,l8,c8⟩,⟨q8,u8,d8⟩⟩:=x8;dsimp only;refine eA (.cells #[.bool false,.slice none 0 0,.slice none 0 0] 53) (fun R9=>?_);refine eP 0 0 [.bool (isN (dd)),.slice p8 l8 c8,.slice q8 u8 d8] ?_ (hq:=.inr ⟨rfl,rfl,rfl,rfl,rfl,rfl,rfl,trivial⟩);refine sxEnd (fun W10 hK=>?_);go_upto_region 2 with(fail);refine wp_region_S _ [3,0,0,5,3,0,0,5,3,0,0,5,3,0] hK ?_ (sR);clear hK;refine eA0 (K:=refK) (t:=53) (fun g11=>?_) (hs:=(sR));refine e0 ?_;refine eL0 m6 ?_;refine eAppE 2 rfl 0 rfl infoR (fun w k=>hX.below k.old) (by first|omega|(simp;omega)) (fun x12=>?_) (hs:=fun _=>(sC2 (sR)));obtain⟨p12,n12,c12⟩:=x12;dsimp only;refine eA0 (K:=refK) (t:=53) (fun g13=>?_) (hs:=(sC2 (sR)))
  refine e0 ?_;refine eL0 m6 ?_;refine eAppE 2 rfl 0 rfl infoR (fun w k=>hY.below k.old) (by first|omega|(simp;omega)) (fun x14=>?_) (hs:=fun _=>(sC2 (sC2 (sR))));obtain⟨p14,n14,c14⟩:=x14;dsimp only;refine eA0 (K:=refK) (t:=53) (fun g15=>?_) (hs:=(sC2 (sC2 (sR))));refine e0 ?_;refine eL0 m6 ?_;refine eAppE 2 rfl 0 rfl infoR (fun w k=>hR.below k.old) (by first|omega|(simp;omega)) (fun x16=>?_) (hs:=fun _=>(sC2 (sC2 (sC2 (sR)))));obtain⟨p16,n16,c16⟩:=x16;dsimp only;refine eA (.cells #[.slice p12 n12 c12,.slice p14 n14 c14,.slice p16 n16 c16] 29) (fun R17=>?_);refine e0 ?_;refine sxEnd (fun W18 hK=>?_);go_upto_region 3 with(fail);refine wp_region_S _ [0,0,0,0,0,0,0,0,0,0,0,0,0,0,3,4] hK ?_ (sR);clear hK;refine e0 ?_;refine eL0 m10 ?_
  iterate 2 refine e0 ?_
  refine eL0 m0 ?_
  iterate 2 refine e0 ?_
  refine eL0 m0 ?_
  iterate 2 refine e0 ?_
  refine eL0 m0 ?_;refine e0 ?_;refine eL0 m10 ?_;refine e0 ?_;refine eA (.cells #[.int .i64 0,.slice none 0 0,.slice none 0 0,.slice none 0 0,.bool false,.slice none 0 0,.slice none 0 0] 55) (fun R19=>?_);refine eZ 0 0 [.int .i64 R.k,.slice p12 n12 c12,.slice p14 n14 c14,.slice p16 n16 c16,.bool (isN R.z),.slice dp dl dc,.slice ep el ec] ?_ (hs:=(sC2 (sR)));refine sxEnd (fun W20 hK=>?_);go_wp2_with fail;go_loopw [10,11] (fun s10 s11 wl=> ∃(kq:Nat) (mi:Int),s10=.int .i64 (kq:Int)/\s11=.int .i64 mi/\(0<=mi)/\(mi<=3)/\Hid (spP R mi+kq=bq)/\SS w ([bx R19 (.cells #[.int .i64 R.k,.slice p12 n12 c12,.slice p14 n14 c14,.slice p16 n16 c16,.bool (isN R.z),.slice dp dl dc,.slice ep el ec] 55),bx R17 (.cells #[.slice p12 n12 c12,.slice p14 n14 c14,.slice p16 n16 c16] 29),rO refK 53 p16 n16 c16 R.r,rO refK 53 p14 n14 c14 R.y,rO refK 53 p12 n12 c12 R.x,bx R9 (.cells #[.bool (isN (dd)),.slice p8 l8 c8,.slice q8 u8 d8] 53),rF (.agg #[.bool (isN (dd)),.slice p8 l8 c8,.slice q8 u8 d8]) (dd),rO refK 53 (some ⟨g6,0,none⟩) 1 c6 ([dd]),bx R5 (.cells #[.int .i8 f.n,.int .i8 f.d] 27),bx R3 (.cells #[.int .i64 0,.slice none 0 0,.slice none 0 0,.slice none 0 0,.bool false,.slice none 0 0,.slice none 0 0] 55),bx R2 (.cells #[.int .i8 f.n,.int .i8 f.d] 27),bx R1 (.cells #[.int .i64 R.k,.slice xp xl xc,.slice yp yl yc,.slice rp rl rc,.bool (isN R.z),.slice dp dl dc,.slice ep el ec] 55),rF (.agg #[.bool (isN R.z),.slice dp dl dc,.slice ep el ec]) (R.z)]) wl) (fun s10 s11 _=>(3-intOf s11).toNat)
  case atStart=>exact⟨bq,0,rfl,rfl,(by omega),(by omega),hid (by simp[spP]),hK⟩
  clear hK;obtain⟨kq,mi,rfl,rfl,hm0,hm3,h_k,hK⟩:=hrel;generalize wr=W21 at hK⊢;go_upto_region 6 with(fail);refine wp_region_T [0,0] hK ?_;clear hK;refine e0 ?_;refine eB (decide (mi<3)) (fun b1 hb1=>?_);refine sxEnd (fun W22 hK=>?_)
  cases b1
  . --
   have q_b1:=nlt hb1;go_upto_region 12 with(fail);refine wp_region_T [0,1,1,2,0,4] hK ?_;clear hK;refine e0 ?_;refine eL m0 ?_;refine eL m5 ?_;refine eC (fun w k=>ref_S (radd_q _ _ _ _ w (k.rq m12) (k.rq m6) (hm.z.up (by decide)) (hdl.up (by decide)) (k:=50) (by first|decide|omega))) (fun x23=>?_);obtain⟨⟨p24,l24,c24⟩,⟨q24,u24,d24⟩⟩:=x23;dsimp only;refine e0 ?_;refine eZ1 1 3 [.bool (isN (R.z+dd)),.slice p24 l24 c24,.slice q24 u24 d24] ?_;refine sxEnd (fun W25 hK=>?_);go_upto_region 13 with(fail);refine wp_region_T [1,4] hK ?_;clear hK;refine eL m1 ?_;refine eZ 10 0 [.int .i64 R.k,.slice p12 n12 c12,.slice p14 n14 c14,.slice p16 n16 c16,.bool (isN (R.z+dd)),.slice p24 l24 c24,.slice q24 u24 d24] ?_;refine sxEnd (fun W26 hK=>?_);have⟨c90,c91,c92,c93,c94,c95,c96⟩:=(hK.box m10).c7;replace hK:=hK.subl (sK2 (sC2 (sC2 (sK2 (sK2 (sK2 (sC2 (sC2 (sC2 (sC2 (sC2 (sC2 (sC2 (sC2 sZ2))))))))))))));replace hK:=hK.up1;replace hK:=hK.up2;replace hK:=hK.up3;go_wp2;exact bodyPost_ret (v:=.agg #[.int .i64 R.k,.slice p12 n12 c12,.slice p14 n14 c14,.slice p16 n16 c16,.bool (isN (R.z+dd)),.slice p24 l24 c24,.slice q24 u24 d24]) (by simp[results,Tryz.results12,go_sem,c90,c91,c92,c93,c94,c95,c96]) rfl (by obtain rfl:=hQ0.out;rw[show spoR R bq (frX f)=⟨R.k,R.x,R.y,R.r,R.z+dd⟩from(by have q:=h_k.out;rw[show mi=3 from(by omega)]at q;have q2:R.x.length+R.y.length+R.r.length+kq=bq:=q;unfold spoR;rw[if_neg (by omega),if_neg (by omega),if_neg (by omega),hdd.out])];exact⟨⟨⟨p12,n12,c12⟩,⟨p14,n14,c14⟩,⟨p16,n16,c16⟩,⟨p24,l24,c24⟩,⟨q24,u24,d24⟩⟩,rfl,SS.star.2 hK⟩)
  have q_b1:=ylt hb1;have hsp:=h_k.out;have ax1:=Nat.le_of_eq (hK.slv m4).one0;have ax2:=Nat.le_of_eq (hK.slv m4).one0.symm;have ay1:=Nat.le_of_eq (hK.slv m3).one0;have ay2:=Nat.le_of_eq (hK.slv m3).one0.symm;have ar1:=Nat.le_of_eq (hK.slv m2).one0;have ar2:=Nat.le_of_eq (hK.slv m2).one0.symm
  rcases(show mi=0\/mi=1\/mi=2 from(by have q9:=of_decide_eq_true hb1.out;omega))with rfl|rfl|rfl
  . --
   have hsp:=h_k.out;have ax1:=Nat.le_of_eq (hK.slv m4).one0;have ax2:=Nat.le_of_eq (hK.slv m4).one0.symm;have ay1:=Nat.le_of_eq (hK.slv m3).one0;have ay2:=Nat.le_of_eq (hK.slv m3).one0.symm;have ar1:=Nat.le_of_eq (hK.slv m2).one0;have ar2:=Nat.le_of_eq (hK.slv m2).one0.symm;go_upto_region 8 with(fail);refine wp_region_T [0,0,0,0,1,0,0] hK ?_;clear hK
   iterate 4 refine e0 ?_
   refine eL m1 ?_;refine e0 ?_;refine eB (decide (((kq:Int))<((n12:Int)))) (fun b2 hb2=>?_);refine sxEnd (fun W27 hK=>?_)
   cases b2
   . --
    have q_b2:=nlt hb2;go_upto_region 11 with(fail);refine wp_region_T [0,0,0,0,1,0,0,0] hK ?_;clear hK
    iterate 4 refine e0 ?_
    refine eL m1 ?_
    iterate 3 refine e0 ?_
    refine sxEnd (fun W28 hK=>?_)
    (try go_wp2)
    go_roundw
    case rel=>exact⟨kq-n12,1,(by first|rfl|go_num),(by first|rfl|go_num),(by omega),(by omega),hid (by have q:=h_k.out;simp[spP]at q⊢;omega),hK⟩
    case measure=>simp[intOf]<;>omega
   have q_b2:=ylt hb2;have i29:kq<n12:=(by omega);obtain⟨g29,rfl⟩:=hK.pt m4 i29;have l29:kq<R.x.length:=Nat.lt_of_lt_of_eq i29 (hK.len m4);obtain⟨x,ex⟩:=gtH l29;have hxl:=hm.x x (List.mem_of_getElem? ex.out);go_upto_region 9 with(fail);refine wp_region_S _ [0,0,0,0,0,0,0,0,0,0,0,2,0,2,0,4] hK ?_ (sK2 (sK2 (sK2 (sK2 (sC2 (sR))))));clear hK
   iterate 3 refine e0 ?_
   refine eL0 m1 ?_
   iterate 4 refine e0 ?_
   refine eL0 m1 ?_
   iterate 2 refine e0 ?_
   refine eRr m4 ex.out (fun x30=>?_);obtain⟨⟨p30,l30,c30⟩,⟨q30,u30,d30⟩⟩:=x30;dsimp only;refine eL0 m4 ?_;refine eC (fun w k=>ref_S (radd_q _ _ _ _ w (k.rq m0) (k.rq m7) (hxl.up (by decide)) (hdl.up (by decide)) (k:=50) (by first|decide|omega))) (fun x31=>?_);obtain⟨⟨p32,l32,c32⟩,⟨q32,u32,d32⟩⟩:=x31;dsimp only;refine e0 ?_;refine eWR (y:=(x+dd)) 6 l29 (fun w k=>k.rq m0) ?_ (hi:=rfl) (hs:=(sC2 (sC2 (sK2 (sK2 (sK2 (sK2 (sC2 (sR)))))))));refine sxEnd (fun W33 hK=>?_);go_upto_region 10 with(fail);refine wp_region_T [1,4] hK ?_;clear hK;refine eL m2 ?_;refine eZ 11 0 [.int .i64 R.k,.slice (some ⟨g29,0,none⟩) n12 c12,.slice p14 n14 c14,.slice p16 n16 c16,.bool (isN R.z),.slice dp dl dc,.slice ep el ec] ?_;refine sxEnd (fun W34 hK=>?_);have⟨c90,c91,c92,c93,c94,c95,c96⟩:=(hK.box m11).c7;replace hK:=hK.subl (sC2 (sC2 (sC2 (sC2 (sK2 (sK2 (sK2 (sC2 (sC2 (sC2 (sC2 (sC2 (sC2 (sC2 (sR)))))))))))))));replace hK:=hK.up3;replace hK:=hK.up1;replace hK:=hK.up2;replace hK:=hK.up3;go_wp2;exact bodyPost_ret (v:=.agg #[.int .i64 R.k,.slice (some ⟨g29,0,none⟩) n12 c12,.slice p14 n14 c14,.slice p16 n16 c16,.bool (isN R.z),.slice dp dl dc,.slice ep el ec]) (by simp[results,Tryz.results12,go_sem,c90,c91,c92,c93,c94,c95,c96]) rfl (by obtain rfl:=hQ0.out;rw[show spoR R bq (frX f)=⟨R.k,R.x.set kq (x+dd),R.y,R.r,R.z⟩from(by have q:=hsp;simp[spP]at q;unfold spoR;rw[if_pos (by omega),hdd.out,show bq=kq from(by omega),getD_of ex.out])];exact⟨⟨⟨(some ⟨g29,0,none⟩),n12,c12⟩,⟨p14,n14,c14⟩,⟨p16,n16,c16⟩,⟨dp,dl,dc⟩,⟨ep,el,ec⟩⟩,rfl,SS.star.2 hK⟩)
  . --
   have hsp:=h_k.out;have ax1:=Nat.le_of_eq (hK.slv m4).one0;have ax2:=Nat.le_of_eq (hK.slv m4).one0.symm;have ay1:=Nat.le_of_eq (hK.slv m3).one0;have ay2:=Nat.le_of_eq (hK.slv m3).one0.symm;have ar1:=Nat.le_of_eq (hK.slv m2).one0;have ar2:=Nat.le_of_eq (hK.slv m2).one0.symm;go_upto_region 8 with(fail);refine wp_region_T [0,0,0,0,1,0,0] hK ?_;clear hK
   iterate 4 refine e0 ?_
   refine eL m1 ?_;refine e0 ?_;refine eB (decide (((kq:Int))<((n14:Int)))) (fun b2 hb2=>?_);refine sxEnd (fun W35 hK=>?_)
   cases b2
   . --
    have q_b2:=nlt hb2;go_upto_region 11 with(fail);refine wp_region_T [0,0,0,0,1,0,0,0] hK ?_;clear hK
    iterate 4 refine e0 ?_
    refine eL m1 ?_
    iterate 3 refine e0 ?_
    refine sxEnd (fun W36 hK=>?_)
    (try go_wp2)
    go_roundw
    case rel=>exact⟨kq-n14,2,(by first|rfl|go_num),(by first|rfl|go_num),(by omega),(by omega),hid (by have q:=h_k.out;simp[spP]at q⊢;omega),hK⟩
    case measure=>simp[intOf]<;>omega
   have q_b2:=ylt hb2;have i37:kq<n14:=(by omega);obtain⟨g37,rfl⟩:=hK.pt m3 i37;have l37:kq<R.y.length:=Nat.lt_of_lt_of_eq i37 (hK.len m3);obtain⟨x,ex⟩:=gtH l37;have hxl:=hm.y x (List.mem_of_getElem? ex.out);go_upto_region 9 with(fail);refine wp_region_S _ [0,0,0,0,0,0,0,0,0,0,0,2,0,2,0,4] hK ?_ (sK2 (sK2 (sK2 (sC2 (sR)))));clear hK
   iterate 3 refine e0 ?_
   refine eL0 m1 ?_
   iterate 4 refine e0 ?_
   refine eL0 m1 ?_
   iterate 2 refine e0 ?_
   refine eRr m3 ex.out (fun x38=>?_);obtain⟨⟨p38,l38,c38⟩,⟨q38,u38,d38⟩⟩:=x38;dsimp only;refine eL0 m4 ?_;refine eC (fun w k=>ref_S (radd_q _ _ _ _ w (k.rq m0) (k.rq m7) (hxl.up (by decide)) (hdl.up (by decide)) (k:=50) (by first|decide|omega))) (fun x39=>?_);obtain⟨⟨p40,l40,c40⟩,⟨q40,u40,d40⟩⟩:=x39;dsimp only;refine e0 ?_;refine eWR (y:=(x+dd)) 5 l37 (fun w k=>k.rq m0) ?_ (hi:=rfl) (hs:=(sC2 (sC2 (sK2 (sK2 (sK2 (sC2 (sR))))))));refine sxEnd (fun W41 hK=>?_);go_upto_region 10 with(fail);refine wp_region_T [1,4] hK ?_;clear hK;refine eL m2 ?_;refine eZ 11 0 [.int .i64 R.k,.slice p12 n12 c12,.slice (some ⟨g37,0,none⟩) n14 c14,.slice p16 n16 c16,.bool (isN R.z),.slice dp dl dc,.slice ep el ec] ?_;refine sxEnd (fun W42 hK=>?_);have⟨c90,c91,c92,c93,c94,c95,c96⟩:=(hK.box m11).c7;replace hK:=hK.subl (sC2 (sC2 (sC2 (sC2 (sK2 (sK2 (sK2 (sC2 (sC2 (sC2 (sC2 (sC2 (sC2 (sC2 (sR)))))))))))))));replace hK:=hK.up3;replace hK:=hK.up1;replace hK:=hK.up2;replace hK:=hK.up3;go_wp2;exact bodyPost_ret (v:=.agg #[.int .i64 R.k,.slice p12 n12 c12,.slice (some ⟨g37,0,none⟩) n14 c14,.slice p16 n16 c16,.bool (isN R.z),.slice dp dl dc,.slice ep el ec]) (by simp[results,Tryz.results12,go_sem,c90,c91,c92,c93,c94,c95,c96]) rfl (by obtain rfl:=hQ0.out;rw[show spoR R bq (frX f)=⟨R.k,R.x,R.y.set kq (x+dd),R.r,R.z⟩from(by have q:=hsp;simp[spP]at q;unfold spoR;rw[if_neg (by omega),if_pos (by omega),hdd.out,show bq-R.x.length=kq from(by omega),getD_of ex.out])];exact⟨⟨⟨p12,n12,c12⟩,⟨(some ⟨g37,0,none⟩),n14,c14⟩,⟨p16,n16,c16⟩,⟨dp,dl,dc⟩,⟨ep,el,ec⟩⟩,rfl,SS.star.2 hK⟩)
  have hsp:=h_k.out;have ax1:=Nat.le_of_eq (hK.slv m4).one0;have ax2:=Nat.le_of_eq (hK.slv m4).one0.symm;have ay1:=Nat.le_of_eq (hK.slv m3).one0;have ay2:=Nat.le_of_eq (hK.slv m3).one0.symm;have ar1:=Nat.le_of_eq (hK.slv m2).one0;have ar2:=Nat.le_of_eq (hK.slv m2).one0.symm;go_upto_region 8 with(fail);refine wp_region_T [0,0,0,0,1,0,0] hK ?_;clear hK
  iterate 4 refine e0 ?_
  refine eL m1 ?_;refine e0 ?_;refine eB (decide (((kq:Int))<((n16:Int)))) (fun b2 hb2=>?_);refine sxEnd (fun W43 hK=>?_)
  cases b2
  . --
   have q_b2:=nlt hb2;go_upto_region 11 with(fail);refine wp_region_T [0,0,0,0,1,0,0,0] hK ?_;clear hK
   iterate 4 refine e0 ?_
   refine eL m1 ?_
   iterate 3 refine e0 ?_
   refine sxEnd (fun W44 hK=>?_)
   (try go_wp2)
   go_roundw
   case rel=>exact⟨kq-n16,3,(by first|rfl|go_num),(by first|rfl|go_num),(by omega),(by omega),hid (by have q:=h_k.out;simp[spP]at q⊢;omega),hK⟩
   case measure=>simp[intOf]<;>omega
  have q_b2:=ylt hb2;have i45:kq<n16:=(by omega);obtain⟨g45,rfl⟩:=hK.pt m2 i45;have l45:kq<R.r.length:=Nat.lt_of_lt_of_eq i45 (hK.len m2);obtain⟨x,ex⟩:=gtH l45;have hxl:=hm.r x (List.mem_of_getElem? ex.out);go_upto_region 9 with(fail);refine wp_region_S _ [0,0,0,0,0,0,0,0,0,0,0,2,0,2,0,4] hK ?_ (sK2 (sK2 (sC2 (sR))));clear hK
  iterate 3 refine e0 ?_
  refine eL0 m1 ?_
  iterate 4 refine e0 ?_
  refine eL0 m1 ?_
  iterate 2 refine e0 ?_
  refine eRr m2 ex.out (fun x46=>?_);obtain⟨⟨p46,l46,c46⟩,⟨q46,u46,d46⟩⟩:=x46;dsimp only;refine eL0 m4 ?_;refine eC (fun w k=>ref_S (radd_q _ _ _ _ w (k.rq m0) (k.rq m7) (hxl.up (by decide)) (hdl.up (by decide)) (k:=50) (by first|decide|omega))) (fun x47=>?_);obtain⟨⟨p48,l48,c48⟩,⟨q48,u48,d48⟩⟩:=x47;dsimp only;refine e0 ?_;refine eWR (y:=(x+dd)) 4 l45 (fun w k=>k.rq m0) ?_ (hi:=rfl) (hs:=(sC2 (sC2 (sK2 (sK2 (sC2 (sR)))))));refine sxEnd (fun W49 hK=>?_);go_upto_region 10 with(fail);refine wp_region_T [1,4] hK ?_;clear hK;refine eL m2 ?_;refine eZ 11 0 [.int .i64 R.k,.slice p12 n12 c12,.slice p14 n14 c14,.slice (some ⟨g45,0,none⟩) n16 c16,.bool (isN R.z),.slice dp dl dc,.slice ep el ec] ?_;refine sxEnd (fun W50 hK=>?_);have⟨c90,c91,c92,c93,c94,c95,c96⟩:=(hK.box m11).c7;replace hK:=hK.subl (sC2 (sC2 (sC2 (sC2 (sK2 (sK2 (sK2 (sC2 (sC2 (sC2 (sC2 (sC2 (sC2 (sC2 (sR)))))))))))))));replace hK:=hK.up3;replace hK:=hK.up1;replace hK:=hK.up2;replace hK:=hK.up3;go_wp2;exact bodyPost_ret (v:=.agg #[.int .i64 R.k,.slice p12 n12 c12,.slice p14 n14 c14,.slice (some ⟨g45,0,none⟩) n16 c16,.bool (isN R.z),.slice dp dl dc,.slice ep el ec]) (by simp[results,Tryz.results12,go_sem,c90,c91,c92,c93,c94,c95,c96]) rfl (by obtain rfl:=hQ0.out;rw[show spoR R bq (frX f)=⟨R.k,R.x,R.y,R.r.set kq (x+dd),R.z⟩from(by have q:=hsp;simp[spP]at q;unfold spoR;rw[if_neg (by omega),if_neg (by omega),if_pos (by omega),hdd.out,show bq-R.x.length-R.y.length=kq from(by omega),getD_of ex.out])];exact⟨⟨⟨p12,n12,c12⟩,⟨p14,n14,c14⟩,⟨(some ⟨g45,0,none⟩),n16,c16⟩,⟨dp,dl,dc⟩,⟨ep,el,ec⟩⟩,rfl,SS.star.2 hK⟩)
end Go.Proofs.YtgemmbpjebijlaaGreatDoor
