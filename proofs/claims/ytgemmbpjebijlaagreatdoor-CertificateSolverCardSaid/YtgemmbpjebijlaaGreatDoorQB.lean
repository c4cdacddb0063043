/- Certificates (one of several texts). Part 2 of 6. -/

import Derived.Test.YtgemmbpjebijlaaGreatDoorQA
import Derived.Laws.AppendOwnNone
import Derived.Laws.IdiomStrings
import Derived.Laws.Strings3
import Derived.Maps.AppendAt
namespace Go.Proofs.YtgemmbpjebijlaaGreatDoor
open Go.RowKit
open Go.Lib (decDigits)
section
theorem grown_store{W W':World}{D k:Nat}(h:W.grownBy W' (some D))(_hD:D<W.heap.size)(u:Value):W.grownBy (W'.setCell ⟨D,k,none⟩ u) (some D):=by
  obtain⟨h1,h2,h3,h4,h5⟩:=h;refine⟨h1,h2,h3,by simpa[World.setCell]using h4,fun j hj hne=>?_⟩;rw[Below.heap_setCell _ _ _ _ (fun e=>hne (by rw[e]))];exact h5 j hj hne
theorem grown_refl(W:World)(o:Option Nat):W.grownBy W o:=⟨rfl,rfl,rfl,Nat.le_refl _,fun _ _ _=>rfl⟩
theorem grown_trans{W W' W'':World}{o:Option Nat}(h:W.grownBy W' o)(h':W'.grownBy W'' o):W.grownBy W'' o:=by
  obtain⟨h1,h2,h3,h4,h5⟩:=h;obtain⟨g1,g2,g3,g4,g5⟩:=h';exact⟨g1.trans h1,g2.trans h2,g3.trans h3,Nat.le_trans h4 g4,fun j hj hne=>(g5 j (Nat.lt_of_lt_of_le hj h4) hne).trans (h5 j hj hne)⟩
theorem grown_below{W W':World}{D:Nat}(h:W.grownBy W' (some D))(hD:D<=W.heap.size):Below D W W':=by
  obtain⟨h1,h2,h3,h4,h5⟩:=h;exact⟨h1,h2,h3,h4,fun j hj=>h5 j (by omega) (fun e=>by injection e with e;omega)⟩
theorem below_grown{W W':World}{o:Option Nat}(h:Below W.heap.size W W'):W.grownBy W' o:=⟨h.os,h.tape,h.output,h.size,fun k hk _=>h.block k hk⟩
theorem arr_other{W W':World}{D E:Nat}{vs:List Nat}(h:Arr W E vs)(hg:W.grownBy W' (some D))(hne:E≠D):Arr W' E vs:=by
  obtain⟨_,_,_,_,h5⟩:=hg;exact(h5 E h.lt (fun e=>by injection e with e;exact hne e)).trans h
theorem mid_at{A xs C:List Nat}{i:Nat}(hi:i<xs.length)(h:A.length+i<(A++xs++C).length):(A++xs++C)[A.length+i]=xs[i]:=by
  rw[List.getElem_append_left (by rw[List.length_append];omega),List.getElem_append_right (by omega)];simp
theorem mid_set{A xs C:List Nat}{i v:Nat}(hi:i<xs.length):(A++xs++C).set (A.length+i) v=A++xs.set i v++C:=by
  rw[List.set_append_left _ _ (by rw[List.length_append];omega),List.set_append_right _ _ (by omega)];simp
def Win(W:World)(D:Nat)(A xs C:List Nat):Prop:=Arr W D (A++xs++C)
theorem Win.cell{W:World}{D:Nat}{A xs C:List Nat}(h:Win W D A xs C){i:Nat}(hi:i<xs.length):W.cell? ⟨D,A.length+i,none⟩=some (.int .u32 (xs[i]:Int)):=by
  have hl:A.length+i<(A++xs++C).length:=by rw[List.length_append,List.length_append];omega
  have:=Arr.cell h (A.length+i) hl
  rwa [mid_at hi hl]at this
theorem Win.store{W:World}{D:Nat}{A xs C:List Nat}(h:Win W D A xs C){i:Nat}(hi:i<xs.length)(v:Nat):Win (W.setCell ⟨D,A.length+i,none⟩ (.int .u32 (v:Int))) D A (xs.set i v) C:=by
  have:=Arr.store h (A.length+i) v
  rwa [mid_set hi]at this
structure RedAt(W0:World)(D:Nat)(A us C vs:List Nat)(q i p b:Nat)(wr:World):Prop where
  arr:∃xs,Win wr D A xs C/\xs.length=us.length/\(∀x∈xs,x<B32)/\xs.drop i=us.drop i/\val B32 (xs.take i)+q*val B32 (vs.take i)=val B32 (us.take i)+B32^i*(p+b)
  old:W0.grownBy wr (some D)
  p1:p<=4294967295
  b1:b<=1
theorem drop_at{xs us:List Nat}{i:Nat}(h:xs.drop i=us.drop i)(hi:i<xs.length)(hu:i<us.length):xs[i]=us[i]/\xs.drop (i+1)=us.drop (i+1):=by
  rw[List.drop_eq_getElem_cons hi,List.drop_eq_getElem_cons hu]at h;exact List.cons.inj h
theorem red_val{xs us vs:List Nat}{q i p b v u x t:Nat}(hx:i<xs.length)(hu:i<us.length)(hv:val B32 (vs.take (i+1))=val B32 (vs.take i)+B32^i*v)(hue:us[i]=u)(h:val B32 (xs.take i)+q*val B32 (vs.take i)=val B32 (us.take i)+B32^i*(p+b))(hs:x+v*q+p+b=u+B32*t):
    val B32 ((xs.set i x).take (i+1))+q*val B32 (vs.take (i+1))=val B32 (us.take (i+1))+B32^(i+1)*t:=by
  rw[val_take_set hx,val_take_succ hu,hue,hv,Nat.pow_succ,Nat.mul_assoc];generalize B32^i=P at*
  have e:P*x+q*(P*v)+P*(p+b)=P*u+P*(B32*t):=by
    rw[<-Nat.mul_add P u, <-hs,Nat.mul_add,Nat.mul_add,Nat.mul_add,Nat.mul_add];rw[show q*(P*v)=P*(v*q) by ac_rfl];omega
  rw[Nat.mul_add q];omega
theorem RedAt.step{W0 wr:World}{D:Nat}{A us C vs:List Nat}{q i p b u v:Nat}(h:RedAt W0 D A us C vs q i p b wr)(hD:D<W0.heap.size)(hi:i<vs.length)(hl:us.length=vs.length+1)(hu:us[i]'(by omega)=u)(hv:vs[i]=v)(hu1:u<=4294967295)(hv1:v<=4294967295)(hq1:q<=4294967295):
    RedAt W0 D A us C vs q (i+1) ((p+v*q)/4294967296) (if u<(p+v*q)%4294967296+b then 1 else 0) (wr.setCell ⟨D,A.length+i,none⟩ (.int .u32 (((u+4294967296-(p+v*q)%4294967296-b)%4294967296:Nat):Int))):=by
  obtain⟨⟨xs,h1,h2,h3,h4,h5⟩,h6,h7,h8⟩:=h;have hix:i<xs.length:=by omega
  obtain⟨_,hd⟩:=drop_at h4 hix (by omega);refine⟨⟨_,h1.store hix _,by simpa using h2,all_set h3 (by rw[b32];omega),?_,?_⟩,grown_store h6 hD _,?_,by split<;>omega⟩
  . rw[List.drop_set_of_lt (by omega)];exact hd
  . refine red_val hix (by omega) (by rw[val_take_succ hi,hv]) hu h5 ?_;have:=red_step (B:=B32) (u:=u) (p:=p) (b:=b) (v:=v) (q:=q) (by decide) (by rw[b32];omega) h8;rw[b32]at this⊢;rw[this];exact congrArg (fun t=>u+4294967296*t) (Nat.add_comm _ _)
  have h9:v*q<=4294967295*4294967295:=Nat.mul_le_mul hv1 hq1;omega
structure RedOut(W0:World)(D:Nat)(A us C vs:List Nat)(q b:Nat)(wr:World):Prop where
  arr:∃xs,Win wr D A xs C/\xs.length=us.length/\(∀x∈xs,x<B32)/\val B32 xs+q*val B32 vs=val B32 us+B32^us.length*b
  old:W0.grownBy wr (some D)
theorem RedAt.last{W0 wr:World}{D:Nat}{A us C vs:List Nat}{q n p b u:Nat}(h:RedAt W0 D A us C vs q n p b wr)(hD:D<W0.heap.size)(hn:n=vs.length)(hl:us.length=n+1)(hu:us[n]'(by omega)=u)(hu1:u<=4294967295):
    RedOut W0 D A us C vs q (if u<p+b then 1 else 0) (wr.setCell ⟨D,A.length+n,none⟩ (.int .u32 (((u+4294967296-p-b)%4294967296:Nat):Int))):=by
  obtain⟨⟨xs,h1,h2,h3,h4,h5⟩,h6,h7,h8⟩:=h;have hix:n<xs.length:=by omega
  refine⟨⟨_,h1.store hix _,by simpa using h2,all_set h3 (by rw[b32];omega),?_⟩,grown_store h6 hD _⟩;have hs:=red_step (B:=B32) (u:=u) (p:=p) (b:=b) (v:=0) (q:=q) (by decide) (by rw[b32];omega) h8;have hp:(p+0*q)%B32=p:=by rw[b32,Nat.zero_mul,Nat.add_zero,Nat.mod_eq_of_lt (by omega)]
  have hp2:(p+0*q)/B32=0:=by rw[b32,Nat.zero_mul,Nat.add_zero];omega
  rw[hp,hp2,Nat.add_zero]at hs;have hv0:val B32 (vs.take (n+1))=val B32 (vs.take n)+B32^n*0:=by rw[List.take_of_length_le (by omega),List.take_of_length_le (by omega)];simp
  have hr:=red_val (x:=(u+4294967296-p-b)%4294967296) hix (by omega) hv0 hu h5 (by rw[b32]at hs;exact hs);rw[List.take_of_length_le (by rw[List.length_set];omega),List.take_of_length_le (by omega),List.take_of_length_le (by omega), <-hl]at hr;exact hr
structure BackAt(W0:World)(D:Nat)(A xs C vs:List Nat)(i c:Nat)(wr:World):Prop where
  arr:∃ys,Win wr D A ys C/\ys.length=xs.length/\(∀y∈ys,y<B32)/\ys.drop i=xs.drop i/\val B32 (ys.take i)+B32^i*c=val B32 (xs.take i)+val B32 (vs.take i)
  old:W0.grownBy wr (some D)
  c1:c<=1
theorem back_val{ys xs vs:List Nat}{i c u v:Nat}(hy:i<ys.length)(hx:i<xs.length)(hv:val B32 (vs.take (i+1))=val B32 (vs.take i)+B32^i*v)(hxe:xs[i]=u)(h:val B32 (ys.take i)+B32^i*c=val B32 (xs.take i)+val B32 (vs.take i)):
    val B32 ((ys.set i ((u+v+c)%4294967296)).take (i+1))+B32^(i+1)*((u+v+c)/4294967296)=val B32 (xs.take (i+1))+val B32 (vs.take (i+1)):=by
  rw[val_take_set hy,val_take_succ hx,hxe,hv,Nat.pow_succ,Nat.mul_assoc];have hb:=b32;generalize B32^i=P at*
  have e:P*((u+v+c)%4294967296)+P*(B32*((u+v+c)/4294967296))=P*u+P*v+P*c:=by
    rw[hb, <-Nat.mul_add,Nat.mod_add_div,Nat.mul_add,Nat.mul_add]
  omega
theorem BackAt.step{W0 wr wr':World}{D:Nat}{A xs C vs:List Nat}{i c u v:Nat}(h:BackAt W0 D A xs C vs i c wr)(hw:Below wr.heap.size wr wr')(hD:D<W0.heap.size)(hi:i<vs.length)(hl:xs.length=vs.length+1)(hu:xs[i]'(by omega)=u)(hv:vs[i]=v)(hu1:u<=4294967295)(hv1:v<=4294967295):
    BackAt W0 D A xs C vs (i+1) ((u+v+c)/4294967296) (wr'.setCell ⟨D,A.length+i,none⟩ (.int .u32 (((u+v+c)%4294967296:Nat):Int))):=by
  obtain⟨⟨ys,h1,h2,h3,h4,h5⟩,h6,h7⟩:=h;have hiy:i<ys.length:=by omega
  obtain⟨_,hd⟩:=drop_at h4 hiy (by omega);have h1':Win wr' D A ys C:=Arr.below h1 hw;refine⟨⟨_,h1'.store hiy _,by simpa using h2,all_set h3 (by rw[b32];omega),?_,back_val hiy (by omega) (by rw[val_take_succ hi,hv]) hu h5⟩,grown_store (grown_trans h6 (below_grown hw)) hD _,by omega⟩;rw[List.drop_set_of_lt (by omega)];exact hd
theorem BackAt.last{W0 wr:World}{D:Nat}{A xs C vs:List Nat}{n c u:Nat}(h:BackAt W0 D A xs C vs n c wr)(hD:D<W0.heap.size)(hn:n=vs.length)(hl:xs.length=n+1)(hu:xs[n]'(by omega)=u):
    ∃ys,Win (wr.setCell ⟨D,A.length+n,none⟩ (.int .u32 (((u+c)%4294967296:Nat):Int))) D A ys C/\ys.length=xs.length/\(∀y∈ys,y<B32)/\val B32 ys+B32^xs.length*((u+c)/4294967296)=val B32 xs+val B32 vs/\W0.grownBy (wr.setCell ⟨D,A.length+n,none⟩ (.int .u32 (((u+c)%4294967296:Nat):Int))) (some D):=by
  obtain⟨⟨ys,h1,h2,h3,h4,h5⟩,h6,h7⟩:=h;have hiy:n<ys.length:=by omega
  refine⟨_,h1.store hiy _,by simpa using h2,all_set h3 (by rw[b32];omega),?_,grown_store h6 hD _⟩;have hv0:val B32 (vs.take (n+1))=val B32 (vs.take n)+B32^n*0:=by rw[List.take_of_length_le (by omega),List.take_of_length_le (by omega)];simp
  have hr:=back_val hiy (by omega) hv0 hu h5;rw[Nat.add_zero]at hr;rw[List.take_of_length_le (by rw[List.length_set];omega),List.take_of_length_le (by omega),List.take_of_length_le (by omega), <-hl]at hr;exact hr
set_option maxRecDepth 100000 in
set_option maxHeartbeats 4000000 in
theorem reduce_any(D E cE:Nat)(A us C vs:List Nat)(q:Nat)(w:World)(hD:Win w D A us C)(hE:Arr w E vs)(hne:E≠D)(hl:us.length=vs.length+1)(hub:∀u∈us,u<B32)(hvb:∀v∈vs,v<B32)(hV:0<val B32 vs)(hq1:q<=4294967295)
    (h1:val B32 us/val B32 vs<=q) (h2:q<=val B32 us/val B32 vs+1) (_hA:A.length<=1000000) (hn:vs.length<=1000000):
    Calls Tryz.prog 164 #[.slice (some ⟨D,A.length,none⟩) (vs.length+1) (vs.length+1),.slice (some ⟨E,0,none⟩) vs.length cE,.int .u32 (q:Int)] w fun e w'=>e=.returned (.int .u32 ((val B32 us/val B32 vs:Nat):Int))/\(∃us',us'.length=us.length/\(∀u∈us',u<B32)/\val B32 us'=val B32 us%val B32 vs/\Win w' D A us' C)/\w.grownBy w' (some D):=by
  have HUB:=hid hub;have HVB:=hid hvb;have HE:=hid hE;have HNE:=hid hne;have HV:=hid hV;have HQ1:=hid h1;have HQ2:=hid h2;have hDl:=hD.lt;have hEl:=hE.lt;have HUL:=hid (val_lt b32_2 hub);have HVL:=hid (val_lt b32_2 hvb);have hat0:RedAt w D A us C vs q 0 0 0 w:=⟨⟨us,hD,rfl,hub,rfl,by simp[val]⟩,grown_refl _ _,by omega,by omega⟩;clear hub hvb hE hne hV h1 h2 hD;obtain⟨U,hU⟩:∃U,val B32 us=U:=⟨_,rfl⟩;obtain⟨V,hV⟩:∃V,val B32 vs=V:=⟨_,rfl⟩;rw[hU,hV]at HQ1 HQ2⊢;rw[hV]at HV HVL;rw[hU]at HUL;have HUE:=hid hU;have HVE:=hid hV;clear hU hV;go_enter Tryz.func164,Tryz.ntmps164;go_wp2_with fail;go_loopw [8,9,16] (fun pv bv iv wr=> ∃i p b:Nat,i<=vs.length/\iv=.int .i64 (i:Int)/\pv=.int .u64 (p:Int)/\bv=.int .u32 (b:Int)/\RedAt w D A us C vs q i p b wr) (fun _ _ iv _=>vs.length-(intOf iv).toNat)
  case atStart=>exact⟨0,0,0,Nat.zero_le _,rfl,rfl,rfl,hat0⟩
  clear hat0;obtain⟨i,p,b,hi,rfl,rfl,rfl,hat⟩:=hrel;generalize wr=W1 at hat⊢;have hp1:=hat.p1;have hb1:=hat.b1;obtain⟨xs,hwin,hxl,hxb,hxd,_⟩:=hat.arr;have hvs:=arr_other HE.out hat.old HNE.out;have hfr:=hwin.free;have hDl1:=hwin.lt
  by_cases hlt:i<vs.length
  . have hix:i<xs.length:=by omega
    have hiu:i<us.length:=by omega
    have cu:=hwin.cell hix;rw[(drop_at hxd hix hiu).1]at cu;have cv:=hvs.cell i hlt;have hu1:us[i]<=4294967295:=by have:=HUB.out _ (List.getElem_mem hiu);rw[b32]at this;omega
    have hv1:vs[i]<=4294967295:=by have:=HVB.out _ (List.getElem_mem hlt);rw[b32]at this;omega
    obtain⟨u,hu⟩:∃u,us[i]=u:=⟨_,rfl⟩;obtain⟨v,hv⟩:∃v,vs[i]=v:=⟨_,rfl⟩;rw[hu]at cu hu1;rw[hv]at cv hv1;have HS:=hid (hat.step hDl hlt hl hu hv hu1 hv1 hq1);have hvl:=hvs.lt;have h9:v*q<=4294967295*4294967295:=Nat.mul_le_mul hv1 hq1;have hm0:0<=(v:Int)*(q:Int):=Int.mul_nonneg (by omega) (by omega)
    have hm1:(v:Int)*(q:Int)<=18446744065119617025:=by
      have e1:((v*q:Nat):Int)=(v:Int)*(q:Int):=Int.natCast_mul v q;omega
    obtain⟨t,ht,ht2⟩:∃t:Nat,p+v*q=t/\(p:Int)+(v:Int)*(q:Int)=(t:Int):=⟨_,rfl,by simp only[Int.natCast_add,Int.natCast_mul]⟩;have htb:(t:Int)<=18446744073709551615:=by omega
    rw[ht]at HS;have HSB:=hid (fun w1=>show Calls Tryz.prog 150 #[.int .u32 (u:Int),.int .u32 ((t:Int)%4294967296),.int .u32 (b:Int)] w1 _ from sub32_any u (t%4294967296) b w1 hu1 (by omega) hb1);clear hu hv ht h9 hat hxd hxb hxl;go_upto_region 8 with(fail);clear ht2 hm0 hm1;go_wp2_with (go_at_call 150;refine(HSB.out _).mono ?_;clear HSB;rintro e w2 ⟨rfl,rfl⟩);go_roundw
    case rel=>exact⟨i+1,t/4294967296,_,by omega,by go_num,rfl,rfl,HS.out⟩
    case measure=>simp[intOf];omega
  obtain rfl:i=vs.length:=by omega
  have hix:vs.length<xs.length:=by omega
  have hiu:vs.length<us.length:=by omega
  have cu:=hwin.cell hix;rw[(drop_at hxd hix hiu).1]at cu;have hu1:us[vs.length]<=4294967295:=by have:=HUB.out _ (List.getElem_mem hiu);rw[b32]at this;omega
  obtain⟨u,hu⟩:∃u,us[vs.length]=u:=⟨_,rfl⟩;rw[hu]at cu hu1;have HL:=hid (hat.last hDl rfl hl hu hu1);have HSB:=hid (fun w1=>sub32_any u p b w1 hu1 hp1 hb1);clear hu hat hxd hxb hxl
  by_cases hbor:u<p+b
  . rw[if_pos hbor]at HSB HL;clear hbor;obtain⟨x,hx⟩:∃x,(u+4294967296-p-b)%4294967296=x:=⟨_,rfl⟩;rw[hx]at HSB HL;clear hx;go_upto_region 14 with(go_at_call 150;refine(HSB.out _).mono ?_;clear HSB;rintro e w2 ⟨rfl,rfl⟩);obtain⟨⟨xs',g1,g2,g3,g4⟩,g5⟩:=HL.out;generalize W1.setCell ⟨D,A.length+vs.length,none⟩ (.int .u32 (x:Int))=W2 at g1 g5⊢;have HX4:=hid g4;have HX3:=hid g3;have hvs2:=arr_other HE.out g5 HNE.out;have hat1:BackAt w D A xs' C vs 0 0 W2:=⟨⟨xs',g1,rfl,g3,rfl,by simp[val]⟩,g5,by omega⟩;have hxl':xs'.length=vs.length+1:=by omega
    clear cu hfr hvs g1 g3 g4 g5 hwin HL hvs2;go_wp2_with fail;go_loopw [11,64] (fun cv iv wr=> ∃i c:Nat,i<=vs.length/\iv=.int .i64 (i:Int)/\cv=.int .u32 (c:Int)/\BackAt w D A xs' C vs i c wr) (fun _ iv _=>vs.length-(intOf iv).toNat)
    case atStart=>exact⟨0,0,Nat.zero_le _,rfl,rfl,hat1⟩
    clear hat1;obtain⟨i,c,hi,rfl,rfl,hat⟩:=hrel;generalize wr=W3 at hat⊢;have hc1:=hat.c1;obtain⟨ys,hwin,hyl,hyb,hyd,_⟩:=hat.arr;have hvs:=arr_other HE.out hat.old HNE.out;have hfr:=hwin.free;have hDl1:=hwin.lt
    by_cases hlt:i<vs.length
    . have hiy:i<ys.length:=by omega
      have hix:i<xs'.length:=by omega
      have cu:=hwin.cell hiy;rw[(drop_at hyd hiy hix).1]at cu;have cv:=hvs.cell i hlt;have hu1:xs'[i]<=4294967295:=by have:=HX3.out _ (List.getElem_mem hix);rw[b32]at this;omega
      have hv1:vs[i]<=4294967295:=by have:=HVB.out _ (List.getElem_mem hlt);rw[b32]at this;omega
      obtain⟨u2,hu⟩:∃u,xs'[i]=u:=⟨_,rfl⟩;obtain⟨v,hv⟩:∃v,vs[i]=v:=⟨_,rfl⟩;rw[hu]at cu hu1;rw[hv]at cv hv1;have HS:=hid (fun w' (hb:Below W3.heap.size W3 w')=>hat.step hb hDl hlt hxl' hu hv hu1 hv1);have hvl:=hvs.lt;have HAD:=hid (fun w1=>add32_any u2 v c w1 hu1 hv1 hc1);have HW:=hid hwin;clear hu hv hat hyd hyb hyl;obtain⟨s1,hs1⟩:∃s1,(u2+v+c)%4294967296=s1:=⟨_,rfl⟩;obtain⟨s2,hs2⟩:∃s2,(u2+v+c)/4294967296=s2:=⟨_,rfl⟩;rw[hs1,hs2]at HS HAD;clear hs1 hs2;have hi1:(i:Int)<(vs.length:Int)+1:=by omega
      have hi2:(i:Int)<(vs.length:Int):=by omega
      go_upto_region 18 with(fail);refine wp_region_staged (fun w'=>Below W3.heap.size W3 w') [0,0,0,0,0,1,0,0,0,1,0,1,0,0,0,0,2,0] (by kernel_rfl) (by kernel_rfl) (by kernel_rfl) (by exact(Below.refl _ _).drew) ?_
      iterate 5 (refine zs0 ?_)
      refine zs2 ?_
      iterate 3 (refine zs0 ?_)
      refine zs2 ?_;refine zs0 ?_;apply lexH rfl
      . intro w' hw';go_simp;(try go_bits);refine(HAD.out _).mono ?_;rintro e w5 ⟨rfl,rfl⟩;exact⟨_,rfl,rfl,hw'⟩
      refine zs4 ?_
      iterate 4 (refine zs0 ?_)
      apply lexS (fun w'=>BackAt w D A xs' C vs (i+1) s2 w') rfl
      . intro w' hw';have hwin':Win w' D A ys C:=Arr.below HW.out hw';have c0:=hwin'.cell hiy;have f0:=hwin'.free;go_simp;exact⟨rfl,HS.out w' hw'⟩
      simp only[Act.put];refine zs0 ?_;refine lexEnd (fun W5 hw5=>?_);go_wp2;go_roundw
      case rel=>exact⟨i+1,s2,by omega,by go_num,rfl,hw5⟩
      case measure=>simp[intOf];omega
    obtain rfl:i=vs.length:=by omega
    have hiy:vs.length<ys.length:=by omega
    have hix:vs.length<xs'.length:=by omega
    have cu:=hwin.cell hiy;rw[(drop_at hyd hiy hix).1]at cu;have hu1:xs'[vs.length]<=4294967295:=by have:=HX3.out _ (List.getElem_mem hix);rw[b32]at this;omega
    obtain⟨u2,hu⟩:∃u,xs'[vs.length]=u:=⟨_,rfl⟩;rw[hu]at cu hu1;have HLL:=hid (hat.last hDl rfl hxl' hu);clear hu hat hyd hyb hyl;have e2:((u2:Int)+(c:Int))%4294967296=(((u2+c)%4294967296:Nat):Int):=by omega
    obtain⟨s1,hs1⟩:∃s1,(u2+c)%4294967296=s1:=⟨_,rfl⟩;rw[hs1]at e2 HLL;obtain⟨ys',k1,k2,k3,k4,k5⟩:=HLL.out;have hg4:=HX4.out;rw[HUE.out,HVE.out]at hg4;rw[HVE.out]at k4;have hX:=val_lt b32_2 HX3.out;have hY:=val_lt b32_2 k3;rw[k2]at hY;have hlen:us.length=xs'.length:=by omega
    rw[hlen]at hg4
    have g6:=red_back (c:=(u2+c)/4294967296) hg4 hX hY (by
      have h5:=HVL.out;rw[hxl',Nat.pow_succ];refine Nat.le_trans (Nat.le_of_lt h5) ?_;exact Nat.le_mul_of_pos_right _ (by decide)) k4 HQ2.out HV.out
    have HG:=hid g6;have HK:=hid k1;have HK2:=hid k2;have HK3:=hid k3;have HK5:=hid k5;have hq0:1<=q:=by rw[g6.1];exact Nat.le_add_left 1 _
    clear hs1 HLL k1 k2 k3 k4 k5 g6 hg4 hX hY hlen;go_upto_region 21 with(fail);go_wp2;go_ret;refine⟨?_,⟨ys',by rw[HK2.out];omega,HK3.out,HG.out.2,HK.out⟩,HK5.out⟩;have hqe:=HG.out.1
    show Ending.returned (Value.int .u32 ((q:Int)-1))=Ending.returned (.int .u32 ((U/V:Nat):Int))
    rw[hqe]
    congr 2
    omega
  rw[if_neg hbor]at HSB HL;clear hbor;obtain⟨x,hx⟩:∃x,(u+4294967296-p-b)%4294967296=x:=⟨_,rfl⟩;rw[hx]at HSB HL;clear hx;go_wp2_with (go_at_call 150;refine(HSB.out _).mono ?_;clear HSB;rintro e w2 ⟨rfl,rfl⟩);go_ret;obtain⟨⟨ys,g1,g2,g3,g4⟩,g5⟩:=HL.out;rw[HUE.out,HVE.out]at g4;have g6:=red_done (T:=B32^us.length) g4 HQ1.out HV.out;exact⟨by rw[<-g6.1];rfl,⟨ys,g2,g3,g6.2,g1⟩,g5⟩
theorem two_pow_32{s:Nat}(hs:s<=32):(2^s)∣B32:=⟨2^(32-s),by rw[<-Nat.pow_add,show s+(32-s)=32 by omega];rfl⟩
structure ShlAt(W0:World)(D:Nat)(ds:List Nat)(S L k low:Nat)(wr:World):Prop where
  arr:∃xs,Arr wr D xs/\xs.length=L/\(∀x∈xs,x<B32)/\val B32 (xs.take k)+B32^k*low=val B32 (ds.take k)*S
  old:Below D W0 wr
  lo:low<S
theorem ShlAt.step{W0 wr:World}{D:Nat}{ds:List Nat}{s L k low x:Nat}(h:ShlAt W0 D ds (2^s) L k low wr)(hs:s<=32)(hk:k<ds.length)(hL:ds.length<=L)(hx:ds[k]=x)(hx1:x<=4294967295):
    ShlAt W0 D ds (2^s) L (k+1) (x*2^s/4294967296) (wr.setCell ⟨D,k,none⟩ (.int .u32 ((x*2^s%4294967296+low:Nat):Int))):=by
  obtain⟨⟨xs,h1,h2,h3,h4⟩,h5,h6⟩:=h;have hp:0<2^s:=Nat.pow_pos (by decide);obtain⟨s1,s2,s3⟩:=shl_step (B:=B32) (S:=2^s) (x:=x) (low:=low) hp (two_pow_32 hs) (by decide) (by rw[b32];omega) h6;rw[b32]at s1 s2 s3;refine⟨⟨_,h1.store _ _,by simpa using h2,all_set h3 (by rw[b32];exact s1),?_⟩,h5.setCell (p:=⟨D,k,none⟩) (Nat.le_refl _) _,s2⟩;rw[val_take_set (by omega),val_take_succ hk,hx,Nat.pow_succ,Nat.mul_assoc];have hb:=b32;generalize 2^s=S at*;generalize B32^k=P at*;have e:P*(x*S%4294967296+low)+P*(B32*(x*S/4294967296))=P*(x*S+low):=by rw[hb, <-Nat.mul_add,s3]
  rw[Nat.add_mul,Nat.mul_assoc P x S];rw[Nat.mul_add P (x*S)]at e;omega
theorem u32_or_shl(x s low:Nat)(hs:s<=31)(_hx:x<=4294967295)(hl:low<2^s):bits BinOp.or IntKind.u32 ((x:Int)*((2^s:Nat):Int)%4294967296) (low:Int)=((x*2^s%4294967296+low:Nat):Int):=by
  have e1:(x:Int)*((2^s:Nat):Int)%4294967296=((x*2^s%4294967296:Nat):Int):=by
    rw[<-Int.natCast_mul];rfl
  have hlt:2^s<=2^31:=Nat.pow_le_pow_right (by decide) hs;rw[e1,u32_or_nat _ _ (by omega) (by have:2^31=2147483648:=rfl;omega)]
  have e2:x*2^s%4294967296=2^s*(x%2^(32-s)):=by
    rw[show(4294967296:Nat)=2^s*2^(32-s) by rw[<-Nat.pow_add,show s+(32-s)=32 by omega],Nat.mul_comm x,Nat.mul_mod_mul_left]
  rw[e2, <-Nat.two_pow_add_eq_or_of_lt hl]
set_option maxRecDepth 100000 in
set_option maxHeartbeats 2000000 in
theorem shl_any(P:Option Addr)(c s L:Nat)(ds:List Nat)(w:World)(hd:DigP w P ds)(h1:∀d∈ds,d<B32)(hs:s<=31)(hl:ds.length<=L)(hL:L<=1000000)(hL1:L<=ds.length+1)(hfit:L=ds.length->val B32 ds*2^s<B32^L):
    Calls Tryz.prog 163 #[.slice P ds.length c,.int .i64 (s:Int),.int .i64 (L:Int)] w fun e w'=> ∃D xs,e=.returned (.slice (some ⟨D,0,none⟩) L L)/\w.heap.size<=D/\Arr w' D xs/\xs.length=L/\(∀x∈xs,x<B32)/\val B32 xs=val B32 ds*2^s/\Below w.heap.size w w':=by
  obtain⟨i0,hi,hz0,hz1,hz2⟩:=info_parts infoU;have H1:=hid h1;have HD:=hid hd;have HF:=hid hfit;have HL1:=hid hL1;have hp:0<2^s:=Nat.pow_pos (by decide);clear h1 hd hfit hL1;go_enter Tryz.func163,Tryz.ntmps163;go_upto_region 2 with(at_make;go_loud (refine wpList_make_full _ rfl _ _ _ rfl w.heap.size 143 i0 _ 1 Tryz.underlying39 hi hz0 hz1 _ _ _ _ L rfl rfl (by simp) (by simp) (by rw[hz2];omega) (by unfold maxLen;omega) (Nat.le_refl _) ?_;intro w2 hown hgr;have hb2:Below w.heap.size w w2:=(Below.refl _ w).grown hgr (Nat.le_refl _) (by simp);have hA:=arr_made hown;clear hown hgr));have hat0:ShlAt w w.heap.size ds (2^s) L 0 0 w2:=⟨⟨_,hA,by simp,fun x hx=>by rw[List.eq_of_mem_replicate hx,b32];omega,by simp[val]⟩,hb2,hp⟩;clear hA hb2;go_wp2_with fail;go_loopw [8,15] (fun lv iv wr=> ∃k low:Nat,k<=ds.length/\iv=.int .i64 (k:Int)/\lv=.int .u32 (low:Int)/\ShlAt w w.heap.size ds (2^s) L k low wr) (fun _ iv _=>ds.length-(intOf iv).toNat)
  case atStart=>exact⟨0,0,Nat.zero_le _,rfl,rfl,hat0⟩
  clear hat0;obtain⟨k,low,hk,rfl,rfl,hat⟩:=hrel;generalize wr=W1 at hat⊢;have hold:=hat.old;have hlo:=hat.lo;obtain⟨xs,harr,hxl,hxb,hxv⟩:=hat.arr;have hfr:=harr.free;have hDl:=harr.lt
  by_cases hlt:k<ds.length
  . obtain⟨g,rfl,hg⟩:=HD.out.at hlt;have g0:=(hg.below hold).at0 k hlt;have hgl:=Nat.lt_of_lt_of_le hg.lt hold.size;have hx1:ds[k]<=4294967295:=by have:=H1.out _ (List.getElem_mem hlt);rw[b32]at this;omega
    obtain⟨x,hx⟩:∃x,ds[k]=x:=⟨_,rfl⟩;rw[hx]at g0 hx1;have HS:=hid (hat.step (by omega) hlt hl hx hx1);have e2:=u32_or_shl x s low hs hx1 hlo;have c0:=harr.cell k (by omega);obtain⟨z,hz⟩:∃z,xs[k]'(by omega)=z:=⟨_,rfl⟩;rw[hz]at c0;clear hz;have e3:(2:Int)^s=((2^s:Nat):Int):=by simp
    obtain⟨S,hS⟩:∃S,2^s=S:=⟨_,rfl⟩;have HSE:=hid hS;have hS31:S<=2147483648:=by rw[<-hS];exact Nat.pow_le_pow_right (n:=2) (by decide) hs
    rw[hS]at HS e2 e3 hlo hp;have hxs:x*S<=4294967295*2147483648:=Nat.mul_le_mul hx1 hS31
    have hm1:(x:Int)*(S:Int)<=9223372034707292160:=by
      have e1:((x*S:Nat):Int)=(x:Int)*(S:Int):=Int.natCast_mul x S;omega
    have hm0:0<=(x:Int)*(S:Int):=Int.mul_nonneg (by omega) (by omega);obtain⟨T,hT⟩:∃T,x*S%4294967296+low=T:=⟨_,rfl⟩;rw[hT]at e2 HS;have hlb1:(x:Int)*(S:Int)/4294967296<=2147483648:=by omega
    have hlb0:0<=(x:Int)*(S:Int)/4294967296:=by omega
    clear hx hS hat harr hxl hxb hxv hT hxs;go_upto_region 7 with(fail);clear e2;go_wp2;go_roundw
    case rel=>
      refine⟨k+1,x*S/4294967296,by omega,by go_num,?_,by rw[HSE.out];exact HS.out⟩
      show Value.int .u32 _=Value.int .u32 _
      congr 1
    case measure=>simp[intOf];omega
  obtain rfl:k=ds.length:=by omega
  rw[List.take_length]at hxv
  by_cases hLL:ds.length<L
  . have hLi:(ds.length:Int)<(L:Int):=by omega
    have hst:=harr.store ds.length low;have c0:=harr.cell ds.length (by omega);obtain⟨z,hz⟩:∃z,xs[ds.length]'(by omega)=z:=⟨_,rfl⟩;rw[hz]at c0
    have HVX:=hid (show val B32 (xs.set ds.length low)=val B32 ds*2^s by
      have h4:=val_take_set (B:=B32) (xs:=xs) (k:=ds.length) (v:=low) (by omega);rw[List.take_of_length_le (by rw[List.length_set];have:=HL1.out;omega)]at h4;rw[h4,hxv])
    have HLB:=hid (show low<B32 by rw[b32];have:2^s<=2^31:=Nat.pow_le_pow_right (by decide) hs;omega);clear hz hat hxv;go_wp2;go_ret;exact⟨_,_,rfl,Nat.le_refl _,hst,by rw[List.length_set];exact hxl,all_set hxb HLB.out,HVX.out,hold.setCell (p:=⟨w.heap.size,ds.length,none⟩) (Nat.le_refl _) _⟩
  have hLe:L=ds.length:=by omega
  have hLi:¬(ds.length:Int)<(L:Int):=by omega
  have HVX:=hid (show val B32 xs=val B32 ds*2^s by
    have h5:=HF.out hLe;rw[List.take_of_length_le (by omega)]at hxv;rw[hLe]at h5
    rcases Nat.eq_zero_or_pos low with h0|h0
    . subst h0;omega
    have:B32^ds.length*1<=B32^ds.length*low:=Nat.mul_le_mul_left _ h0;omega)
  clear hxv hat hLe;go_wp2;go_ret
  first
    |exact⟨_,rfl,Nat.le_refl _,xs,harr,hxl,hxb,HVX.out,hold⟩
    |exact⟨_,xs,rfl,Nat.le_refl _,harr,hxl,hxb,HVX.out,hold⟩
structure ShrAt(W0:World)(D:Nat)(ds:List Nat)(S k:Nat)(wr:World):Prop where
  arr:∃xs,Arr wr D xs/\xs.length=ds.length/\(∀x∈xs,x<B32)/\val B32 (xs.drop k)=val B32 (ds.drop k)/S
  old:Below D W0 wr
theorem ShrAt.step{W0 wr:World}{D:Nat}{ds:List Nat}{s j x h:Nat}(ha:ShrAt W0 D ds (2^s) (j+1) wr)(hs:s<=32)(hj:j<ds.length)(hx:ds[j]=x)(hx1:x<=4294967295)(hh:h=val B32 (ds.drop (j+1))%B32):
    ShrAt W0 D ds (2^s) j (wr.setCell ⟨D,j,none⟩ (.int .u32 (((h*4294967296+x)/2^s%4294967296:Nat):Int))):=by
  obtain⟨⟨xs,h1,h2,h3,h4⟩,h5⟩:=ha;refine⟨⟨_,h1.store _ _,by simpa using h2,all_set h3 (by rw[b32];omega),?_⟩,h5.setCell (p:=⟨D,j,none⟩) (Nat.le_refl _) _⟩;rw[val_drop_set (by omega),val_drop hj,hx,h4,hh];have:=shr_step (B:=B32) (S:=2^s) (d:=x) (D:=val B32 (ds.drop (j+1))) (Nat.pow_pos (by decide)) (two_pow_32 hs) (by decide) (by rw[b32];omega);rw[this,b32]
theorem high_next{ds:List Nat}{j:Nat}(hj:j<ds.length)(h1:∀d∈ds,d<B32):ds[j]=val B32 (ds.drop j)%B32:=by
  rw[val_drop hj,Nat.add_mul_mod_self_left,Nat.mod_eq_of_lt (h1 _ (List.getElem_mem hj))]
set_option maxRecDepth 100000 in
set_option maxHeartbeats 2000000 in
theorem shr_any(P:Option Addr)(c s:Nat)(ds:List Nat)(w:World)(hd:DigP w P ds)(h1:∀d∈ds,d<B32)(hs:s<=31)(hL:ds.length<=1000000):
    Calls Tryz.prog 165 #[.slice P ds.length c,.int .i64 (s:Int)] w fun e w'=> ∃D xs,e=.returned (.slice (some ⟨D,0,none⟩) ds.length ds.length)/\Arr w' D xs/\xs.length=ds.length/\(∀x∈xs,x<B32)/\val B32 xs=val B32 ds/2^s/\Below w.heap.size w w':=by
  obtain⟨i0,hi,hz0,hz1,hz2⟩:=info_parts infoU;have H1:=hid h1;have HD:=hid hd;clear h1 hd;go_enter Tryz.func165,Tryz.ntmps165;go_upto_region 2 with(at_make;go_loud (refine wpList_make_full _ rfl _ _ _ rfl w.heap.size 143 i0 _ 1 Tryz.underlying39 hi hz0 hz1 _ _ _ _ ds.length rfl rfl (by simp) (by simp) (by rw[hz2];omega) (by unfold maxLen;omega) (Nat.le_refl _) ?_;intro w2 hown hgr;have hb2:Below w.heap.size w w2:=(Below.refl _ w).grown hgr (Nat.le_refl _) (by simp);have hA:=arr_made hown;clear hown hgr));have hat0:ShrAt w w.heap.size ds (2^s) ds.length w2:=⟨⟨_,hA,by simp,fun x hx=>by rw[List.eq_of_mem_replicate hx,b32];omega,by simp[val]⟩,hb2⟩;clear hA hb2;go_wp2_with fail;go_loopw [6,7] (fun hv iv wr=> ∃k h:Nat,k<=ds.length/\iv=.int .i64 ((k:Int)-1)/\hv=.int .u32 (h:Int)/\h<=4294967295/\Hid (h=val B32 (ds.drop k)%B32)/\ShrAt w w.heap.size ds (2^s) k wr) (fun _ iv _=>(intOf iv+1).toNat)
  case atStart=>exact⟨ds.length,0,Nat.le_refl _,rfl,rfl,by omega,hid (by rw[List.drop_length];rfl),hat0⟩
  clear hat0;obtain⟨k,h,hk,rfl,rfl,hh1,HH,hat⟩:=hrel;generalize wr=W1 at hat⊢;have hold:=hat.old
  by_cases hk0:k=0
  . subst hk0;obtain⟨xs,harr,hxl,hxb,hxv⟩:=hat.arr;rw[List.drop_zero,List.drop_zero]at hxv;clear hat;go_wp2;go_ret;exact⟨_,xs,rfl,harr,hxl,hxb,hxv,hold⟩
  obtain⟨j,rfl⟩:∃j,k=j+1:=⟨k-1,by omega⟩;have hj:j<ds.length:=by omega
  have ei:(((j+1:Nat):Int)-1)=(j:Int):=by omega
  rw[ei];clear ei;obtain⟨g,rfl,hg⟩:=HD.out.at hj;have g0:=(hg.below hold).at0 j hj;have hgl:=Nat.lt_of_lt_of_le hg.lt hold.size;have hne:g≠w.heap.size:=by have:=hg.lt;omega
  have hx1:ds[j]<=4294967295:=by have:=H1.out _ (List.getElem_mem hj);rw[b32]at this;omega
  have HN:=hid (high_next hj H1.out);obtain⟨x,hx⟩:∃x,ds[j]=x:=⟨_,rfl⟩;rw[hx]at g0 hx1 HN;have HS:=hid (hat.step (by omega) hj hx hx1 HH.out);obtain⟨xs,harr,hxl,_,_⟩:=hat.arr;have c0:=harr.cell j (by omega);obtain⟨z,hz⟩:∃z,xs[j]'(by omega)=z:=⟨_,rfl⟩;rw[hz]at c0;clear hz;have hfr:=harr.free;have hDl:=harr.lt;have q0:0<=(j:Int):=by omega
  have e2:=div_or h x hh1 hx1;have e3:(2:Int)^s=((2^s:Nat):Int):=by simp
  obtain⟨S,hS⟩:∃S,2^s=S:=⟨_,rfl⟩;have HSE:=hid hS;have hp:0<2^s:=Nat.pow_pos (by decide);rw[hS]at HS e3 hp;obtain⟨t,ht⟩:∃t,h*4294967296+x=t:=⟨_,rfl⟩;rw[ht]at HS e2;clear hx hS hat harr hxl ht;go_upto_region 7 with(fail);clear e2;go_upto_region 8 with(fail)
  obtain⟨W6,hW6,hS6,g6,hgl6⟩:∃W6,W6=W1.setCell ⟨w.heap.size,j,none⟩ (.int .u32 ((t:Int)/(S:Int)%4294967296))/\ShrAt w w.heap.size ds S j W6/\W6.cell? ⟨g,j,none⟩=some (.int .u32 (x:Int))/\g<W6.heap.size:=
    ⟨_,rfl,HS.out,(World.cell?_of_block (w:=W1) (Below.heap_setCell _ _ _ _ hne)).trans g0,by simpa[World.setCell]using hgl⟩
  rw[<-hW6];clear hW6 g0 hgl c0 hfr hDl;go_wp2;go_roundw
  case rel=>exact⟨j,x,by omega,by go_num,rfl,hx1,HN,by rw[HSE.out];exact hS6⟩
  case measure=>simp[intOf]
theorem hasCell{base R:Nat}{w:World}{c:Value}{t:TypeId}(h:Has base R (.cells #[c] t) w):w.cell? ⟨R,0,none⟩=some c:=cell_box1 h.2
theorem hasFree{base R:Nat}{w:World}{c:Value}{t:TypeId}(h:Has base R (.cells #[c] t) w):∀o,w.frozen? ⟨R,o,none⟩=false:=free_box1 h.2
theorem lt_two_bits:∀n:Nat,n<2^bitsN n:=by
  intro n
  induction n using Nat.strongRecOn with
  | ind n ih=>
    by_cases h:n=0
    . subst h;exact Nat.pow_pos (by decide)
    rw[bitsN_pos h,Nat.pow_succ];have:=ih (n/2) (by omega);omega
theorem bits32_le:∀(k n:Nat),n<2^k->bitsN n<=k
  | 0,n,h=>by
    have:n=0:=by simpa using h
    subst this;rw[bitsN_zero];exact Nat.le_refl _
  | k+1,n,h=>by
    by_cases h0:n=0
    . subst h0;rw[bitsN_zero];omega
    rw[bitsN_pos h0];have:=bits32_le k (n/2) (by rw[Nat.pow_succ]at h;omega);omega
theorem bitLen_eq{x:Nat}(h:x<=4294967295):Lib.bitLen x=bitsN x:=bitLen_bits 64 x (by omega)
theorem shift_fits{es:List Nat}{n1:Nat}(hl:es.length=n1+1)(h1:∀d∈es,d<B32)(h0:es[n1]≠0):
    ∃s:Nat,32-((Lib.bitLen es[n1]:Nat):Int)=(s:Int)/\s<=31/\val B32 es*2^s<B32^(n1+1):=by
  have ht:=h1 _ (List.getElem_mem (show n1<es.length by omega));have hb:Lib.bitLen es[n1]=bitsN es[n1]:=bitLen_eq (by rw[b32]at ht;omega);have hle:=bits32_le 32 es[n1] ht;have hge:1<=bitsN es[n1]:=by rw[bitsN_pos h0];omega
  refine⟨32-bitsN es[n1],by rw[hb];omega,by omega,?_⟩;have e:=val_top (B:=B32) hl;have hlow:=take_lt b32_2 h1 (k:=n1) (by omega);have h2:=lt_two_bits es[n1]
  have h3:val B32 es<B32^n1*2^bitsN es[n1]:=by
    have:B32^n1*(es[n1]+1)<=B32^n1*2^bitsN es[n1]:=Nat.mul_le_mul_left _ h2;rw[Nat.mul_add]at this;omega
  have h4:val B32 es*2^(32-bitsN es[n1])<B32^n1*2^bitsN es[n1]*2^(32-bitsN es[n1]):=Nat.mul_lt_mul_of_pos_right h3 (Nat.pow_pos (by decide));rw[Nat.mul_assoc, <-Nat.pow_add,show bitsN es[n1]+(32-bitsN es[n1])=32 by omega]at h4;exact h4
theorem top_start{ys:List Nat}{A S V m n k:Nat}(hA:A<B32^m)(hv:B32^(n-1)*S<=V)(hS:0<S)(hk:k+n=m+1)(hn:1<=n)(hl:ys.length=m+1)(hy:val B32 ys=A*S):val B32 (ys.drop k)<V:=by
  have h1:=val_take_drop (B:=B32) ys k (by omega);have h2:A*S<B32^m*S:=Nat.mul_lt_mul_of_pos_right hA hS;have h3:B32^k*(B32^(n-1)*S)<=B32^k*V:=Nat.mul_le_mul_left _ hv;rw[<-Nat.mul_assoc, <-Nat.pow_add,show k+(n-1)=m by omega]at h3;have h4:B32^k*val B32 (ys.drop k)<B32^k*V:=by omega
  exact Nat.lt_of_mul_lt_mul_left h4
structure LongAt(w:World)(D E G m n V AS:Nat)(vs:List Nat)(k:Nat)(wr:World):Prop where
  st:∃ys qs,Arr wr D ys/\ys.length=m+1/\(∀y∈ys,y<B32)/\Arr wr G qs/\qs.length=m-n+1/\(∀q∈qs,q<B32)/\val B32 (ys.drop k)<V/\val B32 (qs.drop k)*(B32^k*V)+val B32 ys=AS
  v:Arr wr E vs
  b4:wr.heap[w.heap.size]?=some (.cells #[.slice none 0 0] 41)
  b5:wr.heap[w.heap.size+1]?=some (.cells #[.slice none 0 0] 41)
  old:Below w.heap.size w wr
theorem LongAt.next{w wr w2:World}{D E G m n V AS:Nat}{vs ys qs us':List Nat}{j:Nat}(h:LongAt w D E G m n V AS vs (j+1) wr)(hd:D≠E/\D≠G/\E≠G)(hb:w.heap.size+1<D/\w.heap.size+1<G)(hj:j+n<=m)(hys:ys.length=m+1)(hyb:∀y∈ys,y<B32)(hqs:Arr wr G qs)(hql:qs.length=m-n+1)(hqb:∀q∈qs,q<B32)(hlt:val B32 (ys.drop (j+1))<V)(hsum:val B32 (qs.drop (j+1))*(B32^(j+1)*V)+val B32 ys=AS)(hV:V<B32^n)(hV0:0<V)
    (hu:us'.length=n+1) (hub:∀u∈us',u<B32) (hr:val B32 us'=val B32 ((ys.drop j).take (n+1))%V) (hw:Win w2 D (ys.take j) us' (ys.drop (j+n+1))) (hg:wr.grownBy w2 (some D)):
    LongAt w D E G m n V AS vs j (w2.setCell ⟨G,j,none⟩ (.int .u32 ((val B32 ((ys.drop j).take (n+1))/V:Nat):Int))):=by
  obtain⟨s1,s2,s3,s4,s5,s6⟩:=long_split b32_2 (ys:=ys) (j:=j) (n:=n) (V:=V) (by omega) hyb hlt hV;obtain⟨n1,n2⟩:=long_next (B:=B32) s1 (by omega) s3 (by omega) hr hsum;obtain⟨_,g2,g3,g4,g5⟩:=hg;have hG2:Arr w2 G qs:=arr_other hqs ⟨‹_›,g2,g3,g4,g5⟩ (fun e=>hd.2.1 e.symm);have hE2:Arr w2 E vs:=arr_other h.v ⟨‹_›,g2,g3,g4,g5⟩ (fun e=>hd.1 e.symm);have l4:=(Array.getElem?_eq_some_iff.1 h.b4).1;have l5:=(Array.getElem?_eq_some_iff.1 h.b5).1;refine⟨⟨_,_,?_,?_,?_,hG2.store j _,by simpa using hql,all_set hqb ?_,?_,n1⟩,?_,?_,?_,?_⟩
  . unfold Arr;rw[setCell_far _ hd.2.1];exact hw
  . rw[List.length_append,List.length_append,List.length_take,List.length_drop];omega
  . intro y hy
    rcases List.mem_append.1 hy with hy|hy
    . rcases List.mem_append.1 hy with hy|hy
      . exact hyb y (List.mem_of_mem_take hy)
      exact hub y hy
    exact hyb y (List.mem_of_mem_drop hy)
  . rw[Nat.div_lt_iff_lt_mul hV0];exact s5
  . rw[n2];exact Nat.mod_lt _ hV0
  . unfold Arr;rw[setCell_far _ hd.2.2];exact hE2
  . rw[setCell_far _ (by omega),g5 _ l4 (fun e=>by injection e with e;omega)];exact h.b4
  . rw[setCell_far _ (by omega),g5 _ l5 (fun e=>by injection e with e;omega)];exact h.b5
  refine Below.setCell (p:=⟨G,j,none⟩) ?_ (by show _<=G;omega) _;exact h.old.trans ((grown_below ⟨‹_›,g2,g3,g4,g5⟩ (by have:=Arr.lt hw;have h8:=h.old.size;obtain⟨ys0,_,h9,_⟩:=h.st;exact Nat.le_of_lt h9.lt)).mono (by omega))
set_option maxRecDepth 100000 in
set_option maxHeartbeats 8000000 in
theorem long_core(P Q:Option Addr)(c c':Nat)(ds es:List Nat)(w:World)(hd:DigP w P ds)(he:DigP w Q es)(h1:∀d∈ds,d<B32)(h2:∀d∈es,d<B32)(hn2:2<=es.length)(hle:es.length<=ds.length)(hl:ds.length<=100000)(ht:∀k (h:k<es.length),k+1=es.length->es[k]≠0):
    Calls Tryz.prog 152 #[.slice P ds.length c,.slice Q es.length c'] w fun e w'=> ∃x y,e=.returned (.tuple #[x,y])/\NatV w' x (val B32 ds/val B32 es)/\NatV w' y (val B32 ds%val B32 es)/\Below w.heap.size w w':=by
  obtain⟨i0,hi,hz0,hz1,hz2⟩:=info_parts infoU;obtain⟨n,hn⟩:∃n,es.length=n:=⟨_,rfl⟩;obtain⟨n1,hn1⟩:∃n1,n=n1+1:=⟨n-1,by omega⟩;obtain⟨n0,hn0⟩:∃n0,n=n0+2:=⟨n-2,by omega⟩;obtain⟨m,hm⟩:∃m,ds.length=m:=⟨_,rfl⟩;have htop:=ht n1 (by omega) (by omega);obtain⟨s,hs,hs31,hfit⟩:=shift_fits (es:=es) (n1:=n1) (by omega) h2 htop;obtain⟨g',rfl,he'⟩:=he.at (k:=n1) (by omega);have htlt:=h2 _ (List.getElem_mem (show n1<es.length by omega));have HLZ:=hid (fun(w1:World)=>Tryz.bits_LeadingZeros32 ((es[n1]'(by omega):Nat):Int) w1 (by omega) (by rw[b32]at htlt;omega));simp only[Int.toNat_natCast]at HLZ;rw[hs]at HLZ;have HSA:=hid (fun w1 (hb:Below w.heap.size w w1)=>shl_any P c s (m+1) ds w1 (hd.below hb) h1 hs31 (by omega) (by omega) (by omega) (fun h=>by omega));have HSB:=hid (fun w1 (hb:Below w.heap.size w w1)=>shl_any (some ⟨g',0,none⟩) c' s n es w1 (he.below hb) h2 hs31 (by omega) (by omega) (by omega) (fun h=>by rw[hn1];exact hfit));rw[hm]at HSA;rw[hn]at HSB;obtain⟨a,ha⟩:∃a,val B32 ds=a:=⟨_,rfl⟩;obtain⟨b,hb⟩:∃b,val B32 es=b:=⟨_,rfl⟩;have hal:a<B32^m:=by rw[<-ha, <-hm];exact val_lt b32_2 h1
  have hbl:B32^n1<=b:=by
    rw[<-hb,val_top (B:=B32) (show es.length=n1+1 by omega)];have:B32^n1*1<=B32^n1*es[n1]:=Nat.mul_le_mul_left _ (Nat.pos_of_ne_zero htop);omega
  have hbu:b*2^s<B32^n:=by rw[<-hb,hn1];exact hfit
  rw[ha]at HSA⊢;rw[hb]at HSB⊢;have hSp:0<2^s:=Nat.pow_pos (by decide);have he1:=he'.at0 n1 (by omega);have hgl:=he'.lt;obtain⟨tp,htp⟩:∃tp,es[n1]'(by omega)=tp:=⟨_,rfl⟩;rw[htp]at he1 HLZ;have hn1i:(n:Int)-1=(n1:Int):=by omega
  rw[hn,hm];have HN:=hid hn0;have HN1:=hid hn1;have hnm:n<=m:=by omega
  have hm1:m<=100000:=by omega
  have hnp:2<=n:=by omega
  have hn1n:(n1:Int)<(n:Int):=by omega
  have hn1p:0<=(n1:Int):=by omega
  obtain⟨kk,hkk⟩:∃kk,kk+n=m+1:=⟨m+1-n,by omega⟩;have hmn:(m:Int)-(n:Int)+1=(kk:Int):=by omega
  have HA:=hid (show True from trivial);clear hd he h1 h2 hn2 hle hl ht htop hs hfit he' htlt ha hb htp hn0 hn1 hn hm HA;go_enter Tryz.func152,Tryz.ntmps152;go_upto_region 1 with(fail);obtain⟨W1,hW1,hsz1,k4,k5,hWb⟩:=box2_head (.slice none 0 0) (.slice none 0 0) 41 41 w;rw[<-hW1];have he2:W1.cell? ⟨g',n1,none⟩=some (.int .u32 (tp:Int)):=(hWb.cell (p:=⟨g',n1,none⟩) hgl).trans he1;have hgl1:=Nat.lt_of_lt_of_le hgl hWb.size;clear hW1 he1;go_upto_region 2 with(go_at_call 162;refine(HLZ.out _).mono ?_;clear HLZ;rintro e w2 ⟨rfl,rfl⟩);clear he2 hgl1;go_upto_region 3 with(go_at_call 163;refine(HSA.out _ hWb).mono ?_;clear HSA;rintro e W2 ⟨D,ys,rfl,hDg,hD,hyl,hyb,hyv,hw2⟩;have hb2:=hWb.trans (hw2.mono hWb.size);have k42:=(hw2.block _ (by omega)).trans k4;have k52:=(hw2.block _ (by omega)).trans k5);clear k4 k5 hw2;have hDl:=hD.lt;go_upto_region 5 with(go_at_call 163;refine(HSB.out _ hb2).mono ?_;clear HSB;rintro e W3 ⟨E,vs,rfl,hEg,hE,hvl,hvb,hvv,hw3⟩;have hb3:=hb2.trans (hw3.mono hb2.size);have k43:=(hw3.block _ (by omega)).trans k42;have k53:=(hw3.block _ (by omega)).trans k52;have hD3:=hD.below hw3);clear k42 k52 hw3 hD hb2;have hEl:=hE.lt;have hEne:D≠E:=fun e=>by subst e;omega
  have hD54:w.heap.size+1<D:=by omega
  have hVl:B32^n1<=b*2^s:=Nat.le_trans hbl (Nat.le_mul_of_pos_right _ hSp)
  have hstart:∀ys:List Nat,ys.length=m+1->val B32 ys=a*2^s->val B32 (ys.drop kk)<b*2^s:=fun ys hl hv=>
    top_start hal (show B32^(n-1)*2^s<=b*2^s from Nat.mul_le_mul_right _ (by rw[HN1.out,Nat.add_sub_cancel];exact hbl)) hSp hkk (by omega) hl hv
  have hst:=hstart ys hyl hyv;have HFIN:=hid (fun(q r:Nat) (h:q*(b*2^s)+r=a*2^s) (hr:r<b*2^s)=>div_shifted hSp (show 0<b from Nat.lt_of_lt_of_le (Nat.pow_pos (by decide)) hbl) h hr);obtain⟨V,hV⟩:∃V,b*2^s=V:=⟨_,rfl⟩;obtain⟨AS,hAS⟩:∃AS,a*2^s=AS:=⟨_,rfl⟩;rw[hV]at hbu hvv hVl hst HFIN;rw[hAS]at hyv HFIN;have HAS:=hid hAS;have hV0:0<V:=Nat.lt_of_lt_of_le (Nat.pow_pos (by decide)) hVl
  have hv1p:∀h:n1<vs.length,0<vs[n1]:=fun _=>by
    have h3:=val_top (B:=B32) (show vs.length=n1+1 by omega);have h4:=take_lt b32_2 hvb (k:=n1) (by omega);rw[hvv]at h3;refine Nat.pos_of_ne_zero fun e=>?_
    rw[e]at h3;omega
  have HVB:=hid hvb;have HVV:=hid hvv;have HBU:=hid hbu;have HV0:=hid hV0;have HVP:=hid hv1p;have HSP:=hid hSp;clear hV hAS hal hbl hSp hstart hVl hvb hvv hbu hV0 hv1p;go_upto_region 6 with(at_make;go_loud (refine wpList_make_full _ rfl _ _ _ rfl W3.heap.size 143 i0 _ 1 Tryz.underlying39 hi hz0 hz1 _ _ _ _ kk rfl rfl (by simp) (by simp) (by rw[hz2];omega) (by unfold maxLen;omega) (Nat.le_refl _) ?_;intro w4 hown hgr;have hb34:Below W3.heap.size W3 w4:=(Below.refl _ W3).grown hgr (Nat.le_refl _) (by simp);have hG:=arr_made hown;clear hown hgr));have hs2:=hDl
  have hat0:LongAt w D E W3.heap.size m n V AS vs kk w4:=by
    have hs3:D<W3.heap.size:=hD3.lt;refine⟨⟨ys,_,hD3.below hb34,hyl,hyb,hG,by rw[List.length_replicate];omega,fun x hx=>by rw[List.eq_of_mem_replicate hx,b32];omega,hst,by rw[List.drop_of_length_le (by rw[List.length_replicate];exact Nat.le_refl _)];simp[val];exact hyv⟩,hE.below hb34,(hb34.block _ (by omega)).trans k43,(hb34.block _ (by omega)).trans k53,hb3.trans (hb34.mono hb3.size)⟩
  have hDG:D≠W3.heap.size:=fun e=>by have:=hD3.lt;omega
  have hEG:E≠W3.heap.size:=fun e=>by have:=hE.lt;omega
  have hG54:w.heap.size+1<W3.heap.size:=by omega
  clear hD3 hE hyl hyb hyv hG hst hb34 k43 k53 hs2 hDl hEl hDg hEg hb3;generalize W3.heap.size=G at hat0 hDG hEG hG54⊢;go_wp2_with fail;go_loopw [11] (fun iv wr=> ∃k:Nat,k<=kk/\iv=.int .i64 ((k:Int)-1)/\LongAt w D E G m n V AS vs k wr) (fun iv _=>(intOf iv+1).toNat)
  case atStart=>exact⟨kk,Nat.le_refl _,rfl,hat0⟩
  clear hat0;obtain⟨k,hk,rfl,hat⟩:=hrel;generalize wr=W5 at hat⊢
  by_cases hk0:k=0
  . subst hk0;obtain⟨ys,qs,hD,hyl,hyb,hGq,hql,hqb,hlt,hsum⟩:=hat.st;rw[List.drop_zero]at hlt hsum;rw[Nat.pow_zero,Nat.one_mul]at hsum;obtain⟨hq,hr⟩:=HFIN.out _ _ hsum hlt
    have htn:val B32 (ys.take n)=val B32 ys:=by
      have h3:=val_take_drop (B:=B32) ys n (by omega)
      rcases Nat.eq_zero_or_pos (val B32 (ys.drop n))with h4|h4
      . rw[h4]at h3;omega
      have h5:B32^n*1<=B32^n*val B32 (ys.drop n):=Nat.mul_le_mul_left _ h4;have h6:=HBU.out;omega
    have hqk:qs.length=kk:=by omega
    have hK:KS w [fun w'=>Arr w' G qs,fun w'=>Arr w' D ys,Has 0 w.heap.size (.cells #[.slice none 0 0] 41),Has 0 (w.heap.size+1) (.cells #[.slice none 0 0] 41)] W5:=
      ((((KS.start w).step hat.old).add fun w' hb=>Has.below ⟨Nat.zero_le _,hat.b5⟩ hb).add fun w' hb=>Has.below ⟨Nat.zero_le _,hat.b4⟩ hb).add (fun w' hb=>hD.below hb)|>.add fun w' hb=>hGq.below hb
    have HT1:=hid (fun w' (h:Arr w' G qs)=>trim_arr h hqb (by omega));rw[hq,hqk]at HT1;have HSR:=hid (fun w' (h:Arr w' D ys)=>shr_any (some ⟨D,0,none⟩) n s (ys.take n) w' (fun _=>⟨D,rfl,h.dig.take n⟩) (fun d hd=>hyb d (List.mem_of_mem_take hd)) hs31 (by rw[List.length_take];omega));rw[htn,hr,Nat.mul_div_cancel _ HSP.out,show(ys.take n).length=n by rw[List.length_take];omega]at HSR;clear hat hD hyl hyb hGq hql hqb hlt hsum hq hr htn hqk;have hnmi:(n:Int)<=(m:Int)+1:=by omega
    go_upto_region 16 with(fail);refine wp_region_float (w) _ [0,2,0,0,0,0,0,2,2,4,4] (by kernel_rfl) (by kernel_rfl) (by kernel_rfl) (by kernel_rfl) (KS.drew hK) ?_;refine zs3 ?_;apply lxE0 (α:=Option Addr × Nat) (fun q=>.agg #[.slice q.1 (digs B32 (a/b)).length q.2]) (fun q=>[fun w=>NatV w (.agg #[.slice q.1 (digs B32 (a/b)).length q.2]) (a/b)]) (wants0 rfl)
    . intro w' h0 hK;go_simp;(try go_bits);refine(HT1.out w' (hK.get (F:=fun w=>Arr w G qs) zsm)).mono ?_;rintro e w5 ⟨p5,c5,rfl,hx,hb⟩;exact⟨_,rfl,p5,c5,rfl,hb,fun w6 h6=>hx.below h6⟩
    rintro⟨p4,c4⟩
    refine zs4 ?_
    iterate 5 (refine zs3 ?_)
    apply lxE0 (α:=Nat) (fun q=>.slice (some ⟨q,0,none⟩) n n) (fun q=>[fun w=> ∃xs,Arr w q xs/\xs.length=n/\(∀x∈xs,x<B32)/\val B32 xs=a%b]) (wants0 rfl)
    . intro w' h0 hK;go_simp;(try go_bits);refine(HSR.out w' (hK.get (F:=fun w=>Arr w D ys) zsm)).mono ?_;rintro e w5 ⟨D5,xs5,rfl,hA5,hl5,hb5,hv5,hb⟩;exact⟨_,rfl,D5,rfl,hb,fun w6 h6=>⟨xs5,hA5.below h6,hl5,hb5,hv5⟩⟩
    rintro D6
    refine zs4 ?_;apply lxE0 (α:=Option Addr × Nat) (fun q=>.agg #[.slice q.1 (digs B32 (a%b)).length q.2]) (fun q=>[fun w=>NatV w (.agg #[.slice q.1 (digs B32 (a%b)).length q.2]) (a%b)]) (wants0 rfl)
    . intro w' h0 hK;go_simp;(try go_bits);obtain⟨xs6,hA6,hl6,hb6,hv6⟩:=hK.get (F:=fun w=> ∃xs,Arr w D6 xs/\xs.length=n/\(∀x∈xs,x<B32)/\val B32 xs=a%b) zsm;have ht6:=trim_arr hA6 hb6 (by omega);rw[hv6,hl6]at ht6;refine ht6.mono ?_;rintro e w5 ⟨p5,c5,rfl,hx,hb⟩;exact⟨_,rfl,p5,c5,rfl,hb,fun w6 h6=>hx.below h6⟩
    rintro⟨p6,c6⟩
    refine zs4 ?_;apply lxS0 [Has 0 w.heap.size (.cells #[.slice p4 (digs B32 (a/b)).length c4] 41),Has 0 (w.heap.size+1) (.cells #[.slice none 0 0] 41),fun w=>NatV w (.agg #[.slice p4 (digs B32 (a/b)).length c4]) (a/b),fun w=>NatV w (.agg #[.slice p6 (digs B32 (a%b)).length c6]) (a%b)] (wants0 rfl)
    . intro w' h0 hK;have h4:=hK.get (F:=Has 0 w.heap.size (.cells #[.slice none 0 0] 41)) zsm;have h5:=hK.get (F:=Has 0 (w.heap.size+1) (.cells #[.slice none 0 0] 41)) zsm;have c4':=hasCell h4;have f4':=hasFree h4;have hN4:=hK.get (F:=fun w=>NatV w (.agg #[.slice p4 (digs B32 (a/b)).length c4]) (a/b)) zsm;have hN6:=hK.get (F:=fun w=>NatV w (.agg #[.slice p6 (digs B32 (a%b)).length c6]) (a%b)) zsm;go_simp;refine⟨rfl,⟨hK.old.setCell (p:=⟨w.heap.size,0,none⟩) (Nat.le_refl _) _,fun _ h=>absurd h List.not_mem_nil⟩,hK.old.setCell (p:=⟨w.heap.size,0,none⟩) (Nat.le_refl _) _,fun F hF=>?_⟩;simp only[List.mem_cons,List.not_mem_nil,or_false]at hF;rcases hF with rfl|rfl|rfl|rfl;exact fun w' hb=>Has.below ⟨Nat.zero_le _,box_store h4.2 _⟩ hb;exact fun w' hb=>Has.below ⟨Nat.zero_le _,by rw[setCell_far _ (by omega)];exact h5.2⟩ hb;exact fun w' hb=>(hN4.store c4' _).below hb;exact fun w' hb=>(hN6.store c4' _).below hb
    simp only[Act.put];apply lxS0 [Has 0 w.heap.size (.cells #[.slice p4 (digs B32 (a/b)).length c4] 41),Has 0 (w.heap.size+1) (.cells #[.slice p6 (digs B32 (a%b)).length c6] 41),fun w=>NatV w (.agg #[.slice p4 (digs B32 (a/b)).length c4]) (a/b),fun w=>NatV w (.agg #[.slice p6 (digs B32 (a%b)).length c6]) (a%b)] (wants0 rfl)
    . intro w' h0 hK;have h4:=hK.get (F:=Has 0 w.heap.size (.cells #[.slice p4 (digs B32 (a/b)).length c4] 41)) zsm;have h5:=hK.get (F:=Has 0 (w.heap.size+1) (.cells #[.slice none 0 0] 41)) zsm;have c4':=hasCell h5;have f4':=hasFree h5;have hN4:=hK.get (F:=fun w=>NatV w (.agg #[.slice p4 (digs B32 (a/b)).length c4]) (a/b)) zsm;have hN6:=hK.get (F:=fun w=>NatV w (.agg #[.slice p6 (digs B32 (a%b)).length c6]) (a%b)) zsm;go_simp;refine⟨rfl,⟨hK.old.setCell (p:=⟨w.heap.size+1,0,none⟩) (by show _<=w.heap.size+1;omega) _,fun _ h=>absurd h List.not_mem_nil⟩,hK.old.setCell (p:=⟨w.heap.size+1,0,none⟩) (by show _<=w.heap.size+1;omega) _,fun F hF=>?_⟩;simp only[List.mem_cons,List.not_mem_nil,or_false]at hF;rcases hF with rfl|rfl|rfl|rfl;exact fun w' hb=>Has.below ⟨Nat.zero_le _,by rw[setCell_far _ (by omega)];exact h4.2⟩ hb;exact fun w' hb=>Has.below ⟨Nat.zero_le _,box_store h5.2 _⟩ hb;exact fun w' hb=>(hN4.store c4' _).below hb;exact fun w' hb=>(hN6.store c4' _).below hb
    simp only[Act.put];refine lxEnd (fun W9 hK9=>?_);have c2:=(hK9.get (F:=Has 0 w.heap.size (.cells #[.slice p4 (digs B32 (a/b)).length c4] 41)) zsm);replace c2:=hasCell c2;have c3:=(hK9.get (F:=Has 0 (w.heap.size+1) (.cells #[.slice p6 (digs B32 (a%b)).length c6] 41)) zsm);replace c3:=hasCell c3;have hx:=hK9.get (F:=fun w=>NatV w (.agg #[.slice p4 (digs B32 (a/b)).length c4]) (a/b)) zsm;have hy:=hK9.get (F:=fun w=>NatV w (.agg #[.slice p6 (digs B32 (a%b)).length c6]) (a%b)) zsm;go_wp2;exact bodyPost_ret (v:=.tuple #[.agg #[.slice p4 (digs B32 (a/b)).length c4],.agg #[.slice p6 (digs B32 (a%b)).length c6]]) (by simp[results,Tryz.results152,go_sem,c2,c3]) rfl ⟨_,_,rfl,hx,hy,hK9.old⟩
  obtain⟨j,rfl⟩:∃j,k=j+1:=⟨k-1,by omega⟩;have ei:(((j+1:Nat):Int)-1)=(j:Int):=by omega
  rw[ei];clear ei;obtain⟨ys,qs,hD,hyl,hyb,hGq,hql,hqb,hlt,hsum⟩:=hat.st;have hjn:j+n<=m:=by omega
  obtain⟨s1,s2,s3,s4,s5,s6⟩:=long_split b32_2 (ys:=ys) (j:=j) (n:=n) (V:=V) (by omega) hyb hlt HBU.out;have hE:=hat.v;have HNEXT:=hid (fun(w2:World) (us':List Nat) hu hub hr hw hg=>hat.next (w2:=w2) (us':=us') ⟨hEne,hDG,hEG⟩ ⟨hD54,hG54⟩ hjn hyl hyb hGq hql hqb hlt hsum HBU.out HV0.out hu hub hr hw hg);have hwin:Win W5 D (ys.take j) ((ys.drop j).take (n+1)) (ys.drop (j+n+1)):=by unfold Win;rw[<-s1];exact hD
  have htk:(ys.take j).length=j:=by rw[List.length_take];omega
  obtain⟨us,hus⟩:∃us,(ys.drop j).take (n+1)=us:=⟨_,rfl⟩;rw[hus]at s2 s4 s5 s6 hwin HNEXT;have hn0e:=HN.out;have hn1e:=HN1.out;have hG1:=guess_pack (k:=n0) b32_2 (vs:=vs) (us:=us) (by omega) (by omega) HVB.out s6 (by rw[HVV.out];exact s5) (by have:=HVP.out (by omega);simpa[show n1=n0+1 by omega]using this);rw[HVV.out]at hG1;obtain⟨U,hU⟩:∃U,val B32 us=U:=⟨_,rfl⟩;rw[hU]at hG1 HNEXT;have HUU:=hid hU;clear hU;have c2:=hwin.cell (i:=n0+2) (by omega);have c1:=hwin.cell (i:=n0+1) (by omega);have c0:=hwin.cell (i:=n0) (by omega);rw[htk]at c2 c1 c0;have d1:=hE.cell (n0+1) (by omega);have d0:=hE.cell n0 (by omega);have q1:=HVB.out _ (List.getElem_mem (show n0+1<vs.length by omega));have q0:=HVB.out _ (List.getElem_mem (show n0<vs.length by omega));have p2:=s6 _ (List.getElem_mem (show n0+2<us.length by omega));have p1:=s6 _ (List.getElem_mem (show n0+1<us.length by omega));have p0:=s6 _ (List.getElem_mem (show n0<us.length by omega));have hvp:vs[n0+1]'(by omega)≠0:=by have:=HVP.out (by omega);simp only[show n1=n0+1 by omega]at this;omega
  obtain⟨v1,hv1⟩:∃v1,vs[n0+1]'(by omega)=v1:=⟨_,rfl⟩;obtain⟨v2,hv2⟩:∃v2,vs[n0]'(by omega)=v2:=⟨_,rfl⟩;obtain⟨a2,ha2⟩:∃a2,us[n0+2]'(by omega)=a2:=⟨_,rfl⟩;obtain⟨a1,ha1⟩:∃a1,us[n0+1]'(by omega)=a1:=⟨_,rfl⟩;obtain⟨a0,ha0⟩:∃a0,us[n0]'(by omega)=a0:=⟨_,rfl⟩;rw[hv1]at d1 q1 hvp hG1;rw[hv2]at d0 q0 hG1;rw[ha2]at c2 p2 hG1;rw[ha1]at c1 p1 hG1;rw[ha0]at c0 p0 hG1;rw[b32]at q1 q0 p2 p1 p0 hG1;have e2:=div_or a2 a1 (by omega) (by omega);obtain⟨t,htt⟩:∃t,a2*4294967296+a1=t:=⟨_,rfl⟩;rw[htt]at e2 hG1;have htb:t<=18446744073709551615:=by omega
  obtain⟨i2,hi2⟩:∃i2,j+(n0+2)=i2:=⟨_,rfl⟩;obtain⟨i1,hi1⟩:∃i1,j+(n0+1)=i1:=⟨_,rfl⟩;obtain⟨i00,hi00⟩:∃i00,j+n0=i00:=⟨_,rfl⟩;obtain⟨m1,hm1'⟩:∃m1,n0+1=m1:=⟨_,rfl⟩;rw[hi2]at c2;rw[hi1]at c1;rw[hi00]at c0;rw[hm1']at d1;have x2:(j:Int)+(n:Int)=(i2:Int):=by omega
  have x1:(i2:Int)-1=(i1:Int):=by omega
  have x0:(i2:Int)-2=(i00:Int):=by omega
  have y1:(n:Int)-1=(m1:Int):=by omega
  have y0:(n:Int)-2=(n0:Int):=by omega
  have z2:(i2:Int)<(m:Int)+1:=by omega
  have z1:(i1:Int)<(m:Int)+1:=by omega
  have z0:(i00:Int)<(m:Int)+1:=by omega
  have w1':(m1:Int)<(n:Int):=by omega
  have w0':(n0:Int)<(n:Int):=by omega
  obtain⟨UV,hUV⟩:∃q,U/V=q:=⟨_,rfl⟩;have HFIRST:=hid hG1.first
  have HDEC:=hid hG1.dec;have HFINQ:=hid hG1.fin;have HTOP1:=hid hG1.top1;rw[hUV]at HFIRST HDEC HFINQ HNEXT;have HUV:=hid hUV;clear hUV;have hDl:=hwin.lt;have hEl:=hE.lt;have HWIN:=hid hwin;have HE:=hid hE;have HS6:=hid s6;have HS2:=hid s2;have HJ:=hid (show j<qs.length by omega);have HGQ:=hid hGq;have HOLD:=hid hat.old;have hsl:i2+1-j=n+1:=by omega
  have HTK:=hid htk;clear hat hD hyl hyb hGq hql hqb hlt hsum s1 s3 s4 s5 s6 s2 hwin hus hG1 hv1 hv2 ha2 ha1 ha0 htt hi2 hi1 hi00 hm1' hn0e hn1e hE htk hn1i hn1n hn1p;go_upto_region 9 with(fail);refine wp_region_staged (fun w'=>Below W5.heap.size W5 w') [0,0,0,0,0,1,0,0,0,0,0,0,0,0,1,0,0,0] (by kernel_rfl) (by kernel_rfl) (by kernel_rfl) (by exact(Below.refl _ _).drew) ?_
  iterate 5 (refine zs0 ?_)
  refine zs2 ?_
  iterate 8 (refine zs0 ?_)
  refine zs2 ?_
  iterate 3 (refine zs0 ?_)
  refine lexEnd (fun W6 hw6=>?_);clear e2;go_upto_region 10 with(fail);have hvi:¬v1=0:=hvp
  have hq1:(t:Int)/(v1:Int)<=18446744073709551615:=by
    have e:(t:Int)/(v1:Int)=((t/v1:Nat):Int):=rfl;have:=Nat.div_le_self t v1;rw[e];omega
  have hq2:0<=(t:Int)/(v1:Int):=Int.natCast_nonneg (t/v1)
  have hr1:(t:Int)%(v1:Int)<=4294967295:=by
    have e:(t:Int)%(v1:Int)=((t%v1:Nat):Int):=rfl;have:=Nat.mod_lt t (Nat.pos_of_ne_zero hvp);rw[e];omega
  have hr2:0<=(t:Int)%(v1:Int):=Int.natCast_nonneg (t%v1);have HI0:=hid (show t/v1*v1+t%v1=t/\UV<=t/v1 from⟨by rw[Nat.mul_comm];exact Nat.div_add_mod t v1,HFIRST.out⟩);have HR0:=hid (show t%v1<4294967296 by have:=Nat.mod_lt t (Nat.pos_of_ne_zero hvp);omega);have HGG0:=hid (show t/v1<=18446744073709551615 by have:=Nat.div_le_self t v1;omega);refine wp_region_staged (fun w'=>Below W5.heap.size W5 w') [0,0,0,0,0,1,0,0,0,0,0,0,0,1,0,0,0,0] (by kernel_rfl) (by kernel_rfl) (by kernel_rfl) (by exact hw6.drew) ?_
  iterate 5 (refine zs0 ?_)
  refine zs2 ?_
  iterate 7 (refine zs0 ?_)
  refine zs2 ?_
  iterate 4 (refine zs0 ?_)
  refine lexEnd (fun W7 hw7=>?_);clear hq1 hq2 hr1 hr2 c2 c1 hw6;go_wp2_with fail;go_loopw [13,14] (fun gv rv wr=> ∃g r:Nat,gv=.int .u64 (g:Int)/\rv=.int .u64 (r:Int)/\Hid (g*v1+r=t/\UV<=g)/\r<4294967296/\g<=18446744073709551615/\Below W5.heap.size W5 wr) (fun gv _ _=>(intOf gv).toNat)
  case atStart=>exact⟨t/v1,t%v1,rfl,rfl,HI0,HR0.out,HGG0.out,hw7⟩
  clear hw7 HI0 HR0 HGG0;obtain⟨g,r,rfl,rfl,HI,hr,hg,hbw⟩:=hrel;generalize wr=W8 at hbw⊢;go_upto_region 11 with(fail);refine wp_region_staged (fun w'=>Below W5.heap.size W5 w') [0,0,0,0,0,0,0,0,1,0,0,0,0,0,0,0,0,0,0,1,0,0,0,0] (by kernel_rfl) (by kernel_rfl) (by kernel_rfl) (by exact hbw.drew) ?_
  by_cases hgB:4294967296<=g
  . have hgi:(4294967296:Int)<=(g:Int):=by omega
    iterate 3 (refine zs0 ?_)
    iterate 5 (refine zs1 ?_)
    refine zs6 ?_
    iterate 10 (refine zs1 ?_)
    refine zs6 ?_
    iterate 3 (refine zs1 ?_)
    refine zs0 ?_;refine lexEnd (fun W9 hwB=>?_);have hgt:=HDEC.out g r HI.out.1 HI.out.2 (.inl hgB);obtain⟨g1,rfl⟩:∃g1,g=g1+1:=⟨g-1,by omega⟩;have HI2:=hid (show g1*v1+(r+v1)=t/\UV<=g1 from⟨by have:=HI.out.1;rw[Nat.add_mul]at this;omega,by omega⟩);have hg1:g1<=18446744073709551615:=by omega
    have eg:((g1+1:Nat):Int)-1=(g1:Int):=by omega
    have dB:=(hwB.cell (p:=⟨E,m1,none⟩) hEl).trans d1;have hlb:=Nat.lt_of_lt_of_le hEl hwB.size;clear hgt;go_upto_region 14 with(fail);clear eg hlb dB;obtain⟨rr,hrr⟩:∃rr,r+v1=rr:=⟨_,rfl⟩
    by_cases hbr:4294967296<=rr
    . have hbi:(4294967296:Int)<=(r:Int)+(v1:Int):=by omega
      have HQ:=hid (show UV<=g1/\g1<=UV+1/\g1<4294967296 from by
        have h3:=HI2.out;rw[hrr]at h3;have h5:=guess_break h3.1 HTOP1.out (by omega);exact⟨h3.2,HFINQ.out g1 rr h3.1 h5 (test_break h5 (by omega) (by omega)),h5⟩)
      have hww:=hwB;clear hbr hrr;go_upto_region 15 with(fail);have HRED:=hid (reduce_any D E n (ys.take j) us (ys.drop (j+n+1)) vs g1 W9 (Arr.below HWIN.out hww) (HE.out.below hww) hEne.symm (by rw[HS2.out,hvl]) HS6.out HVB.out (by rw[HVV.out];exact HV0.out) (by have:=HQ.out.2.2;omega) (by rw[HVV.out,HUU.out,HUV.out];exact HQ.out.1) (by rw[HVV.out,HUU.out,HUV.out];exact HQ.out.2.1) (by rw[HTK.out];omega) (by omega));rw[HTK.out,hvl,HVV.out,HUU.out,HUV.out]at HRED;have hsw:j<=i2+1:=by omega
      have hG8:=HGQ.out.below hww;have hgB:(g1:Int)<=4294967295:=by have:=HQ.out.2.2;omega
      go_wp2_with (go_at_call 164;refine HRED.out.mono ?_;clear HRED;rintro e W10 ⟨rfl,⟨us',hu1,hu2,hu3,hw10⟩,hg10⟩;have hG10:=arr_other hG8 hg10 hDG.symm;have cG:=hG10.cell j HJ.out;have fG:=hG10.free;have lG:=hG10.lt);go_roundw
      case rel=>exact⟨j,by omega,by go_num,HNEXT.out W10 us' (by rw[hu1];exact HS2.out) hu2 hu3 hw10 (grown_trans (below_grown hww) hg10)⟩
      case measure=>simp[intOf]
    have hbi:¬(4294967296:Int)<=(r:Int)+(v1:Int):=by omega
    rw[hrr]at HI2;have HRR:=hid hrr;clear hrr;go_wp2;go_roundw
    case rel=>exact⟨g1,rr,rfl,by rw[<-HRR.out];rfl,HI2,by omega,hg1,hwB⟩
    case measure=>simp[intOf]
  have hgi:¬(4294967296:Int)<=(g:Int):=by omega
  have e3:=div_or r a0 (by omega) (by omega);obtain⟨ra,hra⟩:∃ra,r*4294967296+a0=ra:=⟨_,rfl⟩;rw[hra]at e3;have hm0:0<=(g:Int)*(v2:Int):=Int.mul_nonneg (by omega) (by omega);have hmn':g*v2<=4294967295*4294967295:=Nat.mul_le_mul (by omega) (by omega);obtain⟨gv,hgv,hgv2⟩:∃gv:Nat,g*v2=gv/\(g:Int)*(v2:Int)=(gv:Int):=⟨_,rfl,by simp only[Int.natCast_mul]⟩;rw[hgv]at hmn';have hgvb:(gv:Int)<=18446744065119617025:=by omega
  by_cases hc:ra<gv
  . have HCD:=hid (show r*4294967296+a0<g*v2 by omega);have hci:(ra:Int)<(gv:Int):=by omega
    clear hra hgv hm0 hmn' hc
    iterate 3 (refine zs0 ?_)
    iterate 5 (refine zs1 ?_)
    refine zs6 ?_
    iterate 10 (refine zs1 ?_)
    refine zs6 ?_
    iterate 3 (refine zs1 ?_)
    refine zs0 ?_;refine lexEnd (fun W9 hwB=>?_);clear e3 hgv2;have hgt:=HDEC.out g r HI.out.1 HI.out.2 (.inr HCD.out);obtain⟨g1,rfl⟩:∃g1,g=g1+1:=⟨g-1,by omega⟩;have HI2:=hid (show g1*v1+(r+v1)=t/\UV<=g1 from⟨by have:=HI.out.1;rw[Nat.add_mul]at this;omega,by omega⟩);have hg1:g1<=18446744073709551615:=by omega
    have eg:((g1+1:Nat):Int)-1=(g1:Int):=by omega
    have dB:=(hwB.cell (p:=⟨E,m1,none⟩) hEl).trans d1;have hlb:=Nat.lt_of_lt_of_le hEl hwB.size;clear hgt;go_upto_region 14 with(fail);clear eg hlb dB;obtain⟨rr,hrr⟩:∃rr,r+v1=rr:=⟨_,rfl⟩
    by_cases hbr:4294967296<=rr
    . have hbi:(4294967296:Int)<=(r:Int)+(v1:Int):=by omega
      have HQ:=hid (show UV<=g1/\g1<=UV+1/\g1<4294967296 from by
        have h3:=HI2.out;rw[hrr]at h3;have h5:=guess_break h3.1 HTOP1.out (by omega);exact⟨h3.2,HFINQ.out g1 rr h3.1 h5 (test_break h5 (by omega) (by omega)),h5⟩)
      have hww:=hwB;clear hbr hrr;go_upto_region 15 with(fail);have HRED:=hid (reduce_any D E n (ys.take j) us (ys.drop (j+n+1)) vs g1 W9 (Arr.below HWIN.out hww) (HE.out.below hww) hEne.symm (by rw[HS2.out,hvl]) HS6.out HVB.out (by rw[HVV.out];exact HV0.out) (by have:=HQ.out.2.2;omega) (by rw[HVV.out,HUU.out,HUV.out];exact HQ.out.1) (by rw[HVV.out,HUU.out,HUV.out];exact HQ.out.2.1) (by rw[HTK.out];omega) (by omega));rw[HTK.out,hvl,HVV.out,HUU.out,HUV.out]at HRED;have hsw:j<=i2+1:=by omega
      have hG8:=HGQ.out.below hww;have hgB:(g1:Int)<=4294967295:=by have:=HQ.out.2.2;omega
      go_wp2_with (go_at_call 164;refine HRED.out.mono ?_;clear HRED;rintro e W10 ⟨rfl,⟨us',hu1,hu2,hu3,hw10⟩,hg10⟩;have hG10:=arr_other hG8 hg10 hDG.symm;have cG:=hG10.cell j HJ.out;have fG:=hG10.free;have lG:=hG10.lt);go_roundw
      case rel=>exact⟨j,by omega,by go_num,HNEXT.out W10 us' (by rw[hu1];exact HS2.out) hu2 hu3 hw10 (grown_trans (below_grown hww) hg10)⟩
      case measure=>simp[intOf]
    have hbi:¬(4294967296:Int)<=(r:Int)+(v1:Int):=by omega
    rw[hrr]at HI2;have HRR:=hid hrr;clear hrr;go_wp2;go_roundw
    case rel=>exact⟨g1,rr,rfl,by rw[<-HRR.out];rfl,HI2,by omega,hg1,hwB⟩
    case measure=>simp[intOf]
  have HQ:=hid (show UV<=g/\g<=UV+1/\g<4294967296 from⟨HI.out.2,HFINQ.out g r HI.out.1 (by omega) (by omega),by omega⟩);have hci:¬(ra:Int)<(gv:Int):=by omega
  clear hra hgv hm0 hmn' hc
  iterate 3 (refine zs0 ?_)
  iterate 5 (refine zs1 ?_)
  refine zs6 ?_
  iterate 10 (refine zs1 ?_)
  refine zs6 ?_
  iterate 3 (refine zs1 ?_)
  refine zs0 ?_;refine lexEnd (fun W9 hww=>?_);clear e3 hgv2;go_upto_region 15 with(fail);have HRED:=hid (reduce_any D E n (ys.take j) us (ys.drop (j+n+1)) vs g W9 (Arr.below HWIN.out hww) (HE.out.below hww) hEne.symm (by rw[HS2.out,hvl]) HS6.out HVB.out (by rw[HVV.out];exact HV0.out) (by have:=HQ.out.2.2;omega) (by rw[HVV.out,HUU.out,HUV.out];exact HQ.out.1) (by rw[HVV.out,HUU.out,HUV.out];exact HQ.out.2.1) (by rw[HTK.out];omega) (by omega));rw[HTK.out,hvl,HVV.out,HUU.out,HUV.out]at HRED;have hsw:j<=i2+1:=by omega
  have hG8:=HGQ.out.below hww;have hgB:(g:Int)<=4294967295:=by have:=HQ.out.2.2;omega
  go_wp2_with (go_at_call 164;refine HRED.out.mono ?_;clear HRED;rintro e W10 ⟨rfl,⟨us',hu1,hu2,hu3,hw10⟩,hg10⟩;have hG10:=arr_other hG8 hg10 hDG.symm;have cG:=hG10.cell j HJ.out;have fG:=hG10.free;have lG:=hG10.lt);go_roundw
  case rel=>exact⟨j,by omega,by go_num,HNEXT.out W10 us' (by rw[hu1];exact HS2.out) hu2 hu3 hw10 (grown_trans (below_grown hww) hg10)⟩
  case measure=>simp[intOf]
theorem has_set{base R:Nat}{w w':World}{c:Value}{t:TypeId}(h:Has base R (.cells #[c] t) w)(u:Value)(hb:Below (w.setCell ⟨R,0,none⟩ u).heap.size (w.setCell ⟨R,0,none⟩ u) w'):Has 0 R (.cells #[u] t) w':=
  Has.below ⟨Nat.zero_le _,box_store h.2 u⟩ hb
theorem has_far{base R R':Nat}{w w':World}{o:Obj}(h:Has base R o w)(hne:R≠R')(u:Value)(hb:Below (w.setCell ⟨R',0,none⟩ u).heap.size (w.setCell ⟨R',0,none⟩ u) w'):Has 0 R o w':=
  Has.below ⟨Nat.zero_le _,by rw[setCell_far _ hne];exact h.2⟩ hb
theorem nat_set{base R:Nat}{w w':World}{v:Value}{n:Nat}{p:Option Addr}{l c:Nat}{t:TypeId}(h:NatV w v n)(hR:Has base R (.cells #[.slice p l c] t) w)(u:Value)(hb:Below (w.setCell ⟨R,0,none⟩ u).heap.size (w.setCell ⟨R,0,none⟩ u) w'):NatV w' v n:=
  (h.store (hasCell hR) u).below hb
theorem ks_set{V w:World}{R:Nat}{fs fs':List (World->Prop)}(hK:KS V fs w)(hR:V.heap.size<=R)(u:Value)(h:∀F∈fs',∀w',Below (w.setCell ⟨R,0,none⟩ u).heap.size (w.setCell ⟨R,0,none⟩ u) w'->F w'):KS V fs' (w.setCell ⟨R,0,none⟩ u):=
  ⟨hK.old.setCell (p:=⟨R,0,none⟩) hR _,h⟩
theorem all0{P:(World->Prop)->Prop}:∀F∈([]:List (World->Prop)),P F:=fun _ h=>absurd h List.not_mem_nil
theorem all1{P:(World->Prop)->Prop}{F:World->Prop}{l:List (World->Prop)}(h:P F)(h':∀F∈l,P F):∀G∈F::l,P G:=fun G hG=>by
  rcases List.mem_cons.1 hG with rfl|hG
  . exact h
  exact h' G hG
theorem digs_small{m:Nat}(hm:m≠0)(h:m<B32):digs B32 m=[m]:=digs_one hm h
set_option maxRecDepth 100000 in
set_option maxHeartbeats 4000000 in
theorem divmod_small(v u:Value)(n m:Nat)(w:World)(hv:NatV w v n)(hu:NatV w u m)(hm:m≠0)(hm1:m<4294967296)(hn:18446744073709551616<=n)(hl:(digs B32 n).length<=100000):
    Calls Tryz.prog 137 #[v,u] w fun e w'=> ∃x y,e=.returned (.tuple #[x,y,.int .i64 0])/\NatV w' x (n/m)/\NatV w' y (n%m)/\Below w.heap.size w w':=by
  have hln:(digs B32 n).length<=100000:=hl;have hdm:=digs_small hm (by rw[b32];exact hm1);have hlm:(digs B32 m).length=1:=by rw[hdm];rfl
  have HZ:=hid (fun w1 (hb:Below w.heap.size w w1)=>isZero_any u m w1 (hu.below hb));have HC:=hid (fun w1 (hb:Below w.heap.size w w1)=>cmp_any v u n m w1 (hv.below hb) (hu.below hb) (by omega) (by omega));have HU:=hid (fun w1 (hb:Below w.heap.size w w1)=>uint64_any v n w1 (hv.below hb));have HU':=hid (fun w1 (hb:Below w.heap.size w w1)=>uint64_any u m w1 (hu.below hb));rw[show(m==0)=false by simpa using hm]at HZ;rw[show u64V n=.tuple #[.int .u64 0,.bool false] by unfold u64V;rw[if_neg (by omega),decide_eq_false (by omega)]]at HU;rw[show u64V m=.tuple #[.int .u64 (m:Int),.bool true] by unfold u64V;rw[if_pos (by omega),decide_eq_true (by omega)]]at HU';have hcn:¬cmpN n m<0:=by unfold cmpN;rw[if_neg (by omega)];split<;>omega
  have HDS:=hid (fun w1 (hb:Below w.heap.size w w1)=>divs_any v n m w1 (hv.below hb) (by omega) (Nat.pos_of_ne_zero hm) (by omega));have HO2:=hid (fun w1=>of_any (n%m) w1 (by have:=Nat.mod_lt n (Nat.pos_of_ne_zero hm);omega));have hrm:n%m<=4294967295:=by have:=Nat.mod_lt n (Nat.pos_of_ne_zero hm);omega
  obtain⟨P,c,rfl,_⟩:=hv.digp;obtain⟨Q,c',rfl,hq⟩:=hu.digp;obtain⟨g,rfl,hg⟩:=hq.at (k:=0) (by omega);have hd0:=hg.at0 0 (by omega);have e0:(digs B32 m)[0]'(by omega)=m:=by simp only[hdm,List.getElem_cons_zero]
  rw[e0]at hd0;have hgl:=hg.lt;rw[hlm]at HZ HC HU'⊢;obtain⟨cm,hcm⟩:∃cm,cmpN n m=cm:=⟨_,rfl⟩;rw[hcm]at hcn HC;obtain⟨ln,hlne⟩:∃ln,(digs B32 n).length=ln:=⟨_,rfl⟩;rw[hlne]at HC HU HDS⊢;obtain⟨q,hqe⟩:∃q,n/m=q:=⟨_,rfl⟩;obtain⟨r,hre⟩:∃r,n%m=r:=⟨_,rfl⟩;rw[hqe]at HDS⊢;rw[hre]at HDS HO2 hrm⊢;clear hq hg hv hu hln hlm hdm hcm hlne hqe hre hl hn hm e0;go_enter Tryz.func137,Tryz.ntmps137;go_upto_region 1 with(fail);obtain⟨W0,hW0,hB0⟩:=box4_head (.slice P ln c) (.slice (some ⟨g,0,none⟩) 1 c') w;rw[<-hW0];clear hW0;have a1:=cell_box1 hB0.k1;go_upto_region 3 with(go_at_call 46;refine(HZ.out _ hB0.old).mono ?_;clear HZ;rintro e W1 ⟨rfl,hw1⟩;have hB1:=hB0.below hw1);clear hB0 hw1 a1;have a0:=cell_box1 hB1.k0;have a1:=cell_box1 hB1.k1;go_upto_region 5 with(go_at_call 103;refine(HC.out _ hB1.old).mono ?_;clear HC;rintro e W2 ⟨rfl,hw2⟩;have hB2:=hB1.below hw2);clear hB1 hw2 a0 a1;have a0:=cell_box1 hB2.k0;go_upto_region 6 with(go_at_call 151;refine(HU.out _ hB2.old).mono ?_;clear HU;rintro e W3 ⟨rfl,hw3⟩;have hB3:=hB2.below hw3);clear hB2 hw3 a0;have a1:=cell_box1 hB3.k1;go_upto_region 9 with(go_at_call 151;refine(HU'.out _ hB3.old).mono ?_;clear HU';rintro e W4 ⟨rfl,hw4⟩;have hB4:=hB3.below hw4);clear hB3 hw4 a1;have a0:=cell_box1 hB4.k0;have a1:=cell_box1 hB4.k1;have d4:=(hB4.old.cell (p:=⟨g,0,none⟩) hgl).trans hd0;have hgl4:=Nat.lt_of_lt_of_le hgl hB4.old.size;have sz4:=hB4.sz;have b0:w.heap.size<W4.heap.size:=by omega
  have b1:w.heap.size+1<W4.heap.size:=by omega
  go_upto_region 10 with(fail);refine wp_region_float (W4) [] [0,0,0,0,0,2,0,0,0,3,4,0] (by kernel_rfl) (by kernel_rfl) (by kernel_rfl) (by kernel_rfl) (KS.drew (KS.start W4)) ?_
  iterate 5 (refine zs5 ?_)
  apply lxE0 (α:=Option Addr × Nat) (fun x=>.tuple #[.agg #[.slice x.1 (digs B32 q).length x.2],.int .u32 (r:Int)]) (fun x=>[fun w=>NatV w (.agg #[.slice x.1 (digs B32 q).length x.2]) q]) (wants0 rfl)
  . intro w' h0 hK;go_simp;(try go_bits);refine(HDS.out w' (hB4.old.trans (hK.old.mono hB4.old.size))).mono ?_;rintro e w5 ⟨x,rfl,hx,hb⟩;obtain⟨p5,c5,rfl,_⟩:=hx.dig;exact⟨_,rfl,p5,c5,rfl,hb,fun w6 h6=>hx.below h6⟩
  rintro⟨p5,c5⟩
  refine zs4 ?_
  iterate 3 (refine zs5 ?_)
  apply lxA0 (.cells #[.slice none 0 0] 41) (wants0 rfl)
  . intro w' h0;go_simp;rfl
  intro R11;simp only[mkOf,Act.put,List.setIfInBounds_toArray,List.set_cons_zero,List.set_cons_succ];apply lxS0 [Has 0 R11 (.cells #[.slice p5 (digs B32 q).length c5] 41),fun w=>NatV w (.agg #[.slice p5 (digs B32 q).length c5]) q] (wants0 rfl)
  . intro w' h0 hK;have hR:=hK.get (F:=Has W4.heap.size R11 (.cells #[.slice none 0 0] 41)) zsm;have hN:=hK.get (F:=fun w=>NatV w (.agg #[.slice p5 (digs B32 q).length c5]) q) zsm;have c1:=hasCell hR;have f1:=hasFree hR;go_simp;exact⟨rfl,ks_set h0 hR.1 _ all0,ks_set hK hR.1 _ (all1 (fun w2 hb=>has_set hR _ hb) (all1 (fun w2 hb=>nat_set hN hR _ hb) all0))⟩
  simp only[Act.put];refine zs5 ?_;refine lxEnd (fun W5 hK5=>?_);have hB5:=hB4.below hK5.old
  have hK:KS w [Has 0 R11 (.cells #[.slice p5 (digs B32 q).length c5] 41),fun w=>NatV w (.agg #[.slice p5 (digs B32 q).length c5]) q,Has 0 (w.heap.size+1+1) (.cells #[.slice none 0 0] 41),Has 0 (w.heap.size+1+1+1) (.cells #[.slice none 0 0] 41)] W5:=
    ⟨hB5.old,all1 (hK5.all _ zsm) (all1 (hK5.all _ zsm) (all1 (fun w2 hb=>Has.below ⟨Nat.zero_le _,hB5.k2⟩ hb) (all1 (fun w2 hb=>Has.below ⟨Nat.zero_le _,hB5.k3⟩ hb) all0)))⟩
  go_upto_region 11 with(fail);refine wp_region_float (w) _ [1,0,0,2,4,4,0] (by kernel_rfl) (by kernel_rfl) (by kernel_rfl) (by kernel_rfl) (KS.drew hK) ?_;apply lxR0 (wants0 rfl);(· intro w' h0 hK;have hw':=hK.old;have c11:=hasCell (hK.get (F:=Has 0 R11 (.cells #[.slice p5 (digs B32 q).length c5] 41)) zsm);go_simp;(try go_bits);exact⟨rfl,rfl⟩);simp only[Act.put,List.setIfInBounds_toArray,List.set_cons_zero,List.set_cons_succ]
  iterate 2 (refine zs3 ?_)
  apply lxE0 (α:=Option Addr × Nat) (fun x=>.agg #[.slice x.1 (digs B32 r).length x.2]) (fun x=>[fun w=>NatV w (.agg #[.slice x.1 (digs B32 r).length x.2]) r]) (wants0 rfl)
  . intro w' h0 hK;go_simp;(try go_bits);refine(HO2.out w').mono ?_;rintro e w5 ⟨x,rfl,hx,hb⟩;obtain⟨p6,c6,rfl,_⟩:=hx.dig;exact⟨_,rfl,p6,c6,rfl,hb,fun w6 h6=>hx.below h6⟩
  rintro⟨p6,c6⟩
  refine zs4 ?_;apply lxS0 [Has 0 (w.heap.size+1+1) (.cells #[.slice p5 (digs B32 q).length c5] 41),Has 0 (w.heap.size+1+1+1) (.cells #[.slice none 0 0] 41),fun w=>NatV w (.agg #[.slice p5 (digs B32 q).length c5]) q,fun w=>NatV w (.agg #[.slice p6 (digs B32 r).length c6]) r] (wants0 rfl)
  . intro w' h0 hK;have hR:=hK.get (F:=Has 0 (w.heap.size+1+1) (.cells #[.slice none 0 0] 41)) zsm;have hR':=hK.get (F:=Has 0 (w.heap.size+1+1+1) (.cells #[.slice none 0 0] 41)) zsm;have hN:=hK.get (F:=fun w=>NatV w (.agg #[.slice p5 (digs B32 q).length c5]) q) zsm;have hN':=hK.get (F:=fun w=>NatV w (.agg #[.slice p6 (digs B32 r).length c6]) r) zsm;have c1:=hasCell hR;have f1:=hasFree hR;go_simp;exact⟨rfl,ks_set h0 (by omega) _ all0,ks_set hK (by omega) _ (all1 (fun w2 hb=>has_set hR _ hb) (all1 (fun w2 hb=>has_far hR' (by omega) _ hb) (all1 (fun w2 hb=>nat_set hN hR _ hb) (all1 (fun w2 hb=>nat_set hN' hR _ hb) all0))))⟩
  simp only[Act.put];apply lxS0 [Has 0 (w.heap.size+1+1) (.cells #[.slice p5 (digs B32 q).length c5] 41),Has 0 (w.heap.size+1+1+1) (.cells #[.slice p6 (digs B32 r).length c6] 41),fun w=>NatV w (.agg #[.slice p5 (digs B32 q).length c5]) q,fun w=>NatV w (.agg #[.slice p6 (digs B32 r).length c6]) r] (wants0 rfl)
  . intro w' h0 hK;have hR:=hK.get (F:=Has 0 (w.heap.size+1+1+1) (.cells #[.slice none 0 0] 41)) zsm;have hR':=hK.get (F:=Has 0 (w.heap.size+1+1) (.cells #[.slice p5 (digs B32 q).length c5] 41)) zsm;have hN:=hK.get (F:=fun w=>NatV w (.agg #[.slice p5 (digs B32 q).length c5]) q) zsm;have hN':=hK.get (F:=fun w=>NatV w (.agg #[.slice p6 (digs B32 r).length c6]) r) zsm;have c1:=hasCell hR;have f1:=hasFree hR;go_simp;exact⟨rfl,ks_set h0 (by omega) _ all0,ks_set hK (by omega) _ (all1 (fun w2 hb=>has_far hR' (by omega) _ hb) (all1 (fun w2 hb=>has_set hR _ hb) (all1 (fun w2 hb=>nat_set hN hR _ hb) (all1 (fun w2 hb=>nat_set hN' hR _ hb) all0))))⟩
  simp only[Act.put];refine zs3 ?_;refine lxEnd (fun W9 hK9=>?_);have k2:=hasCell (hK9.get (F:=Has 0 (w.heap.size+1+1) (.cells #[.slice p5 (digs B32 q).length c5] 41)) zsm);have k3:=hasCell (hK9.get (F:=Has 0 (w.heap.size+1+1+1) (.cells #[.slice p6 (digs B32 r).length c6] 41)) zsm);have hx:=hK9.get (F:=fun w=>NatV w (.agg #[.slice p5 (digs B32 q).length c5]) q) zsm;have hy:=hK9.get (F:=fun w=>NatV w (.agg #[.slice p6 (digs B32 r).length c6]) r) zsm;go_wp2;exact bodyPost_ret (v:=.tuple #[.agg #[.slice p5 (digs B32 q).length c5],.agg #[.slice p6 (digs B32 r).length c6],.int .i64 0]) (by simp[results,Tryz.results137,go_sem,k2,k3]) rfl ⟨_,_,rfl,hx,hy,hK9.old⟩
set_option maxRecDepth 100000 in
set_option maxHeartbeats 4000000 in
theorem divmod_long(v u:Value)(n m:Nat)(w:World)(hv:NatV w v n)(hu:NatV w u m)(hm1:4294967296<=m)(hle:m<=n)(hn:18446744073709551616<=n)(hl:(digs B32 n).length<=100000):
    Calls Tryz.prog 137 #[v,u] w fun e w'=> ∃x y,e=.returned (.tuple #[x,y,.int .i64 0])/\NatV w' x (n/m)/\NatV w' y (n%m)/\Below w.heap.size w w':=by
  have hm:m≠0:=by omega
  have hlm:(digs B32 m).length<=(digs B32 n).length:=digs_mono hle;have hl2:2<=(digs B32 m).length:=digs_len_ge b32_2 1 m (by rw[b32];omega);have HZ:=hid (fun w1 (hb:Below w.heap.size w w1)=>isZero_any u m w1 (hu.below hb));have HC:=hid (fun w1 (hb:Below w.heap.size w w1)=>cmp_any v u n m w1 (hv.below hb) (hu.below hb) (by omega) (by omega));have HU:=hid (fun w1 (hb:Below w.heap.size w w1)=>uint64_any v n w1 (hv.below hb));have HU':=hid (fun w1 (hb:Below w.heap.size w w1)=>uint64_any u m w1 (hu.below hb));rw[show(m==0)=false by simpa using hm]at HZ;rw[show u64V n=.tuple #[.int .u64 0,.bool false] by unfold u64V;rw[if_neg (by omega),decide_eq_false (by omega)]]at HU;have hcn:¬cmpN n m<0:=by unfold cmpN;rw[if_neg (by omega)];split<;>omega
  obtain⟨P,c,rfl,hp⟩:=hv.digp;obtain⟨Q,c',rfl,hq⟩:=hu.digp
  have HDL:=hid (fun w1 (hb:Below w.heap.size w w1)=>long_core P Q c c' (digs B32 n) (digs B32 m) w1 (hp.below hb) (hq.below hb) (digs_lt b32_2 n) (digs_lt b32_2 m) hl2 hlm hl (fun k hk hk1 h0=>by
    have h3:=val_top (B:=B32) (show(digs B32 m).length=k+1 by omega);rw[val_digs b32_2,h0,Nat.mul_zero,Nat.add_zero]at h3;have h4:=take_lt b32_2 (digs_lt b32_2 m) (k:=k) (by omega);rw[<-h3]at h4;have:=digs_len_le b32_2 k m h4;omega))
  rw[val_digs b32_2,val_digs b32_2]at HDL;unfold u64V at HU';obtain⟨m64,hm64⟩:∃m64:Int,(if m<18446744073709551616 then(m:Int)else 0)=m64:=⟨_,rfl⟩;obtain⟨bm,hbm⟩:∃bm,decide (m<18446744073709551616)=bm:=⟨_,rfl⟩;rw[hm64,hbm]at HU';obtain⟨cm,hcm⟩:∃cm,cmpN n m=cm:=⟨_,rfl⟩;rw[hcm]at hcn HC;obtain⟨ln,hlne⟩:∃ln,(digs B32 n).length=ln:=⟨_,rfl⟩;obtain⟨lm,hlme⟩:∃lm,(digs B32 m).length=lm:=⟨_,rfl⟩;rw[hlne,hlme]at HC HDL;rw[hlne]at HU⊢;rw[hlme]at HZ HU' hl2⊢;obtain⟨q,hqe⟩:∃q,n/m=q:=⟨_,rfl⟩;obtain⟨r,hre⟩:∃r,n%m=r:=⟨_,rfl⟩;rw[hqe,hre]at HDL⊢;have hl1:((lm:Int)==1)=false:=by rw[beq_eq_false_iff_ne];omega
  clear hp hq hv hu hlm hcm hlne hlme hqe hre hl hn hm hm1 hle hm64 hbm;go_enter Tryz.func137,Tryz.ntmps137;go_upto_region 1 with(fail);obtain⟨W0,hW0,hB0⟩:=box4_head (.slice P ln c) (.slice Q lm c') w;rw[<-hW0];clear hW0;have a1:=cell_box1 hB0.k1;go_upto_region 3 with(go_at_call 46;refine(HZ.out _ hB0.old).mono ?_;clear HZ;rintro e W1 ⟨rfl,hw1⟩;have hB1:=hB0.below hw1);clear hB0 hw1 a1;have a0:=cell_box1 hB1.k0;have a1:=cell_box1 hB1.k1;go_upto_region 5 with(go_at_call 103;refine(HC.out _ hB1.old).mono ?_;clear HC;rintro e W2 ⟨rfl,hw2⟩;have hB2:=hB1.below hw2);clear hB1 hw2 a0 a1;have a0:=cell_box1 hB2.k0;go_upto_region 6 with(go_at_call 151;refine(HU.out _ hB2.old).mono ?_;clear HU;rintro e W3 ⟨rfl,hw3⟩;have hB3:=hB2.below hw3);clear hB2 hw3 a0;have a1:=cell_box1 hB3.k1;go_upto_region 9 with(go_at_call 151;refine(HU'.out _ hB3.old).mono ?_;clear HU';rintro e W4 ⟨rfl,hw4⟩;have hB4:=hB3.below hw4);clear hB3 hw4 a1;have a0:=cell_box1 hB4.k0;have a1:=cell_box1 hB4.k1;go_upto_region 13 with(go_at_call 152;refine(HDL.out _ hB4.old).mono ?_;clear HDL;rintro e W5 ⟨x,y,rfl,hx,hy,hw5⟩;have hB5:=hB4.below hw5;obtain⟨p5,c5,rfl,_⟩:=hx.dig;obtain⟨p6,c6,rfl,_⟩:=hy.dig)
  obtain⟨V3,hVV,hK0,hK⟩:∃VV,VV=(W5.alloc (.cells #[.slice p5 (digs B32 q).length c5] 41)).alloc (.cells #[.slice p6 (digs B32 r).length c6] 41)/\KS w [Has 0 W5.heap.size (.cells #[.slice p5 (digs B32 q).length c5] 41),Has 0 (W5.heap.size+1) (.cells #[.slice p6 (digs B32 r).length c6] 41)] VV/\KS w [Has 0 (w.heap.size+1+1) (.cells #[.slice none 0 0] 41),Has 0 (w.heap.size+1+1+1) (.cells #[.slice none 0 0] 41),fun w=>NatV w (.agg #[.slice p5 (digs B32 q).length c5]) q,fun w=>NatV w (.agg #[.slice p6 (digs B32 r).length c6]) r] VV:=by
    have g1:=(Below.refl W5.heap.size W5).alloc (Nat.le_refl _) (.cells #[.slice p5 (digs B32 q).length c5] 41);have g2:=g1.alloc (by simp) (.cells #[.slice p6 (digs B32 r).length c6] 41);have g3:=heap_new (W5.alloc (.cells #[.slice p5 (digs B32 q).length c5] 41)) (.cells #[.slice p6 (digs B32 r).length c6] 41);rw[World.size_alloc]at g3;have g4:=(Below.heap_alloc (W5.alloc (.cells #[.slice p5 (digs B32 q).length c5] 41)) (.cells #[.slice p6 (digs B32 r).length c6] 41) W5.heap.size (by simp)).trans (heap_new W5 _);have hB6:=hB5.below g2;exact⟨_,rfl,⟨hB6.old,all1 (fun w2 hb=>Has.below ⟨Nat.zero_le _,g4⟩ hb) (all1 (fun w2 hb=>Has.below ⟨Nat.zero_le _,g3⟩ hb) all0)⟩,⟨hB6.old,all1 (fun w2 hb=>Has.below ⟨Nat.zero_le _,hB6.k2⟩ hb) (all1 (fun w2 hb=>Has.below ⟨Nat.zero_le _,hB6.k3⟩ hb) (all1 (fun w2 hb=>(hx.below g2).below hb) (all1 (fun w2 hb=>(hy.below g2).below hb) all0)))⟩⟩
  have hs5:=hB5.sz;rw[<-hVV];clear hVV hx hy hB4 hB5 hw5 a0 a1;generalize W5.heap.size=R13 at hK0 hs5⊢;refine wp_region_float0 (w) [_,_] _ [0,0,4,4,0] (by kernel_rfl) (by kernel_rfl) (by kernel_rfl) (by kernel_rfl) (KS.drew hK0) (KS.drew hK) ?_;apply lxF0 (wants0 rfl);(· intro w' h0;have hw':=h0.old;have c13:=hasCell (h0.get (F:=Has 0 R13 (.cells #[.slice p5 (digs B32 q).length c5] 41)) zsm);have c14:=hasCell (h0.get (F:=Has 0 (R13+1) (.cells #[.slice p6 (digs B32 r).length c6] 41)) zsm);go_simp;(try go_bits);exact⟨rfl,rfl⟩);simp only[Act.put,List.setIfInBounds_toArray,List.set_cons_zero,List.set_cons_succ];apply lxF0 (wants0 rfl);(· intro w' h0;have hw':=h0.old;have c13:=hasCell (h0.get (F:=Has 0 R13 (.cells #[.slice p5 (digs B32 q).length c5] 41)) zsm);have c14:=hasCell (h0.get (F:=Has 0 (R13+1) (.cells #[.slice p6 (digs B32 r).length c6] 41)) zsm);go_simp;(try go_bits);exact⟨rfl,rfl⟩);simp only[Act.put,List.setIfInBounds_toArray,List.set_cons_zero,List.set_cons_succ];apply lxS0 [Has 0 (w.heap.size+1+1) (.cells #[.slice p5 (digs B32 q).length c5] 41),Has 0 (w.heap.size+1+1+1) (.cells #[.slice none 0 0] 41),fun w=>NatV w (.agg #[.slice p5 (digs B32 q).length c5]) q,fun w=>NatV w (.agg #[.slice p6 (digs B32 r).length c6]) r] (wants0 rfl)
  . intro w' h0 hK;have g13:=h0.get (F:=Has 0 R13 (.cells #[.slice p5 (digs B32 q).length c5] 41)) zsm;have g14:=h0.get (F:=Has 0 (R13+1) (.cells #[.slice p6 (digs B32 r).length c6] 41)) zsm;have hR:=hK.get (F:=Has 0 (w.heap.size+1+1) (.cells #[.slice none 0 0] 41)) zsm;have hR':=hK.get (F:=Has 0 (w.heap.size+1+1+1) (.cells #[.slice none 0 0] 41)) zsm;have hN:=hK.get (F:=fun w=>NatV w (.agg #[.slice p5 (digs B32 q).length c5]) q) zsm;have hN':=hK.get (F:=fun w=>NatV w (.agg #[.slice p6 (digs B32 r).length c6]) r) zsm;have c1:=hasCell hR;have f1:=hasFree hR;go_simp;exact⟨rfl,ks_set h0 (by omega) _ (all1 (fun w2 hb=>has_far g13 (by omega) _ hb) (all1 (fun w2 hb=>has_far g14 (by omega) _ hb) all0)),ks_set hK (by omega) _ (all1 (fun w2 hb=>has_set hR _ hb) (all1 (fun w2 hb=>has_far hR' (by omega) _ hb) (all1 (fun w2 hb=>nat_set hN hR _ hb) (all1 (fun w2 hb=>nat_set hN' hR _ hb) all0))))⟩
  simp only[Act.put];apply lxS0 [Has 0 (w.heap.size+1+1) (.cells #[.slice p5 (digs B32 q).length c5] 41),Has 0 (w.heap.size+1+1+1) (.cells #[.slice p6 (digs B32 r).length c6] 41),fun w=>NatV w (.agg #[.slice p5 (digs B32 q).length c5]) q,fun w=>NatV w (.agg #[.slice p6 (digs B32 r).length c6]) r] (wants0 rfl)
  . intro w' h0 hK;have g13:=h0.get (F:=Has 0 R13 (.cells #[.slice p5 (digs B32 q).length c5] 41)) zsm;have g14:=h0.get (F:=Has 0 (R13+1) (.cells #[.slice p6 (digs B32 r).length c6] 41)) zsm;have hR:=hK.get (F:=Has 0 (w.heap.size+1+1+1) (.cells #[.slice none 0 0] 41)) zsm;have hR':=hK.get (F:=Has 0 (w.heap.size+1+1) (.cells #[.slice p5 (digs B32 q).length c5] 41)) zsm;have hN:=hK.get (F:=fun w=>NatV w (.agg #[.slice p5 (digs B32 q).length c5]) q) zsm;have hN':=hK.get (F:=fun w=>NatV w (.agg #[.slice p6 (digs B32 r).length c6]) r) zsm;have c1:=hasCell hR;have f1:=hasFree hR;go_simp;exact⟨rfl,ks_set h0 (by omega) _ (all1 (fun w2 hb=>has_far g13 (by omega) _ hb) (all1 (fun w2 hb=>has_far g14 (by omega) _ hb) all0)),ks_set hK (by omega) _ (all1 (fun w2 hb=>has_far hR' (by omega) _ hb) (all1 (fun w2 hb=>has_set hR _ hb) (all1 (fun w2 hb=>nat_set hN hR _ hb) (all1 (fun w2 hb=>nat_set hN' hR _ hb) all0))))⟩
  simp only[Act.put];apply lxF0 (wants0 rfl);(· intro w' h0;have hw':=h0.old;have c13:=hasCell (h0.get (F:=Has 0 R13 (.cells #[.slice p5 (digs B32 q).length c5] 41)) zsm);have c14:=hasCell (h0.get (F:=Has 0 (R13+1) (.cells #[.slice p6 (digs B32 r).length c6] 41)) zsm);go_simp;(try go_bits);exact⟨rfl,rfl⟩);simp only[Act.put,List.setIfInBounds_toArray,List.set_cons_zero,List.set_cons_succ];refine lxEnd (fun W9 hK9=>?_);have k2:=hasCell (hK9.get (F:=Has 0 (w.heap.size+1+1) (.cells #[.slice p5 (digs B32 q).length c5] 41)) zsm);have k3:=hasCell (hK9.get (F:=Has 0 (w.heap.size+1+1+1) (.cells #[.slice p6 (digs B32 r).length c6] 41)) zsm);have hx:=hK9.get (F:=fun w=>NatV w (.agg #[.slice p5 (digs B32 q).length c5]) q) zsm;have hy:=hK9.get (F:=fun w=>NatV w (.agg #[.slice p6 (digs B32 r).length c6]) r) zsm;go_wp2;exact bodyPost_ret (v:=.tuple #[.agg #[.slice p5 (digs B32 q).length c5],.agg #[.slice p6 (digs B32 r).length c6],.int .i64 0]) (by simp[results,Tryz.results137,go_sem,k2,k3]) rfl ⟨_,_,rfl,hx,hy,hK9.old⟩
theorem divmod_any(v u:Value)(n m:Nat)(w:World)(hv:NatV w v n)(hu:NatV w u m)(hm:m≠0)(hl:(digs B32 n).length<=100000)(hl2:(digs B32 m).length<=100000):
    Calls Tryz.prog 137 #[v,u] w fun e w'=> ∃x y,e=.returned (.tuple #[x,y,.int .i64 0])/\NatV w' x (n/m)/\NatV w' y (n%m)/\Below w.heap.size w w':=by
  by_cases h1:n<m
  . exact divmod_lt v u n m w hv hu h1 (by omega) (by omega)
  by_cases h2:n<18446744073709551616
  . exact divmod_64 v u n m w hv hu hm (by omega) h2
  by_cases h3:m<4294967296
  . exact divmod_small v u n m w hv hu hm h3 (by omega) hl
  exact divmod_long v u n m w hv hu (by omega) (by omega) (by omega) hl
end
section
section
variable {P:Program}
theorem append_types{w:World}(t u ty e e':TypeId)(ht:P.underlying t=some (.slice e))(hu:P.underlying u=some (.slice e'))(p:Option Addr)(n c:Nat)(x:Value):
    (Builtin.append_ #[t,u] ty #[.slice p n c,x]).run P w=(Builtin.append_ #[t,t] ty #[.slice p n c,x]).run P w:=by
  simp[Builtin.append_,run_underlying ht,run_underlying hu]
theorem wpList_append_two{w:World}{ops:Array Oper}{rest:List Oper}{o:Oper}{a:Act}{Q:Exit->Act->World->Prop}(hgd:o.guard=none)(s x:Operand)(t u:TypeId)
    (ho:o.op=.call {callee:=.builtin .append,args:=#[s,x],argTypes:=#[t,u]})
    (base:Nat) (e e':TypeId) (i:TypeInfo) (z:Value) (bytes:Nat) (ht:P.underlying t=some (.slice e)) (hu:P.underlying u=some (.slice e')) (hi:P.info? e=some i) (hz:i.zero=some z)
    (hsize:i.size=1) (hby:i.bytes=bytes) (hzs:z.cells.size=1)
    (v:Value) (n:Nat) (xs:List Value) (hs:a.eval s=v) (hown:w.ownsRow base e 1 v n xs)
    (p:Option Addr) (m c:Nat) (news:List Value) (hx:a.eval x=.slice p m c) (hl:news.length=m) (hnews:m=0\/ ∃ad,p=some ad/\ ∀j u,news[j]?=some u->w.cell? (ad.add j)=some u) (h1:∀u∈news,u.oneCell'=true)
    (h63:n+m<=maxLen) (hbytes:(n+m)*bytes<=140737488355328) (hbase:base<=w.heap.size)
    (h:∀v' w',w'.ownsRow base e 1 v' (n+m) (xs++news)->w.grownBy w' v.ownBlock->wpList P ops Q rest (a.put o.dst v') w'):wpList P ops Q (o::rest) a w:=by
  refine wpList_plain hgd fun K hK=>?_
  obtain⟨pv,cv,rfl⟩:=row_slice hown
  have key:∃v' w',(Builtin.append_ #[t,t] o.type #[.slice pv n cv,.slice p m c]).run P w=.ok v' w'/\w'.ownsRow base e 1 v' (n+m) (xs++news)/\w.grownBy w' (Value.slice pv n cv).ownBlock:=by
    by_cases hp:∃ad,p=some ad
    . obtain⟨ad,rfl⟩:=hp
      have hn:∀j u,news[j]?=some u->w.cell? (ad.add j)=some u:=by
        rcases hnews with rfl|⟨ad',e1,h2⟩
        . intro j u hj;rw[List.eq_nil_of_length_eq_zero hl]at hj;simp at hj
        injection e1 with e1;subst e1;exact h2
      obtain⟨v',w',hr,h2,h3,_⟩:=run_append_own (P:=P) w base t o.type e i z 1 bytes ht hi hz hsize hby hzs (by decide) _ n xs hown ad m c news (by omega) hn h1 h63 hbytes hbase;exact⟨v',w',hr,h2,h3⟩
    have hp0:p=none:=by cases p with
      |none=>rfl
      |some ad=>exact absurd ⟨ad,rfl⟩ hp
    subst hp0
    rcases hnews with rfl|⟨ad',e1,_⟩
    . have e0:news=[]:=List.eq_nil_of_length_eq_zero hl;subst e0
      have e2:(Builtin.append_ #[t,t] o.type #[.slice pv n cv,.slice none 0 c]).run P w=.ok (.slice pv n cv) w:=by
        have hle:n<=cv:=by
          rcases hown.2 with⟨e3,rfl⟩|⟨g,cap,cur,e3,_,_,h4,_⟩
          . exact Nat.zero_le _
          injection e3 with _ _ e4;omega
        cases pv<;>simp[Builtin.append_,run_underlying ht,sizeOf,typeInfo,hi,Builtin.lenOf,Builtin.firstCells,hle,loadCells,storeCells]
      exact⟨_,w,e2,by simpa using hown,⟨rfl,rfl,rfl,Nat.le_refl _,fun _ _ _=>rfl⟩⟩
    cases e1
  obtain⟨v',w',hr,h2,h3⟩:=key;unfold Oper.wp execOp;simp only[ho,resolve,invoke,builtin,Sem.run_bind,Sem.run_pure,Result.andThen_ok,List.map_toArray,List.map_cons,List.map_nil,hs,hx,append_types t u o.type e e' ht hu,hr];exact hK _ _ (h v' w' h2 h3)
end
def B6:Nat:=1000000
theorem b6:B6=1000000:=rfl
theorem b6_2:2<=B6:=by decide
def iCell(x:Nat):Value:=.int .i64 (x:Int)
structure GDig(W:World)(g:Nat)(xs:List Nat):Prop where
  lt:g<W.heap.size
  at0:∀k (h:k<xs.length),W.cell? ⟨g,k,none⟩=some (iCell xs[k])
theorem GDig.below{W W':World}{g:Nat}{xs:List Nat}(h:GDig W g xs)(hb:Below W.heap.size W W'):GDig W' g xs:=
  ⟨Nat.lt_of_lt_of_le h.lt hb.size,fun k hk=>(hb.cell (p:=⟨g,k,none⟩) h.lt).trans (h.at0 k hk)⟩
def GV(W:World)(s:Value)(xs:List Nat):Prop:=(xs=[]/\ ∃p c,s=.slice p 0 c)\/ ∃g c,s=.slice (some ⟨g,0,none⟩) xs.length c/\GDig W g xs/\xs.length<=c/\c<=maxLen
theorem GV.below{W W':World}{s:Value}{xs:List Nat}(h:GV W s xs)(hb:Below W.heap.size W W'):GV W' s xs:=
  h.imp id fun⟨g,c,e,t,hc⟩=>⟨g,c,e,t.below hb,hc⟩
theorem GV.slice{W:World}{s:Value}{xs:List Nat}(h:GV W s xs):∃p c,s=.slice p xs.length c/\(xs≠[]-> ∃g,p=some ⟨g,0,none⟩/\GDig W g xs/\xs.length<=c/\c<=maxLen):=by
  rcases h with⟨rfl,p,c,rfl⟩|⟨g,c,rfl,h1,h2⟩
  . exact⟨p,c,rfl,fun h=>absurd rfl h⟩
  exact⟨_,c,rfl,fun _=>⟨g,rfl,h1,h2⟩⟩
def RowI(W:World)(base:Nat)(v:Value)(xs:List Nat):Prop:=W.ownsRow base 3 1 v xs.length (xs.map iCell)
theorem RowI.gv{W:World}{base:Nat}{v:Value}{xs:List Nat}(h:RowI W base v xs):GV W v xs:=by
  by_cases hn:xs=[]
  . subst hn;obtain⟨p,c,e⟩:=row_slice h;exact .inl ⟨rfl,p,c,e⟩
  rcases h.2 with⟨_,h0⟩|⟨g,cap,cur,rfl,hg,hb,hle,hm,hs,ht⟩
  . exact absurd (List.eq_nil_of_length_eq_zero h0) hn
  refine .inr ⟨g,cap,rfl,⟨(Array.getElem?_eq_some_iff.1 hb).1,fun k hk=>?_⟩,hle,hm⟩;obtain⟨g',cap',e0,_,hc⟩:=row1_cell h (by simp) (k:=k) (by simpa using hk)
  injection e0 with e1
  injection e1 with e1
  injection e1 with e1
  subst e1;rw[hc,List.getElem_map]
def RefV(W:World)(v:Value)(n:Nat):Prop:=GV W v (digs B6 n)
theorem RefV.below{W W':World}{s:Value}{n:Nat}(h:RefV W s n)(hb:Below W.heap.size W W'):RefV W' s n:=GV.below h hb
theorem infoI:(Tryz.prog.info? 3).map (fun i=>(i.zero,i.size,i.bytes))=some (some (.int .i64 0),1,8):=by kernel_rfl
theorem one_i(c:Nat):∀u∈[iCell c],u.oneCell'=true:=by
  intro u hu;simp only[List.mem_cons,List.not_mem_nil,or_false]at hu;rw[hu];rfl
theorem all_i(xs:List Nat):∀u∈xs.map iCell,u.oneCell'=true:=by
  intro u hu;obtain⟨x,_,rfl⟩:=List.mem_map.1 hu;rfl
theorem row_empty(W:World)(t:TypeId)(base:Nat)(hb:base<=W.heap.size):(W.alloc (.cells #[] t)).ownsRow base t 1 (.slice (some ⟨W.heap.size,0,none⟩) 0 0) 0 []:=
  ⟨rfl,.inr ⟨W.heap.size,0,#[],rfl,hb,heap_new W _,Nat.le_refl _,Nat.zero_le _,rfl,rfl⟩⟩
set_option maxRecDepth 100000 in
set_option maxHeartbeats 2000000 in
theorem without_any(v:Value)(xs:List Nat)(w:World)(hv:GV w v xs)(hl:xs.length<=1000000):
    Calls Tryz.prog 118 #[v] w fun e w'=> ∃v',e=.returned v'/\GV w' v' (trimD xs)/\Below w.heap.size w w':=by
  obtain⟨i0,hi,hz0,hz1,hz2⟩:=info_parts infoI;obtain⟨p,c,rfl,hpg⟩:=hv.slice;clear hv;go_enter Tryz.func118,Tryz.ntmps118;go_wp2_with fail;go_loop [0] (fun n=> ∃k:Nat,k<=xs.length/\n=.slice p k c/\Hid (trimD xs=trimD (xs.take k))) (fun n=>sliceLen n)
  case atStart=>exact⟨xs.length,Nat.le_refl _,rfl,hid (by rw[List.take_length])⟩
  obtain⟨k,hk,rfl,HT⟩:=hrel
  by_cases hk0:k=0
  . subst hk0;have HE:=hid (show trimD xs=[]from HT.out);go_wp2_with (at_builtin;go_loud (refine wpList_append_two rfl _ _ 51 50 rfl w.heap.size 3 3 i0 _ 8 Tryz.underlying51 Tryz.underlying50 hi hz0 hz1 hz2 rfl _ 0 [] rfl (row_empty w 3 _ (Nat.le_refl _)) p 0 c (([]:List Nat).map iCell) rfl (by simp;try omega) (.inl rfl) (all_i _) (by simp[maxLen];try omega) (by omega) (by simp) ?_;intro v' w2 hown hgr;have hb2:=((Below.refl w.heap.size w).alloc (Nat.le_refl _) _).grown hgr (by simp) (fun k' hk'=>by injection hk' with hk';subst hk';exact Nat.le_refl _)));go_ret;exact⟨_,rfl,by rw[HE.out];exact RowI.gv hown,hb2⟩
  obtain⟨j,rfl⟩:∃j,k=j+1:=⟨k-1,by omega⟩;have hj:j<xs.length:=by omega
  obtain⟨g,rfl,hg,hc1,hc2⟩:=hpg (fun e=>by subst e;simp at hj);have g0:=hg.at0 j hj;unfold iCell at g0;have hgt:(0:Int)<((j+1:Nat):Int):=by omega
  have hgl:=hg.lt
  by_cases hz:xs[j]=0
  . rw[hz]at g0;have HZ:=hid (trim_take_zero hk hz);clear hz;go_wp2;go_round
    case rel=>exact⟨j,by omega,rfl,hid (HT.out.trans HZ.out)⟩
    case measure=>simp[sliceLen]
  have hzi:(((xs[j]:Nat):Int)==0)=false:=by rw[beq_eq_false_iff_ne];omega
  have HE:=hid (HT.out.trans (trim_take_last hk hz));clear hz
  have hcell:∀t,∀i u,((xs.take (j+1)).map iCell)[i]?=some u->(w.alloc (.cells #[] t)).cell? ((⟨g,0,none⟩:Addr).add i)=some u:=by
    intro t i u hu;rw[add_at,((Below.refl w.heap.size w).alloc (Nat.le_refl _) _).cell (p:=⟨g,i,none⟩) hgl];obtain⟨hi',rfl⟩:=List.getElem?_eq_some_iff.1 hu;rw[List.length_map,List.length_take]at hi';rw[hg.at0 i (by omega)];simp
  go_wp2_with (at_builtin;go_loud (refine wpList_append_two rfl _ _ 51 50 rfl w.heap.size 3 3 i0 _ 8 Tryz.underlying51 Tryz.underlying50 hi hz0 hz1 hz2 rfl _ 0 [] rfl (row_empty w 3 _ (Nat.le_refl _)) (some ⟨g,0,none⟩) (j+1) c ((xs.take (j+1)).map iCell) rfl (by simp;try omega) (.inr ⟨_,rfl,hcell _⟩) (all_i _) (by simp[maxLen];try omega) (by omega) (by simp) ?_;intro v' w2 hown hgr;have hb2:=((Below.refl w.heap.size w).alloc (Nat.le_refl _) _).grown hgr (by simp) (fun k' hk'=>by injection hk' with hk';subst hk';exact Nat.le_refl _)));go_ret;refine⟨_,rfl,?_,hb2⟩;rw[HE.out];refine RowI.gv (base:=w.heap.size) ?_;unfold RowI;rw[List.length_take,Nat.min_eq_left hk]
  simpa using hown
theorem RowI.nil(W:World)(base:Nat):RowI W base (.slice none 0 0) []:=⟨rfl,.inl ⟨rfl,rfl⟩⟩
theorem RowI.below{W W':World}{base:Nat}{v:Value}{xs:List Nat}(h:RowI W base v xs)(hb:Below W.heap.size W W'):RowI W' base v xs:=row_kept_low h hb
theorem RowI.push{W:World}{base n:Nat}{v:Value}{os:List Nat}{x:Nat}(h:W.ownsRow base 3 1 v (n+1) (os.map iCell++[iCell x]))(hn:n=os.length):RowI W base v (os++[x]):=by
  subst hn;unfold RowI;rw[List.length_append,List.length_singleton,List.map_append];exact h
structure CarAt(W0:World)(xs:List Nat)(v:Value)(i c:Nat)(wr:World):Prop where
  row:∃os,RowI wr W0.heap.size v os/\os.length=i/\(∀x∈os,x<B6)/\val B6 os+B6^i*c=val B6 (xs.take i)
  old:Below W0.heap.size W0 wr
  cb:c<=100000000000000000
  ib:i<=xs.length\/c*B6^(i-xs.length)<=100000000000000000
  lb:i<=xs.length+3
theorem CarAt.short{W0 wr:World}{xs:List Nat}{v:Value}{i c:Nat}(h:CarAt W0 xs v i c wr)(hg:i<xs.length\/0<c):i<=xs.length+2:=by
  rcases hg with hg|hg
  . omega
  rcases h.ib with h1|h1
  . omega
  refine Nat.le_of_not_lt fun hlt=>?_
  have h2:B6^3<=B6^(i-xs.length):=Nat.pow_le_pow_right (by decide) (by omega);have h3:1*B6^(i-xs.length)<=c*B6^(i-xs.length):=Nat.mul_le_mul_right _ hg;have h4:B6^3=1000000000000000000:=by decide
  omega
theorem car_val{xs os:List Nat}{i c x:Nat}(hv:val B6 os+B6^i*c=val B6 (xs.take i))(ho:os.length=i)(hx:val B6 (xs.take (i+1))=val B6 (xs.take i)+B6^i*x):
    val B6 (os++[(c+x)%1000000])+B6^(i+1)*((c+x)/1000000)=val B6 (xs.take (i+1)):=by
  rw[val_snoc,hx,ho,Nat.pow_succ,Nat.mul_assoc];generalize B6^i=p at*
  have e2:p*((c+x)%1000000)+p*(B6*((c+x)/1000000))=p*c+p*x:=by
    rw[<-Nat.mul_add,b6,Nat.mod_add_div,Nat.mul_add]
  omega
theorem CarAt.step{W0 wr w':World}{xs os:List Nat}{v v':Value}{i c x:Nat}(h:CarAt W0 xs v i c wr)(_hr:RowI wr W0.heap.size v os)(ho:os.length=i)(hb:∀x∈os,x<B6)(hv:val B6 os+B6^i*c=val B6 (xs.take i))
    (hx:val B6 (xs.take (i+1))=val B6 (xs.take i)+B6^i*x) (hxb:x<=100000000000000000) (hx0:xs.length<=i->x=0) (hsh:i<=xs.length+2) (hown:RowI w' W0.heap.size v' (os++[(c+x)%1000000])) (hold:Below W0.heap.size W0 w'):
    CarAt W0 xs v' (i+1) ((c+x)/1000000) w':=by
  have hcb:=h.cb;refine⟨⟨_,hown,by simp[ho],?_,car_val hv ho hx⟩,hold,by omega,?_,by omega⟩
  . intro y hy
    rcases List.mem_append.1 hy with h1|h1
    . exact hb y h1
    simp only[List.mem_cons,List.not_mem_nil,or_false]at h1;rw[h1,b6];omega
  by_cases hi:i<xs.length
  . exact .inl hi
  refine .inr ?_;rw[hx0 (by omega),Nat.add_zero]
  rcases h.ib with h1|h1
  . have:i=xs.length:=by omega
    subst this;rw[show xs.length+1-xs.length=1 by omega,Nat.pow_one,b6];omega
  rw[show i+1-xs.length=(i-xs.length)+1 by omega,Nat.pow_succ,Nat.mul_comm (B6^_), <-Nat.mul_assoc];refine Nat.le_trans (Nat.mul_le_mul_right _ ?_) h1;rw[b6];omega
set_option maxRecDepth 100000 in
set_option maxHeartbeats 2000000 in
theorem carried_any(v:Value)(xs:List Nat)(w:World)(hv:GV w v xs)(hl:xs.length<=900000)(hxb:∀x∈xs,x<=100000000000000000):
    Calls Tryz.prog 117 #[v] w fun e w'=> ∃v',e=.returned v'/\RefV w' v' (val B6 xs)/\Below w.heap.size w w':=by
  obtain⟨i0,hi,hz0,hz1,hz2⟩:=info_parts infoI;obtain⟨p,cp,rfl,hpg⟩:=hv.slice;have HXB:=hid hxb;have HPG:=hid hpg;clear hv hxb hpg;have hat0:CarAt w xs (.slice none 0 0) 0 0 w:=⟨⟨[],RowI.nil w _,rfl,fun x h=>absurd h (List.not_mem_nil),by simp[val]⟩,Below.refl _ _,by omega,.inl (Nat.zero_le _),by omega⟩;go_enter Tryz.func117,Tryz.ntmps117;go_wp2_with fail;go_loopw [3,4,5] (fun o c i wr=> ∃k cn:Nat,i=.int .i64 k/\c=.int .i64 (cn:Int)/\CarAt w xs o k cn wr) (fun _ c i _=>(xs.length-(intOf i).toNat)*1000000000000000000+(intOf c).toNat)
  case atStart=>exact⟨0,0,rfl,rfl,hat0⟩
  clear hat0;obtain⟨k,c,rfl,rfl,hat⟩:=hrel;generalize wr=W1 at hat⊢;generalize u3=o at hat⊢;obtain⟨os,hrow,hol,hob,hov⟩:=hat.row;have hold:=hat.old;have hcb:=hat.cb
  by_cases hlt:k<xs.length
  . obtain⟨g,rfl,hg,_,_⟩:=HPG.out (fun e=>by subst e;simp at hlt);have hg1:=(hg.below hold).at0 k hlt;have hgl:=Nat.lt_of_lt_of_le hg.lt hold.size;have hxk:=HXB.out _ (List.getElem_mem hlt);obtain⟨x,hx⟩:∃x,xs[k]=x:=⟨_,rfl⟩;have hsh:=hat.short (.inl hlt);have HS:=hid (fun v' w'=>hat.step (w':=w') (v':=v') hrow hol hob hov (by rw[val_take_succ hlt,hx]) (hx▸hxk) (fun h=>absurd hlt (by omega)) hsh);rw[hx]at hg1 hxk;unfold iCell at hg1;have hti:(k:Int)<(xs.length:Int):=by omega
    obtain⟨t,ht,ht2⟩:∃t:Nat,c+x=t/\(c:Int)+(x:Int)=(t:Int):=⟨_,rfl,by simp only[Int.natCast_add]⟩;have htb:t<=200000000000000000:=by omega
    rw[ht]at HS;clear hx ht hat hov;go_wp2_with (at_builtin;go_loud (refine wpList_append_own _ rfl _ _ 50 rfl w.heap.size 3 i0 _ 1 8 Tryz.underlying50 hi hz0 hz1 hz2 rfl (by decide) _ _ _ rfl (hrow.alloc _) ⟨W1.heap.size,0,none⟩ 1 1 [iCell (t%1000000)] rfl rfl (cells1_new W1 _ _) (one_i _) (by simp[maxLen];omega) (by omega) (by have:=hold.size;simp;omega) ?_;intro v' w7 hown' hgrow _;have hb7:=row1_step hold hrow (Nat.le_refl _) hold.size hgrow;have hat7:=HS.out v' w7 (RowI.push hown' rfl) hb7));go_roundw
    case rel=>exact⟨k+1,t/1000000,by go_num,rfl,hat7⟩
    case measure=>simp[intOf];omega
  have hge:¬(k:Int)<(xs.length:Int):=by omega
  by_cases hc0:c=0
  . subst hc0;rw[Nat.mul_zero,Nat.add_zero,List.take_of_length_le (by omega)]at hov;have HT:=hid (without_any o os W1 hrow.gv (by have:=hat.lb;omega));rw[<-digs_val b6_2 hob,hov]at HT;go_wp2_with (go_at_call 118;refine HT.out.mono ?_;clear HT;rintro e w3 ⟨v',rfl,hv',hw3⟩);go_ret;exact⟨_,rfl,hv',hold.trans (hw3.mono hold.size)⟩
  have hcg:(0:Int)<(c:Int):=by omega
  have hsh:=hat.short (.inr (by omega));have HS:=hid (fun v' w'=>hat.step (w':=w') (v':=v') (x:=0) hrow hol hob hov (by rw[List.take_of_length_le (by omega),List.take_of_length_le (by omega)];simp) (by omega) (fun _=>rfl) hsh);rw[Nat.add_zero]at HS;clear hat hov;go_wp2_with (at_builtin;go_loud (refine wpList_append_own _ rfl _ _ 50 rfl w.heap.size 3 i0 _ 1 8 Tryz.underlying50 hi hz0 hz1 hz2 rfl (by decide) _ _ _ rfl (hrow.alloc _) ⟨W1.heap.size,0,none⟩ 1 1 [iCell (c%1000000)] rfl rfl (cells1_new W1 _ _) (one_i _) (by simp[maxLen];omega) (by omega) (by have:=hold.size;simp;omega) ?_;intro v' w7 hown' hgrow _;have hb7:=row1_step hold hrow (Nat.le_refl _) hold.size hgrow;have hat7:=HS.out v' w7 (RowI.push hown' rfl) hb7));go_roundw
  case rel=>exact⟨k+1,c/1000000,by go_num,rfl,hat7⟩
  case measure=>simp[intOf];omega
theorem val_map_mul(m:Nat)(xs:List Nat):val B6 (xs.map fun x=>x*m)=val B6 xs*m:=by
  induction xs with
  |nil=>simp[val]
  |cons x xs ih=>simp only[List.map_cons,val,ih];rw[Nat.add_mul,Nat.mul_assoc]
set_option maxRecDepth 100000 in
set_option maxHeartbeats 2000000 in
theorem times_any(v:Value)(n m:Nat)(w:World)(hv:RefV w v n)(hl:(digs B6 n).length<=900000)(hm:m<=4294967296):
    Calls Tryz.prog 140 #[v,.int .i64 (m:Int)] w fun e w'=> ∃v',e=.returned v'/\RefV w' v' (n*m)/\Below w.heap.size w w':=by
  obtain⟨i0,hi,hz0,hz1,hz2⟩:=info_parts infoI;obtain⟨p,cp,rfl,hpg⟩:=GV.slice hv;have HPG:=hid hpg;have HXB:=hid (digs_lt b6_2 n);have HV:=hid (show val B6 ((digs B6 n).map fun x=>x*m)=n*m by rw[val_map_mul,val_digs b6_2]);obtain⟨xs,hxs⟩:∃xs,digs B6 n=xs:=⟨_,rfl⟩;rw[hxs]at HPG HXB HV hl⊢;clear hv hpg hxs;have hrow0:RowI w w.heap.size (.slice none 0 0) ((xs.take 0).map fun x=>x*m):=RowI.nil w _;go_enter Tryz.func140,Tryz.ntmps140;go_wp2_with fail;go_loopw [5,6] (fun o i wr=> ∃k:Nat,k<=xs.length/\i=.int .i64 k/\RowI wr w.heap.size o ((xs.take k).map fun x=>x*m)/\Below w.heap.size w wr) (fun _ i _=>xs.length-(intOf i).toNat)
  case atStart=>exact⟨0,Nat.zero_le _,rfl,hrow0,Below.refl _ _⟩
  clear hrow0;obtain⟨k,hk,rfl,hrow,hold⟩:=hrel;generalize wr=W1 at hrow hold⊢;generalize u5=o at hrow⊢
  by_cases hlt:k<xs.length
  . obtain⟨g,rfl,hg,_,_⟩:=HPG.out (fun e=>by subst e;simp at hlt);have hg1:=(hg.below hold).at0 k hlt;have hgl:=Nat.lt_of_lt_of_le hg.lt hold.size;have hxk:=HXB.out _ (List.getElem_mem hlt);have HN:=hid (show((xs.take k).map fun x=>x*m)++[xs[k]*m]=(xs.take (k+1)).map fun x=>x*m by rw[List.take_succ_eq_append_getElem hlt,List.map_append];rfl);obtain⟨x,hx⟩:∃x,xs[k]=x:=⟨_,rfl⟩;rw[hx]at hg1 hxk HN;unfold iCell at hg1;rw[b6]at hxk;have hti:(k:Int)<(xs.length:Int):=by omega
    have hmb:x*m<=1000000*4294967296:=Nat.mul_le_mul (by omega) hm;obtain⟨t,ht,ht2⟩:∃t:Nat,x*m=t/\(x:Int)*(m:Int)=(t:Int):=⟨_,rfl,by simp only[Int.natCast_mul]⟩;rw[ht]at HN hmb;have hln:((xs.take k).map fun x=>x*m).length=k:=by simp;omega
    clear hx ht;go_wp2_with (at_builtin;go_loud (refine wpList_append_own _ rfl _ _ 50 rfl w.heap.size 3 i0 _ 1 8 Tryz.underlying50 hi hz0 hz1 hz2 rfl (by decide) _ _ _ rfl (hrow.alloc _) ⟨W1.heap.size,0,none⟩ 1 1 [iCell t] rfl rfl (cells1_new W1 _ _) (one_i _) (by rw[hln];simp[maxLen];omega) (by rw[hln];omega) (by have:=hold.size;simp;omega) ?_;intro v' w7 hown' hgrow _;have hb7:=row1_step hold hrow (Nat.le_refl _) hold.size hgrow;have hr7:=RowI.push hown' rfl;rw[HN.out]at hr7));go_roundw
    case rel=>exact⟨k+1,by omega,by go_num,hr7,hb7⟩
    case measure=>simp[intOf];omega
  obtain rfl:k=xs.length:=by omega
  rw[List.take_length]at hrow
  have HT:=hid (carried_any o _ W1 hrow.gv (by simpa using hl) (by
    intro y hy;obtain⟨x,hx,rfl⟩:=List.mem_map.1 hy;have h1:=HXB.out x hx;rw[b6]at h1;have:x*m<=1000000*4294967296:=Nat.mul_le_mul (by omega) hm;omega))
  rw[HV.out]at HT;go_wp2_with (go_at_call 117;refine HT.out.mono ?_;clear HT;rintro e w3 ⟨v',rfl,hv',hw3⟩);go_ret;exact⟨_,rfl,hv',hold.trans (hw3.mono hold.size)⟩
set_option maxRecDepth 100000 in
set_option maxHeartbeats 2000000 in
theorem rof_any(n:Nat)(w:World)(hn:n<18446744073709551616):
    Calls Tryz.prog 84 #[.int .u64 (n:Int)] w fun e w'=> ∃v',e=.returned v'/\RefV w' v' n/\Below w.heap.size w w':=by
  obtain⟨i0,hi,hz0,hz1,hz2⟩:=info_parts infoI;go_enter Tryz.func84,Tryz.ntmps84;go_wp2_with fail;go_loopw [0,3] (fun nv o wr=> ∃(m:Nat) (os:List Nat),nv=.int .u64 (m:Int)/\m<18446744073709551616/\RowI wr w.heap.size o os/\Hid ((∀x∈os,x<B6)/\val B6 os+B6^os.length*m=n)/\os.length<=4/\(0<m->os.length<=3)/\Below w.heap.size w wr) (fun nv _ _=>(intOf nv).toNat)
  case atStart=>exact⟨n,[],rfl,hn,RowI.nil w _,hid ⟨fun x h=>absurd h (List.not_mem_nil),by simp[val]⟩,by simp,by simp,Below.refl _ _⟩
  obtain⟨m,os,rfl,hm,hrow,HI,h4,h3,hold⟩:=hrel;generalize wr=W1 at hrow hold⊢;generalize u3=o at hrow⊢
  by_cases hm0:m=0
  . subst hm0;have hov:=HI.out.2;rw[Nat.mul_zero,Nat.add_zero]at hov;have HT:=hid (without_any o os W1 hrow.gv (by omega));rw[<-digs_val b6_2 HI.out.1,hov]at HT;go_wp2_with (go_at_call 118;refine HT.out.mono ?_;clear HT;rintro e w3 ⟨v',rfl,hv',hw3⟩);go_ret;exact⟨_,rfl,hv',hold.trans (hw3.mono hold.size)⟩
  have hmp:(0:Int)<(m:Int):=by omega
  have h3':=h3 (by omega)
  have HN:=hid (show(∀x∈os++[m%1000000],x<B6)/\val B6 (os++[m%1000000])+B6^(os++[m%1000000]).length*(m/1000000)=n by
    refine⟨fun y hy=>?_,?_⟩
    . rcases List.mem_append.1 hy with h1|h1
      . exact HI.out.1 y h1
      simp only[List.mem_cons,List.not_mem_nil,or_false]at h1;rw[h1,b6];omega
    rw[val_snoc,List.length_append,List.length_singleton,Nat.pow_succ,Nat.mul_assoc, <-HI.out.2,Nat.add_assoc, <-Nat.mul_add,b6,Nat.mod_add_div])
  have hlast:0<m/1000000->(os++[m%1000000]).length<=3:=fun h=>by
    have h1:=HI.out.2;refine Nat.le_of_not_lt fun hlt=>?_
    rw[List.length_append,List.length_singleton]at hlt;have h5:os.length=3:=by omega
    rw[h5,show B6^3=1000000000000000000 by decide]at h1;omega
  go_wp2_with (at_builtin;go_loud (refine wpList_append_own _ rfl _ _ 50 rfl w.heap.size 3 i0 _ 1 8 Tryz.underlying50 hi hz0 hz1 hz2 rfl (by decide) _ _ _ rfl (hrow.alloc _) ⟨W1.heap.size,0,none⟩ 1 1 [iCell (m%1000000)] rfl rfl (cells1_new W1 _ _) (one_i _) (by simp[maxLen];omega) (by omega) (by have:=hold.size;simp;omega) ?_;intro v' w7 hown' hgrow _;have hb7:=row1_step hold hrow (Nat.le_refl _) hold.size hgrow;have hr7:=RowI.push hown' rfl));go_roundw
  case rel=>exact⟨m/1000000,_,rfl,by omega,hr7,HN,by rw[List.length_append,List.length_singleton];omega,hlast,hb7⟩
  case measure=>
    show((m:Int)/1000000).toNat<((m:Int)).toNat
    omega
def ArrI(W:World)(D:Nat)(xs:List Nat):Prop:=W.heap[D]?=some (.cells (xs.map iCell).toArray 3 (0,0))
theorem ArrI.lt{W:World}{D:Nat}{xs:List Nat}(h:ArrI W D xs):D<W.heap.size:=(Array.getElem?_eq_some_iff.1 h).1
theorem ArrI.cell{W:World}{D:Nat}{xs:List Nat}(h:ArrI W D xs)(k:Nat)(hk:k<xs.length):W.cell? ⟨D,k,none⟩=some (.int .i64 (xs[k]:Int)):=by
  unfold World.cell?;rw[show W.heap[(⟨D,k,none⟩:Addr).block]?=_ from h];simp[hk,iCell]
theorem ArrI.free{W:World}{D:Nat}{xs:List Nat}(h:ArrI W D xs):∀o,W.frozen? ⟨D,o,none⟩=false:=by
  intro o;unfold World.frozen?;rw[show W.heap[(⟨D,o,none⟩:Addr).block]?=_ from h];simp
theorem ArrI.below{W W':World}{D:Nat}{xs:List Nat}(h:ArrI W D xs)(hb:Below W.heap.size W W'):ArrI W' D xs:=(hb.block _ h.lt).trans h
theorem ArrI.store{W:World}{D:Nat}{xs:List Nat}(h:ArrI W D xs)(k v:Nat):ArrI (W.setCell ⟨D,k,none⟩ (.int .i64 (v:Int))) D (xs.set k v):=by
  unfold ArrI;rw[heap_setCell_at h];simp[List.map_set,iCell]
theorem ArrI.gv{W:World}{D:Nat}{xs:List Nat}(h:ArrI W D xs)(hl:xs.length<=maxLen):GV W (.slice (some ⟨D,0,none⟩) xs.length xs.length) xs:=
  .inr ⟨D,_,rfl,⟨h.lt,h.cell⟩,Nat.le_refl _,hl⟩
theorem ari_made{W:World}{base g n:Nat}(h:W.ownsRow base 3 1 (.slice (some ⟨g,0,none⟩) n n) n (madeCells (Value.int .i64 0).cells (n*1)).toList):ArrI W g (List.replicate n 0):=by
  rcases h.2 with⟨e,_⟩|⟨g',cap,cur,e,_,hg,_,_,hs,ht⟩
  . cases e
  injection e with e1 _ e3
  injection e1 with e1
  injection e1 with e1
  subst e1 e3
  have h1:cur.toList=List.replicate n (Value.int .i64 0):=by
    have h2:(madeCells (Value.int .i64 0).cells (n*1)).toList=List.replicate n (.int .i64 0):=by
      rw[Nat.mul_one];exact toList_madeCells_one _ n
    rw[h2,List.take_of_length_le (by rw[Array.length_toList,hs];omega)]at ht;exact ht
  unfold ArrI;rw[hg]
  congr 2
  rw[<-Array.toArray_toList (xs:=cur),h1,List.map_replicate];rfl
theorem val_set_add{B:Nat}:∀(ys:List Nat) (k x:Nat) (h:k<ys.length),val B (ys.set k (ys[k]+x))=val B ys+B^k*x
  |y::ys,0,x,_=>by simp only[List.set_cons_zero,val,List.getElem_cons_zero,Nat.pow_zero];omega
  | y::ys,k+1,x,h=>by
    simp only[List.set_cons_succ,val,List.getElem_cons_succ,val_set_add ys k x (by simpa using h),Nat.pow_succ];rw[Nat.mul_add,Nat.mul_comm (B^k) B,Nat.mul_assoc];omega
structure RAdd(W0:World)(D L V M:Nat)(xs:List Nat)(k:Nat)(wr:World):Prop where
  arr:∃ys,ArrI wr D ys/\ys.length=L/\(∀y∈ys,y<=M+1000000*k)/\val B6 ys=V+val B6 (xs.take k)
  old:Below D W0 wr
theorem RAdd.step{W0 wr w':World}{D L V M:Nat}{xs ys:List Nat}{k x y:Nat}(h:RAdd W0 D L V M xs k wr)(ha:ArrI w' D ys)(hb:Below wr.heap.size wr w')(hyl:ys.length=L)(hym:∀y∈ys,y<=M+1000000*k)(hyv:val B6 ys=V+val B6 (xs.take k))
    (hk:k<xs.length) (hL:xs.length<=L) (hx:xs[k]=x) (hx1:x<1000000) (hy:ys[k]'(by omega)=y):RAdd W0 D L V M xs (k+1) (w'.setCell ⟨D,k,none⟩ (.int .i64 ((y+x:Nat):Int))):=by
  have hD:D<=wr.heap.size:=by
    obtain⟨zs,h1,_⟩:=h.arr;exact Nat.le_of_lt h1.lt
  refine⟨⟨ys.set k (y+x),ha.store _ _,by simpa using hyl,fun z hz=>?_,?_⟩,(h.old.trans (hb.mono hD)).setCell (p:=⟨D,k,none⟩) (Nat.le_refl _) _⟩
  . rcases List.mem_or_eq_of_mem_set hz with h1|h1
    . have:=hym z h1;omega
    have:=hym y (hy▸List.getElem_mem _);omega
  rw[<-hy,val_set_add ys k x (by omega),hyv,val_take_succ hk,hx];omega
def InV(W:World)(s:Value)(ds:List Nat):Prop:=(ds=[]/\ ∃p c,s=.slice p 0 c)\/ ∃b off c,s=.slice (some ⟨b,off,none⟩) ds.length c/\b<W.heap.size/\ ∀k (h:k<ds.length),W.cell? ⟨b,off+k,none⟩=some (.int .u32 (ds[k]:Int))
theorem InV.below{W W':World}{s:Value}{ds:List Nat}(h:InV W s ds)(hb:Below W.heap.size W W'):InV W' s ds:=
  h.imp id fun⟨b,o,c,e,h1,h2⟩=>⟨b,o,c,e,Nat.lt_of_lt_of_le h1 hb.size,fun k hk=>(hb.cell (p:=⟨b,o+k,none⟩) h1).trans (h2 k hk)⟩
theorem InV.slice{W:World}{s:Value}{ds:List Nat}(h:InV W s ds):∃p c,s=.slice p ds.length c/\(ds≠[]-> ∃b off,p=some ⟨b,off,none⟩/\b<W.heap.size/\ ∀k (h:k<ds.length),W.cell? ⟨b,off+k,none⟩=some (.int .u32 (ds[k]:Int))):=by
  rcases h with⟨rfl,p,c,rfl⟩|⟨b,off,c,rfl,h1,h2⟩
  . exact⟨p,c,rfl,fun h=>absurd rfl h⟩
  exact⟨_,c,rfl,fun _=>⟨b,off,rfl,h1,h2⟩⟩
theorem digs6_len{n L:Nat}(h:n<B32^L):(digs B6 n).length<=2*L:=by
  refine digs_len_le b6_2 _ _ (Nat.lt_of_lt_of_le h ?_);have h1:B32^L<=(B6^2)^L:=Nat.pow_le_pow_left (by decide) L
  rwa [<-Nat.pow_mul]at h1
theorem RefV.nil(W:World)(t:TypeId):RefV (W.alloc (.cells #[] t)) (.slice (some ⟨W.heap.size,0,none⟩) 0 0) 0:=.inl ⟨digs_zero,_,_,rfl⟩
def decE(n:Nat):List UInt8:=if n=0 then[]else decDigits n
theorem decE_step{q:Nat}(h:q≠0):decE q=decE (q/10)++[chr (q%10)]:=by
  unfold decE;rw[if_neg h]
  by_cases h1:q<10
  . rw[dec_small h1,Nat.div_eq_of_lt h1,if_pos rfl,Nat.mod_eq_of_lt h1];rfl
  rw[dec_big h1,if_neg (by omega)]
theorem digs_at:∀(i n:Nat) (h:i<(digs B6 n).length),(digs B6 n)[i]=n/B6^i%B6
  | 0,n,h=>by
    have hn:n≠0:=fun e=>by subst e;rw[digs_zero]at h;cases h
    simp only[digs_pos b6_2 hn,List.getElem_cons_zero,Nat.pow_zero,Nat.div_one]
  | i+1,n,h=>by
    have hn:n≠0:=fun e=>by subst e;rw[digs_zero]at h;cases h
    have h2:i<(digs B6 (n/B6)).length:=by rw[digs_pos b6_2 hn]at h;simpa using h
    have ih:=digs_at i (n/B6) h2;simp only[digs_pos b6_2 hn,List.getElem_cons_succ];rw[ih,Nat.div_div_eq_div_mul,Nat.pow_succ,Nat.mul_comm]
theorem digs_over{i n:Nat}:n/B6^i≠0↔i<(digs B6 n).length:=by
  constructor
  . intro h;refine digs_len_ge b6_2 i n ?_;exact Nat.le_of_not_lt fun hlt=>h (Nat.div_eq_of_lt hlt)
  intro h h0
  have:n<B6^i:=Nat.lt_of_not_le fun hle=>by
    have:=Nat.div_pos hle (Nat.pow_pos (by decide:0<B6));omega
  have:=digs_len_le b6_2 i n this;omega
def Wrote(n q:Nat)(s:ByteArray):Prop:=decE n=decE q++s.data.toList
theorem Wrote.size{n q L:Nat}{s:ByteArray}(h:Wrote n q s)(hL:(decE n).length<=L):s.size<=L:=by
  unfold Wrote at h;rw[h,List.length_append,str_len]at hL;omega
theorem Wrote.step{n q:Nat}{s:ByteArray}(h:Wrote n q s)(hq:q≠0):Wrote n (q/10) (⟨#[chr (q%10)]⟩++s):=by
  unfold Wrote at h⊢;rw[h,decE_step hq,Go.Joins.data_append,List.append_assoc]
theorem conv_one(W:World)(d:Nat)(hd:d<10):(convert 149 9 (.slice (some ⟨W.heap.size,0,none⟩) 1 1)).run Tryz.prog (W.alloc (.cells #[.int .u8 (48+(d:Int))] 5))=.ok (.string ⟨#[chr d]⟩) (W.alloc (.cells #[.int .u8 (48+(d:Int))] 5)):=
  run_convert_bytes_back _ _ _ 5 ⟨W.heap.size,0,none⟩ 1 [chr d] Tryz.underlying149 Tryz.underlying5 Tryz.underlying9 (fun j hj=>by
    have:j=0:=by simpa using hj
    subst this;rw[add_at,cell_box1 (heap_new W _)];simp only[List.getElem_cons_zero,chr_nat hd];rfl)
theorem group_mod(M k:Nat)(hk:k<6):M%1000000/10^k%10=M/10^k%10:=by
  match k,hk with
  |0,_=>simp only[Nat.pow_zero];omega
  |1,_=>rw[show 10^1=10 from rfl];omega
  |2,_=>rw[show 10^2=100 from rfl];omega
  |3,_=>rw[show 10^3=1000 from rfl];omega
  |4,_=>rw[show 10^4=10000 from rfl];omega
  |5,_=>rw[show 10^5=100000 from rfl];omega
theorem group_ne{M k G:Nat}(hk:k<6)(hG:G=M%1000000/10^k)(h:M/1000000≠0\/0<G):M/10^k≠0:=by
  have hp:0<10^k:=Nat.pow_pos (by decide);have hle:10^k<=10^6:=Nat.pow_le_pow_right (by decide) (by omega);have h6:10^6=1000000:=rfl
  have:10^k<=M:=by
    rcases h with h|h
    . have:1000000<=M:=Nat.le_of_not_lt fun h'=>h (Nat.div_eq_of_lt h')
      omega
    rw[hG]at h;have:10^k<=M%1000000:=Nat.le_of_not_lt fun h'=>by rw[Nat.div_eq_of_lt h']at h;omega
    have:=Nat.mod_le M 1000000;omega
  have:=Nat.div_pos this hp;omega
theorem group_end{M k G q:Nat}(hk:k<=6)(hG:G=M%1000000/10^k)(hq:q=M/10^k)(h:¬(k<6/\(M/1000000≠0\/0<G))):q=M/1000000:=by
  by_cases h6:k=6
  . rw[hq,h6]
  have h7:M/1000000=0:=Decidable.byContradiction fun h'=>h ⟨by omega,.inl h'⟩
  have h8:G=0:=Decidable.byContradiction fun h'=>h ⟨by omega,.inr (by omega)⟩
  have h9:M%1000000=M:=Nat.mod_eq_of_lt (by omega);rw[h9]at hG;rw[h7,hq, <-hG,h8]
set_option maxRecDepth 100000 in
set_option maxHeartbeats 4000000 in
theorem rtext_any(v:Value)(n:Nat)(w:World)(hv:RefV w v n)(hl:(digs B6 n).length<=100000)(hd:(decDigits n).length<=10000000):
    Calls Tryz.prog 94 #[v] w fun e w'=>e=.returned (.string ⟨(decDigits n).toArray⟩)/\Below w.heap.size w w':=by
  obtain⟨p,cp,rfl,hpg⟩:=GV.slice hv;have HPG:=hid hpg
  by_cases h0:n=0
  . subst h0;rw[digs_zero,dec_small (by omega)];clear hv hpg HPG hl hd;go_enter Tryz.func94,Tryz.ntmps94;go_wp2;go_ret;exact⟨rfl,Below.refl _ _⟩
  have hpos:0<(digs B6 n).length:=List.length_pos_iff.2 fun e=>h0 ((digs_eq_nil b6_2).1 e)
  have hne:(((digs B6 n).length:Int)==0)=false:=by rw[beq_eq_false_iff_ne];omega
  have HAT:=hid (fun i h=>digs_at i n h);have HOV:=hid (fun i=>digs_over (i:=i) (n:=n));have HE:=hid (show decE n=decDigits n from if_neg h0);have HDL:=hid hd;obtain⟨xs,hxs⟩:∃xs,digs B6 n=xs:=⟨_,rfl⟩;rw[hxs]at HPG HAT hpos hl hne HOV⊢;clear hv hpg hxs h0 hd;go_enter Tryz.func94,Tryz.ntmps94;go_wp2_with fail;go_loopw [3,4] (fun sv i wr=> ∃(k:Nat) (s:ByteArray),k<=xs.length/\i=.int .i64 k/\sv=.string s/\Hid (Wrote n (n/B6^k) s)/\Below w.heap.size w wr) (fun _ i _=>xs.length-(intOf i).toNat)
  case atStart=>exact⟨0,_,Nat.zero_le _,rfl,rfl,hid (by rw[Nat.pow_zero,Nat.div_one];unfold Wrote;simp),Below.refl _ _⟩
  obtain⟨i,s,hi,rfl,rfl,HW,hold⟩:=hrel;generalize wr=W1 at hold⊢
  by_cases hlt:i<xs.length
  . obtain⟨g,rfl,hg,_,_⟩:=HPG.out (fun e=>by subst e;simp at hlt);have hg1:=(hg.below hold).at0 i hlt;have hgl:=Nat.lt_of_lt_of_le hg.lt hold.size;rw[HAT.out i hlt]at hg1;unfold iCell at hg1;have hM:=(HOV.out i).2 hlt;have hM1:=HOV.out (i+1);rw[Nat.pow_succ, <-Nat.div_div_eq_div_mul,b6]at hM1;rw[b6]at hg1;have HNX:=hid (show n/B6^(i+1)=n/B6^i/1000000 by rw[Nat.pow_succ, <-Nat.div_div_eq_div_mul,b6]);obtain⟨M,hMM⟩:∃M,n/B6^i=M:=⟨_,rfl⟩;rw[b6]at HNX hMM HW;rw[hMM]at hg1 HNX HW;have hM':M≠0:=by rw[b6,hMM]at hM;exact hM
    have hM1':M/1000000≠0↔i+1<xs.length:=by rw[hMM]at hM1;exact hM1
    clear hM hM1 hMM;have hti:(i:Int)<(xs.length:Int):=by omega
    have hgm:0<=(M:Int)%1000000:=by omega
    go_upto_region 9 with(fail);go_loopw [3,5,6] (fun sv gv kv wr=> ∃(k G q:Nat) (s:ByteArray),k<=6/\kv=.int .i64 k/\gv=.int .i64 (G:Int)/\sv=.string s/\Hid (G=M%1000000/10^k/\q=M/10^k)/\Hid (Wrote n q s)/\Below w.heap.size w wr) (fun _ _ kv _=>6-(intOf kv).toNat)
    case atStart=>exact⟨0,M%1000000,M,s,by omega,rfl,rfl,rfl,hid (by simp),HW,hold⟩
    obtain⟨k,G,q,s2,hk6',rfl,rfl,rfl,HGQ,HW2,hold2⟩:=hrel;generalize wr=W2 at hold2⊢;obtain⟨hG,hq⟩:=HGQ.out;have hGb:G<1000000:=by rw[hG];exact Nat.lt_of_le_of_lt (Nat.div_le_self _ _) (by omega)
    by_cases hgo:k<6/\(i+1<xs.length\/0<G)
    . obtain⟨hk6,hgo2⟩:=hgo
      have hq0:q≠0:=by
        rw[hq];exact group_ne hk6 hG (hgo2.imp hM1'.2 id)
      by_cases hlast:i+1<xs.length
      . have hli:(i:Int)<(xs.length:Int)-1:=by omega
        have HS:=hid (HW2.out.step hq0);have hsz:=HW2.out.size (by rw[HE.out];exact HDL.out);have hGm:=group_mod M k hk6;rw[<-hG, <-hq]at hGm;have HG2:=hid (show G/10=M%1000000/10^(k+1) by rw[hG,Nat.div_div_eq_div_mul,Nat.pow_succ]);have HQ2:=hid (show q/10=M/10^(k+1) by rw[hq,Nat.div_div_eq_div_mul,Nat.pow_succ]);rw[<-hGm]at HS;obtain⟨c1,hc1⟩:∃c1,(⟨#[chr (G%10)]⟩:ByteArray)=c1:=⟨_,rfl⟩;rw[hc1]at HS;have hcv:=conv_one W2 (G%10) (by omega);rw[hc1]at hcv;have hc1s:c1.size=1:=by rw[<-hc1];rfl
        have hsum:c1.size+s2.size<=9223372036854775807:=by omega
        have ecv:((G%10:Nat):Int)=(G:Int)%10:=rfl;rw[ecv]at hcv;have hk6i:(k:Int)<6:=by omega
        clear hGm hq hG hc1 ecv hc1s;go_wp2;go_roundw
        case rel=>exact⟨k+1,G/10,q/10,_,by omega,by go_num,rfl,rfl,hid ⟨HG2.out,HQ2.out⟩,HS,hold2.alloc hold2.size _⟩
        case measure=>simp[intOf];omega
      have hli:¬(i:Int)<(xs.length:Int)-1:=by omega
      have hGi:(0:Int)<(G:Int):=by omega
      have HS:=hid (HW2.out.step hq0);have hsz:=HW2.out.size (by rw[HE.out];exact HDL.out);have hGm:=group_mod M k hk6;rw[<-hG, <-hq]at hGm;have HG2:=hid (show G/10=M%1000000/10^(k+1) by rw[hG,Nat.div_div_eq_div_mul,Nat.pow_succ]);have HQ2:=hid (show q/10=M/10^(k+1) by rw[hq,Nat.div_div_eq_div_mul,Nat.pow_succ]);rw[<-hGm]at HS;obtain⟨c1,hc1⟩:∃c1,(⟨#[chr (G%10)]⟩:ByteArray)=c1:=⟨_,rfl⟩;rw[hc1]at HS;have hcv:=conv_one W2 (G%10) (by omega);rw[hc1]at hcv;have hc1s:c1.size=1:=by rw[<-hc1];rfl
      have hsum:c1.size+s2.size<=9223372036854775807:=by omega
      have ecv:((G%10:Nat):Int)=(G:Int)%10:=rfl;rw[ecv]at hcv;have hk6i:(k:Int)<6:=by omega
      clear hGm hq hG hc1 ecv hc1s;go_wp2;go_roundw
      case rel=>exact⟨k+1,G/10,q/10,_,by omega,by go_num,rfl,rfl,hid ⟨HG2.out,HQ2.out⟩,HS,hold2.alloc hold2.size _⟩
      case measure=>simp[intOf];omega
    have hdone:Wrote n (M/1000000) s2:=by
      have h1:=HW2.out;have h2:=group_end hk6' hG hq (fun h=>hgo ⟨h.1,h.2.imp hM1'.1 id⟩)
      rwa [h2]at h1
    rw[<-HNX.out]at hdone;have HD:=hid hdone
    by_cases hk6:k<6
    . have hli:¬(i:Int)<(xs.length:Int)-1:=fun h=>hgo ⟨hk6,.inl (by omega)⟩
      have hG0:G=0:=Decidable.byContradiction fun h=>hgo ⟨hk6,.inr (by omega)⟩
      have hk6i:(k:Int)<6:=by omega
      clear hG hq hdone hgo;subst hG0;go_wp2;go_roundw
      case rel=>exact⟨i+1,s2,by omega,by go_num,rfl,HD,hold2⟩
      case measure=>simp[intOf];omega
    have hk6i:¬(k:Int)<6:=by omega
    clear hG hq hdone hgo;go_wp2;go_roundw
    case rel=>exact⟨i+1,s2,by omega,by go_num,rfl,HD,hold2⟩
    case measure=>simp[intOf];omega
  obtain rfl:i=xs.length:=by omega
  have hz:n/B6^xs.length=0:=Decidable.byContradiction fun h=>absurd ((HOV.out _).1 h) (by omega)
  have hs:s=⟨(decDigits n).toArray⟩:=by
    have h1:=HW.out;rw[hz]at h1;unfold Wrote at h1;rw[HE.out]at h1;have:s.data.toList=decDigits n:=by rw[h1];simp[decE]
    rw[<-this]
  have HS:=hid hs;clear hz hs;go_wp2;go_ret;exact⟨by rw[HS.out];rfl,hold⟩
end
section
theorem digs6_len_mono{n m:Nat}(h:(digs B6 n).length<(digs B6 m).length):n<m:=digs_len_mono b6_2 h
set_option maxRecDepth 100000 in
set_option maxHeartbeats 2000000 in
theorem rcmp_any(v u:Value)(n m:Nat)(w:World)(hv:RefV w v n)(hu:RefV w u m)(h1:(digs B6 n).length<=900000)(_h2:(digs B6 m).length<=900000):
    Calls Tryz.prog 80 #[v,u] w fun e w'=>e=.returned (.int .i64 (cmpN n m))/\Below w.heap.size w w':=by
  obtain⟨p,cp,rfl,hpg⟩:=GV.slice hv;obtain⟨q,cq,rfl,hqg⟩:=GV.slice hu;have HPG:=hid hpg;have HQG:=hid hqg
  by_cases hlt:(digs B6 n).length<(digs B6 m).length
  . have HE:=hid (cmpN_lt (digs6_len_mono hlt));clear hv hu hpg hqg HPG HQG;go_enter Tryz.func80,Tryz.ntmps80;go_wp2;go_ret;exact⟨by rw[HE.out];rfl,Below.refl _ _⟩
  by_cases hgt:(digs B6 m).length<(digs B6 n).length
  . have HE:=hid (cmpN_gt (digs6_len_mono hgt));clear hv hu hpg hqg HPG HQG;go_enter Tryz.func80,Tryz.ntmps80;go_wp2;go_ret;exact⟨by rw[HE.out];rfl,Below.refl _ _⟩
  have hl:(digs B6 n).length=(digs B6 m).length:=by omega
  have H1:=hid (digs_lt b6_2 n);have H2:=hid (digs_lt b6_2 m);have HN:=hid (val_digs b6_2 n);have HM:=hid (val_digs b6_2 m);obtain⟨xs,hxs⟩:∃xs,digs B6 n=xs:=⟨_,rfl⟩;obtain⟨ys,hys⟩:∃ys,digs B6 m=ys:=⟨_,rfl⟩;rw[hxs]at HPG H1 HN h1 hl⊢;rw[hys]at HQG H2 HM hl⊢;rw[<-hl];have HL:=hid hl;clear hv hu hpg hqg hxs hys _h2 hlt hgt hl;go_enter Tryz.func80,Tryz.ntmps80;go_wp2_with fail;go_loopw [5] (fun i wr=> ∃k:Nat,k<=xs.length/\i=.int .i64 ((k:Int)-1)/\Hid (xs.drop k=ys.drop k)/\Below w.heap.size w wr) (fun i _=>(intOf i+1).toNat)
  case atStart=>exact⟨xs.length,Nat.le_refl _,rfl,hid (by have:=HL.out;rw[List.drop_length,this,List.drop_length]),Below.refl _ _⟩
  obtain⟨k,hk,rfl,HD,hbw⟩:=hrel;generalize wr=W1 at hbw⊢
  by_cases hk0:k=0
  . subst hk0;have HE:=hid (show cmpN n m=0 by have:=HD.out;simp only[List.drop_zero]at this;rw[<-HN.out, <-HM.out,this];exact cmpN_eq _);go_wp2;go_ret;exact⟨by rw[HE.out];rfl,hbw⟩
  obtain⟨j,rfl⟩:∃j,k=j+1:=⟨k-1,by omega⟩;have hj:j<xs.length:=by omega
  have hj':j<ys.length:=by have:=HL.out;omega
  have ei:(((j+1:Nat):Int)-1)=(j:Int):=by omega
  rw[ei];clear ei;obtain⟨g,rfl,hg,_,_⟩:=HPG.out (fun e=>by subst e;simp at hj);obtain⟨g',rfl,hg',_,_⟩:=HQG.out (fun e=>by subst e;simp at hj');have g0:=(hg.below hbw).at0 j hj;have g1:=(hg'.below hbw).at0 j hj';unfold iCell at g0 g1;have gl:=Nat.lt_of_lt_of_le hg.lt hbw.size;have gl':=Nat.lt_of_lt_of_le hg'.lt hbw.size;have q0:0<=(j:Int):=by omega
  go_upto_region 8 with(fail);refine wp_region_staged (fun w'=>Below W1.heap.size W1 w') [0,0,0,1,0,0,0,1,0] (by kernel_rfl) (by kernel_rfl) (by kernel_rfl) (by exact(Below.refl _ _).drew) ?_
  rcases Nat.lt_trichotomy xs[j] ys[j]with hc|hc|hc
  . have HE:=hid (show cmpN n m= -1 by rw[<-HN.out, <-HM.out];exact cmpN_lt (val_lt_at b6_2 H1.out hj hj' HL.out HD.out hc));have hlt:((xs[j]:Nat):Int)<((ys[j]:Nat):Int):=by omega
    clear hc
    iterate 3 (refine zs0 ?_)
    refine zs2 ?_
    iterate 3 (refine zs0 ?_)
    refine zs2 ?_;refine zs0 ?_;refine lexEnd (fun w3 hw3=>?_);go_wp2;go_ret;exact⟨by rw[HE.out];rfl,hbw.trans (hw3.mono hbw.size)⟩
  . have HE:=hid (drop_same hj hj' HD.out hc);rw[<-hc]at g1;clear hc
    iterate 3 (refine zs0 ?_)
    refine zs2 ?_
    iterate 3 (refine zs0 ?_)
    refine zs2 ?_;refine zs0 ?_;refine lexEnd (fun w3 hw3=>?_);go_upto_region 10 with(fail);refine wp_region_staged (fun w'=>Below W1.heap.size W1 w') [0,0,0,1,0,0,0,1,0] (by kernel_rfl) (by kernel_rfl) (by kernel_rfl) (by exact hw3.drew) ?_
    iterate 3 (refine zs0 ?_)
    refine zs2 ?_
    iterate 3 (refine zs0 ?_)
    refine zs2 ?_;refine zs0 ?_;refine lexEnd (fun w4 hw4=>?_);go_wp2;go_roundw
    case rel=>exact⟨j,by omega,rfl,HE,hbw.trans (hw4.mono hbw.size)⟩
    case measure=>simp[intOf]
  have HE:=hid (show cmpN n m=1 by rw[<-HN.out, <-HM.out];exact cmpN_gt (val_lt_at b6_2 H2.out hj' hj HL.out.symm HD.out.symm hc));have hlt:((ys[j]:Nat):Int)<((xs[j]:Nat):Int):=by omega
  have hge:¬((xs[j]:Nat):Int)<((ys[j]:Nat):Int):=by omega
  clear hc
  iterate 3 (refine zs0 ?_)
  refine zs2 ?_
  iterate 3 (refine zs0 ?_)
  refine zs2 ?_;refine zs0 ?_;refine lexEnd (fun w3 hw3=>?_);go_upto_region 10 with(fail);refine wp_region_staged (fun w'=>Below W1.heap.size W1 w') [0,0,0,1,0,0,0,1,0] (by kernel_rfl) (by kernel_rfl) (by kernel_rfl) (by exact hw3.drew) ?_
  iterate 3 (refine zs0 ?_)
  refine zs2 ?_
  iterate 3 (refine zs0 ?_)
  refine zs2 ?_;refine zs0 ?_;refine lexEnd (fun w4 hw4=>?_);go_wp2;go_ret;exact⟨by rw[HE.out];rfl,hbw.trans (hw4.mono hbw.size)⟩
theorem RefV.zero(W:World):RefV W (.slice none 0 0) 0:=.inl ⟨digs_zero,_,_,rfl⟩
def cvL(xs ys:List Nat)(L k i:Nat):List Nat:=(List.range L).map fun t=>if t<k then cv xs ys t else if t=k then cv (xs.take i) ys k else 0
theorem cvL_set{xs ys:List Nat}{L k i x:Nat}(hx:x=cv (xs.take (i+1)) ys k):(cvL xs ys L k i).set k x=cvL xs ys L k (i+1):=by
  subst hx;refine List.ext_getElem (by simp[cvL]) fun t h1 h2=>?_
  rw[List.getElem_set];simp only[cvL,List.getElem_map,List.getElem_range]
  split
  . rename_i h;subst h;simp
  rename_i h
  have:t≠k:=fun e=>h e.symm
  simp[this]
structure MulR(W0:World)(D:Nat)(xs ys:List Nat)(L k i:Nat)(wr:World):Prop where
  arr:ArrI wr D (cvL xs ys L k i)
  old:Below D W0 wr
theorem MulR.step{W0 wr w':World}{D L:Nat}{xs ys:List Nat}{k i x y z:Nat}(h:MulR W0 D xs ys L k i wr)(hb:Below wr.heap.size wr w')(hz:cv (xs.take i) ys k=z)(hi:i<xs.length)(hx:xs[i]=x)(hy:ys.getD (k-i) 0=y)(hik:i<=k):
    MulR W0 D xs ys L k (i+1) (w'.setCell ⟨D,k,none⟩ (.int .i64 ((z+x*y:Nat):Int))):=by
  refine⟨?_,(h.old.trans (hb.mono (Nat.le_of_lt h.arr.lt))).setCell (p:=⟨D,k,none⟩) (Nat.le_refl _) _⟩;have:=(h.arr.below hb).store k (z+x*y)
  rwa [cvL_set (by rw[cv_take_succ _ _ _ _ hi hik,hz,hx,hy])]at this
def zCell(z:Int):Value:=.int .i64 z
theorem iCell_z(xs:List Nat):xs.map iCell=(xs.map fun x:Nat=>(x:Int)).map zCell:=by rw[List.map_map];rfl
def RowZ(W:World)(base:Nat)(v:Value)(zs:List Int):Prop:=W.ownsRow base 3 1 v zs.length (zs.map zCell)
theorem RowZ.of{W:World}{base:Nat}{v:Value}{xs:List Nat}(h:RowI W base v xs):RowZ W base v (xs.map fun x:Nat=>(x:Int)):=by
  unfold RowZ;rw[<-iCell_z,List.length_map];exact h
theorem RowZ.to{W:World}{base:Nat}{v:Value}{xs:List Nat}{zs:List Int}(h:RowZ W base v zs)(e:zs=xs.map fun x:Nat=>(x:Int)):RowI W base v xs:=by
  subst e;unfold RowZ at h;rw[<-iCell_z,List.length_map]at h;exact h
theorem RowZ.slice{W:World}{base:Nat}{v:Value}{zs:List Int}(h:RowZ W base v zs)(hn:zs≠[]):∃g cap,v=.slice (some ⟨g,0,none⟩) zs.length cap/\base<=g:=by
  have hk:0<zs.length:=List.length_pos_iff.2 hn;obtain⟨g,cap,rfl,hg,_⟩:=row1_cell h (by simp) (k:=0) (by simpa using hk);exact⟨g,cap,rfl,hg⟩
theorem RowZ.at{W:World}{base g cap n:Nat}{zs:List Int}(h:RowZ W base (.slice (some ⟨g,0,none⟩) n cap) zs){k:Nat}(hk:k<zs.length):W.cell? ⟨g,k,none⟩=some (.int .i64 zs[k]):=by
  obtain⟨g',cap',e0,_,hc⟩:=row1_cell h (by simp) (k:=k) (by simpa using hk)
  injection e0 with e1
  injection e1 with e1
  injection e1 with e1
  subst e1;rw[hc,List.getElem_map];rfl
theorem RowZ.lt{W:World}{base g cap n:Nat}{zs:List Int}(h:RowZ W base (.slice (some ⟨g,0,none⟩) n cap) zs):g<W.heap.size:=(row1_lt h g rfl).2
theorem RowZ.free{W:World}{base g cap n:Nat}{zs:List Int}(h:RowZ W base (.slice (some ⟨g,0,none⟩) n cap) zs)(hn:n=zs.length):∀o,W.frozen? ⟨g,o,none⟩=false:=by
  subst hn;exact row1_free h
theorem RowZ.below{W W':World}{base:Nat}{v:Value}{zs:List Int}(h:RowZ W base v zs)(hb:Below W.heap.size W W'):RowZ W' base v zs:=row_kept_low h hb
theorem RowZ.set{W:World}{base g cap n:Nat}{zs:List Int}(h:RowZ W base (.slice (some ⟨g,0,none⟩) n cap) zs)(hn:n=zs.length)(k:Nat)(hk:k<zs.length)(z:Int):RowZ (W.setCell ⟨g,k,none⟩ (.int .i64 z)) base (.slice (some ⟨g,0,none⟩) n cap) (zs.set k z):=by
  subst hn;have:=row1_set h k (zCell z) hk;unfold RowZ;rw[List.length_set,List.map_set];exact this
def subTail(b:Int):List Nat->List Int
  |[]=>[]
  |x::r=>((x:Int)-b)::r.map fun x:Nat=>(x:Int)
theorem subTail_zero(r:List Nat):subTail 0 r=r.map fun x:Nat=>(x:Int):=by cases r<;>simp[subTail]
structure SubR(W0:World)(v:Value)(xs ys:List Nat)(k b:Nat)(wr:World):Prop where
  row:∃os:List Nat,RowZ wr W0.heap.size v (os.map (fun x:Nat=>(x:Int))++subTail b (xs.drop k))/\os.length=k/\(∀x∈os,x<B6)/\val B6 os+val B6 (ys.take k)=val B6 (xs.take k)+B6^k*b
  old:Below W0.heap.size W0 wr
  b1:b<=1
theorem sub_last{xs ys os:List Nat}{L b:Nat}(hL:xs.length=L)(ho:os.length=L)(hb:∀x∈os,x<B6)(hv:val B6 os+val B6 (ys.take L)=val B6 (xs.take L)+B6^L*b)(hle:val B6 ys<=val B6 xs):b=0:=by
  have h1:val B6 os<B6^L:=by
    have:=val_lt b6_2 hb
    rwa [ho]at this
  rw[List.take_of_length_le (show xs.length<=L by omega)]at hv
  have h2:val B6 (ys.take L)<=val B6 ys:=by
    by_cases h:L<=ys.length
    . rw[val_take_drop ys L h];exact Nat.le_add_right _ _
    rw[List.take_of_length_le (by omega)];exact Nat.le_refl _
  rcases Nat.eq_zero_or_pos b with h|h
  . exact h
  have:B6^L*1<=B6^L*b:=Nat.mul_le_mul_left _ h;omega
theorem subr_val{xs ys os:List Nat}{k b x y t b':Nat}(ho:os.length=k)(hv:val B6 os+val B6 (ys.take k)=val B6 (xs.take k)+B6^k*b)(hx:val B6 (xs.take (k+1))=val B6 (xs.take k)+B6^k*x)(hy:val B6 (ys.take (k+1))=val B6 (ys.take k)+B6^k*y)
    (ht:t+b+y=x+1000000*b'):val B6 (os++[t])+val B6 (ys.take (k+1))=val B6 (xs.take (k+1))+B6^(k+1)*b':=by
  rw[val_snoc,hx,hy,ho,Nat.pow_succ,Nat.mul_assoc,b6];rw[b6]at hv;generalize (1000000:Nat)^k=p at*;have e:p*t+p*b+p*y=p*x+p*(1000000*b'):=by rw[<-Nat.mul_add, <-Nat.mul_add,ht,Nat.mul_add]
  omega
theorem at_mid(os:List Int)(z:Int)(r:List Int){k:Nat}(h:os.length=k)(hk:k<(os++z::r).length):(os++z::r)[k]=z:=by subst h;simp
theorem set_mid(os:List Int)(z z':Int)(r:List Int){k:Nat}(h:os.length=k):(os++z::r).set k z'=os++z'::r:=by subst h;simp
theorem set_mid1(os:List Int)(t z z':Int)(r:List Int){k:Nat}(h:os.length=k):(os++t::z::r).set (k+1) z'=os++t::z'::r:=by
  have:=set_mid (os++[t]) z z' r (k:=k+1) (by simp[h])
  simpa using this
theorem at_mid1(os:List Int)(t z:Int)(r:List Int){k:Nat}(h:os.length=k)(hk:k+1<(os++t::z::r).length):(os++t::z::r)[k+1]=z:=by
  subst h;simp
theorem SubR.keep{W0 wr w':World}{v:Value}{xs ys os r:List Nat}{k b x y t:Nat}(_h:SubR W0 v xs ys k b wr)(ho:os.length=k)(hob:∀x∈os,x<B6)(hv:val B6 os+val B6 (ys.take k)=val B6 (xs.take k)+B6^k*b)(hd:xs.drop k=x::r)(hk:k<xs.length)(hy:val B6 (ys.take (k+1))=val B6 (ys.take k)+B6^k*y)(ht:t+b+y=x)(hx1:x<1000000)
    (hrow:RowZ w' W0.heap.size v (os.map (fun x:Nat=>(x:Int))++((t:Nat):Int)::r.map fun x:Nat=>(x:Int))) (hold:Below W0.heap.size W0 w'):SubR W0 v xs ys (k+1) 0 w':=by
  have hx:xs[k]=x:=by rw[List.drop_eq_getElem_cons hk]at hd;exact(List.cons.inj hd).1
  have hr:xs.drop (k+1)=r:=by rw[List.drop_eq_getElem_cons hk]at hd;exact(List.cons.inj hd).2
  refine⟨⟨os++[t],?_,by simp[ho],fun z hz=>?_,subr_val ho hv (by rw[val_take_succ hk,hx]) hy (by omega)⟩,hold,by omega⟩
  . rw[hr,show((0:Nat):Int)=0 from rfl,subTail_zero]
    simpa using hrow
  rcases List.mem_append.1 hz with h1|h1
  . exact hob z h1
  simp only[List.mem_cons,List.not_mem_nil,or_false]at h1;rw[h1,b6];omega
theorem SubR.bor{W0 wr w':World}{v:Value}{xs ys os r:List Nat}{k b x y t x':Nat}(_h:SubR W0 v xs ys k b wr)(ho:os.length=k)(hob:∀x∈os,x<B6)(hv:val B6 os+val B6 (ys.take k)=val B6 (xs.take k)+B6^k*b)(hd:xs.drop k=x::x'::r)(hk:k<xs.length)(hy:val B6 (ys.take (k+1))=val B6 (ys.take k)+B6^k*y)(ht:t+b+y=x+1000000)(ht1:t<1000000)
    (hrow:RowZ w' W0.heap.size v (os.map (fun x:Nat=>(x:Int))++((t:Nat):Int)::(((x':Nat):Int)-1)::r.map fun x:Nat=>(x:Int))) (hold:Below W0.heap.size W0 w'):SubR W0 v xs ys (k+1) 1 w':=by
  have hx:xs[k]=x:=by rw[List.drop_eq_getElem_cons hk]at hd;exact(List.cons.inj hd).1
  have hr:xs.drop (k+1)=x'::r:=by rw[List.drop_eq_getElem_cons hk]at hd;exact(List.cons.inj hd).2
  refine⟨⟨os++[t],?_,by simp[ho],fun z hz=>?_,subr_val ho hv (by rw[val_take_succ hk,hx]) hy (by omega)⟩,hold,by omega⟩
  . rw[hr]
    simpa[subTail]using hrow
  rcases List.mem_append.1 hz with h1|h1
  . exact hob z h1
  simp only[List.mem_cons,List.not_mem_nil,or_false]at h1;rw[h1,b6];omega
theorem ys_here{ys:List Nat}{k:Nat}(h:k<ys.length):val B6 (ys.take (k+1))=val B6 (ys.take k)+B6^k*ys[k]:=val_take_succ h
theorem ys_gone{ys:List Nat}{k:Nat}(h:ys.length<=k):val B6 (ys.take (k+1))=val B6 (ys.take k)+B6^k*0:=by
  rw[List.take_of_length_le (by omega),List.take_of_length_le h];simp
theorem sub_more{xs ys os r:List Nat}{k b x y t:Nat}(ho:os.length=k)(hob:∀x∈os,x<B6)(hv:val B6 os+val B6 (ys.take k)=val B6 (xs.take k)+B6^k*b)(hd:xs.drop k=x::r)(hk:k<xs.length)(hy:val B6 (ys.take (k+1))=val B6 (ys.take k)+B6^k*y)(ht:t+b+y=x+1000000)(ht1:t<1000000)(hle:val B6 ys<=val B6 xs):∃x' r',r=x'::r':=by
  have hx:xs[k]=x:=by rw[List.drop_eq_getElem_cons hk]at hd;exact(List.cons.inj hd).1
  cases r with
  |cons x' r'=>exact⟨_,_,rfl⟩
  | nil=>
    have hl:xs.length=k+1:=by have:=congrArg List.length hd;rw[List.length_drop]at this;simp at this;omega
    have:=sub_last hl (os:=os++[t]) (by simp[ho]) (fun z hz=>by
      rcases List.mem_append.1 hz with h1|h1
      . exact hob z h1
      simp only[List.mem_cons,List.not_mem_nil,or_false]at h1;rw[h1,b6];exact ht1) (subr_val ho hv (by rw[val_take_succ hk,hx]) hy (b':=1) (by omega)) hle
    omega
set_option maxRecDepth 100000 in
set_option maxHeartbeats 4000000 in
theorem rsub_ok(v u:Value)(n m:Nat)(w:World)(hv:RefV w v n)(hu:RefV w u m)(h1:(digs B6 n).length<=900000)(h2:(digs B6 m).length<=900000)(hle:m<=n):
    Calls Tryz.prog 81 #[v,u] w fun e w'=> ∃v',e=.returned (.tuple #[v',.int .i64 0])/\RefV w' v' (n-m)/\Below w.heap.size w w':=by
  obtain⟨i0,hi,hz0,hz1,hz2⟩:=info_parts infoI;have HC:=hid (fun w1 (hb:Below w.heap.size w w1)=>rcmp_any v u n m w1 (hv.below hb) (hu.below hb) h1 h2);have hcn:¬cmpN n m<0:=by unfold cmpN;rw[if_neg (by omega)];split<;>omega
  obtain⟨p,cp,rfl,hpg⟩:=GV.slice hv;obtain⟨q,cq,rfl,hqg⟩:=GV.slice hu;have HPG:=hid hpg;have HQG:=hid hqg;have HXB:=hid (digs_lt b6_2 n);have HYB:=hid (digs_lt b6_2 m);have HVN:=hid (val_digs b6_2 n);have HVM:=hid (val_digs b6_2 m);obtain⟨xs,hxs⟩:∃xs,digs B6 n=xs:=⟨_,rfl⟩;obtain⟨ys,hys⟩:∃ys,digs B6 m=ys:=⟨_,rfl⟩;rw[hxs]at HPG HXB HVN HC h1⊢;rw[hys]at HQG HYB HVM HC h2⊢;have HLE:=hid (show val B6 ys<=val B6 xs by rw[HVN.out,HVM.out];exact hle);have HLEN:=hid hle;obtain⟨cm,hcm⟩:∃cm,cmpN n m=cm:=⟨_,rfl⟩;rw[hcm]at hcn HC;have HYS:=hid hys;clear hv hpg hxs hu hqg hys hle hcm;go_enter Tryz.func81,Tryz.ntmps81;go_upto_region 3 with(go_at_call 80;refine(HC.out _ (Below.refl _ _)).mono ?_;clear HC;rintro e w1 ⟨rfl,hw1⟩)
  have hpsrc:xs.length=0\/ ∃ad,p=some ad/\ ∀j u,(xs.map iCell)[j]?=some u->(w1.alloc (.cells #[] 3)).cell? (ad.add j)=some u:=by
    by_cases hx0:xs=[]
    . exact .inl (by rw[hx0];rfl)
    obtain⟨g,rfl,hg,_,_⟩:=HPG.out hx0;refine .inr ⟨_,rfl,fun j u hu=>?_⟩;have hgb:=(hg.below hw1).below ((Below.refl w1.heap.size w1).alloc (Nat.le_refl _) (.cells #[] 3));obtain⟨hi',rfl⟩:=List.getElem?_eq_some_iff.1 hu;rw[add_at,List.getElem_map];exact hgb.at0 j (by simpa using hi')
  go_upto_region 4 with(at_builtin;go_loud (refine wpList_append_two rfl _ _ 50 51 rfl w.heap.size 3 3 i0 _ 8 Tryz.underlying50 Tryz.underlying51 hi hz0 hz1 hz2 rfl _ 0 [] rfl (row_empty w1 3 _ hw1.size) p xs.length cp (xs.map iCell) rfl (by simp) hpsrc (all_i _) (by simp[maxLen];omega) (by omega) (by have:=hw1.size;simp;omega) ?_;intro v' w2 hown hgr;have hb2:=(hw1.alloc hw1.size _).grown hgr (by have:=hw1.size;simp;omega) (fun k' hk'=>by injection hk' with hk';subst hk';exact hw1.size)))
  have hrow0:RowI w2 w.heap.size v' xs:=by
    unfold RowI
    simpa using hown
  have hat0:SubR w v' xs ys 0 0 w2:=⟨⟨[],by have:=RowZ.of hrow0;rw[List.drop_zero,show((0:Nat):Int)=0 from rfl,subTail_zero];exact this,rfl,fun x h=>absurd h (List.not_mem_nil),by simp[val]⟩,hb2,by omega⟩;clear hrow0 hown hgr hb2 hpsrc hw1;generalize v'=o at hat0⊢;go_wp2_with fail;go_loopw [7] (fun i wr=> ∃k b:Nat,k<=xs.length/\i=.int .i64 k/\SubR w o xs ys k b wr) (fun i _=>xs.length-(intOf i).toNat)
  case atStart=>exact⟨0,0,Nat.zero_le _,rfl,hat0⟩
  clear hat0;obtain⟨k,b,hk,rfl,hat⟩:=hrel;generalize wr=W1 at hat⊢
  by_cases hlt:k<xs.length
  . obtain⟨os,hrow,hol,hob,hov⟩:=hat.row;have hold:=hat.old;have hb1:=hat.b1;have hxb:=HXB.out _ (List.getElem_mem hlt);obtain⟨x,hx⟩:∃x,xs[k]=x:=⟨_,rfl⟩;rw[hx,b6]at hxb;obtain⟨r,hr⟩:∃r,xs.drop k=x::r:=⟨_,by rw[List.drop_eq_getElem_cons hlt,hx]⟩;have hrl:k+1+r.length=xs.length:=by have:=congrArg List.length hr;rw[List.length_drop,List.length_cons]at this;omega
    have HKEEP:=hid (fun(w':World) (t y:Nat) hy ht hrow' hold'=>SubR.keep (w':=w') (t:=t) (y:=y) hat hol hob hov hr hlt hy ht hxb hrow' hold');have HBOR:=hid (fun(w':World) (t y x':Nat) (r':List Nat) (e:r=x'::r') hy ht ht1 hrow' hold'=>SubR.bor (w':=w') (t:=t) (y:=y) hat hol hob hov (hr.trans (by rw[e])) hlt hy ht ht1 hrow' hold');have HMORE:=hid (fun(t y:Nat) hy ht ht1=>sub_more (t:=t) (y:=y) hol hob hov hr hlt hy ht ht1 HLE.out);have HR3:=hid hr;rw[hr]at hrow;obtain⟨z,hz⟩:∃z:Int,(x:Int)-(b:Int)=z:=⟨_,rfl⟩;rw[show subTail (b:Int) (x::r)=((x:Int)-b)::r.map (fun x:Nat=>(x:Int))from rfl,hz]at hrow;have hos:(os.map (fun x:Nat=>(x:Int))).length=k:=by simpa using hol
    have hlen:∀t:Int,(os.map (fun x:Nat=>(x:Int))++t::r.map (fun x:Nat=>(x:Int))).length=xs.length:=fun t=>by rw[List.length_append,hos,List.length_cons,List.length_map];omega
    clear hat hx hr hob hov;obtain⟨g,cap,e0,hg⟩:=hrow.slice (by simp);rw[hlen]at e0;subst e0;have HZ:=hid hz;have c0:=hrow.at (k:=k) (by rw[hlen];exact hlt);rw[at_mid _ _ _ hos]at c0;have f0:=hrow.free (hlen z).symm;have hgl:=hrow.lt;clear hz;have hti:(k:Int)<(xs.length:Int):=by omega
    by_cases hyl:k<ys.length
    . have hyi:(k:Int)<(ys.length:Int):=by omega
      obtain⟨g',rfl,hg',_,_⟩:=HQG.out (fun e=>by subst e;simp at hyl);have g1:=(hg'.below hold).at0 k hyl;have gl':=Nat.lt_of_lt_of_le hg'.lt hold.size;have hyb:=HYB.out _ (List.getElem_mem hyl);have HY:=hid (ys_here hyl);obtain⟨y,hy⟩:∃y,ys[k]=y:=⟨_,rfl⟩;rw[hy]at g1 hyb HY;rw[b6]at hyb;unfold iCell at g1;obtain⟨tz,htz⟩:∃tz:Int,z-(y:Int)=tz:=⟨_,rfl⟩;have hzb:z<=1000000/\ -1<=z:=by have:=HZ.out;omega
      have hzb1:=hzb.1;have hzb2:=hzb.2;have HTZ:=hid (show(x:Int)-b-y=tz by rw[HZ.out];exact htz);clear hy hzb;have HW:=hid hrow;go_upto_region 8 with(fail);refine wp_region_staged (fun w'=>Below W1.heap.size W1 w') [0,0,0,1,0,0,0,1,0,0,2] (by kernel_rfl) (by kernel_rfl) (by kernel_rfl) (by exact(Below.refl _ _).drew) ?_
      iterate 3 (refine zs0 ?_)
      refine zs2 ?_
      iterate 3 (refine zs0 ?_)
      refine zs2 ?_
      iterate 2 (refine zs0 ?_)
      apply lexS (fun w'=>RowZ w' w.heap.size (.slice (some ⟨g,0,none⟩) xs.length cap) (os.map (fun x:Nat=>(x:Int))++tz::r.map (fun x:Nat=>(x:Int)))/\Below w.heap.size w w') rfl
      . intro w' hw';have hr':=HW.out.below hw';have c1:=hr'.at (k:=k) (by rw[hlen];exact hlt);rw[at_mid _ _ _ hos]at c1;have f1:=hr'.free (hlen z).symm;go_simp;refine⟨rfl,?_,(hold.trans (hw'.mono hold.size)).setCell (p:=⟨g,k,none⟩) hg _⟩;have:=hr'.set (hlen z).symm k (by rw[hlen];exact hlt) tz
        rwa [set_mid _ _ _ _ hos]at this
      simp only[Act.put];refine lexEnd (fun W5 hw5=>?_);obtain⟨HR,HB⟩:=hw5;clear c0 f0 g1 htz;have c1:=HR.at (k:=k) (by rw[hlen];exact hlt);rw[at_mid _ _ _ hos]at c1;have f1:=HR.free (hlen tz).symm;have hgl1:=HR.lt;have hzr:=HTZ.out
      by_cases hneg:tz<0
      . obtain⟨t,ht⟩:∃t:Nat,tz+1000000=(t:Int):=⟨(tz+1000000).toNat,by omega⟩;have htb:t<1000000:=by omega
        have hte:t+b+y=x+1000000:=by omega
        obtain⟨x',r',hre⟩:=HMORE.out t y HY.out hte htb;have HBO:=hid (fun w'=>HBOR.out w' t y x' r' hre HY.out hte htb);subst hre
        have hx':(x':Int)<=1000000:=by
          have h3:=HXB.out x' (by
            have:=HR3.out;rw[<-List.take_append_drop k xs,this];simp)
          rw[b6]at h3;omega
        clear hzr hte;go_upto_region 10 with(fail);go_upto_region 11 with(fail)
        obtain⟨W6,hW6,hR6,hB6⟩:∃W6,W6=W5.setCell ⟨g,k,none⟩ (.int .i64 (t:Int))/\RowZ W6 w.heap.size (.slice (some ⟨g,0,none⟩) xs.length cap) (os.map (fun x:Nat=>(x:Int))++(t:Int)::(x':Int)::r'.map (fun x:Nat=>(x:Int)))/\Below w.heap.size w W6:=by
          refine⟨_,rfl,?_,HB.setCell (p:=⟨g,k,none⟩) hg _⟩;have:=HR.set (hlen tz).symm k (by rw[hlen];exact hlt) (t:Int)
          rwa [set_mid _ _ _ _ hos]at this
        rw[<-hW6];clear hW6 c1 f1 hgl1;have hl6:(os.map (fun x:Nat=>(x:Int))++(t:Int)::(x':Int)::r'.map (fun x:Nat=>(x:Int))).length=xs.length:=hlen t;have hk1:k+1<xs.length:=by rw[List.length_cons]at hrl;omega
        have c2:=hR6.at (k:=k+1) (by rw[hl6];exact hk1);rw[at_mid1 _ _ _ _ hos]at c2;have f2:=hR6.free hl6.symm;have hgl2:=hR6.lt;have hR7:=hR6.set hl6.symm (k+1) (by rw[hl6];exact hk1) ((x':Int)-1);rw[set_mid1 _ _ _ _ _ hos]at hR7;have hk1i:(k:Int)+1<(xs.length:Int):=by omega
        go_wp2;go_roundw
        case rel=>exact⟨k+1,1,by omega,by go_num,HBO.out _ hR7 (hB6.setCell (p:=⟨g,k+1,none⟩) hg _)⟩
        case measure=>simp[intOf];omega
      obtain⟨t,rfl⟩:∃t:Nat,tz=(t:Int):=⟨tz.toNat,by omega⟩;have hK:=HKEEP.out W5 t y HY.out (by omega) HR HB;clear hzr;go_wp2;go_roundw
      case rel=>exact⟨k+1,0,by omega,by go_num,hK⟩
      case measure=>simp[intOf];omega
    have hyi:¬(k:Int)<(ys.length:Int):=by omega
    have HY:=hid (ys_gone (k:=k) (ys:=ys) (by omega));have HTZ:=hid (show(x:Int)-b-((0:Nat):Int)=z by rw[HZ.out];simp);have HR:=hrow;have HB:=hold;generalize z=tz at*;go_upto_region 9 with(fail);clear c0 f0 hgl;have c1:=HR.at (k:=k) (by rw[hlen];exact hlt);rw[at_mid _ _ _ hos]at c1;have f1:=HR.free (hlen tz).symm;have hgl1:=HR.lt;have hzr:=HTZ.out
    by_cases hneg:tz<0
    . obtain⟨t,ht⟩:∃t:Nat,tz+1000000=(t:Int):=⟨(tz+1000000).toNat,by omega⟩;have htb:t<1000000:=by omega
      have hte:t+b+0=x+1000000:=by omega
      obtain⟨x',r',hre⟩:=HMORE.out t 0 HY.out hte htb;have HBO:=hid (fun w'=>HBOR.out w' t 0 x' r' hre HY.out hte htb);subst hre
      have hx':(x':Int)<=1000000:=by
        have h3:=HXB.out x' (by
          have:=HR3.out;rw[<-List.take_append_drop k xs,this];simp)
        rw[b6]at h3;omega
      clear hzr hte;go_upto_region 10 with(fail);go_upto_region 11 with(fail)
      obtain⟨W6,hW6,hR6,hB6⟩:∃W6,W6=W1.setCell ⟨g,k,none⟩ (.int .i64 (t:Int))/\RowZ W6 w.heap.size (.slice (some ⟨g,0,none⟩) xs.length cap) (os.map (fun x:Nat=>(x:Int))++(t:Int)::(x':Int)::r'.map (fun x:Nat=>(x:Int)))/\Below w.heap.size w W6:=by
        refine⟨_,rfl,?_,HB.setCell (p:=⟨g,k,none⟩) hg _⟩;have:=HR.set (hlen tz).symm k (by rw[hlen];exact hlt) (t:Int)
        rwa [set_mid _ _ _ _ hos]at this
      rw[<-hW6];clear hW6 c1 f1 hgl1;have hl6:(os.map (fun x:Nat=>(x:Int))++(t:Int)::(x':Int)::r'.map (fun x:Nat=>(x:Int))).length=xs.length:=hlen t;have hk1:k+1<xs.length:=by rw[List.length_cons]at hrl;omega
      have c2:=hR6.at (k:=k+1) (by rw[hl6];exact hk1);rw[at_mid1 _ _ _ _ hos]at c2;have f2:=hR6.free hl6.symm;have hgl2:=hR6.lt;have hR7:=hR6.set hl6.symm (k+1) (by rw[hl6];exact hk1) ((x':Int)-1);rw[set_mid1 _ _ _ _ _ hos]at hR7;have hk1i:(k:Int)+1<(xs.length:Int):=by omega
      go_wp2;go_roundw
      case rel=>exact⟨k+1,1,by omega,by go_num,HBO.out _ hR7 (hB6.setCell (p:=⟨g,k+1,none⟩) hg _)⟩
      case measure=>simp[intOf];omega
    obtain⟨t,rfl⟩:∃t:Nat,tz=(t:Int):=⟨tz.toNat,by omega⟩;have hK:=HKEEP.out W1 t 0 HY.out (by omega) HR HB;clear hzr;go_wp2;go_roundw
    case rel=>exact⟨k+1,0,by omega,by go_num,hK⟩
    case measure=>simp[intOf];omega
  obtain rfl:k=xs.length:=by omega
  obtain⟨os,hrow,hol,hob,hov⟩:=hat.row;have hold:=hat.old;have hb0:=sub_last rfl hol hob hov HLE.out;subst hb0;rw[List.drop_length]at hrow;have hri:RowI W1 w.heap.size o os:=hrow.to (by simp[subTail]);have HT:=hid (without_any o os W1 hri.gv (by omega))
  have hve:val B6 os=n-m:=by
    have h3:val B6 (ys.take xs.length)=m:=by
      rw[<-HVM.out]
      by_cases h:xs.length<ys.length
      . exfalso
        have h4:=val_lt b6_2 HXB.out;rw[HVN.out]at h4;have h5:=HLEN.out;have h6:(digs B6 m).length<=xs.length:=digs_len_le b6_2 _ _ (by omega);rw[HYS.out]at h6;omega
      rw[List.take_of_length_le (by omega)]
    rw[h3,List.take_length,HVN.out]at hov;omega
  rw[<-digs_val b6_2 hob,hve]at HT;obtain⟨po,co,e0⟩:=row_slice hri;rw[hol]at e0;subst e0;clear hve hov hrow hri hat;have hti:¬(xs.length:Int)<(xs.length:Int):=by omega
  go_wp2_with (go_at_call 118;refine HT.out.mono ?_;clear HT;rintro e w3 ⟨v',rfl,hv',hw3⟩);go_ret2;exact⟨_,rfl,hv',hold.trans (hw3.mono hold.size)⟩
set_option maxRecDepth 100000 in
set_option maxHeartbeats 2000000 in
theorem ruint_any(v:Value)(n:Nat)(w:World)(hv:RefV w v n)(h1:(digs B6 n).length<=900000):
    Calls Tryz.prog 138 #[v] w fun e w'=>e=.returned (u64V n)/\Below w.heap.size w w':=by
  obtain⟨p,cp,rfl,hpg⟩:=GV.slice hv;have HPG:=hid hpg;have HXB:=hid (digs_lt b6_2 n);have HVN:=hid (val_digs b6_2 n);obtain⟨xs,hxs⟩:∃xs,digs B6 n=xs:=⟨_,rfl⟩;rw[hxs]at HPG HXB HVN h1⊢;obtain⟨u,hu⟩:∃u,u64V n=u:=⟨_,rfl⟩;have HU:=hid hu;rw[hu];clear hv hpg hxs hu;go_enter Tryz.func138,Tryz.ntmps138;go_wp2_with fail;go_loopw [4,5] (fun nv i wr=> ∃k T:Nat,k<=xs.length/\i=.int .i64 ((k:Int)-1)/\nv=.int .u64 (T:Int)/\T<18446744073709551616/\Hid (T=val B6 (xs.drop k))/\Below w.heap.size w wr) (fun _ i _=>(intOf i+1).toNat)
  case atStart=>exact⟨xs.length,0,Nat.le_refl _,rfl,rfl,by omega,hid (by rw[List.drop_length];rfl),Below.refl _ _⟩
  obtain⟨k,T,hk,rfl,rfl,hT,HT,hbw⟩:=hrel;generalize wr=W1 at hbw⊢
  by_cases hk0:k=0
  . subst hk0
    have HE:=hid (show u=.tuple #[.int .u64 (T:Int),.bool true] by
      have e:T=n:=by have:=HT.out;rw[List.drop_zero]at this;rw[this,HVN.out]
      rw[<-HU.out];unfold u64V;rw[<-e,if_pos hT,decide_eq_true hT])
    go_wp2;go_ret2;exact⟨HE.out.symm▸rfl,hbw⟩
  obtain⟨j,rfl⟩:∃j,k=j+1:=⟨k-1,by omega⟩;have hj:j<xs.length:=by omega
  have ei:(((j+1:Nat):Int)-1)=(j:Int):=by omega
  rw[ei];clear ei;obtain⟨g,rfl,hg,_,_⟩:=HPG.out (fun e=>by subst e;simp at hj);have g0:=(hg.below hbw).at0 j hj;unfold iCell at g0;have gl:=Nat.lt_of_lt_of_le hg.lt hbw.size;have q0:0<=(j:Int):=by omega
  have hx1:=HXB.out _ (List.getElem_mem hj);rw[b6]at hx1;obtain⟨x,hx⟩:∃x,xs[j]=x:=⟨_,rfl⟩;have HN:=hid (show x+1000000*T=val B6 (xs.drop j) by rw[val_drop hj, <-HT.out,hx,b6]);rw[hx]at g0 hx1;clear hx
  by_cases hbig:(18446744073709551615-x)/1000000<T
  . have HE:=hid (show u=.tuple #[.int .u64 0,.bool false] by
      have e:¬n<18446744073709551616:=by
        have h3:=val_take_drop (B:=B6) xs j (by omega);rw[HVN.out, <-HN.out]at h3;have h4:1*(x+1000000*T)<=B6^j*(x+1000000*T):=Nat.mul_le_mul_right _ (Nat.pow_pos (by decide));omega
      rw[<-HU.out];unfold u64V;rw[if_neg e,decide_eq_false e])
    have q:(18446744073709551615-(x:Int))/1000000<(T:Int):=by omega
    clear hbig;go_wp2;go_ret2;exact⟨HE.out.symm▸rfl,hbw⟩
  have q:¬(18446744073709551615-(x:Int))/1000000<(T:Int):=by omega
  have hb:x+1000000*T<18446744073709551616:=by omega
  have hbi:(T:Int)*1000000+(x:Int)<=18446744073709551615:=by omega
  clear hbig;go_upto_region 8 with(fail);have e2:(T:Int)*1000000+(x:Int)=((x+1000000*T:Nat):Int):=by omega
  obtain⟨t,ht⟩:∃t,x+1000000*T=t:=⟨_,rfl⟩;rw[ht]at hb e2 HN;clear q ht;go_wp2;go_roundw
  case rel=>exact⟨j,t,by omega,by go_num,rfl,hb,HN,hbw⟩
  case measure=>simp[intOf]
structure HalfAt(W0:World)(D L:Nat)(xs:List Nat)(k od:Nat)(wr:World):Prop where
  arr:∃ys,ArrI wr D ys/\ys.length=L/\(∀y∈ys,y<B6)/\val B6 (ys.drop k)*2+od=val B6 (xs.drop k)
  old:Below D W0 wr
  o1:od<=1
theorem HalfAt.step{W0 wr:World}{D L:Nat}{xs:List Nat}{j od x:Nat}(h:HalfAt W0 D L xs (j+1) od wr)(hL:xs.length=L)(hj:j<xs.length)(hx:xs[j]=x)(hx1:x<1000000):
    HalfAt W0 D L xs j ((od*1000000+x)%2) (wr.setCell ⟨D,j,none⟩ (.int .i64 (((od*1000000+x)/2:Nat):Int))):=by
  have ho:=h.o1;obtain⟨⟨ys,h1,h2,h3,h4⟩,h5,_⟩:=h;refine⟨⟨ys.set j ((od*1000000+x)/2),h1.store _ _,by simpa using h2,all_set h3 (by rw[b6];omega),?_⟩,h5.setCell (p:=⟨D,j,none⟩) (Nat.le_refl _) _,by omega⟩;rw[val_drop_set (by omega),val_drop hj,hx, <-h4,b6];omega
theorem digs6_mul{n m:Nat}(hm:m<=1000000){L:Nat}(h:(digs B6 n).length<=L):(digs B6 (n*m)).length<=L+2:=by
  refine digs_len_le b6_2 _ _ ?_;have h1:=val_lt b6_2 (digs_lt b6_2 n);rw[val_digs b6_2]at h1;have h2:n<B6^L:=Nat.lt_of_lt_of_le h1 (Nat.pow_le_pow_right (by decide) h);rw[Nat.pow_add];refine Nat.lt_of_lt_of_le (Nat.mul_lt_mul_of_lt_of_le h2 hm (by decide)) (Nat.mul_le_mul_left _ (by decide))
theorem digs6_mono{n m:Nat}(h:n<=m){L:Nat}(hm:(digs B6 m).length<=L):(digs B6 n).length<=L:=by
  refine digs_len_le b6_2 _ _ ?_;have h1:=val_lt b6_2 (digs_lt b6_2 m);rw[val_digs b6_2]at h1;exact Nat.lt_of_lt_of_le (Nat.lt_of_le_of_lt h h1) (Nat.pow_le_pow_right (by decide) hm)
set_option maxRecDepth 100000 in
set_option maxHeartbeats 2000000 in
theorem fits_any(v u:Value)(n m:Nat)(w:World)(hv:RefV w v n)(hu:RefV w u m)(hm:0<m)(hlt:n<B6*m)(h1:(digs B6 n).length<=100000)(h2:(digs B6 m).length<=100000):
    Calls Tryz.prog 139 #[v,u] w fun e w'=>e=.returned (.int .i64 ((n/m:Nat):Int))/\Below w.heap.size w w':=by
  have HT:=hid (fun(k:Nat) (hk:k<=1000000) w1 (hb:Below w.heap.size w w1)=>times_any u m k w1 (hu.below hb) (by omega) (by omega));have HC:=hid (fun(x:Value) (k:Nat) (hk:k<=1000000) w1 (hb:Below w.heap.size w w1) (hx:RefV w1 x (m*k))=>rcmp_any x v (m*k) n w1 hx (hv.below hb) (by have:=digs6_mul (n:=m) (m:=k) hk h2;omega) (by omega));have HQ:=hid (show n/m<1000000 by rw[Nat.div_lt_iff_lt_mul hm];rw[b6]at hlt;exact hlt);have HM:=hid hm;clear hv hu h1 h2 hlt hm;go_enter Tryz.func139,Tryz.ntmps139;go_wp2_with fail;go_loopw [5,6] (fun lv mv wr=> ∃a b:Nat,lv=.int .i64 (a:Int)/\mv=.int .i64 (b:Int)/\a<=b/\b<=999999/\Hid (a<=n/m/\n/m<=b)/\Below w.heap.size w wr) (fun lv mv _=>(intOf mv).toNat-(intOf lv).toNat)
  case atStart=>exact⟨0,999999,rfl,rfl,by omega,by omega,hid ⟨Nat.zero_le _,by have:=HQ.out;omega⟩,Below.refl _ _⟩
  obtain⟨a,b,rfl,rfl,hab,hb9,HR,hbw⟩:=hrel;generalize wr=W1 at hbw⊢
  by_cases hlt:a<b
  . have hlti:(a:Int)<(b:Int):=by omega
    obtain⟨k,hk,hka,hkb⟩:∃k:Nat,((a:Int)+(b:Int)+1)/2=(k:Int)/\a<k/\k<=b:=⟨(a+b+1)/2,by omega,by omega,by omega⟩;have HT1:=hid (HT.out k (by omega) W1 hbw);have HC1:=hid (HC.out · k (by omega) · · ·);have hks:0<=((a:Int)+(b:Int)+1)/2:=by omega
    by_cases hle:m*k<=n
    . have HE:=hid (show cmpN (m*k) n<=0 by unfold cmpN;split<;>(try split)<;>omega);have hq:k<=n/m:=by rw[Nat.le_div_iff_mul_le HM.out,Nat.mul_comm];exact hle
      have HR2:=hid (show k<=n/m/\n/m<=b from⟨hq,HR.out.2⟩);obtain⟨cm,hcm⟩:∃cm,cmpN (m*k) n=cm:=⟨_,rfl⟩;rw[hcm]at HE HC1;have hce:=HE.out;clear hcm hle hq;go_upto_region 4 with(fail)
      go_wp2_with (first
        |(go_at_call 140;refine HT1.out.mono ?_;clear HT1;rintro e W2 ⟨x,rfl,hx,hw2⟩;have hb2:=hbw.trans (hw2.mono hbw.size))
        |(go_at_call 80;refine(HC1.out _ _ hb2 hx).mono ?_;clear HC1;rintro e W3 ⟨rfl,hw3⟩))
      go_roundw
      case rel=>exact⟨k,b,rfl,rfl,by omega,hb9,HR2,hb2.trans (hw3.mono hb2.size)⟩
      case measure=>simp[intOf];omega
    have HE:=hid (show ¬cmpN (m*k) n<=0 by unfold cmpN;rw[if_neg (by omega),if_pos (by omega)];decide);have hq:n/m<k:=by rw[Nat.div_lt_iff_lt_mul HM.out,Nat.mul_comm];omega
    have HR2:=hid (show a<=n/m/\n/m<=k-1 from⟨HR.out.1,by omega⟩);obtain⟨cm,hcm⟩:∃cm,cmpN (m*k) n=cm:=⟨_,rfl⟩;rw[hcm]at HE HC1;have hce:=HE.out;clear hcm hle hq;go_upto_region 4 with(fail)
    go_wp2_with (first
      |(go_at_call 140;refine HT1.out.mono ?_;clear HT1;rintro e W2 ⟨x,rfl,hx,hw2⟩;have hb2:=hbw.trans (hw2.mono hbw.size))
      |(go_at_call 80;refine(HC1.out _ _ hb2 hx).mono ?_;clear HC1;rintro e W3 ⟨rfl,hw3⟩))
    go_roundw
    case rel=>exact⟨a,k-1,rfl,by congr 1;omega,by omega,by omega,HR2,hb2.trans (hw3.mono hb2.size)⟩
    case measure=>simp[intOf];omega
  have e:a=n/m:=by have:=HR.out;omega
  have HE:=hid e;clear e;have hlti:¬(a:Int)<(b:Int):=by omega
  go_wp2;go_ret;refine⟨?_,hbw⟩
  show _=Ending.returned (.int .i64 ((n/m:Nat):Int))
  rw[<-HE.out];rfl
set_option maxRecDepth 100000 in
set_option maxHeartbeats 2000000 in
theorem without_own(v:Value)(xs:List Nat)(w:World)(hv:GV w v xs)(hl:xs.length<=1000000):
    Calls Tryz.prog 118 #[v] w fun e w'=> ∃v',e=.returned v'/\RowI w' w.heap.size v' (trimD xs)/\Below w.heap.size w w':=by
  obtain⟨i0,hi,hz0,hz1,hz2⟩:=info_parts infoI;obtain⟨p,c,rfl,hpg⟩:=hv.slice;clear hv;go_enter Tryz.func118,Tryz.ntmps118;go_wp2_with fail;go_loop [0] (fun n=> ∃k:Nat,k<=xs.length/\n=.slice p k c/\Hid (trimD xs=trimD (xs.take k))) (fun n=>sliceLen n)
  case atStart=>exact⟨xs.length,Nat.le_refl _,rfl,hid (by rw[List.take_length])⟩
  obtain⟨k,hk,rfl,HT⟩:=hrel
  by_cases hk0:k=0
  . subst hk0;have HE:=hid (show trimD xs=[]from HT.out);go_wp2_with (at_builtin;go_loud (refine wpList_append_two rfl _ _ 51 50 rfl w.heap.size 3 3 i0 _ 8 Tryz.underlying51 Tryz.underlying50 hi hz0 hz1 hz2 rfl _ 0 [] rfl (row_empty w 3 _ (Nat.le_refl _)) p 0 c (([]:List Nat).map iCell) rfl (by simp;try omega) (.inl rfl) (all_i _) (by simp[maxLen];try omega) (by omega) (by simp) ?_;intro v' w2 hown hgr;have hb2:=((Below.refl w.heap.size w).alloc (Nat.le_refl _) _).grown hgr (by simp) (fun k' hk'=>by injection hk' with hk';subst hk';exact Nat.le_refl _)));go_ret;exact⟨_,rfl,by rw[HE.out];exact hown,hb2⟩
  obtain⟨j,rfl⟩:∃j,k=j+1:=⟨k-1,by omega⟩;have hj:j<xs.length:=by omega
  obtain⟨g,rfl,hg,hc1,hc2⟩:=hpg (fun e=>by subst e;simp at hj);have g0:=hg.at0 j hj;unfold iCell at g0;have hgt:(0:Int)<((j+1:Nat):Int):=by omega
  have hgl:=hg.lt
  by_cases hz:xs[j]=0
  . rw[hz]at g0;have HZ:=hid (trim_take_zero hk hz);clear hz;go_wp2;go_round
    case rel=>exact⟨j,by omega,rfl,hid (HT.out.trans HZ.out)⟩
    case measure=>simp[sliceLen]
  have hzi:(((xs[j]:Nat):Int)==0)=false:=by rw[beq_eq_false_iff_ne];omega
  have HE:=hid (HT.out.trans (trim_take_last hk hz));clear hz
  have hcell:∀t,∀i u,((xs.take (j+1)).map iCell)[i]?=some u->(w.alloc (.cells #[] t)).cell? ((⟨g,0,none⟩:Addr).add i)=some u:=by
    intro t i u hu;rw[add_at,((Below.refl w.heap.size w).alloc (Nat.le_refl _) _).cell (p:=⟨g,i,none⟩) hgl];obtain⟨hi',rfl⟩:=List.getElem?_eq_some_iff.1 hu;rw[List.length_map,List.length_take]at hi';rw[hg.at0 i (by omega)];simp
  go_wp2_with (at_builtin;go_loud (refine wpList_append_two rfl _ _ 51 50 rfl w.heap.size 3 3 i0 _ 8 Tryz.underlying51 Tryz.underlying50 hi hz0 hz1 hz2 rfl _ 0 [] rfl (row_empty w 3 _ (Nat.le_refl _)) (some ⟨g,0,none⟩) (j+1) c ((xs.take (j+1)).map iCell) rfl (by simp;try omega) (.inr ⟨_,rfl,hcell _⟩) (all_i _) (by simp[maxLen];try omega) (by omega) (by simp) ?_;intro v' w2 hown hgr;have hb2:=((Below.refl w.heap.size w).alloc (Nat.le_refl _) _).grown hgr (by simp) (fun k' hk'=>by injection hk' with hk';subst hk';exact Nat.le_refl _)));go_ret;refine⟨_,rfl,?_,hb2⟩;rw[HE.out];unfold RowI;rw[List.length_take,Nat.min_eq_left hk]
  simpa using hown
theorem RowI.far{W:World}{base G k:Nat}{v u:Value}{xs:List Nat}(h:RowI W base v xs)(hG:G<base):RowI (W.setCell ⟨G,k,none⟩ u) base v xs:=by
  refine⟨h.1,?_⟩
  rcases h.2 with h2|⟨g,cap,cur,e,hg,hb,r⟩
  . exact .inl h2
  exact .inr ⟨g,cap,cur,e,hg,by rw[setCell_far _ (by omega)];exact hb,r⟩
theorem rdivmod_zero(v u:Value)(n:Nat)(w:World)(hv:RefV w v n)(hu:RefV w u 0):
    Calls Tryz.prog 120 #[v,u] w fun e w'=>e=.returned (.tuple #[.slice none 0 0,.slice none 0 0,.int .i64 10])/\Below w.heap.size w w':=by
  obtain⟨p,cp,rfl,_⟩:=GV.slice hv;obtain⟨q,cq,rfl,_⟩:=GV.slice hu;rw[digs_zero];clear hv hu;go_enter Tryz.func120,Tryz.ntmps120;go_wp2;exact bodyPost_ret (v:=.tuple #[.slice none 0 0,.slice none 0 0,.int .i64 10]) (by simp[results,Tryz.results120,go_sem]) rfl ⟨rfl,Below.refl _ _⟩
set_option maxRecDepth 100000 in
set_option maxHeartbeats 2000000 in
theorem rdivmod_64(v u:Value)(n m:Nat)(w:World)(hv:RefV w v n)(hu:RefV w u m)(hm:m≠0)(hn:n<18446744073709551616)(hm1:m<18446744073709551616):
    Calls Tryz.prog 120 #[v,u] w fun e w'=> ∃x y,e=.returned (.tuple #[x,y,.int .i64 0])/\RefV w' x (n/m)/\RefV w' y (n%m)/\Below w.heap.size w w':=by
  have l1:(digs B6 n).length<=4:=digs_len_le b6_2 _ _ (Nat.lt_trans hn (by decide));have l2:(digs B6 m).length<=4:=digs_len_le b6_2 _ _ (Nat.lt_trans hm1 (by decide));have HU:=hid (fun w1 (hb:Below w.heap.size w w1)=>ruint_any v n w1 (hv.below hb) (by omega));have HU':=hid (fun w1 (hb:Below w.heap.size w w1)=>ruint_any u m w1 (hu.below hb) (by omega));unfold u64V at HU HU';rw[if_pos hn,decide_eq_true hn]at HU;rw[if_pos hm1,decide_eq_true hm1]at HU'
  have hl:(((digs B6 m).length:Int)==0)=false:=by
    rw[beq_eq_false_iff_ne];intro e;exact hm ((digs_eq_nil b6_2).1 (List.eq_nil_of_length_eq_zero (by omega)))
  obtain⟨p,cp,rfl,_⟩:=GV.slice hv;obtain⟨q,cq,rfl,_⟩:=GV.slice hu;have HO1:=hid (fun w1=>rof_any (n/m) w1 (Nat.lt_of_le_of_lt (Nat.div_le_self _ _) hn));have HO2:=hid (fun w1=>rof_any (n%m) w1 (by have:=Nat.mod_lt n (Nat.pos_of_ne_zero hm);omega))
  have hq1:(n:Int)/(m:Int)<18446744073709551616:=by
    have e:(n:Int)/(m:Int)=((n/m:Nat):Int):=rfl;have:=Nat.div_le_self n m;rw[e];omega
  have hq2:0<=(n:Int)/(m:Int):=Int.natCast_nonneg (n/m)
  have hr1:(n:Int)%(m:Int)<18446744073709551616:=by
    have e:(n:Int)%(m:Int)=((n%m:Nat):Int):=rfl;have:=Nat.mod_le n m;rw[e];omega
  have hr2:0<=(n:Int)%(m:Int):=Int.natCast_nonneg (n%m);have hmi:¬m=0:=hm;clear hv hu l1 l2;go_enter Tryz.func120,Tryz.ntmps120;go_upto_region 4 with(go_at_call 138;refine(HU.out _ (Below.refl _ _)).mono ?_;clear HU;rintro e W1 ⟨rfl,hw1⟩);go_upto_region 6 with(go_at_call 138;refine(HU'.out _ hw1).mono ?_;clear HU';rintro e W2 ⟨rfl,hw2⟩;have hb2:=hw1.trans (hw2.mono hw1.size));refine wp_region_float (W2) [] [0,0,0,2,0,0,0,2,0,0,0] (by kernel_rfl) (by kernel_rfl) (by kernel_rfl) (by kernel_rfl) (KS.drew (KS.start W2)) ?_
  iterate 3 (refine zs3 ?_)
  apply lxE0 (α:=Value) (fun vv=>vv) (fun vv=>[fun w=>RefV w vv (n/m)]) (wants0 rfl)
  . intro w' h0 hK;go_simp;(try go_bits);refine(HO1.out w').mono ?_;rintro e w5 ⟨x,rfl,hx,hb⟩;exact⟨_,rfl,hb,fun w6 h6=>hx.below h6⟩
  intro v34;refine zs4 ?_
  iterate 3 (refine zs3 ?_)
  apply lxE0 (α:=Value) (fun vv=>vv) (fun vv=>[fun w=>RefV w vv (n%m)]) (wants0 rfl)
  . intro w' h0 hK;go_simp;(try go_bits);refine(HO2.out w').mono ?_;rintro e w5 ⟨x,rfl,hx,hb⟩;exact⟨_,rfl,hb,fun w6 h6=>hx.below h6⟩
  intro v38;refine zs4 ?_
  iterate 3 (refine zs3 ?_)
  refine lxEnd (fun W9 hK9=>?_);go_wp2;exact bodyPost_ret (v:=.tuple #[v34,v38,.int .i64 0]) (by simp[results,Tryz.results120,go_sem]) rfl ⟨_,_,rfl,hK9.get (F:=fun w=>RefV w v34 (n/m)) zsm,hK9.get (F:=fun w=>RefV w v38 (n%m)) zsm,hb2.trans (hK9.old.mono hb2.size)⟩
theorem row_one(W:World)(t:TypeId)(x:Value)(base:Nat)(hb:base<=W.heap.size):(W.alloc (.cells #[x] t)).ownsRow base t 1 (.slice (some ⟨W.heap.size,0,none⟩) 1 1) 1 [x]:=
  ⟨rfl,.inr ⟨W.heap.size,1,#[x],rfl,hb,heap_new W _,Nat.le_refl _,by unfold maxLen;omega,rfl,rfl⟩⟩
structure RDivAt(w:World)(G:Nat)(xs:List Nat)(m k r:Nat)(rv:Value)(wr:World):Prop where
  q:∃qs,ArrI wr G qs/\qs.length=xs.length/\(∀q∈qs,q<B6)/\val B6 (qs.drop k)=val B6 (xs.drop k)/m
  rest:RefV wr rv r
  rem:r=val B6 (xs.drop k)%m
  old:Below w.heap.size w wr
  gb:w.heap.size<=G
theorem div_group{x D m:Nat}(hm:0<m):(x+B6*D)/m=(x+B6*(D%m))/m+B6*(D/m)/\(x+B6*D)%m=(x+B6*(D%m))%m:=by
  have h:=Nat.div_add_mod D m
  have e:x+B6*D=(x+B6*(D%m))+m*(B6*(D/m)):=by
    conv=>lhs;rw[<-h]
    rw[Nat.mul_add,show B6*(m*(D/m))=m*(B6*(D/m)) by ac_rfl];omega
  exact⟨by rw[e,Nat.add_mul_div_left _ _ hm],by rw[e,Nat.add_mul_mod_self_left]⟩
set_option maxRecDepth 100000 in
set_option maxHeartbeats 4000000 in
theorem rdivmod_big(v u:Value)(n m:Nat)(w:World)(hv:RefV w v n)(hu:RefV w u m)(hm:m≠0)(hbig:¬(n<18446744073709551616/\m<18446744073709551616))(l1:(digs B6 n).length<=50000)(l2:(digs B6 m).length<=50000):
    Calls Tryz.prog 120 #[v,u] w fun e w'=> ∃x y,e=.returned (.tuple #[x,y,.int .i64 0])/\RefV w' x (n/m)/\RefV w' y (n%m)/\Below w.heap.size w w':=by
  obtain⟨i0,hi,hz0,hz1,hz2⟩:=info_parts infoI;have HU:=hid (fun w1 (hb:Below w.heap.size w w1)=>ruint_any v n w1 (hv.below hb) (by omega));have HU':=hid (fun w1 (hb:Below w.heap.size w w1)=>ruint_any u m w1 (hu.below hb) (by omega));unfold u64V at HU HU'
  have hl:(((digs B6 m).length:Int)==0)=false:=by
    rw[beq_eq_false_iff_ne];intro e;exact hm ((digs_eq_nil b6_2).1 (List.eq_nil_of_length_eq_zero (by omega)))
  have HM:=hid (Nat.pos_of_ne_zero hm)
  have HFT:=hid (fun(x:Value) (t:Nat) w1 (hb:Below w.heap.size w w1) (hx:RefV w1 x t) (ht:t<B6*m)=>fits_any x u t m w1 hx (hu.below hb) HM.out ht (by
    have h3:=val_lt b6_2 (digs_lt b6_2 m);rw[val_digs b6_2]at h3
    have h4:t<B6^((digs B6 m).length+1):=by
      rw[Nat.pow_succ,Nat.mul_comm];exact Nat.lt_of_lt_of_le ht (Nat.mul_le_mul_left _ (Nat.le_of_lt h3))
    have:=digs_len_le b6_2 _ _ h4;omega) (by omega))
  have HTM:=hid (fun(k:Nat) (hk:k<1000000) w1 (hb:Below w.heap.size w w1)=>times_any u m k w1 (hu.below hb) (by omega) (by omega))
  have HSB:=hid (fun(x y:Value) (t k:Nat) w1 (hx:RefV w1 x t) (hy:RefV w1 y (m*k)) (ht:t<B6*m) (hle:m*k<=t)=>rsub_ok x y t (m*k) w1 hx hy (by
    have h3:=val_lt b6_2 (digs_lt b6_2 m);rw[val_digs b6_2]at h3
    have h4:t<B6^((digs B6 m).length+1):=by
      rw[Nat.pow_succ,Nat.mul_comm];exact Nat.lt_of_lt_of_le ht (Nat.mul_le_mul_left _ (Nat.le_of_lt h3))
    have:=digs_len_le b6_2 _ _ h4;omega) (by
    have h3:=val_lt b6_2 (digs_lt b6_2 m);rw[val_digs b6_2]at h3
    have h4:t<B6^((digs B6 m).length+1):=by
      rw[Nat.pow_succ,Nat.mul_comm];exact Nat.lt_of_lt_of_le ht (Nat.mul_le_mul_left _ (Nat.le_of_lt h3))
    have:=digs_len_le b6_2 _ _ (Nat.lt_of_le_of_lt hle h4);omega) hle)
  obtain⟨p,cp,rfl,hpg⟩:=GV.slice hv;obtain⟨q,cq,rfl,_⟩:=GV.slice hu;have HPG:=hid hpg;have HXB:=hid (digs_lt b6_2 n);have HVN:=hid (val_digs b6_2 n);obtain⟨xs,hxs⟩:∃xs,digs B6 n=xs:=⟨_,rfl⟩;rw[hxs]at HPG HXB HVN l1 HU⊢;obtain⟨n64,hn64⟩:∃n64:Int,(if n<18446744073709551616 then(n:Int)else 0)=n64:=⟨_,rfl⟩;obtain⟨m64,hm64⟩:∃m64:Int,(if m<18446744073709551616 then(m:Int)else 0)=m64:=⟨_,rfl⟩;rw[hn64]at HU;rw[hm64]at HU';obtain⟨lm,hlm⟩:∃lm,(digs B6 m).length=lm:=⟨_,rfl⟩;rw[hlm]at HU' hl l2 HFT HTM⊢;have HLM:=hid hlm;clear hv hu hpg hxs hn64 hm64 hlm hm;go_enter Tryz.func120,Tryz.ntmps120;go_upto_region 4 with(go_at_call 138;refine(HU.out _ (Below.refl _ _)).mono ?_;clear HU;rintro e W1 ⟨rfl,hw1⟩);go_upto_region 5 with(go_at_call 138;refine(HU'.out _ hw1).mono ?_;clear HU';rintro e W2 ⟨rfl,hw2⟩;have hb2:=hw1.trans (hw2.mono hw1.size))
  by_cases hn:n<18446744073709551616
  . have hm1:¬m<18446744073709551616:=fun h=>hbig ⟨hn,h⟩
    rw[decide_eq_true hn,decide_eq_false hm1];clear hn hm1 hbig;go_upto_region 8 with(at_make;go_loud (refine wpList_make_full _ rfl _ _ _ rfl W2.heap.size 3 i0 _ 1 Tryz.underlying50 hi hz0 hz1 _ _ _ _ xs.length rfl rfl (by simp) (by simp) (by rw[hz2];omega) (by unfold maxLen;omega) (Nat.le_refl _) ?_;intro w3 hown hgr;have hb3:Below W2.heap.size W2 w3:=(Below.refl _ W2).grown hgr (Nat.le_refl _) (by simp);have hA:=ari_made hown;clear hown hgr));have hb4:=hb2.trans (hb3.mono hb2.size);have hs3:W2.heap.size<w3.heap.size:=hA.lt
    obtain⟨W4,hW4,hat0⟩:∃W4,W4=w3.alloc (.cells #[] 3)/\RDivAt w W2.heap.size xs m xs.length 0 (.slice (some ⟨w3.heap.size,0,none⟩) 0 0) W4:=by
      refine⟨_,rfl,⟨_,hA.below ((Below.refl _ _).alloc (Nat.le_refl _) _),by simp,fun y hy=>by rw[List.eq_of_mem_replicate hy];decide,by simp[val]⟩,RefV.nil w3 3,by rw[List.drop_length];simp[val],hb4.alloc hb4.size _,hb2.size⟩
    clear hA hb3 hb4 hs3;go_upto_region 9 with(fail);rw[<-hW4];clear hW4;generalize W2.heap.size=G at hat0⊢;generalize w3.heap.size=E0 at hat0⊢;go_wp2_with fail;go_loopw [12,13] (fun rv iv wr=> ∃k r:Nat,k<=xs.length/\iv=.int .i64 ((k:Int)-1)/\RDivAt w G xs m k r rv wr) (fun _ iv _=>(intOf iv+1).toNat)
    case atStart=>exact⟨xs.length,0,Nat.le_refl _,rfl,hat0⟩
    clear hat0;obtain⟨k,r,hk,rfl,hat⟩:=hrel;generalize wr=W5 at hat⊢;generalize u12=rv at hat⊢;obtain⟨qs,harr,hql,hqb,hqv⟩:=hat.q;have hold:=hat.old;have hgb:=hat.gb
    by_cases hk0:k=0
    . subst hk0;rw[List.drop_zero,List.drop_zero,HVN.out]at hqv;have hrem:=hat.rem;rw[List.drop_zero,HVN.out]at hrem;have hrest:=hat.rest;subst hrem;have HT:=hid (without_any _ qs W5 (harr.gv (by unfold maxLen;omega)) (by omega));rw[hql, <-digs_val b6_2 hqb,hqv]at HT;clear hat harr hqv;go_wp2_with (go_at_call 118;refine HT.out.mono ?_;clear HT;rintro e w6 ⟨x,rfl,hx,hw6⟩);exact bodyPost_ret (v:=.tuple #[x,rv,.int .i64 0]) (by simp[results,Tryz.results120,go_sem]) rfl ⟨_,_,rfl,hx,hrest.below hw6,hold.trans (hw6.mono hold.size)⟩
    obtain⟨j,rfl⟩:∃j,k=j+1:=⟨k-1,by omega⟩;have hj:j<xs.length:=by omega
    have ei:(((j+1:Nat):Int)-1)=(j:Int):=by omega
    rw[ei];clear ei;obtain⟨g,rfl,hg,_,_⟩:=HPG.out (fun e=>by subst e;simp at hj);have g0:=(hg.below hold).at0 j hj;unfold iCell at g0;have hgl:=Nat.lt_of_lt_of_le hg.lt hold.size;have q0:0<=(j:Int):=by omega
    have hx1:=HXB.out _ (List.getElem_mem hj);obtain⟨x,hx⟩:∃x,xs[j]=x:=⟨_,rfl⟩;have hvd:=val_drop (B:=B6) hj;rw[hx]at g0 hx1 hvd;obtain⟨d1,d2⟩:=div_group (x:=x) (D:=val B6 (xs.drop (j+1))) HM.out;rw[<-hvd, <-hat.rem]at d1 d2;have hrm:r<m:=by rw[hat.rem];exact Nat.mod_lt _ HM.out
    have htl:x+B6*r<B6*m:=by
      have:B6*(r+1)<=B6*m:=Nat.mul_le_mul_left _ hrm;rw[Nat.mul_add]at this;omega
    obtain⟨rp,rc,rfl,hrg⟩:=GV.slice hat.rest;have hrl:(digs B6 r).length<=50000:=digs6_mono (Nat.le_of_lt hrm) (by rw[HLM.out];exact l2)
    have HDW:=hid (show trimD (x::digs B6 r)=digs B6 (x+B6*r) by
      rw[<-digs_val b6_2 (l:=x::digs B6 r) (fun d hd=>by
        rcases List.mem_cons.1 hd with h|h
        . rw[h];exact hx1
        exact digs_lt b6_2 r d h)]
      show digs B6 (x+B6*val B6 (digs B6 r))=_
      rw[val_digs b6_2])
    obtain⟨t,ht⟩:∃t,x+B6*r=t:=⟨_,rfl⟩;rw[ht]at d1 d2 htl HDW
    have hsrc:∀(W:World),Below W5.heap.size W5 W->(digs B6 r).length=0\/ ∃ad,rp=some ad/\ ∀i u,((digs B6 r).map iCell)[i]?=some u->W.cell? (ad.add i)=some u:=fun W hb=>by
      by_cases h0:digs B6 r=[]
      . exact .inl (by rw[h0];rfl)
      obtain⟨g',rfl,hg',_,_⟩:=hrg h0;refine .inr ⟨_,rfl,fun i u hu=>?_⟩;obtain⟨hi',rfl⟩:=List.getElem?_eq_some_iff.1 hu;rw[add_at,List.getElem_map];exact(hg'.below hb).at0 i (by simpa using hi')
    have HSRC:=hid hsrc;have HARR:=hid harr;have HQV:=hid (show val B6 ((qs.set j (t/m)).drop j)=val B6 (xs.drop j)/m by rw[val_drop_set (by omega),d1,hqv]);have HRM:=hid (show t-m*(t/m)=val B6 (xs.drop j)%m by rw[d2];have:=Nat.div_add_mod t m;omega);have HQB:=hid (show ∀q∈qs.set j (t/m),q<B6 from all_set hqb (by rw[Nat.div_lt_iff_lt_mul HM.out];exact htl));have HMT:=hid (show m*(t/m)<=t from Nat.mul_div_le t m);have HTL:=hid htl;have htq:t/m<1000000:=by rw[Nat.div_lt_iff_lt_mul HM.out];exact htl
    have hx6:x<=1000000:=by rw[b6]at hx1;omega
    clear hat harr hsrc hrg hqv hqb hvd d1 d2 hx ht hrm htl hx1;obtain⟨lr,hlr⟩:∃lr,(digs B6 r).length=lr:=⟨_,rfl⟩;have HLR:=hid hlr;rw[hlr]at HSRC hrl⊢;clear hlr;obtain⟨ql,hqle⟩:∃ql,t/m=ql:=⟨_,rfl⟩;rw[hqle]at HQV HRM HQB HMT htq;have HQE:=hid hqle;clear hqle
    go_upto_region 13 with(first
      |(at_builtin;go_loud (refine wpList_append_two rfl _ _ 50 51 rfl w.heap.size 3 3 i0 _ 8 Tryz.underlying50 Tryz.underlying51 hi hz0 hz1 hz2 rfl _ 1 [iCell x] rfl (row_one W5 3 _ _ hold.size) rp lr rc ((digs B6 r).map iCell) rfl (by rw[List.length_map];exact HLR.out) (HSRC.out _ ((Below.refl _ _).alloc (Nat.le_refl _) _)) (all_i _) (by simp[maxLen];omega) (by omega) (by have:=hold.size;simp;omega) ?_;intro v7 w7 hown hgr;have hb7:=(hold.alloc hold.size _).grown hgr (by have:=hold.size;simp;omega) (fun k' hk'=>by injection hk' with hk';subst hk';exact hold.size);have hb57:Below W5.heap.size W5 w7:=((Below.refl W5.heap.size W5).alloc (Nat.le_refl _) _).grown hgr (by simp) (fun k' hk'=>by injection hk' with hk';subst hk';exact Nat.le_refl _);have HW:=hid (without_own v7 (x::digs B6 r) w7 (RowI.gv (base:=w.heap.size) (by unfold RowI;rw[List.length_cons,HLR.out,Nat.add_comm lr 1];simpa using hown)) (by rw[List.length_cons,HLR.out];omega));clear hown hgr))
      |(go_at_call 118;refine HW.out.mono ?_;clear HW;rintro e W8 ⟨rv2,rfl,hrow8,hw8⟩;rw[HDW.out]at hrow8;have hrv:RefV W8 rv2 t:=hrow8.gv;have hGb:=Nat.lt_of_lt_of_le HARR.out.lt hb57.size;have hb8:=hb7.trans (hw8.mono hb7.size);have hb58:=hb57.trans (hw8.mono hb57.size)))
    have HFT1:=hid (HFT.out rv2 t W8 hb8 hrv HTL.out);rw[HQE.out]at HFT1;have hA8:=HARR.out.below hb58;have hGl:=hA8.lt;have c0:=hA8.cell j (by omega);have hfr:=hA8.free;clear hb7 hb57 hw8;go_upto_region 14 with(go_at_call 139;refine HFT1.out.mono ?_;clear HFT1;rintro e W9 ⟨rfl,hw9⟩;have hb9:=hb8.trans (hw9.mono hb8.size);have hA9:=hA8.below hw9;have hrow9:=RowI.below hrow8 hw9;have hGl9:=hA9.lt;have c9:=hA9.cell j (by omega);have hfr9:=hA9.free)
    obtain⟨W10,hW10,hA10,hb10,hrv10⟩:∃W10,W10=W9.setCell ⟨G,j,none⟩ (.int .i64 (ql:Int))/\ArrI W10 G (qs.set j ql)/\Below w.heap.size w W10/\RefV W10 rv2 t:=by
      refine⟨_,rfl,hA9.store j ql,hb9.setCell (p:=⟨G,j,none⟩) hgb _,?_⟩;exact(hrow9.far hGb).gv
    rw[<-hW10];clear hW10 hA8 hA9 hrow8 hrow9 c0 c9 hfr hfr9 hGl hGl9 hGb;have c10:=hA10.cell j (by rw[List.length_set];omega);rw[List.getElem_set_self]at c10;have hGl10:=hA10.lt;have HTM1:=hid (HTM.out ql htq W10 hb10);have HSB1:=hid (fun(y:Value) w1 (hb:Below W10.heap.size W10 w1) (hy:RefV w1 y (m*ql))=>HSB.out rv2 y t ql w1 (hrv10.below hb) hy HTL.out HMT.out)
    go_wp2_with (first
      |(go_at_call 140;refine HTM1.out.mono ?_;clear HTM1;rintro e W11 ⟨y,rfl,hy,hw11⟩)
      |(go_at_call 81;refine(HSB1.out y _ hw11 hy).mono ?_;clear HSB1;rintro e W12 ⟨rv3,rfl,hrv3,hw12⟩;have hb12:=hw11.trans (hw12.mono hw11.size)))
    go_roundw
    case rel=>exact⟨j,t-m*ql,by omega,by go_num,⟨_,hA10.below hb12,by rw[List.length_set];exact hql,HQB.out,HQV.out⟩,hrv3,HRM.out,hb10.trans (hb12.mono hb10.size),hgb⟩
    case measure=>simp[intOf]
  rw[decide_eq_false hn];clear hn hbig;go_upto_region 8 with(at_make;go_loud (refine wpList_make_full _ rfl _ _ _ rfl W2.heap.size 3 i0 _ 1 Tryz.underlying50 hi hz0 hz1 _ _ _ _ xs.length rfl rfl (by simp) (by simp) (by rw[hz2];omega) (by unfold maxLen;omega) (Nat.le_refl _) ?_;intro w3 hown hgr;have hb3:Below W2.heap.size W2 w3:=(Below.refl _ W2).grown hgr (Nat.le_refl _) (by simp);have hA:=ari_made hown;clear hown hgr));have hb4:=hb2.trans (hb3.mono hb2.size);have hs3:W2.heap.size<w3.heap.size:=hA.lt
  obtain⟨W4,hW4,hat0⟩:∃W4,W4=w3.alloc (.cells #[] 3)/\RDivAt w W2.heap.size xs m xs.length 0 (.slice (some ⟨w3.heap.size,0,none⟩) 0 0) W4:=by
    refine⟨_,rfl,⟨_,hA.below ((Below.refl _ _).alloc (Nat.le_refl _) _),by simp,fun y hy=>by rw[List.eq_of_mem_replicate hy];decide,by simp[val]⟩,RefV.nil w3 3,by rw[List.drop_length];simp[val],hb4.alloc hb4.size _,hb2.size⟩
  clear hA hb3 hb4 hs3;go_upto_region 9 with(fail);rw[<-hW4];clear hW4;generalize W2.heap.size=G at hat0⊢;generalize w3.heap.size=E0 at hat0⊢;go_wp2_with fail;go_loopw [12,13] (fun rv iv wr=> ∃k r:Nat,k<=xs.length/\iv=.int .i64 ((k:Int)-1)/\RDivAt w G xs m k r rv wr) (fun _ iv _=>(intOf iv+1).toNat)
  case atStart=>exact⟨xs.length,0,Nat.le_refl _,rfl,hat0⟩
  clear hat0;obtain⟨k,r,hk,rfl,hat⟩:=hrel;generalize wr=W5 at hat⊢;generalize u12=rv at hat⊢;obtain⟨qs,harr,hql,hqb,hqv⟩:=hat.q;have hold:=hat.old;have hgb:=hat.gb
  by_cases hk0:k=0
  . subst hk0;rw[List.drop_zero,List.drop_zero,HVN.out]at hqv;have hrem:=hat.rem;rw[List.drop_zero,HVN.out]at hrem;have hrest:=hat.rest;subst hrem;have HT:=hid (without_any _ qs W5 (harr.gv (by unfold maxLen;omega)) (by omega));rw[hql, <-digs_val b6_2 hqb,hqv]at HT;clear hat harr hqv;go_wp2_with (go_at_call 118;refine HT.out.mono ?_;clear HT;rintro e w6 ⟨x,rfl,hx,hw6⟩);exact bodyPost_ret (v:=.tuple #[x,rv,.int .i64 0]) (by simp[results,Tryz.results120,go_sem]) rfl ⟨_,_,rfl,hx,hrest.below hw6,hold.trans (hw6.mono hold.size)⟩
  obtain⟨j,rfl⟩:∃j,k=j+1:=⟨k-1,by omega⟩;have hj:j<xs.length:=by omega
  have ei:(((j+1:Nat):Int)-1)=(j:Int):=by omega
  rw[ei];clear ei;obtain⟨g,rfl,hg,_,_⟩:=HPG.out (fun e=>by subst e;simp at hj);have g0:=(hg.below hold).at0 j hj;unfold iCell at g0;have hgl:=Nat.lt_of_lt_of_le hg.lt hold.size;have q0:0<=(j:Int):=by omega
  have hx1:=HXB.out _ (List.getElem_mem hj);obtain⟨x,hx⟩:∃x,xs[j]=x:=⟨_,rfl⟩;have hvd:=val_drop (B:=B6) hj;rw[hx]at g0 hx1 hvd;obtain⟨d1,d2⟩:=div_group (x:=x) (D:=val B6 (xs.drop (j+1))) HM.out;rw[<-hvd, <-hat.rem]at d1 d2;have hrm:r<m:=by rw[hat.rem];exact Nat.mod_lt _ HM.out
  have htl:x+B6*r<B6*m:=by
    have:B6*(r+1)<=B6*m:=Nat.mul_le_mul_left _ hrm;rw[Nat.mul_add]at this;omega
  obtain⟨rp,rc,rfl,hrg⟩:=GV.slice hat.rest;have hrl:(digs B6 r).length<=50000:=digs6_mono (Nat.le_of_lt hrm) (by rw[HLM.out];exact l2)
  have HDW:=hid (show trimD (x::digs B6 r)=digs B6 (x+B6*r) by
    rw[<-digs_val b6_2 (l:=x::digs B6 r) (fun d hd=>by
      rcases List.mem_cons.1 hd with h|h
      . rw[h];exact hx1
      exact digs_lt b6_2 r d h)]
    show digs B6 (x+B6*val B6 (digs B6 r))=_
    rw[val_digs b6_2])
  obtain⟨t,ht⟩:∃t,x+B6*r=t:=⟨_,rfl⟩;rw[ht]at d1 d2 htl HDW
  have hsrc:∀(W:World),Below W5.heap.size W5 W->(digs B6 r).length=0\/ ∃ad,rp=some ad/\ ∀i u,((digs B6 r).map iCell)[i]?=some u->W.cell? (ad.add i)=some u:=fun W hb=>by
    by_cases h0:digs B6 r=[]
    . exact .inl (by rw[h0];rfl)
    obtain⟨g',rfl,hg',_,_⟩:=hrg h0;refine .inr ⟨_,rfl,fun i u hu=>?_⟩;obtain⟨hi',rfl⟩:=List.getElem?_eq_some_iff.1 hu;rw[add_at,List.getElem_map];exact(hg'.below hb).at0 i (by simpa using hi')
  have HSRC:=hid hsrc;have HARR:=hid harr;have HQV:=hid (show val B6 ((qs.set j (t/m)).drop j)=val B6 (xs.drop j)/m by rw[val_drop_set (by omega),d1,hqv]);have HRM:=hid (show t-m*(t/m)=val B6 (xs.drop j)%m by rw[d2];have:=Nat.div_add_mod t m;omega);have HQB:=hid (show ∀q∈qs.set j (t/m),q<B6 from all_set hqb (by rw[Nat.div_lt_iff_lt_mul HM.out];exact htl));have HMT:=hid (show m*(t/m)<=t from Nat.mul_div_le t m);have HTL:=hid htl;have htq:t/m<1000000:=by rw[Nat.div_lt_iff_lt_mul HM.out];exact htl
  have hx6:x<=1000000:=by rw[b6]at hx1;omega
  clear hat harr hsrc hrg hqv hqb hvd d1 d2 hx ht hrm htl hx1;obtain⟨lr,hlr⟩:∃lr,(digs B6 r).length=lr:=⟨_,rfl⟩;have HLR:=hid hlr;rw[hlr]at HSRC hrl⊢;clear hlr;obtain⟨ql,hqle⟩:∃ql,t/m=ql:=⟨_,rfl⟩;rw[hqle]at HQV HRM HQB HMT htq;have HQE:=hid hqle;clear hqle
  go_upto_region 13 with(first
    |(at_builtin;go_loud (refine wpList_append_two rfl _ _ 50 51 rfl w.heap.size 3 3 i0 _ 8 Tryz.underlying50 Tryz.underlying51 hi hz0 hz1 hz2 rfl _ 1 [iCell x] rfl (row_one W5 3 _ _ hold.size) rp lr rc ((digs B6 r).map iCell) rfl (by rw[List.length_map];exact HLR.out) (HSRC.out _ ((Below.refl _ _).alloc (Nat.le_refl _) _)) (all_i _) (by simp[maxLen];omega) (by omega) (by have:=hold.size;simp;omega) ?_;intro v7 w7 hown hgr;have hb7:=(hold.alloc hold.size _).grown hgr (by have:=hold.size;simp;omega) (fun k' hk'=>by injection hk' with hk';subst hk';exact hold.size);have hb57:Below W5.heap.size W5 w7:=((Below.refl W5.heap.size W5).alloc (Nat.le_refl _) _).grown hgr (by simp) (fun k' hk'=>by injection hk' with hk';subst hk';exact Nat.le_refl _);have HW:=hid (without_own v7 (x::digs B6 r) w7 (RowI.gv (base:=w.heap.size) (by unfold RowI;rw[List.length_cons,HLR.out,Nat.add_comm lr 1];simpa using hown)) (by rw[List.length_cons,HLR.out];omega));clear hown hgr))
    |(go_at_call 118;refine HW.out.mono ?_;clear HW;rintro e W8 ⟨rv2,rfl,hrow8,hw8⟩;rw[HDW.out]at hrow8;have hrv:RefV W8 rv2 t:=hrow8.gv;have hGb:=Nat.lt_of_lt_of_le HARR.out.lt hb57.size;have hb8:=hb7.trans (hw8.mono hb7.size);have hb58:=hb57.trans (hw8.mono hb57.size)))
  have HFT1:=hid (HFT.out rv2 t W8 hb8 hrv HTL.out);rw[HQE.out]at HFT1;have hA8:=HARR.out.below hb58;have hGl:=hA8.lt;have c0:=hA8.cell j (by omega);have hfr:=hA8.free;clear hb7 hb57 hw8;go_upto_region 14 with(go_at_call 139;refine HFT1.out.mono ?_;clear HFT1;rintro e W9 ⟨rfl,hw9⟩;have hb9:=hb8.trans (hw9.mono hb8.size);have hA9:=hA8.below hw9;have hrow9:=RowI.below hrow8 hw9;have hGl9:=hA9.lt;have c9:=hA9.cell j (by omega);have hfr9:=hA9.free)
  obtain⟨W10,hW10,hA10,hb10,hrv10⟩:∃W10,W10=W9.setCell ⟨G,j,none⟩ (.int .i64 (ql:Int))/\ArrI W10 G (qs.set j ql)/\Below w.heap.size w W10/\RefV W10 rv2 t:=by
    refine⟨_,rfl,hA9.store j ql,hb9.setCell (p:=⟨G,j,none⟩) hgb _,?_⟩;exact(hrow9.far hGb).gv
  rw[<-hW10];clear hW10 hA8 hA9 hrow8 hrow9 c0 c9 hfr hfr9 hGl hGl9 hGb;have c10:=hA10.cell j (by rw[List.length_set];omega);rw[List.getElem_set_self]at c10;have hGl10:=hA10.lt;have HTM1:=hid (HTM.out ql htq W10 hb10);have HSB1:=hid (fun(y:Value) w1 (hb:Below W10.heap.size W10 w1) (hy:RefV w1 y (m*ql))=>HSB.out rv2 y t ql w1 (hrv10.below hb) hy HTL.out HMT.out)
  go_wp2_with (first
    |(go_at_call 140;refine HTM1.out.mono ?_;clear HTM1;rintro e W11 ⟨y,rfl,hy,hw11⟩)
    |(go_at_call 81;refine(HSB1.out y _ hw11 hy).mono ?_;clear HSB1;rintro e W12 ⟨rv3,rfl,hrv3,hw12⟩;have hb12:=hw11.trans (hw12.mono hw11.size)))
  go_roundw
  case rel=>exact⟨j,t-m*ql,by omega,by go_num,⟨_,hA10.below hb12,by rw[List.length_set];exact hql,HQB.out,HQV.out⟩,hrv3,HRM.out,hb10.trans (hb12.mono hb10.size),hgb⟩
  case measure=>simp[intOf]
theorem rdivmod_any(v u:Value)(n m:Nat)(w:World)(hv:RefV w v n)(hu:RefV w u m)(hm:m≠0)(l1:(digs B6 n).length<=50000)(l2:(digs B6 m).length<=50000):
    Calls Tryz.prog 120 #[v,u] w fun e w'=> ∃x y,e=.returned (.tuple #[x,y,.int .i64 0])/\RefV w' x (n/m)/\RefV w' y (n%m)/\Below w.heap.size w w':=by
  by_cases h:n<18446744073709551616/\m<18446744073709551616
  . exact rdivmod_64 v u n m w hv hu hm h.1 h.2
  exact rdivmod_big v u n m w hv hu hm h l1 l2
set_option maxHeartbeats 1000000 in
theorem rgcd_any:∀(m n:Nat) (v u:Value) (w:World),RefV w v n->RefV w u m->(digs B6 n).length<=50000->(digs B6 m).length<=50000->
    Calls Tryz.prog 119 #[v,u] w fun e w'=> ∃x,e=.returned x/\RefV w' x (Nat.gcd n m)/\Below w.heap.size w w':=by
  intro m
  induction m using Nat.strongRecOn with
  | ind m ih=>
    intro n v u w hv hu l1 l2;obtain⟨q,cq,rfl,_⟩:=GV.slice hu
    by_cases hm:m=0
    . subst hm;rw[Nat.gcd_zero_right,digs_zero];have HV:=hid hv;clear hv hu;go_enter Tryz.func119,Tryz.ntmps119;go_wp2;go_ret;exact⟨_,rfl,HV.out,Below.refl _ _⟩
    have hl:(((digs B6 m).length:Int)==0)=false:=by
      rw[beq_eq_false_iff_ne];intro e;exact hm ((digs_eq_nil b6_2).1 (List.eq_nil_of_length_eq_zero (by omega)))
    have HD:=hid (rdivmod_any v _ n m w hv hu hm l1 l2);have hlt:=Nat.mod_lt n (Nat.pos_of_ne_zero hm);have HI:=hid (fun(x:Value) (w1:World) (hb:Below w.heap.size w w1) (h:RefV w1 x (n%m))=>ih (n%m) hlt m _ x w1 (hu.below hb) h l2 (digs6_mono (Nat.le_of_lt hlt) l2));have HG:=hid (show Nat.gcd m (n%m)=Nat.gcd n m from gcd_step n m);obtain⟨lm,hlm⟩:∃lm,(digs B6 m).length=lm:=⟨_,rfl⟩;rw[hlm]at HD HI hl⊢;clear hv hu hm ih l1 l2 hlt hlm;go_enter Tryz.func119,Tryz.ntmps119
    go_wp2_with (first
      |(go_at_call 120;refine HD.out.mono ?_;clear HD;rintro e w1 ⟨x,y,rfl,hx,hy,hw1⟩)
      |(go_at_call 119;refine(HI.out y w1 hw1 hy).mono ?_;clear HI;rintro e w2 ⟨z,rfl,hz,hw2⟩))
    go_ret;exact⟨_,rfl,by rw[<-HG.out];exact hz,hw1.trans (hw2.mono hw1.size)⟩
def Lim(n:Nat):Prop:=n<B32^200
theorem Lim.dec{n:Nat}(h:Lim n):(decDigits n).length<=3601:=dec_len (L:=200) h
theorem dec_head(n:Nat):(decDigits n).length=1\/(decDigits n).head?≠some 48:=by
  induction n using Nat.strongRecOn with
  | ind n ih=>
    by_cases h:n<10
    . rw[dec_small h];exact .inl rfl
    refine .inr ?_;rw[dec_big h];have hne:=dec_ne (n/10)
    have hh:(decDigits (n/10)++[chr (n%10)]).head?=(decDigits (n/10)).head?:=by
      cases hd:decDigits (n/10)with
      |nil=>exact absurd hd hne
      |cons x l=>rfl
    rw[hh]
    rcases ih (n/10) (by omega)with h1|h1
    . have h2:n/10<10:=Nat.lt_of_not_le fun h3=>by
        rw[dec_big (by omega),List.length_append,List.length_singleton]at h1;have:=List.length_pos_iff.2 (dec_ne (n/10/10));omega
      rw[dec_small h2,List.head?_cons];intro h3
      injection h3 with h3
      have h4:=congrArg UInt8.toNat h3;rw[chr_nat h2]at h4;have:(48:UInt8).toNat=48:=rfl;omega
    exact h1
theorem parse_dec{n:Nat}(h:(decDigits n).length<=1000):parseErr (decDigits n)=0/\parseVal (decDigits n)=n:=by
  have h1:=parse_good (dec_ne n) (dec_head n) (dec_digs n);rw[if_neg (by omega)]at h1;refine⟨h1,?_⟩;unfold parseVal;rw[if_pos h1,valT_dec]
theorem GV.box{W:World}{v:Value}{xs:List Nat}{R:Nat}{p:Option Addr}{l c:Nat}{t:TypeId}(h:GV W v xs)(hR:W.heap[R]?=some (.cells #[.slice p l c] t))(u:Value):GV (W.setCell ⟨R,0,none⟩ u) v xs:=by
  by_cases hn:xs=[]
  . subst hn;obtain⟨p,c,rfl,_⟩:=h.slice;exact .inl ⟨rfl,_,_,rfl⟩
  refine h.imp id fun⟨g,c,e,t,hc⟩=>⟨g,c,e,⟨by simpa[World.setCell]using t.lt,fun k hk=>?_⟩,hc⟩
  have hne:g≠R:=fun e=>by
    subst e;have:=t.at0 0 (List.length_pos_iff.2 hn);rw[cell_box1 hR]at this
    cases this
  rw[<-t.at0 k hk];exact World.cell?_of_block (w:=W) (Below.heap_setCell _ _ _ _ hne)
theorem RefV.box{W:World}{v:Value}{n:Nat}{R:Nat}{p:Option Addr}{l c:Nat}{t:TypeId}(h:RefV W v n)(hR:W.heap[R]?=some (.cells #[.slice p l c] t))(u:Value):RefV (W.setCell ⟨R,0,none⟩ u) v n:=GV.box h hR u
theorem KS.box{V w:World}{fs:List (World->Prop)}(h:KS V fs w)(obj:Obj):KS V (Has 0 w.heap.size obj::fs) (w.alloc obj):=
  (h.step ((Below.refl _ _).alloc (Nat.le_refl _) obj)).add fun _ hb=>Has.below ⟨Nat.zero_le _,heap_new w obj⟩ hb
theorem Has.lt{base R:Nat}{obj:Obj}{w:World}(h:Has base R obj w):R<w.heap.size:=(Array.getElem?_eq_some_iff.1 h.2).1
theorem Has.cell{base R:Nat}{w:World}{c:Value}{t:TypeId}(h:Has base R (.cells #[c] t) w):w.cell? ⟨R,0,none⟩=some c:=cell_box1 h.2
theorem Has.free{base R:Nat}{w:World}{c:Value}{t:TypeId}(h:Has base R (.cells #[c] t) w):∀o,w.frozen? ⟨R,o,none⟩=false:=free_box1 h.2
def Lm(k n:Nat):Prop:=n<B32^k
theorem Lm.add{a b n m:Nat}(h1:Lm a n)(h2:Lm b m):Lm (max a b+1) (n+m):=by
  unfold Lm at*;have e1:B32^a<=B32^(max a b):=Nat.pow_le_pow_right (by decide) (by omega);have e2:B32^b<=B32^(max a b):=Nat.pow_le_pow_right (by decide) (by omega);rw[Nat.pow_succ,b32];rw[b32]at h1 h2 e1 e2;omega
theorem Lm.mul{a b n m:Nat}(h1:Lm a n)(h2:Lm b m):Lm (a+b) (n*m):=by
  unfold Lm at*;rw[Nat.pow_add];exact Nat.mul_lt_mul'' h1 h2
theorem Lm.sub{a n m:Nat}(h1:Lm a n):Lm a (n-m):=Nat.lt_of_le_of_lt (Nat.sub_le _ _) h1
theorem parseVal_lt{l:List UInt8}{L:Nat}(h:l.length<=L):parseVal l<10^L:=by
  unfold parseVal
  split
  . rename_i h0
    have hd:∀c∈l,isDig c=true:=fun c hc=>by
      cases hi:isDig c with
      |true=>rfl
      | false=>
        have:=parse_syn (l:=l) (.inr (.inr ⟨c,hc,hi⟩));rw[h0]at this;cases this
    exact Nat.lt_of_lt_of_le (valT_lt _ l rfl hd) (Nat.pow_le_pow_right (by decide) h)
  exact Nat.pow_pos (by decide)
def bCell(x:Nat):Value:=.int .u8 (x:Int)
def ArrB(W:World)(D:Nat)(xs:List Nat):Prop:=W.heap[D]?=some (.cells (xs.map bCell).toArray 5 (0,0))
theorem ArrB.lt{W:World}{D:Nat}{xs:List Nat}(h:ArrB W D xs):D<W.heap.size:=(Array.getElem?_eq_some_iff.1 h).1
theorem ArrB.cell{W:World}{D:Nat}{xs:List Nat}(h:ArrB W D xs)(k:Nat)(hk:k<xs.length):W.cell? ⟨D,k,none⟩=some (.int .u8 (xs[k]:Int)):=by
  unfold World.cell?;rw[show W.heap[(⟨D,k,none⟩:Addr).block]?=_ from h];simp[hk,bCell]
theorem ArrB.free{W:World}{D:Nat}{xs:List Nat}(h:ArrB W D xs):∀o,W.frozen? ⟨D,o,none⟩=false:=by
  intro o;unfold World.frozen?;rw[show W.heap[(⟨D,o,none⟩:Addr).block]?=_ from h];simp
theorem ArrB.below{W W':World}{D:Nat}{xs:List Nat}(h:ArrB W D xs)(hb:Below W.heap.size W W'):ArrB W' D xs:=(hb.block _ h.lt).trans h
theorem ArrB.store{W:World}{D:Nat}{xs:List Nat}(h:ArrB W D xs)(k v:Nat):ArrB (W.setCell ⟨D,k,none⟩ (.int .u8 (v:Int))) D (xs.set k v):=by
  unfold ArrB;rw[heap_setCell_at h];simp[List.map_set,bCell]
def rem0(n m:Nat):Nat:=if m=0 then 0 else n%m
def errD(m:Nat):Int:=if m=0 then 10 else 0
theorem dm_any(v u:Value)(n m:Nat)(w:World)(hv:NatV w v n)(hu:NatV w u m)(hl:(digs B32 n).length<=100000)(hl2:(digs B32 m).length<=100000):
    Calls Tryz.prog 137 #[v,u] w fun e w'=> ∃x y,e=.returned (.tuple #[x,y,.int .i64 (errD m)])/\NatV w' x (n/m)/\NatV w' y (rem0 n m)/\Below w.heap.size w w':=by
  unfold rem0 errD
  by_cases h:m=0
  . subst h;rw[if_pos rfl,if_pos rfl,Nat.div_zero];exact(divmod_zero v u n w hv hu).mono fun e w' ⟨h1,h2⟩=>⟨_,_,h1,NatV.zero _,NatV.zero _,h2⟩
  rw[if_neg h,if_neg h];exact divmod_any v u n m w hv hu h hl hl2
theorem rdm_any(v u:Value)(n m:Nat)(w:World)(hv:RefV w v n)(hu:RefV w u m)(hl:(digs B6 n).length<=50000)(hl2:(digs B6 m).length<=50000):
    Calls Tryz.prog 120 #[v,u] w fun e w'=> ∃x y,e=.returned (.tuple #[x,y,.int .i64 (errD m)])/\RefV w' x (n/m)/\RefV w' y (rem0 n m)/\Below w.heap.size w w':=by
  unfold rem0 errD
  by_cases h:m=0
  . subst h;rw[if_pos rfl,if_pos rfl,Nat.div_zero];exact(rdivmod_zero v u n w hv hu).mono fun e w' ⟨h1,h2⟩=>⟨_,_,h1,.inl ⟨digs_zero,_,_,rfl⟩,.inl ⟨digs_zero,_,_,rfl⟩,h2⟩
  rw[if_neg h,if_neg h];exact rdivmod_any v u n m w hv hu h hl hl2
theorem Lim.le{n m:Nat}(h:Lim m)(hle:n<=m):Lim n:=Nat.lt_of_le_of_lt hle h
end
section
theorem Lm.up{a b n:Nat}(h:Lm a n)(hab:a<=b):Lm b n:=Nat.lt_of_lt_of_le h (Nat.pow_le_pow_right (by decide) hab)
theorem Lm.le{a n m:Nat}(h:Lm a m)(hle:n<=m):Lm a n:=Nat.lt_of_le_of_lt hle h
structure LmQ(k:Nat)(x:Rat):Prop where
  n:Lm k x.num.natAbs
  d:Lm k x.den
theorem LmQ.up{a b:Nat}{x:Rat}(h:LmQ a x)(hab:a<=b):LmQ b x:=⟨h.n.up hab,h.d.up hab⟩
theorem LmQ.ofS{k n d:Nat}(s:Bool)(hn:Lm k n)(hd:Lm k d)(h0:d≠0):LmQ k (ofS s n d):=
  ⟨by rw[ofS_num s n h0];exact hn.le (Nat.div_le_self _ _),by rw[ofS_den s n h0];exact hd.le (Nat.div_le_self _ _)⟩
theorem LmQ.mul{a b:Nat}{x y:Rat}(hx:LmQ a x)(hy:LmQ b y):LmQ (a+b) (x*y):=by
  rw[<-mul_of];exact .ofS _ (hx.n.mul hy.n) (hx.d.mul hy.d) (Nat.mul_ne_zero x.den_nz y.den_nz)
theorem LmQ.add{a b:Nat}{x y:Rat}(hx:LmQ a x)(hy:LmQ b y):LmQ (a+b+1) (x+y):=by
  rw[<-add_of (sgn_of _)];refine .ofS _ (((hx.n.mul hy.d).add (hy.n.mul hx.d)).up (by omega)|>.le ?_) ((hx.d.mul hy.d).up (by omega)) (Nat.mul_ne_zero x.den_nz y.den_nz);unfold sgn
  cases isN x<;>cases isN y<;>simp<;>omega
theorem LmQ.neg{a:Nat}{x:Rat}(hx:LmQ a x):LmQ a (-x):=⟨by rw[neg_num];exact hx.n,by rw[Rat.neg_den];exact hx.d⟩
theorem LmQ.sub{a b:Nat}{x y:Rat}(hx:LmQ a x)(hy:LmQ b y):LmQ (a+b+1) (x-y):=by
  rw[Rat.sub_eq_add_neg];exact hx.add hy.neg
theorem LmQ.div{a b:Nat}{x y:Rat}(hx:LmQ a x)(hy:LmQ b y)(h0:y≠0):LmQ (a+b) (x/y):=by
  rw[<-div_of x h0];exact .ofS _ (hx.n.mul hy.d) ((hy.n.mul hx.d).up (by omega)) (Nat.mul_ne_zero (fun h=>h0 ((natAbs_zero y).1 h)) x.den_nz)
def RatV(W:World)(v:Value)(x:Rat):Prop:= ∃p l c q m d,v=.agg #[.bool (isN x),.slice p l c,.slice q m d]/\NatV W (.agg #[.slice p l c]) x.num.natAbs/\NatV W (.agg #[.slice q m d]) (den0 x)
theorem RatV.below{W W':World}{v:Value}{x:Rat}(h:RatV W v x)(hb:Below W.heap.size W W'):RatV W' v x:=by
  obtain⟨p,l,c,q,m,d,rfl,h1,h2⟩:=h;exact⟨p,l,c,q,m,d,rfl,h1.below hb,h2.below hb⟩
def RefR(W:World)(v:Value)(x:Rat):Prop:= ∃nv dv,v=.agg #[.bool (isN x),nv,dv]/\RefV W nv x.num.natAbs/\RefV W dv (den0 x)
theorem RefR.below{W W':World}{v:Value}{x:Rat}(h:RefR W v x)(hb:Below W.heap.size W W'):RefR W' v x:=by
  obtain⟨nv,dv,rfl,h1,h2⟩:=h;exact⟨nv,dv,rfl,h1.below hb,h2.below hb⟩
theorem den0_ofS(s:Bool)(n:Nat){d:Nat}(h0:d≠0):den0 (ofS s n d)=if d/Nat.gcd n d=1 then 0 else d/Nat.gcd n d:=by
  unfold den0;rw[ofS_den s n h0]
theorem RatV.make{W:World}{p q:Option Addr}{l c m e:Nat}{b s:Bool}{n d a z:Nat}(h0:d≠0)(hb:b=(s&&decide (n≠0)))(ha:a=n/Nat.gcd n d)(hc:z=if d/Nat.gcd n d=1 then 0 else d/Nat.gcd n d)(hn:NatV W (.agg #[.slice p l c]) a)(hd:NatV W (.agg #[.slice q m e]) z):RatV W (.agg #[.bool b,.slice p l c,.slice q m e]) (ofS s n d):=by
  refine⟨p,l,c,q,m,e,by rw[ofS_isN s n h0,hb],?_,?_⟩
  . rw[ofS_num s n h0, <-ha];exact hn
  rw[den0_ofS s n h0, <-hc];exact hd
theorem RefR.make{W:World}{nv dv:Value}{b s:Bool}{n d a c:Nat}(h0:d≠0)(hb:b=(s&&decide (n≠0)))(ha:a=n/Nat.gcd n d)(hc:c=if d/Nat.gcd n d=1 then 0 else d/Nat.gcd n d)(hn:RefV W nv a)(hd:RefV W dv c):RefR W (.agg #[.bool b,nv,dv]) (ofS s n d):=by
  refine⟨nv,dv,by rw[ofS_isN s n h0,hb],?_,?_⟩
  . rw[ofS_num s n h0, <-ha];exact hn
  rw[den0_ofS s n h0, <-hc];exact hd
def errQ(l:List UInt8):Int:=if parseErr (firQ l)=3\/parseErr (secQ l)=3 then 3 else if parseErr (firQ l)≠0\/parseErr (secQ l)≠0 then 6 else if parseVal (secQ l)=0 then 10 else 0
def valQ(l:List UInt8):Rat:=if errQ l=0 then ofS (isMinus l) (parseVal (firQ l)) (parseVal (secQ l))else 0
theorem parse_text(x:Rat)(h1:(decDigits x.num.natAbs).length<=1000)(h2:(decDigits x.den).length<=1000):errQ (textQ x)=0/\valQ (textQ x)=x:=by
  have e1:=parse_dec h1;have e2:=parse_dec h2
  have he:errQ (textQ x)=0:=by
    unfold errQ;rw[fir_text,sec_text,e1.1,e2.1,e2.2,if_neg (by decide),if_neg (by decide),if_neg x.den_nz]
  refine⟨he,?_⟩;unfold valQ;rw[if_pos he,fir_text,sec_text,e1.2,e2.2,(text_minus x).1,ofS_self]
theorem Has.c3{base R:Nat}{w:World}{c0 c1 c2:Value}{t:TypeId}(h:Has base R (.cells #[c0,c1,c2] t) w):w.cell? ⟨R,0,none⟩=some c0/\w.cell? ⟨R,1,none⟩=some c1/\w.cell? ⟨R,2,none⟩=some c2:=by
  refine⟨?_,?_,?_⟩<;>simp[World.cell?,h.2]
theorem NatV.apart{W W':World}{v:Value}{n R:Nat}(h:NatV W v n)(hR:∀i,W.cell? ⟨R,0,none⟩≠some (.int .u32 i))(hsz:W.heap.size<=W'.heap.size)(hE:∀g,g≠R->W'.heap[g]?=W.heap[g]?):NatV W' v n:=by
  refine h.imp id fun⟨h0,g,c,e,t,hc⟩=>⟨h0,g,c,e,⟨Nat.lt_of_lt_of_le t.lt hsz,fun k hk=>?_⟩,hc⟩
  have hne:g≠R:=fun e=>by
    subst e;exact hR _ (t.at0 0 (by omega))
  rw[<-t.at0 k hk];exact World.cell?_of_block (w:=W) (hE g hne)
def World.set3(W:World)(R:Nat)(x y z:Value):World:=((W.setCell ⟨R,0,none⟩ x).setCell ⟨R,1,none⟩ y).setCell ⟨R,2,none⟩ z
set_option maxRecDepth 100000 in
theorem one_any(v:Value)(n:Nat)(w:World)(hv:NatV w v n):
    Calls Tryz.prog 135 #[v] w fun e w'=>e=.returned (.bool (n==1))/\Below w.heap.size w w':=by
  have HU:=hid (fun w1 (hb:Below w.heap.size w w1)=>uint64_any v n w1 (hv.below hb));obtain⟨P,c,rfl,hp⟩:=hv.digp;have HI:=hid (show((n:Int)==1)=(n==1) by rw[Bool.eq_iff_iff];simp;omega)
  by_cases h:n<18446744073709551616
  . have h1:True:=trivial;go_enter Tryz.func135,Tryz.ntmps135;go_upto_region 1 with(fail);obtain⟨W1,hW1,hsz,kA,hWb⟩:=box1_head (.slice P (digs B32 n).length c) 41 w;rw[<-hW1];have b1:w.heap.size<W1.heap.size:=by omega
    have a0:=cell_box1 kA;clear hW1 hsz hp hv;go_wp2_with (go_at_call 151;refine(HU.out _ hWb).mono ?_;clear HU;rintro e W2 ⟨rfl,hw2⟩;have hb2:=hWb.trans (hw2.mono hWb.size);simp only[u64V,if_pos h,decide_eq_true h]);go_ret;exact⟨by rw[<-HI.out];rfl,hb2⟩
  have h1:¬n=1:=by omega
  go_enter Tryz.func135,Tryz.ntmps135;go_upto_region 1 with(fail);obtain⟨W1,hW1,hsz,kA,hWb⟩:=box1_head (.slice P (digs B32 n).length c) 41 w;rw[<-hW1];have b1:w.heap.size<W1.heap.size:=by omega
  have a0:=cell_box1 kA;clear hW1 hsz hp hv;go_wp2_with (go_at_call 151;refine(HU.out _ hWb).mono ?_;clear HU;rintro e W2 ⟨rfl,hw2⟩;have hb2:=hWb.trans (hw2.mono hWb.size);simp only[u64V,if_neg h,decide_eq_false h]);go_ret;exact⟨by simp[h1],hb2⟩
set_option maxRecDepth 100000 in
theorem magnitude_any(z:Int)(w:World)(h0: -9223372036854775808<=z)(h1:z<=9223372036854775807):
    Calls Tryz.prog 56 #[.int .i64 z] w fun e w'=> ∃v,e=.returned (.tuple #[v,.bool (decide (z<0))])/\NatV w' v z.natAbs/\Below w.heap.size w w':=by
  have HO:=hid (fun w1=>of_any z.natAbs w1 (by omega));go_enter Tryz.func56,Tryz.ntmps56;go_upto_region 1 with(fail);obtain⟨W1,hW1,hsz,kA,hWb⟩:=box1_head (.slice none 0 0) 41 w;rw[<-hW1];have b1:w.heap.size<W1.heap.size:=by omega
  have a0:=cell_box1 kA;clear hW1 hsz
  by_cases hn:z<0
  . have HW:=hid (show IntKind.u64.wrap (-IntKind.u64.wrap z)=(z.natAbs:Int) by simp only[IntKind.wrap,IntKind.bits,IntKind.signed,Bool.false_and,Bool.false_eq_true,if_false];omega);go_wp2_with (go_at_call 95;rw[HW.out];refine(HO.out _).mono ?_;clear HO;rintro e W2 ⟨v,rfl,hv,hw2⟩;have hb2:=hWb.trans (hw2.mono hWb.size);obtain⟨P,c,rfl,_⟩:=hv.digp;have k2:=(hw2.block _ b1).trans kA;have c2:=cell_box1 k2;have f2:=free_box1 k2;have l2:=Nat.lt_of_lt_of_le b1 hw2.size);exact bodyPost_ret (v:=.tuple #[.agg #[.slice P (digs B32 z.natAbs).length c],.bool true]) (by simp[results,Tryz.results56,go_sem,res_store k2]) rfl ⟨_,by rw[decide_eq_true hn],hv.store c2 _,hb2.setCell (p:=⟨w.heap.size,0,none⟩) (Nat.le_refl _) _⟩
  have HW:=hid (show(z.natAbs:Int)=z by omega);rw[HW.out]at HO;go_wp2_with (go_at_call 95;refine(HO.out _).mono ?_;clear HO;rintro e W2 ⟨v,rfl,hv,hw2⟩;have hb2:=hWb.trans (hw2.mono hWb.size);obtain⟨P,c,rfl,_⟩:=hv.digp;have k2:=(hw2.block _ b1).trans kA;have c2:=cell_box1 k2;have f2:=free_box1 k2;have l2:=Nat.lt_of_lt_of_le b1 hw2.size);exact bodyPost_ret (v:=.tuple #[.agg #[.slice P (digs B32 z.natAbs).length c],.bool false]) (by simp[results,Tryz.results56,go_sem,res_store k2]) rfl ⟨_,by rw[decide_eq_false (by omega:¬z<0)],hv.store c2 _,hb2.setCell (p:=⟨w.heap.size,0,none⟩) (Nat.le_refl _) _⟩
end
section
structure Sl where
  p:Option Addr
  l:Nat
  c:Nat
instance :Nonempty Sl:=⟨⟨none,0,0⟩⟩
structure Duo(α β:Type) where
  a:α
  b:β
instance {α β:Type}[h:Nonempty α][h':Nonempty β]:Nonempty (Duo α β):=h.elim fun a=>h'.elim fun b=>⟨⟨a,b⟩⟩
def Lasts(l:List (World->Prop))(w:World):Prop:= ∀F∈l,∀w2,Below w.heap.size w w2->F w2
theorem Lasts.nil(w:World):Lasts [] w:=fun _ h=>absurd h List.not_mem_nil
theorem Lasts.cons{F:World->Prop}{l:List (World->Prop)}{w:World}(h:∀w2,Below w.heap.size w w2->F w2)(h':Lasts l w):Lasts (F::l) w:=fun G hG=>by
  rcases List.mem_cons.1 hG with rfl|hG
  . exact h
  exact h' G hG
theorem KS.more{V w:World}{l l':List (World->Prop)}(h:KS V l w)(h':Lasts l' w):KS V (l'++l) w:=h.app h'
theorem KS.subl{V w:World}{l l':List (World->Prop)}(h:KS V l w)(hs:l'.Sublist l):KS V l' w:=h.sub fun _ hF=>hs.subset hF
theorem pA{α:Type _}(l:List α)(i:Nat)(a:α):l.toArray.setIfInBounds i a=(l.set i a).toArray:=List.setIfInBounds_toArray ..
theorem pB{α:Type _}(x:α)(xs:List α)(a:α):(x::xs).set 0 a=a::xs:=List.set_cons_zero ..
theorem pC{α:Type _}(x:α)(xs:List α)(i:Nat)(a:α):(x::xs).set (i+1) a=x::xs.set i a:=List.set_cons_succ ..
theorem pD{α:Type _}(x:α)(xs l:List α):(x::xs)++l=x::(xs++l):=List.cons_append ..
theorem pE{α:Type _}(l:List α):[]++l=l:=List.nil_append ..
theorem Calls.hide{P:Program}{f:FuncId}{args:Array Value}{w:World}{Post:Ending->World->Prop}(h:∀Q,Hid (Post=Q)->Calls P f args w Q):Calls P f args w Post:=h Post (hid rfl)
def putAt(R:Nat):Nat->List Value->World->World
  |_,[],w=>w
  |o,c::cs,w=>putAt R (o+1) cs (w.setCell ⟨R,o,none⟩ c)
def setL:List Value->Nat->List Value->List Value
  |l,_,[]=>l
  |l,o,c::cs=>setL (l.set o c) (o+1) cs
theorem put_size(R:Nat):∀(cs:List Value) (o:Nat) (w:World),w.heap.size<=(putAt R o cs w).heap.size
  |[],_,_=>Nat.le_refl _
  |c::cs,o,w=>Nat.le_trans (by simp[World.setCell]) (put_size R cs (o+1) (w.setCell ⟨R,o,none⟩ c))
theorem put_far{R g:Nat}(hne:g≠R):∀(cs:List Value) (o:Nat) (w:World),(putAt R o cs w).heap[g]?=w.heap[g]?
  |[],_,_=>rfl
  |c::cs,o,w=>(put_far hne cs (o+1) (w.setCell ⟨R,o,none⟩ c)).trans (setCell_far _ hne)
theorem put_at{R:Nat}{t:TypeId}:∀(cs:List Value) (o:Nat) (l:List Value) (w:World),w.heap[R]?=some (.cells l.toArray t)->(putAt R o cs w).heap[R]?=some (.cells (setL l o cs).toArray t)
  |[],_,_,_,h=>h
  |c::cs,o,l,w,h=>put_at cs (o+1) (l.set o c) (w.setCell ⟨R,o,none⟩ c) (by rw[heap_setCell_at h c,List.setIfInBounds_toArray])
def Spares(R:Nat)(w:World)(F:World->Prop):Prop:= ∀w1,w.heap.size<=w1.heap.size->(∀g,g≠R->g<w.heap.size->w1.heap[g]?=w.heap[g]?)-> ∀w2,Below w1.heap.size w1 w2->F w2
theorem Spares.put{R:Nat}{w:World}{F:World->Prop}(h:Spares R w F)(o:Nat)(cs:List Value):∀w',Below (putAt R o cs w).heap.size (putAt R o cs w) w'->F w':=
  h _ (put_size R cs o w) (fun _ hg _=>put_far hg cs o w)
theorem has_put{base R:Nat}{w w':World}{l:List Value}{t:TypeId}(h:Has base R (.cells l.toArray t) w)(o:Nat)(cs:List Value)(hb:Below (putAt R o cs w).heap.size (putAt R o cs w) w'):Has base R (.cells (setL l o cs).toArray t) w':=
  Has.below ⟨h.1,put_at cs o l w h.2⟩ hb
theorem Has.ltS{base R:Nat}{w:World}{obj:Obj}(h:Has base R obj w):R<w.heap.size:=(Array.getElem?_eq_some_iff.1 h.2).1
theorem has_spare{base R R':Nat}{obj:Obj}{w:World}(h:Has base R' obj w)(hne:R'≠R):Spares R w (Has base R' obj):=fun _ _ hf _ hb=>
  Has.below ⟨h.1,(hf R' hne (Array.getElem?_eq_some_iff.1 h.2).1).trans h.2⟩ hb
def rkV:Value->Nat
  | .int .u32 _=>0
  | .int .i64 _=>1
  | .bool _=>2
  | .slice ..=>3
  | .string _=>4
  | .pointer _=>5
  | .int _ _=>6
  |_=>7
def NoHd(S:List Nat)(R:Nat)(w:World):Prop:= ∀v,w.cell? ⟨R,0,none⟩=some v->S.contains (rkV v)=false
def HdIs(R:Nat)(n:Nat)(w:World):Prop:= ∀v,w.cell? ⟨R,0,none⟩=some v->rkV v=n
theorem HdIs.no{S:List Nat}{R n:Nat}{w:World}(h:HdIs R n w)(hS:S.contains n=false):NoHd S R w:=fun v hv=>by rw[h v hv];exact hS
theorem hdIs_of{base R:Nat}{w:World}{c:Value}{l:List Value}{t:TypeId}(h:Has base R (.cells (c::l).toArray t) w):HdIs R (rkV c) w:=fun v e=>by
  have e2:w.cell? ⟨R,0,none⟩=some c:=by simp[World.cell?,h.2]
  rw[e2]at e;rw[Option.some.inj e]
section
variable {R R' base o:Nat}{cs:List Value}{w:World}{obj:Obj}
end
theorem m0{α:Type _}{a:α}{l:List α}:a∈a::l:=List.mem_cons_self ..
theorem ms{α:Type _}{a b:α}{l:List α}(h:a∈l):a∈b::l:=List.mem_cons_of_mem _ h
theorem m1{α:Type _}{a:α}{b0:α}{l:List α}:a∈b0::a::l:=ms m0
theorem m2{α:Type _}{a:α}{b0 b1:α}{l:List α}:a∈b0::b1::a::l:=ms m1
theorem m3{α:Type _}{a:α}{b0 b1 b2:α}{l:List α}:a∈b0::b1::b2::a::l:=ms m2
theorem m4{α:Type _}{a:α}{b0 b1 b2 b3:α}{l:List α}:a∈b0::b1::b2::b3::a::l:=ms m3
theorem m5{α:Type _}{a:α}{b0 b1 b2 b3 b4:α}{l:List α}:a∈b0::b1::b2::b3::b4::a::l:=ms m4
theorem m6{α:Type _}{a:α}{b0 b1 b2 b3 b4 b5:α}{l:List α}:a∈b0::b1::b2::b3::b4::b5::a::l:=ms m5
theorem m7{α:Type _}{a:α}{b0 b1 b2 b3 b4 b5 b6:α}{l:List α}:a∈b0::b1::b2::b3::b4::b5::b6::a::l:=ms m6
theorem m8{α:Type _}{a:α}{b0 b1 b2 b3 b4 b5 b6 b7:α}{l:List α}:a∈b0::b1::b2::b3::b4::b5::b6::b7::a::l:=ms m7
theorem m9{α:Type _}{a:α}{b0 b1 b2 b3 b4 b5 b6 b7 b8:α}{l:List α}:a∈b0::b1::b2::b3::b4::b5::b6::b7::b8::a::l:=ms m8
theorem m10{α:Type _}{a:α}{b0 b1 b2 b3 b4 b5 b6 b7 b8 b9:α}{l:List α}:a∈b0::b1::b2::b3::b4::b5::b6::b7::b8::b9::a::l:=ms m9
theorem m11{α:Type _}{a:α}{b0 b1 b2 b3 b4 b5 b6 b7 b8 b9 b10:α}{l:List α}:a∈b0::b1::b2::b3::b4::b5::b6::b7::b8::b9::b10::a::l:=ms m10
theorem m12{α:Type _}{a:α}{b0 b1 b2 b3 b4 b5 b6 b7 b8 b9 b10 b11:α}{l:List α}:a∈b0::b1::b2::b3::b4::b5::b6::b7::b8::b9::b10::b11::a::l:=ms m11
theorem m13{α:Type _}{a:α}{b0 b1 b2 b3 b4 b5 b6 b7 b8 b9 b10 b11 b12:α}{l:List α}:a∈b0::b1::b2::b3::b4::b5::b6::b7::b8::b9::b10::b11::b12::a::l:=ms m12
theorem m14{α:Type _}{a:α}{b0 b1 b2 b3 b4 b5 b6 b7 b8 b9 b10 b11 b12 b13:α}{l:List α}:a∈b0::b1::b2::b3::b4::b5::b6::b7::b8::b9::b10::b11::b12::b13::a::l:=ms m13
theorem m15{α:Type _}{a:α}{b0 b1 b2 b3 b4 b5 b6 b7 b8 b9 b10 b11 b12 b13 b14:α}{l:List α}:a∈b0::b1::b2::b3::b4::b5::b6::b7::b8::b9::b10::b11::b12::b13::b14::a::l:=ms m14
theorem m16{α:Type _}{a:α}{b0 b1 b2 b3 b4 b5 b6 b7 b8 b9 b10 b11 b12 b13 b14 b15:α}{l:List α}:a∈b0::b1::b2::b3::b4::b5::b6::b7::b8::b9::b10::b11::b12::b13::b14::b15::a::l:=ms m15
theorem m17{α:Type _}{a:α}{b0 b1 b2 b3 b4 b5 b6 b7 b8 b9 b10 b11 b12 b13 b14 b15 b16:α}{l:List α}:a∈b0::b1::b2::b3::b4::b5::b6::b7::b8::b9::b10::b11::b12::b13::b14::b15::b16::a::l:=ms m16
theorem m18{α:Type _}{a:α}{b0 b1 b2 b3 b4 b5 b6 b7 b8 b9 b10 b11 b12 b13 b14 b15 b16 b17:α}{l:List α}:a∈b0::b1::b2::b3::b4::b5::b6::b7::b8::b9::b10::b11::b12::b13::b14::b15::b16::b17::a::l:=ms m17
theorem m19{α:Type _}{a:α}{b0 b1 b2 b3 b4 b5 b6 b7 b8 b9 b10 b11 b12 b13 b14 b15 b16 b17 b18:α}{l:List α}:a∈b0::b1::b2::b3::b4::b5::b6::b7::b8::b9::b10::b11::b12::b13::b14::b15::b16::b17::b18::a::l:=ms m18
theorem m20{α:Type _}{a:α}{b0 b1 b2 b3 b4 b5 b6 b7 b8 b9 b10 b11 b12 b13 b14 b15 b16 b17 b18 b19:α}{l:List α}:a∈b0::b1::b2::b3::b4::b5::b6::b7::b8::b9::b10::b11::b12::b13::b14::b15::b16::b17::b18::b19::a::l:=ms m19
theorem str_add(a b:List UInt8):(⟨a.toArray⟩:ByteArray)++⟨b.toArray⟩=⟨(a++b).toArray⟩:=by
  apply ByteArray.ext;simp
theorem Has.at{base R:Nat}{w:World}{l:List Value}{t:TypeId}(h:Has base R (.cells l.toArray t) w)(o:Nat){c:Value}(hc:l[o]?=some c):w.cell? ⟨R,o,none⟩=some c:=by
  unfold World.cell?;rw[h.2]
  simpa using hc
theorem Has.c2{base R:Nat}{w:World}{a b:Value}{t:TypeId}(H:Has base R (.cells #[a,b] t) w):w.cell? ⟨R,0,none⟩=some a/\w.cell? ⟨R,1,none⟩=some b:=⟨H.at 0 rfl,H.at 1 rfl⟩
theorem Has.c4{base R:Nat}{w:World}{a b c d:Value}{t:TypeId}(H:Has base R (.cells #[a,b,c,d] t) w):w.cell? ⟨R,0,none⟩=some a/\w.cell? ⟨R,1,none⟩=some b/\w.cell? ⟨R,2,none⟩=some c/\w.cell? ⟨R,3,none⟩=some d:=⟨H.at 0 rfl,H.at 1 rfl,H.at 2 rfl,H.at 3 rfl⟩
theorem Has.c5{base R:Nat}{w:World}{a b c d e:Value}{t:TypeId}(H:Has base R (.cells #[a,b,c,d,e] t) w):w.cell? ⟨R,0,none⟩=some a/\w.cell? ⟨R,1,none⟩=some b/\w.cell? ⟨R,2,none⟩=some c/\w.cell? ⟨R,3,none⟩=some d/\w.cell? ⟨R,4,none⟩=some e:=⟨H.at 0 rfl,H.at 1 rfl,H.at 2 rfl,H.at 3 rfl,H.at 4 rfl⟩
theorem Has.c6{base R:Nat}{w:World}{a b c d e f:Value}{t:TypeId}(H:Has base R (.cells #[a,b,c,d,e,f] t) w):w.cell? ⟨R,0,none⟩=some a/\w.cell? ⟨R,1,none⟩=some b/\w.cell? ⟨R,2,none⟩=some c/\w.cell? ⟨R,3,none⟩=some d/\w.cell? ⟨R,4,none⟩=some e/\w.cell? ⟨R,5,none⟩=some f:=⟨H.at 0 rfl,H.at 1 rfl,H.at 2 rfl,H.at 3 rfl,H.at 4 rfl,H.at 5 rfl⟩
theorem Has.c7{base R:Nat}{w:World}{a b c d e f g:Value}{t:TypeId}(H:Has base R (.cells #[a,b,c,d,e,f,g] t) w):w.cell? ⟨R,0,none⟩=some a/\w.cell? ⟨R,1,none⟩=some b/\w.cell? ⟨R,2,none⟩=some c/\w.cell? ⟨R,3,none⟩=some d/\w.cell? ⟨R,4,none⟩=some e/\w.cell? ⟨R,5,none⟩=some f/\w.cell? ⟨R,6,none⟩=some g:=⟨H.at 0 rfl,H.at 1 rfl,H.at 2 rfl,H.at 3 rfl,H.at 4 rfl,H.at 5 rfl,H.at 6 rfl⟩
theorem Has.c8{base R:Nat}{w:World}{a b c d e f g h:Value}{t:TypeId}(H:Has base R (.cells #[a,b,c,d,e,f,g,h] t) w):w.cell? ⟨R,0,none⟩=some a/\w.cell? ⟨R,1,none⟩=some b/\w.cell? ⟨R,2,none⟩=some c/\w.cell? ⟨R,3,none⟩=some d/\w.cell? ⟨R,4,none⟩=some e/\w.cell? ⟨R,5,none⟩=some f/\w.cell? ⟨R,6,none⟩=some g/\w.cell? ⟨R,7,none⟩=some h:=⟨H.at 0 rfl,H.at 1 rfl,H.at 2 rfl,H.at 3 rfl,H.at 4 rfl,H.at 5 rfl,H.at 6 rfl,H.at 7 rfl⟩
theorem Has.fz{base R:Nat}{w:World}{c:Array Value}{t:TypeId}(h:Has base R (.cells c t) w):∀o,w.frozen? ⟨R,o,none⟩=false:=by intro o;simp[World.frozen?,h.2]
section
variable {P:Program}{V:World}{ops:Array Oper}{Q:Exit->Act->World->Prop}{o:Oper}{rest:List Oper}{fs:List (World->Prop)}{a:Act}{v:Value}
variable {B:Nat}{f0:List (World->Prop)}{Q2:Act->World->Prop}{ks:List Nat}
end
theorem ylt{p:Prop}[Decidable p](h:RowKit.Hid (decide p=true)):p:=of_decide_eq_true h.out
theorem nlt{a b:Int}(h:RowKit.Hid (decide (a<b)=false)):b<=a:=Int.not_lt.1 (of_decide_eq_false h.out)
theorem nle{a b:Int}(h:RowKit.Hid (decide (a<=b)=false)):b<a:=Int.not_le.1 (of_decide_eq_false h.out)
theorem gtH{α:Type}{l:List α}{i:Nat}(h:i<l.length):∃z,RowKit.Hid (l[i]?=some z):=⟨_,hid (List.getElem?_eq_getElem h)⟩
theorem lle{a b:Nat}(h:a=b):a<=b/\b<=a:=⟨Nat.le_of_eq h,Nat.le_of_eq h.symm⟩
theorem nmI(a:Int):∃z,RowKit.Hid (a=z):=⟨_,hid rfl⟩
theorem nmB(a:Bool):∃z,RowKit.Hid (a=z):=⟨_,hid rfl⟩
theorem qo{α β:Type}{P Q:α->β->Prop}(h:RowKit.Hid (P=Q)){e:α}{w:β}(z:P e w):Q e w:=h.out▸z
theorem sR{α:Type}{l:List α}:l.Sublist l:=List.Sublist.refl l
end
section
theorem nat_spare{R:Nat}{w:World}{v:Value}{n:Nat}(h:NatV w v n)(hR:NoHd [0] R w):Spares R w (fun w=>NatV w v n):=fun w1 hs hf w2 hb=>by
  refine NatV.below (W:=w1) (h.imp id fun⟨h0,g,c,e,t,hc⟩=>⟨h0,g,c,e,⟨Nat.lt_of_lt_of_le t.lt hs,fun k hk=>?_⟩,hc⟩) hb
  have hne:g≠R:=fun e=>by
    subst e;exact absurd (hR _ (t.at0 0 (by omega))) (by simp[rkV])
  rw[<-t.at0 k hk];exact World.cell?_of_block (w:=w) (hf g hne t.lt)
theorem rat_spare{R:Nat}{w:World}{v:Value}{x:Rat}(h:RatV w v x)(hR:NoHd [0] R w):Spares R w (fun w=>RatV w v x):=fun w1 hs hf w2 hb=>by
  obtain⟨p,l,c,q,m,d,rfl,h1,h2⟩:=h;exact⟨p,l,c,q,m,d,rfl,nat_spare h1 hR w1 hs hf w2 hb,nat_spare h2 hR w1 hs hf w2 hb⟩
theorem GV.apart{W W':World}{v:Value}{xs:List Nat}{R:Nat}(h:GV W v xs)(hR:NoHd [1] R W)(hsz:W.heap.size<=W'.heap.size)(hE:∀g,g≠R->g<W.heap.size->W'.heap[g]?=W.heap[g]?):GV W' v xs:=by
  rcases h with h|⟨g,c,e,hd,hc⟩
  . exact .inl h
  by_cases hx:xs=[]
  . subst hx;exact .inl ⟨rfl,_,_,e⟩
  have hpos:0<xs.length:=List.length_pos_iff.2 hx
  have hne:g≠R:=fun e=>by
    subst e;exact absurd (hR _ (hd.at0 0 hpos)) (by simp[iCell,rkV])
  refine .inr ⟨g,c,e,⟨Nat.lt_of_lt_of_le hd.lt hsz,fun k hk=>?_⟩,hc⟩;rw[<-hd.at0 k hk];exact World.cell?_of_block (w:=W) (hE g hne hd.lt)
theorem ref_spare{R:Nat}{w:World}{v:Value}{n:Nat}(h:RefV w v n)(hR:NoHd [1] R w):Spares R w (fun w=>RefV w v n):=fun _ hs hf _ hb=>
  RefV.below (GV.apart h hR hs hf) hb
theorem refr_spare{R:Nat}{w:World}{v:Value}{x:Rat}(h:RefR w v x)(hR:NoHd [1] R w):Spares R w (fun w=>RefR w v x):=fun w1 hs hf w2 hb=>by
  obtain⟨nv,dv,rfl,h1,h2⟩:=h;exact⟨nv,dv,rfl,ref_spare h1 hR w1 hs hf w2 hb,ref_spare h2 hR w1 hs hf w2 hb⟩
section
variable {R R' base o:Nat}{cs:List Value}{w:World}{v:Value}{n:Nat}{x:Rat}{obj:Obj}
end
theorem RefV.sl{W:World}{v:Value}{n:Nat}(h:RefV W v n):∃p l c,v=.slice p l c:=by
  rcases h with⟨_,p,c,e⟩|⟨g,c,e,_⟩
  . exact⟨_,_,_,e⟩
  exact⟨_,_,_,e⟩
theorem RefV.slr{W:World}{v:Value}{n:Nat}(h:RefV W v n):∃p c,v=.slice p (digs B6 n).length c:=by
  rcases h with⟨h0,p,c,e⟩|⟨g,c,e,_⟩
  . exact⟨p,c,by rw[h0];exact e⟩
  exact⟨_,_,e⟩
def numQ(x:Rat):Nat:=x.num.natAbs
theorem RefR.slr{W:World}{v:Value}{x:Rat}(h:RefR W v x):∃p c q d,v=.agg #[.bool (isN x),.slice p (digs B6 (numQ x)).length c,.slice q (digs B6 (den0 x)).length d]/\RefV W (.slice p (digs B6 (numQ x)).length c) (numQ x)/\RefV W (.slice q (digs B6 (den0 x)).length d) (den0 x):=by
  obtain⟨nv,dv,rfl,h1,h2⟩:=h;obtain⟨p,c,rfl⟩:=h1.slr;obtain⟨q,d,rfl⟩:=h2.slr;exact⟨p,c,q,d,rfl,h1,h2⟩
theorem RefR.zero(W:World):RefR W (.agg #[.bool false,.slice none 0 0,.slice none 0 0]) 0:=⟨_,_,rfl,RefV.zero W,RefV.zero W⟩
theorem len6_zero{n:Nat}(h:(((digs B6 n).length:Int)==0)=true):n=0:=by
  have:digs B6 n=[]:=List.eq_nil_of_length_eq_zero (by simpa using h);rw[<-val_digs b6_2 n,this];rfl
theorem len6_pos{n:Nat}(h:(((digs B6 n).length:Int)==0)=false):n≠0:=fun e=>by
  subst e;rw[digs_zero]at h
  cases h
theorem digs6_one{n:Nat}(h:(((digs B6 n).length:Int)==1)=true):digs B6 n=[n]:=by
  have hl:(digs B6 n).length=1:=by
    have:((digs B6 n).length:Int)=1:=by simpa using h
    omega
  obtain⟨x,hx⟩:∃x,digs B6 n=[x]:=List.length_eq_one_iff.1 hl;have e:=val_digs b6_2 n;rw[hx]at e;simp[val]at e;rw[hx,e]
theorem RefV.one{W:World}{p:Option Addr}{n c:Nat}(h:RefV W (.slice p (digs B6 n).length c) n)(h1:(((digs B6 n).length:Int)==1)=true):∃g,p=some ⟨g,0,none⟩:=by
  rcases h with⟨h0,_⟩|⟨g,_,e,_⟩
  . rw[digs6_one h1]at h0;cases h0
  injection e with e1
  exact⟨g,e1⟩
theorem RefV.cell1{W:World}{g n c:Nat}(h:RefV W (.slice (some ⟨g,0,none⟩) (digs B6 n).length c) n)(h1:(((digs B6 n).length:Int)==1)=true):W.cell? ⟨g,0,none⟩=some (.int .i64 (n:Int)):=by
  have hx:=digs6_one h1
  rcases h with⟨h0,_⟩|⟨g',_,e,hd,_⟩
  . rw[hx]at h0;cases h0
  injection e with e1
  injection e1 with e1
  injection e1 with e1
  have h2:=hd.at0 0 (by rw[hx];simp);rw[e1,h2];simp[hx,iCell]
theorem Lm.len{k n:Nat}(h:Lm k n):(digs B32 n).length<=k:=digs_len_le b32_2 _ _ h
theorem Lm.len6{k n:Nat}(h:Lm k n):(digs B6 n).length<=2*k:=digs6_len h
theorem dlen_of_le{n m:Nat}(h:n<=m){k:Nat}(hk:(digs B32 m).length<=k):(digs B32 n).length<=k:=Nat.le_trans (digs_mono h) hk
theorem dlen_gcd(n:Nat){d k:Nat}(hd:d≠0)(h:(digs B32 d).length<=k):(digs B32 (Nat.gcd n d)).length<=k:=dlen_of_le (Nat.le_of_dvd (Nat.pos_of_ne_zero hd) (Nat.gcd_dvd_right n d)) h
theorem LmQ.d0{k:Nat}{x:Rat}(h:LmQ k x):Lm k (den0 x):=h.d.le (by unfold den0;split<;>omega)
end
section
structure EK(α:Type) where
  sz:Nat
  pos:0<sz
  R:World->List Value->α->Prop
  len:∀{w cs x},R w cs x->cs.length=sz
  one:∀{w cs x},R w cs x-> ∀u∈cs,u.oneCell'=true
  below:∀{w w' cs x},R w cs x->Below w.heap.size w w'->R w' cs x
class OwnK{α:Type}(K:EK α) where
  S:List Nat
  spare:∀{w cs x g},K.R w cs x->NoHd S g w->Spares g w (fun w=>K.R w cs x)
  ni:(∀(w w':World) (cs:List Value) (x:α),K.R w cs x->K.R w' cs x)\/ ∃n,S.contains n=false/\ ∀{w:World} {cs x u},K.R w cs x->cs[0]?=some u->rkV u=n
abbrev EK.S{α:Type}(K:EK α)[OwnK K]:List Nat:=OwnK.S K
abbrev EK.Free{α:Type}(K:EK α):Prop:= ∀(w w':World) (cs:List Value) (x:α),K.R w cs x->K.R w' cs x
section
variable {α:Type}{K:EK α}{t:TypeId}{base g:Nat}{w w':World}{v:Value}{xs ys:List α}{css dss:List (List Value)}{P:Program}
structure Els(K:EK α)(w:World)(css:List (List Value))(xs:List α):Prop where
  len:css.length=xs.length
  el:∀(k:Nat) cs x,css[k]?=some cs->xs[k]?=some x->K.R w cs x
theorem Els.nil:Els K w [] []:=⟨rfl,fun k cs x h=>by simp at h⟩
theorem Els.below(h:Els K w css xs)(hb:Below w.heap.size w w'):Els K w' css xs:=⟨h.len,fun k cs x h1 h2=>K.below (h.el k cs x h1 h2) hb⟩
theorem Els.mem(h:Els K w css xs){cs:List Value}(hc:cs∈css):∃x∈xs,K.R w cs x:=by
  obtain⟨k,hk,rfl⟩:=List.getElem_of_mem hc;have hk':k<xs.length:=h.len▸hk;exact⟨xs[k],List.getElem_mem hk',h.el k _ _ (List.getElem?_eq_getElem hk) (List.getElem?_eq_getElem hk')⟩
theorem Els.sizes(h:Els K w css xs):∀cs∈css,cs.length=K.sz:=fun _ hc=>by
  obtain⟨x,_,hr⟩:=h.mem hc;exact K.len hr
theorem Els.ones(h:Els K w css xs):∀u∈css.flatten,u.oneCell'=true:=fun u hu=>by
  obtain⟨cs,hc,hu⟩:=List.mem_flatten.1 hu;obtain⟨x,_,hr⟩:=h.mem hc;exact K.one hr u hu
theorem Els.append(h:Els K w css xs)(h':Els K w dss ys):Els K w (css++dss) (xs++ys):=by
  refine⟨by rw[List.length_append,List.length_append,h.len,h'.len],fun k cs x h1 h2=>?_⟩;have hl:=h.len
  by_cases hk:k<css.length
  . rw[List.getElem?_append_left hk]at h1;rw[List.getElem?_append_left (by omega)]at h2;exact h.el k cs x h1 h2
  rw[List.getElem?_append_right (by omega)]at h1;rw[List.getElem?_append_right (by omega)]at h2;rw[hl]at h1;exact h'.el _ cs x h1 h2
theorem Els.one{cs:List Value}{x:α}(h:K.R w cs x):Els K w [cs] [x]:=⟨rfl,fun k cs' x' h1 h2=>by
  cases k with
  |zero=>simp at h1 h2;subst h1;subst h2;exact h
  |succ k=>simp at h1⟩
theorem Els.set(h:Els K w css xs){cs:List Value}{x:α}(hr:K.R w cs x)(k:Nat):Els K w (css.set k cs) (xs.set k x):=by
  refine⟨by simp[h.len],fun j cs' x' h1 h2=>?_⟩
  by_cases e:k=j
  . subst e;rw[List.getElem?_set_self']at h1 h2
    cases e1:css[k]? with
    |none=>rw[e1]at h1;cases h1
    | some a=>
      cases e2:xs[k]? with
      |none=>rw[e2]at h2;cases h2
      | some b=>
        rw[e1]at h1;rw[e2]at h2;simp at h1 h2;subst h1;subst h2;exact hr
  rw[List.getElem?_set_ne e]at h1 h2;exact h.el j cs' x' h1 h2
theorem Els.take(h:Els K w css xs)(n:Nat):Els K w (css.take n) (xs.take n):=by
  refine⟨by rw[List.length_take,List.length_take,h.len],fun k cs x h1 h2=>?_⟩;rw[List.getElem?_take]at h1 h2
  split at h1
  . rename_i hk;rw[if_pos hk]at h2;exact h.el k cs x h1 h2
  cases h1
theorem Els.drop(h:Els K w css xs)(n:Nat):Els K w (css.drop n) (xs.drop n):=by
  refine⟨by rw[List.length_drop,List.length_drop,h.len],fun k cs x h1 h2=>?_⟩;rw[List.getElem?_drop]at h1 h2;exact h.el _ cs x h1 h2
theorem Els.free(hK:K.Free)(h:Els K w css xs):Els K w' css xs:=⟨h.len,fun k cs x h1 h2=>hK _ _ _ _ (h.el k cs x h1 h2)⟩
theorem flat_len{sz:Nat}:∀(css:List (List Value)),(∀cs∈css,cs.length=sz)->css.flatten.length=css.length*sz
  |[],_=>by simp
  | c::css,h=>by
    rw[List.flatten_cons,List.length_append,flat_len css (fun x hx=>h x (List.mem_cons_of_mem _ hx)),h c (List.mem_cons_self ..),List.length_cons,Nat.succ_mul,Nat.add_comm]
theorem flat_at{sz:Nat}:∀(css:List (List Value)),(∀cs∈css,cs.length=sz)-> ∀(k j:Nat) (cs:List Value),css[k]?=some cs->j<sz->css.flatten[k*sz+j]?=cs[j]?
  |[],_,k,j,cs,h,_=>by simp at h
  | c ::css,h,k,j,cs,hk,hj=>by
    have hc:=h c (List.mem_cons_self ..);rw[List.flatten_cons]
    cases k with
    | zero=>
      simp at hk;subst hk;rw[Nat.zero_mul,Nat.zero_add,List.getElem?_append_left (by omega)]
    | succ k=>
      rw[List.getElem?_append_right (by rw[Nat.succ_mul];omega),hc,show(k+1)*sz+j-sz=k*sz+j by rw[Nat.succ_mul];omega];exact flat_at css (fun x hx=>h x (List.mem_cons_of_mem _ hx)) k j cs (by simpa using hk) hj
theorem flat_set{sz:Nat}:∀(css:List (List Value)),(∀cs∈css,cs.length=sz)-> ∀(k:Nat) (cs:List Value),cs.length=sz->k<css.length->(css.set k cs).flatten=setL css.flatten (k*sz) cs:=by
  have key:∀(l m cs:List Value) (o:Nat),o=l.length-> ∀r,cs.length=r.length->setL (l++(r++m)) o cs=l++(cs++m):=by
    intro l m cs
    induction cs generalizing l with
    |nil=>intro o _ r hr;obtain rfl:r=[]:=List.eq_nil_of_length_eq_zero (by simpa using hr.symm);rfl
    | cons c cs ih=>
      intro o ho r hr
      cases r with
      |nil=>simp at hr
      | cons a r=>
        subst ho;unfold setL;have e:(l++(a::r++m)).set l.length c=(l++[c])++(r++m):=by simp
        rw[e,ih (l++[c]) (l.length+1) (by simp) r (by simpa using hr)];simp
  intro css h k cs hcs hk;have h1:css=css.take k++(css[k]::css.drop (k+1)):=by rw[<-List.drop_eq_getElem_cons hk,List.take_append_drop]
  have h2:css.set k cs=css.take k++(cs::css.drop (k+1)):=List.set_eq_take_append_cons_drop.trans (if_pos hk)
  have h3:css.flatten=(css.take k).flatten++(css[k]++(css.drop (k+1)).flatten):=by
    have:=congrArg List.flatten h1;rw[List.flatten_append,List.flatten_cons]at this;exact this
  rw[h2,h3,List.flatten_append,List.flatten_cons];refine(key _ _ _ _ ?_ _ ?_).symm
  . rw[flat_len (sz:=sz) _ (fun x hx=>h x (List.mem_of_mem_take hx)),List.length_take,Nat.min_eq_left (by omega)]
  rw[hcs,h _ (List.getElem_mem hk)]
def SlV(K:EK α)(w:World)(v:Value)(xs:List α):Prop:= ∃css,Els K w css xs/\((xs=[]/\ ∃p c,v=.slice p 0 c)\/ ∃g o c,v=.slice (some ⟨g,o,none⟩) xs.length c/\g<w.heap.size/\xs.length<=c/\c<=9223372036854775807/\ ∀k cs j u,css[k]?=some cs->cs[j]?=some u->w.cell? ⟨g,o+k*K.sz+j,none⟩=some u)
theorem SlV.below(h:SlV K w v xs)(hb:Below w.heap.size w w'):SlV K w' v xs:=by
  obtain⟨css,h1,h2⟩:=h;refine⟨css,h1.below hb,h2.imp id fun⟨g,o,c,e,hl,hc1,hc2,ha⟩=>⟨g,o,c,e,Nat.lt_of_lt_of_le hl hb.size,hc1,hc2,fun k cs j u c1 c2=>(hb.cell (p:=⟨g,_,none⟩) hl).trans (ha k cs j u c1 c2)⟩⟩
theorem SlV.nil{p:Option Addr}{c:Nat}:SlV K w (.slice p 0 c) []:=⟨[],.nil,.inl ⟨rfl,p,c,rfl⟩⟩
theorem SlV.sh(h:SlV K w v xs):∃p c,v=.slice p xs.length c/\(xs≠[]-> ∃g o,p=some ⟨g,o,none⟩/\g<w.heap.size/\xs.length<=c/\c<=9223372036854775807):=by
  obtain⟨css,h1,⟨rfl,p,c,rfl⟩|⟨g,o,c,rfl,hl,hc1,hc2,ha⟩⟩:=h
  . exact⟨p,c,rfl,fun h=>absurd rfl h⟩
  exact⟨_,c,rfl,fun _=>⟨g,o,rfl,hl,hc1,hc2⟩⟩
def CelAt(g o:Nat)(cs:List Value)(w:World):Prop:=g<w.heap.size/\ ∀j u,cs[j]?=some u->w.cell? ⟨g,o+j,none⟩=some u
theorem CelAt.below{g o:Nat}{cs:List Value}(h:CelAt g o cs w)(hb:Below w.heap.size w w'):CelAt g o cs w':=⟨Nat.lt_of_lt_of_le h.1 hb.size,fun j u hu=>(hb.cell (p:=⟨g,_,none⟩) h.1).trans (h.2 j u hu)⟩
theorem CelAt.spare{g o R:Nat}{cs:List Value}(h:CelAt g o cs w)(hne:g≠R):Spares R w (CelAt g o cs):=fun w1 hs hf w2 hb=>by
  refine⟨Nat.lt_of_lt_of_le h.1 (Nat.le_trans hs hb.size),fun j u hu=>?_⟩;rw[(hb.cell (p:=⟨g,_,none⟩) (Nat.lt_of_lt_of_le h.1 hs)), <-h.2 j u hu];exact World.cell?_of_block (hf g hne h.1)
theorem SlV.at{g o n c k:Nat}{x:α}(h:SlV K w (.slice (some ⟨g,o,none⟩) n c) xs)(hx:xs[k]?=some x):∃cs,CelAt g (o+k*K.sz) cs w/\K.R w cs x:=by
  obtain⟨css,h1,⟨rfl,p,c,e⟩|⟨g',o',c',e,hl,hc1,hc2,ha⟩⟩:=h
  . simp at hx
  injection e with e1 e2 e3
  injection e1 with e1
  injection e1 with e1 e4 e5
  subst e1;subst e4;have hk:=(List.getElem?_eq_some_iff.1 hx).1;have hk':k<css.length:=h1.len▸hk;have hc:css[k]?=some css[k]:=List.getElem?_eq_getElem hk';exact⟨css[k],⟨hl,fun j u hu=>ha k _ j u hc hu⟩,h1.el k _ x hc hx⟩
theorem SlV.ptr{p:Option Addr}{n c k:Nat}{x:α}(h:SlV K w (.slice p n c) xs)(hx:xs[k]?=some x):∃g o,p=some ⟨g,o,none⟩/\g<w.heap.size:=by
  obtain⟨css,h1,⟨rfl,p',c',e⟩|⟨g,o,c',e,hl,_⟩⟩:=h
  . simp at hx
  injection e with e1 e2 e3
  exact⟨g,o,e1,hl⟩
theorem KS.at{V:World}{l:List (World->Prop)}{g o n c k:Nat}{x:α}(hK:KS V l w)(h:SlV K w (.slice (some ⟨g,o,none⟩) n c) xs)(hx:xs[k]?=some x):∃cs,KS V (CelAt g (o+k*K.sz) cs::(fun w=>K.R w cs x)::l) w:=by
  obtain⟨cs,h1,h2⟩:=h.at hx;exact⟨cs,(hK.add (F:=fun w=>K.R w cs x) fun w' hb=>K.below h2 hb).add fun w' hb=>h1.below hb⟩
theorem SlV.one{R c:Nat}{cs:List Value}{x:α}{ty:TypeId}(h:Has base R (.cells cs.toArray ty) w)(hr:K.R w cs x)(hc:1<=c)(hc2:c<=9223372036854775807):SlV K w (.slice (some ⟨R,0,none⟩) 1 c) [x]:=by
  refine⟨[cs],.one hr,.inr ⟨R,0,c,rfl,h.ltS,hc,hc2,fun k cs' j u c1 c2=>?_⟩⟩
  cases k with
  | zero=>
    simp at c1;subst c1;rw[show 0+0*K.sz+j=j by omega];exact h.at j c2
  |succ k=>simp at c1
theorem SlV.take{p:Option Addr}{n c m:Nat}(h:SlV K w (.slice p n c) xs)(hm:m<=xs.length):SlV K w (.slice p m c) (xs.take m):=by
  obtain⟨css,h1,⟨rfl,p',c',e⟩|⟨g,o,c',e,hl,hc1,hc2,ha⟩⟩:=h
  . obtain rfl:m=0:=by simpa using hm
    exact .nil
  injection e with e1 e2 e3
  subst e1;subst e3;refine⟨css.take m,h1.take m,.inr ⟨g,o,c,?_,hl,by rw[List.length_take];omega,hc2,fun k cs j u c1 c2=>?_⟩⟩
  . rw[List.length_take,Nat.min_eq_left hm]
  rw[List.getElem?_take]at c1
  split at c1
  . exact ha k cs j u c1 c2
  cases c1
theorem SlV.drop{g o n c m:Nat}(h:SlV K w (.slice (some ⟨g,o,none⟩) n c) xs)(hm:m<=xs.length):SlV K w (.slice (some ⟨g,o+m*K.sz,none⟩) (xs.length-m) (c-m)) (xs.drop m):=by
  obtain⟨css,h1,⟨rfl,p',c',e⟩|⟨g',o',c',e,hl,hc1,hc2,ha⟩⟩:=h
  . refine⟨[],?_,.inl ⟨by simp,_,_,by simp;exact⟨rfl,rfl⟩⟩⟩
    simpa using Els.nil
  injection e with e1 e2 e3
  injection e1 with e1
  injection e1 with e1 e4 e5
  subst e1;subst e4;subst e3;refine⟨css.drop m,h1.drop m,.inr ⟨g,_,_,by rw[List.length_drop],hl,by rw[List.length_drop];omega,by omega,fun k cs j u c1 c2=>?_⟩⟩;rw[List.getElem?_drop]at c1;have:=ha _ cs j u c1 c2;rw[show o+m*K.sz+k*K.sz+j=o+(m+k)*K.sz+j by rw[Nat.add_mul];omega];exact this
theorem Els.spare[OwnK K](h:Els K w css xs)(hg:NoHd K.S g w):Spares g w (fun w=>Els K w css xs):=fun w1 hs hf w2 hb=>⟨h.len,fun k cs x h1 h2=>OwnK.spare (h.el k cs x h1 h2) hg w1 hs hf w2 hb⟩
def OwV(K:EK α)(t:TypeId)(base:Nat)(w:World)(v:Value)(xs:List α):Prop:= ∃css,Els K w css xs/\w.ownsRow base t K.sz v xs.length css.flatten
theorem OwV.nil:OwV K t base w (.slice none 0 0) []:=⟨[],.nil,by simp,.inl ⟨rfl,rfl⟩⟩
theorem OwV.sh(h:OwV K t base w v xs):∃p c,v=.slice p xs.length c/\((xs=[]/\p=none/\c=0)\/ ∃g,p=some ⟨g,0,none⟩/\base<=g/\g<w.heap.size/\xs.length<=c/\c<=9223372036854775807/\ ∀o,w.frozen? ⟨g,o,none⟩=false):=by
  obtain⟨css,h1,hl,⟨rfl,h0⟩|⟨g,cap,cur,rfl,hb,hg,hc1,hc2,hs,ht⟩⟩:=h
  . exact⟨none,0,by rw[h0],.inl ⟨List.eq_nil_of_length_eq_zero h0,rfl,rfl⟩⟩
  exact⟨_,cap,rfl,.inr ⟨g,rfl,hb,(Array.getElem?_eq_some_iff.1 hg).1,hc1,by simpa[maxLen]using hc2,fun o=>by simp[World.frozen?,hg]⟩⟩
theorem OwV.below(h:OwV K t base w v xs)(hb:Below w.heap.size w w'):OwV K t base w' v xs:=by
  obtain⟨css,h1,hl,h2⟩:=h;refine⟨css,h1.below hb,hl,h2.imp id fun⟨g,cap,cur,e,h3,hg,h4⟩=>⟨g,cap,cur,e,h3,?_,h4⟩⟩;exact(hb.block g (Array.getElem?_eq_some_iff.1 hg).1).trans hg
theorem OwV.off{g o n c:Nat}{p:Option Addr}(h:OwV K t base w (.slice p n c) xs)(hp:p=some ⟨g,o,none⟩):o=0:=by
  subst hp;obtain⟨css,h1,hl,⟨e,h0⟩|⟨g,cap,cur,e,_⟩⟩:=h
  . cases e
  injection e with e1
  injection e1 with e1
  injection e1
theorem OwV.lt(h:OwV K t base w v xs){g:Nat}(hg:v.ownBlock=some g):base<=g/\g<w.heap.size:=by
  obtain⟨css,_,h2⟩:=h;exact h2.lt g hg
theorem OwV.slv(h:OwV K t base w v xs):SlV K w v xs:=by
  obtain⟨css,h1,h2⟩:=h;refine⟨css,h1,?_⟩
  rcases h2.2 with⟨rfl,h0⟩|⟨g,cap,cur,rfl,hb,hg,hc1,hc2,hs,ht⟩
  . exact .inl ⟨List.eq_nil_of_length_eq_zero h0,none,0,rfl⟩
  refine .inr ⟨g,0,cap,rfl,(Array.getElem?_eq_some_iff.1 hg).1,hc1,by simpa[maxLen]using hc2,fun k cs j u c1 c2=>?_⟩;have hm:cs∈css:=List.mem_of_getElem? c1;have hj:j<K.sz:=(h1.sizes cs hm)▸(List.getElem?_eq_some_iff.1 c2).1;have h3:=h2.cells (g:=g) rfl (k*K.sz+j) u ((flat_at css h1.sizes k j cs c1 hj).trans c2);have ha:(⟨g,0,none⟩:Addr).add (k*K.sz+j)=⟨g,k*K.sz+j,none⟩:=by unfold Addr.add;split<;>simp_all
  rw[ha]at h3;rw[show 0+k*K.sz+j=k*K.sz+j by omega];exact h3
theorem OwV.hdIs(h:OwV K t base w v xs)(hne:xs≠[]){g n:Nat}(hg:v.ownBlock=some g)(hK:∀{w:World} {cs:List Value} {x:α} {u:Value},K.R w cs x->cs[0]?=some u->rkV u=n):HdIs g n w:=fun u0 e=>by
  obtain⟨css,h1,h2⟩:=h;have hlen:=h1.len;have hpos:0<xs.length:=List.length_pos_iff.2 hne;have hc:css[0]?=some css[0]:=List.getElem?_eq_getElem (by omega);have hr:=h1.el 0 _ _ hc (List.getElem?_eq_getElem hpos);have hz:=K.len hr;have hp:=K.pos;obtain⟨u,hu⟩:∃u,css[0][0]?=some u:=⟨css[0][0]'(by omega),List.getElem?_eq_getElem (by omega)⟩;have h3:=h2.cells (g:=g) hg (0*K.sz+0) u ((flat_at css h1.sizes 0 0 _ hc hp).trans hu);rw[show 0*K.sz+0=0 by omega]at h3;have ha:(⟨g,0,none⟩:Addr).add 0=⟨g,0,none⟩:=by unfold Addr.add;split<;>simp_all
  rw[ha,e]at h3;rw[Option.some.inj h3];exact hK hr hu
theorem OwV.noInt[OwnK K](h:OwV K t base w v xs)(hne:xs≠[]){g:Nat}(hg:v.ownBlock=some g):K.Free\/NoHd K.S g w:=by
  rcases OwnK.ni (K:=K)with h0|⟨n,hS,h0⟩
  . exact .inl h0
  exact .inr ((h.hdIs hne hg h0).no hS)
def Grows(v:Value)(w:World)(F:World->Prop):Prop:= ∀w1,w.grownBy w1 v.ownBlock-> ∀w2,Below w1.heap.size w1 w2->F w2
theorem Grows.of{F:World->Prop}(h0:∀w',Below w.heap.size w w'->F w')(h:∀g,v.ownBlock=some g->Spares g w F):Grows v w F:=fun w1 hg w2 hb=>by
  cases e:v.ownBlock with
  |none=>exact h0 w2 (Below.trans ⟨hg.os,hg.tape,hg.output,hg.size,fun k hk=>hg.block k hk (by rw[e];simp)⟩ (hb.mono hg.size))
  |some g=>exact h g e w1 hg.size (fun k hk hlt=>hg.block k hlt (by rw[e];simpa using hk)) w2 hb
theorem OwV.spare[OwnK K](h:OwV K t base w v xs)(hne:v.ownBlock≠some g)(hg:K.Free\/NoHd K.S g w):Spares g w (fun w=>OwV K t base w v xs):=fun w1 hs hf w2 hb=>by
  obtain⟨css,h1,hl,h2⟩:=h
  have h1':Els K w2 css xs:=by
    rcases hg with hg|hg
    . exact h1.free hg
    exact h1.spare hg w1 hs hf w2 hb
  refine⟨css,h1',hl,h2.imp id fun⟨k,cap,cur,e,h3,hk,h4⟩=>⟨k,cap,cur,e,h3,?_,h4⟩⟩;have hlt:=(Array.getElem?_eq_some_iff.1 hk).1;rw[hb.block k (Nat.lt_of_lt_of_le hlt hs),hf k (fun e'=>hne (by rw[e,e'];rfl)) hlt];exact hk
theorem run_app[OwnK K]{i:TypeInfo}{z:Value}{tt uu ty u':TypeId}(ht:P.underlying tt=some (.slice t))(hu:P.underlying uu=some (.slice u'))(hi:P.info? t=some i)(hz:i.zero=some z)(hsize:i.size=K.sz)(hzs:z.cells.size=K.sz)
    (hown:OwV K t base w v xs) (hok:∀g,v.ownBlock=some g->K.Free\/NoHd K.S g w) {p:Option Addr} {m c:Nat} (hx:SlV K w (.slice p m c) ys) (h63:xs.length+ys.length<=maxLen) (hbytes:(xs.length+ys.length)*i.bytes<=140737488355328) (hbase:base<=w.heap.size):
    ∃v' w',(Builtin.append_ #[tt,uu] ty #[v,.slice p m c]).run P w=.ok v' w'/\OwV K t base w' v' (xs++ys)/\w.grownBy w' v.ownBlock/\(v'.ownBlock=v.ownBlock\/v'.ownBlock=some w.heap.size):=by
  obtain⟨css,h1,h2⟩:=hown
  obtain⟨pv,cv,rfl⟩:∃pv cv,v=.slice pv xs.length cv:=by
    rcases h2.2 with⟨e,h0⟩|⟨g,cap,cur,e,_⟩
    . exact⟨_,_,by rw[e,h0]⟩
    exact⟨_,_,e⟩
  have e0:(Builtin.append_ #[tt,uu] ty #[.slice pv xs.length cv,.slice p m c]).run P w=(Builtin.append_ #[tt,tt] ty #[.slice pv xs.length cv,.slice p m c]).run P w:=by
    simp[Builtin.append_,run_underlying ht,run_underlying hu]
  have stay:∀w',w.grownBy w' (Value.slice pv xs.length cv).ownBlock-> ∀(dss:List (List Value)) zs,Els K w dss zs->Els K w' dss zs:=fun w' hg dss zs hd=>by
    cases e:(Value.slice pv xs.length cv).ownBlock with
    |none=>exact hd.below ⟨hg.os,hg.tape,hg.output,hg.size,fun k hk=>hg.block k hk (by rw[e];simp)⟩
    | some g=>
      rcases hok g e with hf|hn
      . exact hd.free hf
      exact hd.spare hn w' hg.size (fun k hk hlt=>hg.block k hlt (by rw[e];simpa using hk)) w' (Below.refl _ _)
  obtain⟨dss,h3,⟨rfl,p',c',e⟩|⟨g,o,c',e,hl,hc1,hc2,ha⟩⟩:=hx
  . injection e with e1 e2 e3
    subst e2;rw[e0]
    cases p with
    | none=>
      refine⟨.slice pv xs.length cv,w,?_,by rw[List.append_nil];exact⟨css,h1,h2⟩,⟨rfl,rfl,rfl,Nat.le_refl _,fun _ _ _=>rfl⟩,.inl rfl⟩
      have hle:xs.length<=cv:=by
        rcases h2.2 with⟨e3,h4⟩|⟨g,cap,cur,e3,_,_,h4,_⟩
        . omega
        injection e3 with _ _ e4;omega
      cases pv<;>simp[Builtin.append_,run_underlying ht,sizeOf,typeInfo,hi,Builtin.lenOf,Builtin.firstCells,hle,loadCells,storeCells]
    | some ad=>
      obtain⟨v',w',hr,h5,h6,_,h7⟩:=run_append_own_at (P:=P) w base tt ty t i z K.sz i.bytes ht hi hz hsize rfl hzs K.pos _ xs.length css.flatten h2 ad 0 c [] (by simp) (by simp) (by simp) (by simpa using h63) (by simpa using hbytes) hbase;refine⟨v',w',hr,?_,h6,h7⟩;rw[List.append_nil];exact⟨css,stay w' h6 _ _ h1,by simpa using h5⟩
  injection e with e1 e2 e3
  subst e1;subst e2;rw[e0];have hfl:=flat_len dss h3.sizes;rw[h3.len]at hfl
  obtain⟨v',w',hr,h5,h6,_,h7⟩:=run_append_own_at (P:=P) w base tt ty t i z K.sz i.bytes ht hi hz hsize rfl hzs K.pos _ xs.length css.flatten h2 ⟨g,o,none⟩ ys.length c dss.flatten hfl (fun j u hu=>by
    have hjl:j<ys.length*K.sz:=hfl▸(List.getElem?_eq_some_iff.1 hu).1;have hp:=K.pos;have hq:j/K.sz<ys.length:=Nat.div_lt_of_lt_mul (by rwa [Nat.mul_comm]at hjl);have hq':j/K.sz<dss.length:=by rw[h3.len];exact hq
    have hc:dss[j/K.sz]?=some dss[j/K.sz]:=List.getElem?_eq_getElem hq';have hm:j%K.sz<K.sz:=Nat.mod_lt _ hp;have hjj:j/K.sz*K.sz+j%K.sz=j:=by rw[Nat.mul_comm];exact Nat.div_add_mod j K.sz
    have h8:=flat_at dss h3.sizes (j/K.sz) (j%K.sz) _ hc hm;rw[hjj,hu]at h8;have h9:=ha _ _ _ u hc h8.symm;have hadd:(⟨g,o,none⟩:Addr).add j=⟨g,o+j,none⟩:=by unfold Addr.add;split<;>simp_all
    rw[hadd, <-h9,Nat.add_assoc,hjj]) h3.ones h63 hbytes hbase
  refine⟨v',w',hr,⟨css++dss,(stay w' h6 _ _ h1).append (stay w' h6 _ _ h3),?_⟩,h6,h7⟩;rw[List.flatten_append,List.length_append];exact h5
theorem OwV.put[OwnK K]{g c k:Nat}{n:Nat}{cs:List Value}{x:α}(h:OwV K t base w (.slice (some ⟨g,0,none⟩) n c) xs)(hx:K.R w cs x)(hk:k<xs.length):∀w',Below (putAt g (k*K.sz) cs w).heap.size (putAt g (k*K.sz) cs w) w'->OwV K t base w' (.slice (some ⟨g,0,none⟩) n c) (xs.set k x):=by
  intro w' hb;have hok:=h.noInt (List.ne_nil_of_length_pos (by omega)) (g:=g) rfl;obtain⟨css,h1,h2⟩:=h;have hs:=h1.set hx k
  have hs':Els K w' (css.set k cs) (xs.set k x):=by
    rcases hok with hf|hn
    . exact hs.free hf
    exact Spares.put (hs.spare hn) (k*K.sz) cs w' hb
  have hkc:k<css.length:=by rw[h1.len];exact hk
  refine⟨_,hs',?_⟩
  rcases h2.2 with⟨e,h0⟩|⟨g',cap,cur,e,hb',hg,hc1,hc2,hsz,ht⟩
  . cases e
  injection e with e1 e2 e3
  injection e1 with e1
  injection e1 with e1 _ _
  subst e1;subst e2;subst e3;have hg2:w.heap[g]?=some (.cells cur.toList.toArray t):=by simpa using hg
  have hput:=put_at cs (k*K.sz) cur.toList w hg2;have hcsl:cs.length=K.sz:=K.len hx;have hlen:=h1.len;have hlt:g<(putAt g (k*K.sz) cs w).heap.size:=Nat.lt_of_lt_of_le (Array.getElem?_eq_some_iff.1 hg).1 (put_size g cs _ w);have hfl:=flat_len css h1.sizes
  have key:∀(cs:List Value) (l:List Value) (o m:Nat),o+cs.length<=m->(setL l o cs).take m=setL (l.take m) o cs/\(setL l o cs).length=l.length:=by
    intro cs
    induction cs with
    |nil=>intro l o m _;exact⟨rfl,rfl⟩
    | cons c cs ih=>
      intro l o m hm;simp at hm;have:=ih (l.set o c) (o+1) m (by omega);unfold setL;rw[this.1,this.2];exact⟨by rw[List.take_set],by simp⟩
  have hkk:=key cs cur.toList (k*K.sz) (xs.length*K.sz) (by rw[hcsl, <-Nat.succ_mul];exact Nat.mul_le_mul_right _ hk);refine⟨?_,.inr ⟨g,c,(setL cur.toList (k*K.sz) cs).toArray,by simp,hb',?_,by simpa using hc1,hc2,?_,?_⟩⟩
  . rw[flat_len (sz:=K.sz) _ hs.sizes,hs.len]
  . rw[hb.block g hlt];exact hput
  . simp[hkk.2,hsz]
  rw[flat_set css h1.sizes k cs hcsl hkc];simp only[List.length_set];rw[hkk.1,ht]
theorem OwV.take{p:Option Addr}{n c m:Nat}(h:OwV K t base w (.slice p n c) xs)(hm:m<=xs.length):OwV K t base w (.slice p m c) (xs.take m):=by
  obtain⟨css,h1,h2⟩:=h;have hl:=h1.len;have hfl:=flat_len css h1.sizes
  have e1:(css.take m).flatten=css.flatten.take (m*K.sz):=by
    have e2:css.flatten=(css.take m).flatten++(css.drop m).flatten:=by rw[<-List.flatten_append,List.take_append_drop]
    have e3:(css.take m).flatten.length=m*K.sz:=by
      rw[flat_len (sz:=K.sz) _ (fun x hx=>h1.sizes x (List.mem_of_mem_take hx)),List.length_take,Nat.min_eq_left (by omega)]
    rw[e2, <-e3,List.take_left]
  refine⟨css.take m,h1.take m,?_,?_⟩
  . rw[flat_len (sz:=K.sz) _ (fun x hx=>h1.sizes x (List.mem_of_mem_take hx)),List.length_take,List.length_take,hl]
  have e4:(xs.take m).length=m:=by rw[List.length_take];omega
  rw[e4,e1]
  rcases h2.2 with⟨e,h0⟩|⟨g,cap,cur,e,hb,hg,hc1,hc2,hs,ht⟩
  . injection e with e5 e6 e7
    subst e5;subst e7;obtain rfl:m=0:=by omega
    exact .inl ⟨rfl,rfl⟩
  injection e with e5 e6 e7
  subst e5;subst e7;refine .inr ⟨g,c,cur,rfl,hb,hg,by omega,hc2,hs,?_⟩;rw[<-ht,List.take_take,Nat.min_eq_left (Nat.mul_le_mul_right _ hm)]
theorem OwV.mono{b:Nat}(h:OwV K t base w v xs)(hb:b<=base):OwV K t b w v xs:=by
  obtain⟨css,h1,hl,h2⟩:=h;exact⟨css,h1,hl,h2.imp id fun⟨g,cap,cur,e,h3,h4⟩=>⟨g,cap,cur,e,Nat.le_trans hb h3,h4⟩⟩
def ob(p:Option Addr):Option Nat:=(Value.slice p 0 0).ownBlock
theorem ob_eq(p:Option Addr)(n c:Nat):(Value.slice p n c).ownBlock=ob p:=by cases p<;>rfl
theorem OwV.block{p:Option Addr}{n c:Nat}(h:OwV K t base w (.slice p n c) xs){g:Nat}(hg:ob p=some g):base<=g/\g<w.heap.size:=h.lt ((ob_eq p n c).trans hg)
theorem OwV.hd{g n c m:Nat}(h:OwV K t base w (.slice (some ⟨g,0,none⟩) n c) xs)(hne:xs≠[])(hK:∀{w:World} {cs:List Value} {x:α} {u:Value},K.R w cs x->cs[0]?=some u->rkV u=m):HdIs g m w:=h.hdIs hne rfl hK
theorem OwV.hd'{m n c:Nat}{q:Option Addr}(h:OwV K t base w (.slice q n c) xs)(hne:xs=[]->q=none)(hK:∀{w:World} {cs:List Value} {x:α} {u:Value},K.R w cs x->cs[0]?=some u->rkV u=m):∀g,ob q=some g->HdIs g m w:=fun g hg=>by
  by_cases hx:xs=[]
  . rw[hne hx]at hg;cases hg
  obtain⟨r,e,e1,h1|⟨g',e2,_⟩⟩:=h.sh
  . injection e1 with e1
    rw[e1,h1.2.1]at hg
    cases hg
  injection e1 with e1 e3 e4
  subst e1;subst e2;subst e4;obtain rfl:g'=g:=Option.some.inj hg;exact h.hd hx hK
theorem OwV.fz{g n c:Nat}(h:OwV K t base w (.slice (some ⟨g,0,none⟩) n c) xs):∀o,w.frozen? ⟨g,o,none⟩=false:=by
  obtain⟨css,h1,hl,⟨e,h0⟩|⟨g',cap,cur,e,hb,hg,_⟩⟩:=h
  . cases e
  injection e with e1
  injection e1 with e1
  injection e1 with e1
  subst e1;intro o;simp[World.frozen?,hg]
theorem OwV.le{p:Option Addr}{n c:Nat}(h:OwV K t base w (.slice p n c) xs):xs.length<=c/\c<=9223372036854775807:=by
  obtain⟨css,h1,hl,⟨e,h0⟩|⟨g',cap,cur,e,hb,hg,hc1,hc2,_⟩⟩:=h
  . injection e with e1 e2 e3
    omega
  injection e with e1 e2 e3
  subst e3;exact⟨hc1,by simpa[maxLen]using hc2⟩
def New(V:World)(fs:List (World->Prop))(R:Nat):Prop:= ∃w,KS V fs w/\R=w.heap.size
theorem New.box{V:World}{fs:List (World->Prop)}{R R' b:Nat}{obj:Obj}(h:New V fs R)(hm:Has b R' obj∈fs):R'<R:=by
  obtain⟨w,hw,rfl⟩:=h;exact(hw.get hm).ltS
theorem New.row{V:World}{fs:List (World->Prop)}{R n c:Nat}{p:Option Addr}(h:New V fs R)(hm:(fun w=>OwV K t base w (.slice p n c) xs)∈fs):ob p≠some R:=by
  obtain⟨w,hw,rfl⟩:=h;exact fun e=>Nat.lt_irrefl _ ((hw.get hm).block e).2
end
section
variable {α:Type}{K:EK α}[OwnK K]{t tt uu u':TypeId}{v:Value}{xs ys:List α}{P:Program}{V w:World}{B:Nat}{ops:Array Oper}{Q:Exit->Act->World->Prop}{Q2:Act->World->Prop}{ks:List Nat}{o:Oper}{rest:List Oper}{fs f0:List (World->Prop)}{a:Act}{q p:Option Addr}{n d m c bytes base:Nat}{z:Value}
structure AppOk(K:EK α)[OwnK K](t:TypeId)(base:Nat)(q:Option Addr)(n d:Nat)(xs:List α)(x:Value)(ys:List α)(w:World):Prop where
  own:OwV K t base w (.slice q n d) xs
  ok:∀g,ob q=some g->K.Free\/NoHd K.S g w
  src:SlV K w x ys
theorem app_does{s x:Operand}(ho:o.op=.call {callee:=.builtin .append,args:=#[s,x],argTypes:=#[tt,uu]})(ht:P.underlying tt=some (.slice t))(hu:P.underlying uu=some (.slice u'))(hinf:(P.info? t).map (fun i=>(i.zero,i.size,i.bytes))=some (some z,K.sz,bytes))(hzs:z.cells.size=K.sz)
    (hs:a.eval s=.slice q n d) (hx:a.eval x=.slice p m c) (h63:xs.length+ys.length<=maxLen) (hbytes:(xs.length+ys.length)*bytes<=140737488355328) (hbase:base<=w.heap.size) (hA:AppOk K t base q n d xs (.slice p m c) ys w):
    Does P (fun u w'=>OwV K t base w' u (xs++ys)/\w.grownBy w' (ob q)/\(u.ownBlock=ob q\/u.ownBlock=some w.heap.size)) ((execOp a.eval o).run P w):=by
  obtain⟨i0,hi,hz0,hz1,hz2⟩:=info_parts hinf;subst hz2;obtain⟨v',w',hr,h2,h3,h4⟩:=run_app (P:=P) (ty:=o.type) ht hu hi hz0 hz1 hzs hA.own (fun g hg=>hA.ok g ((ob_eq q n d).symm.trans hg)) hA.src h63 hbytes hbase;rw[ob_eq]at h3 h4;unfold execOp;simp only[ho,resolve,invoke,builtin,Sem.run_bind,Sem.run_pure,Result.andThen_ok,List.map_toArray,List.map_cons,List.map_nil,hs,hx,hr];exact⟨h2,h3,h4⟩
end
end
section
def intK:EK Int where
  sz:=1
  pos:=by decide
  R:=fun _ cs x=>cs=[.int .i64 x]
  len:=fun e=>by rw[e];rfl
  one:=fun e u hu=>by
    subst e;simp only[List.mem_cons,List.not_mem_nil,or_false]at hu;subst hu;rfl
  below:=fun e _=>e
theorem intK_free:intK.Free:=fun _ _ _ _ h=>h
instance :OwnK intK:=⟨[],fun h _ _ _ _ _ _=>h,.inl intK_free⟩
def strK:EK (List UInt8) where
  sz:=1
  pos:=by decide
  R:=fun _ cs x=>cs=[.string ⟨x.toArray⟩]
  len:=fun e=>by rw[e];rfl
  one:=fun e u hu=>by
    subst e;simp only[List.mem_cons,List.not_mem_nil,or_false]at hu;subst hu;rfl
  below:=fun e _=>e
theorem strK_free:strK.Free:=fun _ _ _ _ h=>h
instance :OwnK strK:=⟨[],fun h _ _ _ _ _ _=>h,.inl strK_free⟩
section
variable {α:Type}{V w:World}{l:List (World->Prop)}{g o n c k:Nat}
end
end
section
def GB(w0:World)(q:Option Addr)(w:World):Prop:=w0.grownBy w (ob q)
def Lies(w0:World)(q r:Option Addr):Prop:=ob r=ob q\/ ∀g,ob r=some g->w0.heap.size<=g
section
variable {α:Type}{K:EK α}{t:TypeId}{v:Value}{xs ys zs:List α}{P:Program}{V w w0 w1 w2:World}{ops:Array Oper}{Q:Exit->Act->World->Prop}{o:Oper}{rest:List Oper}{fs:List (World->Prop)}{a:Act}{q p r:Option Addr}{n d m c base:Nat}
theorem grown_belo(h:w0.grownBy w (ob q))(hb:Below w.heap.size w w1):w0.grownBy w1 (ob q):=
  ⟨hb.os.trans h.os,hb.tape.trans h.tape,hb.output.trans h.output,Nat.le_trans h.size hb.size,fun k hk hne=>(hb.block k (Nat.lt_of_lt_of_le hk h.size)).trans (h.block k hk hne)⟩
theorem GB.start(w:World)(q:Option Addr):GB w q w:=⟨rfl,rfl,rfl,Nat.le_refl _,fun _ _ _=>rfl⟩
theorem GB.below(h:GB w0 q w)(hb:Below w.heap.size w w1):GB w0 q w1:=grown_belo h hb
theorem GB.sz(h:GB w0 q w):w0.heap.size<=w.heap.size:=h.size
theorem GB.grown(h:GB w0 q w)(hl:Lies w0 q r)(hg:w.grownBy w1 (ob r)):GB w0 q w1:=
  ⟨hg.os.trans h.os,hg.tape.trans h.tape,hg.output.trans h.output,Nat.le_trans h.size hg.size,fun k hk hne=>by
    refine(hg.block k (Nat.lt_of_lt_of_le hk h.size) fun e=>?_).trans (h.block k hk hne)
    rcases hl with hl|hl
    . exact hne (e.trans hl)
    have:=hl k e.symm;omega⟩
theorem New.gb{R:Nat}(h:New V fs R)(hm:GB w0 q∈fs):w0.heap.size<=R:=by
  obtain⟨w,hw,rfl⟩:=h;exact(hw.get hm).sz
theorem Lies.app(hr:ob r=ob p\/ob r=some w.heap.size)(hl:Lies w0 q p)(hs:w0.heap.size<=w.heap.size):Lies w0 q r:=by
  rcases hr with h|h
  . exact hl.imp (fun e=>h.trans e) fun e g hg=>e g (h▸hg)
  exact .inr fun g hg=>by rw[h]at hg;injection hg with hg;omega
theorem Lies.box{R:Nat}(hl:Lies w q r)(hn:ob q≠some R)(hR:R<w.heap.size):ob r≠some R:=by
  rcases hl with h|h
  . rw[h];exact hn
  exact fun e=>absurd (h R e) (by omega)
theorem Lies.row{q':Option Addr}(hl:Lies w q r)(hn:∀g,ob q=some g->ob q'≠some g)(hR:∀g,ob q'=some g->g<w.heap.size):∀g,ob r=some g->ob q'≠some g:=fun g hg e=>by
  rcases hl with h|h
  . rw[h]at hg;exact hn g hg e
  exact absurd (h g hg) (by have:=hR g e;omega)
end
section
variable {α:Type}{K:EK α}[OwnK K]{t tt uu u':TypeId}{xs ys:List α}{P:Program}{V:World}{B:Nat}{ops:Array Oper}{Q2:Act->World->Prop}{ks:List Nat}{o:Oper}{rest:List Oper}{fs f0:List (World->Prop)}{a:Act}{q p:Option Addr}{n d m c bytes:Nat}{z:Value}
end
end
section
class HdK{α:Type}(K:EK α) where
  n:Nat
  hd:∀{w:World} {cs x u},K.R w cs x->cs[0]?=some u->rkV u=n
section
variable {α:Type}{K:EK α}{w w':World}
theorem SlV.one0{p:Option Addr}{n c:Nat}{xs:List α}(h:SlV K w (.slice p n c) xs):n=xs.length:=by
  obtain⟨css,h1,⟨rfl,p',c',e⟩|⟨g,o,c',e,_⟩⟩:=h
  . injection e with _ e2
  injection e with _ e2
def slK(K:EK α):EK (List α) where
  sz:=1
  pos:=by decide
  R:=fun w cs xs=> ∃p c,cs=[.slice p xs.length c]/\SlV K w (.slice p xs.length c) xs/\ ∀g o i,p=some ⟨g,o,i⟩->o=0
  len:=fun⟨_,_,e,_⟩=>by rw[e];rfl
  one:=fun⟨_,_,e,_⟩ u hu=>by
    subst e;obtain rfl:=List.mem_singleton.1 hu;rfl
  below:=fun⟨p,c,e,h,h0⟩ hb=>⟨p,c,e,h.below hb,h0⟩
theorem SlV.spare[OwnK K][HdK K]{p:Option Addr}{n c R:Nat}{xs:List α}(h:SlV K w (.slice p n c) xs)(h0:∀g o i,p=some ⟨g,o,i⟩->o=0)(hg:NoHd (HdK.n K::K.S) R w):Spares R w (fun w=>SlV K w (.slice p n c) xs):=fun w1 hs hf w2 hb=>by
  have hS:NoHd K.S R w:=fun v hv=>by
    have:=hg v hv;simp only[List.contains_cons,Bool.or_eq_false_iff]at this;exact this.2
  obtain⟨css,h1,h2⟩:=h;refine⟨css,h1.spare hS w1 hs hf w2 hb,h2.imp id fun⟨g,o,c',e,hl,hc1,hc2,ha⟩=>⟨g,o,c',e,Nat.lt_of_lt_of_le hl (Nat.le_trans hs hb.size),hc1,hc2,fun k cs j u c1 c2=>?_⟩⟩
  injection e with e1 e2 e3
  obtain rfl:=h0 g o none e1
  have hne:g≠R:=fun e=>by
    subst e;have hk:0<css.length:=Nat.lt_of_le_of_lt (Nat.zero_le _) (List.getElem?_eq_some_iff.1 c1).1;have hc0:css[0]?=some css[0]:=List.getElem?_eq_getElem hk;have hr:=h1.el 0 _ _ hc0 (List.getElem?_eq_getElem (h1.len▸hk));have hz:=K.len hr;have hp:=K.pos;have hu:css[0][0]?=some (css[0][0]'(by omega)):=List.getElem?_eq_getElem (by omega);have h3:=ha 0 _ 0 _ hc0 hu;rw[show 0+0*K.sz+0=0 by omega]at h3;have h4:=hg _ h3;rw[HdK.hd hr hu]at h4;simp at h4
  rw[(hb.cell (p:=⟨g,_,none⟩) (Nat.lt_of_lt_of_le hl hs)), <-ha k cs j u c1 c2];exact World.cell?_of_block (hf g hne hl)
theorem OwV.toR{t:TypeId}{b n c:Nat}{p:Option Addr}{xs:List α}(h:OwV K t b w (.slice p n c) xs):(slK K).R w [.slice p n c] xs:=by
  obtain rfl:=h.slv.one0;refine⟨p,c,rfl,h.slv,fun g o i e=>?_⟩;subst e;obtain⟨css,h1,hl,⟨e,h0⟩|⟨g',cap,cur,e,_⟩⟩:=h
  . cases e
  injection e with e1
  injection e1 with e1
  injection e1
theorem GB.to{w0:World}(h:GB w0 none w):Below w0.heap.size w0 w:=⟨h.os,h.tape,h.output,h.size,fun k hk=>h.block k hk (by rintro⟨⟩)⟩
theorem Lies.apart{w0:World}{r q:Option Addr}(h:Lies w0 none r)(hb:∀g,ob q=some g->g<w0.heap.size):∀g,ob r=some g->ob q≠some g:=fun g e e2=>by
  rcases h with h|h
  . rw[h]at e;cases e
  have:=h g e;have:=hb g e2;omega
theorem SlV.lt{p:Option Addr}{n c:Nat}{xs:List α}(h:SlV K w (.slice p n c) xs)(hne:xs≠[]){g:Nat}(hg:ob p=some g):g<w.heap.size:=by
  obtain⟨css,h1,⟨rfl,p',c',e⟩|⟨g',o,c',e,hl,_⟩⟩:=h
  . exact absurd rfl hne
  injection e with e1
  subst e1;have:g'=g:=Option.some.inj hg;exact this▸hl
theorem made_flat(cs:List Value)(n:Nat)(h:0<cs.length):(madeCells cs.toArray (n*cs.length)).toList=(List.replicate n cs).flatten:=by
  refine List.ext_getElem? fun k=>?_
  have hl:=flat_len (sz:=cs.length) (List.replicate n cs) (fun x hx=>by rw[(List.mem_replicate.1 hx).2]);rw[List.length_replicate]at hl
  by_cases hk:k<n*cs.length
  . have hq:k/cs.length<n:=Nat.div_lt_of_lt_mul (by rwa [Nat.mul_comm]at hk);have hm:=Nat.mod_lt k h;have h2:=flat_at (sz:=cs.length) (List.replicate n cs) (fun x hx=>by rw[(List.mem_replicate.1 hx).2]) (k/cs.length) (k%cs.length) cs (by simp[hq]) hm;rw[Nat.mul_comm,Nat.div_add_mod]at h2;rw[h2];simp[madeCells,hk,hm]
  rw[List.getElem?_eq_none (by simp[madeCells];omega),List.getElem?_eq_none (by omega)]
end
end
end Go.Proofs.YtgemmbpjebijlaaGreatDoor
