/- What this law needs beyond the texts that the group shares. -/

import Derived.Test.YtgemmbpjebijlaaGreatDoorScI
namespace Go.Proofs.YtgemmbpjebijlaaGreatDoor
def rotG{α:Type _}(d:α)(l:List α)(t:Nat):List α:=(List.range l.length).map fun k=>l.getD ((k+t)%l.length) d
theorem rotG_len{α:Type _}(d:α)(l:List α)(t:Nat):(rotG d l t).length=l.length:=by simp[rotG]
theorem rotG_at{α:Type _}(d:α)(l:List α)(t:Nat){k:Nat}(h:k<l.length):(rotG d l t).getD k d=l.getD ((k+t)%l.length) d:=by
  rw[List.getD,rotG,List.getElem?_map,List.getElem?_range h];rfl
theorem rotG_mem{α:Type _}(d:α){l:List α}{t:Nat}{e:α}(h:e∈rotG d l t):e∈l:=by
  obtain⟨k,hk,rfl⟩:=List.mem_map.1 h;have hk:=List.mem_range.1 hk;have:=Nat.mod_lt (k+t) (Nat.lt_of_le_of_lt (Nat.zero_le k) hk);rw[List.getD,List.getElem?_eq_getElem this];exact List.getElem_mem this
theorem rotG_cut{α:Type _}(d:α)(l:List α)(t:Nat):rotG d l t=l.drop (t%l.length)++l.take (t%l.length):=by
  refine List.ext_getElem? fun k=>?_
  by_cases hk:k<l.length
  · have h0:0<l.length:=by omega
    have ht:=Nat.mod_lt t h0;rw[rotG,List.getElem?_map,List.getElem?_range hk,Option.map_some];have e:(k+t)%l.length=(k+t%l.length)%l.length:=by rw[Nat.add_mod_mod]
    rw[e];generalize t%l.length=s at ht⊢
    by_cases hs:k+s<l.length
    · rw[Nat.mod_eq_of_lt hs,List.getElem?_append_left (by simp;omega),List.getElem?_drop,List.getD,Nat.add_comm s k,List.getElem?_eq_getElem hs];rfl
    · have e2:(k+s)%l.length=k+s-l.length:=by rw[Nat.mod_eq_sub_mod (by omega),Nat.mod_eq_of_lt (by omega)]
      rw[e2,List.getElem?_append_right (by simp;omega),List.getElem?_take,if_pos (by simp;omega),List.getD,List.length_drop,List.getElem?_eq_getElem (by omega:k+s-l.length<l.length)];rw[show k-(l.length-s)=k+s-l.length by omega,List.getElem?_eq_getElem (by omega:k+s-l.length<l.length)];rfl
  · rw[List.getElem?_eq_none (by rw[rotG_len];omega),List.getElem?_eq_none (by simp;omega)]
abbrev rotL(l:List Rat)(t:Nat):List Rat:=rotG 0 l t
theorem rot_dot{a b:List Rat}(h:a.length=b.length)(t:Nat):dotQ (rotL a t) (rotL b t)=dotQ a b:=by
  rw[rotL,rotL,rotG_cut,rotG_cut,h];generalize t%b.length=s;rw[dotQ_append _ _ _ _ (by simp[h])]
  conv=>rhs;rw[←List.take_append_drop s a, ←List.take_append_drop s b]
  rw[dotQ_append _ _ _ _ (by simp[h])]
  grind
def LPd.rot(P:LPd)(s t:Nat):LPd:=⟨rotL P.c s,(rotG [] P.A t).map fun a=>(List.range P.c.length).map fun k=>a.getD ((k+s)%P.c.length) 0,rotL P.b t⟩
section
variable {P:LPd}{s t:Nat}
theorem rot_row{a:List Rat}(h:a.length=P.c.length):((List.range P.c.length).map fun k=>a.getD ((k+s)%P.c.length) 0)=rotL a s:=by rw[←h];rfl
theorem LPd.Ok.rot(hP:P.Ok):(P.rot s t).Ok:=⟨by simp[LPd.rot,rotG_len,hP.hb],fun a ha=>by
  obtain⟨b,_,rfl⟩:=List.mem_map.1 ha;simp[LPd.rot,rotG_len]⟩
theorem rot_A(hP:P.Ok){i:Nat}(hi:i<P.A.length):(P.rot s t).A.getD i []=rotL (P.A.getD ((i+t)%P.A.length) []) s:=by
  have hm:=Nat.mod_lt (i+t) (Nat.lt_of_le_of_lt (Nat.zero_le i) hi);have h1:(rotG [] P.A t)[i]?=some (P.A.getD ((i+t)%P.A.length) []):=by rw[rotG,List.getElem?_map,List.getElem?_range hi];rfl
  rw[LPd.rot,List.getD,List.getElem?_map,h1,Option.map_some,Option.getD_some,rot_row (hP.row hm)]
theorem rot_col(_hP:P.Ok){k:Nat}(hk:k<P.c.length):((P.rot s t).A.map fun a=>a.getD k 0)=rotL (P.A.map fun a=>a.getD ((k+s)%P.c.length) 0) t:=by
  refine List.ext_getElem? fun i=>?_
  by_cases hi:i<P.A.length
  · have hm:=Nat.mod_lt (i+t) (Nat.lt_of_le_of_lt (Nat.zero_le i) hi)
    have h1:(rotG [] P.A t)[i]?=some (P.A.getD ((i+t)%P.A.length) []):=by rw[rotG,List.getElem?_map,List.getElem?_range hi];rfl
    rw[LPd.rot,List.getElem?_map,List.getElem?_map,h1,Option.map_some,Option.map_some,rotL,rotG,List.getElem?_map,List.length_map,List.getElem?_range hi,Option.map_some]
    congr 1
    rw[List.getD,List.getElem?_map,List.getElem?_range hk,Option.map_some,Option.getD_some];rw[List.getD_eq_getElem?_getD (l:=List.map _ _),List.getElem?_map,List.getElem?_eq_getElem hm,Option.map_some,Option.getD_some,List.getD_eq_getElem?_getD (l:=P.A),List.getElem?_eq_getElem hm,Option.getD_some]
  · rw[List.getElem?_eq_none (by simp[LPd.rot,rotG_len];omega),List.getElem?_eq_none (by simp[rotG_len];omega)]
theorem rot_over(hP:P.Ok):Over id P (P.rot s t):=by
  have hA:(P.rot s t).A.length=P.A.length:=by simp[LPd.rot,rotG_len]
  have hc:(P.rot s t).c.length=P.c.length:=rotG_len ..;have hmA:∀i,i<P.A.length→(i+t)%P.A.length<P.A.length:=fun i hi=>Nat.mod_lt _ (by omega)
  have hmc:∀k,k<P.c.length→(k+s)%P.c.length<P.c.length:=fun i hi=>Nat.mod_lt _ (by omega)
  have hb:∀i,i<P.A.length→(P.rot s t).b.getD i 0=P.b.getD ((i+t)%P.A.length) 0:=fun i hi=>by rw[←hP.hb];exact rotG_at 0 P.b t (by rw[hP.hb];exact hi)
  have fx:∀x:List Rat,x.length=P.c.length→ ∀i,i<P.A.length→dotQ ((P.rot s t).A.getD i []) (rotL x s)=dotQ (P.A.getD ((i+t)%P.A.length) []) x:=fun x hx i hi=>by
    rw[rot_A hP hi,rot_dot (by rw[hx,hP.row (hmA i hi)])]
  have fy:∀y:List Rat,y.length=P.A.length→ ∀k,k<P.c.length→dotQ (rotL y t) ((P.rot s t).A.map fun a=>a.getD k 0)=dotQ y (P.A.map fun a=>a.getD ((k+s)%P.c.length) 0):=fun y hy k hk=>by
    rw[rot_col hP hk,rot_dot (by simp[hy])]
  refine⟨fun x y z h=>⟨rotL x s,rotL y t,?_⟩,fun y h=>⟨rotL y t,?_⟩,fun x r h=>⟨rotL x s,rotL r s,?_⟩⟩
  · exact⟨by rw[rotL,rotG_len,hc,h.xl],fun e he=>h.x0 e (rotG_mem 0 he),fun i hi=>by rw[hA]at hi;rw[fx x h.xl i hi,hb i hi];exact h.ax _ (hmA i hi),by rw[rotL,rotG_len,hA,h.yl],fun e he=>h.y0 e (rotG_mem 0 he),
      fun k hk=>by rw[hc]at hk;rw[fy y h.yl k hk,show(P.rot s t).c.getD k 0=_ from rotG_at 0 P.c s hk];exact h.ya _ (hmc k hk),by rw[show(P.rot s t).c=rotL P.c s from rfl,rot_dot h.xl.symm];exact h.cx,by rw[show(P.rot s t).b=rotL P.b t from rfl,rot_dot (by rw[hP.hb,h.yl])];exact h.yb⟩
  · exact⟨by rw[rotL,rotG_len,hA,h.yl],fun e he=>h.y0 e (rotG_mem 0 he),fun k hk=>by rw[hc]at hk;rw[fy y h.yl k hk];exact h.ya _ (hmc k hk),by rw[show(P.rot s t).b=rotL P.b t from rfl,rot_dot (by rw[hP.hb,h.yl])];exact h.yb⟩
  · exact⟨by rw[rotL,rotG_len,hc,h.xl],fun e he=>h.x0 e (rotG_mem 0 he),fun i hi=>by rw[hA]at hi;rw[fx x h.xl i hi,hb i hi];exact h.ax _ (hmA i hi),by rw[rotL,rotG_len,hc,h.rl],fun e he=>h.r0 e (rotG_mem 0 he),
      fun i hi=>by rw[hA]at hi;rw[fx r h.rl i hi];exact h.ar _ (hmA i hi),by rw[show(P.rot s t).c=rotL P.c s from rfl,rot_dot h.rl.symm];exact h.cr⟩
end
section
variable {P:LPd}{f:Rat}{i:Nat}
theorem set_get_ne{α:Type _}{l:List α}{i k:Nat}{x d:α}(h:k≠i):(l.set i x).getD k d=l.getD k d:=by rw[List.getD,List.getElem?_set_ne (Ne.symm h),List.getD]
theorem set_get_eq{α:Type _}{l:List α}{i:Nat}{x d:α}(h:i<l.length):(l.set i x).getD i d=x:=by rw[List.getD,List.getElem?_set_self h];rfl
end
end Go.Proofs.YtgemmbpjebijlaaGreatDoor
namespace Go.Proofs.YtgemmbpjebijlaaGreatDoor
open Go.RowKit
section
variable {V w:World}{l:List Ft}{a:RsS}{R:LpRes}{P:LPd}{X k:Nat}
theorem smL{l:List Rat}(h:∀c∈l,SmX X c)(hX:X<B32^k):LmL k l:=fun c hc=>sml_lm (h c hc) hX
theorem cert_len(h:CertR P R)(hm:LmP 50 P):R.x.length≤100000∧R.y.length≤100000∧R.r.length≤100000:=by
  have h1:=hm.n;have h2:=hm.m
  rcases h with⟨_,h,e1⟩|⟨_,h,e1,e2,_⟩|⟨_,h,e1,_⟩
  · rw[h.xl,h.yl,e1];simp;omega
  · rw[e1,h.yl,e2];simp;omega
  · rw[h.xl,h.rl,e1];simp;omega
variable {cp ap bp:Option Addr}{cl cc al ac bl bc:Nat}
end
end Go.Proofs.YtgemmbpjebijlaaGreatDoor
namespace Go.Proofs.YtgemmbpjebijlaaGreatDoor
open Go.ChangeShapes Go.WideShapes Go.ChangeAt Go.RowKit Go.Joins Go.Deep
section
variable {H:Type}{enc:TypeId × Value→H}{w:World}{base:Nat}{sp:Nat→Bool}{hd:Bool}
set_option maxRecDepth 100000 in
theorem open_u8{b0:Nat}{v:Value}{d:DataW H}{p:List MemPlace}(hv:Value.okWide Tryz.prog w .any b0 5 v)(h:DataW.Trod enc Tryz.prog w base sp hd 5 v d p):∃x:Nat,v=.int .u8 (x:Int)∧x<256:=by
  obtain⟨x,rfl,_,_,wx⟩:=open_int Tryz.underlying5 hv h;have hz:0≤x∧x<256:=by simp[Lit.wf,IntKind.min,IntKind.max,IntKind.signed,IntKind.bits]at wx;omega
  exact⟨x.toNat,by rw[Int.toNat_of_nonneg hz.1],by omega⟩
end
end Go.Proofs.YtgemmbpjebijlaaGreatDoor
namespace Go.Proofs.YtgemmbpjebijlaaGreatDoor
open Go.RowKit
section
variable {P Q:LPd}{D:Int}{X Y s t i j:Nat}
theorem Fra.lt{e:Rat}(h:Fra D X e)(hX:X≤Y):Fra D Y e:=by
  obtain⟨z,h1,h2⟩:=h;exact⟨z,Nat.le_trans h1 hX,h2⟩
theorem FrP.lm{k:Nat}(h:FrP D X P)(hX:X<B32^k)(hn:P.c.length≤12)(hm:P.A.length≤12):LmP k P:=
  ⟨fun c hc=>sml_lm ((h.c c hc).num h.den) hX,fun r hr c hc=>sml_lm ((h.a r hr c hc).num h.den) hX,fun c hc=>sml_lm ((h.b c hc).num h.den) hX,hn,hm⟩
theorem ok_vld(hP:P.Ok)(h1:1≤P.c.length)(hn:P.c.length≤12)(hm:P.A.length≤12):vldP P=true:=by
  unfold vldP vldH;simp only[Bool.and_eq_true,decide_eq_true_eq];refine⟨⟨⟨⟨h1,by omega⟩,by omega⟩,hP.hb⟩,allN_iff.2 fun i hi=>?_⟩;unfold rowP;exact decide_eq_true (hP.row hi)
theorem made_ok{n:Nat}(hQ:Q.Ok)(hF:FrP D X Q)(h1:1≤Q.c.length)(hn:Q.c.length≤12)(hm:Q.A.length≤12)(h5:Q.A.length≤n∨Q.c.length+1≤n)(hX:bdN n X<B32^50):vldP Q=true∧LmP 50 Q∧LimS (bdN n X) Q:=
  ⟨ok_vld hQ h1 hn hm,hF.lm (Nat.lt_of_le_of_lt (bdN_ge n hF.pos) hX) hn hm,⟨fun _ hs ha=>hF.small hQ (by omega) hs ha,fun _ hs ha=>hF.smallA hQ h5 hs ha⟩⟩
def pickL(l:List Rat)(s n k:Nat):List Rat:=(List.range k).map fun j=>l.getD ((j+s)%n) 0
theorem pickL_len(l:List Rat)(s n k:Nat):(pickL l s n k).length=k:=by simp[pickL]
theorem pickL_snoc{l:List Rat}{s n k:Nat}{x:Rat}(h:l[(k+s)%n]?=some x):pickL l s n k++[x]=pickL l s n (k+1):=by
  unfold pickL;rw[List.range_succ,List.map_append,show x=l.getD ((k+s)%n) 0 from(getD_of h).symm];rfl
def rowsR(P:LPd)(s t k:Nat):List (List Rat):=(List.range k).map fun i=>pickL (P.A.getD ((i+t)%P.A.length) []) s P.c.length P.c.length
theorem rowsR_len(P:LPd)(s t k:Nat):(rowsR P s t k).length=k:=by simp[rowsR]
theorem rowsR_snoc{k:Nat}{y:List Rat}(h:P.A[(k+t)%P.A.length]?=some y):rowsR P s t k++[pickL y s P.c.length P.c.length]=rowsR P s t (k+1):=by
  unfold rowsR;rw[List.range_succ,List.map_append,show y=P.A.getD ((k+t)%P.A.length) []from(getD_of h).symm];rfl
theorem rot_is(hP:P.Ok):(⟨pickL P.c s P.c.length P.c.length,rowsR P s t P.A.length,pickL P.b t P.A.length P.A.length⟩:LPd)=P.rot s t:=by
  unfold LPd.rot rowsR rotL rotG;rw[List.map_map,hP.hb];rfl
theorem rot_n:(P.rot s t).c.length=P.c.length:=rotG_len ..
theorem rot_m:(P.rot s t).A.length=P.A.length:=by simp[LPd.rot,rotG_len]
theorem FrP.rot(h:FrP D X P):FrP D X (P.rot s t):=by
  refine⟨h.den,fun e he=>h.c e (rotG_mem _ he),fun r hr e he=>?_,fun e he=>h.b e (rotG_mem _ he)⟩;obtain⟨a,ha,rfl⟩:=List.mem_map.1 hr;obtain⟨k,_,rfl⟩:=List.mem_map.1 he;exact Fra.getD (h.a a (rotG_mem _ ha)) _
theorem FrP.imp(h:FrP 1 128 P):FrP 1 256 (P.imp i j):=by
  have ad:∀{x y:Rat},Fra 1 128 x→Fra 1 128 y→Fra 1 256 (x+y):=fun{x y} ⟨a,h1,h2⟩ ⟨b,h3,h4⟩=>⟨a+b,by omega,by rw[Rat.intCast_add, ←h2, ←h4];grind⟩
  have gd:∀{k m:Nat},Fra 1 128 ((P.A.getD k []).getD m 0):=fun{k m}=>by
    refine Fra.getD (fun e he=>?_) m;obtain⟨r,hr,he'⟩:=getD_mem_nil he;exact h.a r hr e he'
  refine⟨⟨by decide,by decide⟩,fun e he=>(h.c e he).lt (by decide),fun r hr e he=>?_,fun e he=>?_⟩
  · rcases List.mem_append.1 hr with h1|h1
    · exact(h.a r h1 e he).lt (by decide)
    · rw[List.mem_singleton.1 h1]at he
      obtain⟨k,_,rfl⟩:=List.mem_map.1 he;exact ad gd gd
  · rcases List.mem_append.1 he with h1|h1
    · exact(h.b e h1).lt (by decide)
    · rw[List.mem_singleton.1 h1]
      exact ad (Fra.getD h.b i) (Fra.getD h.b j)
theorem bd5_rot:bdN 5 128<B32^50:=X5_lt
end
end Go.Proofs.YtgemmbpjebijlaaGreatDoor
namespace Go.Proofs.YtgemmbpjebijlaaGreatDoor
open Go.RowKit
section
variable {w w':World}{p:Option Addr}{n c:Nat}{A:List (List Rat)}{sp:List Sl}{s:Sl}{x:List Rat}
structure Rd(w:World)(sp:List Sl)(A:List (List Rat)):Prop where
  len:sp.length=A.length
  at':∀(i:Nat) (s:Sl) (a:List Rat),sp[i]?=some s→A[i]?=some a→rfK.R w [.slice s.p s.l s.c] a
def slOf(cs:List Value):Sl:=match cs with
  |[.slice p l c]=>⟨p,l,c⟩
  |_=>⟨none,0,0⟩
theorem SlV.apart(h:SlV rfK w (.slice p n c) A):∃sp,SlV slcR w (.slice p n c) sp∧Rd w sp A:=by
  obtain⟨css,h1,h2⟩:=h;have hl:(css.map slOf).length=A.length:=by rw[List.length_map];exact h1.len
  have hs:∀(i:Nat) (cs:List Value),css[i]?=some cs→cs=[.slice (slOf cs).p (slOf cs).l (slOf cs).c]:=fun i cs e=>by
    have hi:i<A.length:=by rw[←h1.len];exact(List.getElem?_eq_some_iff.1 e).1
    obtain⟨q,d,e1,_⟩:=h1.el i cs _ e (List.getElem?_eq_getElem hi);rw[e1];rfl
  refine⟨css.map slOf,⟨css,⟨(List.length_map ..).symm,fun i cs y e1 e2=>?_⟩,h2.imp (fun e=>⟨?_,e.2⟩) fun⟨g,o,c',e1,e2,e3,e4,e5⟩=>⟨g,o,c',by rw[hl];exact e1,e2,by rw[hl];exact e3,e4,e5⟩⟩,⟨hl,fun i s a e1 e2=>?_⟩⟩
  · rw[List.getElem?_map,e1,Option.map_some]at e2
    rw[←Option.some.inj e2];exact hs i cs e1
  · exact List.eq_nil_of_length_eq_zero (by rw[hl,e.1];rfl)
  · rw[List.getElem?_map]at e1
    obtain⟨cs,e3,rfl⟩:=Option.map_eq_some_iff.1 e1;rw[←hs i cs e3];exact h1.el i cs a e3 e2
theorem Rd.join(h:Rd w sp A)(h1:SlV slcR w (.slice p n c) sp):SlV rfK w (.slice p n c) A:=by
  obtain⟨css,h3,h4⟩:=h1;refine⟨css,⟨h3.len.trans h.len,fun i cs xs e1 e2=>?_⟩,h4.imp (fun e=>⟨List.eq_nil_of_length_eq_zero (by rw[←h.len,e.1];rfl),e.2⟩) fun⟨g,o,c',e1,e2,e3,e4,e5⟩=>⟨g,o,c',by rw[←h.len];exact e1,e2,by rw[←h.len];exact e3,e4,e5⟩⟩;have hi:i<sp.length:=by rw[h.len];exact(List.getElem?_eq_some_iff.1 e2).1
  have h5:cs=[.slice sp[i].p sp[i].l sp[i].c]:=h3.el i cs _ e1 (List.getElem?_eq_getElem hi);rw[h5];exact h.at' i _ xs (List.getElem?_eq_getElem hi) e2
theorem Rd.below(h:Rd w sp A)(hb:Below w.heap.size w w'):Rd w' sp A:=⟨h.len,fun i s a e1 e2=>rfK.below (h.at' i s a e1 e2) hb⟩
theorem Rd.snoc(h:Rd w sp A)(hx:rfK.R w [.slice s.p s.l s.c] x):Rd w (sp++[s]) (A++[x]):=⟨by simp[h.len],fun i s' a e1 e2=>by
  by_cases hi:i<sp.length
  · rw[List.getElem?_append_left hi]at e1
    rw[List.getElem?_append_left (by rw[←h.len];exact hi)]at e2;exact h.at' i s' a e1 e2
  · have h1:i-sp.length=0:=by
      have:=(List.getElem?_eq_some_iff.1 e1).1;rw[List.length_append,List.length_singleton]at this;omega
    rw[List.getElem?_append_right (by omega),h1]at e1;rw[List.getElem?_append_right (by rw[←h.len];omega), ←h.len,h1]at e2
    cases e1;cases e2
    exact hx⟩
theorem Rd.set(h:Rd w sp A)(hx:rfK.R w [.slice s.p s.l s.c] x)(j:Nat):Rd w (sp.set j s) (A.set j x):=⟨by simp[h.len],fun i s' a e1 e2=>by
  rw[List.getElem?_set]at e1 e2
  by_cases hj:j=i
  · subst hj
    rw[if_pos rfl]at e1 e2
    split at e1
    · split at e2
      · cases e1;cases e2;exact hx
      · cases e2
    · cases e1
  · rw[if_neg hj]at e1 e2
    exact h.at' i s' a e1 e2⟩
end
end Go.Proofs.YtgemmbpjebijlaaGreatDoor
namespace Go.Proofs.YtgemmbpjebijlaaGreatDoor
open Go.RowKit
section
variable {P:LPd}{t m:Nat}{x y u v:List Rat}{z:Rat}
theorem mod_inj{i j:Nat}(hi:i<m)(hj:j<m)(h:(i+t)%m=(j+t)%m):i=j:=by
  have h1:=Nat.div_add_mod (i+t) m;have h2:=Nat.div_add_mod (j+t) m;rw[h]at h1;have h3:m*((i+t)/m)+j=m*((j+t)/m)+i:=by omega
  rcases Nat.lt_trichotomy ((i+t)/m) ((j+t)/m)with e|e|e
  · have:=Nat.mul_le_mul_left m (Nat.succ_le_of_lt e)
    rw[Nat.mul_succ]at this;omega
  · rw[e]at h3;omega
  · have:=Nat.mul_le_mul_left m (Nat.succ_le_of_lt e)
    rw[Nat.mul_succ]at this;omega
def BackY(m t:Nat)(b y:List Rat)(k:Nat):Prop:=y.length=m∧ ∀j,j<k→y.getD ((j+t)%m) 0=b.getD j 0
theorem BackY.zero:BackY m t x (List.replicate m 0) 0:=⟨List.length_replicate,fun _ h=>absurd h (Nat.not_lt_zero _)⟩
theorem BackY.step{k:Nat}{e:Rat}(h:BackY m t x y k)(hk:k<m)(he:x[k]?=some e):BackY m t x (y.set ((k+t)%m) e) (k+1):=by
  refine⟨by rw[List.length_set];exact h.1,fun j hj=>?_⟩;have hm:(k+t)%m<y.length:=by rw[h.1];exact Nat.mod_lt _ (by omega)
  by_cases ej:j=k
  · subst ej;rw[set_get_eq hm,getD_of he]
  · rw[set_get_ne (fun q=>ej (mod_inj (by omega) hk q))]
    exact h.2 j (by omega)
theorem BackY.rot(h:BackY m t x y m)(hx:x.length=m):rotL y t=x:=by
  refine List.ext_getElem? fun i=>?_
  by_cases hi:i<m
  · rw[rotL,rotG,List.getElem?_map,List.getElem?_range (by rw[h.1];exact hi),Option.map_some,h.1,h.2 i hi,List.getElem?_eq_getElem (by omega:i<x.length),List.getD,List.getElem?_eq_getElem (by omega:i<x.length)]
    rfl
  · rw[List.getElem?_eq_none (by rw[rotG_len,h.1];omega),List.getElem?_eq_none (by omega)]
theorem mix_opt(hP:P.Ok)(ha:OptC P x u z)(hb:OptC (P.rot 0 t) v y z){w:List Rat}(hw:BackY P.A.length t y w P.A.length):OptC P x w z:=by
  have hA:(P.rot 0 t).A.length=P.A.length:=by simp[LPd.rot,rotG_len]
  have hc:(P.rot 0 t).c.length=P.c.length:=rotG_len ..;have hr:=hw.rot (by rw[hb.yl,hA]);refine⟨ha.xl,ha.x0,ha.ax,hw.1,fun e he=>hb.y0 e ?_,fun k hk=>?_,ha.cx,?_⟩
  · rw[←hr,rotL,rotG_cut,List.mem_append]
    rw[←List.take_append_drop (t%w.length) w,List.mem_append]at he;exact he.symm
  · have h1:=hb.ya k (by rw[hc];exact hk)
    rw[rot_col hP hk, ←hr,rot_dot (by rw[hw.1,List.length_map]),show(P.rot 0 t).c.getD k 0=_ from rotG_at 0 P.c 0 hk,Nat.add_zero,Nat.mod_eq_of_lt hk]at h1;exact h1
  · rw[←hb.yb,show(P.rot 0 t).b=rotL P.b t from rfl, ←hr,rot_dot (by rw[hP.hb,hw.1])]
theorem mix_chk{a b:LpRes}(hv:vldP P=true)(ha:CertR P a)(hb:CertR (P.rot 0 t) b)(hk:a.k=1){w:List Rat}(hw:BackY P.A.length t b.y w P.A.length):chkB P ⟨1,a.x,w,[],b.z⟩=true:=by
  have hP:=vld_ok hv;have hs:=Over.same (rot_over hP) (hP.rot (s:=0) (t:=t)) rfl ha hb;rw[chk_acc];refine(acc_cert hv).2 (.inl ⟨rfl,?_,rfl⟩);have hkb:b.k=1:=hs.1.symm.trans hk
  rcases ha with⟨_,ha,_⟩|⟨e,_⟩|⟨e,_⟩
  · rcases hb with⟨_,hb,_⟩|⟨e,_⟩|⟨e,_⟩
    · have hz:b.z=a.z:=hs.2.symm
      show OptC P a.x w b.z
      rw[hz]at hb⊢;exact mix_opt hP ha hb hw
    · rw[e]at hkb;exact absurd hkb (by decide)
    · rw[e]at hkb;exact absurd hkb (by decide)
  · rw[e]at hk;exact absurd hk (by decide)
  · rw[e]at hk;exact absurd hk (by decide)
theorem pick_all{l:List Rat}{n:Nat}(h:l.length=n):pickL l 0 n n=l:=by
  subst h;refine List.ext_getElem? fun i=>?_
  by_cases hi:i<l.length
  · rw[pickL,List.getElem?_map,List.getElem?_range hi,Option.map_some,Nat.add_zero,Nat.mod_eq_of_lt hi,List.getElem?_eq_getElem hi,List.getD,List.getElem?_eq_getElem hi];rfl
  · rw[List.getElem?_eq_none (by rw[pickL_len];omega),List.getElem?_eq_none (by omega)]
theorem turn_is(hP:P.Ok):(⟨P.c,rowsR P 0 t P.A.length,pickL P.b t P.A.length P.A.length⟩:LPd)=P.rot 0 t:=by
  have h:=rot_is (P:=P) (s:=0) (t:=t) hP
  rwa [pick_all rfl]at h
theorem turn_snoc{k:Nat}{a:List Rat}(h:P.A[(k+t)%P.A.length]?=some a)(ha:a.length=P.c.length):rowsR P 0 t k++[a]=rowsR P 0 t (k+1):=by
  have q:=rowsR_snoc (P:=P) (s:=0) (t:=t) h
  rwa [pick_all ha]at q
end
end Go.Proofs.YtgemmbpjebijlaaGreatDoor
