/- Certificates (one of several texts). Part 3 of 6. -/

import Derived.Test.YtgemmbpjebijlaaGreatDoorQB
import Derived.MapKept
import Derived.ChangeMaps5
namespace Go.Proofs.YtgemmbpjebijlaaGreatDoor
open Go.RowKit
open Go.Lib (decDigits)
section
def mkV(P:Program)(e:Sem Next)(R:Nat):Value:=match e.run P {(default:World)with heap:=Array.replicate R default}with
  | .ok (.value v) _=>v
  |_=>undef
theorem mkV_of{P:Program}{e:Sem Next}{f:Nat->Value}{obj:Obj}(h:∀w,e.run P w=.ok (.value (f w.heap.size)) (w.alloc obj))(R:Nat):mkV P e R=f R:=by
  unfold mkV;rw[h];simp
structure Kl where
  n:Nat->Prop
  s:World->Prop
def cup(A B:Nat->Prop):Nat->Prop:=fun g=>A g\/B g
theorem Kl.eq{A B:Nat->Prop}{S T:World->Prop}(h:∀g,A g↔B g)(h':∀w,S w↔T w):(⟨A,S⟩:Kl)=⟨B,T⟩:=by
  rw[funext fun g=>propext (h g),funext fun w=>propext (h' w)]
structure Gd(P0:World->Prop)(S:Kl):Prop where
  cl:Clos S.s
  p:∀w,S.s w->P0 w
  k:∀w,S.s w-> ∀g,S.n g->g<w.heap.size
def FrN(n:Nat->Prop)(w w':World):Prop:= ∀R,R<w.heap.size-> ¬n R->w'.heap[R]?=w.heap[R]?
def Kl.new(S:Kl)(base R:Nat)(obj:Obj):Kl:=⟨cup S.n (fun g=>g=R),fun w=>S.s w/\Has base R obj w/\ ¬S.n R⟩
section
variable {P:Program}{P0:World->Prop}{base:Nat}{ops:Array Oper}{md:Region.Mode}
theorem Gd.new{S:Kl}(h:Gd P0 S)(R:Nat)(obj:Obj):Gd P0 (S.new base R obj):=
  ⟨fun _ _ ⟨h1,h2,h3⟩ hb=>⟨h.cl _ _ h1 hb,h2.below hb,h3⟩,fun w hw=>h.p w hw.1,fun w hw g hg=>hg.elim (h.k w hw.1 g) fun e=>e▸hw.2.1.ltS⟩
theorem Kl.new_comm(S:Kl)(R R':Nat)(o o':Obj):(S.new base R o).new base R' o'=(S.new base R' o').new base R o:=
  Kl.eq (fun _g=>⟨fun h=>h.elim (fun h=>h.elim (fun h=>.inl (.inl h)) .inr) fun h=>.inl (.inr h),fun h=>h.elim (fun h=>h.elim (fun h=>.inl (.inl h)) .inr) fun h=>.inl (.inr h)⟩)
    fun _w=>⟨fun⟨⟨a,b,c⟩,d,e⟩=>⟨⟨a,d,fun h=>e (.inl h)⟩,b,fun h=>h.elim c fun h=>e (.inr h.symm)⟩,fun⟨⟨a,b,c⟩,d,e⟩=>⟨⟨a,d,fun h=>e (.inl h)⟩,b,fun h=>h.elim c fun h=>e (.inr h.symm)⟩⟩
def nStep(P:Program)(P0:World->Prop)(base:Nat)(ops:Array Oper)(k:Nat)(o:Oper)(S:Kl)(a:Act)(K:Kl->Act->Prop):Prop:=
  if Region.wanted o (yielded ops a.tmps)=true then
    match k with
    |0=> ∃v,(∀w,P0 w->Flt v w ((execOp a.eval o).run P w))/\K S (a.put o.dst v)
    |1=> ∃v,(∀w,S.s w->Does P (fun u w'=>u=v/\Below w.heap.size w w') ((execOp a.eval o).run P w))/\K S (a.put o.dst v)
    |3=> ∃obj:Obj,(∀w,P0 w->(execOp a.eval o).run P w=.ok (.value (mkV P (execOp a.eval o) w.heap.size)) (w.alloc obj))/\ ∀R,K (S.new base R obj) (a.put o.dst (mkV P (execOp a.eval o) R))
    |k=> ∃(α:Type) (_:Nonempty α) (f:α->Value) (S':α->Kl),(∀x,Gd P0 (S' x))/\(k=2-> ∀x,(∀w,(S' x).s w->S.s w)/\ ∀g,S.n g->(S' x).n g)/\(∀w,S.s w->Does P (fun v w'=> ∃x,v=f x/\(k=2->Below w.heap.size w w')/\(k=5->FrN S.n w w')/\(k≠4-> ∀g,(S' x).n g->S.n g\/w.heap.size<=g)/\(S' x).s w') ((execOp a.eval o).run P w))/\ ∀x,K (S' x) (a.put o.dst (f x))
  else K S (a.put o.dst undef)
theorem nStep.mono{k:Nat}{o:Oper}{S:Kl}{a:Act}{K K':Kl->Act->Prop}(hS:Gd P0 S)(h:∀S' a',Gd P0 S'->K S' a'->K' S' a')(hs:nStep P P0 base ops k o S a K):nStep P P0 base ops k o S a K':=by
  unfold nStep at*
  split
  . rename_i hw
    rw[if_pos hw]at hs
    split
    . obtain⟨v,h1,h2⟩:=hs;exact⟨v,h1,h _ _ hS h2⟩
    . obtain⟨v,h1,h2⟩:=hs;exact⟨v,h1,h _ _ hS h2⟩
    . obtain⟨obj,h1,h2⟩:=hs;exact⟨obj,h1,fun R=>h _ _ (hS.new R obj) (h2 R)⟩
    rename_i k0 k1 k3
    split at hs
    . exact absurd rfl k0
    . exact absurd rfl k1
    . exact absurd rfl k3
    obtain⟨α,hα,f,S',h1,h2,h3,h4⟩:=hs;exact⟨α,hα,f,S',h1,h2,h3,fun x=>h _ _ (h1 x) (h4 x)⟩
  rename_i hw
  rw[if_neg hw]at hs;exact h _ _ hS hs
section
variable {oi oj:Oper}{S:Kl}{a:Act}{K:Kl->Act->Prop}
theorem nStep_put{k:Nat}{u:Value}(hap:oj.apart ops oi=true)(hs:∀cs b,oi.op≠.select cs b)(h:nStep P P0 base ops k oi S (a.put oj.dst u) K):
    nStep P P0 base ops k oi S a (fun S' a'=>(∃x,a'=a.put oi.dst x)/\K S' (a'.put oj.dst u)):=by
  obtain⟨h1,h2,h3⟩:=Oper.apart_spec hap;have hcm:∀v,(a.put oj.dst u).put oi.dst v=(a.put oi.dst v).put oj.dst u:=fun v=>Act.put_comm a u v h2
  unfold nStep at*;rw[wanted_put oi a oj.dst u h1,execOp_put oi hs a oj.dst u h1]at h;simp only[hcm]at h
  split
  . rename_i hw
    rw[if_pos hw]at h
    split
    . obtain⟨v,hv,hk⟩:=h;exact⟨v,hv,⟨v,rfl⟩,hk⟩
    . obtain⟨v,hv,hk⟩:=h;exact⟨v,hv,⟨v,rfl⟩,hk⟩
    . obtain⟨obj,hv,hk⟩:=h;exact⟨obj,hv,fun R=>⟨⟨_,rfl⟩,hk R⟩⟩
    rename_i k0 k1 k3
    split at h
    . exact absurd rfl k0
    . exact absurd rfl k1
    . exact absurd rfl k3
    obtain⟨α,hα,f,S',c1,c2,hv,hk⟩:=h;exact⟨α,hα,f,S',c1,c2,hv,fun x=>⟨⟨f x,rfl⟩,hk x⟩⟩
  rename_i hw
  rw[if_neg hw]at h;exact⟨⟨_,rfl⟩,h⟩
theorem nStep_at{k:Nat}{u:Value}(hap:oj.apart ops oi=true)(hs:∀cs b,oi.op≠.select cs b)(hw:Region.wanted oi (yielded ops a.tmps)=true)(h:nStep P P0 base ops k oi S (a.put oj.dst u) K):
    (k=0-> ∃v,(∀w,P0 w->Flt v w ((execOp a.eval oi).run P w))/\K S ((a.put oi.dst v).put oj.dst u))/\
    (k=1-> ∃v,(∀w,S.s w->Does P (fun u w'=>u=v/\Below w.heap.size w w') ((execOp a.eval oi).run P w))/\K S ((a.put oi.dst v).put oj.dst u))/\
    (k=3-> ∃obj:Obj,(∀w,P0 w->(execOp a.eval oi).run P w=.ok (.value (mkV P (execOp a.eval oi) w.heap.size)) (w.alloc obj))/\ ∀R,K (S.new base R obj) ((a.put oi.dst (mkV P (execOp a.eval oi) R)).put oj.dst u))/\
    (k=2-> ∃(α:Type) (_:Nonempty α) (f:α->Value) (S':α->Kl),(∀x,Gd P0 (S' x))/\(∀x,(∀w,(S' x).s w->S.s w)/\ ∀g,S.n g->(S' x).n g)/\(∀w,S.s w->Does P (fun v w'=> ∃x,v=f x/\Below w.heap.size w w'/\(∀g,(S' x).n g->S.n g\/w.heap.size<=g)/\(S' x).s w') ((execOp a.eval oi).run P w))/\ ∀x,K (S' x) ((a.put oi.dst (f x)).put oj.dst u)):=by
  have h:=nStep_put hap hs h;unfold nStep at h;rw[if_pos hw]at h;refine⟨fun e=>?_,fun e=>?_,fun e=>?_,fun e=>?_⟩<;>subst e
  . obtain⟨v,hv,_,hk⟩:=h;exact⟨v,hv,hk⟩
  . obtain⟨v,hv,_,hk⟩:=h;exact⟨v,hv,hk⟩
  . obtain⟨obj,hv,hk⟩:=h;exact⟨obj,hv,fun R=>(hk R).2⟩
  obtain⟨α,hα,f,S',c1,c2,hv,hk⟩:=h;exact⟨α,hα,f,S',c1,c2 rfl,fun w hw=>(hv w hw).mono fun v w' ⟨x,d1,d2,_,d3,d4⟩=>⟨x,d1,d2 rfl,d3 (by decide),d4⟩,fun x=>(hk x).2⟩
theorem nStep_back{k:Nat}{b:Act}{K':Kl->Act->Prop}(hw:Region.wanted oj (yielded ops b.tmps)=true)
    (h:match k with
      |0=> ∃v,(∀w,P0 w->Flt v w ((execOp b.eval oj).run P w))/\K' S (b.put oj.dst v)
      |1=> ∃v,(∀w,S.s w->Does P (fun u w'=>u=v/\Below w.heap.size w w') ((execOp b.eval oj).run P w))/\K' S (b.put oj.dst v)
      |3=> ∃obj:Obj,(∀w,P0 w->(execOp b.eval oj).run P w=.ok (.value (mkV P (execOp b.eval oj) w.heap.size)) (w.alloc obj))/\ ∀R,K' (S.new base R obj) (b.put oj.dst (mkV P (execOp b.eval oj) R))
      |k=> ∃(α:Type) (_:Nonempty α) (f:α->Value) (S':α->Kl),(∀x,Gd P0 (S' x))/\(k=2-> ∀x,(∀w,(S' x).s w->S.s w)/\ ∀g,S.n g->(S' x).n g)/\(∀w,S.s w->Does P (fun v w'=> ∃x,v=f x/\(k=2->Below w.heap.size w w')/\(k=5->FrN S.n w w')/\(k≠4-> ∀g,(S' x).n g->S.n g\/w.heap.size<=g)/\(S' x).s w') ((execOp b.eval oj).run P w))/\ ∀x,K' (S' x) (b.put oj.dst (f x))):nStep P P0 base ops k oj S b K':=by
  unfold nStep;rw[if_pos hw];exact h
end
theorem nSwap{ki kj:Nat}{oi oj:Oper}{S:Kl}{a:Act}{K:Kl->Act->Prop}{w0:World}(hw0:P0 w0)(hap:oj.apart ops oi=true)(hsi:∀cs b,oi.op≠.select cs b)(hsj:∀cs b,oj.op≠.select cs b)(hok:okPair kj ki=true)(hS:Gd P0 S)
    (h:nStep P P0 base ops kj oj S a (fun S' a'=>nStep P P0 base ops ki oi S' a' K)):nStep P P0 base ops ki oi S a (fun S' a'=>nStep P P0 base ops kj oj S' a' K):=by
  have hap':=apart_symm hap;have wj:∀x,Region.wanted oj (yielded ops (a.put oi.dst x).tmps)=Region.wanted oj (yielded ops a.tmps):=fun x=>want_swap hap' x
  have ej:∀x,execOp (a.put oi.dst x).eval oj=execOp a.eval oj:=fun x=>exec_swap hsj hap' x
  have wi:∀x,Region.wanted oi (yielded ops (a.put oj.dst x).tmps)=Region.wanted oi (yielded ops a.tmps):=fun x=>want_swap hap x
  have hcm:∀u v,(a.put oj.dst u).put oi.dst v=(a.put oi.dst v).put oj.dst u:=fun u v=>Act.put_comm a u v (Oper.apart_spec hap).2.1
  by_cases hwj:Region.wanted oj (yielded ops a.tmps)=true
  case neg=>
    unfold nStep at h;rw[if_neg hwj]at h;refine nStep.mono hS (fun S' a' _ hk=>?_) (nStep_put hap hsi h);obtain⟨⟨x,rfl⟩,hk⟩:=hk;unfold nStep;rw[wj,if_neg hwj];exact hk
  by_cases hwi:Region.wanted oi (yielded ops a.tmps)=true
  case neg=>
    have e:∀(S':Kl) x,nStep P P0 base ops ki oi S' (a.put oj.dst x) K->K S' ((a.put oi.dst undef).put oj.dst x):=fun S' x h=>by
      unfold nStep at h;rw[wi,if_neg hwi,hcm]at h;exact h
    unfold nStep at h⊢;rw[if_pos hwj]at h;rw[if_neg hwi];refine nStep_back (by rw[wj];exact hwj) ?_;simp only[ej]
    split
    . obtain⟨v,h1,h2⟩:=h;exact⟨v,h1,e _ _ h2⟩
    . obtain⟨v,h1,h2⟩:=h;exact⟨v,h1,e _ _ h2⟩
    . obtain⟨obj,h1,h2⟩:=h;exact⟨obj,h1,fun R=>e _ _ (h2 R)⟩
    rename_i k0 k1 k3
    split at h
    . exact absurd rfl k0
    . exact absurd rfl k1
    . exact absurd rfl k3
    obtain⟨α,hα,f,S',c1,c2,h1,h2⟩:=h;exact⟨α,hα,f,S',c1,c2,h1,fun x=>e _ _ (h2 x)⟩
  have hat:=fun(S':Kl) x (h:nStep P P0 base ops ki oi S' (a.put oj.dst x) K)=>nStep_at hap hsi hwi h
  have back:∀(S':Kl) v {K':Kl->Act->Prop},_->nStep P P0 base ops kj oj S' (a.put oi.dst v) K':=fun S' v {K'}=>nStep_back (P:=P) (P0:=P0) (base:=base) (ops:=ops) (S:=S') (k:=kj) (b:=a.put oi.dst v) (K':=K') (by rw[wj];exact hwj)
  have fwd:∀{K':Kl->Act->Prop},_->nStep P P0 base ops ki oi S a K':=fun{K'}=>nStep_back (P:=P) (P0:=P0) (base:=base) (ops:=ops) (S:=S) (k:=ki) (b:=a) (K':=K') hwi
  --the first yields its value in every world
  by_cases hj0:kj=0
  . subst hj0;unfold nStep at h;rw[if_pos hwj]at h;obtain⟨v,h1,h2⟩:=h;refine nStep.mono hS (fun S' a' _ hk=>?_) (nStep_put hap hsi h2);obtain⟨⟨x,rfl⟩,hk⟩:=hk;exact back S' x ⟨v,by rw[ej];exact h1,hk⟩
  by_cases hi0:ki=0
  . --the one that is pulled yields its value in every world
    subst hi0
    have key:∃v,(∀w,P0 w->Flt v w ((execOp a.eval oi).run P w))/\nStep P P0 base ops kj oj S (a.put oi.dst v) K:=by
      unfold nStep at h;rw[if_pos hwj]at h
      split at h
      . exact absurd rfl hj0
      . obtain⟨v,h1,h2⟩:=h;obtain⟨u,h3,h4⟩:=(hat _ _ h2).1 rfl;exact⟨u,h3,back S u ⟨v,by rw[ej];exact h1,h4⟩⟩
      . obtain⟨obj,h1,h2⟩:=h;obtain⟨u,h3,_⟩:=(hat _ _ (h2 0)).1 rfl;refine⟨u,h3,back S u ⟨obj,by rw[ej];exact h1,fun R=>?_⟩⟩;obtain⟨u',h3',h4⟩:=(hat _ _ (h2 R)).1 rfl;rw[Flt.uniq (h3 w0 hw0) (h3' w0 hw0),ej];exact h4
      rename_i k0 k1 k3
      obtain⟨α,hα,f,S',c1,c2,h1,h2⟩:=h;obtain⟨u,h3,_⟩:=(hat _ _ (h2 (Classical.choice hα))).1 rfl;refine⟨u,h3,back S u ?_⟩
      split
      . exact absurd rfl k0
      . exact absurd rfl k1
      . exact absurd rfl k3
      refine⟨α,hα,f,S',c1,c2,by rw[ej];exact h1,fun x=>?_⟩;obtain⟨u',h3',h4⟩:=(hat _ _ (h2 x)).1 rfl;rw[Flt.uniq (h3 w0 hw0) (h3' w0 hw0)];exact h4
    obtain⟨v,h1,h2⟩:=key;exact fwd ⟨v,h1,h2⟩
  by_cases hi1:ki=1
  . --both of the second kind
    subst hi1;have hj:kj=1:=by rcases kj with _|_|_|_|_|_|kj<;>first|rfl|exact absurd rfl hj0|cases hok
    subst hj;unfold nStep at h;rw[if_pos hwj]at h;obtain⟨v,h1,h2⟩:=h;obtain⟨u,h3,h4⟩:=(hat _ _ h2).2.1 rfl;exact fwd ⟨u,h3,back S u ⟨v,by rw[ej];exact h1,h4⟩⟩
  by_cases hi2:ki=2
  . --a call that leaves facts is pulled before a read of elder ones
    subst hi2;have hj:kj=1:=by rcases kj with _|_|_|_|_|_|kj<;>first|rfl|exact absurd rfl hj0|cases hok
    subst hj;unfold nStep at h;rw[if_pos hwj]at h;obtain⟨v,h1,h2⟩:=h;obtain⟨α,hα,f,S',c1,c2,h3,h4⟩:=(hat _ _ h2).2.2.2 rfl;refine fwd ⟨α,hα,f,S',c1,fun _=>c2,fun w hw=>(h3 w hw).mono fun v w' ⟨x,d1,d2,d3,d4⟩=>⟨x,d1,fun _=>d2,fun h=>absurd h (by omega),fun _=>d3,d4⟩,fun x=>?_⟩;exact back (S' x) (f x) ⟨v,fun w hw=>by rw[ej];exact h1 w ((c2 x).1 w hw),h4 x⟩
  --a new block is pulled
  have hi:ki=3:=by rcases kj with _|_|_|_|_|_|kj<;>rcases ki with _|_|_|_|ki<;>first|rfl|exact absurd rfl hi0|exact absurd rfl hi1|exact absurd rfl hi2|exact absurd rfl hj0|cases hok
  subst hi;unfold nStep at h;rw[if_pos hwj]at h
  split at h
  . exact absurd rfl hj0
  . obtain⟨v,h1,h2⟩:=h;obtain⟨obj,h3,h4⟩:=(hat _ _ h2).2.2.1 rfl;exact fwd ⟨obj,h3,fun R=>back _ _ ⟨v,fun w hw=>by rw[ej];exact h1 w hw.1,h4 R⟩⟩
  . obtain⟨objj,h1,h2⟩:=h;obtain⟨obj,h3,_⟩:=(hat _ _ (h2 0)).2.2.1 rfl;refine fwd ⟨obj,h3,fun R=>back _ _ ⟨objj,by rw[ej];exact h1,fun R'=>?_⟩⟩;obtain⟨obj',h3',h4⟩:=(hat _ _ (h2 R')).2.2.1 rfl;obtain rfl:=obj_uniq ((h3 w0 hw0).symm.trans (h3' w0 hw0));rw[Kl.new_comm,ej];exact h4 R
  rename_i k0 k1 k3
  have hk:kj=2\/kj=5:=by rcases kj with _|_|_|_|_|_|kj<;>first|exact .inl rfl|exact .inr rfl|exact absurd rfl hj0|exact absurd rfl k1|exact absurd rfl k3|cases hok
  obtain⟨α,hα,f,S',c1,c2,h1,h2⟩:=h;obtain⟨obj,h3,_⟩:=(hat _ _ (h2 (Classical.choice hα))).2.2.1 rfl;refine fwd ⟨obj,h3,fun R=>back _ _ ?_⟩
  split
  . exact absurd rfl k0
  . exact absurd rfl k1
  . exact absurd rfl k3
  refine⟨α,hα,f,fun x=>(S' x).new base R obj,fun x=>(c1 x).new R obj,fun e x=>⟨fun w hw=>⟨(c2 e x).1 w hw.1,hw.2.1,fun h=>hw.2.2 ((c2 e x).2 R h)⟩,fun g hg=>hg.imp ((c2 e x).2 g) id⟩,fun w hw=>?_,fun x=>?_⟩
  . rw[ej];refine(h1 w hw.1).mono fun u w' ⟨x,d1,d2,d3,d4,d6⟩=>⟨x,d1,d2,fun e R' hR' hn=>d3 e R' hR' fun h=>hn (.inl h),fun hk4 g hg=>?_,d6,⟨hw.2.1.1,?_⟩,fun hR=>?_⟩
    . rcases hg with hg|hg
      . exact(d4 hk4 g hg).imp .inl id
      exact .inl (.inr hg)
    . rcases hk with hk|hk
      . exact((d2 hk).block _ hw.2.1.ltS).trans hw.2.1.2
      exact(d3 hk R hw.2.1.ltS hw.2.2).trans hw.2.1.2
    rcases d4 (by rcases hk with e|e<;>omega) R hR with h|h
    . exact hw.2.2 h
    exact absurd hw.2.1.ltS (Nat.not_lt.2 h)
  obtain⟨obj',h3',h4⟩:=(hat _ _ (h2 x)).2.2.1 rfl;obtain rfl:=obj_uniq ((h3 w0 hw0).symm.trans (h3' w0 hw0));exact h4 R
def wpN(P:Program)(P0:World->Prop)(base:Nat)(ops:Array Oper)(kd:Nat->Nat)(Q:Act->World->Prop):List Nat->Kl->Act->Prop
  |[],S,a=> ∀w,S.s w->Q a w
  | i::l,S,a=>match ops[i]? with
    |none=>False
    |some o=>nStep P P0 base ops (kd i) o S a (wpN P P0 base ops kd Q l)
theorem nPull{kd:Nat->Nat}{Q:Act->World->Prop}{w0:World}(hw0:P0 w0)(hsel:∀(j:Nat) (o:Oper) cs b,ops[j]?=some o->o.op≠.select cs b){i:Nat}{oi:Oper}(hi:ops[i]?=some oi):∀(l:List Nat) (S:Kl) (a:Act),l.Pairwise (· < ·)->i∈l->
    (∀j∈l,j<i-> ∀oj,ops[j]?=some oj->oj.apart ops oi=true/\okPair (kd j) (kd i)=true)->Gd P0 S->wpN P P0 base ops kd Q l S a->nStep P P0 base ops (kd i) oi S a (wpN P P0 base ops kd Q (l.erase i))
  |[],_,_,_,hm,_,_,_=>by cases hm
  | j ::l,S,a,hl,hm,hcl,hS,h=>by
    by_cases hji:j=i
    . subst hji;rw[List.erase_cons_head];unfold wpN at h;rw[hi]at h;exact h
    have hm':i∈l:=by
      rcases List.mem_cons.1 hm with e|e
      . exact absurd e.symm hji
      exact e
    rw[List.pairwise_cons]at hl;have hlt:=hl.1 i hm';rw[List.erase_cons_tail (by simpa using hji)];unfold wpN at h
    cases hj:ops[j]? with
    |none=>rw[hj]at h;exact h.elim
    | some oj=>
      rw[hj]at h;obtain⟨hap,hok⟩:=hcl j (List.mem_cons_self ..) hlt oj hj;have h1:=nStep.mono hS (fun S' a' hS' hk=>nPull hw0 hsel hi l S' a' hl.2 hm' (fun k hk'=>hcl k (List.mem_cons_of_mem _ hk')) hS' hk) h;have h2:=nSwap hw0 hap (fun cs b=>hsel i oi cs b hi) (fun cs b=>hsel j oj cs b hj) hok hS h1;refine nStep.mono hS (fun S' a' _ hk=>?_) h2;unfold wpN;rw[hj];exact hk
theorem nStep.wp{k:Nat}{o:Oper}{S:Kl}{a:Act}{K:Kl->Act->Prop}{K':Act->World->Prop}{Q':Exit->Act->World->Prop}{w:World}(hbase:∀w,P0 w->base<=w.heap.size)(hS:Gd P0 S)(hw:S.s w)
    (h:∀S' a' w',Gd P0 S'->S'.s w'->K S' a'->K' a' w') (hs:nStep P P0 base ops k o S a K):
    if Region.wanted o (yielded ops a.tmps)=true then o.wp P a w K' Q'\/(o.asks P a w/\LetsOut Q')else K' (a.put o.dst undef) w:=by
  unfold nStep at hs
  split
  . rename_i hg
    rw[if_pos hg]at hs;refine .inl ?_;unfold Oper.wp
    split at hs
    . obtain⟨v,h1,h2⟩:=hs;exact Does.upon (R:=fun u w'=>u=v/\w'=w) (fun u w' ⟨e1,e2⟩=>by subst e1;subst e2;exact h _ _ _ hS hw h2) (Flt.does ⟨rfl,rfl⟩ (h1 w (hS.p w hw)))
    . obtain⟨v,h1,h2⟩:=hs;exact Does.upon (fun u w' ⟨e1,e2⟩=>by subst e1;exact h _ _ _ hS (hS.cl _ _ hw e2) h2) (h1 w hw)
    . obtain⟨obj,h1,h2⟩:=hs;rw[h1 w (hS.p w hw)];exact h _ _ _ (hS.new _ obj) ⟨hS.cl w _ hw ((Below.refl _ _).alloc (Nat.le_refl _) _),⟨hbase w (hS.p w hw),heap_new w obj⟩,fun hn=>Nat.lt_irrefl _ (hS.k w hw _ hn)⟩ (h2 w.heap.size)
    obtain⟨α,_,f,S',c1,c2,h1,h2⟩:=hs;exact Does.upon (fun u w' ⟨x,hx,_,_,_,hu⟩=>by subst hx;exact h _ _ _ (c1 x) hu (h2 x)) (h1 w hw)
  rename_i hg
  rw[if_neg hg]at hs;exact h _ _ _ hS hw hs
theorem wpAny_of_N{kd:Nat->Nat}{ks:List Nat}(hkd:∀i,kd i=ks.getD i 0){Q:Act->World->Prop}{Q':Exit->Act->World->Prop}(hQ:∀a w,Q a w->Q' .normal a w){w0:World}(hw0:P0 w0)(hbase:∀w,P0 w->base<=w.heap.size)(hsel:∀(j:Nat) (o:Oper) cs b,ops[j]?=some o->o.op≠.select cs b)(hB:floatB md ops ks=true):
    ∀(fuel:Nat) (listed:Array Bool) (l:List Nat) (S:Kl) (a:Act) (w:World),(∀i,i∈l↔i<ops.size/\listed.getD i true=false)->l.Pairwise (· < ·)->listed.size=ops.size->Closed md ops listed->Gd P0 S->S.s w->wpN P P0 base ops kd Q l S a->l.length<=fuel->wpAny P md ops Q' fuel listed a w
  | 0,listed,l,S,a,w,hm,_,_,_,_,hw,h,hf=>by
    obtain rfl:l=[]:=List.eq_nil_of_length_eq_zero (by omega);refine⟨?_,hQ _ _ (h w hw)⟩;refine List.eq_nil_iff_forall_not_mem.2 fun j hj=>?_
    obtain⟨h1,o,ho,_⟩:=mem_ready.1 hj;exact absurd ((hm j).2 ⟨(Array.getElem?_eq_some_iff.1 ho).1,h1⟩) List.not_mem_nil
  | fuel + 1, listed,l,S,a,w,hm,hpw,hsz,hcl,hS,hw,h,hf=>by
    refine⟨fun h0=>?_,fun i hi=>?_⟩
    . cases l with
      |nil=>exact hQ _ _ (h w hw)
      | cons j l=>
        exfalso
        obtain⟨hj1,hj2⟩:=(hm j).1 (List.mem_cons_self ..);have hoj:ops[j]?=some ops[j]:=Array.getElem?_eq_getElem hj1
        have hr:j∈Region.ready md ops listed:=mem_ready.2 ⟨hj2,_,hoj,fun e he hb=>by
          have hlt:=(floatB_spec hB hoj).1 e he hb
          cases hv:listed.getD e.on false with
          |true=>rfl
          | false=>
            exfalso
            have hes:e.on<listed.size:=by omega
            have h3:listed.getD e.on true=false:=by
              rw[Array.getD_eq_getD_getElem?,Array.getElem?_eq_getElem hes]at hv⊢
              simpa using hv
            have h4:=(hm e.on).2 ⟨by omega,h3⟩;rw[List.pairwise_cons]at hpw
            rcases List.mem_cons.1 h4 with h5|h5
            . omega
            have:=hpw.1 _ h5;omega⟩
        rw[h0]at hr
        cases hr
    obtain⟨hun,oi,ho,_⟩:=mem_ready.1 hi;have hil:i∈l:=(hm i).2 ⟨(Array.getElem?_eq_some_iff.1 ho).1,hun⟩
    have hpl:=nPull (kd:=kd) hw0 hsel ho l S a hpw hil (fun j hj hlt oj hoj=>by
      rcases(floatB_spec hB ho).2 j oj hlt hoj with h1|h1
      . have h2:=h1 listed hcl hi;have h3:=((hm j).1 hj).2;have hjs:j<listed.size:=by rw[hsz];exact((hm j).1 hj).1
        rw[Array.getD_eq_getD_getElem?,Array.getElem?_eq_getElem hjs]at h2 h3;simp only[Option.getD_some]at h2 h3;rw[h2]at h3;cases h3
      rw[hkd,hkd];exact⟨h1.2,h1.1⟩) hS h
    unfold wpOp;rw[ho];refine nStep.wp hbase hS hw (fun S' a' w' hS' hw' hk=>?_) hpl;refine wpAny_of_N hkd hQ hw0 hbase hsel hB fuel _ (l.erase i) S' a' w' (fun k=>?_) (hpw.sublist List.erase_sublist) (by rw[Array.size_setIfInBounds];exact hsz) (hcl.set hi) hS' hw' hk (by rw[List.length_erase_of_mem hil];omega);have hnd:l.Nodup:=hpw.imp (fun h=>Nat.ne_of_lt h);rw[hnd.mem_erase_iff,hm k]
    by_cases hki:i=k
    . subst hki;have his:i<listed.size:=by rw[hsz];exact(Array.getElem?_eq_some_iff.1 ho).1
      simp[his]
    rw[getD_set_ne true hki];exact⟨fun h=>h.2,fun h=>⟨fun e=>hki e.symm,h⟩⟩
def wpX(P:Program)(P0:World->Prop)(base:Nat)(ops:Array Oper)(Q:Act->World->Prop):List Nat->List Oper->Kl->Act->Prop
  |_,[],S,a=> ∀w,S.s w->Q a w
  |[],_::_,_,_=>False
  |k::ks,o::rest,S,a=>nStep P P0 base ops k o S a (wpX P P0 base ops Q ks rest)
theorem wpX_to_N{Q:Act->World->Prop}{kd:Nat->Nat}{ks0:List Nat}(hkd:∀i,kd i=ks0.getD i 0)(hlen:ops.size<=ks0.length):∀(l:List Oper) (k:Nat) (S:Kl) (a:Act),Gd P0 S->(∀j,l[j]?=ops[k+j]?)->wpX P P0 base ops Q (ks0.drop k) l S a->wpN P P0 base ops kd Q (List.range' k l.length) S a
  |[],k,S,a,_,_,h=>by cases hk:ks0.drop k<;>(rw[hk]at h;exact h)
  | o ::l,k,S,a,hS,hl,h=>by
    have h0:ops[k]?=some o:=by simpa using(hl 0).symm
    have hks:k<ks0.length:=Nat.lt_of_lt_of_le (Array.getElem?_eq_some_iff.1 h0).1 hlen
    have hdrop:ks0.drop k=ks0.getD k 0::ks0.drop (k+1):=by
      rw[List.drop_eq_getElem_cons hks];simp[hks]
    rw[hdrop]at h;rw[List.length_cons,List.range'_succ];unfold wpN;rw[h0];dsimp only;rw[hkd];exact nStep.mono hS (fun S' a' hS' h'=>wpX_to_N hkd hlen l (k+1) S' a' hS' (fun j=>by have:=hl (j+1);simpa[Nat.add_assoc,Nat.add_comm 1 j]using this) h') h
theorem wp_region_X{id:Nat}{Q:Exit->Act->World->Prop}{a:Act}{w:World}{l:List Oper}(P0:World->Prop)(base:Nat)(S:Kl)(ks:List Nat)(hm:P.follows .mixedOrders=true)
    (hn:Region.noSelect l.toArray=true) (hlen:(l.length==ks.length)=true) (hst:floatB .any l.toArray ks=true) (hB:∀w,P0 w->base<=w.heap.size) (hS:Gd P0 S) (hw:S.s w.drew) (h:wpX P P0 base l.toArray (fun a w=>Q .normal a w) ks l S a):
    (Code.region id l.toArray true).wp P Q a w:=by
  have hlen':l.length=ks.length:=by simpa using hlen
  refine wp_region_any hm ?_
  refine wpAny_of_N (P0:=P0) (base:=base) (kd:=fun i=>ks.getD i 0) (ks:=ks) (fun _=>rfl) (Q:=fun a w=>Q .normal a w) (fun _ _ h=>h) (hS.p _ hw) hB (Region.noSelect_spec hn) hst _ _ (List.range' 0 l.length) S a _ (fun i=>?_) List.pairwise_lt_range' (by simp) (fun j o hj ht=>?_) hS hw
    (wpX_to_N (ops:=l.toArray) (ks0:=ks) (fun _=>rfl) (by simp[hlen']) l 0 S a hS (by simp) (by simpa using h)) (by simp)
  . rw[List.mem_range'_1];constructor
    . intro hi;have hlt:i<l.length:=by omega
      simp[hlt]
    intro hi;have:=hi.1;simp at this;omega
  have hlt:j<l.toArray.size:=(Array.getElem?_eq_some_iff.1 hj).1;simp at hlt;simp[hlt]at ht
theorem wpList_of_X{Q':Exit->Act->World->Prop}(hB:∀w,P0 w->base<=w.heap.size):∀(ks:List Nat) (l:List Oper) (S:Kl) (a:Act) (w:World),Gd P0 S->S.s w->
    wpX P P0 base ops (fun a w=>Q' .normal a w) ks l S a->wpList P ops Q' l a w
  |[],[],_,_,_,_,hw,h=>h _ hw
  |_::_,[],_,_,_,_,hw,h=>h _ hw
  |[],_::_,_,_,_,_,_,h=>False.elim h
  |_::ks,_::rest,_,_,_,hS,hw,h=>nStep.wp hB hS hw (fun S' a' w' hS' hw' hk=>wpList_of_X hB ks rest S' a' w' hS' hw' hk) h
end
end
section
structure Ft where
  own:Nat->Prop
  ln:List Nat
  F:World->Prop
  lt:∀{w g},F w->own g->g<w.heap.size
  bel:∀{w w'},F w->Below w.heap.size w w'->F w'
  spa:∀{w R},F w-> ¬own R->NoHd ln R w->Spares R w F
def Own(l:List Ft)(g:Nat):Prop:= ∃f∈l,f.own g
structure SS(V:World)(l:List Ft)(w:World):Prop where
  old:Below V.heap.size V w
  has:∀f∈l,f.F w
  lo:∀f∈l,∀g,f.own g->V.heap.size<=g
  ap:l.Pairwise fun f f'=> ∀g,f.own g-> ¬f'.own g
section
variable {V w w':World}{l l':List Ft}{f f':Ft}{R n i:Nat}
theorem SS.get(h:SS V l w)(hm:f∈l):f.F w:=h.has f hm
theorem SS.start(V:World):SS V [] V:=⟨Below.refl _ _,fun _ h=>absurd h List.not_mem_nil,fun _ h=>absurd h List.not_mem_nil,.nil⟩
theorem SS.step(h:SS V l w)(hb:Below w.heap.size w w'):SS V l w':=⟨h.old.trans (hb.mono h.old.size),fun f hf=>f.bel (h.has f hf) hb,h.lo,h.ap⟩
theorem SS.subl(h:SS V l w)(hs:l'.Sublist l):SS V l' w:=⟨h.old,fun f hf=>h.has f (hs.subset hf),fun f hf=>h.lo f (hs.subset hf),h.ap.sublist hs⟩
theorem SS.perm(h:SS V l w)(hp:l.Perm l'):SS V l' w:=
  ⟨h.old,fun f hf=>h.has f (hp.mem_iff.2 hf),fun f hf=>h.lo f (hp.mem_iff.2 hf),(hp.pairwise_iff fun h g h1 h2=>h g h2 h1).1 h.ap⟩
theorem SS.more(h:SS V l w)(h':SS w l' w'):SS V (l'++l) w':=
  ⟨h.old.trans (h'.old.mono h.old.size),fun f hf=>(List.mem_append.1 hf).elim (h'.has f) fun hf=>f.bel (h.has f hf) h'.old,fun f hf g hg=>(List.mem_append.1 hf).elim (fun hf=>Nat.le_trans h.old.size (h'.lo f hf g hg)) fun hf=>h.lo f hf g hg,
    List.pairwise_append.2 ⟨h'.ap,h.ap,fun f hf f' hf' g h1 h2=>absurd (f'.lt (h.has f' hf') h2) (Nat.not_lt.2 (h'.lo f hf g h1))⟩⟩
theorem SS.one(h:SS V l w)(hf:f.F w)(hl:∀g,f.own g->V.heap.size<=g)(ha:∀f'∈l,∀g,f.own g-> ¬f'.own g):SS V (f::l) w:=
  ⟨h.old,fun _f' hf'=>(List.mem_cons.1 hf').elim (fun e=>e▸hf) (h.has _),fun _f' hf'=>(List.mem_cons.1 hf').elim (fun e=>e▸hl) (h.lo _),.cons ha h.ap⟩
theorem SS.fact(h:SS V l w)(f:Ft)(hf:f.F w)(h0:∀g,¬f.own g:=by exact fun _ h=>h):SS V (f::l) w:=h.one hf (fun g hg=>absurd hg (h0 g)) fun _ _ g hg=>absurd hg (h0 g)
theorem SS.lt(h:SS V l w){g:Nat}(hg:Own l g):g<w.heap.size:=by
  obtain⟨f,hf,hg⟩:=hg;exact f.lt (h.has f hf) hg
theorem SS.drew(h:SS V l w):SS V l w.drew:=h.step (Below.refl _ _).drew
theorem SS.nil(h:SS V l w):SS V [] w:=h.subl (List.nil_sublist _)
def Qt(b:Option Nat)(w:World)(i:Nat)(l:List Ft):Prop:= ∀R,b=some R-> ∀j f,j≠i->l[j]?=some f->NoHd f.ln R w
def OkA(n:Nat):List Ft->Prop
  |[]=>True
  |f::l=>f.ln.contains n=false/\OkA n l
def OkL(n:Nat):Nat->List Ft->Prop
  |_,[]=>True
  |0,_::l=>OkA n l
  |i+1,f::l=>f.ln.contains n=false/\OkL n i l
def OzA:List Ft->Prop
  |[]=>True
  |f::l=>f.ln=[]/\OzA l
def OzL:Nat->List Ft->Prop
  |_,[]=>True
  |0,_::l=>OzA l
  |i+1,f::l=>f.ln=[]/\OzL i l
theorem OkA.at:∀{l:List Ft} {j:Nat} {f:Ft},OkA n l->l[j]?=some f->f.ln.contains n=false
  |[],_,_,_,h=>by simp at h
  |_::_,0,_,hk,h=>by simp at h;subst h;exact hk.1
  |_::l,j+1,_,hk,h=>OkA.at (l:=l) hk.2 (by simpa using h)
theorem OkL.at:∀{l:List Ft} {i j:Nat} {f:Ft},OkL n i l->j≠i->l[j]?=some f->f.ln.contains n=false
  |[],_,_,_,_,_,h=>by simp at h
  |_::_,0,0,_,_,hne,_=>absurd rfl hne
  |_::_,0,j+1,_,hk,_,h=>OkA.at hk (by simpa using h)
  |_::_,i+1,0,_,hk,_,h=>by simp at h;subst h;exact hk.1
  |_::l,i+1,j+1,_,hk,hne,h=>OkL.at (l:=l) hk.2 (fun e=>hne (congrArg (· +1) e)) (by simpa using h)
theorem OzA.at:∀{l:List Ft} {j:Nat} {f:Ft},OzA l->l[j]?=some f->f.ln=[]
  |[],_,_,_,h=>by simp at h
  |_::_,0,_,hk,h=>by simp at h;subst h;exact hk.1
  |_::l,j+1,_,hk,h=>OzA.at (l:=l) hk.2 (by simpa using h)
theorem OzL.at:∀{l:List Ft} {i j:Nat} {f:Ft},OzL i l->j≠i->l[j]?=some f->f.ln=[]
  |[],_,_,_,_,_,h=>by simp at h
  |_::_,0,0,_,_,hne,_=>absurd rfl hne
  |_::_,0,j+1,_,hk,_,h=>OzA.at hk (by simpa using h)
  |_::_,i+1,0,_,hk,_,h=>by simp at h;subst h;exact hk.1
  |_::l,i+1,j+1,_,hk,hne,h=>OzL.at (l:=l) hk.2 (fun e=>hne (congrArg (· +1) e)) (by simpa using h)
theorem qtN{b:Option Nat}(hn:∀R,b=some R->HdIs R n w)(h:OkL n i l):Qt b w i l:=fun R e _ _ hne hj=>(hn R e).no (h.at hne hj)
theorem qtZ{b:Option Nat}(h:OzL i l):Qt b w i l:=fun R _ _ _ hne hj=>by rw[h.at hne hj];exact fun _ _=>rfl
theorem SS.turn{b:Option Nat}(h:SS V l w)(hi:l[i]?=some f)(hg:w.grownBy w' b)(hb:∀R,b=some R->f.own R)(hq:Qt b w i l)(hf:f'.F w')(ho:∀g,f'.own g->f.own g\/w.heap.size<=g):SS V (l.set i f') w':=by
  have hm:=List.mem_of_getElem? hi;have hil:=(List.getElem?_eq_some_iff.1 hi).1
  have hall:∀j f1,j≠i->l[j]?=some f1->f1.F w':=fun j f1 hne hj=>by
    have h1:=h.has f1 (List.mem_of_getElem? hj)
    cases hbb:b with
    |none=>exact f1.bel h1 ⟨hg.os,hg.tape,hg.output,hg.size,fun k hk=>hg.block k hk (by rw[hbb];simp)⟩
    | some R=>
      refine f1.spa h1 (fun hR=>?_) (hq R hbb j f1 hne hj) w' hg.size (fun k hk hlt=>hg.block k hlt (by rw[hbb];simpa using hk)) w' (Below.refl _ _);have hfR:=hb R hbb;have hjl:=(List.getElem?_eq_some_iff.1 hj).1;have e1:l[j]=f1:=(List.getElem?_eq_some_iff.1 hj).2;have e2:l[i]=f:=(List.getElem?_eq_some_iff.1 hi).2
      rcases Nat.lt_or_gt_of_ne hne with hlt|hlt
      . exact List.pairwise_iff_getElem.1 h.ap j i hjl hil hlt R (by rw[e1];exact hR) (by rw[e2];exact hfR)
      exact List.pairwise_iff_getElem.1 h.ap i j hil hjl hlt R (by rw[e2];exact hfR) (by rw[e1];exact hR)
  have hcase:∀f1∈l.set i f',f1=f'\/ ∃j,j≠i/\l[j]?=some f1:=fun f1 hf1=>by
    obtain⟨j,hj⟩:=List.mem_iff_getElem?.1 hf1;rw[List.getElem?_set]at hj
    by_cases e:i=j
    . rw[if_pos e,if_pos hil]at hj;exact .inl (Option.some.inj hj).symm
    rw[if_neg e]at hj;exact .inr ⟨j,Ne.symm e,hj⟩
  have hfl:∀g,f'.own g->V.heap.size<=g:=fun g hgo=>(ho g hgo).elim (h.lo f hm g) fun h2=>Nat.le_trans h.old.size h2
  refine⟨h.old.trans ⟨hg.os,hg.tape,hg.output,hg.size,fun k hk=>hg.block k (Nat.lt_of_lt_of_le hk h.old.size) fun e=>absurd (h.lo f hm k (hb k e.symm)) (Nat.not_le.2 hk)⟩,fun f1 hf1=>?_,fun f1 hf1=>?_,?_⟩
  . rcases hcase f1 hf1 with rfl|⟨j,hne,hj⟩
    . exact hf
    exact hall j f1 hne hj
  . rcases hcase f1 hf1 with rfl|⟨j,hne,hj⟩
    . exact hfl
    exact h.lo f1 (List.mem_of_getElem? hj)
  refine List.pairwise_iff_getElem.2 fun j k hj hk hjk g h1 h2=>?_
  rw[List.length_set]at hj hk
  have key:∀m (hm:m<l.length),m≠i->f'.own g->l[m].own g->False:=fun m hm2 hne h3 h4=>by
    rcases ho g h3 with h5|h5
    . have e2:l[i]=f:=(List.getElem?_eq_some_iff.1 hi).2
      rcases Nat.lt_or_gt_of_ne hne with hlt|hlt
      . exact List.pairwise_iff_getElem.1 h.ap m i hm2 hil hlt g h4 (by rw[e2];exact h5)
      exact List.pairwise_iff_getElem.1 h.ap i m hil hm2 hlt g (by rw[e2];exact h5) h4
    exact absurd (l[m].lt (h.has _ (List.getElem_mem hm2)) h4) (Nat.not_lt.2 h5)
  by_cases ej:i=j
  . subst ej;simp only[List.getElem_set_self]at h1;rw[List.getElem_set_ne (by omega)]at h2;exact key k hk (by omega) h1 h2
  rw[List.getElem_set_ne ej]at h1
  by_cases ek:i=k
  . subst ek;simp only[List.getElem_set_self]at h2;exact key j hj (by omega) h2 h1
  rw[List.getElem_set_ne ek]at h2;exact List.pairwise_iff_getElem.1 h.ap j k hj hk hjk g h1 h2
end
theorem put_grown{R:Nat}:∀(cs:List Value) (o:Nat) (w:World),w.grownBy (putAt R o cs w) (some R)
  |[],_,_=>⟨rfl,rfl,rfl,Nat.le_refl _,fun _ _ _=>rfl⟩
  | c::cs,o,w=>by
    obtain⟨h1,h2,h3,h4,h5⟩:=put_grown (R:=R) cs (o+1) (w.setCell ⟨R,o,none⟩ c);have hs:(w.setCell ⟨R,o,none⟩ c).heap.size=w.heap.size:=by simp[World.setCell]
    exact⟨h1,h2,h3,by rw[<-hs];exact h4,fun j hj hne=>(h5 j (by rw[hs];exact hj) hne).trans (setCell_far _ fun e=>hne (by rw[e]))⟩
def bx(R:Nat)(obj:Obj):Ft:=⟨fun g=>g=R,[],Has 0 R obj,fun h e=>e▸h.ltS,fun h hb=>h.below hb,fun h hn _=>has_spare h fun e=>hn e.symm⟩
def rO{α:Type}(K:EK α)[OwnK K](t:TypeId)(p:Option Addr)(n c:Nat)(xs:List α):Ft:=
  ⟨fun g=>ob p=some g,K.S,fun w=>OwV K t 0 w (.slice p n c) xs,fun h e=>(h.block e).2,fun h hb=>h.below hb,fun h hn hS=>h.spare (by rw[ob_eq];exact hn) (.inr hS)⟩
def pF(S:List Nat)(F:World->Prop)(h1:∀{w w'},F w->Below w.heap.size w w'->F w')(h2:∀{w R},F w->NoHd S R w->Spares R w F):Ft:=⟨fun _=>False,S,F,fun _ h=>h.elim,h1,fun h _=>h2 h⟩
def cF(p:Prop):Ft:=⟨fun _=>False,[],fun _=>p,fun _ h=>h.elim,fun h _=>h,fun h _ _ _ _ _ _ _=>h⟩
section
variable {α:Type}{K:EK α}{w:World}{t:TypeId}{p:Option Addr}{n c i b:Nat}{xs:List α}
theorem OwV.len(h:OwV K t b w (.slice p n c) xs):n=xs.length:=h.slv.one0
theorem SlV.pt(h:SlV K w (.slice p n c) xs)(hi:i<n):∃g o,p=some ⟨g,o,none⟩:=by
  have hl:=h.one0;obtain⟨g,o,e,_⟩:=h.ptr (List.getElem?_eq_getElem (show i<xs.length by omega));exact⟨g,o,e⟩
theorem OwV.some_cell{g:Nat}(h:OwV K t b w (.slice (some ⟨g,0,none⟩) n c) xs)(hi:i<xs.length){j:Nat}(hj:j<K.sz):∃u,w.cell? ⟨g,i*K.sz+j,none⟩=some u:=by
  obtain⟨cs,h1,h2⟩:=h.slv.at (List.getElem?_eq_getElem hi);have hl:=K.len h2;refine⟨cs[j]'(by omega),?_⟩;have:=h1.2 j _ (List.getElem?_eq_getElem (by omega))
  rwa [Nat.zero_add]at this
end
section
variable {α:Type}{K:EK α}[OwnK K]{V w w':World}{l:List Ft}{t:TypeId}{p:Option Addr}{n c i R b:Nat}{xs:List α}{obj:Obj}{v:Value}
theorem SS.own(h:SS V l w)(hm:rO K t p n c xs∈l):OwV K t 0 w (.slice p n c) xs:=h.get hm
theorem SS.box(h:SS V l w)(hm:bx R obj∈l):Has 0 R obj w:=h.get hm
theorem SS.slv(h:SS V l w)(hm:rO K t p n c xs∈l):SlV K w (.slice p n c) xs:=(h.own hm).slv
theorem SS.len(h:SS V l w)(hm:rO K t p n c xs∈l):n=xs.length:=(h.own hm).len
theorem SS.pt(h:SS V l w)(hm:rO K t p n c xs∈l)(hi:i<n):∃g,p=some ⟨g,0,none⟩:=by
  have hl:=h.len hm;obtain⟨r,e,e1,h1|⟨g,e2,_⟩⟩:=(h.own hm).sh
  . rw[h1.1]at hl;subst hl;exact absurd hi (Nat.not_lt_zero _)
  injection e1 with e1
  exact⟨g,by rw[e1,e2]⟩
theorem SS.repl{f f':Ft}(h:SS V (f::l) w)(hf:f'.F w)(ho:∀g,f'.own g->f.own g):SS V (f'::l) w:=
  (h.subl (List.sublist_cons_self ..)).one hf (fun g hg=>h.lo _ (List.mem_cons_self ..) g (ho g hg)) fun f1 h1 g hg=>(List.pairwise_cons.1 h.ap).1 f1 h1 g (ho g hg)
theorem SS.cut{m:Nat}(h:SS V (rO K t p n c xs::l) w)(hm:m<=xs.length):SS V (rO K t p m c (xs.take m)::l) w:=h.repl ((h.own (List.mem_cons_self ..)).take hm) fun _ h=>h
end
section
variable {w:World}{g o n c i:Nat}{t:TypeId}{b:Nat}
theorem SlV.cel{α:Type}{K:EK α}{f:α->List Value}(hf:∀{w cs x},K.R w cs x->cs=f x){xs:List α}{x:α}(h:SlV K w (.slice (some ⟨g,o,none⟩) n c) xs)(hx:xs[i]?=some x)(j:Nat){u:Value}(hu:(f x)[j]?=some u):w.cell? ⟨g,o+i*K.sz+j,none⟩=some u:=by
  obtain⟨cs,h1,h2⟩:=h.at hx;have h3:=hf h2;subst h3;exact h1.2 j u hu
theorem SlV.int{xs:List Int}{x:Int}(h:SlV intK w (.slice (some ⟨g,o,none⟩) n c) xs)(hx:xs[i]?=some x):w.cell? ⟨g,o+i,none⟩=some (.int .i64 x):=by
  have h1:=h.cel (f:=fun x=>[.int .i64 x]) (fun e=>e) hx 0 rfl
  rwa [show o+i*intK.sz+0=o+i from by show o+i*1+0=_;omega]at h1
theorem OwV.int{xs:List Int}{x:Int}(h:OwV intK t b w (.slice (some ⟨g,0,none⟩) n c) xs)(hx:xs[i]?=some x):w.cell? ⟨g,i,none⟩=some (.int .i64 x):=by
  have h1:=h.slv.int hx
  rwa [Nat.zero_add]at h1
end
section
variable {P:Program}{V:World}{ops:Array Oper}{Q:Act->World->Prop}{f0 fs fs':List Ft}{k:Nat}{ks:List Nat}{o:Oper}{rest:List Oper}{a a':Act}{v:Value}
theorem gdS(hs:f0.Sublist fs):Gd (SS V f0) ⟨Own fs,SS V fs⟩:=⟨fun _ _ h hb=>SS.step h hb,fun _ h=>SS.subl h hs,fun _ h _ hg=>SS.lt h hg⟩
structure Sx(P:Program)(V:World)(ops:Array Oper)(Q:Act->World->Prop)(f0:List Ft)(ks:List Nat)(l:List Oper)(fs:List Ft)(a:Act):Prop where
  out:f0.Sublist fs->wpX P (SS V f0) V.heap.size ops Q ks l ⟨Own fs,SS V fs⟩ a
theorem wp_region_S{id:Nat}{Q:Exit->Act->World->Prop}{w:World}{l:List Oper}(f0:List Ft)(ks:List Nat)(hK:SS V fs w)(h:Sx P V l.toArray (fun a w=>Q .normal a w) f0 ks l fs a)(hs:f0.Sublist fs)(hm:P.follows .mixedOrders=true:=by kernel_rfl)
    (hn:Region.noSelect l.toArray=true:=by kernel_rfl) (hlen:(l.length==ks.length)=true:=by kernel_rfl) (hst:floatB .any l.toArray ks=true:=by kernel_rfl):(Code.region id l.toArray true).wp P Q a w:=
  wp_region_X (SS V f0) V.heap.size _ ks hm hn hlen hst (fun _ h=>h.old.size) (gdS hs) hK.drew (h.out hs)
theorem wp_region_T{id:Nat}{Q:Exit->Act->World->Prop}{w:World}{l:List Oper}(ks:List Nat)(hK:SS V fs w)(h:Sx P V l.toArray (fun a w=>Q .normal a w) [] ks l fs a):(Code.region id l.toArray false).wp P Q a w:=
  wp_region_lit (wpList_of_X (P0:=SS V []) (base:=V.heap.size) (fun _ h=>h.old.size) ks l _ a w (gdS (List.nil_sublist _)) hK (h.out (List.nil_sublist _)))
theorem sxEnd(h:∀w,SS V fs w->Q a w):Sx P V ops Q f0 ks [] fs a:=⟨fun _=>by cases ks<;>exact h⟩
theorem sxN(hg:Region.wanted o (yielded ops a.tmps)=false)(h:Sx P V ops Q f0 ks rest fs (a.put o.dst undef)):Sx P V ops Q f0 (k::ks) (o::rest) fs a:=⟨fun hs=>by
  show nStep _ _ _ _ _ _ _ _ _
  unfold nStep;rw[if_neg (by simp[hg])];exact h.out hs⟩
theorem sx0(hg:Wants ops o a)(h1:∀w,SS V f0 w->Flt v w ((execOp a.eval o).run P w))(h:Sx P V ops Q f0 ks rest fs (a.put o.dst v)):Sx P V ops Q f0 (0::ks) (o::rest) fs a:=⟨fun hs=>by
  show nStep _ _ _ _ _ _ _ _ _
  unfold nStep;rw[if_pos hg];exact⟨v,h1,h.out hs⟩⟩
theorem sx1(hg:Wants ops o a)(h1:∀w,SS V fs w->Does P (fun u w'=>u=v/\Below w.heap.size w w') ((execOp a.eval o).run P w))(h:Sx P V ops Q f0 ks rest fs (a.put o.dst v)):Sx P V ops Q f0 (1::ks) (o::rest) fs a:=⟨fun hs=>by
  show nStep _ _ _ _ _ _ _ _ _
  unfold nStep;rw[if_pos hg];exact⟨v,h1,h.out hs⟩⟩
theorem sx2{α:Type}[hα:Nonempty α]{f:α->Value}{l':α->List Ft}(hg:Wants ops o a)(h1:∀w,SS V fs w->Does P (fun u w'=> ∃x,u=f x/\SS w (l' x) w') ((execOp a.eval o).run P w))(h:∀x,Sx P V ops Q f0 ks rest (l' x++fs) (a.put o.dst (f x))):Sx P V ops Q f0 (2::ks) (o::rest) fs a:=⟨fun hs=>by
  have hs2:∀x,f0.Sublist (l' x++fs):=fun x=>hs.trans (List.sublist_append_right _ _)
  show nStep _ _ _ _ _ _ _ _ _
  unfold nStep;rw[if_pos hg];refine⟨α,hα,f,fun x=>⟨Own (l' x++fs),SS V (l' x++fs)⟩,fun x=>gdS (hs2 x),fun _ x=>⟨fun w hw=>SS.subl hw (List.sublist_append_right _ _),fun g ⟨f,hf,hg⟩=>⟨f,List.mem_append_right _ hf,hg⟩⟩,fun w hw=>(h1 w hw).mono fun u w' ⟨x,e,hu⟩=>⟨x,e,fun _=>hu.old,fun e=>absurd e (by decide),fun _ g ⟨f,hf,hg⟩=>?_,SS.more hw hu⟩,fun x=>(h x).out (hs2 x)⟩;exact(List.mem_append.1 hf).elim (fun hf=>.inr (hu.lo f hf g hg)) fun hf=>.inl ⟨f,hf,hg⟩⟩
theorem sx3{f:Nat->Value}(obj:Obj)(hg:Wants ops o a)(h1:∀w,(execOp a.eval o).run P w=.ok (.value (f w.heap.size)) (w.alloc obj))(h:∀R,Sx P V ops Q f0 ks rest (bx R obj::fs) (a.put o.dst (f R))):Sx P V ops Q f0 (3::ks) (o::rest) fs a:=⟨fun hs=>by
  show nStep _ _ _ _ _ _ _ _ _
  unfold nStep;rw[if_pos hg];have hm:=mkV_of h1;refine⟨obj,fun w _=>by rw[hm];exact h1 w,fun R=>?_⟩;rw[hm]
  have e:Kl.new ⟨Own fs,SS V fs⟩ V.heap.size R obj=⟨Own (bx R obj::fs),SS V (bx R obj::fs)⟩:=by
    refine Kl.eq (fun g=>⟨fun h=>h.elim (fun⟨f,hf,hg⟩=>⟨f,List.mem_cons_of_mem _ hf,hg⟩) fun h=>⟨_,List.mem_cons_self ..,h⟩,fun⟨f,hf,hg⟩=>?_⟩) fun w=>⟨fun⟨h1,h2,h3⟩=>SS.one h1 ⟨Nat.zero_le _,h2.2⟩ (fun g e=>e▸h2.1) fun f hf g e hg=>h3 ⟨f,hf,e▸hg⟩,fun h=>⟨h.subl (List.sublist_cons_self ..),⟨h.lo _ (List.mem_cons_self ..) R rfl,(h.get (List.mem_cons_self ..)).2⟩,fun⟨f,hf,hg⟩=>(List.pairwise_cons.1 h.ap).1 f hf R rfl hg⟩⟩
    rcases List.mem_cons.1 hf with rfl|hf
    . exact .inr hg
    exact .inl ⟨f,hf,hg⟩
  rw[e];exact(h R).out (hs.cons _)⟩
theorem sx4{α:Type}[hα:Nonempty α]{f:α->Value}{l':α->List Ft}(hg:Wants ops o a)(hs2:∀x,f0.Sublist (l' x))(h1:∀w,SS V fs w->Does P (fun u w'=> ∃x,u=f x/\SS V (l' x) w') ((execOp a.eval o).run P w))(h:∀x,Sx P V ops Q f0 ks rest (l' x) (a.put o.dst (f x))):Sx P V ops Q f0 (4::ks) (o::rest) fs a:=⟨fun hs=>by
  show nStep _ _ _ _ _ _ _ _ _
  unfold nStep;rw[if_pos hg];exact⟨α,hα,f,fun x=>⟨Own (l' x),SS V (l' x)⟩,fun x=>gdS (hs2 x),fun e=>absurd e (by decide),fun w hw=>(h1 w hw).mono fun u w' ⟨x,e,h4⟩=>⟨x,e,fun e=>absurd e (by decide),fun e=>absurd e (by decide),fun e=>absurd rfl e,h4⟩,fun x=>(h x).out (hs2 x)⟩⟩
theorem sx5{α:Type}[hα:Nonempty α]{f:α->Value}{l':α->List Ft}(hg:Wants ops o a)(hs2:∀x,f0.Sublist (l' x))(h1:∀w,SS V fs w->Does P (fun u w'=> ∃x,u=f x/\FrN (Own fs) w w'/\(∀g,Own (l' x) g->Own fs g\/w.heap.size<=g)/\SS V (l' x) w') ((execOp a.eval o).run P w))(h:∀x,Sx P V ops Q f0 ks rest (l' x) (a.put o.dst (f x))):Sx P V ops Q f0 (5::ks) (o::rest) fs a:=⟨fun hs=>by
  show nStep _ _ _ _ _ _ _ _ _
  unfold nStep;rw[if_pos hg];exact⟨α,hα,f,fun x=>⟨Own (l' x),SS V (l' x)⟩,fun x=>gdS (hs2 x),fun e=>absurd e (by decide),fun w hw=>(h1 w hw).mono fun u w' ⟨x,e,h1,h3,h4⟩=>⟨x,e,fun e=>absurd e (by decide),fun _=>h1,fun _=>h3,h4⟩,fun x=>(h x).out (hs2 x)⟩⟩
end
end
section
section
variable {P:Program}{V:World}{ops:Array Oper}{Q:Act->World->Prop}{f0 fs fs':List Ft}{k:Nat}{ks:List Nat}{o:Oper}{rest:List Oper}{a a':Act}{v v0:Value}{R:Nat}{cs:Array Value}{t:TypeId}{f:FuncId}{args:Array Value}
theorem e0(h:Sx P V ops Q f0 ks rest fs a')(hg:Wants ops o a:=by first|exact wants0 rfl|exact wantsg rfl rfl rfl rfl)(h1:∀w,SS V f0 w->Flt v w ((execOp a.eval o).run P w):=by intro w' hK;go_simp;(try go_bits);first|exact⟨rfl,rfl⟩|(rw[if_pos (by omega)];exact⟨rfl,rfl⟩))(ha:a.put o.dst v=a':=by(simp only[mkOf,Act.put,pA,pB,pC,pD,pE])<;>exact rfl):Sx P V ops Q f0 (0::ks) (o::rest) fs a:=sx0 hg h1 (by rw[ha];exact h)
theorem eV(v:Value)(h1:∀w,Flt v w ((execOp a.eval o).run P w))(h:Sx P V ops Q f0 ks rest fs a')(hg:Wants ops o a:=by first|exact wants0 rfl|exact wantsg rfl rfl rfl rfl)(ha:a.put o.dst v=a':=by(simp only[mkOf,Act.put,pA,pB,pC,pD,pE])<;>exact rfl):Sx P V ops Q f0 (0::ks) (o::rest) fs a:=sx0 hg (fun w _=>h1 w) (by rw[ha];exact h)
theorem eN{j d:Nat}{p c:Bool}(h:Sx P V ops Q f0 ks rest fs a')(hg:o.guard=some (j,p):=by rfl)(hd:(ops[j]?).bind (·.dst)=some d:=by rfl)(hv:slotOf a.tmps.toList d=.bool c:=by rfl)(hc:(c==p)=false:=by rfl)(ha:a.put o.dst undef=a':=by(simp only[mkOf,Act.put,pA,pB,pC,pD,pE])<;>exact rfl):Sx P V ops Q f0 (k::ks) (o::rest) fs a:=sxN ((wanted_some hg hd hv).trans hc) (by rw[ha];exact h)
theorem eU{j d:Nat}{p:Bool}(h:Sx P V ops Q f0 ks rest fs a')(hg:o.guard=some (j,p):=by rfl)(hd:(ops[j]?).bind (·.dst)=some d:=by rfl)(hv:slotOf a.tmps.toList d=undef:=by rfl)(ha:a.put o.dst undef=a':=by(simp only[mkOf,Act.put,pA,pB,pC,pD,pE])<;>exact rfl):Sx P V ops Q f0 (k::ks) (o::rest) fs a:=sxN (wanted_undef hg hd hv) (by rw[ha];exact h)
theorem eB{a2:Bool->Act}(e:Bool)(h:∀b,Hid (e=b)->Sx P V ops Q f0 ks rest fs (a2 b))(hg:Wants ops o a:=by first|exact wants0 rfl|exact wantsg rfl rfl rfl rfl)(h1:∀w,Flt (.bool e) w ((execOp a.eval o).run P w):=by intro w';go_simp;(try go_bits);exact⟨by first|rfl|simp,rfl⟩)(ha:∀b,a.put o.dst (.bool b)=a2 b:=by intro b;(simp only[mkOf,Act.put,pA,pB,pC,pD,pE])<;>exact rfl):Sx P V ops Q f0 (0::ks) (o::rest) fs a:=sx0 hg (fun w _=>h1 w) (by rw[ha];exact h e (hid rfl))
theorem eL(hm:bx R (.cells cs t)∈fs)(h:Sx P V ops Q f0 ks rest fs a')(hg:Wants ops o a:=by first|exact wants0 rfl|exact wantsg rfl rfl rfl rfl)(h1:∀w,Has 0 R (.cells cs t) w->Flt v w ((execOp a.eval o).run P w):=by intro w' k;(first|have⟨_,_,_⟩:=k.c3|have⟨_,_⟩:=k.c2|have⟨_,_,_,_⟩:=k.c4|have⟨_,_,_,_,_⟩:=k.c5|have⟨_,_,_,_,_,_⟩:=k.c6|have⟨_,_,_,_,_,_,_⟩:=k.c7|have⟨_,_,_,_,_,_,_,_⟩:=k.c8|have k0:=k.at 0 rfl);go_simp;(try go_bits);exact⟨rfl,rfl⟩)(ha:a.put o.dst v=a':=by(simp only[mkOf,Act.put,pA,pB,pC,pD,pE])<;>exact rfl):Sx P V ops Q f0 (1::ks) (o::rest) fs a:=
  sx1 hg (fun w hw=>Flt.does ⟨rfl,Below.refl _ _⟩ (h1 w (hw.get hm))) (by rw[ha];exact h)
theorem eL0(hm:bx R (.cells cs t)∈f0)(h:Sx P V ops Q f0 ks rest fs a')(hg:Wants ops o a:=by first|exact wants0 rfl|exact wantsg rfl rfl rfl rfl)(h1:∀w,Has 0 R (.cells cs t) w->Flt v w ((execOp a.eval o).run P w):=by intro w' k;(first|have⟨_,_,_⟩:=k.c3|have⟨_,_⟩:=k.c2|have⟨_,_,_,_⟩:=k.c4|have⟨_,_,_,_,_⟩:=k.c5|have⟨_,_,_,_,_,_⟩:=k.c6|have⟨_,_,_,_,_,_,_⟩:=k.c7|have⟨_,_,_,_,_,_,_,_⟩:=k.c8|have k0:=k.at 0 rfl);go_simp;(try go_bits);exact⟨rfl,rfl⟩)(ha:a.put o.dst v=a':=by(simp only[mkOf,Act.put,pA,pB,pC,pD,pE])<;>exact rfl):Sx P V ops Q f0 (0::ks) (o::rest) fs a:=
  sx0 hg (fun w hw=>h1 w (hw.get hm)) (by rw[ha];exact h)
theorem eR{ad:Addr}{u:Value}(hc:∀w,SS V fs w->w.cell? ad=some u)(h:Sx P V ops Q f0 ks rest fs a')(hg:Wants ops o a:=by first|exact wants0 rfl|exact wantsg rfl rfl rfl rfl)(h1:∀w,w.cell? ad=some u->Flt v w ((execOp a.eval o).run P w):=by intro w' c;go_simp;(try go_bits);exact⟨rfl,rfl⟩)(ha:a.put o.dst v=a':=by(simp only[mkOf,Act.put,pA,pB,pC,pD,pE])<;>exact rfl):Sx P V ops Q f0 (1::ks) (o::rest) fs a:=
  sx1 hg (fun w hw=>Flt.does ⟨rfl,Below.refl _ _⟩ (h1 w (hc w hw))) (by rw[ha];exact h)
theorem eR0{ad:Addr}{u:Value}(hc:∀w,SS V f0 w->w.cell? ad=some u)(h:Sx P V ops Q f0 ks rest fs a')(hg:Wants ops o a:=by first|exact wants0 rfl|exact wantsg rfl rfl rfl rfl)(h1:∀w,w.cell? ad=some u->Flt v w ((execOp a.eval o).run P w):=by intro w' c;go_simp;(try go_bits);exact⟨rfl,rfl⟩)(ha:a.put o.dst v=a':=by(simp only[mkOf,Act.put,pA,pB,pC,pD,pE])<;>exact rfl):Sx P V ops Q f0 (0::ks) (o::rest) fs a:=
  sx0 hg (fun w hw=>h1 w (hc w hw)) (by rw[ha];exact h)
theorem eQ(con:∀w,SS V fs w->Calls P f args w (fun e w1=>e=.returned v0/\Below w.heap.size w w1))(h:Sx P V ops Q f0 ks rest fs a')(hv:v0=v:=by rfl)(ho:∀w X,Calls P f args w (fun e w5=> ∃v,e=.returned v/\X v w5)->Does P X ((execOp a.eval o).run P w):=by intro w' X hc;go_simp;(try go_bits);exact hc)(hg:Wants ops o a:=by first|exact wants0 rfl|exact wantsg rfl rfl rfl rfl)(ha:a.put o.dst v=a':=by(simp only[mkOf,Act.put,pA,pB,pC,pD,pE])<;>exact rfl):Sx P V ops Q f0 (1::ks) (o::rest) fs a:=
  sx1 hg (fun w hw=>ho w _ ((con w hw).mono fun e w5 ⟨he,hb⟩=>by subst he;exact⟨_,rfl,hv,hb⟩)) (by rw[ha];exact h)
theorem eC{α:Type}[Nonempty α]{g:α->Value}{l' fs2:α->List Ft}{a2:α->Act}(con:∀w,SS V fs w->Calls P f args w (fun e w1=> ∃x,e=.returned (g x)/\SS w (l' x) w1))(h:∀x,Sx P V ops Q f0 ks rest (fs2 x) (a2 x))(ho:∀w X,Calls P f args w (fun e w5=> ∃v,e=.returned v/\X v w5)->Does P X ((execOp a.eval o).run P w):=by intro w' X hc;go_simp;(try go_bits);exact hc)(hg:Wants ops o a:=by first|exact wants0 rfl|exact wantsg rfl rfl rfl rfl)(ha:∀x,a.put o.dst (g x)=a2 x:=by intro x;(simp only[mkOf,Act.put,pA,pB,pC,pD,pE])<;>exact rfl)(hf:∀x,l' x++fs=fs2 x:=by intro x;(simp only[pD,pE])<;>exact rfl):Sx P V ops Q f0 (2::ks) (o::rest) fs a:=
  sx2 hg (fun w hw=>ho w _ ((con w hw).mono fun e w5 ⟨x,he,hb⟩=>by subst he;exact⟨_,rfl,x,rfl,hb⟩)) (fun x=>by rw[ha,hf];exact h x)
theorem eA{a2:Nat->Act}(obj:Obj)(h:∀R,Sx P V ops Q f0 ks rest (bx R obj::fs) (a2 R))(hg:Wants ops o a:=by first|exact wants0 rfl|exact wantsg rfl rfl rfl rfl)(h1:∀w,(execOp a.eval o).run P w=.ok (.value (mkOf o w.heap.size)) (w.alloc obj):=by intro w';go_simp;rfl)(ha:∀R,a.put o.dst (mkOf o R)=a2 R:=by intro R;(simp only[mkOf,Act.put,pA,pB,pC,pD,pE])<;>exact rfl):Sx P V ops Q f0 (3::ks) (o::rest) fs a:=sx3 (f:=mkOf o) obj hg h1 fun R=>by rw[ha];exact h R
theorem eM{α:Type}[Nonempty α]{g:α->Value}{fs2:α->List Ft}{a2:α->Act}(con:∀w,SS V fs w->Calls P f args w (fun e w1=> ∃x,e=.returned (g x)/\SS V (fs2 x) w1))(h:∀x,Sx P V ops Q f0 ks rest (fs2 x) (a2 x))(hs:∀x,f0.Sublist (fs2 x):=by exact fun _=>List.nil_sublist _)(ho:∀w X,Calls P f args w (fun e w5=> ∃v,e=.returned v/\X v w5)->Does P X ((execOp a.eval o).run P w):=by intro w' X hc;go_simp;(try go_bits);exact hc)(hg:Wants ops o a:=by first|exact wants0 rfl|exact wantsg rfl rfl rfl rfl)(ha:∀x,a.put o.dst (g x)=a2 x:=by intro x;(simp only[mkOf,Act.put,pA,pB,pC,pD,pE])<;>exact rfl):Sx P V ops Q f0 (4::ks) (o::rest) fs a:=
  sx4 hg hs (fun w hw=>ho w _ ((con w hw).mono fun e w5 ⟨x,he,h3⟩=>by subst he;exact⟨_,rfl,x,rfl,h3⟩)) (fun x=>by rw[ha];exact h x)
theorem sxS{i R:Nat}{f1 f2:Ft}(hi:fs[i]?=some f1)(hR:f1.own R)(ho:∀g,f2.own g->f1.own g)(hq:∀w,f1.F w->Qt (some R) w i fs)(hs:f0.Sublist (fs.set i f2))(hg:Wants ops o a)(h1:∀w,SS V fs w->f1.F w->Does P (fun u w'=>u=undef/\(∃o' cs,w'=putAt R o' cs w)/\f2.F w') ((execOp a.eval o).run P w))(h:Sx P V ops Q f0 ks rest (fs.set i f2) (a.put o.dst undef)):Sx P V ops Q f0 (4::ks) (o::rest) fs a:=
  sx4 (α:=Unit) (f:=fun _=>undef) (l':=fun _=>fs.set i f2) hg (fun _=>hs) (fun w hw=>(h1 w hw (hw.get (List.mem_of_getElem? hi))).mono fun u w' ⟨e1,⟨o',cs,e2⟩,e3⟩=>⟨(),e1,by
    subst e2;exact hw.turn hi (put_grown ..) (fun R' e=>by injection e with e;subst e;exact hR) (hq w (hw.get (List.mem_of_getElem? hi))) e3 fun g hg=>.inl (ho g hg)⟩) fun _=>h
theorem eP{c:Value}{l:List Value}(i o':Nat)(cs:List Value)(h:Sx P V ops Q f0 ks rest fs' a')(hi:fs[i]?=some (bx R (.cells (c::l).toArray t)):=by rfl)(hf:fs.set i (bx R (.cells (setL (c::l) o' cs).toArray t))=fs':=by(simp only[setL,pB,pC])<;>exact rfl)(hs:f0.Sublist fs':=by exact List.nil_sublist _)(hq:OzL i fs\/OkL (rkV c) i fs:=by first|(refine .inl ?_;(repeat (first|exact trivial|(show OzA _;assumption)|refine⟨rfl,?_⟩))<;>fail)|(refine .inr ?_;(repeat (first|exact trivial|(show OkA _ _;assumption)|refine⟨rfl,?_⟩))<;>fail))(hg:Wants ops o a:=by first|exact wants0 rfl|exact wantsg rfl rfl rfl rfl)
    (h1:∀w,Has 0 R (.cells (c::l).toArray t) w->Does P (fun u w'=>u=undef/\w'=putAt R o' cs w) ((execOp a.eval o).run P w):=by intro w' k;(first|have⟨_,_,_⟩:=k.c3|have⟨_,_⟩:=k.c2|have⟨_,_,_,_⟩:=k.c4|have⟨_,_,_,_,_⟩:=k.c5|have⟨_,_,_,_,_,_⟩:=k.c6|have⟨_,_,_,_,_,_,_⟩:=k.c7|have⟨_,_,_,_,_,_,_,_⟩:=k.c8|have k0:=k.at 0 rfl);have f:=k.fz;go_simp;exact⟨rfl,rfl⟩) (ha:a.put o.dst undef=a':=by(simp only[mkOf,Act.put,pA,pB,pC,pD,pE])<;>exact rfl):Sx P V ops Q f0 (4::ks) (o::rest) fs a:=
  sxS (f2:=bx R (.cells (setL (c::l) o' cs).toArray t)) hi rfl (fun _ h=>h) (fun w k=>hq.elim qtZ fun hk=>qtN (fun R' e=>by injection e with e;subst e;exact hdIs_of (base:=0) k) hk) (by rw[hf];exact hs) hg (fun w _ k=>(h1 w k).mono fun u w' ⟨e1,e2⟩=>by subst e2;exact⟨e1,⟨_,_,rfl⟩,has_put k o' cs (Below.refl _ _)⟩) (by rw[hf,ha];exact h)
theorem eWI {g n c j : Nat}{xs:List Int}{y:Int}(i:Nat)(hj:j<xs.length)(h:Sx P V ops Q f0 ks rest fs' a')(hi:fs[i]?=some (rO intK t (some ⟨g,0,none⟩) n c xs):=by rfl)(hf:fs.set i (rO intK t (some ⟨g,0,none⟩) n c (xs.set j y))=fs':=by(simp only[pB,pC])<;>exact rfl)(hs:f0.Sublist fs':=by exact List.nil_sublist _)(hq:OzL i fs\/OkL 1 i fs:=by first|(refine .inl ?_;(repeat (first|exact trivial|(show OzA _;assumption)|refine⟨rfl,?_⟩))<;>fail)|(refine .inr ?_;(repeat (first|exact trivial|(show OkA _ _;assumption)|refine⟨rfl,?_⟩))<;>fail))(hg:Wants ops o a:=by first|exact wants0 rfl|exact wantsg rfl rfl rfl rfl)
    (h1:∀w u,w.cell? ⟨g,j,none⟩=some u->(∀o,w.frozen? ⟨g,o,none⟩=false)->Does P (fun u w'=>u=undef/\w'=w.setCell ⟨g,j,none⟩ (.int .i64 y)) ((execOp a.eval o).run P w):=by intro w' u c f;go_simp;exact⟨rfl,rfl⟩) (ha:a.put o.dst undef=a':=by(simp only[mkOf,Act.put,pA,pB,pC,pD,pE])<;>exact rfl):Sx P V ops Q f0 (4::ks) (o::rest) fs a:=
  sxS (R:=g) (f2:=rO intK t (some ⟨g,0,none⟩) n c (xs.set j y)) hi rfl (fun _ h=>h) (fun w k=>hq.elim qtZ fun hk=>qtN (fun R' e=>by injection e with e;subst e;exact OwV.hd k (List.ne_nil_of_length_pos (by omega)) (fun{_ _ _ _} h hu=>by cases h;cases hu;rfl)) hk) (by rw[hf];exact hs) hg (fun w _ k=>by
    obtain⟨u,hu⟩:=OwV.some_cell k hj (j:=0) (by decide)
    refine (h1 w u (by have:j*intK.sz+0=j:=by show j*1+0=j;omega
                       rwa [this]at hu) (OwV.fz k)).mono fun u w' ⟨e1,e2⟩=>?_
    have e3:w'=putAt g (j*intK.sz) [.int .i64 y] w:=by rw[show j*intK.sz=j by show j*1=j;omega];exact e2
    subst e3;exact⟨e1,⟨_,_,rfl⟩,OwV.put k rfl hj _ (Below.refl _ _)⟩) (by rw[hf,ha];exact h)
theorem frN_grown{w w':World}{b:Option Nat}{l:List Ft}(hg:w.grownBy w' b)(hb:∀R,b=some R->Own l R):FrN (Own l) w w':=fun R hR hn=>hg.block R hR fun e=>hn (hb R e.symm)
theorem sxG{α:Type}[Nonempty α]{i:Nat}{f1:Ft}{g:α->Value}{f2:α->Ft}{b:Option Nat}(hi:fs[i]?=some f1)(hR:∀R,b=some R->f1.own R)(hq:∀w,f1.F w->Qt b w i fs)(hs:∀x,f0.Sublist (fs.set i (f2 x)))(hg:Wants ops o a)(h1:∀w,SS V fs w->f1.F w->Does P (fun u w'=> ∃x,u=g x/\w.grownBy w' b/\(∀g,(f2 x).own g->f1.own g\/w.heap.size<=g)/\(f2 x).F w') ((execOp a.eval o).run P w))(h:∀x,Sx P V ops Q f0 ks rest (fs.set i (f2 x)) (a.put o.dst (g x))):Sx P V ops Q f0 (5::ks) (o::rest) fs a:=
  sx5 (l':=fun x=>fs.set i (f2 x)) hg hs (fun w hw=>by
    have hm:=List.mem_of_getElem? hi;refine(h1 w hw (hw.get hm)).mono fun u w' ⟨x,e1,e2,e3,e4⟩=>⟨x,e1,frN_grown e2 fun R e=>⟨f1,hm,hR R e⟩,fun g ⟨f,hf,hg⟩=>?_,hw.turn hi e2 hR (hq w (hw.get hm)) e4 e3⟩
    rcases List.mem_or_eq_of_mem_set hf with hf|rfl
    . exact .inl ⟨f,hf,hg⟩
    exact(e3 g hg).imp (fun h=>⟨f1,hm,h⟩) id) h
theorem app_doesS{α:Type}{K:EK α}[OwnK K]{q p:Option Addr}{n d m c bytes:Nat}{tt uu u':TypeId}{xs ys:List α}{z:Value}{w:World}{s x:Operand}(ho:o.op=.call {callee:=.builtin .append,args:=#[s,x],argTypes:=#[tt,uu]})(ht:P.underlying tt=some (.slice t))(hu:P.underlying uu=some (.slice u'))(hinf:(P.info? t).map (fun i=>(i.zero,i.size,i.bytes))=some (some z,K.sz,bytes))(hzs:z.cells.size=K.sz)
    (hs:a.eval s=.slice q n d) (hx:a.eval x=.slice p m c) (h63:xs.length+ys.length<=maxLen) (hbytes:(xs.length+ys.length)*bytes<=140737488355328) (how:OwV K t 0 w (.slice q n d) xs) (hok:∀g,ob q=some g->K.Free\/NoHd K.S g w) (hsrc:SlV K w (.slice p m c) ys):
    Does P (fun u w'=> ∃y:Sl,u=.slice y.p y.l y.c/\w.grownBy w' (ob q)/\(∀g,ob y.p=some g->ob q=some g\/w.heap.size<=g)/\OwV K t 0 w' (.slice y.p y.l y.c) (xs++ys)) ((execOp a.eval o).run P w):=
  (app_does ho ht hu hinf hzs hs hx h63 hbytes (Nat.zero_le _) ⟨how,hok,hsrc⟩).mono fun u w' ⟨c1,c2,c3⟩=>by
    obtain⟨r,e,rfl,_⟩:=c1.sh;rw[ob_eq]at c3;exact⟨⟨r,_,e⟩,rfl,c2,fun g hg=>c3.elim (fun h=>.inl (h▸hg)) fun h=>.inr (by rw[h]at hg;injection hg with hg;omega),c1⟩
theorem SS.one1{α:Type}{K:EK α}{V w:World}{cs:List Value}{x:α}{ty:TypeId}(h:SS V fs w)(hm:bx R (.cells cs.toArray ty)∈fs)(hr:K.R w cs x):SlV K w (.slice (some ⟨R,0,none⟩) 1 1) [x]:=.one (h.box hm) hr (Nat.le_refl 1) (by decide)
theorem SS.made{α:Type}{K:EK α}[OwnK K]{V w:World}{x:α}{zs:List Value}{R n:Nat}(h:SS V (bx R (.cells (madeCells zs.toArray (n*K.sz)) t)::fs) w)(hx:∀w:World,K.R w zs x)(hn:n<=maxLen):SS V (rO K t (some ⟨R,0,none⟩) n n (List.replicate n x)::fs) w:=by
  have hb:=h.box (List.mem_cons_self ..);have hl:zs.length=K.sz:=K.len (hx w);refine h.repl (f':=rO K t (some ⟨R,0,none⟩) n n (List.replicate n x)) ⟨List.replicate n zs,⟨by simp,fun k cs y c1 c2=>?_⟩,?_⟩ fun g e=>(Option.some.inj e).symm
  . have e1:=(List.mem_replicate.1 (List.mem_of_getElem? c1)).2;have e2:=(List.mem_replicate.1 (List.mem_of_getElem? c2)).2;subst e1;subst e2;exact hx w
  have e:(madeCells zs.toArray (n*K.sz)).toList=(List.replicate n zs).flatten:=by rw[<-hl];exact made_flat zs n (by have:=K.pos;omega)
  rw[<-e,List.length_replicate];refine⟨by rw[Array.length_toList];exact size_madeCells _ _,.inr ⟨R,n,_,rfl,Nat.zero_le _,hb.2,Nat.le_refl _,hn,size_madeCells _ _,?_⟩⟩;rw[List.take_of_length_le (by rw[Array.length_toList];exact Nat.le_of_eq (size_madeCells _ _))]
theorem eMk{α:Type}{K:EK α}[OwnK K]{x:α}{zs:List Value}{z:Value}{bytes:Nat}{tt:TypeId}{l1 l2:Operand}{a2:Nat->Act}{vi:Int}(n:Nat)(_hx:∀w:World,K.R w zs x)(hz:z.cells=zs.toArray)(hinf:(P.info? t).map (fun i=>(i.zero,i.size,i.bytes))=some (some z,K.sz,bytes))(hn:n*K.sz<=16777216)(hb:bytes<=100000)(h:∀g,Sx P V ops Q f0 ks rest (bx g (.cells (madeCells zs.toArray (n*K.sz)) t)::fs) (a2 g))(ho:o.op=.makeSlice tt l1 l2:=by rfl)(ht:P.underlying tt=some (.slice t):=by first|rfl|kernel_rfl)(he1:a.eval l1=.int .i64 vi:=by rfl)(he2:a.eval l2=.int .i64 vi:=by rfl)(hv:vi=(n:Int):=by rfl)(hg:Wants ops o a:=by first|exact wants0 rfl|exact wantsg rfl rfl rfl rfl)(ha:∀g:Nat,a.put o.dst (.slice (some ⟨g,0,none⟩) n n)=a2 g:=by intro x;(simp only[mkOf,Act.put,pA,pB,pC,pD,pE])<;>exact rfl):Sx P V ops Q f0 (3::ks) (o::rest) fs a:=
  sx3 (f:=fun g=>.slice (some ⟨g,0,none⟩) n n) (.cells (madeCells zs.toArray (n*K.sz)) t) hg (fun w=>by
    have hn1:n<=16777216:=Nat.le_trans (Nat.le_mul_of_pos_right n K.pos) hn;obtain⟨i0,hi,hz0,hz1,hz2⟩:=info_parts hinf;subst hz2;have e1:i0.bytes*n<=100000*16777216:=Nat.mul_le_mul hb hn1;have e2:((i0.bytes*n:Nat):Int)<=281474976710656:=by omega
    rw[Int.natCast_mul]at e2;have hr:=run_make (P:=P) w tt t i0 z ht hi hz0 .i64 .i64 n n (by omega) (Int.le_refl _) e2 (by omega);rw[hz,hz1]at hr;unfold execOp;simp only[ho,Sem.run_bind,Sem.run_pure,he1,he2,hv,hr,Result.andThen_ok,Int.toNat_natCast]) fun g=>by rw[ha];exact h g
theorem eX0(hc:∀w,SS V f0 w->Has 0 R (.cells cs t) w)(h:Sx P V ops Q f0 ks rest fs a')(hg:Wants ops o a:=by first|exact wants0 rfl|exact wantsg rfl rfl rfl rfl)(h1:∀w,Has 0 R (.cells cs t) w->Flt v w ((execOp a.eval o).run P w):=by intro w' k;(first|have⟨_,_,_⟩:=k.c3|have⟨_,_⟩:=k.c2|have⟨_,_,_,_⟩:=k.c4|have⟨_,_,_,_,_⟩:=k.c5|have⟨_,_,_,_,_,_⟩:=k.c6|have⟨_,_,_,_,_,_,_⟩:=k.c7|have⟨_,_,_,_,_,_,_,_⟩:=k.c8|have k0:=k.at 0 rfl);go_simp;(try go_bits);exact⟨rfl,rfl⟩)(ha:a.put o.dst v=a':=by(simp only[mkOf,Act.put,pA,pB,pC,pD,pE])<;>exact rfl):Sx P V ops Q f0 (0::ks) (o::rest) fs a:=
  sx0 hg (fun w hw=>h1 w (hc w hw)) (by rw[ha];exact h)
end
section
variable {V w:World}{l l':List Ft}{F a b c d e f g h:Ft}
theorem sK2(h:l'.Sublist l):(F::l').Sublist (F::l):=h.cons_cons _
theorem sC2(h:l'.Sublist l):l'.Sublist (F::l):=h.cons _
theorem sZ2:([]:List Ft).Sublist []:=.slnil
theorem SS.up1(k:SS V (a::b::l) w):SS V (b::a::l) w:=k.perm (.swap _ _ _)
theorem up_cons{l l':List Ft}(h:l.Perm (F::l')):(a::l).Perm (F::a::l'):=(h.cons a).trans (.swap _ _ _)
theorem SS.up2(k:SS V (a::b::c::l) w):SS V (c::a::b::l) w:=k.perm (up_cons (up_cons (.refl _)))
theorem SS.up3(k:SS V (a::b::c::d::l) w):SS V (d::a::b::c::l) w:=k.perm (up_cons (up_cons (up_cons (.refl _))))
theorem SS.up4(k:SS V (a::b::c::d::e::l) w):SS V (e::a::b::c::d::l) w:=k.perm (up_cons (up_cons (up_cons (up_cons (.refl _)))))
theorem SS.up5(k:SS V (a::b::c::d::e::f::l) w):SS V (f::a::b::c::d::e::l) w:=k.perm (up_cons (up_cons (up_cons (up_cons (up_cons (.refl _))))))
theorem SS.up6(k:SS V (a::b::c::d::e::f::g::l) w):SS V (g::a::b::c::d::e::f::l) w:=k.perm (up_cons (up_cons (up_cons (up_cons (up_cons (up_cons (.refl _)))))))
theorem SS.up7(k:SS V (a::b::c::d::e::f::g::h::l) w):SS V (h::a::b::c::d::e::f::g::l) w:=k.perm (up_cons (up_cons (up_cons (up_cons (up_cons (up_cons (up_cons (.refl _))))))))
end
end
section
def nF(v:Value)(n:Nat):Ft:=pF [0] (fun w=>NatV w v n) (fun h hb=>h.below hb) (fun h hn=>nat_spare h hn)
def vF(v:Value)(n:Nat):Ft:=pF [1] (fun w=>RefV w v n) (fun h hb=>h.below hb) (fun h hn=>ref_spare h hn)
theorem NatV.sl{w:World}{v:Value}{n:Nat}(h:NatV w v n):∃p l c,v=.agg #[.slice p l c]:=by
  rcases h with⟨_,e⟩|⟨_,g,c,e,_⟩
  . exact⟨_,_,_,e⟩
  exact⟨_,_,_,e⟩
section
variable {V w:World}{l:List Ft}{v:Value}{n m:Nat}{P:Program}{f:FuncId}{args:Array Value}{r:Value->Value}{r2:Value->Value->Value}
theorem SS.nf(h:SS V l w)(hm:nF v n∈l):NatV w v n:=h.get hm
theorem SS.vf(h:SS V l w)(hm:vF v n∈l):RefV w v n:=h.get hm
theorem nat_S(h:Calls P f args w fun e w'=> ∃y,e=.returned (r y)/\NatV w' y n/\Below w.heap.size w w'):Calls P f args w fun e w'=> ∃x:Sl,e=.returned (r (.agg #[.slice x.p x.l x.c]))/\SS w [nF (.agg #[.slice x.p x.l x.c]) n] w':=h.mono fun e w' ⟨y,h1,h2,h3⟩=>by
  obtain⟨p,l,c,rfl⟩:=h2.sl;exact⟨⟨p,l,c⟩,h1,((SS.start w).step h3).fact (nF _ _) h2⟩
theorem nat2_S(h:Calls P f args w fun e w'=> ∃y z,e=.returned (r2 y z)/\NatV w' y n/\NatV w' z m/\Below w.heap.size w w'):Calls P f args w fun e w'=> ∃x:Duo Sl Sl,e=.returned (r2 (.agg #[.slice x.a.p x.a.l x.a.c]) (.agg #[.slice x.b.p x.b.l x.b.c]))/\SS w [nF (.agg #[.slice x.a.p x.a.l x.a.c]) n,nF (.agg #[.slice x.b.p x.b.l x.b.c]) m] w':=h.mono fun e w' ⟨y,z,h1,h2,h4,h3⟩=>by
  obtain⟨p,l,c,rfl⟩:=h2.sl;obtain⟨q,k,d,rfl⟩:=h4.sl;exact⟨⟨⟨p,l,c⟩,⟨q,k,d⟩⟩,h1,(((SS.start w).step h3).fact (nF _ _) h4).fact (nF _ _) h2⟩
theorem ref_V(h:Calls P f args w fun e w'=> ∃y,e=.returned (r y)/\RefV w' y n/\Below w.heap.size w w'):Calls P f args w fun e w'=> ∃x:Duo (Option Addr) Nat,e=.returned (r (.slice x.a (digs B6 n).length x.b))/\SS w [vF (.slice x.a (digs B6 n).length x.b) n] w':=h.mono fun e w' ⟨y,h1,h2,h3⟩=>by
  obtain⟨p,c,rfl⟩:=h2.slr;exact⟨⟨p,c⟩,h1,((SS.start w).step h3).fact (vF _ _) h2⟩
theorem ref2_V(h:Calls P f args w fun e w'=> ∃y z,e=.returned (r2 y z)/\RefV w' y n/\RefV w' z m/\Below w.heap.size w w'):Calls P f args w fun e w'=> ∃x:Duo (Duo (Option Addr) Nat) (Duo (Option Addr) Nat),e=.returned (r2 (.slice x.a.a (digs B6 n).length x.a.b) (.slice x.b.a (digs B6 m).length x.b.b))/\SS w [vF (.slice x.a.a (digs B6 n).length x.a.b) n,vF (.slice x.b.a (digs B6 m).length x.b.b) m] w':=h.mono fun e w' ⟨y,z,h1,h2,h4,h3⟩=>by
  obtain⟨p,c,rfl⟩:=h2.slr;obtain⟨q,d,rfl⟩:=h4.slr;exact⟨⟨⟨p,c⟩,⟨q,d⟩⟩,h1,(((SS.start w).step h3).fact (vF _ _) h4).fact (vF _ _) h2⟩
end
section
variable {V w:World}{l:List Ft}{v:Value}{x:Rat}{P:Program}{f:FuncId}{args:Array Value}{r:Value->Value}
end
end
section
def qF(v:Value)(x:Rat):Ft:=pF [0] (fun w=>RatV w v x) (fun h hb=>h.below hb) (fun h hn=>rat_spare h hn)
section
variable {P:Program}{f:FuncId}{args:Array Value}{w:World}{q:Rat}{c:Int}
theorem rat_S(h:Calls P f args w fun e w'=> ∃y0,e=.returned y0/\RatV w' y0 q/\Below w.heap.size w w'):Calls P f args w fun e w'=> ∃x:Duo Sl Sl,e=.returned (.agg #[.bool (isN q),.slice x.a.p x.a.l x.a.c,.slice x.b.p x.b.l x.b.c])/\SS w [qF (.agg #[.bool (isN q),.slice x.a.p x.a.l x.a.c,.slice x.b.p x.b.l x.b.c]) q] w':=h.mono fun e w' ⟨y0,h1,h2,h3⟩=>by
  have h2':=h2;obtain⟨p,l,c,p',m,d,rfl,h4,h5⟩:=h2;exact⟨⟨⟨p,l,c⟩,⟨p',m,d⟩⟩,h1,((SS.start w).step h3).fact (qF _ _) h2'⟩
theorem rat2_S(h:Calls P f args w fun e w'=> ∃y0,e=.returned (.tuple #[y0,.int .i64 c])/\RatV w' y0 q/\Below w.heap.size w w'):Calls P f args w fun e w'=> ∃x:Duo Sl Sl,e=.returned (.tuple #[.agg #[.bool (isN q),.slice x.a.p x.a.l x.a.c,.slice x.b.p x.b.l x.b.c],.int .i64 c])/\SS w [qF (.agg #[.bool (isN q),.slice x.a.p x.a.l x.a.c,.slice x.b.p x.b.l x.b.c]) q] w':=h.mono fun e w' ⟨y0,h1,h2,h3⟩=>by
  have h2':=h2;obtain⟨p,l,c,p',m,d,rfl,h4,h5⟩:=h2;exact⟨⟨⟨p,l,c⟩,⟨p',m,d⟩⟩,h1,((SS.start w).step h3).fact (qF _ _) h2'⟩
end
section
variable {V w:World}{l:List Ft}{v:Value}{x:Rat}
theorem SS.q(h:SS V l w)(hm:qF v x∈l):RatV w v x:=h.get hm
end
theorem refR_cells{w:World}{a b c:Value}{x:Rat}(h:RefR w (.agg #[a,b,c]) x):a=.bool (isN x)/\(∃p n m,b=.slice p n m)/\ ∃p n m,c=.slice p n m:=by
  obtain⟨nv,dv,e,h1,h2⟩:=h
  injection e with e
  injection e with e
  injection e with e1 e
  injection e with e2 e
  injection e with e3
  subst e2;subst e3;obtain⟨p,n,m,e4⟩:=h1.sl;obtain⟨q,n',m',e5⟩:=h2.sl;exact⟨e1,⟨p,n,m,e4⟩,q,n',m',e5⟩
def rF(v:Value)(x:Rat):Ft:=pF [1] (fun w=>RefR w v x) (fun h hb=>h.below hb) (fun h hn=>refr_spare h hn)
section
variable {P:Program}{f:FuncId}{args:Array Value}{w:World}{q:Rat}{c:Int}
theorem ref_S(h:Calls P f args w fun e w'=> ∃y0,e=.returned y0/\RefR w' y0 q/\Below w.heap.size w w'):Calls P f args w fun e w'=> ∃x:Duo Sl Sl,e=.returned (.agg #[.bool (isN q),.slice x.a.p x.a.l x.a.c,.slice x.b.p x.b.l x.b.c])/\SS w [rF (.agg #[.bool (isN q),.slice x.a.p x.a.l x.a.c,.slice x.b.p x.b.l x.b.c]) q] w':=h.mono fun e w' ⟨y0,h1,h2,h3⟩=>by
  have h2':=h2;obtain⟨nv,dv,rfl,h4,h5⟩:=h2;obtain⟨p,l,c,rfl⟩:=h4.sl;obtain⟨p',m,d,rfl⟩:=h5.sl;exact⟨⟨⟨p,l,c⟩,⟨p',m,d⟩⟩,h1,((SS.start w).step h3).fact (rF _ _) h2'⟩
theorem ref2_S(h:Calls P f args w fun e w'=> ∃y0,e=.returned (.tuple #[y0,.int .i64 c])/\RefR w' y0 q/\Below w.heap.size w w'):Calls P f args w fun e w'=> ∃x:Duo Sl Sl,e=.returned (.tuple #[.agg #[.bool (isN q),.slice x.a.p x.a.l x.a.c,.slice x.b.p x.b.l x.b.c],.int .i64 c])/\SS w [rF (.agg #[.bool (isN q),.slice x.a.p x.a.l x.a.c,.slice x.b.p x.b.l x.b.c]) q] w':=h.mono fun e w' ⟨y0,h1,h2,h3⟩=>by
  have h2':=h2;obtain⟨nv,dv,rfl,h4,h5⟩:=h2;obtain⟨p,l,c,rfl⟩:=h4.sl;obtain⟨p',m,d,rfl⟩:=h5.sl;exact⟨⟨⟨p,l,c⟩,⟨p',m,d⟩⟩,h1,((SS.start w).step h3).fact (rF _ _) h2'⟩
end
theorem refR0(w:World):RefR w (.agg #[.bool false,.slice none 0 0,.slice none 0 0]) 0:=⟨_,_,rfl,RefV.zero w,RefV.zero w⟩
theorem SS.rq{V w:World}{l:List Ft}{v:Value}{x:Rat}(h:SS V l w)(hm:rF v x∈l):RefR w v x:=h.get hm
end
section
theorem u64_nm(n:Nat):∃z:Nat,∃b:Bool,Hid (b=true->z=n/\n<18446744073709551616)/\Hid (decide (n<18446744073709551616)=b)/\Hid (u64V n=.tuple #[.int .u64 (z:Int),.bool b]):=by
  refine⟨if n<18446744073709551616 then n else 0,decide (n<18446744073709551616),hid fun h=>?_,hid rfl,hid ?_⟩
  . have h2:=of_decide_eq_true h;exact⟨if_pos h2,h2⟩
  unfold u64V;split<;>rfl
theorem gcd_st{x y:Nat}(h:y≠0):Nat.gcd y (rem0 x y)=Nat.gcd x y:=by
  unfold rem0;rw[if_neg h,Nat.gcd_comm y, <-Nat.gcd_rec,Nat.gcd_comm]
theorem gcd_st2(x y:Nat):Nat.gcd y (x%y)=Nat.gcd x y:=by rw[Nat.gcd_comm y, <-Nat.gcd_rec,Nat.gcd_comm]
theorem rem0_len{x y L:Nat}(_hx:(digs B32 x).length<=L)(hy:(digs B32 y).length<=L):(digs B32 (rem0 x y)).length<=L:=by
  unfold rem0
  split
  . first|exact hx|exact hy|(rw[digs_zero];exact Nat.zero_le _)
  exact Nat.le_trans (digs_mono (Nat.le_of_lt (Nat.mod_lt _ (by omega)))) hy
set_option maxRecDepth 100000 in
theorem gcd_q(v0:Value)(v1:Value)(n:Nat)(m:Nat)(w:World)(h0:NatV w v0 n)(h1:NatV w v1 m)(hn:(digs B32 n).length<=100000)(hm:(digs B32 m).length<=100000):
    Calls Tryz.prog 136 #[v0,v1] w fun e w'=> ∃y0,e=.returned y0/\NatV w' y0 (Nat.gcd n m)/\Below w.heap.size w w':=by
  obtain⟨p_h0,l_h0,c_h0,rfl⟩:=h0.sl;obtain⟨p_h1,l_h1,c_h1,rfl⟩:=h1.sl;have hK:=SS.start w;refine Calls.hide (fun Q0 hQ0=>?_);go_enter Tryz.func136,Tryz.ntmps136;go_upto_region 0 with(fail);refine wp_region_T [3,3,3] hK ?_;clear hK;refine eA (.cells #[.slice p_h0 l_h0 c_h0] 41) (fun R1=>?_);refine eA (.cells #[.slice p_h1 l_h1 c_h1] 41) (fun R2=>?_);refine eA (.cells #[.slice none 0 0] 41) (fun R3=>?_);refine sxEnd (fun W4 hK=>?_);replace hK:=hK.fact (nF (.agg #[.slice p_h0 l_h0 c_h0]) n) (h0.below hK.old);replace hK:=hK.fact (nF (.agg #[.slice p_h1 l_h1 c_h1]) m) (h1.below hK.old);go_wp2_with fail;go_loopg [] (m) (fun gk0 wl=> ∃(x:Nat) (y:Nat) (pa:Option Addr) (la:Nat) (ca:Nat) (pb:Option Addr) (lb:Nat) (cb:Nat),Hid (Nat.gcd x y=Nat.gcd n m)/\((digs B32 x).length<=100000)/\((digs B32 y).length<=100000)/\Hid (gk0=y)/\SS w ([nF (.agg #[.slice pb lb cb]) y,nF (.agg #[.slice pa la ca]) x,bx R3 (.cells #[.slice none 0 0] 41),bx R2 (.cells #[.slice pb lb cb] 41),bx R1 (.cells #[.slice pa la ca] 41)]) wl)
  case atStart=>exact⟨n,m,p_h0,l_h0,c_h0,p_h1,l_h1,c_h1,hid rfl,hn,hm,hid rfl,hK⟩
  clear hK;obtain⟨x,y,pa,la,ca,pb,lb,cb,h_g,hx,hy,hgk5,hK⟩:=hrel;generalize wr=W6 at hK⊢;go_upto_region 1 with(fail);refine wp_region_T [1,1,0] hK ?_;clear hK;refine eL m3 ?_;obtain⟨b1,hb1⟩:=nmB (y==0);refine eQ (v:=.bool b1) (fun w k=>isZero_any _ _ w (k.nf m0)) ?_ (hv:=by rw[hb1.out]);refine e0 ?_;refine sxEnd (fun W7 hK=>?_)
  cases b1
  . --
   go_upto_region 2 with(fail);refine wp_region_T [1,1,0,0,0,0,0] hK ?_;clear hK;refine eL m4 ?_;obtain⟨z1,b2,hz1,hb2,hb2e⟩:=u64_nm x;refine eQ (fun w k=>(by have q:=uint64_any _ _ w (k.nf m1);rw[hb2e.out]at q;exact q)) ?_
   iterate 5 refine e0 ?_
   refine sxEnd (fun W8 hK=>?_);go_upto_region 3 with(fail);refine wp_region_T [1,1,0,0,0,0,0] hK ?_;clear hK;refine eL m3 ?_;obtain⟨z2,b3,hz2,hb3,hb3e⟩:=u64_nm y;refine eQ (fun w k=>(by have q:=uint64_any _ _ w (k.nf m0);rw[hb3e.out]at q;exact q)) ?_
   iterate 5 refine e0 ?_
   refine sxEnd (fun W9 hK=>?_);go_upto_region 4 with(fail);refine wp_region_T [0,0,0,0] hK ?_;clear hK
   iterate 2 refine e0 ?_
   cases b2
   . --
    refine eN ?_;refine e0 ?_;refine sxEnd (fun W10 hK=>?_);go_upto_region 8 with(fail);refine wp_region_T [1,1,2,0,0,0,0,3,3,4,4,0] hK ?_;clear hK;refine eL m4 ?_;refine eL m3 ?_;refine eC (fun w k=>nat2_S (dm_any _ _ _ _ w (k.nf m1) (k.nf m0) (by omega) (by omega))) (fun x13=>?_);obtain⟨⟨p11,l11,c11⟩,⟨p12,l12,c12⟩⟩:=x13;dsimp only
    iterate 4 refine e0 ?_
    refine eA (.cells #[.slice none 0 0] 41) (fun R14=>?_);refine eA (.cells #[.slice none 0 0] 41) (fun R15=>?_);refine eP 1 0 [.slice p11 l11 c11] ?_;refine eP 0 0 [.slice p12 l12 c12] ?_;refine e0 ?_;refine sxEnd (fun W16 hK=>?_);go_upto_region 9 with(fail);refine wp_region_S _ [1,0,4,4] hK ?_ (sK2 (sK2 (sK2 (sK2 (sK2 (sK2 (sK2 (sC2 (sC2 sZ2)))))))));clear hK;refine eL m7 ?_;refine eL0 m0 ?_;refine eP 8 0 [.slice pb lb cb] ?_ (hs:=(sK2 (sK2 (sK2 (sK2 (sK2 (sK2 (sK2 (sC2 (sC2 sZ2))))))))));refine eP 7 0 [.slice p12 l12 c12] ?_ (hs:=(sK2 (sK2 (sK2 (sK2 (sK2 (sK2 (sK2 (sC2 (sC2 sZ2))))))))));refine sxEnd (fun W17 hK=>?_)
    (try go_wp2)
    go_roundg ((rem0 x y))
    case measure=>rw[hgk5.out];(have q:=hb1.out;simp at q;unfold rem0;rw[if_neg q];exact Nat.mod_lt _ (by omega))
    case rel=>exact⟨y,rem0 x y,pb,lb,cb,p12,l12,c12,hid ((gcd_st (by have q:=hb1.out;simpa using q)).trans h_g.out),hy,(rem0_len hx hy),hid rfl,(hK.subl (sC2 (sC2 (sC2 (sK2 (sK2 (sC2 (sR))))))))⟩
   iterate 2 refine e0 ?_
   refine sxEnd (fun W18 hK=>?_)
   cases b3
   . --
    go_upto_region 8 with(fail);refine wp_region_T [1,1,2,0,0,0,0,3,3,4,4,0] hK ?_;clear hK;refine eL m4 ?_;refine eL m3 ?_;refine eC (fun w k=>nat2_S (dm_any _ _ _ _ w (k.nf m1) (k.nf m0) (by omega) (by omega))) (fun x21=>?_);obtain⟨⟨p19,l19,c19⟩,⟨p20,l20,c20⟩⟩:=x21;dsimp only
    iterate 4 refine e0 ?_
    refine eA (.cells #[.slice none 0 0] 41) (fun R22=>?_);refine eA (.cells #[.slice none 0 0] 41) (fun R23=>?_);refine eP 1 0 [.slice p19 l19 c19] ?_;refine eP 0 0 [.slice p20 l20 c20] ?_;refine e0 ?_;refine sxEnd (fun W24 hK=>?_);go_upto_region 9 with(fail);refine wp_region_S _ [1,0,4,4] hK ?_ (sK2 (sK2 (sK2 (sK2 (sK2 (sK2 (sK2 (sC2 (sC2 sZ2)))))))));clear hK;refine eL m7 ?_;refine eL0 m0 ?_;refine eP 8 0 [.slice pb lb cb] ?_ (hs:=(sK2 (sK2 (sK2 (sK2 (sK2 (sK2 (sK2 (sC2 (sC2 sZ2))))))))));refine eP 7 0 [.slice p20 l20 c20] ?_ (hs:=(sK2 (sK2 (sK2 (sK2 (sK2 (sK2 (sK2 (sC2 (sC2 sZ2))))))))));refine sxEnd (fun W25 hK=>?_)
    (try go_wp2)
    go_roundg ((rem0 x y))
    case measure=>rw[hgk5.out];(have q:=hb1.out;simp at q;unfold rem0;rw[if_neg q];exact Nat.mod_lt _ (by omega))
    case rel=>exact⟨y,rem0 x y,pb,lb,cb,p20,l20,c20,hid ((gcd_st (by have q:=hb1.out;simpa using q)).trans h_g.out),hy,(rem0_len hx hy),hid rfl,(hK.subl (sC2 (sC2 (sC2 (sK2 (sK2 (sC2 (sR))))))))⟩
   obtain⟨e9,hlx⟩:=hz1.out rfl;replace e9:=e9.symm;subst e9;obtain⟨e9,hly⟩:=hz2.out rfl;replace e9:=e9.symm;subst e9;go_wp2_with fail;go_loopw [5,7] (fun s5 s7 wl=> ∃(i:Nat) (j:Nat),s5=.int .u64 (i:Int)/\s7=.int .u64 (j:Int)/\(i<18446744073709551616)/\(j<18446744073709551616)/\Hid (Nat.gcd i j=Nat.gcd n m)/\SS w ([nF (.agg #[.slice pb lb cb]) y,nF (.agg #[.slice pa la ca]) x,bx R3 (.cells #[.slice none 0 0] 41),bx R2 (.cells #[.slice pb lb cb] 41),bx R1 (.cells #[.slice pa la ca] 41)]) wl) (fun s5 s7 _=>(intOf s7).toNat)
   case atStart=>exact⟨x,y,rfl,rfl,hlx,hly,hid h_g.out,hK⟩
   clear hK;obtain⟨i,j,rfl,rfl,hi,hj,h_i,hK⟩:=hrel;generalize wr=W26 at hK⊢;go_upto_region 5 with(fail);refine wp_region_T [0,0] hK ?_;clear hK;refine e0 ?_;refine eB (((j:Int)) !=0) (fun b4 hb4=>?_);refine sxEnd (fun W27 hK=>?_)
   cases b4
   . --
    go_upto_region 7 with(fail);refine wp_region_T [0,2,4] hK ?_;clear hK;refine e0 ?_;refine eC (fun w k=>nat_S (of_any i w (by omega))) (fun x29=>?_);obtain⟨p28,l28,c28⟩:=x29;dsimp only;refine eP 3 0 [.slice p28 l28 c28] ?_;refine sxEnd (fun W30 hK=>?_);have c90:=(hK.box m3).at 0 rfl;go_wp2;exact bodyPost_ret (v:=.agg #[.slice p28 l28 c28]) (by simp[results,Tryz.results136,go_sem,c90]) rfl (qo hQ0 ⟨_,rfl,((congrArg (NatV _ _) (by have q:=hb4.out;simp at q;subst q;rw[<-h_i.out,Nat.gcd_zero_right])).mp (hK.nf m0)),hK.old⟩)
   go_upto_region 6 with(fail);refine wp_region_S _ [0,0,0,0,0,0] hK ?_ (sR);clear hK
   iterate 3 refine e0 ?_
   refine eV (.int .u64 ((i%j:Nat):Int)) (fun w'=>by go_simp;(try go_bits);have q:=hb4.out;simp at q;first|exact⟨rfl,rfl⟩|(rw[if_neg (by omega)];exact⟨rfl,rfl⟩)|(simp[q];try omega)) ?_
   iterate 2 refine e0 ?_
   refine sxEnd (fun W31 hK=>?_)
   (try go_wp2)
   go_roundw
   case rel=>exact⟨j,i%j,(by first|rfl|go_num),(by first|rfl|go_num),hj,(Nat.lt_of_le_of_lt (Nat.mod_le _ _) hi),hid ((gcd_st2 i j).trans h_i.out),hK⟩
   case measure=>(have q9:i%j<j:=Nat.mod_lt _ (by have q:=hb4.out;simp at q;omega));show((i%j:Nat):Int).toNat<((j:Nat):Int).toNat;omega
  go_upto_region 10 with(fail);refine wp_region_T [1,4] hK ?_;clear hK;refine eL m4 ?_;refine eP 2 0 [.slice pa la ca] ?_;refine sxEnd (fun W32 hK=>?_);have c90:=(hK.box m2).at 0 rfl;go_wp2;exact bodyPost_ret (v:=.agg #[.slice pa la ca]) (by simp[results,Tryz.results136,go_sem,c90]) rfl (qo hQ0 ⟨_,rfl,((congrArg (NatV _ _) (by have q:=hb1.out;simp at q;subst q;rw[<-h_g.out,Nat.gcd_zero_right])).mp (hK.nf m1)),hK.old⟩)
end
section
def sgnd(s:Bool)(n:Nat)(t:Bool)(m:Nat):Bool × Nat:=if s=t then(s,n+m)else if m<=n then(s,n-m)else(t,m-n)
theorem sgnd_eq(s:Bool)(n:Nat)(t:Bool)(m:Nat):sgn (sgnd s n t m).1 (sgnd s n t m).2=sgn s n+sgn t m:=by
  unfold sgnd sgn
  cases s<;>cases t<;>simp<;>first|omega|(split<;>simp<;>omega)
theorem whole_t{W:World}{p:Option Addr}{l c n:Nat}{s b:Bool}(hb:b=(s&&decide (n≠0)))(h:NatV W (.agg #[.slice p l c]) n):RatV W (.agg #[.bool b,.slice p l c,.slice none 0 0]) (ofS s n 1):=
  RatV.make (by decide) hb (by simp) (by simp) h (NatV.zero W)
set_option maxRecDepth 100000 in
theorem whole_q(v1:Value)(s:Bool)(n:Nat)(w:World)(h1:NatV w v1 n):
    Calls Tryz.prog 57 #[.bool s,v1] w fun e w'=> ∃y0,e=.returned y0/\RatV w' y0 (ofS s n 1)/\Below w.heap.size w w':=by
  obtain⟨p_h1,l_h1,c_h1,rfl⟩:=h1.sl;have hK:=SS.start w;refine Calls.hide (fun Q0 hQ0=>?_);go_enter Tryz.func57,Tryz.ntmps57;go_upto_region 0 with(fail);refine wp_region_T [3,3] hK ?_;clear hK;refine eA (.cells #[.slice p_h1 l_h1 c_h1] 41) (fun R1=>?_);refine eA (.cells #[.bool false,.slice none 0 0,.slice none 0 0] 43) (fun R2=>?_);refine sxEnd (fun W3 hK=>?_);go_upto_region 1 with(fail);refine wp_region_S _ [0,0,0,1,0,0,0,0,4] hK ?_ (sC2 (sR));clear hK
  iterate 2 refine e0 ?_
  cases s
  . --
   iterate 3 refine eN ?_
   refine e0 ?_;refine eL0 m0 ?_;refine e0 ?_;refine eP 0 0 [.bool false,.slice p_h1 l_h1 c_h1,.slice none 0 0] ?_ (hs:=(sC2 (sR)));refine sxEnd (fun W4 hK=>?_);have⟨c90,c91,c92⟩:=(hK.box m0).c3;go_wp2;exact bodyPost_ret (v:=.agg #[.bool false,.slice p_h1 l_h1 c_h1,.slice none 0 0]) (by simp[results,Tryz.results57,go_sem,c90,c91,c92]) rfl (qo hQ0 ⟨_,rfl,(whole_t rfl (h1.below hK.old)),hK.old⟩)
  refine eL0 m0 ?_;obtain⟨b1,hb1⟩:=nmB (n==0);refine eQ (v:=.bool b1) (fun w k=>isZero_any _ _ w (h1.below k.old)) ?_ (hv:=by rw[hb1.out])
  iterate 2 refine e0 ?_
  refine eL0 m0 ?_;refine e0 ?_;refine eP 0 0 [.bool (!b1),.slice p_h1 l_h1 c_h1,.slice none 0 0] ?_ (hs:=(sC2 (sR)));refine sxEnd (fun W5 hK=>?_);have⟨c90,c91,c92⟩:=(hK.box m0).c3;go_wp2;exact bodyPost_ret (v:=.agg #[.bool (!b1),.slice p_h1 l_h1 c_h1,.slice none 0 0]) (by simp[results,Tryz.results57,go_sem,c90,c91,c92]) rfl (qo hQ0 ⟨_,rfl,(whole_t (by have q:=hb1.out;revert q;cases b1<;>simp) (h1.below hK.old)),hK.old⟩)
set_option maxRecDepth 100000 in
theorem sign_any(v0:Value)(x:Rat)(w:World)(h0:RatV w v0 x):
    Calls Tryz.prog 32 #[v0] w fun e w'=>e=.returned (.int .i64 (sgQ x))/\Below w.heap.size w w':=by
  have h0_0:=h0;obtain⟨p_h0,l_h0,c_h0,q_h0,m_h0,d_h0,rfl,h0_1,h0_2⟩:=h0;have hK:=SS.start w;obtain⟨b0,hb0⟩:∃b,Hid (isN x=b):=⟨_,hid rfl⟩;rw[hb0.out]at h0_0⊢;refine Calls.hide (fun Q0 hQ0=>?_);go_enter Tryz.func32,Tryz.ntmps32;go_upto_region 0 with(fail);refine wp_region_T [3,0] hK ?_;clear hK;refine eA (.cells #[.bool b0,.slice p_h0 l_h0 c_h0,.slice q_h0 m_h0 d_h0] 43) (fun R1=>?_);refine e0 ?_;refine sxEnd (fun W2 hK=>?_);go_upto_region 1 with(fail);refine wp_region_T [0,1,1] hK ?_;clear hK;refine e0 ?_;refine eL m0 ?_;obtain⟨b1,hb1⟩:=nmB (x.num.natAbs==0);refine eQ (v:=.bool b1) (fun w k=>isZero_any _ _ w (h0_1.below k.old)) ?_ (hv:=by rw[hb1.out]);refine sxEnd (fun W3 hK=>?_)
  cases b1
  . --
   go_upto_region 3 with(fail);refine wp_region_T [0,1] hK ?_;clear hK;refine e0 ?_;refine eL m0 ?_;refine sxEnd (fun W4 hK=>?_)
   cases b0
   . --
    go_wp2
    try go_ret
    show Q0 (.returned (.int .i64 1)) _
    exact(qo hQ0 ⟨(by unfold sgQ;rw[if_neg (by simpa using hb1.out),hb0.out];rfl),hK.old⟩)
   go_wp2
   try go_ret
   show Q0 (.returned (.int .i64 (-1))) _
   exact(qo hQ0 ⟨(by unfold sgQ;rw[if_neg (by simpa using hb1.out),hb0.out];rfl),hK.old⟩)
  go_wp2
  try go_ret
  show Q0 (.returned (.int .i64 0)) _
  exact(qo hQ0 ⟨(by rw[sgQ_zero.2 ((natAbs_zero x).1 (by simpa using hb1.out))]),hK.old⟩)
set_option maxRecDepth 100000 in
theorem den_any(v0:Value)(x:Rat)(w:World)(h0:RatV w v0 x):
    Calls Tryz.prog 108 #[v0] w fun e w'=> ∃y0,e=.returned y0/\NatV w' y0 (x.den)/\Below w.heap.size w w':=by
  have h0_0:=h0;obtain⟨p_h0,l_h0,c_h0,q_h0,m_h0,d_h0,rfl,h0_1,h0_2⟩:=h0;have hK:=SS.start w;refine Calls.hide (fun Q0 hQ0=>?_);go_enter Tryz.func108,Tryz.ntmps108;go_upto_region 0 with(fail);refine wp_region_T [3,3] hK ?_;clear hK;refine eA (.cells #[.bool (isN x),.slice p_h0 l_h0 c_h0,.slice q_h0 m_h0 d_h0] 43) (fun R1=>?_);refine eA (.cells #[.slice none 0 0] 41) (fun R2=>?_);refine sxEnd (fun W3 hK=>?_);go_upto_region 1 with(fail);refine wp_region_T [0,1,1] hK ?_;clear hK;refine e0 ?_;refine eL m1 ?_;obtain⟨b1,hb1⟩:=nmB ((den0 x)==0);refine eQ (v:=.bool b1) (fun w k=>isZero_any _ _ w (h0_2.below k.old)) ?_ (hv:=by rw[hb1.out]);refine sxEnd (fun W4 hK=>?_)
  cases b1
  . --
   go_upto_region 3 with(fail);refine wp_region_T [0,1,4] hK ?_;clear hK;refine e0 ?_;refine eL m1 ?_;refine eP 0 0 [.slice q_h0 m_h0 d_h0] ?_;refine sxEnd (fun W5 hK=>?_);have c90:=(hK.box m0).at 0 rfl;go_wp2;exact bodyPost_ret (v:=.agg #[.slice q_h0 m_h0 d_h0]) (by simp[results,Tryz.results108,go_sem,c90]) rfl (qo hQ0 ⟨_,rfl,((congrArg (NatV _ _) (by have q:den0 x≠0:=(by simpa using hb1.out);unfold den0 at q⊢;split<;>simp_all)).mp (h0_2.below hK.old)),hK.old⟩)
  go_upto_region 2 with(fail);refine wp_region_T [2,4] hK ?_;clear hK;refine eC (fun w k=>nat_S (of_any 1 w (by omega))) (fun x7=>?_);obtain⟨p6,l6,c6⟩:=x7;dsimp only;refine eP 1 0 [.slice p6 l6 c6] ?_;refine sxEnd (fun W8 hK=>?_);have c90:=(hK.box m1).at 0 rfl;go_wp2;exact bodyPost_ret (v:=.agg #[.slice p6 l6 c6]) (by simp[results,Tryz.results108,go_sem,c90]) rfl (qo hQ0 ⟨_,rfl,((congrArg (NatV _ _) ((den0_zero x).1 (by simpa using hb1.out)).symm).mp (hK.nf m0)),hK.old⟩)
set_option maxRecDepth 100000 in
theorem qtimes_any(v0:Value)(v1:Value)(n:Nat)(z:Nat)(w:World)(h0:NatV w v0 n)(h1:NatV w v1 z)(hl:(digs B32 n).length+(digs B32 z).length<=1000000):
    Calls Tryz.prog 104 #[v0,v1] w fun e w'=> ∃y0,e=.returned y0/\NatV w' y0 (n*one0 z)/\Below w.heap.size w w':=by
  obtain⟨p_h0,l_h0,c_h0,rfl⟩:=h0.sl;obtain⟨p_h1,l_h1,c_h1,rfl⟩:=h1.sl;have hK:=SS.start w;refine Calls.hide (fun Q0 hQ0=>?_);go_enter Tryz.func104,Tryz.ntmps104;go_upto_region 0 with(fail);refine wp_region_T [3,3,3] hK ?_;clear hK;refine eA (.cells #[.slice p_h0 l_h0 c_h0] 41) (fun R1=>?_);refine eA (.cells #[.slice p_h1 l_h1 c_h1] 41) (fun R2=>?_);refine eA (.cells #[.slice none 0 0] 41) (fun R3=>?_);refine sxEnd (fun W4 hK=>?_);go_upto_region 1 with(fail);refine wp_region_T [1,1] hK ?_;clear hK;refine eL m1 ?_;obtain⟨b1,hb1⟩:=nmB (z==0);refine eQ (v:=.bool b1) (fun w k=>isZero_any _ _ w (h1.below k.old)) ?_ (hv:=by rw[hb1.out]);refine sxEnd (fun W5 hK=>?_)
  cases b1
  . --
   go_upto_region 3 with(fail);refine wp_region_T [1,1,2,4] hK ?_;clear hK;refine eL m2 ?_;refine eL m1 ?_;refine eC (fun w k=>nat_S (mul_any _ _ _ _ w (h0.below k.old) (h1.below k.old) (by omega))) (fun x7=>?_);obtain⟨p6,l6,c6⟩:=x7;dsimp only;refine eP 1 0 [.slice p6 l6 c6] ?_;refine sxEnd (fun W8 hK=>?_);have c90:=(hK.box m1).at 0 rfl;go_wp2;exact bodyPost_ret (v:=.agg #[.slice p6 l6 c6]) (by simp[results,Tryz.results104,go_sem,c90]) rfl (qo hQ0 ⟨_,rfl,((congrArg (NatV _ _) (by unfold one0;rw[if_neg (by simpa using hb1.out)])).mp (hK.nf m0)),hK.old⟩)
  go_upto_region 2 with(fail);refine wp_region_T [1,4] hK ?_;clear hK;refine eL m2 ?_;refine eP 0 0 [.slice p_h0 l_h0 c_h0] ?_;refine sxEnd (fun W9 hK=>?_);have c90:=(hK.box m0).at 0 rfl;go_wp2;exact bodyPost_ret (v:=.agg #[.slice p_h0 l_h0 c_h0]) (by simp[results,Tryz.results104,go_sem,c90]) rfl (qo hQ0 ⟨_,rfl,((congrArg (NatV _ _) (by unfold one0;rw[if_pos (by simpa using hb1.out),Nat.mul_one])).mp (h0.below hK.old)),hK.old⟩)
theorem sg_ge{n m:Nat}{z:Int}(h:cmpN n m=z)(h2:0<=z):m<=n:=by subst h;unfold cmpN at h2;split at h2<;>omega
theorem sg_lt{n m:Nat}{z:Int}(h:cmpN n m=z)(h2:z<0):¬m<=n:=by subst h;unfold cmpN at h2;split at h2<;>(try split at h2)<;>omega
set_option maxRecDepth 100000 in
theorem signed_any(v1:Value)(v3:Value)(s:Bool)(n:Nat)(t:Bool)(m:Nat)(w:World)(h1:NatV w v1 n)(h3:NatV w v3 m)(l1:(digs B32 n).length<1000000)(l2:(digs B32 m).length<1000000):
    Calls Tryz.prog 106 #[.bool s,v1,.bool t,v3] w fun e w'=> ∃y,e=.returned (.tuple #[.bool (sgnd s n t m).1,y])/\NatV w' y (sgnd s n t m).2/\Below w.heap.size w w':=by
  obtain⟨p_h1,l_h1,c_h1,rfl⟩:=h1.sl;obtain⟨p_h3,l_h3,c_h3,rfl⟩:=h3.sl;have hK:=SS.start w;refine Calls.hide (fun Q0 hQ0=>?_);go_enter Tryz.func106,Tryz.ntmps106;go_upto_region 0 with(fail);refine wp_region_T [3,3,0,3] hK ?_;clear hK;refine eA (.cells #[.slice p_h1 l_h1 c_h1] 41) (fun R1=>?_);refine eA (.cells #[.slice p_h3 l_h3 c_h3] 41) (fun R2=>?_);refine e0 ?_;refine eA (.cells #[.slice none 0 0] 41) (fun R3=>?_);refine sxEnd (fun W4 hK=>?_);go_upto_region 1 with(fail);refine wp_region_T [0,0,0] hK ?_;clear hK
  iterate 2 refine e0 ?_
  refine eB (s==t) (fun b1 hb1=>?_);refine sxEnd (fun W5 hK=>?_)
  cases b1
  . --
   go_upto_region 3 with(fail);refine wp_region_T [1,1,1,0] hK ?_;clear hK;refine eL m2 ?_;refine eL m1 ?_;obtain⟨z1,hz1⟩:=nmI (cmpN n m);refine eQ (v:=.int .i64 z1) (fun w k=>cmp_any _ _ _ _ w (h1.below k.old) (h3.below k.old) (by omega) (by omega)) ?_ (hv:=by rw[hz1.out]);refine eB (decide (0<=z1)) (fun b2 hb2=>?_);refine sxEnd (fun W6 hK=>?_)
   cases b2
   . --
    have q_b2:=nle hb2;go_upto_region 6 with(fail);refine wp_region_T [1,1,2,0,0,0,3,4,0] hK ?_;clear hK;refine eL m1 ?_;refine eL m2 ?_;obtain⟨z2,hz2⟩:=nmI (if m<n then 2 else 0);refine eC (fun w k=>(by have q:=nat_S (sub_any _ _ _ _ w (h3.below k.old) (h1.below k.old) (by omega) (by omega));rw[hz2.out]at q;exact q)) (fun x8=>?_);obtain⟨p7,l7,c7⟩:=x8;dsimp only
    iterate 3 refine e0 ?_
    refine eA (.cells #[.slice none 0 0] 41) (fun R9=>?_);refine eP 0 0 [.slice p7 l7 c7] ?_;refine e0 ?_;refine sxEnd (fun W10 hK=>?_);go_upto_region 7 with(fail);refine wp_region_S _ [0,0,0,4] hK ?_ (sK2 (sK2 (sC2 (sR))));clear hK;refine e0 ?_;refine eL0 m0 ?_;refine e0 ?_;refine eP 2 0 [.slice p7 l7 c7] ?_ (hs:=(sK2 (sK2 (sC2 (sR)))));refine sxEnd (fun W11 hK=>?_);have c90:=(hK.box m2).at 0 rfl;go_wp2;exact bodyPost_ret (v:=.tuple #[.bool t,.agg #[.slice p7 l7 c7]]) (by simp[results,Tryz.results106,go_sem,c90]) rfl (qo hQ0 ⟨_,(by rw[show sgnd s n t m=(t,m-n)from by unfold sgnd;rw[if_neg (by simpa using hb1.out),if_neg (sg_lt hz1.out q_b2)]]),((congrArg (NatV _ _) (by rw[show sgnd s n t m=(t,m-n)from by unfold sgnd;rw[if_neg (by simpa using hb1.out),if_neg (sg_lt hz1.out q_b2)]])).mp (hK.nf m1)),hK.old⟩)
   have q_b2:=ylt hb2;go_upto_region 4 with(fail);refine wp_region_T [1,1,2,0,0,0,3,4,0] hK ?_;clear hK;refine eL m2 ?_;refine eL m1 ?_;obtain⟨z2,hz2⟩:=nmI (if n<m then 2 else 0);refine eC (fun w k=>(by have q:=nat_S (sub_any _ _ _ _ w (h1.below k.old) (h3.below k.old) (by omega) (by omega));rw[hz2.out]at q;exact q)) (fun x13=>?_);obtain⟨p12,l12,c12⟩:=x13;dsimp only
   iterate 3 refine e0 ?_
   refine eA (.cells #[.slice none 0 0] 41) (fun R14=>?_);refine eP 0 0 [.slice p12 l12 c12] ?_;refine e0 ?_;refine sxEnd (fun W15 hK=>?_);go_upto_region 5 with(fail);refine wp_region_S _ [0,0,0,4] hK ?_ (sK2 (sK2 (sC2 (sR))));clear hK;refine e0 ?_;refine eL0 m0 ?_;refine e0 ?_;refine eP 2 0 [.slice p12 l12 c12] ?_ (hs:=(sK2 (sK2 (sC2 (sR)))));refine sxEnd (fun W16 hK=>?_);have c90:=(hK.box m2).at 0 rfl;go_wp2;exact bodyPost_ret (v:=.tuple #[.bool s,.agg #[.slice p12 l12 c12]]) (by simp[results,Tryz.results106,go_sem,c90]) rfl (qo hQ0 ⟨_,(by rw[show sgnd s n t m=(s,n-m)from by unfold sgnd;rw[if_neg (by simpa using hb1.out),if_pos (sg_ge hz1.out q_b2)]]),((congrArg (NatV _ _) (by rw[show sgnd s n t m=(s,n-m)from by unfold sgnd;rw[if_neg (by simpa using hb1.out),if_pos (sg_ge hz1.out q_b2)]])).mp (hK.nf m1)),hK.old⟩)
  go_upto_region 2 with(fail);refine wp_region_T [0,1,1,2,0,4] hK ?_;clear hK;refine e0 ?_;refine eL m2 ?_;refine eL m1 ?_;refine eC (fun w k=>nat_S (add_any _ _ _ _ w (h1.below k.old) (h3.below k.old) (by omega) (by omega))) (fun x18=>?_);obtain⟨p17,l17,c17⟩:=x18;dsimp only;refine e0 ?_;refine eP 1 0 [.slice p17 l17 c17] ?_;refine sxEnd (fun W19 hK=>?_);have c90:=(hK.box m1).at 0 rfl;go_wp2;exact bodyPost_ret (v:=.tuple #[.bool s,.agg #[.slice p17 l17 c17]]) (by simp[results,Tryz.results106,go_sem,c90]) rfl (qo hQ0 ⟨_,(by rw[show sgnd s n t m=(s,n+m)from by unfold sgnd;rw[if_pos (by simpa using hb1.out)]]),((congrArg (NatV _ _) (by rw[show sgnd s n t m=(s,n+m)from by unfold sgnd;rw[if_pos (by simpa using hb1.out)]])).mp (hK.nf m0)),hK.old⟩)
end
section
theorem ofS_n0(s:Bool){n d:Nat}(h:(n==0)=true):ofS s n 1=ofS s n d:=by
  have:n=0:=by simpa using h
  rw[this,ofS_zero,ofS_zero]
theorem ofS_d1(s:Bool){n d:Nat}(h:(d==1)=true):ofS s n 1=ofS s n d:=by
  have:d=1:=by simpa using h
  rw[this]
theorem ofS_g1(s:Bool){n d:Nat}(hd:d≠0)(h:(d/Nat.gcd n d==1)=true):ofS s (n/Nat.gcd n d) 1=ofS s n d:=by
  have:d/Nat.gcd n d=1:=by simpa using h
  have e:=ofS_div s n hd
  rwa [this]at e
theorem made_b(s:Bool){n:Nat}(h:(n==0)=false):s=(s&&decide (n≠0)):=by
  have:n≠0:=by simpa using h
  simp[this]
theorem made_1{n d:Nat}(h:(Nat.gcd n d==1)=true):n=n/Nat.gcd n d:=by
  have:Nat.gcd n d=1:=by simpa using h
  rw[this,Nat.div_one]
theorem made_2{n d:Nat}(h:(Nat.gcd n d==1)=true)(h':(d==1)=false):d=if d/Nat.gcd n d=1 then 0 else d/Nat.gcd n d:=by
  have:Nat.gcd n d=1:=by simpa using h
  have h2:d≠1:=by simpa using h'
  rw[this,Nat.div_one,if_neg h2]
theorem made_3{n d:Nat}(h':(d/Nat.gcd n d==1)=false):d/Nat.gcd n d=if d/Nat.gcd n d=1 then 0 else d/Nat.gcd n d:=by
  have h2:d/Nat.gcd n d≠1:=by simpa using h'
  rw[if_neg h2]
theorem sgnd_lm{s t:Bool}{n m k:Nat}(hn:Lm k n)(hm:Lm k m):Lm (k+1) (sgnd s n t m).2:=by
  have h:=(hn.add hm).le (n:=(sgnd s n t m).2) (by unfold sgnd;split<;>(try split)<;>simp<;>omega)
  rwa [Nat.max_self]at h
theorem add_made(x y:Rat){b:Bool}(hb:(sgnd (isN x) (x.num.natAbs*one0 (den0 y)) (isN y) (y.num.natAbs*one0 (den0 x))).1=b):ofS b (sgnd (isN x) (x.num.natAbs*one0 (den0 y)) (isN y) (y.num.natAbs*one0 (den0 x))).2 (x.den*one0 (den0 y))=x+y:=by
  have h:=sgnd_eq (isN x) (x.num.natAbs*one0 (den0 y)) (isN y) (y.num.natAbs*one0 (den0 x));rw[hb]at h;rw[one0_den0]at h⊢;rw[one0_den0]at h⊢;exact add_of h
theorem den_1{x:Rat}(h:(den0 x==0)=true):x.den=1:=by
  have:den0 x=0:=by simpa using h
  exact(den0_zero x).1 this
theorem add_whole(x y:Rat){b:Bool}(hb:(sgnd (isN x) (x.num.natAbs*one0 (den0 y)) (isN y) (y.num.natAbs*one0 (den0 x))).1=b)(hx:(den0 x==0)=true)(hy:(den0 y==0)=true):ofS b (sgnd (isN x) (x.num.natAbs*one0 (den0 y)) (isN y) (y.num.natAbs*one0 (den0 x))).2 1=x+y:=by
  have h:=add_made x y hb;rw[show x.den*one0 (den0 y)=1 from by rw[one0_den0,den_1 hx,den_1 hy]]at h;exact h
theorem mul_whole(x y:Rat)(hx:(den0 x==0)=true)(hy:(den0 y==0)=true):ofS (isN x !=isN y) (x.num.natAbs*y.num.natAbs) 1=x*y:=by
  have h:=mul_of x y
  rwa [den_1 hx,den_1 hy]at h
theorem mul_made(x y:Rat):ofS (isN x !=isN y) (x.num.natAbs*y.num.natAbs) (x.den*one0 (den0 y))=x*y:=by rw[one0_den0];exact mul_of x y
theorem div_made(x:Rat){y:Rat}(hy:y≠0):ofS (isN x !=isN y) (x.num.natAbs*one0 (den0 y)) (y.num.natAbs*one0 (den0 x))=x/y:=by rw[one0_den0,one0_den0];exact div_of x hy
theorem RatV.negd{W:World}{p q:Option Addr}{l c m d:Nat}{x:Rat}(hx:x≠0)(h1:NatV W (.agg #[.slice p l c]) x.num.natAbs)(h2:NatV W (.agg #[.slice q m d]) (den0 x)):RatV W (.agg #[.bool (!isN x),.slice p l c,.slice q m d]) (-x):=
  ⟨p,l,c,q,m,d,by rw[neg_isN hx],by rw[neg_num];exact h1,by rw[neg_den0];exact h2⟩
theorem div_zero'(x:Rat):x/0=0:=by simp[Rat.div_def]
theorem ofS_d0(s:Bool)(n:Nat):ofS s n 0=0:=by unfold ofS;simp
theorem cmp_made{x y:Rat}{z3:Int}(hz:sgQ x=sgQ y)(h0:sgQ x≠0)(h3:cmpN (x.num.natAbs*one0 (den0 y)) (y.num.natAbs*one0 (den0 x))=z3):sgQ (x-y)=sgQ x*z3:=by
  have hs:isN x=isN y:=by
    rw[Bool.eq_iff_iff,isN_iff,isN_iff, <-sgQ_neg, <-sgQ_neg,hz]
  rw[cmp_cross hs, <-h3];rw[one0_den0,one0_den0]
  have e1:sgQ x=if isN x then-1 else 1:=by
    unfold sgQ at h0⊢
    split
    . rename_i h;rw[if_pos h]at h0;exact absurd rfl h0
    rfl
  rw[e1]
  congr 1
  unfold cmpN
  split
  . rfl
  split
  . rw[if_neg (by omega)]
  rw[if_pos (by omega)]
theorem cmpN_rng{n m:Nat}{z:Int}(h:cmpN n m=z): -1<=z/\z<=1:=by rw[<-h];unfold cmpN;split<;>(try split)<;>omega
theorem sg_cases{x:Rat}{z:Int}(h:sgQ x=z):z=0\/z= -1\/z=1:=by rw[<-h];exact sgQ_range x
theorem quo_ints(a b:Int):ofS (decide (a<0) !=decide (b<0)) a.natAbs b.natAbs=(a:Rat)/(b:Rat):=by
  by_cases hb:b=0
  . subst hb;unfold ofS;simp[Rat.div_def]
  have h1:((a:Rat))=ofS (decide (a<0)) a.natAbs 1:=by rw[ofS_one,sgn_of]
  have h2:((b:Rat))=ofS (decide (b<0)) b.natAbs 1:=by rw[ofS_one,sgn_of]
  rw[h1,h2,ofS_quo _ _ (by omega) (by decide),Nat.mul_one,Nat.one_mul]
theorem int_of(a:Int):ofS (decide (a<0)) a.natAbs 1=(a:Rat):=by rw[ofS_one,sgn_of]
theorem RatV.zero(W:World):RatV W (.agg #[.bool false,.slice none 0 0,.slice none 0 0]) 0:=⟨_,_,_,_,_,_,rfl,NatV.zero W,NatV.zero W⟩
set_option maxRecDepth 100000 in
theorem reduced_any(v1:Value)(v2:Value)(s:Bool)(n:Nat)(d:Nat)(w:World)(h1:NatV w v1 n)(h2:NatV w v2 d)(hd0:d≠0)(l1:(digs B32 n).length<=50000)(l2:(digs B32 d).length<=50000):
    Calls Tryz.prog 107 #[.bool s,v1,v2] w fun e w'=> ∃y0,e=.returned y0/\RatV w' y0 (ofS s n d)/\Below w.heap.size w w':=by
  obtain⟨p_h1,l_h1,c_h1,rfl⟩:=h1.sl;obtain⟨p_h2,l_h2,c_h2,rfl⟩:=h2.sl;have hK:=SS.start w;have l3:(digs B32 (Nat.gcd n d)).length<=50000:=dlen_gcd n hd0 l2;refine Calls.hide (fun Q0 hQ0=>?_);go_enter Tryz.func107,Tryz.ntmps107;go_upto_region 0 with(fail);refine wp_region_T [3,3,3] hK ?_;clear hK;refine eA (.cells #[.slice p_h1 l_h1 c_h1] 41) (fun R1=>?_);refine eA (.cells #[.slice p_h2 l_h2 c_h2] 41) (fun R2=>?_);refine eA (.cells #[.bool false,.slice none 0 0,.slice none 0 0] 43) (fun R3=>?_);refine sxEnd (fun W4 hK=>?_);go_upto_region 1 with(fail);refine wp_region_T [1,1,0,1,1,0] hK ?_;clear hK;refine eL m2 ?_;obtain⟨b1,hb1⟩:=nmB (n==0);refine eQ (v:=.bool b1) (fun w k=>isZero_any _ _ w (h1.below k.old)) ?_ (hv:=by rw[hb1.out]);refine e0 ?_
  cases b1
  . --
   refine eL m1 ?_;obtain⟨b2,hb2⟩:=nmB (d==1);refine eQ (v:=.bool b2) (fun w k=>one_any _ _ w (h2.below k.old)) ?_ (hv:=by rw[hb2.out]);refine e0 ?_;refine sxEnd (fun W5 hK=>?_)
   cases b2
   . --
    go_upto_region 3 with(fail);refine wp_region_T [1,1,2,3,4] hK ?_;clear hK;refine eL m2 ?_;refine eL m1 ?_;refine eC (fun w k=>nat_S (gcd_q _ _ _ _ w (h1.below k.old) (h2.below k.old) (by omega) (by omega))) (fun x7=>?_);obtain⟨p6,l6,c6⟩:=x7;dsimp only;refine eA (.cells #[.slice none 0 0] 41) (fun R8=>?_);refine eP 0 0 [.slice p6 l6 c6] ?_;refine sxEnd (fun W9 hK=>?_);go_upto_region 4 with(fail);refine wp_region_T [1,1,0] hK ?_;clear hK;refine eL m0 ?_;obtain⟨b3,hb3⟩:=nmB ((Nat.gcd n d)==1);refine eQ (v:=.bool b3) (fun w k=>one_any _ _ w (k.nf m1)) ?_ (hv:=by rw[hb3.out]);refine e0 ?_;refine sxEnd (fun W10 hK=>?_)
    cases b3
    . --
     go_upto_region 5 with(fail);refine wp_region_T [1,1,2,0,0,0,0,4] hK ?_;clear hK;refine eL m4 ?_;refine eL m0 ?_;refine eC (fun w k=>nat2_S (dm_any _ _ _ _ w (h1.below k.old) (k.nf m1) (by omega) (by omega))) (fun x13=>?_);obtain⟨⟨p11,l11,c11⟩,⟨p12,l12,c12⟩⟩:=x13;dsimp only
     iterate 4 refine e0 ?_
     refine eP 6 0 [.slice p11 l11 c11] ?_;refine sxEnd (fun W14 hK=>?_);go_upto_region 6 with(fail);refine wp_region_T [1,1,2,0,0,0,0,4] hK ?_;clear hK;refine eL m5 ?_;refine eL m2 ?_;refine eC (fun w k=>nat2_S (dm_any _ _ _ _ w (h2.below k.old) (k.nf m3) (by omega) (by omega))) (fun x17=>?_);obtain⟨⟨p15,l15,c15⟩,⟨p16,l16,c16⟩⟩:=x17;dsimp only
     iterate 4 refine e0 ?_
     refine eP 7 0 [.slice p15 l15 c15] ?_;refine sxEnd (fun W18 hK=>?_);go_upto_region 7 with(fail);refine wp_region_T [1,1] hK ?_;clear hK;refine eL m7 ?_;obtain⟨b4,hb4⟩:=nmB ((d/(Nat.gcd n d))==1);refine eQ (v:=.bool b4) (fun w k=>one_any _ _ w (k.nf m0)) ?_ (hv:=by rw[hb4.out]);refine sxEnd (fun W19 hK=>?_)
     cases b4
     . --
      go_upto_region 9 with(fail);refine wp_region_T [0,1,1,0,4] hK ?_;clear hK;refine e0 ?_;refine eL m8 ?_;refine eL m7 ?_;refine e0 ?_;refine eP 6 0 [.bool s,.slice p11 l11 c11,.slice p15 l15 c15] ?_;refine sxEnd (fun W20 hK=>?_);have⟨c90,c91,c92⟩:=(hK.box m6).c3;go_wp2;exact bodyPost_ret (v:=.agg #[.bool s,.slice p11 l11 c11,.slice p15 l15 c15]) (by simp[results,Tryz.results107,go_sem,c90,c91,c92]) rfl (qo hQ0 ⟨_,rfl,(RatV.make hd0 (made_b s hb1.out) rfl (made_3 hb4.out) (hK.nf m2) (hK.nf m0)),hK.old⟩)
     go_upto_region 8 with(fail);refine wp_region_T [0,1,2,4] hK ?_;clear hK;refine e0 ?_;refine eL m8 ?_;refine eC (fun w k=>rat_S (whole_q _ s _ w (k.nf m2))) (fun x22=>?_);obtain⟨⟨p21,l21,c21⟩,⟨q21,u21,d21⟩⟩:=x22;dsimp only;refine eP 7 0 [.bool (isN (ofS s (n/(Nat.gcd n d)) 1)),.slice p21 l21 c21,.slice q21 u21 d21] ?_ (hq:=.inr ⟨rfl,rfl,rfl,rfl,rfl,rfl,rfl,rfl,rfl,trivial⟩);refine sxEnd (fun W23 hK=>?_);have⟨c90,c91,c92⟩:=(hK.box m7).c3;go_wp2;exact bodyPost_ret (v:=.agg #[.bool (isN (ofS s (n/(Nat.gcd n d)) 1)),.slice p21 l21 c21,.slice q21 u21 d21]) (by simp[results,Tryz.results107,go_sem,c90,c91,c92]) rfl (qo hQ0 ⟨_,rfl,((congrArg (RatV _ _) (ofS_g1 s hd0 hb4.out)).mp (hK.q m0)),hK.old⟩)
    go_upto_region 7 with(fail);refine wp_region_T [1,1] hK ?_;clear hK;refine eL m3 ?_;obtain⟨b4,hb4⟩:=nmB (d==1);refine eQ (v:=.bool b4) (fun w k=>one_any _ _ w (h2.below k.old)) ?_ (hv:=by rw[hb4.out]);refine sxEnd (fun W24 hK=>?_)
    cases b4
    . --
     go_upto_region 9 with(fail);refine wp_region_T [0,1,1,0,4] hK ?_;clear hK;refine e0 ?_;refine eL m4 ?_;refine eL m3 ?_;refine e0 ?_;refine eP 2 0 [.bool s,.slice p_h1 l_h1 c_h1,.slice p_h2 l_h2 c_h2] ?_;refine sxEnd (fun W25 hK=>?_);have⟨c90,c91,c92⟩:=(hK.box m2).c3;go_wp2;exact bodyPost_ret (v:=.agg #[.bool s,.slice p_h1 l_h1 c_h1,.slice p_h2 l_h2 c_h2]) (by simp[results,Tryz.results107,go_sem,c90,c91,c92]) rfl (qo hQ0 ⟨_,rfl,(RatV.make hd0 (made_b s hb1.out) (made_1 hb3.out) (made_2 hb3.out hb4.out) (h1.below hK.old) (h2.below hK.old)),hK.old⟩)
    go_upto_region 8 with(fail);refine wp_region_T [0,1,2,4] hK ?_;clear hK;refine e0 ?_;refine eL m4 ?_;refine eC (fun w k=>rat_S (whole_q _ s _ w (h1.below k.old))) (fun x27=>?_);obtain⟨⟨p26,l26,c26⟩,⟨q26,u26,d26⟩⟩:=x27;dsimp only;refine eP 3 0 [.bool (isN (ofS s n 1)),.slice p26 l26 c26,.slice q26 u26 d26] ?_ (hq:=.inr ⟨rfl,rfl,rfl,rfl,rfl,trivial⟩);refine sxEnd (fun W28 hK=>?_);have⟨c90,c91,c92⟩:=(hK.box m3).c3;go_wp2;exact bodyPost_ret (v:=.agg #[.bool (isN (ofS s n 1)),.slice p26 l26 c26,.slice q26 u26 d26]) (by simp[results,Tryz.results107,go_sem,c90,c91,c92]) rfl (qo hQ0 ⟨_,rfl,((congrArg (RatV _ _) (ofS_d1 s hb4.out)).mp (hK.q m0)),hK.old⟩)
   go_upto_region 2 with(fail);refine wp_region_T [0,1,2,4] hK ?_;clear hK;refine e0 ?_;refine eL m2 ?_;refine eC (fun w k=>rat_S (whole_q _ s _ w (h1.below k.old))) (fun x30=>?_);obtain⟨⟨p29,l29,c29⟩,⟨q29,u29,d29⟩⟩:=x30;dsimp only;refine eP 1 0 [.bool (isN (ofS s n 1)),.slice p29 l29 c29,.slice q29 u29 d29] ?_ (hq:=.inr ⟨rfl,rfl,rfl,trivial⟩);refine sxEnd (fun W31 hK=>?_);have⟨c90,c91,c92⟩:=(hK.box m1).c3;go_wp2;exact bodyPost_ret (v:=.agg #[.bool (isN (ofS s n 1)),.slice p29 l29 c29,.slice q29 u29 d29]) (by simp[results,Tryz.results107,go_sem,c90,c91,c92]) rfl (qo hQ0 ⟨_,rfl,((congrArg (RatV _ _) (ofS_d1 s hb2.out)).mp (hK.q m0)),hK.old⟩)
  iterate 2 refine eN ?_
  refine e0 ?_;refine sxEnd (fun W32 hK=>?_);go_upto_region 2 with(fail);refine wp_region_T [0,1,2,4] hK ?_;clear hK;refine e0 ?_;refine eL m2 ?_;refine eC (fun w k=>rat_S (whole_q _ s _ w (h1.below k.old))) (fun x34=>?_);obtain⟨⟨p33,l33,c33⟩,⟨q33,u33,d33⟩⟩:=x34;dsimp only;refine eP 1 0 [.bool (isN (ofS s n 1)),.slice p33 l33 c33,.slice q33 u33 d33] ?_ (hq:=.inr ⟨rfl,rfl,rfl,trivial⟩);refine sxEnd (fun W35 hK=>?_);have⟨c90,c91,c92⟩:=(hK.box m1).c3;go_wp2;exact bodyPost_ret (v:=.agg #[.bool (isN (ofS s n 1)),.slice p33 l33 c33,.slice q33 u33 d33]) (by simp[results,Tryz.results107,go_sem,c90,c91,c92]) rfl (qo hQ0 ⟨_,rfl,((congrArg (RatV _ _) (ofS_n0 s hb1.out)).mp (hK.q m0)),hK.old⟩)
set_option maxRecDepth 100000 in
theorem qint_any (n:Int)(w:World) (n0: -9223372036854775808<=n)(n1:n<=9223372036854775807):
    Calls Tryz.prog 21 #[.int .i64 n] w fun e w'=> ∃y0,e=.returned y0/\RatV w' y0 (((n:Int):Rat))/\Below w.heap.size w w':=by
  have hK:=SS.start w;refine Calls.hide (fun Q0 hQ0=>?_);go_enter Tryz.func21,Tryz.ntmps21;go_upto_region 0 with(fail);refine wp_region_T [3] hK ?_;clear hK;refine eA (.cells #[.bool false,.slice none 0 0,.slice none 0 0] 43) (fun R1=>?_);refine sxEnd (fun W2 hK=>?_);go_upto_region 1 with(fail);refine wp_region_T [0,2,0,0,0,3,4,0] hK ?_;clear hK;refine e0 ?_;obtain⟨b1,hb1⟩:=nmB (decide (n<0));refine eC (fun w k=>(by have q:=nat_S (magnitude_any n w (by omega) (by omega));rw[hb1.out]at q;exact q)) (fun x4=>?_);obtain⟨p3,l3,c3⟩:=x4;dsimp only
  iterate 3 refine e0 ?_
  refine eA (.cells #[.slice none 0 0] 41) (fun R5=>?_);refine eP 0 0 [.slice p3 l3 c3] ?_;refine e0 ?_;refine sxEnd (fun W6 hK=>?_);go_upto_region 2 with(fail);refine wp_region_T [0,1,2,4] hK ?_;clear hK;refine e0 ?_;refine eL m0 ?_;refine eC (fun w k=>rat_S (whole_q _ b1 _ w (k.nf m1))) (fun x8=>?_);obtain⟨⟨p7,l7,c7⟩,⟨q7,u7,d7⟩⟩:=x8;dsimp only;refine eP 3 0 [.bool (isN (ofS b1 n.natAbs 1)),.slice p7 l7 c7,.slice q7 u7 d7] ?_ (hq:=.inr ⟨rfl,rfl,rfl,trivial⟩);refine sxEnd (fun W9 hK=>?_);have⟨c90,c91,c92⟩:=(hK.box m3).c3;go_wp2;exact bodyPost_ret (v:=.agg #[.bool (isN (ofS b1 n.natAbs 1)),.slice p7 l7 c7,.slice q7 u7 d7]) (by simp[results,Tryz.results21,go_sem,c90,c91,c92]) rfl (qo hQ0 ⟨_,rfl,((congrArg (RatV _ _) (by rw[<-hb1.out];exact int_of n)).mp (hK.q m0)),hK.old⟩)
set_option maxRecDepth 100000 in
theorem qmake_any(v1:Value)(v2:Value)(s:Bool)(n:Nat)(d:Nat)(w:World)(h1:NatV w v1 n)(h2:NatV w v2 d)(l1:(digs B32 n).length<=50000)(l2:(digs B32 d).length<=50000):
    Calls Tryz.prog 99 #[.bool s,v1,v2] w fun e w'=> ∃y0,e=.returned (.tuple #[y0,.int .i64 (errD d)])/\RatV w' y0 (ofS s n d)/\Below w.heap.size w w':=by
  obtain⟨p_h1,l_h1,c_h1,rfl⟩:=h1.sl;obtain⟨p_h2,l_h2,c_h2,rfl⟩:=h2.sl;have hK:=SS.start w;refine Calls.hide (fun Q0 hQ0=>?_);go_enter Tryz.func99,Tryz.ntmps99;go_upto_region 0 with(fail);refine wp_region_T [3,3,3,0] hK ?_;clear hK;refine eA (.cells #[.slice p_h1 l_h1 c_h1] 41) (fun R1=>?_);refine eA (.cells #[.slice p_h2 l_h2 c_h2] 41) (fun R2=>?_);refine eA (.cells #[.bool false,.slice none 0 0,.slice none 0 0] 43) (fun R3=>?_);refine e0 ?_;refine sxEnd (fun W4 hK=>?_);go_upto_region 1 with(fail);refine wp_region_T [1,1] hK ?_;clear hK;refine eL m1 ?_;obtain⟨b1,hb1⟩:=nmB (d==0);refine eQ (v:=.bool b1) (fun w k=>isZero_any _ _ w (h2.below k.old)) ?_ (hv:=by rw[hb1.out]);refine sxEnd (fun W5 hK=>?_)
  cases b1
  . --
   go_upto_region 3 with(fail);refine wp_region_T [0,1,1,2,4,0] hK ?_;clear hK;refine e0 ?_;refine eL m2 ?_;refine eL m1 ?_;refine eC (fun w k=>rat_S (reduced_any _ _ s _ _ w (h1.below k.old) (h2.below k.old) (by have:=hb1.out;simp at this;exact this) (by omega) (by omega))) (fun x7=>?_);obtain⟨⟨p6,l6,c6⟩,⟨q6,u6,d6⟩⟩:=x7;dsimp only;refine eP 1 0 [.bool (isN (ofS s n d)),.slice p6 l6 c6,.slice q6 u6 d6] ?_ (hq:=.inr ⟨rfl,rfl,rfl,trivial⟩);refine e0 ?_;refine sxEnd (fun W8 hK=>?_);have⟨c90,c91,c92⟩:=(hK.box m1).c3;go_wp2;exact bodyPost_ret (v:=.tuple #[.agg #[.bool (isN (ofS s n d)),.slice p6 l6 c6,.slice q6 u6 d6],.int .i64 0]) (by simp[results,Tryz.results99,go_sem,c90,c91,c92]) rfl (qo hQ0 ⟨_,(by unfold errD;rw[if_neg (by have:=hb1.out;simp at this;exact this)]),(hK.q m0),hK.old⟩)
  go_upto_region 2 with(fail);refine wp_region_T [0,4,0] hK ?_;clear hK;refine e0 ?_;refine eP 0 0 [.bool false,.slice none 0 0,.slice none 0 0] ?_;refine e0 ?_;refine sxEnd (fun W9 hK=>?_);have⟨c90,c91,c92⟩:=(hK.box m0).c3;go_wp2;exact bodyPost_ret (v:=.tuple #[.agg #[.bool false,.slice none 0 0,.slice none 0 0],.int .i64 10]) (by simp[results,Tryz.results99,go_sem,c90,c91,c92]) rfl (qo hQ0 ⟨_,(by have q:d=0:=(by simpa using hb1.out);rw[q];rfl),(by have q:d=0:=(by simpa using hb1.out);rw[q,ofS_d0];exact RatV.zero _),hK.old⟩)
set_option maxRecDepth 100000 in
theorem qneg_any(v0:Value)(x:Rat)(w:World)(h0:RatV w v0 x):
    Calls Tryz.prog 75 #[v0] w fun e w'=> ∃y0,e=.returned y0/\RatV w' y0 (-x)/\Below w.heap.size w w':=by
  have h0_0:=h0;obtain⟨p_h0,l_h0,c_h0,q_h0,m_h0,d_h0,rfl,h0_1,h0_2⟩:=h0;have hK:=SS.start w;refine Calls.hide (fun Q0 hQ0=>?_);go_enter Tryz.func75,Tryz.ntmps75;go_upto_region 0 with(fail);refine wp_region_T [3,3] hK ?_;clear hK;refine eA (.cells #[.bool (isN x),.slice p_h0 l_h0 c_h0,.slice q_h0 m_h0 d_h0] 43) (fun R1=>?_);refine eA (.cells #[.bool false,.slice none 0 0,.slice none 0 0] 43) (fun R2=>?_);refine sxEnd (fun W3 hK=>?_);go_upto_region 1 with(fail);refine wp_region_T [1,1,0] hK ?_;clear hK;refine eL m1 ?_;obtain⟨z1,hz1⟩:=nmI (sgQ x);refine eQ (v:=.int .i64 z1) (fun w k=>sign_any _ _ w (h0_0.below k.old)) ?_ (hv:=by rw[hz1.out]);refine eB (z1==0) (fun b1 hb1=>?_);refine sxEnd (fun W4 hK=>?_)
  cases b1
  . --
   go_upto_region 3 with(fail);refine wp_region_T [0,1,0,0,1,0,1,0,4] hK ?_;clear hK;refine e0 ?_;refine eL m1 ?_
   iterate 2 refine e0 ?_
   refine eL m1 ?_;refine e0 ?_;refine eL m1 ?_;refine e0 ?_;refine eP 0 0 [.bool (!(isN x)),.slice p_h0 l_h0 c_h0,.slice q_h0 m_h0 d_h0] ?_;refine sxEnd (fun W5 hK=>?_);have⟨c90,c91,c92⟩:=(hK.box m0).c3;go_wp2;exact bodyPost_ret (v:=.agg #[.bool (!(isN x)),.slice p_h0 l_h0 c_h0,.slice q_h0 m_h0 d_h0]) (by simp[results,Tryz.results75,go_sem,c90,c91,c92]) rfl (by obtain rfl:=hQ0.out;exact⟨_,rfl,(RatV.negd (fun e=>by have q:=hb1.out;rw[<-hz1.out,sgQ_zero.2 e]at q;cases q) (h0_1.below hK.old) (h0_2.below hK.old)),hK.old⟩)
  go_upto_region 2 with(fail);refine wp_region_T [1,4] hK ?_;clear hK;refine eL m1 ?_;refine eP 0 0 [.bool (isN x),.slice p_h0 l_h0 c_h0,.slice q_h0 m_h0 d_h0] ?_;refine sxEnd (fun W6 hK=>?_);have⟨c90,c91,c92⟩:=(hK.box m0).c3;go_wp2;exact bodyPost_ret (v:=.agg #[.bool (isN x),.slice p_h0 l_h0 c_h0,.slice q_h0 m_h0 d_h0]) (by simp[results,Tryz.results75,go_sem,c90,c91,c92]) rfl (by obtain rfl:=hQ0.out;exact⟨_,rfl,((congrArg (RatV _ _) (by rw[(sgQ_zero.1 (hz1.out.trans (by simpa using hb1.out)))];rfl)).mp (h0_0.below hK.old)),hK.old⟩)
set_option maxRecDepth 100000 in
theorem qadd_any(v0:Value)(v1:Value)(x:Rat)(y:Rat)(w:World)(h0:RatV w v0 x)(h1:RatV w v1 y) {k:Nat}(hx:LmQ k x)(hy:LmQ k y)(hk:k<=10000):
    Calls Tryz.prog 67 #[v0,v1] w fun e w'=> ∃y0,e=.returned y0/\RatV w' y0 (x+y)/\Below w.heap.size w w':=by
  have h0_0:=h0;obtain⟨p_h0,l_h0,c_h0,q_h0,m_h0,d_h0,rfl,h0_1,h0_2⟩:=h0;have h1_0:=h1;obtain⟨p_h1,l_h1,c_h1,q_h1,m_h1,d_h1,rfl,h1_1,h1_2⟩:=h1;have hK:=SS.start w;have e1:=hx.n.len;have e2:=hy.n.len;have e3:=hx.d0.len;have e4:=hy.d0.len;have e5:(digs B32 (x.num.natAbs*one0 (den0 y))).length<=k+k:=by rw[one0_den0];exact(hx.n.mul hy.d).len
  have e6:(digs B32 (y.num.natAbs*one0 (den0 x))).length<=k+k:=by rw[one0_den0];exact(hy.n.mul hx.d).len
  have e8:(digs B32 (x.den*one0 (den0 y))).length<=k+k:=by rw[one0_den0];exact(hx.d.mul hy.d).len
  have e9:x.den*one0 (den0 y)≠0:=by rw[one0_den0];exact Nat.mul_ne_zero x.den_nz y.den_nz
  have e7:(digs B32 (sgnd (isN x) (x.num.natAbs*one0 (den0 y)) (isN y) (y.num.natAbs*one0 (den0 x))).2).length<=k+k+1:=Lm.len (sgnd_lm (by rw[one0_den0];exact hx.n.mul hy.d) (by rw[one0_den0];exact hy.n.mul hx.d));have e12:(digs B32 (x.num.natAbs*y.num.natAbs)).length<=k+k:=(hx.n.mul hy.n).len;have e10:=hx.d.len;have e11:=hy.d.len;refine Calls.hide (fun Q0 hQ0=>?_);go_enter Tryz.func67,Tryz.ntmps67;go_upto_region 0 with(fail);refine wp_region_T [3,3,3] hK ?_;clear hK;refine eA (.cells #[.bool (isN x),.slice p_h0 l_h0 c_h0,.slice q_h0 m_h0 d_h0] 43) (fun R1=>?_);refine eA (.cells #[.bool (isN y),.slice p_h1 l_h1 c_h1,.slice q_h1 m_h1 d_h1] 43) (fun R2=>?_);refine eA (.cells #[.bool false,.slice none 0 0,.slice none 0 0] 43) (fun R3=>?_);refine sxEnd (fun W4 hK=>?_);go_upto_region 1 with(fail);refine wp_region_T [1,1,0] hK ?_;clear hK;refine eL m2 ?_;obtain⟨z1,hz1⟩:=nmI (sgQ x);refine eQ (v:=.int .i64 z1) (fun w k=>sign_any _ _ w (h0_0.below k.old)) ?_ (hv:=by rw[hz1.out]);refine eB (z1==0) (fun b1 hb1=>?_);refine sxEnd (fun W5 hK=>?_)
  cases b1
  . --
   go_upto_region 3 with(fail);refine wp_region_T [1,1,0] hK ?_;clear hK;refine eL m1 ?_;obtain⟨z2,hz2⟩:=nmI (sgQ y);refine eQ (v:=.int .i64 z2) (fun w k=>sign_any _ _ w (h1_0.below k.old)) ?_ (hv:=by rw[hz2.out]);refine eB (z2==0) (fun b2 hb2=>?_);refine sxEnd (fun W6 hK=>?_)
   cases b2
   . --
    go_upto_region 5 with(fail);refine wp_region_S _ [0,0,0,0,0,0,2,0,0,0,0,0,0,2,2,0,0,0,3,0,4] hK ?_ (sR);clear hK;refine e0 ?_;refine eL0 m2 ?_;refine e0 ?_;refine eL0 m2 ?_;refine e0 ?_;refine eL0 m1 ?_;refine eC (fun w k=>nat_S (qtimes_any _ _ _ _ w (h0_1.below k.old) (h1_2.below k.old) (by omega))) (fun x8=>?_);obtain⟨p7,l7,c7⟩:=x8;dsimp only;refine e0 ?_;refine eL0 m1 ?_;refine e0 ?_;refine eL0 m1 ?_;refine e0 ?_;refine eL0 m2 ?_;refine eC (fun w k=>nat_S (qtimes_any _ _ _ _ w (h1_1.below k.old) (h0_2.below k.old) (by omega))) (fun x10=>?_);obtain⟨p9,l9,c9⟩:=x10;dsimp only;obtain⟨b3,hb3⟩:=nmB ((sgnd (isN x) (x.num.natAbs*one0 (den0 y)) (isN y) (y.num.natAbs*one0 (den0 x))).1);refine eC (fun w k=>(by have q:=nat_S (signed_any _ _ (isN x) _ (isN y) _ w (k.nf m1) (k.nf m0) (by omega) (by omega));rw[hb3.out]at q;exact q)) (fun x12=>?_);obtain⟨p11,l11,c11⟩:=x12;dsimp only
    iterate 3 refine e0 ?_
    refine eA (.cells #[.slice none 0 0] 41) (fun R13=>?_);refine e0 ?_;refine eP 0 0 [.slice p11 l11 c11] ?_ (hs:=(sC2 (sC2 (sC2 (sC2 (sR))))));refine sxEnd (fun W14 hK=>?_);go_upto_region 6 with(fail);refine wp_region_T [0,1,1,0,0,1,1,0] hK ?_;clear hK;refine e0 ?_;refine eL m6 ?_;obtain⟨b4,hb4⟩:=nmB ((den0 x)==0);refine eQ (v:=.bool b4) (fun w k=>isZero_any _ _ w (h0_2.below k.old)) ?_ (hv:=by rw[hb4.out]);refine e0 ?_
    cases b4
    . --
     iterate 3 refine eN ?_
     refine e0 ?_;refine sxEnd (fun W15 hK=>?_);go_upto_region 8 with(fail);refine wp_region_S _ [0,0,0,2,0,0,2,2,4] hK ?_ (sK2 (sK2 (sK2 (sK2 (sC2 (sR))))));clear hK;refine e0 ?_;refine eL0 m0 ?_;refine eL0 m5 ?_;refine eC (fun w k=>nat_S (den_any _ _ w (h0_0.below k.old))) (fun x17=>?_);obtain⟨p16,l16,c16⟩:=x17;dsimp only;refine e0 ?_;refine eL0 m4 ?_;refine eC (fun w k=>nat_S (qtimes_any _ _ _ _ w (k.nf m0) (h1_2.below k.old) (by omega))) (fun x19=>?_);obtain⟨p18,l18,c18⟩:=x19;dsimp only;refine eC (fun w k=>rat_S (reduced_any _ _ b3 _ _ w (k.nf m3) (k.nf m0) (by omega) (by omega) (by omega))) (fun x21=>?_);obtain⟨⟨p20,l20,c20⟩,⟨q20,u20,d20⟩⟩:=x21;dsimp only;refine eP 7 0 [.bool (isN (ofS b3 ((sgnd (isN x) (x.num.natAbs*one0 (den0 y)) (isN y) (y.num.natAbs*one0 (den0 x))).2) (x.den*one0 (den0 y)))),.slice p20 l20 c20,.slice q20 u20 d20] ?_ (hs:=(sC2 (sC2 (sC2 (sK2 (sK2 (sK2 (sK2 (sC2 (sR)))))))))) (hq:=.inr ⟨rfl,rfl,rfl,rfl,rfl,rfl,rfl,rfl,rfl,trivial⟩);refine sxEnd (fun W22 hK=>?_);have⟨c90,c91,c92⟩:=(hK.box m7).c3;go_wp2;exact bodyPost_ret (v:=.agg #[.bool (isN (ofS b3 ((sgnd (isN x) (x.num.natAbs*one0 (den0 y)) (isN y) (y.num.natAbs*one0 (den0 x))).2) (x.den*one0 (den0 y)))),.slice p20 l20 c20,.slice q20 u20 d20]) (by simp[results,Tryz.results67,go_sem,c90,c91,c92]) rfl (qo hQ0 ⟨_,rfl,((congrArg (RatV _ _) (add_made x y hb3.out)).mp (hK.q m0)),hK.old⟩)
    refine e0 ?_;refine eL m5 ?_;obtain⟨b5,hb5⟩:=nmB ((den0 y)==0);refine eQ (v:=.bool b5) (fun w k=>isZero_any _ _ w (h1_2.below k.old)) ?_ (hv:=by rw[hb5.out]);refine e0 ?_;refine sxEnd (fun W23 hK=>?_)
    cases b5
    . --
     go_upto_region 8 with(fail);refine wp_region_S _ [0,0,0,2,0,0,2,2,4] hK ?_ (sK2 (sK2 (sK2 (sK2 (sC2 (sR))))));clear hK;refine e0 ?_;refine eL0 m0 ?_;refine eL0 m5 ?_;refine eC (fun w k=>nat_S (den_any _ _ w (h0_0.below k.old))) (fun x25=>?_);obtain⟨p24,l24,c24⟩:=x25;dsimp only;refine e0 ?_;refine eL0 m4 ?_;refine eC (fun w k=>nat_S (qtimes_any _ _ _ _ w (k.nf m0) (h1_2.below k.old) (by omega))) (fun x27=>?_);obtain⟨p26,l26,c26⟩:=x27;dsimp only;refine eC (fun w k=>rat_S (reduced_any _ _ b3 _ _ w (k.nf m3) (k.nf m0) (by omega) (by omega) (by omega))) (fun x29=>?_);obtain⟨⟨p28,l28,c28⟩,⟨q28,u28,d28⟩⟩:=x29;dsimp only;refine eP 7 0 [.bool (isN (ofS b3 ((sgnd (isN x) (x.num.natAbs*one0 (den0 y)) (isN y) (y.num.natAbs*one0 (den0 x))).2) (x.den*one0 (den0 y)))),.slice p28 l28 c28,.slice q28 u28 d28] ?_ (hs:=(sC2 (sC2 (sC2 (sK2 (sK2 (sK2 (sK2 (sC2 (sR)))))))))) (hq:=.inr ⟨rfl,rfl,rfl,rfl,rfl,rfl,rfl,rfl,rfl,trivial⟩);refine sxEnd (fun W30 hK=>?_);have⟨c90,c91,c92⟩:=(hK.box m7).c3;go_wp2;exact bodyPost_ret (v:=.agg #[.bool (isN (ofS b3 ((sgnd (isN x) (x.num.natAbs*one0 (den0 y)) (isN y) (y.num.natAbs*one0 (den0 x))).2) (x.den*one0 (den0 y)))),.slice p28 l28 c28,.slice q28 u28 d28]) (by simp[results,Tryz.results67,go_sem,c90,c91,c92]) rfl (qo hQ0 ⟨_,rfl,((congrArg (RatV _ _) (add_made x y hb3.out)).mp (hK.q m0)),hK.old⟩)
    go_upto_region 7 with(fail);refine wp_region_T [0,1,2,4] hK ?_;clear hK;refine e0 ?_;refine eL m0 ?_;refine eC (fun w k=>rat_S (whole_q _ b3 _ w (k.nf m1))) (fun x32=>?_);obtain⟨⟨p31,l31,c31⟩,⟨q31,u31,d31⟩⟩:=x32;dsimp only;refine eP 5 0 [.bool (isN (ofS b3 ((sgnd (isN x) (x.num.natAbs*one0 (den0 y)) (isN y) (y.num.natAbs*one0 (den0 x))).2) 1)),.slice p31 l31 c31,.slice q31 u31 d31] ?_ (hq:=.inr ⟨rfl,rfl,rfl,rfl,rfl,rfl,rfl,trivial⟩);refine sxEnd (fun W33 hK=>?_);have⟨c90,c91,c92⟩:=(hK.box m5).c3;go_wp2;exact bodyPost_ret (v:=.agg #[.bool (isN (ofS b3 ((sgnd (isN x) (x.num.natAbs*one0 (den0 y)) (isN y) (y.num.natAbs*one0 (den0 x))).2) 1)),.slice p31 l31 c31,.slice q31 u31 d31]) (by simp[results,Tryz.results67,go_sem,c90,c91,c92]) rfl (qo hQ0 ⟨_,rfl,((congrArg (RatV _ _) (add_whole x y hb3.out hb4.out hb5.out)).mp (hK.q m0)),hK.old⟩)
   go_upto_region 4 with(fail);refine wp_region_T [1,4] hK ?_;clear hK;refine eL m2 ?_;refine eP 0 0 [.bool (isN x),.slice p_h0 l_h0 c_h0,.slice q_h0 m_h0 d_h0] ?_;refine sxEnd (fun W34 hK=>?_);have⟨c90,c91,c92⟩:=(hK.box m0).c3;go_wp2;exact bodyPost_ret (v:=.agg #[.bool (isN x),.slice p_h0 l_h0 c_h0,.slice q_h0 m_h0 d_h0]) (by simp[results,Tryz.results67,go_sem,c90,c91,c92]) rfl (qo hQ0 ⟨_,rfl,((congrArg (RatV _ _) (by rw[(sgQ_zero.1 (hz2.out.trans (by simpa using hb2.out))),Rat.add_zero])).mp (h0_0.below hK.old)),hK.old⟩)
  go_upto_region 2 with(fail);refine wp_region_T [1,4] hK ?_;clear hK;refine eL m1 ?_;refine eP 0 0 [.bool (isN y),.slice p_h1 l_h1 c_h1,.slice q_h1 m_h1 d_h1] ?_;refine sxEnd (fun W35 hK=>?_);have⟨c90,c91,c92⟩:=(hK.box m0).c3;go_wp2;exact bodyPost_ret (v:=.agg #[.bool (isN y),.slice p_h1 l_h1 c_h1,.slice q_h1 m_h1 d_h1]) (by simp[results,Tryz.results67,go_sem,c90,c91,c92]) rfl (qo hQ0 ⟨_,rfl,((congrArg (RatV _ _) (by rw[(sgQ_zero.1 (hz1.out.trans (by simpa using hb1.out))),Rat.zero_add])).mp (h1_0.below hK.old)),hK.old⟩)
set_option maxRecDepth 100000 in
theorem qsub_any(v0:Value)(v1:Value)(x:Rat)(y:Rat)(w:World)(h0:RatV w v0 x)(h1:RatV w v1 y) {k:Nat}(hx:LmQ k x)(hy:LmQ k y)(hk:k<=10000):
    Calls Tryz.prog 61 #[v0,v1] w fun e w'=> ∃y0,e=.returned y0/\RatV w' y0 (x-y)/\Below w.heap.size w w':=by
  have h0_0:=h0;obtain⟨p_h0,l_h0,c_h0,q_h0,m_h0,d_h0,rfl,h0_1,h0_2⟩:=h0;have h1_0:=h1;obtain⟨p_h1,l_h1,c_h1,q_h1,m_h1,d_h1,rfl,h1_1,h1_2⟩:=h1;have hK:=SS.start w;refine Calls.hide (fun Q0 hQ0=>?_);go_enter Tryz.func61,Tryz.ntmps61;go_upto_region 0 with(fail);refine wp_region_T [3,3,3] hK ?_;clear hK;refine eA (.cells #[.bool (isN x),.slice p_h0 l_h0 c_h0,.slice q_h0 m_h0 d_h0] 43) (fun R1=>?_);refine eA (.cells #[.bool (isN y),.slice p_h1 l_h1 c_h1,.slice q_h1 m_h1 d_h1] 43) (fun R2=>?_);refine eA (.cells #[.bool false,.slice none 0 0,.slice none 0 0] 43) (fun R3=>?_);refine sxEnd (fun W4 hK=>?_);go_upto_region 1 with(fail);refine wp_region_S _ [0,0,2,2,4] hK ?_ (sC2 (sR));clear hK;refine eL0 m1 ?_;refine eL0 m0 ?_;refine eC (fun w k=>rat_S (qneg_any _ _ w (h1_0.below k.old))) (fun x6=>?_);obtain⟨⟨p5,l5,c5⟩,⟨q5,u5,d5⟩⟩:=x6;dsimp only;refine eC (fun w k=>rat_S (qadd_any _ _ _ _ w (h0_0.below k.old) (k.q m0) hx hy.neg hk)) (fun x8=>?_);obtain⟨⟨p7,l7,c7⟩,⟨q7,u7,d7⟩⟩:=x8;dsimp only;refine eP 2 0 [.bool (isN (x+(-y))),.slice p7 l7 c7,.slice q7 u7 d7] ?_ (hs:=(sC2 (sC2 (sC2 (sR))))) (hq:=.inr ⟨rfl,rfl,rfl,rfl,trivial⟩);refine sxEnd (fun W9 hK=>?_);have⟨c90,c91,c92⟩:=(hK.box m2).c3;go_wp2;exact bodyPost_ret (v:=.agg #[.bool (isN (x+(-y))),.slice p7 l7 c7,.slice q7 u7 d7]) (by simp[results,Tryz.results61,go_sem,c90,c91,c92]) rfl (qo hQ0 ⟨_,rfl,((congrArg (RatV _ _) (Rat.sub_eq_add_neg x y).symm).mp (hK.q m0)),hK.old⟩)
set_option maxRecDepth 100000 in
theorem qmul_any(v0:Value)(v1:Value)(x:Rat)(y:Rat)(w:World)(h0:RatV w v0 x)(h1:RatV w v1 y) {k:Nat}(hx:LmQ k x)(hy:LmQ k y)(hk:k<=10000):
    Calls Tryz.prog 68 #[v0,v1] w fun e w'=> ∃y0,e=.returned y0/\RatV w' y0 (x*y)/\Below w.heap.size w w':=by
  have h0_0:=h0;obtain⟨p_h0,l_h0,c_h0,q_h0,m_h0,d_h0,rfl,h0_1,h0_2⟩:=h0;have h1_0:=h1;obtain⟨p_h1,l_h1,c_h1,q_h1,m_h1,d_h1,rfl,h1_1,h1_2⟩:=h1;have hK:=SS.start w;have e1:=hx.n.len;have e2:=hy.n.len;have e3:=hx.d0.len;have e4:=hy.d0.len;have e5:(digs B32 (x.num.natAbs*one0 (den0 y))).length<=k+k:=by rw[one0_den0];exact(hx.n.mul hy.d).len
  have e6:(digs B32 (y.num.natAbs*one0 (den0 x))).length<=k+k:=by rw[one0_den0];exact(hy.n.mul hx.d).len
  have e8:(digs B32 (x.den*one0 (den0 y))).length<=k+k:=by rw[one0_den0];exact(hx.d.mul hy.d).len
  have e9:x.den*one0 (den0 y)≠0:=by rw[one0_den0];exact Nat.mul_ne_zero x.den_nz y.den_nz
  have e7:(digs B32 (sgnd (isN x) (x.num.natAbs*one0 (den0 y)) (isN y) (y.num.natAbs*one0 (den0 x))).2).length<=k+k+1:=Lm.len (sgnd_lm (by rw[one0_den0];exact hx.n.mul hy.d) (by rw[one0_den0];exact hy.n.mul hx.d));have e12:(digs B32 (x.num.natAbs*y.num.natAbs)).length<=k+k:=(hx.n.mul hy.n).len;have e10:=hx.d.len;have e11:=hy.d.len;refine Calls.hide (fun Q0 hQ0=>?_);go_enter Tryz.func68,Tryz.ntmps68;go_upto_region 0 with(fail);refine wp_region_T [3,3,3] hK ?_;clear hK;refine eA (.cells #[.bool (isN x),.slice p_h0 l_h0 c_h0,.slice q_h0 m_h0 d_h0] 43) (fun R1=>?_);refine eA (.cells #[.bool (isN y),.slice p_h1 l_h1 c_h1,.slice q_h1 m_h1 d_h1] 43) (fun R2=>?_);refine eA (.cells #[.bool false,.slice none 0 0,.slice none 0 0] 43) (fun R3=>?_);refine sxEnd (fun W4 hK=>?_);go_upto_region 1 with(fail);refine wp_region_T [0,1,0,1,2,3,4] hK ?_;clear hK;refine e0 ?_;refine eL m2 ?_;refine e0 ?_;refine eL m1 ?_;refine eC (fun w k=>nat_S (mul_any _ _ _ _ w (h0_1.below k.old) (h1_1.below k.old) (by omega))) (fun x6=>?_);obtain⟨p5,l5,c5⟩:=x6;dsimp only;refine eA (.cells #[.slice none 0 0] 41) (fun R7=>?_);refine eP 0 0 [.slice p5 l5 c5] ?_;refine sxEnd (fun W8 hK=>?_);go_upto_region 2 with(fail);refine wp_region_T [0,1,1,0,0,1,1,0] hK ?_;clear hK;refine e0 ?_;refine eL m4 ?_;obtain⟨b1,hb1⟩:=nmB ((den0 x)==0);refine eQ (v:=.bool b1) (fun w k=>isZero_any _ _ w (h0_2.below k.old)) ?_ (hv:=by rw[hb1.out]);refine e0 ?_
  cases b1
  . --
   iterate 3 refine eN ?_
   refine e0 ?_;refine sxEnd (fun W9 hK=>?_);go_upto_region 4 with(fail);refine wp_region_S _ [0,0,0,0,0,0,0,2,0,0,2,2,4] hK ?_ (sK2 (sK2 (sC2 (sR))));clear hK;refine e0 ?_;refine eL0 m3 ?_;refine e0 ?_;refine eL0 m2 ?_;refine e0 ?_;refine eL0 m0 ?_;refine eL0 m3 ?_;refine eC (fun w k=>nat_S (den_any _ _ w (h0_0.below k.old))) (fun x11=>?_);obtain⟨p10,l10,c10⟩:=x11;dsimp only;refine e0 ?_;refine eL0 m2 ?_;refine eC (fun w k=>nat_S (qtimes_any _ _ _ _ w (k.nf m0) (h1_2.below k.old) (by omega))) (fun x13=>?_);obtain⟨p12,l12,c12⟩:=x13;dsimp only;refine eC (fun w k=>rat_S (reduced_any _ _ (((isN x)) !=((isN y))) _ _ w (k.nf m3) (k.nf m0) (by omega) (by omega) (by omega))) (fun x15=>?_);obtain⟨⟨p14,l14,c14⟩,⟨q14,u14,d14⟩⟩:=x15;dsimp only;refine eP 5 0 [.bool (isN (ofS (((isN x)) !=((isN y))) (x.num.natAbs*y.num.natAbs) (x.den*one0 (den0 y)))),.slice p14 l14 c14,.slice q14 u14 d14] ?_ (hs:=(sC2 (sC2 (sC2 (sK2 (sK2 (sC2 (sR)))))))) (hq:=.inr ⟨rfl,rfl,rfl,rfl,rfl,rfl,rfl,trivial⟩);refine sxEnd (fun W16 hK=>?_);have⟨c90,c91,c92⟩:=(hK.box m5).c3;go_wp2;exact bodyPost_ret (v:=.agg #[.bool (isN (ofS (((isN x)) !=((isN y))) (x.num.natAbs*y.num.natAbs) (x.den*one0 (den0 y)))),.slice p14 l14 c14,.slice q14 u14 d14]) (by simp[results,Tryz.results68,go_sem,c90,c91,c92]) rfl (qo hQ0 ⟨_,rfl,((congrArg (RatV _ _) (mul_made x y)).mp (hK.q m0)),hK.old⟩)
  refine e0 ?_;refine eL m3 ?_;obtain⟨b2,hb2⟩:=nmB ((den0 y)==0);refine eQ (v:=.bool b2) (fun w k=>isZero_any _ _ w (h1_2.below k.old)) ?_ (hv:=by rw[hb2.out]);refine e0 ?_;refine sxEnd (fun W17 hK=>?_)
  cases b2
  . --
   go_upto_region 4 with(fail);refine wp_region_S _ [0,0,0,0,0,0,0,2,0,0,2,2,4] hK ?_ (sK2 (sK2 (sC2 (sR))));clear hK;refine e0 ?_;refine eL0 m3 ?_;refine e0 ?_;refine eL0 m2 ?_;refine e0 ?_;refine eL0 m0 ?_;refine eL0 m3 ?_;refine eC (fun w k=>nat_S (den_any _ _ w (h0_0.below k.old))) (fun x19=>?_);obtain⟨p18,l18,c18⟩:=x19;dsimp only;refine e0 ?_;refine eL0 m2 ?_;refine eC (fun w k=>nat_S (qtimes_any _ _ _ _ w (k.nf m0) (h1_2.below k.old) (by omega))) (fun x21=>?_);obtain⟨p20,l20,c20⟩:=x21;dsimp only;refine eC (fun w k=>rat_S (reduced_any _ _ (((isN x)) !=((isN y))) _ _ w (k.nf m3) (k.nf m0) (by omega) (by omega) (by omega))) (fun x23=>?_);obtain⟨⟨p22,l22,c22⟩,⟨q22,u22,d22⟩⟩:=x23;dsimp only;refine eP 5 0 [.bool (isN (ofS (((isN x)) !=((isN y))) (x.num.natAbs*y.num.natAbs) (x.den*one0 (den0 y)))),.slice p22 l22 c22,.slice q22 u22 d22] ?_ (hs:=(sC2 (sC2 (sC2 (sK2 (sK2 (sC2 (sR)))))))) (hq:=.inr ⟨rfl,rfl,rfl,rfl,rfl,rfl,rfl,trivial⟩);refine sxEnd (fun W24 hK=>?_);have⟨c90,c91,c92⟩:=(hK.box m5).c3;go_wp2;exact bodyPost_ret (v:=.agg #[.bool (isN (ofS (((isN x)) !=((isN y))) (x.num.natAbs*y.num.natAbs) (x.den*one0 (den0 y)))),.slice p22 l22 c22,.slice q22 u22 d22]) (by simp[results,Tryz.results68,go_sem,c90,c91,c92]) rfl (qo hQ0 ⟨_,rfl,((congrArg (RatV _ _) (mul_made x y)).mp (hK.q m0)),hK.old⟩)
  go_upto_region 3 with(fail);refine wp_region_T [0,1,0,1,0,1,2,4] hK ?_;clear hK;refine e0 ?_;refine eL m4 ?_;refine e0 ?_;refine eL m3 ?_;refine e0 ?_;refine eL m0 ?_;refine eC (fun w k=>rat_S (whole_q _ (((isN x)) !=((isN y))) _ w (k.nf m1))) (fun x26=>?_);obtain⟨⟨p25,l25,c25⟩,⟨q25,u25,d25⟩⟩:=x26;dsimp only;refine eP 3 0 [.bool (isN (ofS (((isN x)) !=((isN y))) (x.num.natAbs*y.num.natAbs) 1)),.slice p25 l25 c25,.slice q25 u25 d25] ?_ (hq:=.inr ⟨rfl,rfl,rfl,rfl,rfl,trivial⟩);refine sxEnd (fun W27 hK=>?_);have⟨c90,c91,c92⟩:=(hK.box m3).c3;go_wp2;exact bodyPost_ret (v:=.agg #[.bool (isN (ofS (((isN x)) !=((isN y))) (x.num.natAbs*y.num.natAbs) 1)),.slice p25 l25 c25,.slice q25 u25 d25]) (by simp[results,Tryz.results68,go_sem,c90,c91,c92]) rfl (qo hQ0 ⟨_,rfl,((congrArg (RatV _ _) (mul_whole x y hb1.out hb2.out)).mp (hK.q m0)),hK.old⟩)
set_option maxRecDepth 100000 in
theorem qdiv_any(v0:Value)(v1:Value)(x:Rat)(y:Rat)(w:World)(h0:RatV w v0 x)(h1:RatV w v1 y) {k:Nat}(hx:LmQ k x)(hy:LmQ k y)(hk:k<=10000):
    Calls Tryz.prog 110 #[v0,v1] w fun e w'=> ∃y0,e=.returned (.tuple #[y0,.int .i64 (if y=0 then 10 else 0)])/\RatV w' y0 (x/y)/\Below w.heap.size w w':=by
  have h0_0:=h0;obtain⟨p_h0,l_h0,c_h0,q_h0,m_h0,d_h0,rfl,h0_1,h0_2⟩:=h0;have h1_0:=h1;obtain⟨p_h1,l_h1,c_h1,q_h1,m_h1,d_h1,rfl,h1_1,h1_2⟩:=h1;have hK:=SS.start w;have e1:=hx.n.len;have e2:=hy.n.len;have e3:=hx.d0.len;have e4:=hy.d0.len;have e5:(digs B32 (x.num.natAbs*one0 (den0 y))).length<=k+k:=by rw[one0_den0];exact(hx.n.mul hy.d).len
  have e6:(digs B32 (y.num.natAbs*one0 (den0 x))).length<=k+k:=by rw[one0_den0];exact(hy.n.mul hx.d).len
  have e8:(digs B32 (x.den*one0 (den0 y))).length<=k+k:=by rw[one0_den0];exact(hx.d.mul hy.d).len
  have e9:x.den*one0 (den0 y)≠0:=by rw[one0_den0];exact Nat.mul_ne_zero x.den_nz y.den_nz
  have e7:(digs B32 (sgnd (isN x) (x.num.natAbs*one0 (den0 y)) (isN y) (y.num.natAbs*one0 (den0 x))).2).length<=k+k+1:=Lm.len (sgnd_lm (by rw[one0_den0];exact hx.n.mul hy.d) (by rw[one0_den0];exact hy.n.mul hx.d));have e12:(digs B32 (x.num.natAbs*y.num.natAbs)).length<=k+k:=(hx.n.mul hy.n).len;have e10:=hx.d.len;have e11:=hy.d.len;refine Calls.hide (fun Q0 hQ0=>?_);go_enter Tryz.func110,Tryz.ntmps110;go_upto_region 0 with(fail);refine wp_region_T [3,3,3,0] hK ?_;clear hK;refine eA (.cells #[.bool (isN x),.slice p_h0 l_h0 c_h0,.slice q_h0 m_h0 d_h0] 43) (fun R1=>?_);refine eA (.cells #[.bool (isN y),.slice p_h1 l_h1 c_h1,.slice q_h1 m_h1 d_h1] 43) (fun R2=>?_);refine eA (.cells #[.bool false,.slice none 0 0,.slice none 0 0] 43) (fun R3=>?_);refine e0 ?_;refine sxEnd (fun W4 hK=>?_);go_upto_region 1 with(fail);refine wp_region_T [1,1,0] hK ?_;clear hK;refine eL m1 ?_;obtain⟨z1,hz1⟩:=nmI (sgQ y);refine eQ (v:=.int .i64 z1) (fun w k=>sign_any _ _ w (h1_0.below k.old)) ?_ (hv:=by rw[hz1.out]);refine eB (z1==0) (fun b1 hb1=>?_);refine sxEnd (fun W5 hK=>?_)
  cases b1
  . --
   go_upto_region 3 with(fail);refine wp_region_S _ [0,0,0,0,0,0,0,0,0,2,0,0,0,0,2,2,4,0] hK ?_ (sC2 (sR));clear hK;refine e0 ?_;refine eL0 m1 ?_;refine e0 ?_;refine eL0 m0 ?_
   iterate 2 refine e0 ?_
   refine eL0 m1 ?_;refine e0 ?_;refine eL0 m0 ?_;refine eC (fun w k=>nat_S (qtimes_any _ _ _ _ w (h0_1.below k.old) (h1_2.below k.old) (by omega))) (fun x7=>?_);obtain⟨p6,l6,c6⟩:=x7;dsimp only;refine e0 ?_;refine eL0 m0 ?_;refine e0 ?_;refine eL0 m1 ?_;refine eC (fun w k=>nat_S (qtimes_any _ _ _ _ w (h1_1.below k.old) (h0_2.below k.old) (by omega))) (fun x9=>?_);obtain⟨p8,l8,c8⟩:=x9;dsimp only;refine eC (fun w k=>rat_S (reduced_any _ _ (((isN x)) !=((isN y))) _ _ w (k.nf m1) (k.nf m0) (Nat.mul_ne_zero (fun e=>absurd ((natAbs_zero y).1 e) (fun e=>by have q:=hb1.out;rw[<-hz1.out,sgQ_zero.2 e]at q;cases q)) (by rw[one0_den0];exact x.den_nz)) (by omega) (by omega))) (fun x11=>?_);obtain⟨⟨p10,l10,c10⟩,⟨q10,u10,d10⟩⟩:=x11;dsimp only;refine eP 3 0 [.bool (isN (ofS (((isN x)) !=((isN y))) (x.num.natAbs*one0 (den0 y)) (y.num.natAbs*one0 (den0 x)))),.slice p10 l10 c10,.slice q10 u10 d10] ?_ (hs:=(sC2 (sC2 (sC2 (sC2 (sR)))))) (hq:=.inr ⟨rfl,rfl,rfl,rfl,rfl,trivial⟩);refine e0 ?_;refine sxEnd (fun W12 hK=>?_);have⟨c90,c91,c92⟩:=(hK.box m3).c3;go_wp2;exact bodyPost_ret (v:=.tuple #[.agg #[.bool (isN (ofS (((isN x)) !=((isN y))) (x.num.natAbs*one0 (den0 y)) (y.num.natAbs*one0 (den0 x)))),.slice p10 l10 c10,.slice q10 u10 d10],.int .i64 0]) (by simp[results,Tryz.results110,go_sem,c90,c91,c92]) rfl (by obtain rfl:=hQ0.out;exact⟨_,(by rw[if_neg (fun e=>by have q:=hb1.out;rw[<-hz1.out,sgQ_zero.2 e]at q;cases q)]),((congrArg (RatV _ _) (div_made x (fun e=>by have q:=hb1.out;rw[<-hz1.out,sgQ_zero.2 e]at q;cases q))).mp (hK.q m0)),hK.old⟩)
  go_upto_region 2 with(fail);refine wp_region_T [0,4,0] hK ?_;clear hK;refine e0 ?_;refine eP 0 0 [.bool false,.slice none 0 0,.slice none 0 0] ?_;refine e0 ?_;refine sxEnd (fun W13 hK=>?_);have⟨c90,c91,c92⟩:=(hK.box m0).c3;go_wp2;exact bodyPost_ret (v:=.tuple #[.agg #[.bool false,.slice none 0 0,.slice none 0 0],.int .i64 10]) (by simp[results,Tryz.results110,go_sem,c90,c91,c92]) rfl (by obtain rfl:=hQ0.out;exact⟨_,(by rw[if_pos (sgQ_zero.1 (hz1.out.trans (by simpa using hb1.out)))]),(by rw[(sgQ_zero.1 (hz1.out.trans (by simpa using hb1.out))),div_zero'];exact RatV.zero _),hK.old⟩)
set_option maxRecDepth 100000 in
theorem qcmp_any(v0:Value)(v1:Value)(x:Rat)(y:Rat)(w:World)(h0:RatV w v0 x)(h1:RatV w v1 y) {k:Nat}(hx:LmQ k x)(hy:LmQ k y)(hk:k<=10000):
    Calls Tryz.prog 63 #[v0,v1] w fun e w'=>e=.returned (.int .i64 (sgQ (x-y)))/\Below w.heap.size w w':=by
  have h0_0:=h0;obtain⟨p_h0,l_h0,c_h0,q_h0,m_h0,d_h0,rfl,h0_1,h0_2⟩:=h0;have h1_0:=h1;obtain⟨p_h1,l_h1,c_h1,q_h1,m_h1,d_h1,rfl,h1_1,h1_2⟩:=h1;have hK:=SS.start w;have e1:=hx.n.len;have e2:=hy.n.len;have e3:=hx.d0.len;have e4:=hy.d0.len;have e5:(digs B32 (x.num.natAbs*one0 (den0 y))).length<=k+k:=by rw[one0_den0];exact(hx.n.mul hy.d).len
  have e6:(digs B32 (y.num.natAbs*one0 (den0 x))).length<=k+k:=by rw[one0_den0];exact(hy.n.mul hx.d).len
  have e8:(digs B32 (x.den*one0 (den0 y))).length<=k+k:=by rw[one0_den0];exact(hx.d.mul hy.d).len
  have e9:x.den*one0 (den0 y)≠0:=by rw[one0_den0];exact Nat.mul_ne_zero x.den_nz y.den_nz
  have e7:(digs B32 (sgnd (isN x) (x.num.natAbs*one0 (den0 y)) (isN y) (y.num.natAbs*one0 (den0 x))).2).length<=k+k+1:=Lm.len (sgnd_lm (by rw[one0_den0];exact hx.n.mul hy.d) (by rw[one0_den0];exact hy.n.mul hx.d));have e12:(digs B32 (x.num.natAbs*y.num.natAbs)).length<=k+k:=(hx.n.mul hy.n).len;have e10:=hx.d.len;have e11:=hy.d.len;refine Calls.hide (fun Q0 hQ0=>?_);go_enter Tryz.func63,Tryz.ntmps63;go_upto_region 0 with(fail);refine wp_region_T [3,3,0] hK ?_;clear hK;refine eA (.cells #[.bool (isN x),.slice p_h0 l_h0 c_h0,.slice q_h0 m_h0 d_h0] 43) (fun R1=>?_);refine eA (.cells #[.bool (isN y),.slice p_h1 l_h1 c_h1,.slice q_h1 m_h1 d_h1] 43) (fun R2=>?_);refine e0 ?_;refine sxEnd (fun W3 hK=>?_);go_upto_region 1 with(fail);refine wp_region_S _ [0,1,0,1,0,0] hK ?_ (sR);clear hK;refine eL0 m1 ?_;obtain⟨z1,hz1⟩:=nmI (sgQ x);refine eQ (v:=.int .i64 z1) (fun w k=>sign_any _ _ w (h0_0.below k.old)) ?_ (hv:=by rw[hz1.out]);refine eL0 m0 ?_;obtain⟨z2,hz2⟩:=nmI (sgQ y);refine eQ (v:=.int .i64 z2) (fun w k=>sign_any _ _ w (h1_0.below k.old)) ?_ (hv:=by rw[hz2.out])
  iterate 2 refine e0 ?_
  refine sxEnd (fun W4 hK=>?_);go_upto_region 2 with(fail);refine wp_region_T [0,0,0] hK ?_;clear hK
  iterate 2 refine e0 ?_
  refine eB (z1 !=z2) (fun b1 hb1=>?_);refine sxEnd (fun W5 hK=>?_)
  cases b1
  . --
   go_upto_region 6 with(fail);refine wp_region_T [0,0] hK ?_;clear hK;refine e0 ?_;refine eB (z1==0) (fun b2 hb2=>?_);refine sxEnd (fun W6 hK=>?_)
   cases b2
   . --
    go_upto_region 8 with(fail);refine wp_region_S _ [0,0,0,0,0,2,0,0,0,0,2,1,0,0] hK ?_ (sR);clear hK
    iterate 2 refine e0 ?_
    refine eL0 m1 ?_;refine e0 ?_;refine eL0 m0 ?_;refine eC (fun w k=>nat_S (qtimes_any _ _ _ _ w (h0_1.below k.old) (h1_2.below k.old) (by omega))) (fun x8=>?_);obtain⟨p7,l7,c7⟩:=x8;dsimp only;refine e0 ?_;refine eL0 m0 ?_;refine e0 ?_;refine eL0 m1 ?_;refine eC (fun w k=>nat_S (qtimes_any _ _ _ _ w (h1_1.below k.old) (h0_2.below k.old) (by omega))) (fun x10=>?_);obtain⟨p9,l9,c9⟩:=x10;dsimp only;obtain⟨z3,hz3⟩:=nmI (cmpN (x.num.natAbs*one0 (den0 y)) (y.num.natAbs*one0 (den0 x)));refine eQ (v:=.int .i64 z3) (fun w k=>cmp_any _ _ _ _ w (k.nf m1) (k.nf m0) (by omega) (by omega)) ?_ (hv:=by rw[hz3.out]);refine eV (.int .i64 (sgQ (x-y))) (fun w'=>by go_simp;(try go_bits);have q3:=(cmpN_rng hz3.out).1;have q4:=(cmpN_rng hz3.out).2;have q5:=(by have q:=hb1.out;simp at q;exact q);exact⟨congrArg _ (by rw[cmp_made (by rw[hz1.out,hz2.out,q5]) (by rw[hz1.out];have q:=hb2.out;simpa using q) hz3.out,hz1.out];rcases sg_cases hz1.out with e|e|e<;>rw[e]<;>unfold wrap64<;>omega),rfl⟩) ?_;refine e0 ?_;refine sxEnd (fun W11 hK=>?_);go_wp2
    try go_ret
    show Q0 (.returned (.int .i64 (sgQ (x-y)))) _
    exact(qo hQ0 ⟨rfl,hK.old⟩)
   go_wp2
   try go_ret
   show Q0 (.returned (.int .i64 0)) _
   exact(qo hQ0 ⟨(by have q:=(by have q:=hb1.out;simp at q;exact q);have q2:=hb2.out;simp at q2;rw[sgQ_zero.1 (hz1.out.trans q2),sgQ_zero.1 (hz2.out.trans (q▸q2)),Rat.sub_self,sgQ_zero.2 rfl]),hK.old⟩)
  go_upto_region 3 with(fail);refine wp_region_T [0,0,0] hK ?_;clear hK
  iterate 2 refine e0 ?_
  refine eB (decide (z1<z2)) (fun b2 hb2=>?_);refine sxEnd (fun W12 hK=>?_)
  cases b2
  . --
   have q_b2:=nlt hb2;go_wp2
   try go_ret
   show Q0 (.returned (.int .i64 1)) _
   exact(qo hQ0 ⟨(by rw[cmp_signs_gt (by rw[hz1.out,hz2.out];have q:=hb1.out;simp at q;omega)]),hK.old⟩)
  have q_b2:=ylt hb2;go_wp2
  try go_ret
  show Q0 (.returned (.int .i64 (-1))) _
  exact(qo hQ0 ⟨(by rw[cmp_signs_lt (by rw[hz1.out,hz2.out];exact q_b2)]),hK.old⟩)
end
section
theorem d6_of{k n:Nat}(h:Lm k n)(hk:k<=25000):(digs B6 n).length<=50000:=Nat.le_trans h.len6 (by omega)
theorem int_len6{z:Int}(h0: -9223372036854775808<=z)(h1:z<=9223372036854775807):(digs B6 z.natAbs).length<=50000:=d6_of (k:=2) (by
  have:B32^2=18446744073709551616:=by decide
  show _<_
  omega) (by decide)
theorem Lm.one:Lm 1 1:=by show _<_;decide
theorem digs6_1:digs B6 1=[1]:=by
  rw[digs_pos b6_2 (by decide),Nat.mod_eq_of_lt (by decide),Nat.div_eq_of_lt (by decide),digs_zero]
theorem beq1_t{a:Nat}(h:((a:Int)==1)=true):a=1:=by
  have:(a:Int)=1:=by simpa using h
  omega
theorem beq1_f{a:Nat}(h:((a:Int)==1)=false):a≠1:=fun e=>by subst e;cases h
theorem gcd6_len{n d:Nat}(h1:(digs B6 n).length<=50000)(h2:(digs B6 d).length<=50000):(digs B6 (Nat.gcd n d)).length<=50000:=by
  rcases Nat.eq_zero_or_pos d with h|h
  . rw[h,Nat.gcd_zero_right];exact h1
  exact digs6_mono (Nat.le_of_dvd h (Nat.gcd_dvd_right n d)) h2
theorem make_b0(s:Bool){n d:Nat}(_hd:d≠0)(h:n/Nat.gcd n d=0):false=(s&&decide (n≠0)):=by
  have:n=0:=by
    rcases Nat.eq_zero_or_pos n with h1|h1
    . exact h1
    have:=Nat.div_pos (Nat.le_of_dvd h1 (Nat.gcd_dvd_left n d)) (Nat.gcd_pos_of_pos_left d h1);omega
  simp[this]
theorem make_b1(s:Bool){n g:Nat}(h:n/g≠0):s=(s&&decide (n≠0)):=by
  have:n≠0:=fun e=>h (by rw[e];simp)
  simp[this]
theorem ofS_00(s:Bool)(n:Nat):ofS s n 0=0:=ofS_d0 s n
theorem len6_lt{n:Nat}{b:Bool}(h:decide (0<((digs B6 n).length:Int))=b):(n=0↔b=false):=by
  rw[<-h];constructor
  . intro e;rw[e,digs_zero];rfl
  intro e;have:¬0<((digs B6 n).length:Int):=by simpa using e
  exact(digs_eq_nil b6_2).1 (List.eq_nil_of_length_eq_zero (by omega))
theorem RefV.oneC{W:World}{p:Option Addr}{n c:Nat}(h:RefV W (.slice p (digs B6 n).length c) n):Hid ((((digs B6 n).length:Int)==1)=false)\/ ∃g,p=some ⟨g,0,none⟩/\Hid ((((digs B6 n).length:Int)==1)=true):=by
  cases e:(((digs B6 n).length:Int)==1)with
  |false=>exact .inl (hid rfl)
  |true=>obtain⟨g,rfl⟩:=h.one e;exact .inr ⟨g,rfl,hid rfl⟩
theorem one6{n:Nat}(h:(((digs B6 n).length:Int)==1)=false):n≠1:=fun e=>by subst e;rw[digs6_1]at h;cases h
theorem vF_eq{V w:World}{l:List Ft}{v:Value}{n m:Nat}(h:SS V (vF v n::l) w)(e:n=m):SS V (vF v m::l) w:=e▸h
set_option maxRecDepth 100000 in
theorem rmake_q(v1:Value)(v2:Value)(s:Bool)(n:Nat)(d:Nat)(w:World)(h1:RefV w v1 n)(h2:RefV w v2 d)(l1:(digs B6 n).length<=50000)(l2:(digs B6 d).length<=50000):
    Calls Tryz.prog 85 #[.bool s,v1,v2] w fun e w'=> ∃y0,e=.returned (.tuple #[y0,.int .i64 (if d=0 then 10 else 0)])/\RefR w' y0 (ofS s n d)/\Below w.heap.size w w':=by
  obtain⟨p_h1,c_h1,rfl⟩:=h1.slr;obtain⟨p_h2,c_h2,rfl⟩:=h2.slr;have hK:=SS.start w;have l3:(digs B6 (Nat.gcd n d)).length<=50000:=gcd6_len l1 l2;refine Calls.hide (fun Q0 hQ0=>?_);go_enter Tryz.func85,Tryz.ntmps85;go_upto_region 0 with(fail);refine wp_region_T [3,0] hK ?_;clear hK;refine eA (.cells #[.bool false,.slice none 0 0,.slice none 0 0] 53) (fun R1=>?_);refine e0 ?_;refine sxEnd (fun W2 hK=>?_);go_upto_region 1 with(fail);refine wp_region_T [0,0,0] hK ?_;clear hK
  iterate 2 refine e0 ?_
  refine eB ((((digs B6 d).length:Int))==0) (fun b1 hb1=>?_);refine sxEnd (fun W3 hK=>?_)
  cases b1
  . --
   have hd0:d≠0:=len6_pos hb1.out;go_upto_region 3 with(fail);refine wp_region_T [0,0,2,0] hK ?_;clear hK
   iterate 2 refine e0 ?_
   refine eC (fun w k=>ref_V (rgcd_any _ _ _ _ w (h1.below k.old) (h2.below k.old) (by omega) (by omega))) (fun x5=>?_);obtain⟨p4,c4⟩:=x5;dsimp only;refine e0 ?_;refine sxEnd (fun W6 hK=>?_);go_upto_region 4 with(fail);refine wp_region_T [0,0,2,0,0,0,0,0,0,0] hK ?_;clear hK
   iterate 2 refine e0 ?_
   refine eC (fun w k=>ref2_V (rdm_any _ _ _ _ w (h1.below k.old) (k.vf m0) (by omega) (by omega))) (fun x9=>?_);obtain⟨⟨p7,c7⟩,⟨p8,c8⟩⟩:=x9;dsimp only
   iterate 7 refine e0 ?_
   refine sxEnd (fun W10 hK=>?_);go_upto_region 5 with(fail);refine wp_region_T [0,0,2,0,0,0,0,0,0,0] hK ?_;clear hK
   iterate 2 refine e0 ?_
   refine eC (fun w k=>ref2_V (rdm_any _ _ _ _ w (h2.below k.old) (k.vf m2) (by omega) (by omega))) (fun x13=>?_);obtain⟨⟨p11,c11⟩,⟨p12,c12⟩⟩:=x13;dsimp only
   iterate 7 refine e0 ?_
   refine sxEnd (fun W14 hK=>?_)
   rcases(hK.vf m0).oneC with hbl|⟨g1,rfl,hbl⟩
   . --
    go_upto_region 6 with(fail);refine wp_region_T [0,0,0,0,0,0,0,0,0] hK ?_;clear hK
    iterate 2 refine e0 ?_
    refine eV (.bool false) (fun w'=>by go_simp;(try go_bits);exact⟨congrArg Value.bool hbl.out,rfl⟩) ?_;refine e0 ?_
    iterate 4 refine eN ?_
    refine e0 ?_;refine sxEnd (fun W15 hK=>?_);go_upto_if 44 with(fail);go_cut [12]from 9999 to 9999 (fun s12 wl=> ∃(dp:Option Addr) (dl:Nat) (dc:Nat),s12=.slice dp dl dc/\SS w ([vF (.slice dp dl dc) (if d/Nat.gcd n d=1 then 0 else d/Nat.gcd n d),vF (.slice p12 (digs B6 (rem0 d (Nat.gcd n d))).length c12) (rem0 d (Nat.gcd n d)),vF (.slice p7 (digs B6 (n/(Nat.gcd n d))).length c7) (n/(Nat.gcd n d)),vF (.slice p8 (digs B6 (rem0 n (Nat.gcd n d))).length c8) (rem0 n (Nat.gcd n d)),vF (.slice p4 (digs B6 (Nat.gcd n d)).length c4) (Nat.gcd n d),bx R1 (.cells #[.bool false,.slice none 0 0,.slice none 0 0] 53)]) wl)
    case first=>
     replace hK:=vF_eq (m:=(if d/Nat.gcd n d=1 then 0 else d/Nat.gcd n d)) hK (if_neg (one6 hbl.out)).symm
     (try go_wp2)
     go_meet
     case rel=>exact⟨p11,(digs B6 (d/(Nat.gcd n d))).length,c11,(by first|rfl|go_num),hK⟩
    clear hK;obtain⟨dp,dl,dc,rfl,hK⟩:=hcut;generalize wc=W16 at hK⊢;go_upto_region 8 with(fail);refine wp_region_T [0,0,0] hK ?_;clear hK
    iterate 2 refine e0 ?_
    refine eB ((((digs B6 (n/(Nat.gcd n d))).length:Int))==0) (fun b2 hb2=>?_);refine sxEnd (fun W17 hK=>?_);go_upto_if 47 with(fail);go_cut [9,0]from 9999 to 9999 (fun s9 s0 wl=> ∃(np:Option Addr) (nl:Nat) (nc:Nat),s9=.slice np nl nc/\s0=.bool (s&&decide (n≠0))/\SS w ([vF (.slice np nl nc) (n/Nat.gcd n d),vF (.slice dp dl dc) (if d/Nat.gcd n d=1 then 0 else d/Nat.gcd n d),vF (.slice p12 (digs B6 (rem0 d (Nat.gcd n d))).length c12) (rem0 d (Nat.gcd n d)),vF (.slice p8 (digs B6 (rem0 n (Nat.gcd n d))).length c8) (rem0 n (Nat.gcd n d)),vF (.slice p4 (digs B6 (Nat.gcd n d)).length c4) (Nat.gcd n d),bx R1 (.cells #[.bool false,.slice none 0 0,.slice none 0 0] 53)]) wl)
    case first=>
     cases b2
     . --
      (try go_wp2)
      go_meet
      case rel=>exact⟨p7,(digs B6 (n/(Nat.gcd n d))).length,c7,(by first|rfl|go_num),(congrArg Value.bool (make_b1 s (len6_pos hb2.out))),hK.up5.up5.up5.up4.up4.up5⟩
     have hz9:=len6_zero hb2.out;replace hK:=hK.fact (vF (.slice none 0 0) 0) (RefV.zero _);replace hK:=vF_eq (m:=n/Nat.gcd n d) hK hz9.symm
     (try go_wp2)
     go_meet
     case rel=>exact⟨none,0,0,(by first|rfl|go_num),(congrArg Value.bool (make_b0 s hd0 hz9)),(hK.subl (sK2 (sK2 (sK2 (sC2 (sR))))))⟩
    clear hK;obtain⟨np,nl,nc,rfl,rfl,hK⟩:=hcut;generalize wc=W18 at hK⊢;go_upto_region 10 with(fail);refine wp_region_T [0,0,0,0,4,0] hK ?_;clear hK
    iterate 4 refine e0 ?_
    refine eP 5 0 [.bool (s&&decide (n≠0)),.slice np nl nc,.slice dp dl dc] ?_;refine e0 ?_;refine sxEnd (fun W19 hK=>?_);have⟨c90,c91,c92⟩:=(hK.box m5).c3;go_wp2;exact bodyPost_ret (v:=.tuple #[.agg #[.bool (s&&decide (n≠0)),.slice np nl nc,.slice dp dl dc],.int .i64 0]) (by simp[results,Tryz.results85,go_sem,c90,c91,c92]) rfl (qo hQ0 ⟨_,(by rw[if_neg hd0]),(RefR.make hd0 rfl rfl rfl (hK.vf m0) (hK.vf m1)),hK.old⟩)
   go_upto_region 6 with(fail);refine wp_region_T [0,0,0,0,0,0,1,0,0] hK ?_;clear hK
   iterate 2 refine e0 ?_
   refine eV (.bool true) (fun w'=>by go_simp;(try go_bits);exact⟨congrArg Value.bool hbl.out,rfl⟩) ?_
   iterate 2 refine e0 ?_
   refine eV (.pointer (some ⟨g1,0,none⟩)) (fun w'=>by go_simp;(try go_bits);(have hq:=digs6_one hbl.out);rw[hq];exact⟨rfl,rfl⟩) ?_;refine eR (fun w k=>RefV.cell1 (k.vf m0) hbl.out) ?_;refine eB ((((d/Nat.gcd n d:Nat):Int))==1) (fun b2 hb2=>?_);refine e0 ?_;refine sxEnd (fun W20 hK=>?_);go_upto_if 44 with(fail);go_cut [12]from 9999 to 9999 (fun s12 wl=> ∃(dp:Option Addr) (dl:Nat) (dc:Nat),s12=.slice dp dl dc/\SS w ([vF (.slice dp dl dc) (if d/Nat.gcd n d=1 then 0 else d/Nat.gcd n d),vF (.slice p12 (digs B6 (rem0 d (Nat.gcd n d))).length c12) (rem0 d (Nat.gcd n d)),vF (.slice p7 (digs B6 (n/(Nat.gcd n d))).length c7) (n/(Nat.gcd n d)),vF (.slice p8 (digs B6 (rem0 n (Nat.gcd n d))).length c8) (rem0 n (Nat.gcd n d)),vF (.slice p4 (digs B6 (Nat.gcd n d)).length c4) (Nat.gcd n d),bx R1 (.cells #[.bool false,.slice none 0 0,.slice none 0 0] 53)]) wl)
   case first=>
    cases b2
    . --
     replace hK:=vF_eq (m:=(if d/Nat.gcd n d=1 then 0 else d/Nat.gcd n d)) hK (if_neg (beq1_f hb2.out)).symm
     (try go_wp2)
     go_meet
     case rel=>exact⟨(some ⟨g1,0,none⟩),(digs B6 (d/(Nat.gcd n d))).length,c11,(by first|rfl|go_num),hK⟩
    replace hK:=hK.fact (vF (.slice none 0 0) 0) (RefV.zero _);replace hK:=vF_eq (m:=(if d/Nat.gcd n d=1 then 0 else d/Nat.gcd n d)) hK (if_pos (beq1_t hb2.out)).symm
    (try go_wp2)
    go_meet
    case rel=>exact⟨none,0,0,(by first|rfl|go_num),(hK.subl (sK2 (sC2 (sR))))⟩
   clear hK;obtain⟨dp,dl,dc,rfl,hK⟩:=hcut;generalize wc=W21 at hK⊢;go_upto_region 8 with(fail);refine wp_region_T [0,0,0] hK ?_;clear hK
   iterate 2 refine e0 ?_
   refine eB ((((digs B6 (n/(Nat.gcd n d))).length:Int))==0) (fun b3 hb3=>?_);refine sxEnd (fun W22 hK=>?_);go_upto_if 47 with(fail);go_cut [9,0]from 9999 to 9999 (fun s9 s0 wl=> ∃(np:Option Addr) (nl:Nat) (nc:Nat),s9=.slice np nl nc/\s0=.bool (s&&decide (n≠0))/\SS w ([vF (.slice np nl nc) (n/Nat.gcd n d),vF (.slice dp dl dc) (if d/Nat.gcd n d=1 then 0 else d/Nat.gcd n d),vF (.slice p12 (digs B6 (rem0 d (Nat.gcd n d))).length c12) (rem0 d (Nat.gcd n d)),vF (.slice p8 (digs B6 (rem0 n (Nat.gcd n d))).length c8) (rem0 n (Nat.gcd n d)),vF (.slice p4 (digs B6 (Nat.gcd n d)).length c4) (Nat.gcd n d),bx R1 (.cells #[.bool false,.slice none 0 0,.slice none 0 0] 53)]) wl)
   case first=>
    cases b3
    . --
     (try go_wp2)
     go_meet
     case rel=>exact⟨p7,(digs B6 (n/(Nat.gcd n d))).length,c7,(by first|rfl|go_num),(congrArg Value.bool (make_b1 s (len6_pos hb3.out))),hK.up5.up5.up5.up4.up4.up5⟩
    have hz9:=len6_zero hb3.out;replace hK:=hK.fact (vF (.slice none 0 0) 0) (RefV.zero _);replace hK:=vF_eq (m:=n/Nat.gcd n d) hK hz9.symm
    (try go_wp2)
    go_meet
    case rel=>exact⟨none,0,0,(by first|rfl|go_num),(congrArg Value.bool (make_b0 s hd0 hz9)),(hK.subl (sK2 (sK2 (sK2 (sC2 (sR))))))⟩
   clear hK;obtain⟨np,nl,nc,rfl,rfl,hK⟩:=hcut;generalize wc=W23 at hK⊢;go_upto_region 10 with(fail);refine wp_region_T [0,0,0,0,4,0] hK ?_;clear hK
   iterate 4 refine e0 ?_
   refine eP 5 0 [.bool (s&&decide (n≠0)),.slice np nl nc,.slice dp dl dc] ?_;refine e0 ?_;refine sxEnd (fun W24 hK=>?_);have⟨c90,c91,c92⟩:=(hK.box m5).c3;go_wp2;exact bodyPost_ret (v:=.tuple #[.agg #[.bool (s&&decide (n≠0)),.slice np nl nc,.slice dp dl dc],.int .i64 0]) (by simp[results,Tryz.results85,go_sem,c90,c91,c92]) rfl (qo hQ0 ⟨_,(by rw[if_neg hd0]),(RefR.make hd0 rfl rfl rfl (hK.vf m0) (hK.vf m1)),hK.old⟩)
  go_upto_region 2 with(fail);refine wp_region_T [0,4,0] hK ?_;clear hK;refine e0 ?_;refine eP 0 0 [.bool false,.slice none 0 0,.slice none 0 0] ?_;refine e0 ?_;refine sxEnd (fun W25 hK=>?_);have⟨c90,c91,c92⟩:=(hK.box m0).c3;go_wp2;exact bodyPost_ret (v:=.tuple #[.agg #[.bool false,.slice none 0 0,.slice none 0 0],.int .i64 10]) (by simp[results,Tryz.results85,go_sem,c90,c91,c92]) rfl (qo hQ0 ⟨_,(by rw[if_pos (len6_zero hb1.out)]),(by rw[len6_zero hb1.out,ofS_00];exact RefR.zero _),hK.old⟩)
set_option maxRecDepth 100000 in
theorem rmade_q(v1:Value)(v2:Value)(s:Bool)(n:Nat)(d:Nat)(w:World)(h1:RefV w v1 n)(h2:RefV w v2 d)(l1:(digs B6 n).length<=50000)(l2:(digs B6 d).length<=50000):
    Calls Tryz.prog 78 #[.bool s,v1,v2] w fun e w'=> ∃y0,e=.returned y0/\RefR w' y0 (ofS s n d)/\Below w.heap.size w w':=by
  obtain⟨p_h1,c_h1,rfl⟩:=h1.slr;obtain⟨p_h2,c_h2,rfl⟩:=h2.slr;have hK:=SS.start w;refine Calls.hide (fun Q0 hQ0=>?_);go_enter Tryz.func78,Tryz.ntmps78;go_upto_region 0 with(fail);refine wp_region_T [3] hK ?_;clear hK;refine eA (.cells #[.bool false,.slice none 0 0,.slice none 0 0] 53) (fun R1=>?_);refine sxEnd (fun W2 hK=>?_);go_upto_region 1 with(fail);refine wp_region_T [0,0,0,2,0,0,0,3,4,0] hK ?_;clear hK
  iterate 3 refine e0 ?_
  obtain⟨z1,hz1⟩:=nmI (if d=0 then 10 else 0);refine eC (fun w k=>(by have q:=ref2_S (rmake_q _ _ s _ _ w (h1.below k.old) (h2.below k.old) (by omega) (by omega));rw[hz1.out]at q;exact q)) (fun x4=>?_);obtain⟨⟨p3,l3,c3⟩,⟨q3,u3,d3⟩⟩:=x4;dsimp only
  iterate 3 refine e0 ?_
  refine eA (.cells #[.bool false,.slice none 0 0,.slice none 0 0] 53) (fun R5=>?_);refine eP 0 0 [.bool (isN (ofS s n d)),.slice p3 l3 c3,.slice q3 u3 d3] ?_ (hq:=.inr ⟨rfl,rfl,trivial⟩);refine e0 ?_;refine sxEnd (fun W6 hK=>?_);go_upto_region 2 with(fail);refine wp_region_T [1,4] hK ?_;clear hK;refine eL m0 ?_;refine eP 2 0 [.bool (isN (ofS s n d)),.slice p3 l3 c3,.slice q3 u3 d3] ?_ (hq:=.inr ⟨rfl,rfl,trivial⟩);refine sxEnd (fun W7 hK=>?_);have⟨c90,c91,c92⟩:=(hK.box m2).c3;go_wp2;exact bodyPost_ret (v:=.agg #[.bool (isN (ofS s n d)),.slice p3 l3 c3,.slice q3 u3 d3]) (by simp[results,Tryz.results78,go_sem,c90,c91,c92]) rfl (qo hQ0 ⟨_,rfl,(hK.rq m1),hK.old⟩)
set_option maxRecDepth 100000 in
theorem rsize_q (n:Int)(w:World) (n0: -9223372036854775808<=n)(n1:n<=9223372036854775807):
    Calls Tryz.prog 100 #[.int .i64 n] w fun e w'=> ∃y0,e=.returned y0/\RefV w' y0 (n.natAbs)/\Below w.heap.size w w':=by
  have hK:=SS.start w;refine Calls.hide (fun Q0 hQ0=>?_);go_enter Tryz.func100,Tryz.ntmps100;go_upto_region 1 with(fail);refine wp_region_T [0,0] hK ?_;clear hK;refine e0 ?_;refine eB (decide (n<0)) (fun b1 hb1=>?_);refine sxEnd (fun W1 hK=>?_)
  cases b1
  . --
   have q_b1:=nlt hb1;go_upto_region 3 with(fail);refine wp_region_T [0,0,2,0] hK ?_;clear hK;refine e0 ?_;refine eV (.int .u64 (n.natAbs:Int)) (fun w'=>by go_simp;(try go_bits);exact⟨congrArg _ (by omega),rfl⟩) ?_;refine eC (fun w k=>ref_V (rof_any n.natAbs w (by omega))) (fun x3=>?_);obtain⟨p2,c2⟩:=x3;dsimp only;refine e0 ?_;refine sxEnd (fun W4 hK=>?_);go_wp2
   try go_ret
   show Q0 (.returned (.slice p2 (digs B6 n.natAbs).length c2)) _
   exact(qo hQ0 ⟨_,rfl,(hK.vf m0),hK.old⟩)
  have q_b1:=ylt hb1;go_upto_region 2 with(fail);refine wp_region_T [0,0,0,0,0,2,0] hK ?_;clear hK
  iterate 4 refine e0 ?_
  refine eV (.int .u64 (n.natAbs:Int)) (fun w'=>by go_simp;(try go_bits);exact⟨congrArg _ (by omega),rfl⟩) ?_;refine eC (fun w k=>ref_V (rof_any n.natAbs w (by omega))) (fun x6=>?_);obtain⟨p5,c5⟩:=x6;dsimp only;refine e0 ?_;refine sxEnd (fun W7 hK=>?_);go_wp2
  try go_ret
  show Q0 (.returned (.slice p5 (digs B6 n.natAbs).length c5)) _
  exact(qo hQ0 ⟨_,rfl,(hK.vf m0),hK.old⟩)
set_option maxRecDepth 100000 in
theorem rof_q (n:Int)(d:Int)(w:World) (n0: -9223372036854775808<=n)(n1:n<=9223372036854775807)(d0: -9223372036854775808<=d)(d1:d<=9223372036854775807):
    Calls Tryz.prog 59 #[.int .i64 n,.int .i64 d] w fun e w'=> ∃y0,e=.returned y0/\RefR w' y0 (((n:Int):Rat)/((d:Int):Rat))/\Below w.heap.size w w':=by
  have hK:=SS.start w;have l1:=int_len6 n0 n1;have l2:=int_len6 d0 d1;refine Calls.hide (fun Q0 hQ0=>?_);go_enter Tryz.func59,Tryz.ntmps59;go_upto_region 0 with(fail);refine wp_region_T [3] hK ?_;clear hK;refine eA (.cells #[.bool false,.slice none 0 0,.slice none 0 0] 53) (fun R1=>?_);refine sxEnd (fun W2 hK=>?_);go_upto_region 1 with(fail);refine wp_region_T [0,0,0,0,0,0,2,0,2,2,4] hK ?_;clear hK;refine e0 ?_;refine eB (decide (n<0)) (fun b1 hb1=>?_);refine e0 ?_;refine eB (decide (d<0)) (fun b2 hb2=>?_)
  iterate 2 refine e0 ?_
  refine eC (fun w k=>ref_V (rsize_q n w (by omega) (by omega))) (fun x4=>?_);obtain⟨p3,c3⟩:=x4;dsimp only;refine e0 ?_;refine eC (fun w k=>ref_V (rsize_q d w (by omega) (by omega))) (fun x6=>?_);obtain⟨p5,c5⟩:=x6;dsimp only;refine eC (fun w k=>ref_S (rmade_q _ _ (b1 !=b2) _ _ w (k.vf m1) (k.vf m0) (by omega) (by omega))) (fun x8=>?_);obtain⟨⟨p7,l7,c7⟩,⟨q7,u7,d7⟩⟩:=x8;dsimp only;refine eP 3 0 [.bool (isN (ofS (b1 !=b2) n.natAbs d.natAbs)),.slice p7 l7 c7,.slice q7 u7 d7] ?_ (hq:=.inr ⟨rfl,rfl,rfl,trivial⟩);refine sxEnd (fun W9 hK=>?_);have⟨c90,c91,c92⟩:=(hK.box m3).c3;go_wp2;exact bodyPost_ret (v:=.agg #[.bool (isN (ofS (b1 !=b2) n.natAbs d.natAbs)),.slice p7 l7 c7,.slice q7 u7 d7]) (by simp[results,Tryz.results59,go_sem,c90,c91,c92]) rfl (qo hQ0 ⟨_,rfl,((congrArg (RefR _ _) (by rw[<-hb1.out, <-hb2.out];exact quo_ints n d)).mp (hK.rq m0)),hK.old⟩)
set_option maxRecDepth 100000 in
theorem rint_q (n:Int)(w:World) (n0: -9223372036854775808<=n)(n1:n<=9223372036854775807):
    Calls Tryz.prog 65 #[.int .i64 n] w fun e w'=> ∃y0,e=.returned y0/\RefR w' y0 (((n:Int):Rat))/\Below w.heap.size w w':=by
  have hK:=SS.start w;refine Calls.hide (fun Q0 hQ0=>?_);go_enter Tryz.func65,Tryz.ntmps65;go_upto_region 0 with(fail);refine wp_region_T [3] hK ?_;clear hK;refine eA (.cells #[.bool false,.slice none 0 0,.slice none 0 0] 53) (fun R1=>?_);refine sxEnd (fun W2 hK=>?_);go_upto_region 1 with(fail);refine wp_region_T [0,2,4] hK ?_;clear hK;refine e0 ?_;refine eC (fun w k=>ref_S (rof_q n 1 w (by omega) (by omega) (by omega) (by omega))) (fun x4=>?_);obtain⟨⟨p3,l3,c3⟩,⟨q3,u3,d3⟩⟩:=x4;dsimp only;refine eP 1 0 [.bool (isN (((n:Int):Rat)/((1:Int):Rat))),.slice p3 l3 c3,.slice q3 u3 d3] ?_ (hq:=.inr ⟨rfl,trivial⟩);refine sxEnd (fun W5 hK=>?_);have⟨c90,c91,c92⟩:=(hK.box m1).c3;go_wp2;exact bodyPost_ret (v:=.agg #[.bool (isN (((n:Int):Rat)/((1:Int):Rat))),.slice p3 l3 c3,.slice q3 u3 d3]) (by simp[results,Tryz.results65,go_sem,c90,c91,c92]) rfl (qo hQ0 ⟨_,rfl,((congrArg (RefR _ _) (by rw[<-quo_ints n 1];show ofS (decide (n<0) !=false) n.natAbs 1=_;rw[Bool.bne_false];exact int_of n)).mp (hK.rq m0)),hK.old⟩)
end
section
def slcK:EK Sl where
  sz:=1
  pos:=by decide
  R:=fun _ cs s=>cs=[.slice s.p s.l s.c]
  len:=fun e=>by rw[e];rfl
  one:=fun e u hu=>by
    subst e;simp only[List.mem_cons,List.not_mem_nil,or_false]at hu;subst hu;rfl
  below:=fun e _=>e
theorem slcK_free:slcK.Free:=fun _ _ _ _ h=>h
instance :OwnK slcK:=⟨[],fun h _ _ _ _ _ _=>h,.inl slcK_free⟩
structure FamO{α:Type}(K:EK α)(tt t:TypeId)(k:Nat)(p:Option Addr)(n c:Nat)(ss:List Sl)(xss:List (List α))(w:World):Prop where
  out:OwV slcK tt 0 w (.slice p n c) ss
  len:ss.length=xss.length
  row:∀j s xs,j≠k->ss[j]?=some s->xss[j]?=some xs->OwV K t 0 w (.slice s.p s.l s.c) xs
  ap:∀i j s u g,i≠j->i≠k->j≠k->ss[i]?=some s->ss[j]?=some u->ob s.p=some g->ob u.p≠some g
  ao:∀j s g,j≠k->ss[j]?=some s->ob s.p=some g->ob p≠some g
theorem FamO.slv{α:Type}{K:EK α}{w:World}{tt t:TypeId}{k:Nat}{p:Option Addr}{n c i:Nat}{ss:List Sl}{xss:List (List α)}{s:Sl}{xs:List α}(h:FamO K tt t k p n c ss xss w)(hi:i≠k)(hs:ss[i]?=some s)(hx:xss[i]?=some xs):SlV K w (.slice s.p s.l s.c) xs:=(h.row i s xs hi hs hx).slv
section
variable {α:Type}{K:EK α}[OwnK K]{V w:World}{l:List Ft}{tt t:TypeId}{k m:Nat}{p:Option Addr}{n c i:Nat}{ss:List Sl}{xss:List (List α)}{s:Sl}{xs:List α}
end
section
variable {w:World}{g n c i b:Nat}{t:TypeId}
end
section
variable {α:Type}{K:EK α}[OwnK K]{P:Program}{V:World}{ops:Array Oper}{Q:Act->World->Prop}{f0 fs fs':List Ft}{ks:List Nat}{o:Oper}{rest:List Oper}{a a':Act}{tt t:TypeId}{ss:List Sl}{xss:List (List α)}
end
end
end Go.Proofs.YtgemmbpjebijlaaGreatDoor
namespace Go.Proofs.YtgemmbpjebijlaaGreatDoor
open Go.RowKit Go.ChangeMaps
section
variable {P:Program}{M K E:TypeId}{z:Value}{w:World}{R:Nat}{l:List (Int × Value)}
end
section
variable {P:Program}{V:World}{ops:Array Oper}{Q:Act->World->Prop}{f0 fs fs':List Ft}{n:Nat}{ks:List Nat}{o:Oper}{rest:List Oper}{a a':Act}{z v:Value}{R:Nat}{l:List (Int × Value)}{M K E:TypeId}{x y u:Operand}{k:Int}
end
end Go.Proofs.YtgemmbpjebijlaaGreatDoor
namespace Go.Proofs.YtgemmbpjebijlaaGreatDoor
open Go.RowKit
open Go.Lib (decDigits)
section
theorem ratV_cells'{w:World}{a b d:Value}{x:Rat}(h:RatV w (.agg #[a,b,d]) x):a=.bool (isN x)/\(∃p n c,b=.slice p n c)/\ ∃p n c,d=.slice p n c:=by
  obtain⟨p,l,c,q,m,e,e1,_,_⟩:=h
  injection e1 with e1
  have:=congrArg Array.toList e1;simp at this;exact⟨this.1,⟨p,l,c,this.2.1⟩,q,m,e,this.2.2⟩
theorem SS.up8{V w:World}{l:List Ft}{x0 x1 x2 x3 x4 x5 x6 x7 x8:Ft}(h0:SS V (x0::x1::x2::x3::x4::x5::x6::x7::x8::l) w):SS V (x8::x0::x1::x2::x3::x4::x5::x6::x7::l) w:=h0.perm (up_cons (up_cons (up_cons (up_cons (up_cons (up_cons (up_cons (up_cons (.refl _)))))))))
theorem SS.up9{V w:World}{l:List Ft}{x0 x1 x2 x3 x4 x5 x6 x7 x8 x9:Ft}(h0:SS V (x0::x1::x2::x3::x4::x5::x6::x7::x8::x9::l) w):SS V (x9::x0::x1::x2::x3::x4::x5::x6::x7::x8::l) w:=h0.perm (up_cons (up_cons (up_cons (up_cons (up_cons (up_cons (up_cons (up_cons (up_cons (.refl _))))))))))
theorem SS.up10{V w:World}{l:List Ft}{x0 x1 x2 x3 x4 x5 x6 x7 x8 x9 x10:Ft}(h0:SS V (x0::x1::x2::x3::x4::x5::x6::x7::x8::x9::x10::l) w):SS V (x10::x0::x1::x2::x3::x4::x5::x6::x7::x8::x9::l) w:=h0.perm (up_cons (up_cons (up_cons (up_cons (up_cons (up_cons (up_cons (up_cons (up_cons (up_cons (.refl _)))))))))))
theorem SS.up11{V w:World}{l:List Ft}{x0 x1 x2 x3 x4 x5 x6 x7 x8 x9 x10 x11:Ft}(h0:SS V (x0::x1::x2::x3::x4::x5::x6::x7::x8::x9::x10::x11::l) w):SS V (x11::x0::x1::x2::x3::x4::x5::x6::x7::x8::x9::x10::l) w:=h0.perm (up_cons (up_cons (up_cons (up_cons (up_cons (up_cons (up_cons (up_cons (up_cons (up_cons (up_cons (.refl _))))))))))))
theorem SS.up12{V w:World}{l:List Ft}{x0 x1 x2 x3 x4 x5 x6 x7 x8 x9 x10 x11 x12:Ft}(h0:SS V (x0::x1::x2::x3::x4::x5::x6::x7::x8::x9::x10::x11::x12::l) w):SS V (x12::x0::x1::x2::x3::x4::x5::x6::x7::x8::x9::x10::x11::l) w:=h0.perm (up_cons (up_cons (up_cons (up_cons (up_cons (up_cons (up_cons (up_cons (up_cons (up_cons (up_cons (up_cons (.refl _)))))))))))))
def ratK:EK Rat where
  sz:=3
  pos:=by decide
  R:=fun w cs x=> ∃a b d,cs=[a,b,d]/\RatV w (.agg #[a,b,d]) x
  len:=fun⟨_,_,_,e,_⟩=>by rw[e];rfl
  one:=fun⟨a,b,d,e,h⟩ u hu=>by
    obtain⟨rfl,⟨_,_,_,rfl⟩,_,_,_,rfl⟩:=ratV_cells' h;subst e;simp only[List.mem_cons,List.not_mem_nil,or_false]at hu
    rcases hu with rfl|rfl|rfl<;>rfl
  below:=fun⟨a,b,d,e,h⟩ hb=>⟨a,b,d,e,h.below hb⟩
theorem ratK_hd{w:World}{cs:List Value}{x:Rat}{u:Value}(h:ratK.R w cs x)(hu:cs[0]?=some u):rkV u=2:=by
  obtain⟨a,b,c,rfl,h⟩:=h;obtain⟨rfl,_⟩:=ratV_cells' h
  cases hu;rfl
instance :OwnK ratK:=⟨[0],fun⟨a,b,c,e,h⟩ hg w1 h2 h3 w2 h4=>⟨a,b,c,e,rat_spare h hg w1 h2 h3 w2 h4⟩,.inr ⟨2,rfl,ratK_hd⟩⟩
section
variable {V w:World}{l:List Ft}{m:List (Int × Value)}{F:Int->Rat}{z v:Value}{x:Rat}{k:Int}
end
section
variable {P:Program}{V:World}{ops:Array Oper}{Q:Act->World->Prop}{f0 fs fs':List Ft}{ks:List Nat}{o:Oper}{rest:List Oper}{a a':Act}
theorem eWQ{g n c j:Nat}{t:TypeId}{xs:List Rat}{y:Rat}{v0 v1 v2:Value}(i:Nat)(hj:j<xs.length)(hv:qF (.agg #[v0,v1,v2]) y∈fs)(h:Sx P V ops Q f0 ks rest fs' a')(hi:fs[i]?=some (rO ratK t (some ⟨g,0,none⟩) n c xs):=by rfl)(hf:fs.set i (rO ratK t (some ⟨g,0,none⟩) n c (xs.set j y))=fs':=by(simp only[pB,pC])<;>exact rfl)(hs:f0.Sublist fs':=by exact List.nil_sublist _)(hq:OkL 2 i fs:=by repeat (first|exact trivial|(show OkA _ _;assumption)|refine⟨rfl,?_⟩))(hg:Wants ops o a:=by first|exact wants0 rfl|exact wantsg rfl rfl rfl rfl)
    (h1:∀w u0 u1 u2,w.cell? ⟨g,j*3,none⟩=some u0->w.cell? ⟨g,j*3+1,none⟩=some u1->w.cell? ⟨g,j*3+2,none⟩=some u2->(∀o,w.frozen? ⟨g,o,none⟩=false)->Does P (fun u w'=>u=undef/\w'=putAt g (j*3) [v0,v1,v2] w) ((execOp a.eval o).run P w):=by intro w' u0 u1 u2 c0 c1 c2 f;go_simp;exact⟨rfl,rfl⟩) (ha:a.put o.dst undef=a':=by(simp only[mkOf,Act.put,pA,pB,pC,pD,pE])<;>exact rfl):Sx P V ops Q f0 (4::ks) (o::rest) fs a:=
  sxS (R:=g) (f2:=rO ratK t (some ⟨g,0,none⟩) n c (xs.set j y)) hi rfl (fun _ h=>h) (fun w k=>qtN (fun R' e=>by injection e with e;subst e;exact OwV.hd k (List.ne_nil_of_length_pos (by omega)) (fun{_ _ _ _} h hu=>ratK_hd h hu)) hq) (by rw[hf];exact hs) hg (fun w hw k=>by
    obtain⟨u0,hu0⟩:=OwV.some_cell k hj (j:=0) (by decide);obtain⟨u1,hu1⟩:=OwV.some_cell k hj (j:=1) (by decide);obtain⟨u2,hu2⟩:=OwV.some_cell k hj (j:=2) (by decide);refine(h1 w u0 u1 u2 hu0 hu1 hu2 (OwV.fz k)).mono fun u w' ⟨e1,e2⟩=>?_
    subst e2;exact⟨e1,⟨_,_,rfl⟩,OwV.put k ⟨_,_,_,rfl,hw.q hv⟩ hj _ (Below.refl _ _)⟩) (by rw[hf,ha];exact h)
end
end
section
section
variable {w w' V:World}{l:List Ft}
def C3(w:World)(g o:Nat)(a b d:Value):Prop:=g<w.heap.size/\w.cell? ⟨g,o,none⟩=some a/\w.cell? ⟨g,o+1,none⟩=some b/\w.cell? ⟨g,o+2,none⟩=some d
theorem C3.below{g o:Nat}{a b d:Value}(h:C3 w g o a b d)(hb:Below w.heap.size w w'):C3 w' g o a b d:=
  ⟨Nat.lt_of_lt_of_le h.1 hb.size,(hb.cell (p:=⟨g,_,none⟩) h.1).trans h.2.1,(hb.cell (p:=⟨g,_,none⟩) h.1).trans h.2.2.1,(hb.cell (p:=⟨g,_,none⟩) h.1).trans h.2.2.2⟩
theorem SlV.rat{g o n c i:Nat}{sh:List Rat}{x:Rat}(h:SlV ratK w (.slice (some ⟨g,o,none⟩) n c) sh)(hx:sh[i]?=some x):∃a b d,C3 w g (o+i*3) a b d/\RatV w (.agg #[a,b,d]) x:=by
  obtain⟨cs,h1,a,b,d,rfl,h2⟩:=h.at hx;exact⟨a,b,d,⟨h1.1,h1.2 0 _ rfl,h1.2 1 _ rfl,h1.2 2 _ rfl⟩,h2⟩
section
variable {α:Type}{K:EK α}{xs:List α}{g o n c i m:Nat}
theorem SlV.part(h:SlV K w (.slice (some ⟨g,o,none⟩) n c) xs)(hn:n<=c)(hi:i<=m)(hm:m<=n):∃q:Option Addr,Hid ((if c=i then some (⟨g,o,none⟩:Addr)else some ⟨g,o+i*K.sz,none⟩)=q)/\SlV K w (.slice q (m-i) (c-i)) ((xs.take m).drop i):=by
  have hx:=h.one0;have ht:=h.take (m:=m) (by omega);have hl:(xs.take m).length=m:=by rw[List.length_take];omega
  refine⟨_,hid rfl,?_⟩
  by_cases e:c=i
  . rw[if_pos e,List.drop_eq_nil_of_le (by omega),show m-i=0 by omega];exact .nil
  rw[if_neg e];have:=ht.drop (m:=i) (by omega);rw[hl]at this;exact this
theorem SlV.rest(h:SlV K w (.slice (some ⟨g,o,none⟩) n c) xs)(hn:n<=c)(hi:i<=n):∃q:Option Addr,Hid ((if c=i then some (⟨g,o,none⟩:Addr)else some ⟨g,o+i*K.sz,none⟩)=q)/\SlV K w (.slice q (n-i) (c-i)) (xs.drop i):=by
  have:=h.part (i:=i) (m:=n) hn hi (Nat.le_refl n)
  rwa [List.take_of_length_le (Nat.le_of_eq h.one0.symm)]at this
end
end
end
section
theorem setL_len:∀(cs:List Value) (l:List Value) (o:Nat),(setL l o cs).length=l.length
  |[],_,_=>rfl
  |c::cs,l,o=>by rw[setL,setL_len cs];simp
theorem setL_get:∀(cs:List Value) (l:List Value) (o i:Nat),o+cs.length<=l.length->(setL l o cs)[i]?=if o<=i/\i<o+cs.length then cs[i-o]? else l[i]?
  |[],l,o,i,_=>by rw[setL,if_neg (by simp)]
  | c ::cs,l,o,i,h=>by
    rw[List.length_cons]at h;rw[setL,setL_get cs _ (o+1) i (by simp;omega),List.length_cons]
    by_cases h1:o+1<=i/\i<o+1+cs.length
    . rw[if_pos h1,if_pos (by omega)];obtain⟨j,rfl⟩:∃j,i=o+1+j:=⟨i-(o+1),by omega⟩;rw[show o+1+j-o=j+1 by omega,show o+1+j-(o+1)=j by omega,List.getElem?_cons_succ]
    rw[if_neg h1]
    by_cases h2:i=o
    . subst h2;simp[show i<l.length by omega]
    rw[if_neg (by omega),List.getElem?_set_ne (by omega)]
theorem setL_part{l cs ds:List Value}{a o:Nat}(hl:a+cs.length<=l.length)(hc:∀j u,cs[j]?=some u->l[a+j]?=some u)(ho:o+ds.length<=cs.length):setL l (a+o) ds=setL l a (setL cs o ds):=by
  refine List.ext_getElem? fun i=>?_
  rw[setL_get _ _ _ _ (by omega),setL_get _ _ _ _ (by rw[setL_len];exact hl),setL_len,setL_get _ _ _ _ ho]
  by_cases h1:a<=i/\i<a+cs.length
  . rw[if_pos h1]
    by_cases h2:a+o<=i/\i<a+o+ds.length
    . rw[if_pos h2,if_pos (by omega),show i-(a+o)=i-a-o by omega]
    rw[if_neg h2,if_neg (by omega)];have h3:i-a<cs.length:=by omega
    have h4:=hc (i-a) _ (List.getElem?_eq_getElem h3);rw[show a+(i-a)=i by omega]at h4;rw[h4,List.getElem?_eq_getElem h3]
  rw[if_neg h1,if_neg (by omega)]
theorem OwV.putF{α:Type}{K:EK α}[OwnK K]{f:α->List Value}{t:TypeId}{base g n c k o:Nat}{ds:List Value}{w:World}{xs:List α}{x x':α}(hR:∀w cs x,K.R w cs x↔cs=f x)(h:OwV K t base w (.slice (some ⟨g,0,none⟩) n c) xs)(hx:xs[k]?=some x)(hd:setL (f x) o ds=f x')(ho:o+ds.length<=K.sz):
    ∀w',Below (putAt g (k*K.sz+o) ds w).heap.size (putAt g (k*K.sz+o) ds w) w'->OwV K t base w' (.slice (some ⟨g,0,none⟩) n c) (xs.set k x'):=by
  intro w' hb;obtain⟨hk,rfl⟩:=List.getElem?_eq_some_iff.1 hx;have hcell:=(h.slv.at hx);obtain⟨css,h1,h2⟩:=h;have hK:K.Free:=fun w w' cs x hc=>(hR w' cs x).2 ((hR w cs x).1 hc)
  have hr':K.R w (f x') x':=(hR _ _ _).2 rfl;have hs:=h1.set hr' k;have hs':Els K w' (css.set k (f x')) (xs.set k x'):=hs.free hK;have hkc:k<css.length:=by rw[h1.len];exact hk
  have hcs:css[k]=f xs[k]:=(hR _ _ _).1 (h1.el k _ _ (List.getElem?_eq_getElem hkc) (List.getElem?_eq_getElem hk));have hlf:∀y,(f y).length=K.sz:=fun y=>K.len ((hR w (f y) y).2 rfl)
  refine⟨_,hs',?_⟩
  rcases h2.2 with⟨e,h0⟩|⟨g',cap,cur,e,hb',hg,hc1,hc2,hsz,ht⟩
  . cases e
  injection e with e1 e2 e3
  injection e1 with e1
  injection e1 with e1 _ _
  subst e1;subst e2;subst e3;have hg2:w.heap[g]?=some (.cells cur.toList.toArray t):=by simpa using hg
  have hput:=put_at ds (k*K.sz+o) cur.toList w hg2;have hlen:=h1.len;have hlt:g<(putAt g (k*K.sz+o) ds w).heap.size:=Nat.lt_of_lt_of_le (Array.getElem?_eq_some_iff.1 hg).1 (put_size g ds _ w);have hfl:=flat_len css h1.sizes;have hkk:(k+1)*K.sz<=xs.length*K.sz:=Nat.mul_le_mul_right _ hk;rw[Nat.succ_mul]at hkk;have hcap:xs.length*K.sz<=c*K.sz:=Nat.mul_le_mul_right _ hc1;have hcl:cur.toList.length=c*K.sz:=by simpa using hsz
  have hseg:∀j u,(f xs[k])[j]?=some u->cur.toList[k*K.sz+j]?=some u:=fun j u hu=>by
    have hj:j<K.sz:=by have:=(List.getElem?_eq_some_iff.1 hu).1;rwa [hlf]at this
    have h3:=flat_at css h1.sizes k j _ (List.getElem?_eq_getElem hkc) hj;rw[hcs,hu, <-ht,List.getElem?_take,if_pos (by omega)]at h3;exact h3
  have heq:=setL_part (l:=cur.toList) (a:=k*K.sz) (o:=o) (ds:=ds) (by rw[hlf];omega) hseg (by rw[hlf];exact ho);rw[hd]at heq;rw[heq]at hput
  have key:∀(cs:List Value) (l:List Value) (o m:Nat),o+cs.length<=m->(setL l o cs).take m=setL (l.take m) o cs:=by
    intro cs
    induction cs with
    |nil=>intro l o m _;rfl
    | cons c cs ih=>
      intro l o m hm;simp at hm;unfold setL;rw[ih (l.set o c) (o+1) m (by omega),List.take_set]
  refine⟨?_,.inr ⟨g,c,(setL cur.toList (k*K.sz) (f x')).toArray,by simp,hb',?_,by simpa using hc1,hc2,?_,?_⟩⟩
  . rw[flat_len (sz:=K.sz) _ hs.sizes,hs.len]
  . rw[hb.block g hlt];exact hput
  . simp[setL_len,hsz]
  rw[flat_set css h1.sizes k (f x') (hlf x') hkc];simp only[List.length_set];rw[key _ _ _ _ (by rw[hlf];omega),ht]
end
section
structure LRow where
  cs:List Rat
  r:Rat
instance :Inhabited LRow:=⟨⟨[],0⟩⟩
def dotV(v:Int->Rat):List Rat->List Int->Rat
  |c::cs,f::fs=>c*v f+dotV v cs fs
  |_,_=>0
def LRow.ev(v:Int->Rat)(fs:List Int)(x:LRow):Rat:=x.r-dotV v x.cs fs
def subCs(f:Rat):List Rat->List Rat->List Rat
  |a::az,b::bs=>(a-f*b)::subCs f az bs
  |az,_=>az
def LRow.subst(x:LRow)(j:Nat)(p:LRow):LRow:=⟨subCs (x.cs.getD j 0) (x.cs.set j 0) p.cs,x.r-x.cs.getD j 0*p.r⟩
def LRow.scale(x:LRow)(j:Nat):LRow:=⟨(x.cs.set j 1).map (· *(1/x.cs.getD j 0)),x.r*(1/x.cs.getD j 0)⟩
theorem dotV_nil(v:Int->Rat)(fs:List Int):dotV v [] fs=0:=by cases fs<;>rfl
theorem dotV_set(v:Int->Rat)(c:Rat):∀(cs:List Rat) (fs:List Int) (j:Nat),j<cs.length->j<fs.length->dotV v (cs.set j c) fs=dotV v cs fs+(c-cs.getD j 0)*v (fs.getD j 0)
  |[],_,_,h,_=>absurd h (Nat.not_lt_zero _)
  |_::_,[],_,_,h=>absurd h (Nat.not_lt_zero _)
  |a::cs,f::fs,0,_,_=>by simp[dotV];grind
  | a::cs,f::fs,j+1,h,h'=>by
    have ih:=dotV_set v c cs fs j (by simpa using h) (by simpa using h');simp only[List.set_cons_succ,dotV,List.getD_cons_succ];rw[ih];grind
theorem dotV_fset(v:Int->Rat)(b:Int):∀(cs:List Rat) (fs:List Int) (j:Nat),j<cs.length->j<fs.length->dotV v cs (fs.set j b)=dotV v cs fs+cs.getD j 0*(v b-v (fs.getD j 0))
  |[],_,_,h,_=>absurd h (Nat.not_lt_zero _)
  |_::_,[],_,_,h=>absurd h (Nat.not_lt_zero _)
  |a::cs,f::fs,0,_,_=>by simp[dotV];grind
  | a::cs,f::fs,j+1,h,h'=>by
    have ih:=dotV_fset v b cs fs j (by simpa using h) (by simpa using h');simp only[List.set_cons_succ,dotV,List.getD_cons_succ];rw[ih];grind
theorem dotV_map(v:Int->Rat)(s:Rat):∀(cs:List Rat) (fs:List Int),dotV v (cs.map (· *s)) fs=dotV v cs fs*s
  |[],fs=>by simp[dotV_nil]
  |a::cs,[]=>by simp[dotV]
  | a::cs,f::fs=>by
    have ih:=dotV_map v s cs fs;simp only[List.map_cons,dotV];rw[ih];grind
theorem dotV_sub(v:Int->Rat)(f:Rat):∀(az bs:List Rat) (fs:List Int),bs.length=az.length->dotV v (subCs f az bs) fs=dotV v az fs-f*dotV v bs fs
  |[],[],fs,_=>by simp[subCs,dotV_nil];grind
  |[],b::bs,fs,h=>by simp at h
  |a::az,[],fs,h=>by simp at h
  |a::az,b::bs,[],_=>by simp[subCs,dotV];grind
  | a::az,b::bs,e::fs,h=>by
    have ih:=dotV_sub v f az bs fs (by simpa using h);simp only[subCs,dotV];rw[ih];grind
theorem subCs_len(f:Rat):∀(az bs:List Rat),(subCs f az bs).length=az.length
  |[],[]=>rfl
  |[],_::_=>rfl
  |_::_,[]=>rfl
  |a::az,b::bs=>by simp[subCs,subCs_len f az bs]
theorem subCs_at(f:Rat):∀(az bs:List Rat) (k:Nat),bs.length=az.length->(subCs f az bs).getD k 0=az.getD k 0-f*bs.getD k 0
  |[],[],k,_=>by simp[subCs];grind
  |[],b::bs,k,h=>by simp at h
  |a::az,[],k,h=>by simp at h
  |a::az,b::bs,0,_=>by simp[subCs]
  |a::az,b::bs,k+1,h=>by simpa[subCs]using subCs_at f az bs k (by simpa using h)
theorem subCs_zero:∀(az bs:List Rat),subCs 0 az bs=az
  |[],[]=>rfl
  |[],_::_=>rfl
  |_::_,[]=>rfl
  |a::az,b::bs=>by simp only[subCs,subCs_zero az bs,Rat.zero_mul];rw[show a-0=a by grind]
theorem LRow.subst_len(x:LRow)(j:Nat)(p:LRow):(x.subst j p).cs.length=x.cs.length:=by simp[LRow.subst,subCs_len]
theorem LRow.scale_len(x:LRow)(j:Nat):(x.scale j).cs.length=x.cs.length:=by simp[LRow.scale]
theorem LRow.scale_ev{x:LRow}{fs:List Int}{j:Nat}{b:Int}(v:Int->Rat)(hl:x.cs.length=fs.length)(hj:j<fs.length)(ha:x.cs.getD j 0≠0):(v b=x.ev v fs)↔(v (fs.getD j 0)=(x.scale j).ev v (fs.set j b)):=by
  have h1:=dotV_map v (1/x.cs.getD j 0) (x.cs.set j 1) (fs.set j b);have h2:=dotV_set v 1 x.cs (fs.set j b) j (by omega) (by simpa using hj);have h3:=dotV_fset v b x.cs fs j (by omega) hj;have h4:(fs.set j b).getD j 0=b:=by simp[List.getD,List.getElem?_set_self hj]
  rw[h4]at h2;unfold LRow.ev LRow.scale;simp only[h1,h2,h3];generalize x.cs.getD j 0=a at*;generalize v (fs.getD j 0)=e at*;generalize dotV v x.cs fs=d at*;constructor
  . intro h;grind
  intro h;grind
theorem LRow.subst_ev{x p:LRow}{fs:List Int}{j:Nat}{b:Int}(v:Int->Rat)(hl:x.cs.length=fs.length)(hp:p.cs.length=fs.length)(hj:j<fs.length)(he:v (fs.getD j 0)=p.ev v (fs.set j b)):(x.subst j p).ev v (fs.set j b)=x.ev v fs:=by
  unfold LRow.ev LRow.subst;have h1:=dotV_sub v (x.cs.getD j 0) (x.cs.set j 0) p.cs (fs.set j b) (by simp[hl,hp]);have h2:=dotV_set v 0 x.cs (fs.set j b) j (by omega) (by simpa using hj);have h3:=dotV_fset v b x.cs fs j (by omega) hj;have h4:(fs.set j b).getD j 0=b:=by simp[List.getD,List.getElem?_set_self hj]
  rw[h4]at h2;unfold LRow.ev at he;simp only[h1,h2,h3];generalize x.cs.getD j 0=a at*;generalize v (fs.getD j 0)=e at*;generalize dotV v x.cs fs=d at*
  grind
structure LTab where
  rows:List LRow
  basic:List Int
  free:List Int
structure LTab.Ok(T:LTab):Prop where
  nb:T.basic.length=T.rows.length
  cl:∀x∈T.rows,x.cs.length=T.free.length
  nd:(T.basic++T.free).Nodup
def LTab.Sat(T:LTab)(v:Int->Rat):Prop:= ∀(i:Nat) (b:Int) (x:LRow),T.basic[i]?=some b->T.rows[i]?=some x->v b=x.ev v T.free
def LTab.pivot(T:LTab)(i j:Nat):LTab:=
  ⟨T.rows.mapIdx fun k x=>if k=i then x.scale j else x.subst j ((T.rows.getD i default).scale j),T.basic.set i (T.free.getD j 0),T.free.set j (T.basic.getD i 0)⟩
def LTab.obj(T:LTab)(i j:Nat)(g:LRow):LRow:=g.subst j ((T.rows.getD i default).scale j)
section
variable {T:LTab}{i j:Nat}
theorem getD_of{α:Type _}{l:List α}{i:Nat}{x d:α}(h:l[i]?=some x):l.getD i d=x:=by simp[List.getD,h]
theorem pivot_rows(k:Nat):(T.pivot i j).rows[k]?=T.rows[k]?.map fun x=>if k=i then x.scale j else x.subst j ((T.rows.getD i default).scale j):=by
  unfold LTab.pivot;simp[List.getElem?_mapIdx]
theorem LTab.Ok.row(h:T.Ok){x:LRow}(hx:T.rows[i]?=some x):x.cs.length=T.free.length:=h.cl x (List.mem_of_getElem? hx)
theorem swap_nodup{az bs:List Int}{i j:Nat}(hn:(az++bs).Nodup)(hi:i<az.length)(hj:j<bs.length):(az.set i bs[j]++bs.set j az[i]).Nodup:=by
  have hp:(az.set i bs[j]++bs.set j az[i]).Perm (az++bs):=by
    have h1:az=az.take i++az[i]::az.drop (i+1):=by rw[<-List.drop_eq_getElem_cons,List.take_append_drop]
    have h2:bs=bs.take j++bs[j]::bs.drop (j+1):=by rw[<-List.drop_eq_getElem_cons,List.take_append_drop]
    rw[List.set_eq_take_append_cons_drop,if_pos hi,List.set_eq_take_append_cons_drop,if_pos hj];refine List.Perm.trans ?_ (List.Perm.of_eq (congr (congrArg HAppend.hAppend h1.symm) h2.symm));generalize az.take i=a1;generalize az.drop (i+1)=a2;generalize bs.take j=b1;generalize bs.drop (j+1)=b2;generalize az[i]=x;generalize bs[j]=y;rw[List.perm_iff_count];intro z;simp[List.count_append,List.count_cons];omega
  exact hp.nodup_iff.2 hn
theorem LTab.Ok.pivot(h:T.Ok)(hi:i<T.rows.length)(hj:j<T.free.length):(T.pivot i j).Ok:=by
  have hi':i<T.basic.length:=h.nb▸hi;refine⟨by simp[LTab.pivot,h.nb],fun x hx=>?_,?_⟩
  . obtain⟨k,hk⟩:=List.mem_iff_getElem?.1 hx;rw[pivot_rows]at hk
    cases e:T.rows[k]? with
    |none=>rw[e]at hk;cases hk
    | some y=>
      rw[e]at hk;simp only[Option.map_some,Option.some.injEq]at hk;subst hk;have:=h.row e;simp only[LTab.pivot,List.length_set]
      split
      . rw[LRow.scale_len,this]
      rw[LRow.subst_len,this]
  have:=swap_nodup h.nd hi' hj
  simpa[LTab.pivot,List.getD,List.getElem?_eq_getElem hi',List.getElem?_eq_getElem hj]using this
theorem LTab.Ok.sat_pivot(h:T.Ok){x:LRow}(hx:T.rows[i]?=some x)(hj:j<T.free.length)(ha:x.cs.getD j 0≠0)(v:Int->Rat):(T.pivot i j).Sat v↔T.Sat v:=by
  have hi:i<T.rows.length:=(List.getElem?_eq_some_iff.1 hx).1;have hi':i<T.basic.length:=h.nb▸hi;obtain⟨b,hb⟩:∃b,T.basic[i]?=some b:=⟨_,List.getElem?_eq_getElem hi'⟩;have key:=LRow.scale_ev (x:=x) (fs:=T.free) (j:=j) (b:=b) v (h.row hx) hj ha;have hxd:T.rows.getD i default=x:=getD_of hx
  have he:∀(y:LRow) (k:Nat),T.rows[k]?=some y->v (T.free.getD j 0)=(x.scale j).ev v (T.free.set j b)->(y.subst j (x.scale j)).ev v (T.free.set j b)=y.ev v T.free:=fun y k hy hh=>
    LRow.subst_ev v (h.row hy) ((LRow.scale_len x j).trans (h.row hx)) hj hh
  constructor
  . intro hs;have h0:=hs i (T.free.getD j 0) (x.scale j) (by simp[LTab.pivot,List.getElem?_set_self hi']) (by rw[pivot_rows,hx];simp);rw[show(T.pivot i j).free=T.free.set j b by simp[LTab.pivot,hb]]at h0;intro k c y hc hy
    by_cases hk:k=i
    . subst hk;rw[hb]at hc;rw[hx]at hy;cases hc;cases hy
      exact key.2 h0
    have h1:=hs k c (y.subst j (x.scale j)) (by simp[LTab.pivot,List.getElem?_set_ne (Ne.symm hk),hc]) (by rw[pivot_rows,hy];simp[hk,hx]);rw[show(T.pivot i j).free=T.free.set j b by simp[LTab.pivot,hb],he y k hy h0]at h1;exact h1
  intro hs;have h0:=key.1 (hs i b x hb hx);intro k c y hc hy;rw[show(T.pivot i j).free=T.free.set j b by simp[LTab.pivot,hb]];rw[pivot_rows]at hy
  cases e:T.rows[k]? with
  |none=>rw[e]at hy;cases hy
  | some z=>
    rw[e]at hy;simp only[Option.map_some,Option.some.injEq]at hy;subst hy
    by_cases hk:k=i
    . subst hk;rw[hx]at e;cases e
      rw[if_pos rfl];have:(T.pivot k j).basic[k]?=some (T.free.getD j 0):=by simp[LTab.pivot,List.getElem?_set_self hi']
      rw[this]at hc;cases hc
      exact h0
    rw[if_neg hk,hxd,he z k e h0];refine hs k c z ?_ e;have:(T.pivot i j).basic[k]?=T.basic[k]?:=by simp[LTab.pivot,List.getElem?_set_ne (Ne.symm hk)]
    rwa [this]at hc
theorem LTab.Ok.obj_ev(h:T.Ok){x g:LRow}(hx:T.rows[i]?=some x)(hj:j<T.free.length)(ha:x.cs.getD j 0≠0)(hg:g.cs.length=T.free.length){v:Int->Rat}(hs:T.Sat v):(T.obj i j g).ev v (T.pivot i j).free=g.ev v T.free:=by
  have hi:i<T.rows.length:=(List.getElem?_eq_some_iff.1 hx).1;have hi':i<T.basic.length:=h.nb▸hi;obtain⟨b,hb⟩:∃b,T.basic[i]?=some b:=⟨_,List.getElem?_eq_getElem hi'⟩;have hxd:T.rows.getD i default=x:=getD_of hx;have h0:=(LRow.scale_ev (x:=x) (fs:=T.free) (j:=j) (b:=b) v (h.row hx) hj ha).1 (hs i b x hb hx);rw[show(T.pivot i j).free=T.free.set j b by simp[LTab.pivot,List.getD,hb]];unfold LTab.obj;rw[hxd];exact LRow.subst_ev v hg ((LRow.scale_len x j).trans (h.row hx)) hj h0
end
end
section
structure Rw4 where
  s:Sl
  n:Bool
  y:Sl
  z:Sl
def Rw4.cs(x:Rw4):List Value:=[.slice x.s.p x.s.l x.s.c,.bool x.n,.slice x.y.p x.y.l x.y.c,.slice x.z.p x.z.l x.z.c]
def Rw4.q(x:Rw4):Value:=.agg #[.bool x.n,.slice x.y.p x.y.l x.y.c,.slice x.z.p x.z.l x.z.c]
def rw4K:EK Rw4 where
  sz:=4
  pos:=by decide
  R:=fun _ cs x=>cs=x.cs
  len:=fun e=>by rw[e];rfl
  one:=fun e u hu=>by
    subst e;simp only[Rw4.cs,List.mem_cons,List.not_mem_nil,or_false]at hu
    rcases hu with rfl|rfl|rfl|rfl<;>rfl
  below:=fun e _=>e
theorem rw4K_free:rw4K.Free:=fun _ _ _ _ h=>h
instance :OwnK rw4K:=⟨[],fun h _ _ _ _ _ _=>h,.inl rw4K_free⟩
structure Lns where
  g:Nat
  o:Nat
  ow:Nat->Prop
  F:Rw4->World->Prop
  lt:∀{x w r},F x w->ow r->r<w.heap.size
  bel:∀{x w w'},F x w->Below w.heap.size w w'->F x w'
  spa:∀{x w R},F x w-> ¬ow R->Spares R w (F x)
  og:ow g
  hd:∀{x w},F x w->HdIs g 3 w
  rd:∀{x w},F x w-> ∀j u,x.cs[j]?=some u->w.cell? ⟨g,o+j,none⟩=some u
  fz:∀{x w},F x w-> ∀i,w.frozen? ⟨g,i,none⟩=false
  wr:∀{x x' w} (i:Nat) (ds:List Value),F x w->setL x.cs i ds=x'.cs->i+ds.length<=4->F x' (putAt g (o+i) ds w)
def Lns.f(L:Lns)(x:Rw4):Ft:=⟨L.ow,[],L.F x,L.lt,L.bel,fun h hn _=>L.spa h hn⟩
section
theorem setL_app(pre post:List Value):∀(ds l:List Value) (i:Nat),i+ds.length<=l.length->setL (pre++l++post) (pre.length+i) ds=pre++setL l i ds++post
  |[],_,_,_=>rfl
  | d::ds,l,i,h=>by
    have h:i+(ds.length+1)<=l.length:=h;rw[setL,setL,List.append_assoc,List.set_append_right _ _ (by omega),show pre.length+i-pre.length=i by omega,List.set_append_left _ _ (by omega), <-List.append_assoc];exact setL_app pre post ds (l.set i d) (i+1) (by rw[List.length_set];omega)
def lnB(R:Nat)(pre post:List Value)(hc:∀x:Rw4,(pre++x.cs++post)[0]?.map rkV=some 3)(ty:TypeId):Lns where
  g:=R
  o:=pre.length
  ow:=fun g=>g=R
  F:=fun x=>Has 0 R (.cells (pre++x.cs++post).toArray ty)
  lt:=fun h e=>e▸Has.ltS (base:=0) h
  bel:=fun h hb=>Has.below (base:=0) h hb
  spa:=fun h hn=>has_spare (base:=0) h fun e=>hn e.symm
  og:=rfl
  hd:=fun{x w} h v hv=>by
    have hx:=hc x
    cases e:(pre++x.cs++post)[0]? with
    |none=>rw[e]at hx;cases hx
    | some u=>
      rw[e]at hx;rw[Has.at (base:=0) h 0 e]at hv
      cases hv
      exact Option.some.inj hx
  rd:=fun{x w} h j u hu=>Has.at (base:=0) h (pre.length+j) (by
    have hj:=(List.getElem?_eq_some_iff.1 hu).1;rw[List.append_assoc,List.getElem?_append_right (by omega),show pre.length+j-pre.length=j by omega,List.getElem?_append_left hj];exact hu)
  fz:=fun h=>Has.fz (base:=0) h
  wr:=fun{x x' w} i ds h hs hi=>by
    have:=has_put (base:=0) h (pre.length+i) ds (Below.refl _ _);rw[setL_app _ _ _ _ _ (by show i+ds.length<=4;exact hi),hs]at this;exact this
end
section
variable {P:Program}{V:World}{ops:Array Oper}{Q:Act->World->Prop}{f0 fs fs':List Ft}{ks:List Nat}{o:Oper}{rest:List Oper}{a a':Act}
theorem eLw{L:Lns}{x:Rw4}(x':Rw4)(i j:Nat)(ds:List Value)(h:Sx P V ops Q f0 ks rest fs' a')(hi:fs[i]?=some (L.f x):=by rfl)(hx:setL x.cs j ds=x'.cs:=by rfl)(hj:j+ds.length<=4:=by exact Nat.le_of_ble_eq_true rfl)(hf:fs.set i (L.f x')=fs':=by(simp only[pB,pC])<;>exact rfl)(hs:f0.Sublist fs':=by exact List.nil_sublist _)(hq:OzL i fs\/OkL 3 i fs:=by first|(refine .inl ?_;(repeat (first|exact trivial|(show OzA _;assumption)|refine⟨rfl,?_⟩))<;>fail)|(refine .inr ?_;(repeat (first|exact trivial|(show OkA _ _;assumption)|refine⟨rfl,?_⟩))<;>fail))(hg:Wants ops o a:=by first|exact wants0 rfl|exact wantsg rfl rfl rfl rfl)
    (h1:∀w,(L.f x).F w->Does P (fun u w'=>u=undef/\w'=putAt L.g (L.o+j) ds w) ((execOp a.eval o).run P w):=by intro w' k;have c0:=L.rd k 0 _ rfl;have c1:=L.rd k 1 _ rfl;have c2:=L.rd k 2 _ rfl;have c3:=L.rd k 3 _ rfl;have f:=L.fz k;go_simp;exact⟨rfl,rfl⟩) (ha:a.put o.dst undef=a':=by(simp only[mkOf,Act.put,pA,pB,pC,pD,pE])<;>exact rfl):Sx P V ops Q f0 (4::ks) (o::rest) fs a:=
  sxS (R:=L.g) (f2:=L.f x') hi L.og (fun _ h=>h) (fun w k=>hq.elim qtZ fun hk=>qtN (fun R' e=>by injection e with e;subst e;exact L.hd k) hk) (by rw[hf];exact hs) hg (fun w _ k=>(h1 w k).mono fun u w' ⟨e1,e2⟩=>by subst e2;exact⟨e1,⟨_,_,rfl⟩,L.wr j ds k hx hj⟩) (by rw[hf,ha];exact h)
end
def stF(S:List Nat)(fs:List Ft)(hS:∀f∈fs,∀n,f.ln.contains n=true->S.contains n=true):Ft:=
  ⟨fun g=> ∃f∈fs,f.own g,S,fun w=>(∀f∈fs,f.F w)/\fs.Pairwise fun f f'=> ∀g,f.own g-> ¬f'.own g,
    fun⟨h,_⟩ ⟨f,hf,hg⟩=>f.lt (h f hf) hg,fun⟨h,ha⟩ hb=>⟨fun f hf=>f.bel (h f hf) hb,ha⟩,
    fun{w R} ⟨h,ha⟩ hn hS' w1 h1 h2 w2 h3=>⟨fun f hf=>f.spa (h f hf) (fun e=>hn ⟨f,hf,e⟩) (fun v hv=>by
      have:=hS' v hv
      cases e:f.ln.contains (rkV v)with
      |false=>rfl
      |true=>rw[hS f hf _ e]at this;cases this) w1 h1 h2 w2 h3,ha⟩⟩
section
variable {V w:World}{l fs:List Ft}{S:List Nat}{hS:∀f∈fs,∀n,f.ln.contains n=true->S.contains n=true}
theorem SS.star:SS V (stF S fs hS::l) w↔SS V (fs++l) w:=by
  constructor
  . intro h;obtain⟨h1,h2⟩:=List.pairwise_cons.1 h.ap;obtain⟨h3,h4⟩:=h.get m0;refine⟨h.old,fun f hf=>(List.mem_append.1 hf).elim (h3 f) fun hf=>h.has f (List.mem_cons_of_mem _ hf),fun f hf g hg=>(List.mem_append.1 hf).elim (fun hf=>h.lo _ (List.mem_cons_self ..) g ⟨f,hf,hg⟩) fun hf=>h.lo f (List.mem_cons_of_mem _ hf) g hg,List.pairwise_append.2 ⟨h4,h2,fun f hf f' hf' g hg=>h1 f' hf' g ⟨f,hf,hg⟩⟩⟩
  intro h;obtain⟨h1,h2,h3⟩:=List.pairwise_append.1 h.ap;refine⟨h.old,fun f hf=>?_,fun f hf g hg=>?_,.cons (fun f' hf' g ⟨f,hf,hg⟩=>h3 f hf f' hf' g hg) h2⟩
  . rcases List.mem_cons.1 hf with rfl|hf
    . exact⟨fun f hf=>h.has f (List.mem_append_left _ hf),h1⟩
    exact h.has f (List.mem_append_right _ hf)
  rcases List.mem_cons.1 hf with rfl|hf
  . obtain⟨f',hf',hg⟩:=hg;exact h.lo f' (List.mem_append_left _ hf') g hg
  exact h.lo f (List.mem_append_right _ hf) g hg
end
instance :Inhabited Rw4:=⟨⟨⟨none,0,0⟩,false,⟨none,0,0⟩,⟨none,0,0⟩⟩⟩
def rw1(t:TypeId)(x:Rw4)(y:LRow):List Ft:=[rO ratK t x.s.p x.s.l x.s.c y.cs,qF x.q y.r]
def fmL(t:TypeId)(rs:List Rw4)(T:List LRow)(js:List Nat):List Ft:=js.flatMap fun j=>rw1 t (rs.getD j default) (T.getD j default)
theorem fm_ln{t:TypeId}{rs:List Rw4}{T:List LRow}{js:List Nat}:∀f∈fmL t rs T js,∀n,f.ln.contains n=true->[0].contains n=true:=fun f hf n hn=>by
  obtain⟨j,_,h⟩:=List.mem_flatMap.1 hf
  rcases List.mem_cons.1 h with rfl|h
  . exact hn
  rcases List.mem_cons.1 h with rfl|h
  . exact hn
  cases h
def fmJ(n:Nat)(ex:List Nat):List Nat:=(List.range n).filter fun j=> !ex.contains j
def fmF(t:TypeId)(rs:List Rw4)(T:List LRow)(ex:List Nat):Ft:=stF [0] (fmL t rs T (fmJ T.length ex)) fm_ln
section
variable {V w:World}{l:List Ft}{t:TypeId}{rs:List Rw4}{T:List LRow}{k:Nat}{ex:List Nat}{x:Rw4}{y:LRow}
theorem fmJ_mem{n j:Nat}:j∈fmJ n ex↔j<n/\j∉ex:=by
  unfold fmJ;rw[List.mem_filter,List.mem_range];simp
theorem fmJ_all{n:Nat}:fmJ n []=List.range n:=List.filter_eq_self.2 fun _j _hj=>rfl
theorem fmJ_perm{n:Nat}(h:k<n)(hk:k∉ex):(fmJ n ex).Perm (k::fmJ n (k::ex)):=by
  refine(List.perm_ext_iff_of_nodup (List.Pairwise.filter _ List.nodup_range) (List.nodup_cons.2 ⟨fun w=>(fmJ_mem.1 w).2 (List.mem_cons_self ..),List.Pairwise.filter _ List.nodup_range⟩)).2 fun j=>?_
  show j∈fmJ n ex↔j∈k::fmJ n (k::ex)
  rw[List.mem_cons,fmJ_mem,fmJ_mem,List.mem_cons];constructor
  . intro hj
    by_cases e:j=k
    . exact .inl e
    exact .inr ⟨hj.1,fun w=>w.elim e hj.2⟩
  rintro(rfl|⟨h1,h2⟩)
  . exact⟨h,hk⟩
  exact⟨h1,fun w=>h2 (.inr w)⟩
theorem fmL_perm{js js':List Nat}(h:js.Perm js'):(fmL t rs T js).Perm (fmL t rs T js'):=h.flatMap_right _
theorem getD_at{α:Type}[Inhabited α]{l:List α}{k:Nat}{x:α}(h:l[k]?=some x):l.getD k default=x:=by rw[List.getD_eq_getElem?_getD,h];rfl
theorem SS.rwO(h:SS V (fmF t rs T ex::l) w)(hk:k∉ex)(hx:rs[k]?=some x)(hy:T[k]?=some y):SS V (rO ratK t x.s.p x.s.l x.s.c y.cs::qF x.q y.r::fmF t rs T (k::ex)::l) w:=by
  have hkl:=(List.getElem?_eq_some_iff.1 hy).1;have h2:=(SS.star.1 h).perm ((fmL_perm (t:=t) (rs:=rs) (T:=T) (fmJ_perm hkl hk)).append_right l)
  have e:fmL t rs T (k::fmJ T.length (k::ex))=rO ratK t x.s.p x.s.l x.s.c y.cs::qF x.q y.r::fmL t rs T (fmJ T.length (k::ex)):=by
    show rw1 t (rs.getD k default) (T.getD k default)++_=_
    rw[getD_at hx,getD_at hy];rfl
  rw[e]at h2;have h3:SS V (fmL t rs T (fmJ T.length (k::ex))++(rO ratK t x.s.p x.s.l x.s.c y.cs::qF x.q y.r::l)) w:=h2.perm (List.perm_middle.trans (List.perm_middle.cons _)).symm;have h4:SS V (fmF t rs T (k::ex)::rO ratK t x.s.p x.s.l x.s.c y.cs::qF x.q y.r::l) w:=SS.star.2 h3;exact h4.perm ((List.Perm.swap ..).trans ((List.Perm.swap ..).cons _))
theorem fm_other{js:List Nat}(hk:k∉js):fmL t (rs.set k x) (T.set k y) js=fmL t rs T js:=by
  unfold fmL
  induction js with
  |nil=>rfl
  | cons j js ih=>
    have hne:k≠j:=fun e=>hk (e▸List.mem_cons_self ..)
    rw[List.flatMap_cons,List.flatMap_cons,ih (fun w=>hk (List.mem_cons_of_mem _ w)),List.getD_eq_getElem?_getD,List.getD_eq_getElem?_getD,List.getElem?_set_ne hne,List.getElem?_set_ne hne, <-List.getD_eq_getElem?_getD, <-List.getD_eq_getElem?_getD]
theorem SS.rwB(h:SS V (rO ratK t x.s.p x.s.l x.s.c y.cs::qF x.q y.r::fmF t rs T (k::ex)::l) w)(hk:k∉ex)(hk1:k<T.length)(hk2:k<rs.length):SS V (fmF t (rs.set k x) (T.set k y) ex::l) w:=by
  have h1:SS V (fmF t rs T (k::ex)::rO ratK t x.s.p x.s.l x.s.c y.cs::qF x.q y.r::l) w:=h.perm (((List.Perm.swap ..).cons _).trans (List.Perm.swap ..));have h2:=SS.star.1 h1;have hnk:k∉fmJ T.length (k::ex):=fun w=>(fmJ_mem.1 w).2 (List.mem_cons_self ..)
  rw[<-fm_other (x:=x) (y:=y) hnk]at h2;refine SS.star.2 (h2.perm ?_);rw[List.length_set]
  have e:fmL t (rs.set k x) (T.set k y) (k::fmJ T.length (k::ex))=rO ratK t x.s.p x.s.l x.s.c y.cs::qF x.q y.r::fmL t (rs.set k x) (T.set k y) (fmJ T.length (k::ex)):=by
    show rw1 t ((rs.set k x).getD k default) ((T.set k y).getD k default)++_=_
    rw[getD_at (List.getElem?_set_self hk2),getD_at (List.getElem?_set_self hk1)];rfl
  have hp:=(fmL_perm (t:=t) (rs:=rs.set k x) (T:=T.set k y) (fmJ_perm hk1 hk)).symm;rw[e]at hp;refine List.Perm.trans ?_ (hp.append_right l);exact List.perm_middle.trans (List.perm_middle.cons _)
theorem SS.rwX(h:SS V (fmF t rs T (k::ex)::l) w)(x:Rw4)(y:LRow):SS V (fmF t (rs.set k x) (T.set k y) (k::ex)::l) w:=by
  have h2:=SS.star.1 h;have hnk:k∉fmJ T.length (k::ex):=fun w=>(fmJ_mem.1 w).2 (List.mem_cons_self ..)
  rw[<-fm_other (x:=x) (y:=y) hnk]at h2;refine SS.star.2 ?_;rw[List.length_set];exact h2
theorem SS.rwZ(h:SS V l w)(t:TypeId):SS V (fmF t [] [] []::l) w:=SS.star.2 h
theorem SS.rwN(h:SS V (rO ratK t x.s.p x.s.l x.s.c y.cs::qF x.q y.r::fmF t rs T []::l) w)(hl:rs.length=T.length):SS V (fmF t (rs++[x]) (T++[y]) []::l) w:=by
  have h1:SS V (fmF t rs T []::rO ratK t x.s.p x.s.l x.s.c y.cs::qF x.q y.r::l) w:=h.perm (((List.Perm.swap ..).cons _).trans (List.Perm.swap ..));have h2:=SS.star.1 h1;refine SS.star.2 ?_;rw[List.length_append,List.length_singleton,fmJ_all,List.range_succ];rw[fmJ_all]at h2
  have e:fmL t (rs++[x]) (T++[y]) (List.range T.length++[T.length])=fmL t rs T (List.range T.length)++rw1 t x y:=by
    have e1:∀js:List Nat,(∀j∈js,j<T.length)->fmL t (rs++[x]) (T++[y]) js=fmL t rs T js:=fun js=>by
      induction js with
      |nil=>intro _;rfl
      | cons j js ih=>
        intro hj;have h0:=hj j (List.mem_cons_self ..);have h3:=ih fun b hb=>hj b (List.mem_cons_of_mem _ hb)
        unfold fmL at h3⊢;rw[List.flatMap_cons,List.flatMap_cons,h3,List.getD_eq_getElem?_getD,List.getD_eq_getElem?_getD,List.getElem?_append_left (by omega),List.getElem?_append_left h0, <-List.getD_eq_getElem?_getD, <-List.getD_eq_getElem?_getD]
    have e2:∀js js':List Nat,fmL t (rs++[x]) (T++[y]) (js++js')=fmL t (rs++[x]) (T++[y]) js++fmL t (rs++[x]) (T++[y]) js':=fun js js'=>List.flatMap_append ..
    rw[e2,e1 _ fun j hj=>List.mem_range.1 hj]
    congr 1
    show rw1 t ((rs++[x]).getD T.length default) ((T++[y]).getD T.length default)++[]=_
    rw[List.append_nil,getD_at (show(rs++[x])[T.length]?=some x by rw[<-hl];simp),getD_at (show(T++[y])[T.length]?=some y by simp)]
  rw[e,List.append_assoc];exact h2
theorem SS.rwQ(h:SS V l w)(hf:fmF t rs T ex∈l)(hk:k∉ex)(hx:rs[k]?=some x)(hy:T[k]?=some y):RatV w x.q y.r:=by
  have:=(h.get hf).1 (qF x.q y.r) (List.mem_flatMap.2 ⟨k,fmJ_mem.2 ⟨(List.getElem?_eq_some_iff.1 hy).1,hk⟩,by rw[getD_at hx,getD_at hy];exact List.mem_cons_of_mem _ (List.mem_cons_self ..)⟩);exact this
theorem SS.rwR(h:SS V l w)(hf:fmF t rs T ex∈l)(hk:k∉ex)(hx:rs[k]?=some x)(hy:T[k]?=some y):OwV ratK t 0 w (.slice x.s.p x.s.l x.s.c) y.cs:=by
  have:=(h.get hf).1 (rO ratK t x.s.p x.s.l x.s.c y.cs) (List.mem_flatMap.2 ⟨k,fmJ_mem.2 ⟨(List.getElem?_eq_some_iff.1 hy).1,hk⟩,by rw[getD_at hx,getD_at hy];exact List.mem_cons_self ..⟩);exact this
end
def lnE(tt:TypeId)(g n c:Nat)(rs:List Rw4)(k:Nat)(hk:k<rs.length):Lns where
  g:=g
  o:=k*4
  ow:=fun r=>ob (some ⟨g,0,none⟩)=some r
  F:=fun x w=>OwV rw4K tt 0 w (.slice (some ⟨g,0,none⟩) n c) (rs.set k x)
  lt:=fun h e=>(OwV.block (K:=rw4K) h e).2
  bel:=fun h hb=>OwV.below (K:=rw4K) h hb
  spa:=fun h hn=>OwV.spare (K:=rw4K) h (by rw[ob_eq];exact hn) (.inl rw4K_free)
  og:=rfl
  hd:=fun{x w} h=>OwV.hd (K:=rw4K) h (List.ne_nil_of_length_pos (by rw[List.length_set];omega)) fun h hu=>by cases h;cases hu;rfl
  rd:=fun{x w} h j u hu=>by
    have:=h.slv.cel (f:=Rw4.cs) (fun e=>e) (List.getElem?_set_self hk) j hu
    rwa [show 0+k*rw4K.sz+j=k*4+j by show 0+k*4+j=_;omega]at this
  fz:=fun h=>OwV.fz (K:=rw4K) h
  wr:=fun{x x' w} i ds h hs hi=>by
    have:=OwV.putF (K:=rw4K) (f:=Rw4.cs) (fun _ _ _=>Iff.rfl) h (List.getElem?_set_self hk) hs hi _ (Below.refl _ _);rw[List.set_set]at this;exact this
section
variable {P:Program}{V:World}{ops:Array Oper}{Q:Act->World->Prop}{f0 fs fs':List Ft}{ks:List Nat}{o:Oper}{rest:List Oper}{a a':Act}{t:TypeId}
theorem eRq{g n c j:Nat}{xs:List Rat}{q:Rat}{a2:Duo Sl Sl->Act}(hm:rO ratK t (some ⟨g,0,none⟩) n c xs∈fs)(hx:xs[j]?=some q)(h:∀x:Duo Sl Sl,Sx P V ops Q f0 ks rest (qF (.agg #[.bool (isN q),.slice x.a.p x.a.l x.a.c,.slice x.b.p x.b.l x.b.c]) q::fs) (a2 x))(hg:Wants ops o a:=by first|exact wants0 rfl|exact wantsg rfl rfl rfl rfl)
    (h1:∀w v0 v1 v2,w.cell? ⟨g,j*3,none⟩=some v0->w.cell? ⟨g,j*3+1,none⟩=some v1->w.cell? ⟨g,j*3+2,none⟩=some v2->Flt (.agg #[v0,v1,v2]) w ((execOp a.eval o).run P w):=by intro w' v0 v1 v2 c0 c1 c2;go_simp;(try go_bits);exact⟨rfl,rfl⟩) (ha:∀x:Duo Sl Sl,a.put o.dst (.agg #[.bool (isN q),.slice x.a.p x.a.l x.a.c,.slice x.b.p x.b.l x.b.c])=a2 x:=by intro x;(simp only[mkOf,Act.put,pA,pB,pC,pD,pE])<;>exact rfl):Sx P V ops Q f0 (2::ks) (o::rest) fs a:=
  sx2 (α:=Duo Sl Sl) (f:=fun x=>.agg #[.bool (isN q),.slice x.a.p x.a.l x.a.c,.slice x.b.p x.b.l x.b.c]) (l':=fun x=>[qF (.agg #[.bool (isN q),.slice x.a.p x.a.l x.a.c,.slice x.b.p x.b.l x.b.c]) q]) hg (fun w hw=>by
    obtain⟨v0,v1,v2,hc,hr⟩:=(hw.own hm).slv.rat hx;have hf:=h1 w v0 v1 v2 (by have:=hc.2.1;rwa [show 0+j*3=j*3 by omega]at this) (by have:=hc.2.2.1;rwa [show 0+j*3=j*3 by omega]at this) (by have:=hc.2.2.2;rwa [show 0+j*3=j*3 by omega]at this);obtain⟨rfl,⟨p,l,d,rfl⟩,p',l',d',rfl⟩:=ratV_cells' hr;exact Flt.does ⟨⟨⟨p,l,d⟩,⟨p',l',d'⟩⟩,rfl,(SS.start w).fact (qF _ _) hr⟩ hf) fun x=>by rw[ha];exact h x
end
section
variable {L:Lns}{x:Rw4}{w:World}
theorem Lns.rd0(h:(L.f x).F w):w.cell? ⟨L.g,L.o,none⟩=some (.slice x.s.p x.s.l x.s.c):=L.rd h 0 _ rfl
theorem Lns.rd1(h:(L.f x).F w):w.cell? ⟨L.g,L.o+1,none⟩=some (.bool x.n):=L.rd h 1 _ rfl
theorem Lns.rd2(h:(L.f x).F w):w.cell? ⟨L.g,L.o+2,none⟩=some (.slice x.y.p x.y.l x.y.c):=L.rd h 2 _ rfl
theorem Lns.rd3(h:(L.f x).F w):w.cell? ⟨L.g,L.o+3,none⟩=some (.slice x.z.p x.z.l x.z.c):=L.rd h 3 _ rfl
end
section
variable {w:World}{g n c i b:Nat}{t:TypeId}
theorem OwV.rwc{rs:List Rw4}{x:Rw4}(h:OwV rw4K t b w (.slice (some ⟨g,0,none⟩) n c) rs)(hx:rs[i]?=some x)(j:Nat){u:Value}(hu:x.cs[j]?=some u):w.cell? ⟨g,i*4+j,none⟩=some u:=by
  have h1:=h.slv.cel (f:=Rw4.cs) (fun e=>e) hx j hu
  rwa [show 0+i*rw4K.sz+j=i*4+j from by show 0+i*4+j=_;omega]at h1
theorem OwV.rwc0{rs:List Rw4}{x:Rw4}(h:OwV rw4K t b w (.slice (some ⟨g,0,none⟩) n c) rs)(hx:rs[i]?=some x):w.cell? ⟨g,i*4,none⟩=some (.slice x.s.p x.s.l x.s.c):=h.rwc hx 0 rfl
end
section
variable {P:Program}{V:World}{ops:Array Oper}{Q:Act->World->Prop}{f0 fs fs':List Ft}{ks:List Nat}{o:Oper}{rest:List Oper}{a a':Act}{t:TypeId}
theorem eWr{g n c m:Nat}{rs:List Rw4}{x:Rw4}(x':Rw4)(i j:Nat)(ds:List Value)(hm:rs[m]?=some x)(h:Sx P V ops Q f0 ks rest fs' a')(hi:fs[i]?=some (rO rw4K t (some ⟨g,0,none⟩) n c rs):=by rfl)(hx:setL x.cs j ds=x'.cs:=by rfl)(hj:j+ds.length<=4:=by exact Nat.le_of_ble_eq_true rfl)(hf:fs.set i (rO rw4K t (some ⟨g,0,none⟩) n c (rs.set m x'))=fs':=by(simp only[pB,pC])<;>exact rfl)(hs:f0.Sublist fs':=by exact List.nil_sublist _)(hq:OzL i fs\/OkL 3 i fs:=by first|(refine .inl ?_;(repeat (first|exact trivial|(show OzA _;assumption)|refine⟨rfl,?_⟩))<;>fail)|(refine .inr ?_;(repeat (first|exact trivial|(show OkA _ _;assumption)|refine⟨rfl,?_⟩))<;>fail))(hg:Wants ops o a:=by first|exact wants0 rfl|exact wantsg rfl rfl rfl rfl)
    (h1:∀w,OwV rw4K t 0 w (.slice (some ⟨g,0,none⟩) n c) rs->Does P (fun u w'=>u=undef/\w'=putAt g (m*4+j) ds w) ((execOp a.eval o).run P w):=by intro w' k;have c0:=k.rwc0 hm;have c1:=k.rwc hm 1 rfl;have c2:=k.rwc hm 2 rfl;have c3:=k.rwc hm 3 rfl;have f:=OwV.fz k;go_simp;exact⟨rfl,rfl⟩) (ha:a.put o.dst undef=a':=by(simp only[mkOf,Act.put,pA,pB,pC,pD,pE])<;>exact rfl):Sx P V ops Q f0 (4::ks) (o::rest) fs a:=
  sxS (R:=g) (f2:=rO rw4K t (some ⟨g,0,none⟩) n c (rs.set m x')) hi rfl (fun _ h=>h) (fun w k=>hq.elim qtZ fun hk=>qtN (fun R' e=>by injection e with e;subst e;exact OwV.hd (K:=rw4K) k (List.ne_nil_of_length_pos (by have:=(List.getElem?_eq_some_iff.1 hm).1;omega)) (fun h hu=>by cases h;cases hu;rfl)) hk) (by rw[hf];exact hs) hg (fun w _ k=>(h1 w k).mono fun u w' ⟨e1,e2⟩=>by
    subst e2;exact⟨e1,⟨_,_,rfl⟩,OwV.putF (K:=rw4K) (f:=Rw4.cs) (fun _ _ _=>Iff.rfl) k hm hx hj _ (Below.refl _ _)⟩) (by rw[hf,ha];exact h)
end
end
section
def entN(cs:List Rat)(fs:List Int):Nat->Int
  |0=> -1
  |k+1=>if cs.getD k 0<0/\(entN cs fs k<0\/fs.getD k 0<fs.getD (entN cs fs k).toNat 0)then(k:Int)else entN cs fs k
theorem entN_spec(cs:List Rat)(fs:List Int)(k:Nat):(entN cs fs k= -1/\ ∀m,m<k->0<=cs.getD m 0)\/ ∃j:Nat,j<k/\entN cs fs k=(j:Int)/\cs.getD j 0<0/\ ∀m,m<k->cs.getD m 0<0->fs.getD j 0<=fs.getD m 0:=by
  induction k with
  |zero=>exact .inl ⟨rfl,fun m h=>absurd h (Nat.not_lt_zero _)⟩
  | succ k ih=>
    unfold entN
    rcases ih with⟨h1,h2⟩|⟨j,hj,h1,h2,h3⟩
    . rw[h1]
      by_cases hc:cs.getD k 0<0
      . rw[if_pos ⟨hc,.inl (by decide)⟩];refine .inr ⟨k,Nat.lt_succ_self _,rfl,hc,fun m hm hn=>?_⟩
        rcases Nat.lt_or_eq_of_le (Nat.le_of_lt_succ hm)with h|rfl
        . have:=h2 m h;grind
        exact Int.le_refl _
      rw[if_neg (fun h=>hc h.1)];refine .inl ⟨rfl,fun m hm=>?_⟩
      rcases Nat.lt_or_eq_of_le (Nat.le_of_lt_succ hm)with h|rfl
      . exact h2 m h
      grind
    rw[h1]
    by_cases hc:cs.getD k 0<0/\((j:Int)<0\/fs.getD k 0<fs.getD (j:Int).toNat 0)
    . rw[if_pos hc];obtain⟨hc,hd⟩:=hc;rw[Int.toNat_natCast]at hd;refine .inr ⟨k,Nat.lt_succ_self _,rfl,hc,fun m hm hn=>?_⟩
      rcases Nat.lt_or_eq_of_le (Nat.le_of_lt_succ hm)with h|rfl
      . have:=h3 m h hn;omega
      exact Int.le_refl _
    rw[if_neg hc];refine .inr ⟨j,by omega,rfl,h2,fun m hm hn=>?_⟩
    rcases Nat.lt_or_eq_of_le (Nat.le_of_lt_succ hm)with h|rfl
    . exact h3 m h hn
    rw[Int.toNat_natCast]at hc
    rcases Int.lt_or_le (fs.getD m 0) (fs.getD j 0)with h|h
    . exact absurd ⟨hn,.inr h⟩ hc
    exact h
def leaN(rs:List LRow)(bs:List Int)(j:Nat):Nat->Int × Rat
  |0=>(-1,0)
  | k +1=>if(rs.getD k default).cs.getD j 0<=0 then leaN rs bs j k else
      if(leaN rs bs j k).1<0\/(rs.getD k default).r/(rs.getD k default).cs.getD j 0<(leaN rs bs j k).2\/((rs.getD k default).r/(rs.getD k default).cs.getD j 0=(leaN rs bs j k).2/\bs.getD k 0<bs.getD (leaN rs bs j k).1.toNat 0)
      then((k:Int),(rs.getD k default).r/(rs.getD k default).cs.getD j 0)else leaN rs bs j k
def quoR(rs:List LRow)(j k:Nat):Rat:=(rs.getD k default).r/(rs.getD k default).cs.getD j 0
def cofR(rs:List LRow)(j k:Nat):Rat:=(rs.getD k default).cs.getD j 0
theorem leaN_succ(rs:List LRow)(bs:List Int)(j k:Nat):leaN rs bs j (k+1)=if cofR rs j k<=0 then leaN rs bs j k else
      if(leaN rs bs j k).1<0\/quoR rs j k<(leaN rs bs j k).2\/(quoR rs j k=(leaN rs bs j k).2/\bs.getD k 0<bs.getD (leaN rs bs j k).1.toNat 0)then((k:Int),quoR rs j k)else leaN rs bs j k:=rfl
theorem leaN_spec(rs:List LRow)(bs:List Int)(j k:Nat):(leaN rs bs j k=(-1,0)/\ ∀m,m<k->cofR rs j m<=0)\/ ∃i:Nat,i<k/\leaN rs bs j k=((i:Int),quoR rs j i)/\0<cofR rs j i/\
    ∀m,m<k->0<cofR rs j m->quoR rs j i<=quoR rs j m/\(quoR rs j i=quoR rs j m->bs.getD i 0<=bs.getD m 0):=by
  induction k with
  |zero=>exact .inl ⟨rfl,fun m h=>absurd h (Nat.not_lt_zero _)⟩
  | succ k ih=>
    rw[leaN_succ]
    by_cases ha:cofR rs j k<=0
    . rw[if_pos ha]
      rcases ih with⟨h1,h2⟩|⟨i,hi,h1,h2,h3⟩
      . refine .inl ⟨h1,fun m hm=>?_⟩
        rcases Nat.lt_or_eq_of_le (Nat.le_of_lt_succ hm)with h|rfl
        . exact h2 m h
        exact ha
      refine .inr ⟨i,by omega,h1,h2,fun m hm hn=>?_⟩
      rcases Nat.lt_or_eq_of_le (Nat.le_of_lt_succ hm)with h|rfl
      . exact h3 m h hn
      grind
    rw[if_neg ha];have ha':0<cofR rs j k:=by grind
    rcases ih with⟨h1,h2⟩|⟨i,hi,h1,h2,h3⟩
    . rw[h1,if_pos (.inl (by show(-1:Int)<0;decide))];refine .inr ⟨k,Nat.lt_succ_self _,rfl,ha',fun m hm hn=>?_⟩
      rcases Nat.lt_or_eq_of_le (Nat.le_of_lt_succ hm)with h|rfl
      . have:=h2 m h;grind
      exact⟨Rat.le_refl,fun _=>Int.le_refl _⟩
    rw[h1];dsimp only;rw[Int.toNat_natCast]
    by_cases hc:quoR rs j k<quoR rs j i\/(quoR rs j k=quoR rs j i/\bs.getD k 0<bs.getD i 0)
    . rw[if_pos (.inr hc)];refine .inr ⟨k,Nat.lt_succ_self _,rfl,ha',fun m hm hn=>?_⟩
      rcases Nat.lt_or_eq_of_le (Nat.le_of_lt_succ hm)with h|rfl
      . obtain⟨h4,h5⟩:=h3 m h hn
        rcases hc with hc|⟨hc,hd⟩
        . exact⟨by grind,fun e=>by grind⟩
        rw[hc];exact⟨h4,fun e=>by have:=h5 e;omega⟩
      exact⟨Rat.le_refl,fun _=>Int.le_refl _⟩
    rw[if_neg (fun h=>h.elim (fun h=>by omega) hc)];refine .inr ⟨i,by omega,rfl,h2,fun m hm hn=>?_⟩
    rcases Nat.lt_or_eq_of_le (Nat.le_of_lt_succ hm)with h|rfl
    . exact h3 m h hn
    refine⟨by grind,fun e=>?_⟩
    rcases Int.lt_or_le (bs.getD m 0) (bs.getD i 0)with h|h
    . exact absurd (.inr ⟨e.symm,h⟩) hc
    exact h
def asg:List Int->List Rat->Int->Rat
  |b::bs,x::xs,n=>if n=b then x else asg bs xs n
  |_,_,_=>0
theorem asg_out:∀(bs:List Int) (xs:List Rat) (n:Int),n∉bs->asg bs xs n=0
  |[],_,_,_=>by simp[asg]
  |b::bs,[],n,_=>by simp[asg]
  | b::bs,x::xs,n,h=>by
    rw[asg,if_neg (fun e=>h (by simp[e]))];exact asg_out bs xs n (fun h2=>h (List.mem_cons_of_mem _ h2))
theorem asg_at:∀(bs:List Int) (xs:List Rat) (i:Nat) (b:Int) (x:Rat),bs.Nodup->bs[i]?=some b->xs[i]?=some x->asg bs xs b=x
  |[],_,_,_,_,_,h,_=>by simp at h
  |b::bs,[],i,_,_,_,_,h=>by simp at h
  |b::bs,x::xs,0,b',x',_,h,h'=>by simp at h h';subst h;subst h';simp[asg]
  | b::bs,x::xs,i+1,b',x',hn,h,h'=>by
    have hn2:=List.nodup_cons.1 hn;simp only[List.getElem?_cons_succ]at h h';rw[asg,if_neg (fun(e:b'=b)=>hn2.1 (e▸List.mem_of_getElem? h))];exact asg_at bs xs i b' x' hn2.2 h h'
theorem dotV_zero{v:Int->Rat}:∀{cs:List Rat} {fs:List Int},(∀f∈fs,v f=0)->dotV v cs fs=0
  |[],fs,_=>dotV_nil v fs
  |_::_,[],_=>rfl
  | c::cs,f::fs,h=>by
    have ih:=dotV_zero (cs:=cs) (fun g hg=>h g (List.mem_cons_of_mem _ hg));simp only[dotV];rw[ih,h f (List.mem_cons_self ..)];grind
theorem dotV_one{v:Int->Rat}:∀{cs:List Rat} {fs:List Int} {j:Nat},j<fs.length->j<cs.length->(∀k f,k≠j->fs[k]?=some f->v f=0)->dotV v cs fs=cs.getD j 0*v (fs.getD j 0)
  |[],_,_,_,h,_=>absurd h (Nat.not_lt_zero _)
  |_::_,[],_,h,_,_=>absurd h (Nat.not_lt_zero _)
  | c ::cs,f::fs,0,_,_,h=>by
    have h0:dotV v cs fs=0:=dotV_zero fun g hg=>by
      obtain⟨k,hk⟩:=List.mem_iff_getElem?.1 hg;exact h (k+1) g (by omega) (by simpa using hk)
    simp only[dotV,List.getD_cons_zero];rw[h0];grind
  | c::cs,f::fs,j+1,h1,h2,h=>by
    have ih:=dotV_one (cs:=cs) (fs:=fs) (j:=j) (by simpa using h1) (by simpa using h2) fun k g hk hg=>h (k+1) g (by omega) (by simpa using hg)
    have h0:v f=0:=h 0 f (by omega) rfl;simp only[dotV,List.getD_cons_succ];rw[ih,h0];grind
theorem dotV_subv(v u:Int->Rat):∀(cs:List Rat) (fs:List Int),dotV (fun n=>v n-u n) cs fs=dotV v cs fs-dotV u cs fs
  |[],fs=>by simp only[dotV_nil];grind
  |c::cs,[]=>by simp only[dotV];grind
  | c::cs,f::fs=>by
    simp only[dotV];rw[dotV_subv v u cs fs];grind
theorem dotV_neg{v:Int->Rat}:∀{cs:List Rat} {fs:List Int},dotV v cs fs<0-> ∃k f,fs[k]?=some f/\k<cs.length/\cs.getD k 0*v f<0
  |[],fs,h=>by rw[dotV_nil]at h;grind
  |c::cs,[],h=>by simp only[dotV]at h;grind
  | c::cs,f::fs,h=>by
    simp only[dotV]at h
    by_cases h1:c*v f<0
    . exact⟨0,f,rfl,by simp,by simpa using h1⟩
    obtain⟨k,g,h2,h3,h4⟩:=dotV_neg (v:=v) (cs:=cs) (fs:=fs) (by grind);exact⟨k+1,g,by simpa using h2,by simpa using h3,by simpa using h4⟩
theorem nodup_inj{l:List Int}(h:l.Nodup){i j:Nat}(hi:i<l.length)(hj:j<l.length)(e:l[i]=l[j]):i=j:=by
  rcases Nat.lt_trichotomy i j with h1|h1|h1
  . exact absurd e (List.pairwise_iff_getElem.1 h i j hi hj h1)
  . exact h1
  exact absurd e.symm (List.pairwise_iff_getElem.1 h j i hj hi h1)
section
variable {T:LTab}
theorem LTab.Ok.nd1(h:T.Ok):T.basic.Nodup:=(List.nodup_append.1 h.nd).1
theorem LTab.Ok.nd2(h:T.Ok):T.free.Nodup:=(List.nodup_append.1 h.nd).2.1
theorem LTab.Ok.apart(h:T.Ok){n:Int}(h1:n∈T.basic)(h2:n∈T.free):False:=(List.nodup_append.1 h.nd).2.2 n h1 n h2 rfl
def LTab.sol(T:LTab):Int->Rat:=asg T.basic (T.rows.map (·.r))
def LTab.pt(T:LTab)(j:Nat)(y:Rat)(n:Int):Rat:=if n=T.free.getD j 0 then y else asg T.basic (T.rows.map fun x=>x.r-x.cs.getD j 0*y) n
theorem LTab.Ok.sol_free(h:T.Ok){n:Int}(hn:n∈T.free):T.sol n=0:=asg_out _ _ _ fun hb=>h.apart hb hn
theorem LTab.Ok.sol_at(h:T.Ok){i:Nat}{b:Int}{x:LRow}(hb:T.basic[i]?=some b)(hx:T.rows[i]?=some x):T.sol b=x.r:=asg_at _ _ i b x.r h.nd1 hb (by simp[hx])
theorem LTab.Ok.sat_sol(h:T.Ok):T.Sat T.sol:=fun i b x hb hx=>by
  rw[h.sol_at hb hx];unfold LRow.ev;rw[dotV_zero fun f hf=>h.sol_free hf];grind
theorem mem_getD{l:List Int}{j:Nat}(h:j<l.length):l.getD j 0∈l:=by
  rw[List.getD,List.getElem?_eq_getElem h];exact List.getElem_mem h
theorem LTab.Ok.pt_at(h:T.Ok){i j:Nat}(hj:j<T.free.length)(y:Rat){b:Int}{x:LRow}(hb:T.basic[i]?=some b)(hx:T.rows[i]?=some x):T.pt j y b=x.r-x.cs.getD j 0*y:=by
  unfold LTab.pt;rw[if_neg (fun(e:b=T.free.getD j 0)=>h.apart (List.mem_of_getElem? hb) (e▸mem_getD hj))];exact asg_at _ _ i b _ h.nd1 hb (by simp[hx])
theorem LTab.pt_j(T:LTab)(j:Nat)(y:Rat):T.pt j y (T.free.getD j 0)=y:=by unfold LTab.pt;rw[if_pos rfl]
theorem LTab.pt_out{j:Nat}(y:Rat){n:Int}(hn:n∉T.basic)(hne:n≠T.free.getD j 0):T.pt j y n=0:=by
  unfold LTab.pt;rw[if_neg hne];exact asg_out _ _ _ hn
theorem LTab.Ok.pt_free(h:T.Ok){j k:Nat}(hj:j<T.free.length)(y:Rat){f:Int}(hk:k≠j)(hf:T.free[k]?=some f):T.pt j y f=0:=by
  refine LTab.pt_out y (fun hb=>h.apart hb (List.mem_of_getElem? hf)) fun e=>hk ?_
  obtain⟨hk',rfl⟩:=List.getElem?_eq_some_iff.1 hf;rw[List.getD,List.getElem?_eq_getElem hj,Option.getD_some]at e;exact nodup_inj h.nd2 hk' hj e
theorem LTab.Ok.pt_dot(h:T.Ok){j:Nat}(hj:j<T.free.length)(y:Rat){cs:List Rat}(hc:cs.length=T.free.length):dotV (T.pt j y) cs T.free=cs.getD j 0*y:=by
  rw[dotV_one hj (by omega) fun k f hk hf=>h.pt_free hj y hk hf,T.pt_j]
theorem LTab.Ok.sat_pt(h:T.Ok){j:Nat}(hj:j<T.free.length)(y:Rat):T.Sat (T.pt j y):=fun i b x hb hx=>by
  rw[h.pt_at hj y hb hx];unfold LRow.ev;rw[h.pt_dot hj y (h.row hx)]
theorem LTab.Sat.at{v:Int->Rat}(hs:T.Sat v)(hz:∀n∈T.free,v n=0){i:Nat}{b:Int}{x:LRow}(hb:T.basic[i]?=some b)(hx:T.rows[i]?=some x):v b=x.r:=by
  rw[hs i b x hb hx];unfold LRow.ev;rw[dotV_zero hz];grind
def LTab.Feas(T:LTab):Prop:= ∀x∈T.rows,0<=x.r
structure Pick(T:LTab)(g:LRow)(i j:Nat):Prop where
  hi:i<T.rows.length
  hj:j<T.free.length
  c:g.cs.getD j 0<0
  least:∀m,m<T.free.length->g.cs.getD m 0<0->T.free.getD j 0<=T.free.getD m 0
  a:0<cofR T.rows j i
  quo:∀m,m<T.rows.length->0<cofR T.rows j m->quoR T.rows j i<=quoR T.rows j m/\(quoR T.rows j i=quoR T.rows j m->T.basic.getD i 0<=T.basic.getD m 0)
theorem row_getD{i:Nat}(h:i<T.rows.length):T.rows[i]?=some (T.rows.getD i default):=by rw[List.getD,List.getElem?_eq_getElem h];rfl
theorem getD_some{l:List Int}{i:Nat}(h:i<l.length):l[i]?=some (l.getD i 0):=by rw[List.getD,List.getElem?_eq_getElem h];rfl
theorem pos_ne{a:Rat}(h:0<a):a≠0:=by grind
theorem div_nn{a b:Rat}(ha:0<=a)(hb:0<b):0<=a/b:=by
  rw[Rat.div_def];exact Rat.mul_nonneg ha (Rat.le_of_lt (Rat.inv_pos.2 hb))
theorem pivot_r(i j k:Nat){x:LRow}(hx:T.rows[k]?=some x):((T.pivot i j).rows[k]?.getD default).r=if k=i then x.r*(1/x.cs.getD j 0)else x.r-x.cs.getD j 0*((T.rows.getD i default).r*(1/(T.rows.getD i default).cs.getD j 0)):=by
  rw[pivot_rows,hx];simp only[Option.map_some,Option.getD_some]
  split<;>simp[LRow.scale,LRow.subst]
theorem LTab.Feas.pivot{i j:Nat}(hF:T.Feas)(hi:i<T.rows.length)(ha:0<cofR T.rows j i)(hq:∀m,m<T.rows.length->0<cofR T.rows j m->quoR T.rows j i<=quoR T.rows j m):(T.pivot i j).Feas:=fun x hx=>by
  obtain⟨k,hk⟩:=List.mem_iff_getElem?.1 hx
  have hk':k<T.rows.length:=by
    have:=(List.getElem?_eq_some_iff.1 hk).1
    simpa[LTab.pivot]using this
  have h1:=pivot_r i j k (row_getD hk');rw[hk,Option.getD_some]at h1;rw[h1];have hri:=hF _ (List.mem_of_getElem? (row_getD hi));have hrk:=hF _ (List.mem_of_getElem? (row_getD hk'));have hqi:(T.rows.getD i default).r*(1/(T.rows.getD i default).cs.getD j 0)=quoR T.rows j i:=by unfold quoR;grind
  split
  . rename_i e;subst e;rw[hqi];exact div_nn hri ha
  rw[hqi];have hq0:0<=quoR T.rows j i:=div_nn hri ha
  by_cases hc:0<cofR T.rows j k
  . have h2:=hq k hk' hc;have h3:quoR T.rows j k*cofR T.rows j k=(T.rows.getD k default).r:=by unfold quoR cofR at*;exact Rat.div_mul_cancel (pos_ne hc)
    have h4:=Rat.mul_le_mul_of_nonneg_right h2 (Rat.le_of_lt hc);unfold cofR at*
    grind
  have h2:0<= -(cofR T.rows j k)*quoR T.rows j i:=Rat.mul_nonneg (by grind) hq0;unfold cofR at*
  grind
end
end
section
structure LSt where
  T:LTab
  g:LRow
structure LSt.Ok(s:LSt):Prop where
  ok:s.T.Ok
  feas:s.T.Feas
  len:s.g.cs.length=s.T.free.length
def LSt.next(s:LSt)(i j:Nat):LSt:=⟨s.T.pivot i j,s.T.obj i j s.g⟩
theorem LSt.Ok.next{s:LSt}{i j:Nat}(h:s.Ok)(hp:Pick s.T s.g i j):(s.next i j).Ok:=
  ⟨h.ok.pivot hp.hi hp.hj,h.feas.pivot hp.hi hp.a fun m hm ha=>(hp.quo m hm ha).1,by simp[LSt.next,LTab.obj,LTab.pivot,LRow.subst_len,h.len]⟩
theorem LSt.Ok.sat{s:LSt}{i j:Nat}(h:s.Ok)(hp:Pick s.T s.g i j)(v:Int->Rat):(s.next i j).T.Sat v↔s.T.Sat v:=h.ok.sat_pivot (row_getD hp.hi) hp.hj (pos_ne hp.a) v
theorem LSt.Ok.val{s:LSt}{i j:Nat}(h:s.Ok)(hp:Pick s.T s.g i j){v:Int->Rat}(hs:s.T.Sat v):(s.next i j).g.ev v (s.next i j).T.free=s.g.ev v s.T.free:=h.ok.obj_ev (row_getD hp.hi) hp.hj (pos_ne hp.a) h.len hs
structure Run(f:Nat->LSt)(i j:Nat->Nat):Prop where
  ok:(f 0).Ok
  pick:∀k,Pick (f k).T (f k).g (i k) (j k)
  step:∀k,f (k+1)=(f k).next (i k) (j k)
section
variable {f:Nat->LSt}{i j:Nat->Nat}
theorem Run.oks(h:Run f i j)(k:Nat):(f k).Ok:=by
  induction k with
  |zero=>exact h.ok
  |succ k ih=>rw[h.step];exact ih.next (h.pick k)
theorem Run.sat(h:Run f i j)(v:Int->Rat)(k:Nat):(f k).T.Sat v↔(f 0).T.Sat v:=by
  induction k with
  |zero=>exact Iff.rfl
  |succ k ih=>rw[h.step, <-ih];exact(h.oks k).sat (h.pick k) v
theorem Run.val(h:Run f i j){v:Int->Rat}(hs:(f 0).T.Sat v)(k:Nat):(f k).g.ev v (f k).T.free=(f 0).g.ev v (f 0).T.free:=by
  induction k with
  |zero=>rfl
  |succ k ih=>rw[h.step, <-ih];exact(h.oks k).val (h.pick k) ((h.sat v k).2 hs)
def entV(f:Nat->LSt)(j:Nat->Nat)(k:Nat):Int:=(f k).T.free.getD (j k) 0
def leaV(f:Nat->LSt)(i:Nat->Nat)(k:Nat):Int:=(f k).T.basic.getD (i k) 0
theorem Run.free(h:Run f i j)(k:Nat):(f (k+1)).T.free=(f k).T.free.set (j k) (leaV f i k):=by rw[h.step];rfl
theorem Run.basic(h:Run f i j)(k:Nat):(f (k+1)).T.basic=(f k).T.basic.set (i k) (entV f j k):=by rw[h.step];rfl
theorem Run.ib(h:Run f i j)(k:Nat):i k<(f k).T.basic.length:=by rw[(h.oks k).ok.nb];exact(h.pick k).hi
theorem mem_set_ne{l:List Int}{k:Nat}{a n:Int}(hn:n∈l)(hne:n≠l.getD k 0):n∈l.set k a:=by
  obtain⟨m,hm⟩:=List.mem_iff_getElem?.1 hn
  by_cases e:k=m
  . subst e;exact absurd (getD_of hm).symm hne
  exact List.mem_of_getElem? (i:=m) (by rw[List.getElem?_set_ne e,hm])
theorem mem_set_self{l:List Int}{k:Nat}{a:Int}(hk:k<l.length):a∈l.set k a:=List.mem_of_getElem? (i:=k) (by rw[List.getElem?_set_self hk])
theorem Run.stays_free(h:Run f i j){k:Nat}{n:Int}(hn:n∈(f k).T.free)(hne:n≠entV f j k):n∈(f (k+1)).T.free:=by rw[h.free];exact mem_set_ne hn hne
theorem Run.stays_basic(h:Run f i j){k:Nat}{n:Int}(hn:n∈(f k).T.basic)(hne:n≠leaV f i k):n∈(f (k+1)).T.basic:=by rw[h.basic];exact mem_set_ne hn hne
theorem Run.in_basic(h:Run f i j)(k:Nat):entV f j k∈(f (k+1)).T.basic:=by rw[h.basic];exact mem_set_self (h.ib k)
theorem Run.ent_free(h:Run f i j)(k:Nat):entV f j k∈(f k).T.free:=mem_getD (h.pick k).hj
theorem Run.lea_basic(h:Run f i j)(k:Nat):leaV f i k∈(f k).T.basic:=mem_getD (h.ib k)
theorem Run.enters(h:Run f i j){p q:Nat}(hf:(f p).T.free=(f q).T.free){n:Int}{k1 k2:Nat}(h1:p<=k1)(h2:k1<=q)(h3:p<=k2)(h4:k2<=q)(hfr:n∈(f k1).T.free)(hba:n∈(f k2).T.basic):∃k,p<=k/\k<q/\entV f j k=n:=Classical.byContradiction fun hno=>by
  have hgo:∀a d:Nat,p<=a->a+d<=q->n∈(f a).T.free->n∈(f (a+d)).T.free:=fun a d ha hd hn=>by
    induction d with
    |zero=>exact hn
    |succ d ih=>exact h.stays_free (ih (by omega)) fun e=>hno ⟨a+d,by omega,by omega,e.symm⟩
  rcases Nat.le_total k1 k2 with hk|hk
  . have:=hgo k1 (k2-k1) h1 (by omega) hfr;rw[show k1+(k2-k1)=k2 by omega]at this;exact(h.oks k2).ok.apart hba this
  have h5:=hgo k1 (q-k1) h1 (by omega) hfr;rw[show k1+(q-k1)=q by omega, <-hf]at h5;have:=hgo p (k2-p) (Nat.le_refl _) (by omega) h5;rw[show p+(k2-p)=k2 by omega]at this;exact(h.oks k2).ok.apart hba this
theorem Run.leaves(h:Run f i j){p q:Nat}(hf:(f p).T.basic=(f q).T.basic){n:Int}{k1 k2:Nat}(h1:p<=k1)(h2:k1<=q)(h3:p<=k2)(h4:k2<=q)(hba:n∈(f k1).T.basic)(hfr:n∈(f k2).T.free):∃k,p<=k/\k<q/\leaV f i k=n:=Classical.byContradiction fun hno=>by
  have hgo:∀a d:Nat,p<=a->a+d<=q->n∈(f a).T.basic->n∈(f (a+d)).T.basic:=fun a d ha hd hn=>by
    induction d with
    |zero=>exact hn
    |succ d ih=>exact h.stays_basic (ih (by omega)) fun e=>hno ⟨a+d,by omega,by omega,e.symm⟩
  rcases Nat.le_total k1 k2 with hk|hk
  . have:=hgo k1 (k2-k1) h1 (by omega) hba;rw[show k1+(k2-k1)=k2 by omega]at this;exact(h.oks k2).ok.apart this hfr
  have h5:=hgo k1 (q-k1) h1 (by omega) hba;rw[show k1+(q-k1)=q by omega, <-hf]at h5;have:=hgo p (k2-p) (Nat.le_refl _) (by omega) h5;rw[show p+(k2-p)=k2 by omega]at this;exact(h.oks k2).ok.apart this hfr
theorem Run.grow(h:Run f i j)(k:Nat):(f (k+1)).g.r=(f k).g.r-(f k).g.cs.getD (j k) 0*quoR (f k).T.rows (j k) (i k):=by
  rw[h.step];simp only[LSt.next,LTab.obj,LRow.subst,LRow.scale,quoR]
  grind
theorem Run.quo0(h:Run f i j)(k:Nat):0<=quoR (f k).T.rows (j k) (i k):=div_nn ((h.oks k).feas _ (List.mem_of_getElem? (row_getD (h.pick k).hi))) (h.pick k).a
theorem Run.mono1(h:Run f i j)(k:Nat):(f k).g.r<=(f (k+1)).g.r:=by
  rw[h.grow];have h1:=(h.pick k).c;have h2:0<= -((f k).g.cs.getD (j k) 0)*quoR (f k).T.rows (j k) (i k):=Rat.mul_nonneg (by grind) (h.quo0 k)
  grind
theorem Run.mono(h:Run f i j)(k d:Nat):(f k).g.r<=(f (k+d)).g.r:=by
  induction d with
  |zero=>exact Rat.le_refl
  |succ d ih=>exact Rat.le_trans ih (h.mono1 (k+d))
theorem Run.still(h:Run f i j){p q:Nat}(_hpq:p<=q)(hz:(f p).g.r=(f q).g.r){k:Nat}(h1:p<=k)(h2:k<q):quoR (f k).T.rows (j k) (i k)=0:=by
  have a1:=h.mono p (k-p);have a2:=h.mono (k+1) (q-(k+1));rw[show p+(k-p)=k by omega]at a1;rw[show k+1+(q-(k+1))=q by omega]at a2;have a3:=h.mono1 k;have a4:=h.grow k;have a5:=(h.pick k).c;have a6:(f k).g.cs.getD (j k) 0*quoR (f k).T.rows (j k) (i k)=0:=by grind
  rcases Rat.mul_eq_zero.1 a6 with e|e
  . rw[e]at a5;exact absurd a5 (by decide)
  exact e
theorem Run.zero(h:Run f i j){p q:Nat}(hpq:p<=q)(hz:(f p).g.r=(f q).g.r)(d:Nat)(hd:p+d<=q):∀n∈(f (p+d)).T.free,(f p).T.sol n=0:=by
  have hs:∀k,(f k).T.Sat (f p).T.sol:=fun k=>(h.sat _ k).2 ((h.sat _ p).1 (h.oks p).ok.sat_sol)
  induction d with
  |zero=>exact fun n hn=>(h.oks p).ok.sol_free hn
  | succ d ih=>
    intro n hn;have ih:=ih (by omega);rw[<-Nat.add_assoc,h.free]at hn
    rcases List.mem_or_eq_of_mem_set hn with hn|rfl
    . exact ih n hn
    have h1:=(hs (p+d)).at ih (getD_some (h.ib (p+d))) (row_getD (h.pick (p+d)).hi);have h2:=h.still hpq hz (k:=p+d) (by omega) (by omega)
    have h3:quoR (f (p+d)).T.rows (j (p+d)) (i (p+d))*cofR (f (p+d)).T.rows (j (p+d)) (i (p+d))=((f (p+d)).T.rows.getD (i (p+d)) default).r:=by
      unfold quoR;exact Rat.div_mul_cancel (pos_ne (h.pick (p+d)).a)
    rw[h2,Rat.zero_mul]at h3;exact h1.trans h3.symm
theorem greatest(e:Nat->Int):∀(p d:Nat),0<d-> ∃k,p<=k/\k<p+d/\ ∀m,p<=m->m<p+d->e m<=e k
  |p,0,h=>absurd h (Nat.lt_irrefl _)
  | p,d+1,_=>by
    rcases Nat.eq_zero_or_pos d with rfl|hd
    . exact⟨p,Nat.le_refl _,by omega,fun m h1 h2=>by rw[show m=p by omega];exact Int.le_refl _⟩
    obtain⟨k,h1,h2,h3⟩:=greatest e p d hd
    by_cases hc:e k<=e (p+d)
    . refine⟨p+d,by omega,by omega,fun m h4 h5=>?_⟩
      by_cases hm:m=p+d
      . rw[hm];exact Int.le_refl _
      exact Int.le_trans (h3 m h4 (by omega)) hc
    refine⟨k,h1,by omega,fun m h4 h5=>?_⟩
    by_cases hm:m=p+d
    . rw[hm];omega
    exact h3 m h4 (by omega)
theorem Run.no_round(h:Run f i j){p q:Nat}(hpq:p<q)(hb:(f p).T.basic=(f q).T.basic)(hf:(f p).T.free=(f q).T.free):False:=by
  have hsat:∀k v,(f k).T.Sat v↔(f 0).T.Sat v:=fun k v=>h.sat v k
  have hz:(f p).g.r=(f q).g.r:=by
    have h0:(f 0).T.Sat (f p).T.sol:=(hsat p _).1 (h.oks p).ok.sat_sol;have h1:=h.val h0 p;have h2:=h.val h0 q;have hfree:∀n∈(f p).T.free,(f p).T.sol n=0:=fun n hn=>(h.oks p).ok.sol_free hn
    unfold LRow.ev at h1 h2;rw[dotV_zero hfree]at h1;rw[dotV_zero (fs:=(f q).T.free) (fun n hn=>hfree n (hf▸hn))]at h2
    grind
  obtain⟨kt,ht1,ht2,hmax⟩:=greatest (entV f j) p (q-p) (by omega);have hle:∀m,p<=m->m<q->entV f j m<=entV f j kt:=fun m h1 h2=>hmax m h1 (by omega)
  have ht2:kt<q:=by omega
  obtain⟨k,hk1,hk2,hlea⟩:=h.leaves hb (n:=entV f j kt) (k1:=kt+1) (k2:=kt) (by omega) (by omega) ht1 (by omega) (h.in_basic kt) (h.ent_free kt);have hokk:=(h.oks k).ok;have hokt:=(h.oks kt).ok
  --the two assignments
  have hs1:=(hsat kt _).2 ((hsat k _).1 (hokk.sat_pt (h.pick k).hj 1));have hs0:=(hsat kt _).2 ((hsat k _).1 (hokk.sat_pt (h.pick k).hj 0));have e1:=(h.val ((hsat kt _).1 hs1) kt).trans (h.val ((hsat kt _).1 hs1) k).symm;have e0:=(h.val ((hsat kt _).1 hs0) kt).trans (h.val ((hsat kt _).1 hs0) k).symm;unfold LRow.ev at e1 e0;rw[hokk.pt_dot (h.pick k).hj 1 (h.oks k).len]at e1;rw[hokk.pt_dot (h.pick k).hj 0 (h.oks k).len]at e0;have e2:=dotV_subv ((f k).T.pt (j k) 1) ((f k).T.pt (j k) 0) (f kt).g.cs (f kt).T.free;have hck:=(h.pick k).c;obtain⟨m,n,hm,hml,hneg⟩:=dotV_neg (v:=fun n=>(f k).T.pt (j k) 1 n-(f k).T.pt (j k) 0 n) (cs:=(f kt).g.cs) (fs:=(f kt).T.free) (by rw[e2];grind);have hml':m<(f kt).T.free.length:=(List.getElem?_eq_some_iff.1 hm).1;have hnd:(f kt).T.free.getD m 0=n:=getD_of hm;have hnfree:n∈(f kt).T.free:=List.mem_of_getElem? hm;have hets:entV f j k≠entV f j kt:=fun e=>hokk.apart (hlea▸h.lea_basic k) (e▸h.ent_free k)
  have hlet:=hle k hk1 hk2
  --Who is n?
  by_cases hns:n=entV f j k
  . subst hns;have d1:(f k).T.pt (j k) 1 (entV f j k)=1:=LTab.pt_j _ _ _;have d0:(f k).T.pt (j k) 0 (entV f j k)=0:=LTab.pt_j _ _ _;rw[d1,d0]at hneg;have:=(h.pick kt).least m hml' (by grind);rw[hnd]at this;exact hets (Int.le_antisymm hlet this)
  by_cases hnb:n∈(f k).T.basic
  . obtain⟨r,hr⟩:=List.mem_iff_getElem?.1 hnb;have hrl:r<(f k).T.rows.length:=by rw[<-hokk.nb];exact(List.getElem?_eq_some_iff.1 hr).1
    have d1:=hokk.pt_at (h.pick k).hj 1 hr (row_getD hrl);have d0:=hokk.pt_at (h.pick k).hj 0 hr (row_getD hrl);rw[d1,d0]at hneg;have hneg2:(f kt).g.cs.getD m 0*cofR (f k).T.rows (j k) r>0:=by unfold cofR;grind
    obtain⟨ke,hke1,hke2,hke⟩:=h.enters hf (n:=n) (k1:=kt) (k2:=k) ht1 (by omega) hk1 (by omega) hnfree hnb;have hnle:n<=entV f j kt:=hke▸hle ke hke1 hke2
    by_cases hc:(f kt).g.cs.getD m 0<0
    . have h5:=(h.pick kt).least m hml' hc;rw[hnd]at h5;have hnt:n=entV f j kt:=Int.le_antisymm hnle h5
      --n is t:its coefficient in k is above 0
      have hri:r=i k:=by
        have e3:(f k).T.basic.getD (i k) 0=n:=hlea.trans hnt.symm;have e4:=getD_some (h.ib k);rw[e3]at e4;obtain⟨x1,x2⟩:=List.getElem?_eq_some_iff.1 hr;obtain⟨y1,y2⟩:=List.getElem?_eq_some_iff.1 e4;exact nodup_inj hokk.nd1 x1 y1 (x2.trans y2.symm)
      subst hri;have h6:=(h.pick k).a;have h7:0<= -((f kt).g.cs.getD m 0)*cofR (f k).T.rows (j k) (i k):=Rat.mul_nonneg (by grind) (Rat.le_of_lt h6)
      grind
    have hcp:0<=(f kt).g.cs.getD m 0:=by grind
    have hap:0<cofR (f k).T.rows (j k) r:=Classical.byContradiction fun hx=>by
      have:0<=(f kt).g.cs.getD m 0* -(cofR (f k).T.rows (j k) r):=Rat.mul_nonneg hcp (by grind)
      grind
    --n is 0 in the basic solution
    have hzero:=h.zero (Nat.le_of_lt hpq) hz (kt-p) (by omega) n (by rw[show p+(kt-p)=kt by omega];exact hnfree);have hzk:=h.zero (Nat.le_of_lt hpq) hz (k-p) (by omega);rw[show p+(k-p)=k by omega]at hzk;have hrest:=LTab.Sat.at ((hsat k _).2 ((hsat p _).1 (h.oks p).ok.sat_sol)) hzk hr (row_getD hrl);rw[hzero]at hrest;have hq0:quoR (f k).T.rows (j k) r=0:=by unfold quoR;rw[<-hrest,Rat.div_def,Rat.zero_mul]
    have h8:=((h.pick k).quo r hrl hap).2 ((h.still (Nat.le_of_lt hpq) hz hk1 hk2).trans hq0.symm);have h9:(f k).T.basic.getD r 0=n:=getD_of hr;rw[h9,show(f k).T.basic.getD (i k) 0=entV f j kt from hlea]at h8;have hnt:n=entV f j kt:=Int.le_antisymm hnle h8
    --then t's coefficient in kt is below 0
    have hjm:m=j kt:=by
      have e4:=getD_some (h.pick kt).hj;rw[show(f kt).T.free.getD (j kt) 0=n from hnt.symm]at e4;obtain⟨x1,x2⟩:=List.getElem?_eq_some_iff.1 hm;obtain⟨y1,y2⟩:=List.getElem?_eq_some_iff.1 e4;exact nodup_inj hokt.nd2 x1 y1 (x2.trans y2.symm)
    subst hjm;exact hc (h.pick kt).c
  rw[LTab.pt_out _ hnb hns,LTab.pt_out _ hnb hns]at hneg
  grind
theorem pigeon{α:Type _}:∀(S:List α) (f:Nat->α),(∀k,f k∈S)-> ∃p q,p<q/\f p=f q
  |[],f,h=>absurd (h 0) List.not_mem_nil
  | x ::S,f,h=>by
    by_cases h1:∃p q,p<q/\f p=x/\f q=x
    . obtain⟨p,q,h2,h3,h4⟩:=h1;exact⟨p,q,h2,h3.trans h4.symm⟩
    obtain⟨k0,hk0⟩:∃k0,∀k,k0<=k->f k≠x:=by
      by_cases h2:∃p,f p=x
      . obtain⟨p,hp⟩:=h2;exact⟨p+1,fun k hk e=>h1 ⟨p,k,by omega,hp,e⟩⟩
      exact⟨0,fun k _ e=>h2 ⟨k,e⟩⟩
    obtain⟨p,q,h2,h3⟩:=pigeon S (fun k=>f (k0+k)) fun k=>(List.mem_cons.1 (h (k0+k))).resolve_left (hk0 _ (by omega))
    exact⟨k0+p,k0+q,by omega,h3⟩
def lsts(U:List Int):Nat->List (List Int)
  |0=>[[]]
  |n+1=>(lsts U n).flatMap fun l=>U.map fun u=>u::l
theorem mem_lsts{U:List Int}:∀{l:List Int},(∀x∈l,x∈U)->l∈lsts U l.length
  |[],_=>by simp[lsts]
  | x::l,h=>by
    simp only[List.length_cons,lsts,List.mem_flatMap,List.mem_map];exact⟨l,mem_lsts fun y hy=>h y (List.mem_cons_of_mem _ hy),x,h x (List.mem_cons_self ..),rfl⟩
theorem Run.lens(h:Run f i j)(k:Nat):(f k).T.basic.length=(f 0).T.basic.length/\(f k).T.free.length=(f 0).T.free.length/\ ∀n,n∈(f k).T.basic++(f k).T.free->n∈(f 0).T.basic++(f 0).T.free:=by
  induction k with
  |zero=>exact⟨rfl,rfl,fun _ h=>h⟩
  | succ k ih=>
    obtain⟨h1,h2,h3⟩:=ih;refine⟨by rw[h.basic,List.length_set,h1],by rw[h.free,List.length_set,h2],fun n hn=>h3 n ?_⟩
    rcases List.mem_append.1 hn with hn|hn
    . rw[h.basic]at hn
      rcases List.mem_or_eq_of_mem_set hn with hn|rfl
      . exact List.mem_append_left _ hn
      exact List.mem_append_right _ (h.ent_free k)
    rw[h.free]at hn
    rcases List.mem_or_eq_of_mem_set hn with hn|rfl
    . exact List.mem_append_right _ hn
    exact List.mem_append_left _ (h.lea_basic k)
theorem Run.ends(h:Run f i j):False:=by
  obtain⟨p,q,hpq,he⟩:=pigeon (lsts ((f 0).T.basic++(f 0).T.free) ((f 0).T.basic.length+(f 0).T.free.length)) (fun k=>(f k).T.basic++(f k).T.free) fun k=>by
    obtain⟨h1,h2,h3⟩:=h.lens k;rw[<-h1, <-h2, <-List.length_append];exact mem_lsts h3
  have h1:(f p).T.basic.length=(f q).T.basic.length:=(h.lens p).1.trans (h.lens q).1.symm;obtain⟨e1,e2⟩:=List.append_inj he h1;exact h.no_round hpq e1 e2
end
end
section
def stepS(s:LSt):Option LSt:=
  if entN s.g.cs s.T.free s.g.cs.length<0 then none else
    if(leaN s.T.rows s.T.basic (entN s.g.cs s.T.free s.g.cs.length).toNat s.T.rows.length).1<0 then none else
      some (s.next (leaN s.T.rows s.T.basic (entN s.g.cs s.T.free s.g.cs.length).toNat s.T.rows.length).1.toNat (entN s.g.cs s.T.free s.g.cs.length).toNat)
theorem pick_of{s:LSt}(h:s.Ok){j i:Nat}(hj:entN s.g.cs s.T.free s.g.cs.length=(j:Int))(hi:(leaN s.T.rows s.T.basic j s.T.rows.length).1=(i:Int)):Pick s.T s.g i j:=by
  rcases entN_spec s.g.cs s.T.free s.g.cs.length with⟨h1,_⟩|⟨j',h1,h2,h3,h4⟩
  . omega
  rcases leaN_spec s.T.rows s.T.basic j s.T.rows.length with⟨h5,_⟩|⟨i',h5,h6,h7,h8⟩
  . rw[h5]at hi;exact absurd hi (by simp)
  obtain rfl:j=j':=by omega
  obtain rfl:i=i':=by rw[h6]at hi;exact(Int.ofNat.inj hi).symm
  have:=h.len;exact⟨h5,by omega,h3,fun m hm=>h4 m (by omega),h7,h8⟩
theorem stepS_pick{s s':LSt}(h:s.Ok)(hs:stepS s=some s'):∃i j,Pick s.T s.g i j/\s'=s.next i j:=by
  unfold stepS at hs
  split at hs
  . cases hs
  rename_i h1
  split at hs
  . cases hs
  rename_i h2
  exact⟨_,_,pick_of h (j:=(entN s.g.cs s.T.free s.g.cs.length).toNat) (by omega) (i:=(leaN s.T.rows s.T.basic (entN s.g.cs s.T.free s.g.cs.length).toNat s.T.rows.length).1.toNat) (by omega),(Option.some.inj hs).symm⟩
def itS:Nat->LSt->Option LSt
  |0,s=>some s
  |n+1,s=>(stepS s).bind (itS n)
theorem itS_succ(n:Nat)(s:LSt):itS (n+1) s=(itS n s).bind stepS:=by
  induction n generalizing s with
  |zero=>simp[itS]
  | succ n ih=>
    rw[itS]
    cases e:stepS s with
    |none=>simp[itS,e]
    |some t=>simp only[Option.bind_some,itS,e];exact ih t
theorem itS_ok{s t:LSt}(h:s.Ok){n:Nat}(ht:itS n s=some t):t.Ok:=by
  induction n generalizing t with
  |zero=>cases ht;exact h
  | succ n ih=>
    rw[itS_succ]at ht
    cases e:itS n s with
    |none=>rw[e]at ht;cases ht
    | some u=>
      rw[e]at ht;obtain⟨i,j,hp,rfl⟩:=stepS_pick (ih e) ht;exact(ih e).next hp
theorem ends(s:LSt)(h:s.Ok):∃n,itS n s=none:=Classical.byContradiction fun hno=>by
  have hs:∀n,∃t,itS n s=some t:=fun n=>by
    cases e:itS n s with
    |none=>exact absurd ⟨n,e⟩ hno
    |some t=>exact⟨t,rfl⟩
  obtain⟨f,hf⟩:∃f:Nat->LSt,∀n,itS n s=some (f n):=⟨fun n=>(hs n).choose,fun n=>(hs n).choose_spec⟩;have hok:∀n,(f n).Ok:=fun n=>itS_ok h (hf n)
  have hstep:∀n,stepS (f n)=some (f (n+1)):=fun n=>by
    have:=itS_succ n s;rw[hf,hf]at this;exact this.symm
  have hp:∀n,∃i j,Pick (f n).T (f n).g i j/\f (n+1)=(f n).next i j:=fun n=>stepS_pick (hok n) (hstep n)
  exact Run.ends (f:=f) (i:=fun n=>(hp n).choose) (j:=fun n=>(hp n).choose_spec.choose) ⟨hok 0,fun k=>(hp k).choose_spec.choose_spec.1,fun k=>(hp k).choose_spec.choose_spec.2⟩
theorem least_of{p:Nat->Prop}:∀n,p n-> ∃k,p k/\ ∀m,m<k-> ¬p m:=fun n=>by
  induction n using Nat.strongRecOn with
  | _ n ih=>
    intro h
    by_cases hk:∃m,m<n/\p m
    . obtain⟨m,h1,h2⟩:=hk;exact ih m h1 h2
    exact⟨n,h,fun m h1 h2=>hk ⟨m,h1,h2⟩⟩
open Classical in
noncomputable def muS(s:LSt):Nat:=if h:∃k,itS k s=none/\ ∀m,m<k-> ¬itS m s=none then h.choose else 0
theorem muS_spec{s:LSt}(h:s.Ok):itS (muS s) s=none/\ ∀m,m<muS s-> ¬itS m s=none:=by
  obtain⟨n,hn⟩:=ends s h;have hx:=least_of (p:=fun k=>itS k s=none) n hn;unfold muS;rw[dif_pos hx];exact hx.choose_spec
theorem muS_lt{s s':LSt}(h:s.Ok)(hs:stepS s=some s'):muS s'<muS s:=by
  obtain⟨i,j,hp,e⟩:=stepS_pick h hs;have h':s'.Ok:=e▸h.next hp;obtain⟨h1,h2⟩:=muS_spec h;obtain⟨h3,h4⟩:=muS_spec h'
  obtain⟨k,hk⟩:∃k,muS s=k+1:=by
    refine⟨muS s-1,?_⟩;have:muS s≠0:=fun e0=>by rw[e0]at h1;cases h1
    omega
  rw[hk]at h1⊢;rw[itS,hs,Option.bind_some]at h1;exact Nat.lt_succ_of_le (Nat.le_of_not_lt fun h5=>h4 k h5 h1)
def Fra(D:Int)(X:Nat)(e:Rat):Prop:= ∃M:Int,M.natAbs<=X/\e*(D:Rat)=(M:Rat)
structure Bd(D:Int)(X:Nat)(x:LRow):Prop where
  r:Fra D X x.r
  cs:∀c∈x.cs,Fra D X c
structure Den(D:Int)(X:Nat):Prop where
  nz:D≠0
  le:D.natAbs<=X
theorem Fra.zero(D:Int)(X:Nat):Fra D X 0:=⟨0,by simp,by rw[Rat.zero_mul];rfl⟩
theorem Bd.at{D:Int}{X:Nat}{x:LRow}(h:Bd D X x)(k:Nat):Fra D X (x.cs.getD k 0):=by
  cases e:x.cs[k]? with
  |none=>rw[List.getD,e];exact Fra.zero D X
  |some c=>rw[getD_of e];exact h.cs c (List.mem_of_getElem? e)
theorem natAbs_mul_le{a b:Int}{X Y:Nat}(h:a.natAbs<=X)(h':b.natAbs<=Y):(a*b).natAbs<=X*Y:=by rw[Int.natAbs_mul];exact Nat.mul_le_mul h h'
theorem natAbs_sub_le{a b:Int}{X Y:Nat}(h:a.natAbs<=X)(h':b.natAbs<=Y):(a-b).natAbs<=X+Y:=by omega
section
variable {D:Int}{X:Nat}
theorem Fra.nz{α:Rat}{M:Int}(hD:Den D X)(hM:α*(D:Rat)=(M:Rat))(ha:α≠0):(M:Rat)≠0/\(D:Rat)≠0:=by
  have h1:(D:Rat)≠0:=fun e=>hD.nz (by exact_mod_cast e)
  refine⟨fun e=>?_,h1⟩;rw[e]at hM;exact(Rat.mul_eq_zero.1 hM).elim ha h1
theorem Den.step{α:Rat}{M:Int}(hD:Den D X)(hM:α*(D:Rat)=(M:Rat))(hX:M.natAbs<=X)(ha:α≠0):Den (D*M) (2*(X*X)):=by
  obtain⟨h1,h2⟩:=Fra.nz hD hM ha;refine⟨fun e=>?_,by have:=natAbs_mul_le hD.le hX;omega⟩
  rcases Int.mul_eq_zero.1 e with e|e
  . exact hD.nz e
  subst e;exact h1 rfl
theorem Fra.quo{α b:Rat}{M:Int}(hD:Den D X)(hM:α*(D:Rat)=(M:Rat))(ha:α≠0)(hb:Fra D X b):Fra (D*M) (2*(X*X)) (b*(1/α)):=by
  obtain⟨N,hN,e⟩:=hb;obtain⟨h1,h2⟩:=Fra.nz hD hM ha;refine⟨N*D,by have:=natAbs_mul_le hN hD.le;omega,?_⟩;rw[Rat.intCast_mul,Rat.intCast_mul]
  grind
theorem Fra.one_quo{α:Rat}{M:Int}(hD:Den D X)(hM:α*(D:Rat)=(M:Rat))(ha:α≠0):Fra (D*M) (2*(X*X)) (1*(1/α)):=by
  obtain⟨h1,h2⟩:=Fra.nz hD hM ha;refine⟨D*D,by have:=natAbs_mul_le hD.le hD.le;omega,?_⟩;rw[Rat.intCast_mul,Rat.intCast_mul]
  grind
theorem Fra.sub{α a c b:Rat}{M:Int}(hD:Den D X)(hM:α*(D:Rat)=(M:Rat))(hX:M.natAbs<=X)(ha:α≠0)(h1:Fra D X a)(h2:Fra D X c)(h3:Fra D X b):Fra (D*M) (2*(X*X)) (a-c*(b*(1/α))):=by
  obtain⟨N1,g1,e1⟩:=h1;obtain⟨N2,g2,e2⟩:=h2;obtain⟨N3,g3,e3⟩:=h3;obtain⟨k1,k2⟩:=Fra.nz hD hM ha;refine⟨N1*M-N2*N3,by have:=natAbs_sub_le (natAbs_mul_le g1 hX) (natAbs_mul_le g2 g3);omega,?_⟩;rw[Rat.intCast_mul,Rat.intCast_sub,Rat.intCast_mul,Rat.intCast_mul]
  grind
theorem Fra.sub1{α c:Rat}{M:Int}(hD:Den D X)(hM:α*(D:Rat)=(M:Rat))(ha:α≠0)(h2:Fra D X c):Fra (D*M) (2*(X*X)) (0-c*(1*(1/α))):=by
  obtain⟨N2,g2,e2⟩:=h2;obtain⟨k1,k2⟩:=Fra.nz hD hM ha;refine⟨-(N2*D),by have:=natAbs_mul_le g2 hD.le;omega,?_⟩;rw[Rat.intCast_mul,Rat.intCast_neg,Rat.intCast_mul]
  grind
theorem mem_map_at{cs:List Rat}{s c:Rat}{j:Nat}(h:c∈(cs.set j 1).map (· *s)):c=1*s\/ ∃b∈cs,c=b*s:=by
  obtain⟨b,hb,rfl⟩:=List.mem_map.1 h
  rcases List.mem_or_eq_of_mem_set hb with h|rfl
  . exact .inr ⟨b,h,rfl⟩
  exact .inl rfl
theorem Bd.scale{x:LRow}{j:Nat}{M:Int}(hD:Den D X)(h:Bd D X x)(ha:x.cs.getD j 0≠0)(hM:x.cs.getD j 0*(D:Rat)=(M:Rat)):Bd (D*M) (2*(X*X)) (x.scale j):=by
  refine⟨Fra.quo hD hM ha h.r,fun c hc=>?_⟩
  rcases mem_map_at hc with rfl|⟨b,hb,rfl⟩
  . exact Fra.one_quo hD hM ha
  exact Fra.quo hD hM ha (h.cs b hb)
theorem mem_getD_r{cs:List Rat}{c:Rat}(h:c∈cs):∃k,k<cs.length/\cs.getD k 0=c:=by
  obtain⟨k,hk⟩:=List.mem_iff_getElem?.1 h;exact⟨k,(List.getElem?_eq_some_iff.1 hk).1,getD_of hk⟩
theorem getD_set_r{cs:List Rat}{j k:Nat}{a:Rat}(hk:k<cs.length):(cs.set j a).getD k 0=if j=k then a else cs.getD k 0:=by
  rw[List.getD,List.getElem?_set]
  split
  . rename_i h;subst h;rw[if_pos hk];rfl
  rfl
theorem Bd.subst{x p:LRow}{j:Nat}{M:Int}(hD:Den D X)(hx:Bd D X x)(hp:Bd D X p)(hl:p.cs.length=x.cs.length)(ha:p.cs.getD j 0≠0)(hM:p.cs.getD j 0*(D:Rat)=(M:Rat))(hX:M.natAbs<=X):Bd (D*M) (2*(X*X)) (x.subst j (p.scale j)):=by
  refine⟨Fra.sub hD hM hX ha hx.r (hx.at j) hp.r,fun c hc=>?_⟩;obtain⟨k,hk,rfl⟩:=mem_getD_r hc;rw[LRow.subst_len]at hk;unfold LRow.subst;rw[subCs_at _ _ _ _ (by simp[LRow.scale,hl]),getD_set_r hk]
  have hs:(p.scale j).cs.getD k 0=(if j=k then 1 else p.cs.getD k 0)*(1/p.cs.getD j 0):=by
    unfold LRow.scale;simp only[List.getD,List.getElem?_map];have hk2:k<p.cs.length:=by omega
    have:=getD_set_r (cs:=p.cs) (j:=j) (a:=1) hk2;rw[List.getD]at this
    have h3:((p.cs.set j 1)[k]?)=some ((p.cs.set j 1)[k]?.getD 0):=by
      rw[List.getElem?_eq_getElem (by simpa using hk2)];rfl
    rw[h3,Option.map_some,Option.getD_some,this];rfl
  rw[hs]
  split
  . exact Fra.sub1 hD hM ha (hx.at j)
  exact Fra.sub hD hM hX ha (hx.at k) (hx.at j) (hp.at k)
end
def bdN:Nat->Nat->Nat
  |0,X=>X
  |n+1,X=>bdN n (2*(X*X))
theorem bdN_ge(n:Nat){X:Nat}(h:0<X):X<=bdN n X:=by
  induction n generalizing X with
  |zero=>exact Nat.le_refl _
  | succ n ih=>
    have h1:X<=X*X:=Nat.le_mul_of_pos_left X h;have:=ih (X:=2*(X*X)) (by omega)
    show X<=bdN n (2*(X*X))
    omega
structure LObj where
  T:LTab
  os:List LRow
structure LObj.Ok(s:LObj):Prop where
  ok:s.T.Ok
  len:∀g∈s.os,g.cs.length=s.T.free.length
structure LObj.Bd(D:Int)(X:Nat)(s:LObj):Prop where
  den:Den D X
  rows:∀x∈s.T.rows,Go.Proofs.YtgemmbpjebijlaaGreatDoor.Bd D X x
  os:∀x∈s.os,Go.Proofs.YtgemmbpjebijlaaGreatDoor.Bd D X x
def LObj.piv(s:LObj)(i j:Nat):LObj:=⟨s.T.pivot i j,s.os.map (s.T.obj i j)⟩
theorem LObj.Ok.piv{s:LObj}(h:s.Ok){i j:Nat}(hi:i<s.T.rows.length)(hj:j<s.T.free.length):(s.piv i j).Ok:=
  ⟨h.ok.pivot hi hj,fun g hg=>by
    obtain⟨g',hg',rfl⟩:=List.mem_map.1 hg;simp[LObj.piv,LTab.obj,LTab.pivot,LRow.subst_len,h.len g' hg']⟩
theorem LObj.Bd.piv{D:Int}{X:Nat}{s:LObj}(h:s.Bd D X)(hok:s.Ok){i j:Nat}{x:LRow}(hx:s.T.rows[i]?=some x)(ha:x.cs.getD j 0≠0):∃D',(s.piv i j).Bd D' (2*(X*X)):=by
  have hxb:=h.rows x (List.mem_of_getElem? hx);obtain⟨M,hX,hM⟩:=hxb.at j;have hxd:s.T.rows.getD i default=x:=getD_of hx;refine⟨D*M,h.den.step hM hX ha,fun y hy=>?_,fun y hy=>?_⟩
  . obtain⟨k,hk⟩:=List.mem_iff_getElem?.1 hy;rw[show(s.piv i j).T=s.T.pivot i j from rfl,pivot_rows]at hk
    cases e:s.T.rows[k]? with
    |none=>rw[e]at hk;cases hk
    | some z=>
      rw[e]at hk;simp only[Option.map_some,Option.some.injEq]at hk;subst hk
      split
      . rename_i hki;subst hki;rw[hx]at e;cases e;exact hxb.scale h.den ha hM
      rw[hxd];exact Go.Proofs.YtgemmbpjebijlaaGreatDoor.Bd.subst h.den (h.rows z (List.mem_of_getElem? e)) hxb ((hok.ok.row hx).trans (hok.ok.row e).symm) ha hM hX
  obtain⟨g,hg,rfl⟩:=List.mem_map.1 hy;unfold LTab.obj;rw[hxd];exact Go.Proofs.YtgemmbpjebijlaaGreatDoor.Bd.subst h.den (h.os g hg) hxb ((hok.ok.row hx).trans (hok.len g hg).symm) ha hM hX
structure Alike(s t:LObj):Prop where
  sat:∀v,s.T.Sat v↔t.T.Sat v
  n:s.os.length=t.os.length
  val:∀(k:Nat) (g g':LRow) (v:Int->Rat),s.os[k]?=some g->t.os[k]?=some g'->t.T.Sat v->g.ev v s.T.free=g'.ev v t.T.free
  mem:∀n,n∈s.T.basic++s.T.free↔n∈t.T.basic++t.T.free
  nb:s.T.basic.length=t.T.basic.length
  nf:s.T.free.length=t.T.free.length
theorem Alike.refl(s:LObj):Alike s s:=⟨fun _=>Iff.rfl,rfl,fun k g g' v h1 h2 _=>by rw[h1]at h2;cases h2;rfl,fun _=>Iff.rfl,rfl,rfl⟩
theorem Alike.trans{s t u:LObj}(h:Alike s t)(h':Alike t u):Alike s u:=by
  refine⟨fun v=>(h.sat v).trans (h'.sat v),h.n.trans h'.n,fun k g g' v h1 h2 hs=>?_,fun n=>(h.mem n).trans (h'.mem n),h.nb.trans h'.nb,h.nf.trans h'.nf⟩;have hk:k<t.os.length:=h.n▸(List.getElem?_eq_some_iff.1 h1).1;exact(h.val k g _ v h1 (List.getElem?_eq_getElem hk) ((h'.sat v).2 hs)).trans (h'.val k _ g' v (List.getElem?_eq_getElem hk) h2 hs)
theorem Alike.symm{s t:LObj}(h:Alike s t):Alike t s:=
  ⟨fun v=>(h.sat v).symm,h.n.symm,fun k g g' v h1 h2 hs=>(h.val k g' g v h2 h1 ((h.sat v).1 hs)).symm,fun n=>(h.mem n).symm,h.nb.symm,h.nf.symm⟩
theorem LObj.Ok.alike{s:LObj}(h:s.Ok){i j:Nat}{x:LRow}(hx:s.T.rows[i]?=some x)(hj:j<s.T.free.length)(ha:x.cs.getD j 0≠0):Alike (s.piv i j) s:=by
  have hi:i<s.T.rows.length:=(List.getElem?_eq_some_iff.1 hx).1;have hi':i<s.T.basic.length:=h.ok.nb▸hi;refine⟨h.ok.sat_pivot hx hj ha,by simp[LObj.piv],fun k g g' v h1 h2 hs=>?_,fun n=>?_,by simp[LObj.piv,LTab.pivot],by simp[LObj.piv,LTab.pivot]⟩
  . simp only[LObj.piv,List.getElem?_map,h2,Option.map_some,Option.some.injEq]at h1;subst h1;exact h.ok.obj_ev hx hj ha (h.len g' (List.mem_of_getElem? h2)) hs
  have hb:=getD_some hi';have hf:=getD_some hj;simp only[LObj.piv,LTab.pivot,List.mem_append];constructor
  . rintro(h|h)
    . rcases List.mem_or_eq_of_mem_set h with h|rfl
      . exact .inl h
      exact .inr (List.mem_of_getElem? hf)
    rcases List.mem_or_eq_of_mem_set h with h|rfl
    . exact .inr h
    exact .inl (List.mem_of_getElem? hb)
  rintro(h|h)
  . by_cases e:n=s.T.basic.getD i 0
    . exact .inr (e▸mem_set_self hj)
    exact .inl (mem_set_ne h e)
  by_cases e:n=s.T.free.getD j 0
  . exact .inl (e▸mem_set_self hi')
  exact .inr (mem_set_ne h e)
theorem filter_lt{l:List Int}{p q:Int->Bool}{e:Int}(he:e∈l)(hp:p e=true)(hq:q e=false)(h:∀x∈l,q x=true->p x=true):(l.filter q).length<(l.filter p).length:=by
  have h1:l.filter q=(l.filter p).filter q:=by
    rw[List.filter_filter];refine List.filter_congr fun x hx=>?_
    cases hqx:q x with
    |true=>simp[h x hx hqx]
    |false=>simp
  rw[h1];refine List.length_filter_lt_length_iff_exists.2 ⟨e,List.mem_filter.2 ⟨he,hp⟩,by simp[hq]⟩
theorem exch{t:LObj}(ht:t.Ok):∀(n:Nat) (s:LObj) (D:Int) (X:Nat),s.Ok->Alike s t->s.Bd D X->0<X->(t.T.basic.filter fun b=> !s.T.basic.contains b).length<=n-> ∃u D',u.Ok/\Alike u t/\u.Bd D' (bdN n X)/\ ∀b∈t.T.basic,b∈u.T.basic:=by
  intro n
  induction n with
  | zero=>
    intro s D X hs ha hb hX hn;refine⟨s,D,hs,ha,hb,fun b hm=>?_⟩;have h0:=List.eq_nil_of_length_eq_zero (Nat.le_zero.1 hn);have:=List.filter_eq_nil_iff.1 h0 b hm
    simpa using this
  | succ n ih=>
    intro s D X hs ha hb hX hn
    by_cases hall:∀b∈t.T.basic,b∈s.T.basic
    . refine⟨s,D,hs,ha,?_,hall⟩;have hle:=bdN_ge (n+1) hX
      exact⟨⟨hb.den.nz,Nat.le_trans hb.den.le hle⟩,fun x hx=>⟨(hb.rows x hx).r.imp fun M h=>⟨Nat.le_trans h.1 hle,h.2⟩,fun c hc=>((hb.rows x hx).cs c hc).imp fun M h=>⟨Nat.le_trans h.1 hle,h.2⟩⟩,
        fun x hx=>⟨(hb.os x hx).r.imp fun M h=>⟨Nat.le_trans h.1 hle,h.2⟩,fun c hc=>((hb.os x hx).cs c hc).imp fun M h=>⟨Nat.le_trans h.1 hle,h.2⟩⟩⟩
    obtain⟨e,he⟩:=Classical.not_forall.1 hall;obtain⟨he1,he2⟩:=Classical.not_imp.1 he
    have hef:e∈s.T.free:=by
      rcases List.mem_append.1 ((ha.mem e).2 (List.mem_append_left _ he1))with h|h
      . exact absurd h he2
      exact h
    obtain⟨j,hj⟩:=List.mem_iff_getElem?.1 hef;have hjl:j<s.T.free.length:=(List.getElem?_eq_some_iff.1 hj).1;have hjd:s.T.free.getD j 0=e:=getD_of hj
    obtain⟨i,x,b,hx,hbi,hbt,hne⟩:∃(i:Nat) (x:LRow) (b:Int),s.T.rows[i]?=some x/\s.T.basic[i]?=some b/\b∉t.T.basic/\x.cs.getD j 0≠0:=Classical.byContradiction fun hno=>by
      have s1:=(ha.sat _).1 (hs.ok.sat_pt hjl 1);have s0:=(ha.sat _).1 (hs.ok.sat_pt hjl 0);obtain⟨r,hr⟩:=List.mem_iff_getElem?.1 he1;have hrl:r<t.T.rows.length:=by rw[<-ht.ok.nb];exact(List.getElem?_eq_some_iff.1 hr).1
      have q1:=s1 r e _ hr (row_getD hrl);have q0:=s0 r e _ hr (row_getD hrl);have d1:s.T.pt j 1 e=1:=by rw[<-hjd];exact LTab.pt_j _ _ _
      have d0:s.T.pt j 0 e=0:=by rw[<-hjd];exact LTab.pt_j _ _ _
      unfold LRow.ev at q1 q0
      have hz:dotV (fun n=>s.T.pt j 1 n-s.T.pt j 0 n) (t.T.rows.getD r default).cs t.T.free=0:=dotV_zero fun n hn=>by
        have hnt:n∉t.T.basic:=fun h=>ht.ok.apart h hn
        by_cases hnb:n∈s.T.basic
        . obtain⟨i,hi⟩:=List.mem_iff_getElem?.1 hnb;have hil:i<s.T.rows.length:=by rw[<-hs.ok.nb];exact(List.getElem?_eq_some_iff.1 hi).1
          have hc:(s.T.rows.getD i default).cs.getD j 0=0:=Classical.byContradiction fun h=>hno ⟨i,_,n,row_getD hil,hi,hnt,h⟩
          show s.T.pt j 1 n-s.T.pt j 0 n=0
          rw[hs.ok.pt_at hjl 1 hi (row_getD hil),hs.ok.pt_at hjl 0 hi (row_getD hil),hc]
          grind
        have hne:n≠s.T.free.getD j 0:=fun h=>hnt (by rw[h,hjd];exact he1)
        show s.T.pt j 1 n-s.T.pt j 0 n=0
        rw[LTab.pt_out 1 hnb hne,LTab.pt_out 0 hnb hne]
        grind
      rw[dotV_subv]at hz;rw[d1]at q1;rw[d0]at q0
      grind
    have hil:i<s.T.rows.length:=(List.getElem?_eq_some_iff.1 hx).1;obtain⟨D',hb'⟩:=hb.piv hs hx hne;refine ih (s.piv i j) D' (2*(X*X)) (hs.piv hil hjl) ((hs.alike hx hjl hne).trans ha) hb' (by have:=Nat.mul_pos hX hX;omega) ?_;refine Nat.le_of_lt_succ (Nat.lt_of_lt_of_le (filter_lt (e:=e) he1 (by simpa using he2) ?_ fun y hy hq=>?_) hn)
    . have:e∈(s.piv i j).T.basic:=by
        show e∈s.T.basic.set i (s.T.free.getD j 0)
        rw[hjd];exact mem_set_self (by rw[hs.ok.nb];exact hil)
      simpa using this
    have hy2:y∉(s.piv i j).T.basic:=by simpa using hq
    have:y∉s.T.basic:=fun hm=>hy2 (by
      show y∈s.T.basic.set i (s.T.free.getD j 0)
      refine mem_set_ne hm fun h=>hbt ?_
      rw[getD_of hbi]at h;exact h▸hy)
    simpa using this
end
section
theorem subset_full{α:Type _}[DecidableEq α]:∀{l1 l2:List α},l1.Nodup->(∀x∈l1,x∈l2)->l2.length<=l1.length-> ∀x∈l2,x∈l1
  |[],l2,_,_,h,x,hx=>by obtain rfl:=List.eq_nil_of_length_eq_zero (Nat.le_zero.1 h);exact hx
  | a::l1,l2,hn,hs,hl,x,hx=>by
    by_cases e:x=a
    . exact e▸List.mem_cons_self ..
    have hn2:=List.nodup_cons.1 hn;have hl2:=List.length_erase_of_mem (hs a (List.mem_cons_self ..));have:=subset_full (l1:=l1) (l2:=l2.erase a) hn2.2 (fun y hy=>(List.mem_erase_of_ne (fun(h:y=a)=>hn2.1 (h▸hy))).2 (hs y (List.mem_cons_of_mem _ hy))) (by simp at hl;omega) x ((List.mem_erase_of_ne e).2 hx);exact List.mem_cons_of_mem _ this
section
variable {u t:LObj}{D:Int}{X:Nat}
theorem same_free(ht:t.Ok)(ha:Alike u t)(hb:∀b∈t.T.basic,b∈u.T.basic){n:Int}(hn:n∈t.T.free):n∈u.T.free:=by
  have h1:=subset_full ht.ok.nd1 hb (Nat.le_of_eq ha.nb)
  rcases List.mem_append.1 ((ha.mem n).2 (List.mem_append_right _ hn))with h|h
  . exact(ht.ok.apart (h1 n h) hn).elim
  exact h
theorem Alike.bd(ht:t.Ok)(hu:u.Ok)(ha:Alike u t)(hb:∀b∈t.T.basic,b∈u.T.basic)(hB:u.Bd D X):t.Bd D X:=by
  have hfr:∀n∈u.T.free,n∈t.T.free:=fun n hn=>by
    rcases List.mem_append.1 ((ha.mem n).1 (List.mem_append_right _ hn))with h|h
    . exact(hu.ok.apart (hb n h) hn).elim
    exact h
  have hzero:∀n∈u.T.free,t.T.sol n=0:=fun n hn=>ht.ok.sol_free (hfr n hn)
  --a free variable's place in u
  have place:∀k,k<t.T.free.length-> ∃k',k'<u.T.free.length/\u.T.free.getD k' 0=t.T.free.getD k 0/\ ∀m f,m≠k'->u.T.free[m]?=some f->t.T.pt k 1 f=0:=fun k hk=>by
    obtain⟨k',hk'⟩:=List.mem_iff_getElem?.1 (same_free ht ha hb (mem_getD hk));refine⟨k',(List.getElem?_eq_some_iff.1 hk').1,getD_of hk',fun m f hm hf=>?_⟩;have hff:=hfr f (List.mem_of_getElem? hf);refine LTab.pt_out 1 (fun h=>ht.ok.apart h hff) fun e=>hm ?_
    obtain⟨x1,x2⟩:=List.getElem?_eq_some_iff.1 hf;obtain⟨y1,y2⟩:=List.getElem?_eq_some_iff.1 hk';exact nodup_inj hu.ok.nd2 x1 y1 (x2.trans (e.trans y2.symm))
  refine⟨hB.den,fun y hy=>?_,fun y hy=>?_⟩
  . obtain⟨r,hr⟩:=List.mem_iff_getElem?.1 hy;have hrl:r<t.T.basic.length:=by rw[ht.ok.nb];exact(List.getElem?_eq_some_iff.1 hr).1
    have hbr:=getD_some hrl;obtain⟨i,hi⟩:=List.mem_iff_getElem?.1 (hb _ (List.mem_of_getElem? hbr));have hil:i<u.T.rows.length:=by rw[<-hu.ok.nb];exact(List.getElem?_eq_some_iff.1 hi).1
    have hx:=row_getD hil;have hxB:=hB.rows _ (List.mem_of_getElem? hx);refine⟨?_,fun c hc=>?_⟩
    . have h1:=LTab.Sat.at ((ha.sat _).2 ht.ok.sat_sol) hzero hi hx;rw[ht.ok.sol_at hbr hr]at h1;rw[h1];exact hxB.r
    obtain⟨k,hk,rfl⟩:=mem_getD_r hc;rw[ht.ok.row hr]at hk;obtain⟨k',h1,h2,h3⟩:=place k hk;have h4:=(ha.sat _).2 (ht.ok.sat_pt hk 1) i _ _ hi hx;have h4':=LTab.Sat.at ((ha.sat _).2 ht.ok.sat_sol) hzero hi hx;rw[ht.ok.sol_at hbr hr]at h4';rw[ht.ok.pt_at hk 1 hbr hr]at h4;unfold LRow.ev at h4;rw[dotV_one h1 (by rw[hu.ok.row hx];exact h1) h3,h2,LTab.pt_j]at h4;rw[show y.cs.getD k 0=(u.T.rows.getD i default).cs.getD k' 0 by grind];exact hxB.at k'
  obtain⟨o,ho⟩:=List.mem_iff_getElem?.1 hy;have hol:o<u.os.length:=by rw[ha.n];exact(List.getElem?_eq_some_iff.1 ho).1
  obtain⟨g,hg⟩:∃g,u.os[o]?=some g:=⟨_,List.getElem?_eq_getElem hol⟩;have hgB:=hB.os g (List.mem_of_getElem? hg);have hyl:=ht.len y hy;have hgl:=hu.len g (List.mem_of_getElem? hg);have h0:=ha.val o g y t.T.sol hg ho ht.ok.sat_sol;unfold LRow.ev at h0;rw[dotV_zero hzero,dotV_zero (fun n hn=>ht.ok.sol_free hn)]at h0;refine⟨by rw[show y.r=g.r by grind];exact hgB.r,fun c hc=>?_⟩;obtain⟨k,hk,rfl⟩:=mem_getD_r hc;rw[hyl]at hk;obtain⟨k',h1,h2,h3⟩:=place k hk;have h4:=ha.val o g y _ hg ho (ht.ok.sat_pt hk 1);unfold LRow.ev at h4;rw[dotV_one h1 (by rw[hgl];exact h1) h3,h2,LTab.pt_j,ht.ok.pt_dot hk 1 hyl]at h4;rw[show y.cs.getD k 0=g.cs.getD k' 0 by grind];exact hgB.at k'
theorem Alike.small{s:LObj}(hs:s.Ok)(ht:t.Ok)(ha:Alike s t)(hB:s.Bd D X)(hX:0<X){n:Nat}(hn:s.T.basic.length<=n\/s.T.free.length<=n):∃D',t.Bd D' (bdN n X):=by
  obtain⟨u,D',h1,h2,h3,h4⟩:=exch ht n s D X hs ha hB hX (by
    rcases hn with hn|hn
    . exact Nat.le_trans (List.length_filter_le _ _) (by rw[<-ha.nb];exact hn)
    refine Nat.le_trans ?_ hn;have hnd:(t.T.basic.filter fun b=> !s.T.basic.contains b).Nodup:=ht.ok.nd1.filter _
    have hsub:∀x∈t.T.basic.filter (fun b=> !s.T.basic.contains b),x∈s.T.free:=fun x hx=>by
      obtain⟨hx1,hx2⟩:=List.mem_filter.1 hx
      rcases List.mem_append.1 ((ha.mem x).2 (List.mem_append_left _ hx1))with h|h
      . simp[h]at hx2
      exact h
    exact Classical.byContradiction fun hc=>by
      generalize hF:t.T.basic.filter (fun b=> !s.T.basic.contains b)=F at hnd hsub hc
      obtain⟨a,l,rfl⟩:∃a l,F=a::l:=by
        cases F with
        |nil=>simp at hc
        |cons a l=>exact⟨a,l,rfl⟩
      have hn2:=List.nodup_cons.1 hnd;have:=subset_full (l1:=l) (l2:=s.T.free) hn2.2 (fun x hx=>hsub x (List.mem_cons_of_mem _ hx)) (by simp at hc;omega) a (hsub a (List.mem_cons_self ..));exact hn2.1 this)
  exact⟨D',Alike.bd ht h1 h2 h4 h3⟩
end
def dotQ:List Rat->List Rat->Rat
  |a::az,b::bs=>a*b+dotQ az bs
  |_,_=>0
theorem dotQ_nil(b:List Rat):dotQ [] b=0:=by cases b<;>rfl
theorem dotQ_nil'(a:List Rat):dotQ a []=0:=by cases a<;>rfl
theorem dotQ_comm:∀a b:List Rat,dotQ a b=dotQ b a
  |[],b=>by rw[dotQ_nil,dotQ_nil']
  |a::az,[]=>rfl
  |a::az,b::bs=>by simp only[dotQ];rw[dotQ_comm az bs];grind
theorem dotV_dot(v:Int->Rat):∀(cs:List Rat) (fs:List Int),dotV v cs fs=dotQ cs (fs.map v)
  |[],fs=>by rw[dotV_nil,dotQ_nil]
  |c::cs,[]=>rfl
  |c::cs,f::fs=>by simp only[dotV,List.map_cons,dotQ];rw[dotV_dot v cs fs]
theorem dotQ_append:∀(a c b d:List Rat),a.length=b.length->dotQ (a++c) (b++d)=dotQ a b+dotQ c d
  |[],c,[],d,_=>by simp only[List.nil_append,dotQ];grind
  |[],c,_::_,d,h=>by simp at h
  |_::_,c,[],d,h=>by simp at h
  | x::a,c,y::b,d,h=>by
    have:=dotQ_append a c b d (by simpa using h);simp only[List.cons_append,dotQ];rw[this];grind
theorem dotQ_sub{α:Type _}(p q:α->Rat):∀(Y:List Rat) (l:List α),dotQ Y (l.map fun x=>p x-q x)=dotQ Y (l.map p)-dotQ Y (l.map q)
  |[],l=>by simp only[dotQ_nil];grind
  |y::Y,[]=>by simp only[List.map_nil,dotQ];grind
  |y::Y,x::l=>by simp only[List.map_cons,dotQ];rw[dotQ_sub p q Y l];grind
theorem dotQ_neg:∀(a b:List Rat),dotQ (a.map fun x=>0-x) b=0-dotQ a b
  |[],b=>by simp only[List.map_nil,dotQ_nil];grind
  |a::az,[]=>by simp only[List.map_cons,dotQ];grind
  |a::az,b::bs=>by simp only[List.map_cons,dotQ];rw[dotQ_neg az bs];grind
theorem dotQ_zeros:∀(a:List Rat) (n:Nat),dotQ a (List.replicate n 0)=0
  |[],n=>dotQ_nil _
  |a::az,0=>rfl
  |a::az,n+1=>by simp only[List.replicate_succ,dotQ];rw[dotQ_zeros az n];grind
def unitQ(n k:Nat):List Rat:=(List.replicate n 0).set k 1
theorem dotQ_unit:∀(a:List Rat) (n k:Nat),a.length=n->k<n->dotQ a (unitQ n k)=a.getD k 0
  |[],n,k,h,hk=>by simp at h;omega
  |a::az,0,k,h,hk=>by omega
  | a::az,n+1,0,h,hk=>by
    unfold unitQ;simp only[List.replicate_succ,List.set_cons_zero,dotQ,List.getD_cons_zero];rw[dotQ_zeros];grind
  | a::az,n+1,k+1,h,hk=>by
    have:=dotQ_unit az n k (by simpa using h) (by omega);unfold unitQ at this⊢;simp only[List.replicate_succ,List.set_cons_succ,dotQ,List.getD_cons_succ];rw[this];grind
theorem dotQ_mono:∀{y a b:List Rat},a.length=b.length->(∀e∈y,0<=e)->(∀(k:Nat) p q,a[k]?=some p->b[k]?=some q->p<=q)->dotQ y a<=dotQ y b
  |[],a,b,_,_,_=>by simp only[dotQ_nil];exact Rat.le_refl
  |y::ys,[],b,h,_,_=>by obtain rfl:=List.eq_nil_of_length_eq_zero h.symm;exact Rat.le_refl
  |y::ys,a::az,[],h,_,_=>by simp at h
  | y::ys,a::az,b::bs,h,hy,hk=>by
    have ih:=dotQ_mono (y:=ys) (a:=az) (b:=bs) (by simpa using h) (fun e he=>hy e (List.mem_cons_of_mem _ he)) fun k p q h1 h2=>hk (k+1) p q h1 h2
    have h0:=Rat.mul_le_mul_of_nonneg_left (hk 0 a b rfl rfl) (hy y (List.mem_cons_self ..));simp only[dotQ]
    grind
theorem asg_sum(v:Int->Rat):∀(fs:List Int) (cs:List Rat) (L:List Int),cs.length=fs.length->fs.Nodup->L.Nodup->(∀f∈fs,f∈L)->dotV v cs fs=dotQ (L.map (asg fs cs)) (L.map v):=by
  have h0:∀L:List Int,dotQ (L.map fun _=>(0:Rat)) (L.map v)=0:=fun L=>by
    induction L with
    |nil=>rfl
    |cons a L ih=>simp only[List.map_cons,dotQ];rw[ih];grind
  have h1:∀(L:List Int) (f:Int) (c:Rat) (h:Int->Rat),f∉L->dotQ (L.map fun n=>if n=f then c else h n) (L.map v)=dotQ (L.map h) (L.map v):=fun L f c h hf=>by
    have:(L.map fun n=>if n=f then c else h n)=L.map h:=List.map_congr_left fun n hn=>if_neg fun(e:n=f)=>hf (e▸hn)
    rw[this]
  have h2:∀(L:List Int) (f:Int) (c:Rat) (h:Int->Rat),L.Nodup->f∈L->h f=0->dotQ (L.map fun n=>if n=f then c else h n) (L.map v)=c*v f+dotQ (L.map h) (L.map v):=fun L f c h=>by
    induction L with
    |nil=>intro _ hf;simp at hf
    | cons a L ih=>
      intro hn hf hz;have hn2:=List.nodup_cons.1 hn;simp only[List.map_cons,dotQ]
      by_cases e:a=f
      . subst e;rw[if_pos rfl,h1 L a c h hn2.1,hz];grind
      rw[if_neg e,ih hn2.2 ((List.mem_cons.1 hf).resolve_left (Ne.symm e)) hz];grind
  intro fs
  induction fs with
  | nil=>
    intro cs L hl _ _ _;obtain rfl:=List.eq_nil_of_length_eq_zero hl;rw[dotV_nil];exact(h0 L).symm
  | cons f fs ih=>
    intro cs L hl hn hL hm
    cases cs with
    |nil=>simp at hl
    | cons c cs=>
      have hn2:=List.nodup_cons.1 hn;have i1:=ih cs L (by simpa using hl) hn2.2 hL fun g hg=>hm g (List.mem_cons_of_mem _ hg)
      have i2:=h2 L f c (asg fs cs) hL (hm f (List.mem_cons_self ..)) (asg_out _ _ _ hn2.1);simp only[dotV];rw[i1, <-i2];rfl
end
end Go.Proofs.YtgemmbpjebijlaaGreatDoor
