/- Steps of the separation logic for rows of numbers of both kinds: reads, stores, elements whose cells are known. -/

import Derived.Test.YtlhbcopaakejgaaGreatDoorDsX
import Derived.Test.YtlhbcopaakejgaaGreatDoorSrR
import Derived.Test.YtlhbcopaakejgaaGreatDoorNrG
namespace Go.Proofs.YtlhbcopaakejgaaGreatDoor
open Go.RowKit
section
variable {P:Program}{V:World}{ops:Array Oper}{Q:Act→World→Prop}{f0 fs fs':List Ft}{ks:List Nat}{o:Oper}{rest:List Oper}{a a':Act}{t:TypeId}
end
section
variable {P:Program}{V:World}{ops:Array Oper}{Q:Act→World→Prop}{f0 fs fs':List Ft}{ks:List Nat}{o:Oper}{rest:List Oper}{a a':Act}{t:TypeId}
theorem eRr{g n c j:Nat}{xs:List Rat}{q:Rat}{a2:Duo Sl Sl→Act}(hm:rO refK t (some ⟨g,0,none⟩) n c xs∈fs)(hx:xs[j]?=some q)(h:∀x:Duo Sl Sl,Sx P V ops Q f0 ks rest (rF (.agg #[.bool (isN q),.slice x.a.p x.a.l x.a.c,.slice x.b.p x.b.l x.b.c]) q::fs) (a2 x))(hg:Wants ops o a:=by first|exact wants0 rfl|exact wantsg rfl rfl rfl rfl)
    (h1:∀w v0 v1 v2,w.cell? ⟨g,j*3,none⟩=some v0→w.cell? ⟨g,j*3+1,none⟩=some v1→w.cell? ⟨g,j*3+2,none⟩=some v2→Flt (.agg #[v0,v1,v2]) w ((execOp a.eval o).run P w):=by intro w' v0 v1 v2 c0 c1 c2;go_simp;(try go_bits);exact⟨rfl,rfl⟩) (ha:∀x:Duo Sl Sl,a.put o.dst (.agg #[.bool (isN q),.slice x.a.p x.a.l x.a.c,.slice x.b.p x.b.l x.b.c])=a2 x:=by intro x;(simp only[mkOf,Act.put,pA,pB,pC,pD,pE])<;>exact rfl):Sx P V ops Q f0 (2::ks) (o::rest) fs a:=
  sx2 (α:=Duo Sl Sl) (f:=fun x=>.agg #[.bool (isN q),.slice x.a.p x.a.l x.a.c,.slice x.b.p x.b.l x.b.c]) (l':=fun x=>[rF (.agg #[.bool (isN q),.slice x.a.p x.a.l x.a.c,.slice x.b.p x.b.l x.b.c]) q]) hg (fun w hw=>by
    obtain⟨v0,v1,v2,hc,hr⟩:=(hw.own hm).slv.ref hx;have hf:=h1 w v0 v1 v2 (by have:=hc.2.1;rwa [show 0+j*3=j*3 by omega]at this) (by have:=hc.2.2.1;rwa [show 0+j*3=j*3 by omega]at this) (by have:=hc.2.2.2;rwa [show 0+j*3=j*3 by omega]at this);obtain⟨rfl,⟨p,l,d,rfl⟩,p',l',d',rfl⟩:=refR_cells hr;exact Flt.does ⟨⟨⟨p,l,d⟩,⟨p',l',d'⟩⟩,rfl,(SS.start w).fact (rF _ _) hr⟩ hf) fun x=>by rw[ha];exact h x
end
def rC(t:TypeId)(g n c:Nat)(xs:List Rat)(j:Nat)(x:Duo Sl Sl)(q:Rat):Ft:=
  ⟨(rO ratK t (some ⟨g,0,none⟩) n c xs).own,(rO ratK t (some ⟨g,0,none⟩) n c xs).ln,fun w=>(rO ratK t (some ⟨g,0,none⟩) n c xs).F w∧C3 w g (j*3) (.bool (isN q)) (.slice x.a.p x.a.l x.a.c) (.slice x.b.p x.b.l x.b.c),
    fun h hg=>(rO ratK t (some ⟨g,0,none⟩) n c xs).lt h.1 hg,fun h hb=>⟨(rO ratK t (some ⟨g,0,none⟩) n c xs).bel h.1 hb,h.2.below hb⟩,fun{w R} h hn hS w1 h1 h2 w2 h3=>by
      refine⟨(rO ratK t (some ⟨g,0,none⟩) n c xs).spa h.1 hn hS w1 h1 h2 w2 h3,?_⟩;have hg:w1.heap[g]?=w.heap[g]?:=h2 g (fun e=>hn (e▸rfl)) h.2.1;have hc:∀o,w1.cell? ⟨g,o,none⟩=w.cell? ⟨g,o,none⟩:=fun o=>by unfold World.cell?;rw[hg]
      exact C3.below (w:=w1) ⟨Nat.lt_of_lt_of_le h.2.1 h1,(hc _).trans h.2.2.1,(hc _).trans h.2.2.2.1,(hc _).trans h.2.2.2.2⟩ h3⟩
theorem SS.toC{V w:World}{l:List Ft}{t:TypeId}{g n c j:Nat}{xs:List Rat}{q:Rat}(k:SS V (rO ratK t (some ⟨g,0,none⟩) n c xs::l) w)(hx:xs[j]?=some q):
    ∃x:Duo Sl Sl,SS V (rC t g n c xs j x q::qF (.agg #[.bool (isN q),.slice x.a.p x.a.l x.a.c,.slice x.b.p x.b.l x.b.c]) q::l) w:=by
  obtain⟨v0,v1,v2,hc,hr⟩:=(k.own m0).slv.rat hx;obtain⟨rfl,⟨p,a,d,rfl⟩,p',a',d',rfl⟩:=ratV_cells' hr;rw[Nat.zero_add]at hc;have k2:=k.fact (qF (.agg #[.bool (isN q),.slice p a d,.slice p' a' d']) q) hr;have k3:=k2.up1;refine⟨⟨⟨p,a,d⟩,⟨p',a',d'⟩⟩,k3.old,fun f hf=>?_,fun f hf=>?_,?_⟩
  · rcases List.mem_cons.1 hf with rfl|hf
    · exact⟨k3.has _ (List.mem_cons_self ..),hc⟩
    · exact k3.has f (List.mem_cons_of_mem _ hf)
  · rcases List.mem_cons.1 hf with rfl|hf
    · exact k3.lo (rO ratK t (some ⟨g,0,none⟩) n c xs) (List.mem_cons_self ..)
    · exact k3.lo f (List.mem_cons_of_mem _ hf)
  · have h1:=List.pairwise_cons.1 k3.ap
    exact .cons h1.1 h1.2
theorem SS.unC{V w:World}{l:List Ft}{t:TypeId}{g n c j:Nat}{xs:List Rat}{x:Duo Sl Sl}{q:Rat}(k:SS V (rC t g n c xs j x q::l) w):SS V (rO ratK t (some ⟨g,0,none⟩) n c xs::l) w:=by
  refine⟨k.old,fun f hf=>?_,fun f hf=>?_,?_⟩
  · rcases List.mem_cons.1 hf with rfl|hf
    · exact(k.has _ (List.mem_cons_self ..)).1
    · exact k.has f (List.mem_cons_of_mem _ hf)
  · rcases List.mem_cons.1 hf with rfl|hf
    · exact k.lo (rC t g n c xs j x q) (List.mem_cons_self ..)
    · exact k.lo f (List.mem_cons_of_mem _ hf)
  · have h1:=List.pairwise_cons.1 k.ap
    exact .cons h1.1 h1.2
def rK(t:TypeId)(g n c:Nat)(xs:List Rat)(j:Nat)(x:Duo Sl Sl)(q:Rat):Ft:=
  ⟨(rO refK t (some ⟨g,0,none⟩) n c xs).own,(rO refK t (some ⟨g,0,none⟩) n c xs).ln,fun w=>(rO refK t (some ⟨g,0,none⟩) n c xs).F w∧C3 w g (j*3) (.bool (isN q)) (.slice x.a.p x.a.l x.a.c) (.slice x.b.p x.b.l x.b.c),
    fun h hg=>(rO refK t (some ⟨g,0,none⟩) n c xs).lt h.1 hg,fun h hb=>⟨(rO refK t (some ⟨g,0,none⟩) n c xs).bel h.1 hb,h.2.below hb⟩,fun{w R} h hn hS w1 h1 h2 w2 h3=>by
      refine⟨(rO refK t (some ⟨g,0,none⟩) n c xs).spa h.1 hn hS w1 h1 h2 w2 h3,?_⟩;have hg:w1.heap[g]?=w.heap[g]?:=h2 g (fun e=>hn (e▸rfl)) h.2.1;have hc:∀o,w1.cell? ⟨g,o,none⟩=w.cell? ⟨g,o,none⟩:=fun o=>by unfold World.cell?;rw[hg]
      exact C3.below (w:=w1) ⟨Nat.lt_of_lt_of_le h.2.1 h1,(hc _).trans h.2.2.1,(hc _).trans h.2.2.2.1,(hc _).trans h.2.2.2.2⟩ h3⟩
theorem SS.toK{V w:World}{l:List Ft}{t:TypeId}{g n c j:Nat}{xs:List Rat}{q:Rat}(k:SS V (rO refK t (some ⟨g,0,none⟩) n c xs::l) w)(hx:xs[j]?=some q):
    ∃x:Duo Sl Sl,SS V (rK t g n c xs j x q::rF (.agg #[.bool (isN q),.slice x.a.p x.a.l x.a.c,.slice x.b.p x.b.l x.b.c]) q::l) w:=by
  obtain⟨v0,v1,v2,hc,hr⟩:=(k.own m0).slv.ref hx;obtain⟨rfl,⟨p,a,d,rfl⟩,p',a',d',rfl⟩:=refR_cells hr;rw[Nat.zero_add]at hc;have k2:=k.fact (rF (.agg #[.bool (isN q),.slice p a d,.slice p' a' d']) q) hr;have k3:=k2.up1;refine⟨⟨⟨p,a,d⟩,⟨p',a',d'⟩⟩,k3.old,fun f hf=>?_,fun f hf=>?_,?_⟩
  · rcases List.mem_cons.1 hf with rfl|hf
    · exact⟨k3.has _ (List.mem_cons_self ..),hc⟩
    · exact k3.has f (List.mem_cons_of_mem _ hf)
  · rcases List.mem_cons.1 hf with rfl|hf
    · exact k3.lo (rO refK t (some ⟨g,0,none⟩) n c xs) (List.mem_cons_self ..)
    · exact k3.lo f (List.mem_cons_of_mem _ hf)
  · have h1:=List.pairwise_cons.1 k3.ap
    exact .cons h1.1 h1.2
theorem SS.unK{V w:World}{l:List Ft}{t:TypeId}{g n c j:Nat}{xs:List Rat}{x:Duo Sl Sl}{q:Rat}(k:SS V (rK t g n c xs j x q::l) w):SS V (rO refK t (some ⟨g,0,none⟩) n c xs::l) w:=by
  refine⟨k.old,fun f hf=>?_,fun f hf=>?_,?_⟩
  · rcases List.mem_cons.1 hf with rfl|hf
    · exact(k.has _ (List.mem_cons_self ..)).1
    · exact k.has f (List.mem_cons_of_mem _ hf)
  · rcases List.mem_cons.1 hf with rfl|hf
    · exact k.lo (rK t g n c xs j x q) (List.mem_cons_self ..)
    · exact k.lo f (List.mem_cons_of_mem _ hf)
  · have h1:=List.pairwise_cons.1 k.ap
    exact .cons h1.1 h1.2
section
variable {P:Program}{V:World}{ops:Array Oper}{Q:Act→World→Prop}{f0 fs fs':List Ft}{ks:List Nat}{o:Oper}{rest:List Oper}{a a':Act}{t:TypeId}
theorem eWR{g n c j:Nat}{xs:List Rat}{y:Rat}{v0 v1 v2:Value}(i:Nat)(hj:j<xs.length)(hv:∀w,SS V fs w→RefR w (.agg #[v0,v1,v2]) y)(h:Sx P V ops Q f0 ks rest fs' a')(hi:fs[i]?=some (rO refK t (some ⟨g,0,none⟩) n c xs):=by rfl)(hf:fs.set i (rO refK t (some ⟨g,0,none⟩) n c (xs.set j y))=fs':=by(simp only[pB,pC])<;>exact rfl)(hs:f0.Sublist fs':=by exact List.nil_sublist _)(hq:OkL 2 i fs:=by repeat (first|exact trivial|(show OkA _ _;assumption)|refine⟨rfl,?_⟩))(hg:Wants ops o a:=by first|exact wants0 rfl|exact wantsg rfl rfl rfl rfl)
    (h1:∀w u0 u1 u2,w.cell? ⟨g,j*3,none⟩=some u0→w.cell? ⟨g,j*3+1,none⟩=some u1→w.cell? ⟨g,j*3+2,none⟩=some u2→(∀o,w.frozen? ⟨g,o,none⟩=false)→Does P (fun u w'=>u=undef∧w'=putAt g (j*3) [v0,v1,v2] w) ((execOp a.eval o).run P w):=by intro w' u0 u1 u2 c0 c1 c2 f;go_simp;exact⟨rfl,rfl⟩) (ha:a.put o.dst undef=a':=by(simp only[mkOf,Act.put,pA,pB,pC,pD,pE])<;>exact rfl):Sx P V ops Q f0 (4::ks) (o::rest) fs a:=
  sxS (R:=g) (f2:=rO refK t (some ⟨g,0,none⟩) n c (xs.set j y)) hi rfl (fun _ h=>h) (fun w k=>qtN (fun R' e=>by injection e with e;subst e;exact OwV.hd k (List.ne_nil_of_length_pos (by omega)) (fun{_ _ _ _} h hu=>refK_hd h hu)) hq) (by rw[hf];exact hs) hg (fun w hw k=>by
    obtain⟨u0,hu0⟩:=OwV.some_cell k hj (j:=0) (by decide);obtain⟨u1,hu1⟩:=OwV.some_cell k hj (j:=1) (by decide);obtain⟨u2,hu2⟩:=OwV.some_cell k hj (j:=2) (by decide);refine(h1 w u0 u1 u2 hu0 hu1 hu2 (OwV.fz k)).mono fun u w' ⟨e1,e2⟩=>?_
    subst e2;exact⟨e1,⟨_,_,rfl⟩,OwV.put k ⟨_,_,_,rfl,hv w hw⟩ hj _ (Below.refl _ _)⟩) (by rw[hf,ha];exact h)
end
theorem infoR:(Tryz.prog.info? 46).map (fun i=>(i.zero,i.size,i.bytes))=some (some (.agg #[.bool false,.slice none 0 0,.slice none 0 0]),refK.sz,56):=by kernel_rfl
theorem refz0(w:World):refK.R w [.bool false,.slice none 0 0,.slice none 0 0] 0:=⟨_,_,_,rfl,refR0 w⟩
end Go.Proofs.YtlhbcopaakejgaaGreatDoor
