/- Families of rows: a row of slices, with the rows that they are; one of them may be taken out. Maps whose keys are integers, in the separation logic: a map is a block with its entries. Rational numbers in the separation logic. Literal rows; numbers in a row that is read; parts of rows that are read. -/

import Derived.Test.YtlhbcopaakejgaaGreatDoorSc
import Derived.MapKept
import Derived.ChangeMaps5
import Derived.Test.YtlhbcopaakejgaaGreatDoorNrE
namespace Go.Proofs.YtlhbcopaakejgaaGreatDoor
open Go.RowKit
def slcK:EK Sl where
  sz:=1
  pos:=by decide
  R:=fun _ cs s=>cs=[.slice s.p s.l s.c]
  len:=fun e=>by rw[e];rfl
  one:=fun e u hu=>by
    subst e;simp only[List.mem_cons,List.not_mem_nil,or_false]at hu;subst hu;rfl
  below:=fun e _=>e
theorem slcK_free:slcK.Free:=fun _ _ _ _ h=>h
instance :OwnK slcK:=⟨[],fun h _ _ _ _ _ _=>h,.inl slcK_free⟩
structure FamO{α:Type}(K:EK α)(tt t:TypeId)(k:Nat)(p:Option Addr)(n c:Nat)(ss:List Sl)(xss:List (List α))(w:World):Prop where
  out:OwV slcK tt 0 w (.slice p n c) ss
  len:ss.length=xss.length
  row:∀j s xs,j≠k→ss[j]?=some s→xss[j]?=some xs→OwV K t 0 w (.slice s.p s.l s.c) xs
  ap:∀i j s u g,i≠j→i≠k→j≠k→ss[i]?=some s→ss[j]?=some u→ob s.p=some g→ob u.p≠some g
  ao:∀j s g,j≠k→ss[j]?=some s→ob s.p=some g→ob p≠some g
theorem FamO.slv{α:Type}{K:EK α}{w:World}{tt t:TypeId}{k:Nat}{p:Option Addr}{n c i:Nat}{ss:List Sl}{xss:List (List α)}{s:Sl}{xs:List α}(h:FamO K tt t k p n c ss xss w)(hi:i≠k)(hs:ss[i]?=some s)(hx:xss[i]?=some xs):SlV K w (.slice s.p s.l s.c) xs:=(h.row i s xs hi hs hx).slv
def fX{α:Type}(K:EK α)[OwnK K](tt t:TypeId)(k:Nat)(p:Option Addr)(n c:Nat)(ss:List Sl)(xss:List (List α)):Ft:=
  ⟨fun g=>ob p=some g∨ ∃j s,j≠k∧ss[j]?=some s∧ob s.p=some g,K.S,FamO K tt t k p n c ss xss,fun h e=>e.elim (fun e=>(h.out.block e).2) fun⟨j,s,h1,h2,h3⟩=>by
    have hl:=(List.getElem?_eq_some_iff.1 h2).1;exact((h.row j s _ h1 h2 (List.getElem?_eq_getElem (h.len▸hl))).block h3).2,
  fun h hb=>⟨h.out.below hb,h.len,fun j s xs h1 h2 h3=>(h.row j s xs h1 h2 h3).below hb,h.ap,h.ao⟩,
  fun{w R} h hn hS w1 hs hf w2 hb=>⟨h.out.spare (by rw[ob_eq];exact fun e=>hn (.inl e)) (.inl slcK_free) w1 hs hf w2 hb,h.len,fun j s xs h1 h2 h3=>(h.row j s xs h1 h2 h3).spare (by rw[ob_eq];exact fun e=>hn (.inr ⟨j,s,h1,h2,e⟩)) (.inr hS) w1 hs hf w2 hb,h.ap,h.ao⟩⟩
section
variable {α:Type}{K:EK α}[OwnK K]{V w:World}{l:List Ft}{tt t:TypeId}{k m:Nat}{p:Option Addr}{n c i:Nat}{ss:List Sl}{xss:List (List α)}{s:Sl}{xs:List α}
theorem SS.fam(h:SS V l w)(hm:fX K tt t k p n c ss xss∈l):FamO K tt t k p n c ss xss w:=h.get hm
theorem SS.lenF(h:SS V l w)(hm:fX K tt t k p n c ss xss∈l):n=ss.length:=(h.fam hm).out.len
theorem SS.ptF(h:SS V l w)(hm:fX K tt t k p n c ss xss∈l)(hi:i<n):∃g,p=some ⟨g,0,none⟩:=by
  obtain⟨g,o,e⟩:=(h.fam hm).out.slv.pt hi;obtain rfl:=(h.fam hm).out.off e;exact⟨g,e⟩
theorem SS.famS(h:SS V (rO slcK tt p n c (List.replicate m ⟨none,0,0⟩)::l) w)(t:TypeId):SS V (fX K tt t (List.replicate m (⟨none,0,0⟩:Sl)).length p n c (List.replicate m ⟨none,0,0⟩) (List.replicate m [])::l) w:=by
  rw[List.length_replicate];have hn:∀j (s:Sl),(List.replicate m (⟨none,0,0⟩:Sl))[j]?=some s→s=⟨none,0,0⟩:=fun j s e=>(List.mem_replicate.1 (List.mem_of_getElem? e)).2
  have hown:∀g,(fX K tt t m p n c (List.replicate m ⟨none,0,0⟩) (List.replicate m [])).own g→ob p=some g:=fun g e=>e.elim id fun⟨j,s,_,h2,h3⟩=>by rw[hn j s h2]at h3;cases h3
  refine⟨h.old,fun f hf=>?_,fun f hf g hg=>?_,?_⟩
  · rcases List.mem_cons.1 hf with rfl|hf
    · refine⟨h.get m0,by simp,fun j s xs _ h2 h3=>?_,fun i j s u g _ _ _ h1 _ e=>?_,fun j s g _ h1 e=>?_⟩
      · rw[hn j s h2,(List.mem_replicate.1 (List.mem_of_getElem? h3)).2];exact .nil
      · rw[hn i s h1]at e;cases e
      · rw[hn j s h1]at e;cases e
    · exact h.has f (List.mem_cons_of_mem _ hf)
  · rcases List.mem_cons.1 hf with rfl|hf
    · exact h.lo _ (List.mem_cons_self ..) g (hown g hg)
    · exact h.lo f (List.mem_cons_of_mem _ hf) g hg
  · obtain⟨h1,h2⟩:=List.pairwise_cons.1 h.ap
    exact .cons (fun f hf g hg=>h1 f hf g (hown g hg)) h2
theorem SS.famO(h:SS V (fX K tt t m p n c ss xss::l) w)(hm:ss.length≤m)(hs:ss[k]?=some s)(hx:xss[k]?=some xs):SS V (fX K tt t k p n c ss xss::rO K t s.p s.l s.c xs::l) w:=by
  have hk:k≠m:=fun e=>by have:=(List.getElem?_eq_some_iff.1 hs).1;omega
  have hF:=h.fam m0;have hlt:∀j s,ss[j]?=some s→j≠m:=fun j s e e2=>by have:=(List.getElem?_eq_some_iff.1 e).1;omega
  have hown:∀g,(fX K tt t k p n c ss xss).own g→(fX K tt t m p n c ss xss).own g:=fun g e=>e.imp id fun⟨j,u,_,h2,h3⟩=>⟨j,u,hlt j u h2,h2,h3⟩
  have hown2:∀g,ob s.p=some g→(fX K tt t m p n c ss xss).own g:=fun g e=>.inr ⟨k,s,hk,hs,e⟩
  obtain⟨h1,h2⟩:=List.pairwise_cons.1 h.ap;refine⟨h.old,fun f hf=>?_,fun f hf g hg=>?_,.cons (fun f hf g hg=>?_) (.cons (fun f hf g hg=>h1 f hf g (hown2 g hg)) h2)⟩
  · rcases List.mem_cons.1 hf with rfl|hf
    · exact⟨hF.out,hF.len,fun j u xs _ e1 e2=>hF.row j u xs (hlt j u e1) e1 e2,fun i j u v g e _ _ e1 e2=>hF.ap i j u v g e (hlt i u e1) (hlt j v e2) e1 e2,fun j u g _ e1=>hF.ao j u g (hlt j u e1) e1⟩
    · rcases List.mem_cons.1 hf with rfl|hf
      · exact hF.row k s xs hk hs hx
      · exact h.has f (List.mem_cons_of_mem _ hf)
  · rcases List.mem_cons.1 hf with rfl|hf
    · exact h.lo _ (List.mem_cons_self ..) g (hown g hg)
    · rcases List.mem_cons.1 hf with rfl|hf
      · exact h.lo _ (List.mem_cons_self ..) g (hown2 g hg)
      · exact h.lo f (List.mem_cons_of_mem _ hf) g hg
  · rcases List.mem_cons.1 hf with rfl|hf
    · intro hg2
      have hg2:ob s.p=some g:=hg2
      rcases hg with e|⟨j,u,e1,e2,e3⟩
      · exact hF.ao k s g hk hs hg2 e
      · exact hF.ap k j s u g (Ne.symm e1) hk (hlt j u e2) hs e2 hg2 e3
    · exact h1 f hf g (hown g hg)
theorem SS.famB(h:SS V (fX K tt t k p n c ss xss::rO K t s.p s.l s.c xs::l) w)(hs:ss[k]?=some s):SS V (fX K tt t ss.length p n c ss (xss.set k xs)::l) w:=by
  obtain⟨h1,h2⟩:=List.pairwise_cons.1 h.ap;obtain⟨h3,h4⟩:=List.pairwise_cons.1 h2;have hF:=h.fam m0;have hr:OwV K t 0 w (.slice s.p s.l s.c) xs:=h.get m1;have ha:=fun g (e:(fX K tt t k p n c ss xss).own g) (e2:ob s.p=some g)=>h1 _ (List.mem_cons_self ..) g e e2
  have hown:∀g,(fX K tt t ss.length p n c ss (xss.set k xs)).own g→(fX K tt t k p n c ss xss).own g∨ob s.p=some g:=fun g e=>e.elim (fun e=>.inl (.inl e)) fun⟨j,u,_,e2,e3⟩=>by
    by_cases e:j=k
    · subst e
      rw[hs]at e2;exact .inr (by rw[Option.some.inj e2];exact e3)
    · exact .inl (.inr ⟨j,u,e,e2,e3⟩)
  refine⟨h.old,fun f hf=>?_,fun f hf g hg=>?_,.cons (fun f hf g hg=>?_) h4⟩
  · rcases List.mem_cons.1 hf with rfl|hf
    · refine⟨hF.out,by rw[List.length_set];exact hF.len,fun j u ys _ e1 e2=>?_,fun i j u v g e _ _ e1 e2 e3 e4=>?_,fun j u g _ e1 e2 e3=>?_⟩
      · by_cases e:j=k
        · subst e
          rw[hs]at e1;rw[List.getElem?_set_self (by rw[←hF.len];exact(List.getElem?_eq_some_iff.1 hs).1)]at e2;rw[←Option.some.inj e1, ←Option.some.inj e2];exact hr
        · rw[List.getElem?_set_ne (Ne.symm e)]at e2;exact hF.row j u ys e e1 e2
      · by_cases ei:i=k
        · subst ei
          rw[hs]at e1;rw[←Option.some.inj e1]at e3;exact ha g (.inr ⟨j,v,Ne.symm e,e2,e4⟩) e3
        · by_cases ej:j=k
          · subst ej
            rw[hs]at e2;rw[←Option.some.inj e2]at e4;exact ha g (.inr ⟨i,u,e,e1,e3⟩) e4
          · exact hF.ap i j u v g e ei ej e1 e2 e3 e4
      · by_cases ej:j=k
        · subst ej
          rw[hs]at e1;rw[←Option.some.inj e1]at e2;exact ha g (.inl e3) e2
        · exact hF.ao j u g ej e1 e2 e3
    · exact h.has f (List.mem_cons_of_mem _ (List.mem_cons_of_mem _ hf))
  · rcases List.mem_cons.1 hf with rfl|hf
    · exact(hown g hg).elim (h.lo _ (List.mem_cons_self ..) g) (h.lo _ (List.mem_cons_of_mem _ (List.mem_cons_self ..)) g)
    · exact h.lo f (List.mem_cons_of_mem _ (List.mem_cons_of_mem _ hf)) g hg
  · exact(hown g hg).elim (fun e=>h1 f (List.mem_cons_of_mem _ hf) g e) (fun e=>h3 f hf g e)
end
section
variable {w:World}{g n c i b:Nat}{t:TypeId}
theorem OwV.slc{ss:List Sl}{s:Sl}(h:OwV slcK t b w (.slice (some ⟨g,0,none⟩) n c) ss)(hx:ss[i]?=some s):w.cell? ⟨g,i,none⟩=some (.slice s.p s.l s.c):=by
  have h1:=h.slv.cel (f:=fun s:Sl=>[.slice s.p s.l s.c]) (fun e=>e) hx 0 rfl
  rwa [show 0+i*slcK.sz+0=i from by show 0+i*1+0=_;omega]at h1
end
section
variable {α:Type}{K:EK α}[OwnK K]{P:Program}{V:World}{ops:Array Oper}{Q:Act→World→Prop}{f0 fs fs':List Ft}{ks:List Nat}{o:Oper}{rest:List Oper}{a a':Act}{tt t:TypeId}{ss:List Sl}{xss:List (List α)}
theorem eWF {g n c j :Nat}{y:Sl}(i:Nat)(hj:j<ss.length)(h:Sx P V ops Q f0 ks rest fs' a')(hi:fs[i]?=some (fX K tt t j (some ⟨g,0,none⟩) n c ss xss):=by rfl)(h3:K.S.contains 3=false:=by rfl)(hf:fs.set i (fX K tt t j (some ⟨g,0,none⟩) n c (ss.set j y) xss)=fs':=by(simp only[pB,pC])<;>exact rfl)(hs:f0.Sublist fs':=by exact List.nil_sublist _)(hq:OzL i fs∨OkL 3 i fs:=by first|(refine .inl ?_;(repeat (first|exact trivial|(show OzA _;assumption)|refine⟨rfl,?_⟩))<;>fail)|(refine .inr ?_;(repeat (first|exact trivial|(show OkA _ _;assumption)|refine⟨rfl,?_⟩))<;>fail))(hg:Wants ops o a:=by first|exact wants0 rfl|exact wantsg rfl rfl rfl rfl)
    (h1:∀w u,w.cell? ⟨g,j,none⟩=some u→(∀o,w.frozen? ⟨g,o,none⟩=false)→Does P (fun u w'=>u=undef∧w'=w.setCell ⟨g,j,none⟩ (.slice y.p y.l y.c)) ((execOp a.eval o).run P w):=by intro w' u c f;go_simp;exact⟨rfl,rfl⟩) (ha:a.put o.dst undef=a':=by(simp only[mkOf,Act.put,pA,pB,pC,pD,pE])<;>exact rfl):Sx P V ops Q f0 (4::ks) (o::rest) fs a:=by
  have hset:∀k,k≠j→(ss.set j y)[k]?=ss[k]?:=fun k hk=>List.getElem?_set_ne (Ne.symm hk)
  refine sxS (R:=g) (f1:=fX K tt t j (some ⟨g,0,none⟩) n c ss xss) (f2:=fX K tt t j (some ⟨g,0,none⟩) n c (ss.set j y) xss) hi (.inl rfl) (fun _ h=>h.imp id fun⟨k,s,e1,e2,e3⟩=>⟨k,s,e1,by rwa [hset k e1]at e2,e3⟩) (fun w k=>hq.elim qtZ fun hk=>qtN (fun R' e=>by injection e with e;subst e;exact OwV.hd k.out (List.ne_nil_of_length_pos (by omega)) (fun{_ _ _ _} h hu=>by cases h;cases hu;rfl)) hk) (by rw[hf];exact hs) hg (fun w _ k=>?_) (by rw[hf,ha];exact h);have k:FamO K tt t j (some ⟨g,0,none⟩) n c ss xss w:=k;obtain⟨u,hu⟩:=OwV.some_cell k.out hj (j:=0) (by decide)
  refine (h1 w u (by have:j*slcK.sz+0=j:=by show j*1+0=j;omega
                     rwa [this]at hu) (OwV.fz k.out)).mono fun u w' ⟨e1,e2⟩=>?_
  have e3:w'=putAt g (j*slcK.sz) [.slice y.p y.l y.c] w:=by rw[show j*slcK.sz=j by show j*1=j;omega];exact e2
  subst e3;have hsp:=OwV.put k.out (show slcK.R w [.slice y.p y.l y.c] y from rfl) hj _ (Below.refl _ _);have hnoS:K.Free∨NoHd K.S g w:=.inr ((OwV.hd k.out (List.ne_nil_of_length_pos (by omega)) (m:=3) (fun{_ _ _ _} h hu=>by cases h;cases hu;rfl)).no h3);exact⟨e1,⟨_,_,rfl⟩,hsp,by rw[List.length_set];exact k.len,fun i s xs e1 e2 e3=>(k.row i s xs e1 (by rwa [hset i e1]at e2) e3).spare (by rw[ob_eq];exact fun e=>k.ao i s g e1 (by rwa [hset i e1]at e2) e rfl) hnoS _ (put_size ..) (fun _ hg _=>put_far hg ..) _ (Below.refl _ _),fun i j s u g e e1 e2 e3 e4=>k.ap i j s u g e e1 e2 (by rwa [hset i e1]at e3) (by rwa [hset j e2]at e4),fun i s g e1 e2=>k.ao i s g e1 (by rwa [hset i e1]at e2)⟩
end
end Go.Proofs.YtlhbcopaakejgaaGreatDoor
namespace Go.Proofs.YtlhbcopaakejgaaGreatDoor
open Go.RowKit Go.ChangeMaps
def entI:Nat→List (Int × Value)→List MapEntry
  |_,[]=>[]
  |n,p::l=>{key:=.int .i64 p.1,val:=p.2,born:=n}::entI (n+1) l
def mapI(l:List (Int × Value)):Obj:=.map (entI 0 l).toArray l.length
def posI:List (Int × Value)→Int→Option (Nat × Value)
  |[],_=>none
  |p::l,k=>if k=p.1 then some (0,p.2)else(posI l k).map fun q=>(q.1+1,q.2)
def lkI(z:Value)(l:List (Int × Value))(k:Int):Value:=((posI l k).map (·.2)).getD z
def upI:List (Int × Value)→Int→Value→List (Int × Value)
  |[],k,v=>[(k,v)]
  |p::l,k,v=>if k=p.1 then(k,v)::l else p::upI l k v
theorem entI_app:∀(l:List (Int × Value)) (n:Nat) (k:Int) (v:Value),entI n (l++[(k,v)])=entI n l++[{key:=.int .i64 k,val:=v,born:=n+l.length}]
  |[],n,k,v=>by simp[entI]
  | x::l,n,k,v=>by
    rw[List.cons_append,entI,entI,entI_app l (n+1) k,List.cons_append,List.length_cons];rw[show n+1+l.length=n+(l.length+1) by omega]
theorem find_now:∀(l:List (Int × Value)) (n i:Nat) (k:Int),Instr.findNow (.int .i64) (.int .i64 k) (entI n l) i=some ((posI l k).map fun q=>(i+q.1,q.2))
  |[],_,_,_=>rfl
  | p ::l,n,i,k=>by
    rw[entI,posI];unfold Instr.findNow Instr.sameNow
    by_cases e:k=p.1
    · simp[e]
    · rw[if_neg e]
      simp only[if_true,beq_eq_false_iff_ne.2 e];rw[find_now l (n+1) (i+1) k]
      cases posI l k with
      |none=>rfl
      |some q=>simp only[Option.map_some];rw[show i+1+q.1=i+(q.1+1) by omega]
theorem upI_none:∀{l:List (Int × Value)} {k:Int} {v:Value},posI l k=none→upI l k v=l++[(k,v)]
  |[],_,_,_=>rfl
  | p ::l,k,v,h=>by
    unfold posI at h
    split at h
    · cases h
    · rename_i e
      rw[upI,if_neg e,upI_none (Option.map_eq_none_iff.1 h),List.cons_append]
theorem upI_some:∀{l:List (Int × Value)} {k:Int} {v u:Value} {i:Nat} (n:Nat),posI l k=some (i,u)→(entI n l)[i]?.map (·.key)=some (.int .i64 k)∧entI n (upI l k v)=(entI n l).modify i (fun e=>{e with key:=.int .i64 k,val:=v})∧(upI l k v).length=l.length
  |[],_,_,_,_,_,h=>by cases h
  | p ::l,k,v,u,i,n,h=>by
    unfold posI at h
    split at h
    · rename_i e
      injection h with h
      injection h with h1 h2
      subst h1;subst e;rw[upI,if_pos rfl,entI,entI];exact⟨rfl,rfl,rfl⟩
    · rename_i e
      cases hp:posI l k with
      |none=>rw[hp]at h;cases h
      | some q=>
        rw[hp]at h
        injection h with h
        injection h with h1 h2
        subst h1;obtain⟨j,y⟩:=q;obtain⟨c1,c2,c3⟩:=upI_some (v:=v) (n+1) hp;rw[upI,if_neg e,entI,entI];exact⟨c1,by rw[c2];rfl,by rw[List.length_cons,c3,List.length_cons]⟩
theorem lk_up(z:Value):∀(l:List (Int × Value)) (k:Int) (v:Value) (j:Int),lkI z (upI l k v) j=if j=k then v else lkI z l j
  | [],k,v,j=>by
    unfold lkI upI posI posI
    split<;>rfl
  | p ::l,k,v,j=>by
    have ih:=lk_up z l k v j;rw[upI]
    by_cases e:k=p.1
    · rw[if_pos e]
      unfold lkI posI
      by_cases e2:j=k
      · rw[if_pos e2,if_pos e2];rfl
      · rw[if_neg e2,if_neg e2,if_neg (fun q=>e2 (q.trans e.symm))]
    · rw[if_neg e]
      have key:∀l',lkI z (p::l') j=if j=p.1 then p.2 else lkI z l' j:=fun l'=>by
        unfold lkI;rw[posI]
        split
        · rfl
        · cases posI l' j<;>rfl
      rw[key,key,ih]
      by_cases e2:j=p.1
      · rw[if_pos e2,if_pos e2,if_neg (fun q=>e (q.symm.trans e2))]
      · rw[if_neg e2,if_neg e2]
structure MapT(P:Program)(M K E:TypeId)(z:Value):Prop where
  hm:P.underlying M=some (.map K E)
  hk:P.underlying K=some (.int .i64)
  hz:∀w,(zeroValue E).run P w=.ok z w
section
variable {P:Program}{M K E:TypeId}{z:Value}{w:World}{R:Nat}{l:List (Int × Value)}
theorem run_gI(hw:Has 0 R (mapI l) w):(getObj R).run P w=.ok (.map (entI 0 l).toArray l.length) w:=by
  have:=hw.2;unfold mapI at this;simp[getObj,Sem.run,this]
theorem run_sI(o:Obj)(hw:Has 0 R (mapI l) w):(setObj R o).run P w=.ok () (setBlock w R o):=by
  have:=hw.2;unfold mapI at this;simp[setObj,Sem.run,this,setBlock]
theorem run_cI(h:MapT P M K E z)(e:Bool)(k:Int):(Instr.checkKey e 10000 K (.int .i64 k)).run P w=.ok () w:=by
  unfold Instr.checkKey;simp[run_underlying h.hk]
theorem run_fI(h:MapT P M K E z)(k:Int):(Instr.findKey K (.int .i64 k) (entI 0 l)).run P w=.ok ((posI l k).map fun q=>(0+q.1,q.2)) w:=by
  simp only[Instr.findKey,Sem.run_bind,run_underlying h.hk,Result.andThen_ok,find_now,Sem.run_pure]
theorem run_lookupI(h:MapT P M K E z)(hw:Has 0 R (mapI l) w)(k:Int):(Instr.lookup M (.map (some R)) (.int .i64 k) false).run P w=.ok (lkI z l k) w:=by
  unfold Instr.lookup;simp only[Sem.run_bind,run_underlying h.hm,Result.andThen_ok,run_gI hw,Sem.run_pure,run_cI h];rw[run_fI h];unfold lkI
  cases posI l k with
  |none=>simp[h.hz]
  |some q=>simp
theorem run_updateI(h:MapT P M K E z)(hw:Has 0 R (mapI l) w)(k:Int)(v:Value):(Instr.mapUpdate M (.map (some R)) (.int .i64 k) v).run P w=.ok () (setBlock w R (mapI (upI l k v))):=by
  unfold Instr.mapUpdate;simp only[Sem.run_bind,run_underlying h.hm,Result.andThen_ok,run_gI hw,run_cI h];rw[run_fI h]
  cases hp:posI l k with
  | none=>
    simp only[Option.map_none,Result.andThen_ok];rw[run_sI _ hw,upI_none hp];have e:(entI 0 l).toArray.push {key:=.int .i64 k,val:=v,born:=l.length}=(entI 0 (l++[(k,v)])).toArray:=by rw[entI_app];simp
    rw[e];simp[setBlock,mapI]
  | some q=>
    obtain⟨i,u⟩:=q;obtain⟨c1,c2,c3⟩:=upI_some (v:=v) 0 hp;have c1':((entI 0 l).toArray[0+i]?).map (·.key)=some (.int .i64 k):=by rw[Nat.zero_add];simpa using c1
    simp only[Option.map_some,Result.andThen_ok,c1',Option.getD_some];have e:(Instr.keyThatStays (.int .i64 k) (.int .i64 k)).run P w=.ok (.int .i64 k) w:=by unfold Instr.keyThatStays Instr.sameBits;simp
    simp only[Sem.run_bind,e,Result.andThen_ok];rw[run_sI _ hw];unfold mapI setBlock;rw[c2,c3]
    congr 3
    rw[Nat.zero_add];simp
end
section
variable {P:Program}{V:World}{ops:Array Oper}{Q:Act→World→Prop}{f0 fs fs':List Ft}{n:Nat}{ks:List Nat}{o:Oper}{rest:List Oper}{a a':Act}{z v:Value}{R:Nat}{l:List (Int × Value)}{M K E:TypeId}{x y u:Operand}{k:Int}
theorem eMm{a2:Nat→Act}(h:∀R,Sx P V ops Q f0 ks rest (bx R (mapI [])::fs) (a2 R))(hg:Wants ops o a:=by first|exact wants0 rfl|exact wantsg rfl rfl rfl rfl)(h1:∀w,(execOp a.eval o).run P w=.ok (.value (.map (some w.heap.size))) (w.alloc (mapI [])):=by intro w';go_simp;rfl)(ha:∀R,a.put o.dst (.map (some R))=a2 R:=by intro R;(simp only[mkOf,Act.put,pA,pB,pC,pD,pE])<;>exact rfl):Sx P V ops Q f0 (3::ks) (o::rest) fs a:=
  sx3 (f:=fun R=>.map (some R)) (mapI []) hg h1 fun R=>by rw[ha];exact h R
theorem lk_flt(hT:MapT P M K E z)(ho:o.op=.lookup M x y false)(hx:a.eval x=.map (some R))(hy:a.eval y=.int .i64 k){w:World}(hw:Has 0 R (mapI l) w):Flt (lkI z l k) w ((execOp a.eval o).run P w):=by
  unfold execOp;simp only[ho,Sem.run_bind,hx,hy,run_lookupI hT hw,Result.andThen_ok,Sem.run_pure];exact⟨rfl,rfl⟩
theorem eLk(hT:MapT P M K E z)(hm:bx R (mapI l)∈fs)(h:Sx P V ops Q f0 ks rest fs a')(ho:o.op=.lookup M x y false:=by rfl)(hx:a.eval x=.map (some R):=by rfl)(hy:a.eval y=.int .i64 k:=by rfl)(hg:Wants ops o a:=by first|exact wants0 rfl|exact wantsg rfl rfl rfl rfl)(ha:a.put o.dst (lkI z l k)=a':=by(simp only[mkOf,Act.put,pA,pB,pC,pD,pE])<;>exact rfl):Sx P V ops Q f0 (1::ks) (o::rest) fs a:=
  sx1 hg (fun w hw=>Flt.does ⟨rfl,Below.refl _ _⟩ (lk_flt hT ho hx hy (hw.box hm))) (by rw[ha];exact h)
theorem eLk0(hT:MapT P M K E z)(hm:bx R (mapI l)∈f0)(h:Sx P V ops Q f0 ks rest fs a')(ho:o.op=.lookup M x y false:=by rfl)(hx:a.eval x=.map (some R):=by rfl)(hy:a.eval y=.int .i64 k:=by rfl)(hg:Wants ops o a:=by first|exact wants0 rfl|exact wantsg rfl rfl rfl rfl)(ha:a.put o.dst (lkI z l k)=a':=by(simp only[mkOf,Act.put,pA,pB,pC,pD,pE])<;>exact rfl):Sx P V ops Q f0 (0::ks) (o::rest) fs a:=
  sx0 hg (fun w hw=>lk_flt hT ho hx hy (hw.box hm)) (by rw[ha];exact h)
theorem map_qt{w:World}{i:Nat}(h:Has 0 R (mapI l) w):Qt (some R) w i fs:=fun R' e _ _ _ _ v hv=>by
  injection e with e
  subst e;have h2:=h.2;unfold mapI at h2;simp[World.cell?,h2]at hv
theorem eUp(hT:MapT P M K E z)(i:Nat)(h:Sx P V ops Q f0 ks rest fs' a')(hi:fs[i]?=some (bx R (mapI l)):=by rfl)(ho:o.op=.mapUpdate M x y u∨o.op=.insert M x y u:=by first|exact .inl rfl|exact .inr rfl)(hx:a.eval x=.map (some R):=by rfl)(hy:a.eval y=.int .i64 k:=by rfl)(hu:a.eval u=v:=by rfl)(hf:fs.set i (bx R (mapI (upI l k v)))=fs':=by(simp only[pB,pC])<;>exact rfl)(hs:f0.Sublist fs':=by exact List.nil_sublist _)(hg:Wants ops o a:=by first|exact wants0 rfl|exact wantsg rfl rfl rfl rfl)(ha:a.put o.dst undef=a':=by(simp only[mkOf,Act.put,pA,pB,pC,pD,pE])<;>exact rfl):Sx P V ops Q f0 (4::ks) (o::rest) fs a:=
  sx4 (α:=Unit) (f:=fun _=>undef) (l':=fun _=>fs.set i (bx R (mapI (upI l k v)))) hg (fun _=>by rw[hf];exact hs) (fun w hw=>by
    have hb:Has 0 R (mapI l) w:=hw.box (List.mem_of_getElem? hi)
    have hr:(execOp a.eval o).run P w=.ok .skip (setBlock w R (mapI (upI l k v))):=by
      unfold execOp
      rcases ho with ho|ho<;>simp only[ho,Sem.run_bind,hx,hy,hu,run_updateI hT hb,Result.andThen_ok,Sem.run_pure]
    rw[hr];have hsz:(setBlock w R (mapI (upI l k v))).heap.size=w.heap.size:=by simp[setBlock]
    have hgr:w.grownBy (setBlock w R (mapI (upI l k v))) (some R):=⟨rfl,rfl,rfl,by rw[hsz];exact Nat.le_refl _,fun j _ hne=>heap_setBlock_other (by have:=hb.2;unfold mapI at this;exact this) _ (fun e=>hne (by rw[e]))⟩;exact⟨(),rfl,hw.turn hi hgr (fun R' e=>by injection e with e;subst e;rfl) (map_qt hb) ⟨Nat.zero_le _,heap_setBlock_same (by have:=hb.2;unfold mapI at this;exact this) _⟩ fun g hg=>.inl hg⟩) fun _=>by rw[hf,ha];exact h
end
end Go.Proofs.YtlhbcopaakejgaaGreatDoor
namespace Go.Proofs.YtlhbcopaakejgaaGreatDoor
open Go.RowKit
theorem ratV_cells'{w:World}{a b d:Value}{x:Rat}(h:RatV w (.agg #[a,b,d]) x):a=.bool (isN x)∧(∃p n c,b=.slice p n c)∧ ∃p n c,d=.slice p n c:=by
  obtain⟨p,l,c,q,m,e,e1,_,_⟩:=h
  injection e1 with e1
  have:=congrArg Array.toList e1;simp at this;exact⟨this.1,⟨p,l,c,this.2.1⟩,q,m,e,this.2.2⟩
theorem SS.up9{V w:World}{l:List Ft}{x0 x1 x2 x3 x4 x5 x6 x7 x8 x9:Ft}(h0:SS V (x0::x1::x2::x3::x4::x5::x6::x7::x8::x9::l) w):SS V (x9::x0::x1::x2::x3::x4::x5::x6::x7::x8::l) w:=h0.perm (up_cons (up_cons (up_cons (up_cons (up_cons (up_cons (up_cons (up_cons (up_cons (.refl _))))))))))
theorem SS.up10{V w:World}{l:List Ft}{x0 x1 x2 x3 x4 x5 x6 x7 x8 x9 x10:Ft}(h0:SS V (x0::x1::x2::x3::x4::x5::x6::x7::x8::x9::x10::l) w):SS V (x10::x0::x1::x2::x3::x4::x5::x6::x7::x8::x9::l) w:=h0.perm (up_cons (up_cons (up_cons (up_cons (up_cons (up_cons (up_cons (up_cons (up_cons (up_cons (.refl _)))))))))))
theorem SS.up11{V w:World}{l:List Ft}{x0 x1 x2 x3 x4 x5 x6 x7 x8 x9 x10 x11:Ft}(h0:SS V (x0::x1::x2::x3::x4::x5::x6::x7::x8::x9::x10::x11::l) w):SS V (x11::x0::x1::x2::x3::x4::x5::x6::x7::x8::x9::x10::l) w:=h0.perm (up_cons (up_cons (up_cons (up_cons (up_cons (up_cons (up_cons (up_cons (up_cons (up_cons (up_cons (.refl _))))))))))))
def ratK:EK Rat where
  sz:=3
  pos:=by decide
  R:=fun w cs x=> ∃a b d,cs=[a,b,d]∧RatV w (.agg #[a,b,d]) x
  len:=fun⟨_,_,_,e,_⟩=>by rw[e];rfl
  one:=fun⟨a,b,d,e,h⟩ u hu=>by
    obtain⟨rfl,⟨_,_,_,rfl⟩,_,_,_,rfl⟩:=ratV_cells' h;subst e;simp only[List.mem_cons,List.not_mem_nil,or_false]at hu
    rcases hu with rfl|rfl|rfl<;>rfl
  below:=fun⟨a,b,d,e,h⟩ hb=>⟨a,b,d,e,h.below hb⟩
theorem ratK_hd{w:World}{cs:List Value}{x:Rat}{u:Value}(h:ratK.R w cs x)(hu:cs[0]?=some u):rkV u=2:=by
  obtain⟨a,b,c,rfl,h⟩:=h;obtain⟨rfl,_⟩:=ratV_cells' h
  cases hu;rfl
instance :OwnK ratK:=⟨[0],fun⟨a,b,c,e,h⟩ hg w1 h2 h3 w2 h4=>⟨a,b,c,e,rat_spare h hg w1 h2 h3 w2 h4⟩,.inr ⟨2,rfl,ratK_hd⟩⟩
def mQ(z:Value)(l:List (Int × Value))(F:Int→Rat):Ft:=pF [0] (fun w=> ∀k,RatV w (lkI z l k) (F k)) (fun h hb k=>(h k).below hb) (fun h hn w1 h1 h2 w2 h3 k=>rat_spare (h k) hn w1 h1 h2 w2 h3)
section
variable {V w:World}{l:List Ft}{m:List (Int × Value)}{F:Int→Rat}{z v:Value}{x:Rat}{k:Int}
theorem SS.mq(h:SS V l w)(hm:mQ z m F∈l)(k:Int):RatV w (lkI z m k) (F k):=h.get hm k
theorem SS.mup(h:SS V l w)(hm:mQ z m F∈l)(hv:qF v x∈l)(k:Int):SS V (mQ z (upI m k v) (fun j=>if j=k then x else F j)::l) w:=h.fact (mQ _ _ _) fun j=>by
  show RatV w (lkI z (upI m k v) j) (if j=k then x else F j)
  rw[lk_up]
  split
  · exact h.q hv
  · exact h.mq hm j
theorem SS.mnil(h:SS V l w):SS V (mQ (.agg #[.bool false,.slice none 0 0,.slice none 0 0]) [] (fun _=>0)::l) w:=h.fact (mQ _ _ _) fun _=>RatV.zero w
end
section
variable {P:Program}{V:World}{ops:Array Oper}{Q:Act→World→Prop}{f0 fs fs':List Ft}{ks:List Nat}{o:Oper}{rest:List Oper}{a a':Act}
theorem eWQ{g n c j:Nat}{t:TypeId}{xs:List Rat}{y:Rat}{v0 v1 v2:Value}(i:Nat)(hj:j<xs.length)(hv:qF (.agg #[v0,v1,v2]) y∈fs)(h:Sx P V ops Q f0 ks rest fs' a')(hi:fs[i]?=some (rO ratK t (some ⟨g,0,none⟩) n c xs):=by rfl)(hf:fs.set i (rO ratK t (some ⟨g,0,none⟩) n c (xs.set j y))=fs':=by(simp only[pB,pC])<;>exact rfl)(hs:f0.Sublist fs':=by exact List.nil_sublist _)(hq:OkL 2 i fs:=by repeat (first|exact trivial|(show OkA _ _;assumption)|refine⟨rfl,?_⟩))(hg:Wants ops o a:=by first|exact wants0 rfl|exact wantsg rfl rfl rfl rfl)
    (h1:∀w u0 u1 u2,w.cell? ⟨g,j*3,none⟩=some u0→w.cell? ⟨g,j*3+1,none⟩=some u1→w.cell? ⟨g,j*3+2,none⟩=some u2→(∀o,w.frozen? ⟨g,o,none⟩=false)→Does P (fun u w'=>u=undef∧w'=putAt g (j*3) [v0,v1,v2] w) ((execOp a.eval o).run P w):=by intro w' u0 u1 u2 c0 c1 c2 f;go_simp;exact⟨rfl,rfl⟩) (ha:a.put o.dst undef=a':=by(simp only[mkOf,Act.put,pA,pB,pC,pD,pE])<;>exact rfl):Sx P V ops Q f0 (4::ks) (o::rest) fs a:=
  sxS (R:=g) (f2:=rO ratK t (some ⟨g,0,none⟩) n c (xs.set j y)) hi rfl (fun _ h=>h) (fun w k=>qtN (fun R' e=>by injection e with e;subst e;exact OwV.hd k (List.ne_nil_of_length_pos (by omega)) (fun{_ _ _ _} h hu=>ratK_hd h hu)) hq) (by rw[hf];exact hs) hg (fun w hw k=>by
    obtain⟨u0,hu0⟩:=OwV.some_cell k hj (j:=0) (by decide);obtain⟨u1,hu1⟩:=OwV.some_cell k hj (j:=1) (by decide);obtain⟨u2,hu2⟩:=OwV.some_cell k hj (j:=2) (by decide);refine(h1 w u0 u1 u2 hu0 hu1 hu2 (OwV.fz k)).mono fun u w' ⟨e1,e2⟩=>?_
    subst e2;exact⟨e1,⟨_,_,rfl⟩,OwV.put k ⟨_,_,_,rfl,hw.q hv⟩ hj _ (Below.refl _ _)⟩) (by rw[hf,ha];exact h)
end
end Go.Proofs.YtlhbcopaakejgaaGreatDoor
namespace Go.Proofs.YtlhbcopaakejgaaGreatDoor
open Go.RowKit
section
variable {w w' V:World}{l:List Ft}
theorem litEls(xs:List Int):Els intK w (xs.map fun x=>[.int .i64 x]) xs:=⟨by simp,fun k cs x h1 h2=>by
  rw[List.getElem?_map,h2]at h1
  cases h1;rfl⟩
theorem litV{R:Nat}{ty:TypeId}{vs:List Value}(xs:List Int)(h:Has 0 R (.cells vs.toArray ty) w)(e:vs=xs.map fun x=>.int .i64 x)(hl:xs.length≤9223372036854775807):SlV intK w (.slice (some ⟨R,0,none⟩) xs.length xs.length) xs:=by
  refine⟨_,litEls xs,.inr ⟨R,0,_,rfl,h.ltS,Nat.le_refl _,hl,fun k cs j u c1 c2=>?_⟩⟩;rw[List.getElem?_map]at c1
  cases hx:xs[k]? with
  |none=>rw[hx]at c1;cases c1
  | some x=>
    rw[hx]at c1
    cases c1
    cases j with
    |succ j=>simp at c2
    | zero=>
      simp at c2;subst c2;rw[show 0+k*intK.sz+0=k by show 0+k*1+0=k;omega];exact h.at k (by rw[e,List.getElem?_map,hx];rfl)
theorem slBox2{R:Nat}{ty:TypeId}{x y:Int}(h:Has 0 R (.cells #[.int .i64 x,.int .i64 y] ty) w):SlV intK w (.slice (some ⟨R,0,none⟩) 2 2) [x,y]:=litV [x,y] h rfl (by simp)
theorem slBox4{R:Nat}{ty:TypeId}{x y z u:Int}(h:Has 0 R (.cells #[.int .i64 x,.int .i64 y,.int .i64 z,.int .i64 u] ty) w):SlV intK w (.slice (some ⟨R,0,none⟩) 4 4) [x,y,z,u]:=litV [x,y,z,u] h rfl (by simp)
def C3(w:World)(g o:Nat)(a b d:Value):Prop:=g<w.heap.size∧w.cell? ⟨g,o,none⟩=some a∧w.cell? ⟨g,o+1,none⟩=some b∧w.cell? ⟨g,o+2,none⟩=some d
theorem C3.below{g o:Nat}{a b d:Value}(h:C3 w g o a b d)(hb:Below w.heap.size w w'):C3 w' g o a b d:=
  ⟨Nat.lt_of_lt_of_le h.1 hb.size,(hb.cell (p:=⟨g,_,none⟩) h.1).trans h.2.1,(hb.cell (p:=⟨g,_,none⟩) h.1).trans h.2.2.1,(hb.cell (p:=⟨g,_,none⟩) h.1).trans h.2.2.2⟩
theorem SlV.rat{g o n c i:Nat}{sh:List Rat}{x:Rat}(h:SlV ratK w (.slice (some ⟨g,o,none⟩) n c) sh)(hx:sh[i]?=some x):∃a b d,C3 w g (o+i*3) a b d∧RatV w (.agg #[a,b,d]) x:=by
  obtain⟨cs,h1,a,b,d,rfl,h2⟩:=h.at hx;exact⟨a,b,d,⟨h1.1,h1.2 0 _ rfl,h1.2 1 _ rfl,h1.2 2 _ rfl⟩,h2⟩
section
variable {α:Type}{K:EK α}{xs:List α}{g o n c i m:Nat}
theorem SlV.cap(h:SlV K w (.slice (some ⟨g,o,none⟩) n c) xs)(hi:i<n):n≤c∧c≤9223372036854775807:=by
  obtain⟨css,h1,⟨rfl,p,c',e⟩|⟨g',o',c',e,hl,hc1,hc2,ha⟩⟩:=h
  · injection e with _ e2 _;omega
  · injection e with e1 e2 e3;omega
theorem SlV.part(h:SlV K w (.slice (some ⟨g,o,none⟩) n c) xs)(hn:n≤c)(hi:i≤m)(hm:m≤n):∃q:Option Addr,RowKit.Hid ((if c=i then some (⟨g,o,none⟩:Addr)else some ⟨g,o+i*K.sz,none⟩)=q)∧SlV K w (.slice q (m-i) (c-i)) ((xs.take m).drop i):=by
  have hx:=h.one0;have ht:=h.take (m:=m) (by omega);have hl:(xs.take m).length=m:=by rw[List.length_take];omega
  refine⟨_,hid rfl,?_⟩
  by_cases e:c=i
  · rw[if_pos e,List.drop_eq_nil_of_le (by omega),show m-i=0 by omega]
    exact .nil
  · rw[if_neg e]
    have:=ht.drop (m:=i) (by omega);rw[hl]at this;exact this
theorem SlV.rest(h:SlV K w (.slice (some ⟨g,o,none⟩) n c) xs)(hn:n≤c)(hi:i≤n):∃q:Option Addr,RowKit.Hid ((if c=i then some (⟨g,o,none⟩:Addr)else some ⟨g,o+i*K.sz,none⟩)=q)∧SlV K w (.slice q (n-i) (c-i)) (xs.drop i):=by
  have:=h.part (i:=i) (m:=n) hn hi (Nat.le_refl n)
  rwa [List.take_of_length_le (Nat.le_of_eq h.one0.symm)]at this
end
end
end Go.Proofs.YtlhbcopaakejgaaGreatDoor
