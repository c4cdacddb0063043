/- Law LpBest: an optimal value is the greatest one of all vertices: for every input the law's function returns true; no condition. Part 7. -/
import Derived.Test.YtjhaedfpigebdaaGreatDoorQG
namespace Go.Proofs.YtjhaedfpigebdaaGreatDoor
open Go.RowKit
open Go.Lib (decDigits)
theorem Has.f3{base R:Nat}{w:World}{c0 c1 c2:Value}{t:TypeId}(h:Has base R (.cells #[c0,c1,c2] t) w):∀o,w.frozen? ⟨R,o,none⟩=false:=by intro o;simp[World.frozen?,h.2]
end Go.Proofs.YtjhaedfpigebdaaGreatDoor
namespace Go.Proofs.YtjhaedfpigebdaaGreatDoor
open Go.RowKit
open Go.Lib (decDigits)
theorem rdiv_a(x y:Rat):ofS (isN x !=isN y) (x.num.natAbs*y.den) (x.den*y.num.natAbs)=x/y:=by
  by_cases h:y=0
  . rw[h,div_zero',show(0:Rat).num.natAbs=0 from rfl,Nat.mul_zero,ofS_d0]
  rw[Nat.mul_comm x.den];exact div_of x h
theorem rdiv_e{x y:Rat}{z:Int}(h:(if x.den*y.num.natAbs=0 then 10 else 0)=z):z=if y=0 then 10 else 0:=by
  rw[<-h]
  by_cases hy:y=0
  . rw[if_pos hy,if_pos (by rw[(natAbs_zero y).2 hy,Nat.mul_zero])]
  rw[if_neg hy,if_neg (Nat.mul_ne_zero x.den_nz fun e=>hy ((natAbs_zero y).1 e))]
end Go.Proofs.YtjhaedfpigebdaaGreatDoor
namespace Go.Proofs.YtjhaedfpigebdaaGreatDoor
open Go.RowKit
section
variable {w:World}{g n c i b:Nat}{t:TypeId}
theorem OwV.slc{ss:List Sl}{s:Sl}(h:OwV slcK t b w (.slice (some ⟨g,0,none⟩) n c) ss)(hx:ss[i]?=some s):w.cell? ⟨g,i,none⟩=some (.slice s.p s.l s.c):=by
  have h1:=h.slv.cel (f:=fun s:Sl=>[.slice s.p s.l s.c]) (fun e=>e) hx 0 rfl
  rwa [show 0+i*slcK.sz+0=i from by show 0+i*1+0=_;omega]at h1
end
end Go.Proofs.YtjhaedfpigebdaaGreatDoor
namespace Go.Proofs.YtjhaedfpigebdaaGreatDoor
theorem ent_nat{s:LSt}(h:¬entN s.g.cs s.T.free s.g.cs.length<0):∃j:Nat,entN s.g.cs s.T.free s.g.cs.length=(j:Int):=⟨_,(Int.toNat_of_nonneg (by omega)).symm⟩
end Go.Proofs.YtjhaedfpigebdaaGreatDoor
namespace Go.Proofs.YtjhaedfpigebdaaGreatDoor
open Go.RowKit
section
variable {n k i j p:Nat}{eq:List (List Rat)}{v x r rk ri:List Rat}{f:Rat}
def atG(eq:List (List Rat))(i k:Nat):Rat:=(eq.getD i []).getD k 0
def subG(f:Rat)(rk ri:List Rat):List Rat:=List.zipWith (fun a b=>a-f*b) ri rk
theorem subG_len(h:ri.length=rk.length):(subG f rk ri).length=ri.length:=by unfold subG;rw[List.length_zipWith,h,Nat.min_self]
theorem subG_dot:∀{ri rk v:List Rat},ri.length=rk.length->dotQ (subG f rk ri) v=dotQ ri v-f*dotQ rk v
  |[],[],v,_=>by show dotQ [] v=_;rw[dotQ_nil];grind
  |[],_::_,_,h=>by cases h
  |_::_,[],_,h=>by cases h
  |a::ri,b::rk,[],_=>by rw[dotQ_nil',dotQ_nil',dotQ_nil'];grind
  | a::ri,b::rk,c::v,h=>by
    have ih:=subG_dot (ri:=ri) (rk:=rk) (v:=v) (by simpa using h)
    show(a-f*b)*c+dotQ (subG f rk ri) v=(a*c+dotQ ri v)-f*(b*c+dotQ rk v)
    rw[ih];grind
theorem subG_at(h:ri.length=rk.length)(k:Nat):(subG f rk ri).getD k 0=ri.getD k 0-f*rk.getD k 0:=by
  unfold subG;rw[List.getD_eq_getElem?_getD,List.getD_eq_getElem?_getD,List.getD_eq_getElem?_getD,List.getElem?_zipWith]
  rcases Nat.lt_or_ge k ri.length with hk|hk
  . rw[List.getElem?_eq_getElem hk,List.getElem?_eq_getElem (by rw[<-h];exact hk)];rfl
  rw[List.getElem?_eq_none hk,List.getElem?_eq_none (by rw[<-h];exact hk)];show(0:Rat)=0-f*0;grind
def SatG(eq:List (List Rat))(v:List Rat):Prop:= ∀r∈eq,dotQ r v=0
def clrR(k:Nat)(rk ri:List Rat):List Rat:=if ri.getD k 0=0 then ri else subG (ri.getD k 0/rk.getD k 0) rk ri
theorem clrR_len(h:ri.length=rk.length):(clrR k rk ri).length=ri.length:=by
  unfold clrR;split
  . rfl
  exact subG_len h
theorem clrR_dot(h:ri.length=rk.length)(h0:dotQ rk v=0):dotQ (clrR k rk ri) v=dotQ ri v:=by
  unfold clrR;split
  . rfl
  rw[subG_dot h,h0];grind
theorem clrR_k(h:ri.length=rk.length)(h0:rk.getD k 0≠0):(clrR k rk ri).getD k 0=0:=by
  unfold clrR;split
  . assumption
  rw[subG_at h,Rat.div_mul_cancel h0];grind
theorem clrR_o(h:ri.length=rk.length){c:Nat}(hc:rk.getD c 0=0):(clrR k rk ri).getD c 0=ri.getD c 0:=by
  unfold clrR;split
  . rfl
  rw[subG_at h,hc];grind
def clrN(k:Nat)(eq:List (List Rat))(m:Nat):List (List Rat):=eq.mapIdx fun i r=>if i<m/\i≠k then clrR k (eq.getD k []) r else r
theorem clrN_len(m:Nat):(clrN k eq m).length=eq.length:=by unfold clrN;rw[List.length_mapIdx]
theorem clrN_at(m:Nat)(hi:i<eq.length):(clrN k eq m).getD i []=if i<m/\i≠k then clrR k (eq.getD k []) (eq.getD i [])else eq.getD i []:=by
  unfold clrN;rw[List.getD_eq_getElem?_getD,List.getElem?_mapIdx,List.getElem?_eq_getElem hi,List.getD_eq_getElem?_getD (l:=eq) (i:=i),List.getElem?_eq_getElem hi];rfl
theorem clrN_zero:clrN k eq 0=eq:=by
  unfold clrN;refine List.ext_getElem? fun i=>?_
  rw[List.getElem?_mapIdx]
  cases h:eq[i]? with
  |none=>rfl
  |some r=>simp
theorem clrN_step(hi:i<eq.length)(hk:i≠k):clrN k eq (i+1)=(clrN k eq i).set i (clrR k (eq.getD k []) (eq.getD i [])):=by
  refine List.ext_getElem? fun j=>?_
  unfold clrN;rw[List.getElem?_mapIdx,List.getElem?_set];rw[List.length_mapIdx]
  by_cases e:i=j
  . subst e;rw[if_pos rfl,if_pos hi,List.getElem?_eq_getElem hi,List.getD_eq_getElem?_getD (l:=eq) (i:=i),List.getElem?_eq_getElem hi]
    show some (if i<i+1/\i≠k then clrR k (eq.getD k []) eq[i]else eq[i])=some (clrR k (eq.getD k []) eq[i])
    rw[if_pos ⟨Nat.lt_succ_self i,hk⟩]
  rw[if_neg e,List.getElem?_mapIdx]
  congr 1
  funext r
  by_cases h:j<i/\j≠k
  . rw[if_pos h,if_pos ⟨by omega,h.2⟩]
  rw[if_neg h,if_neg (fun w=>h ⟨by omega,w.2⟩)]
theorem clrN_same:clrN k eq (k+1)=clrN k eq k:=by
  unfold clrN
  congr 1
  funext i r
  by_cases h:i<k/\i≠k
  . rw[if_pos h,if_pos ⟨by omega,h.2⟩]
  rw[if_neg h,if_neg (fun w=>h ⟨by omega,w.2⟩)]
def RecG(n:Nat)(eq:List (List Rat)):Prop:=eq.length=n/\ ∀r∈eq,r.length=n+1
theorem RecG.len(h:RecG n eq)(hi:i<n):(eq.getD i []).length=n+1:=by
  have hi2:i<eq.length:=by rw[h.1];exact hi
  rw[List.getD_eq_getElem?_getD,List.getElem?_eq_getElem hi2];exact h.2 _ (List.getElem_mem hi2)
theorem mem_rowG(hi:i<eq.length):eq.getD i []∈eq:=by
  rw[List.getD_eq_getElem?_getD,List.getElem?_eq_getElem hi];exact List.getElem_mem hi
theorem satG_iff:SatG eq v↔ ∀i,i<eq.length->dotQ (eq.getD i []) v=0:=⟨fun h i hi=>h _ (mem_rowG hi),fun h r hr=>by
  obtain⟨i,hi,rfl⟩:=List.getElem_of_mem hr;have:=h i hi
  rwa [List.getD_eq_getElem?_getD,List.getElem?_eq_getElem hi]at this⟩
theorem RecG.clr(h:RecG n eq)(hk:k<n)(m:Nat):RecG n (clrN k eq m):=by
  refine⟨by rw[clrN_len];exact h.1,fun r hr=>?_⟩;obtain⟨i,hi,rfl⟩:=List.getElem_of_mem hr;rw[clrN_len]at hi;have e:=clrN_at (k:=k) m hi;rw[List.getD_eq_getElem?_getD,List.getElem?_eq_getElem (by rw[clrN_len];exact hi)]at e
  show(clrN k eq m)[i].length=n+1
  have e:(clrN k eq m)[i]=_:=e;rw[e];have h1:=h.len (i:=i) (by rw[<-h.1];exact hi)
  split
  . rw[clrR_len (by rw[h1,h.len hk])];exact h1
  exact h1
theorem RecG.clr_sat(h:RecG n eq)(hk:k<n)(m:Nat):SatG (clrN k eq m) v↔SatG eq v:=by
  rw[satG_iff,satG_iff,clrN_len];have hk2:k<eq.length:=by rw[h.1];exact hk
  constructor
  . intro hs i hi
    have h0:dotQ (eq.getD k []) v=0:=by
      have:=hs k hk2
      rwa [clrN_at m hk2,if_neg (fun w=>w.2 rfl)]at this
    have:=hs i hi;rw[clrN_at m hi]at this
    split at this
    . rwa [clrR_dot (by rw[h.len hk,h.len (by rw[<-h.1];exact hi)]) h0]at this
    exact this
  intro hs i hi;rw[clrN_at m hi]
  split
  . rw[clrR_dot (by rw[h.len hk,h.len (by rw[<-h.1];exact hi)]) (hs k hk2)];exact hs i hi
  exact hs i hi
def swpG(eq:List (List Rat))(k p:Nat):List (List Rat):=(eq.set k (eq.getD p [])).set p (eq.getD k [])
theorem swpG_len:(swpG eq k p).length=eq.length:=by unfold swpG;rw[List.length_set,List.length_set]
theorem swpG_at(hk:k<eq.length)(hp:p<eq.length)(i:Nat):(swpG eq k p).getD i []=if i=p then eq.getD k []else if i=k then eq.getD p []else eq.getD i []:=by
  unfold swpG;rw[List.getD_eq_getElem?_getD,List.getElem?_set]
  by_cases e:p=i
  . subst e;rw[if_pos rfl,if_pos (by rw[List.length_set];exact hp),if_pos rfl];rfl
  rw[if_neg e,if_neg (fun h=>e h.symm),List.getElem?_set]
  by_cases e2:k=i
  . subst e2;rw[if_pos rfl,if_pos hk,if_pos rfl];rfl
  rw[if_neg e2,if_neg (fun h=>e2 h.symm)];rfl
theorem RecG.swp(h:RecG n eq)(hk:k<n)(hp:p<n):RecG n (swpG eq k p):=by
  refine⟨by rw[swpG_len];exact h.1,fun r hr=>?_⟩;obtain⟨i,hi,rfl⟩:=List.getElem_of_mem hr;rw[swpG_len]at hi;have e:=swpG_at (eq:=eq) (k:=k) (p:=p) (by rw[h.1];exact hk) (by rw[h.1];exact hp) i;rw[List.getD_eq_getElem?_getD,List.getElem?_eq_getElem (by rw[swpG_len];exact hi)]at e;have e:(swpG eq k p)[i]=_:=e;rw[e]
  split
  . exact h.len hk
  split
  . exact h.len hp
  exact h.len (by rw[<-h.1];exact hi)
theorem RecG.swp_sat(h:RecG n eq)(hk:k<n)(hp:p<n):SatG (swpG eq k p) v↔SatG eq v:=by
  have hk2:k<eq.length:=by rw[h.1];exact hk
  have hp2:p<eq.length:=by rw[h.1];exact hp
  rw[satG_iff,satG_iff,swpG_len];constructor
  . intro hs i hi
    by_cases e1:i=k
    . subst e1;have:=hs p hp2
      rwa [swpG_at hk2 hp2,if_pos rfl]at this
    by_cases e2:i=p
    . subst e2;have:=hs k hk2;rw[swpG_at hk2 hp2]at this
      split at this
      . rename_i e;rw[e]at e1;exact absurd rfl e1
      rwa [if_pos rfl]at this
    have:=hs i hi
    rwa [swpG_at hk2 hp2,if_neg e2,if_neg e1]at this
  intro hs i hi;rw[swpG_at hk2 hp2]
  split
  . exact hs k hk2
  split
  . exact hs p hp2
  exact hs i hi
structure DiaG(n k:Nat)(eq:List (List Rat)):Prop where
  rg:RecG n eq
  nz:∀j,j<k->atG eq j j≠0
  z:∀j i,j<k->i<n->i≠j->atG eq i j=0
theorem DiaG.start(h:RecG n eq):DiaG n 0 eq:=⟨h,fun _j hj=>absurd hj (Nat.not_lt_zero _),fun _j _ hj=>absurd hj (Nat.not_lt_zero _)⟩
theorem DiaG.step(h:DiaG n k eq)(hk:k<n)(hp:p<n)(hkp:k<=p)(h0:atG eq p k≠0):DiaG n (k+1) (clrN k (swpG eq k p) n):=by
  have hr:=h.rg.swp hk hp;have hk2:k<eq.length:=by rw[h.rg.1];exact hk
  have hp2:p<eq.length:=by rw[h.rg.1];exact hp
  have hrow:(swpG eq k p).getD k []=eq.getD p []:=by
    rw[swpG_at hk2 hp2]
    split
    . rename_i e;rw[e]
    rw[if_pos rfl]
  have hz:∀j i,j<k->i<n->i≠j->atG (swpG eq k p) i j=0:=fun j i hj hi hij=>by
    unfold atG;rw[swpG_at hk2 hp2]
    split
    . exact h.z j k hj hk (by omega)
    split
    . exact h.z j p hj hp (by omega)
    exact h.z j i hj hi hij
  have hnz:∀j,j<k->atG (swpG eq k p) j j=atG eq j j:=fun j hj=>by
    unfold atG;rw[swpG_at hk2 hp2,if_neg (by omega),if_neg (by omega)]
  have hl:∀i,i<n->((swpG eq k p).getD i []).length=((swpG eq k p).getD k []).length:=fun i hi=>by rw[hr.len hi,hr.len hk]
  have hi2:∀{i},i<n->i<(swpG eq k p).length:=fun hi=>by rw[hr.1];exact hi
  have hkk:((swpG eq k p).getD k []).getD k 0≠0:=by rw[hrow];exact h0
  have hkj:∀j,j<k->((swpG eq k p).getD k []).getD j 0=0:=fun j hj=>hz j k hj hk (by omega)
  refine⟨hr.clr hk n,fun j hj=>?_,fun j i hj hi hij=>?_⟩
  . unfold atG;rw[clrN_at n (hi2 (by omega))]
    rcases Nat.lt_or_ge j k with hjk|hjk
    . rw[if_pos ⟨by omega,by omega⟩,clrR_o (hl j (by omega)) (hkj j hjk)];have:=h.nz j hjk;rw[<-hnz j hjk]at this;exact this
    obtain rfl:j=k:=by omega
    rw[if_neg (fun w=>w.2 rfl)];exact hkk
  unfold atG;rw[clrN_at n (hi2 hi)]
  rcases Nat.lt_or_ge j k with hjk|hjk
  . split
    . rw[clrR_o (hl i hi) (hkj j hjk)];exact hz j i hjk hi hij
    exact hz j i hjk hi hij
  obtain rfl:j=k:=by omega
  rw[if_pos ⟨hi,hij⟩];exact clrR_k (hl i hi) hkk
theorem dot_sum:∀(r v:List Rat),dotQ r v=((List.range r.length).map fun c=>r.getD c 0*v.getD c 0).sum
  |[],v=>by rw[dotQ_nil];rfl
  | a::r,[]=>by
    rw[dotQ_nil',show((List.range (a::r).length).map fun c=>(a::r).getD c 0*([]:List Rat).getD c 0)=(List.range (a::r).length).map fun _=>(0:Rat)from List.map_congr_left fun c _=>by show _*(0:Rat)=0;rw[Rat.mul_zero]]
    induction (List.range (a::r).length)with
    |nil=>rfl
    |cons x l ih=>rw[List.map_cons,List.sum_cons, <-ih,Rat.add_zero]
  | a::r,b::v=>by
    show a*b+dotQ r v=_
    rw[dot_sum r v,List.length_cons,List.range_succ_eq_map,List.map_cons,List.sum_cons,List.map_map];rfl
theorem sum_one{f:Nat->Rat}{m c:Nat}(hc:c<m)(h:∀j,j<m->j≠c->f j=0):((List.range m).map f).sum=f c:=by
  induction m with
  |zero=>exact absurd hc (Nat.not_lt_zero _)
  | succ m ih=>
    rw[List.range_succ,List.map_append,List.sum_append,List.map_singleton,List.sum_singleton]
    by_cases e:c=m
    . subst e
      have:((List.range c).map f).sum=0:=by
        have hz:∀l:List Nat,(∀x∈l,f x=0)->(l.map f).sum=0:=fun l=>by
          induction l with
          |nil=>intro _;rfl
          |cons a l ih=>intro hl;rw[List.map_cons,List.sum_cons,hl a (List.mem_cons_self ..),ih fun x hx=>hl x (List.mem_cons_of_mem _ hx),Rat.zero_add]
        exact hz _ fun x hx=>h x (by have:=List.mem_range.1 hx;omega) (by have:=List.mem_range.1 hx;omega)
      rw[this,Rat.zero_add]
    rw[ih (by omega) (fun j hj hjc=>h j (by omega) hjc),h m (by omega) (fun w=>e w.symm),Rat.add_zero]
theorem getD_app{x:List Rat}{u:Rat}{c:Nat}(hc:c<x.length):(x++[u]).getD c 0=x.getD c 0:=by
  rw[List.getD_eq_getElem?_getD,List.getElem?_append_left hc,List.getD_eq_getElem?_getD]
theorem getD_lst{x:List Rat}{u:Rat}:(x++[u]).getD x.length 0=u:=by
  rw[List.getD_eq_getElem?_getD,List.getElem?_append_right (Nat.le_refl _),Nat.sub_self];rfl
theorem dot_row{u:Rat}(hr:r.length=n+1)(hx:x.length=n):dotQ r (x++[u])=((List.range n).map fun c=>r.getD c 0*x.getD c 0).sum+r.getD n 0*u:=by
  rw[dot_sum,hr,List.range_succ,List.map_append,List.sum_append,List.map_singleton,List.sum_singleton]
  congr 1
  . congr 1
    refine List.map_congr_left fun c hc=>?_
    rw[getD_app (by rw[hx];exact List.mem_range.1 hc)]
  rw[<-hx,getD_lst]
def outG(eq:List (List Rat))(n:Nat):List Rat:=(List.range n).map fun k=>atG eq k n/atG eq k k
theorem outG_len:(outG eq n).length=n:=by simp[outG]
theorem outG_at(hk:k<n):(outG eq n).getD k 0=atG eq k n/atG eq k k:=by
  unfold outG;rw[List.getD_eq_getElem?_getD,List.getElem?_map,List.getElem?_range hk];rfl
theorem DiaG.sol(h:DiaG n n eq)(hx:x.length=n):SatG eq (x++[-1])↔x=outG eq n:=by
  have key:∀i,i<n->dotQ (eq.getD i []) (x++[-1])=atG eq i i*x.getD i 0-atG eq i n:=fun i hi=>by
    rw[dot_row (h.rg.len hi) hx,sum_one hi (fun j hj hji=>by show atG eq i j*_=0;rw[h.z j i hj hi (fun e=>hji e.symm),Rat.zero_mul])]
    show atG eq i i*x.getD i 0+atG eq i n* -1=_
    grind
  rw[satG_iff,h.rg.1];constructor
  . intro hs;refine List.ext_getElem? fun i=>?_
    rcases Nat.lt_or_ge i n with hi|hi
    . have h1:=hs i hi;rw[key i hi]at h1
      have h2:x.getD i 0=(outG eq n).getD i 0:=by
        rw[outG_at hi];have h3:=h.nz i hi;have h4:atG eq i i*x.getD i 0=atG eq i n:=by grind
        rw[<-h4,Rat.mul_comm,Rat.mul_div_cancel h3]
      have a1:i<x.length:=by rw[hx];exact hi
      have a2:i<(outG eq n).length:=by rw[outG_len];exact hi
      rw[List.getD_eq_getElem?_getD,List.getD_eq_getElem?_getD,List.getElem?_eq_getElem a1,List.getElem?_eq_getElem a2]at h2;rw[List.getElem?_eq_getElem a1,List.getElem?_eq_getElem a2];exact congrArg some h2
    rw[List.getElem?_eq_none (by rw[hx];exact hi),List.getElem?_eq_none (by rw[outG_len];exact hi)]
  rintro rfl i hi
  rw[key i hi,outG_at hi,Rat.mul_comm,Rat.div_mul_cancel (h.nz i hi)]
  grind
def kerG(eq:List (List Rat))(n k:Nat):List Rat:=(List.range n).map fun j=>if j<k then-(atG eq j k/atG eq j j)else if j=k then 1 else 0
theorem kerG_len:(kerG eq n k).length=n:=by simp[kerG]
theorem kerG_at(hj:j<n):(kerG eq n k).getD j 0=if j<k then-(atG eq j k/atG eq j j)else if j=k then 1 else 0:=by
  unfold kerG;rw[List.getD_eq_getElem?_getD,List.getElem?_map,List.getElem?_range hj];rfl
theorem sum_two{f:Nat->Rat}{m a b:Nat}(ha:a<m)(hb:b<m)(hab:a≠b)(h:∀j,j<m->j≠a->j≠b->f j=0):((List.range m).map f).sum=f a+f b:=by
  have e:((List.range m).map f).sum=((List.range m).map fun j=>if j=a then f a else 0).sum+((List.range m).map fun j=>if j=a then 0 else f j).sum:=by
    have hs:∀l:List Nat,(l.map f).sum=(l.map fun j=>if j=a then f a else 0).sum+(l.map fun j=>if j=a then 0 else f j).sum:=fun l=>by
      induction l with
      |nil=>exact(Rat.zero_add 0).symm
      | cons x l ih=>
        rw[List.map_cons,List.sum_cons,ih,List.map_cons,List.sum_cons,List.map_cons,List.sum_cons]
        by_cases e:x=a
        . subst e;rw[if_pos rfl,if_pos rfl];grind
        rw[if_neg e,if_neg e];grind
    exact hs _
  rw[e,sum_one ha (fun j _ hj=>if_neg hj),sum_one hb (fun j hj hjb=>by
    by_cases e:j=a
    . rw[if_pos e]
    rw[if_neg e];exact h j hj e hjb),if_pos rfl,if_neg (fun w=>hab w.symm)]
theorem DiaG.fail(h:DiaG n k eq)(hk:k<n)(h0:∀i,k<=i->i<n->atG eq i k=0)(hx:x.length=n)(hs:SatG eq (x++[-1])):∃y:List Rat,y.length=n/\y≠x/\SatG eq (y++[-1]):=by
  refine⟨List.zipWith (· + ·) x (kerG eq n k),by rw[List.length_zipWith,hx,kerG_len,Nat.min_self],fun e=>?_,?_⟩
  . have h1:=congrArg (fun l:List Rat=>l.getD k 0) e;have a1:k<x.length:=by rw[hx];exact hk
    have a2:k<(kerG eq n k).length:=by rw[kerG_len];exact hk
    have h2:=kerG_at (eq:=eq) (n:=n) (k:=k) hk;rw[if_neg (Nat.lt_irrefl k),if_pos rfl,List.getD_eq_getElem?_getD,List.getElem?_eq_getElem a2]at h2;have h2:(kerG eq n k)[k]=1:=h2;rw[List.getD_eq_getElem?_getD,List.getElem?_zipWith,List.getElem?_eq_getElem a1,List.getElem?_eq_getElem a2,List.getD_eq_getElem?_getD,List.getElem?_eq_getElem a1]at h1;have h1:x[k]+(kerG eq n k)[k]=x[k]:=h1;rw[h2]at h1
    grind
  have e:List.zipWith (· + ·) x (kerG eq n k)++[-1]=List.zipWith (· + ·) (x++[-1]) (kerG eq n k++[0]):=by
    rw[List.zipWith_append (by rw[hx,kerG_len])]
    congr 1
    show[(-1:Rat)]=[-1+0]
    rw[Rat.add_zero]
  rw[e,satG_iff,h.rg.1];intro i hi;rw[dotQ_addr _ _ _ (by simp[hx,kerG_len]),satG_iff.1 hs i (by rw[h.rg.1];exact hi),Rat.zero_add,dot_row (h.rg.len hi) kerG_len,Rat.mul_zero,Rat.add_zero]
  rcases Nat.lt_or_ge i k with hik|hik
  . rw[sum_two hi hk (by omega) (fun j hj hji hjk=>?_)]
    . show atG eq i i*_+atG eq i k*_=0
      rw[kerG_at hi,if_pos hik,kerG_at hk,if_neg (Nat.lt_irrefl k),if_pos rfl];have h3:=h.nz i hik;have h4:atG eq i i*(atG eq i k/atG eq i i)=atG eq i k:=by rw[Rat.mul_comm,Rat.div_mul_cancel h3]
      grind
    show atG eq i j*_=0
    rcases Nat.lt_or_ge j k with hjk2|hjk2
    . rw[h.z j i hjk2 hi (fun w=>hji w.symm),Rat.zero_mul]
    rw[kerG_at hj,if_neg (by omega),if_neg hjk,Rat.mul_zero]
  rw[sum_one hk (fun j hj hjk=>?_)]
  . show atG eq i k*_=0
    rw[h0 i hik hi,Rat.zero_mul]
  show atG eq i j*_=0
  rcases Nat.lt_or_ge j k with hjk2|hjk2
  . rw[h.z j i hjk2 hi (by omega),Rat.zero_mul]
  rw[kerG_at hj,if_neg (by omega),if_neg hjk,Rat.mul_zero]
def subC(f:Rat)(rk ri:List Rat)(c:Nat):List Rat:=(subG f rk ri).take c++ri.drop c
theorem subC_zero:subC f rk ri 0=ri:=by unfold subC;rw[List.take_zero,List.drop_zero];rfl
theorem subC_len(h:ri.length=rk.length)(c:Nat):(subC f rk ri c).length=ri.length:=by
  unfold subC;rw[List.length_append,List.length_take,List.length_drop,subG_len h];omega
theorem subC_all(h:ri.length=rk.length):subC f rk ri ri.length=subG f rk ri:=by
  unfold subC;rw[List.drop_length,List.append_nil,List.take_of_length_le (by rw[subG_len h];exact Nat.le_refl _)]
theorem subC_at(h:ri.length=rk.length){c j:Nat}(hcj:c<=j)(hc:c<=ri.length):(subC f rk ri c)[j]?=ri[j]?:=by
  unfold subC;have hl:((subG f rk ri).take c).length=c:=by rw[List.length_take,subG_len h];omega
  rw[List.getElem?_append_right (by rw[hl];exact hcj),hl,List.getElem?_drop]
  congr 1
  omega
theorem subC_step(h:ri.length=rk.length){c:Nat}{a b:Rat}(ha:ri[c]?=some a)(hb:rk[c]?=some b):(subC f rk ri c).set c (a-f*b)=subC f rk ri (c+1):=by
  have hc:c<ri.length:=(List.getElem?_eq_some_iff.1 ha).1;have hg:(subG f rk ri)[c]?=some (a-f*b):=by unfold subG;rw[List.getElem?_zipWith,ha,hb]
  refine List.ext_getElem? fun j=>?_
  rw[List.getElem?_set];have hl:∀m,m<=ri.length->((subG f rk ri).take m).length=m:=fun m hm=>by rw[List.length_take,subG_len h];omega
  by_cases e:c=j
  . subst e;rw[if_pos rfl,if_pos (by rw[subC_len h];exact hc)];unfold subC;rw[List.getElem?_append_left (by rw[hl _ hc];omega),List.getElem?_take,if_pos (by omega),hg]
  rw[if_neg e];unfold subC
  rcases Nat.lt_or_ge j c with hj|hj
  . rw[List.getElem?_append_left (by rw[hl _ (by omega)];exact hj),List.getElem?_append_left (by rw[hl _ hc];omega),List.getElem?_take,List.getElem?_take,if_pos hj,if_pos (by omega)]
  rw[List.getElem?_append_right (by rw[hl _ (by omega)];exact hj),List.getElem?_append_right (by rw[hl _ hc];omega),hl _ (by omega),hl _ hc,List.getElem?_drop,List.getElem?_drop]
  congr 1
  omega
def LmE(b:Nat)(eq:List (List Rat)):Prop:= ∀r∈eq,∀x∈r,LmQ b x
theorem LmE.up{b b':Nat}(h:LmE b eq)(hb:b<=b'):LmE b' eq:=fun r hr x hx=>(h r hr x hx).up hb
theorem LmE.at{b:Nat}(h:LmE b eq){i j:Nat}(hb:1<=b):LmQ b (atG eq i j):=by
  unfold atG;have hz:LmQ b (0:Rat):=LmQ.nil0.up hb;rw[List.getD_eq_getElem?_getD]
  cases e:(eq.getD i [])[j]? with
  |none=>exact hz
  | some x=>
    have hm:=List.mem_of_getElem? e;rw[List.getD_eq_getElem?_getD]at hm
    cases e2:eq[i]? with
    |none=>rw[e2]at hm;cases hm
    |some r=>rw[e2]at hm;exact h r (List.mem_of_getElem? e2) x hm
theorem subG_lm{b:Nat}(hi:∀x∈ri,LmQ b x)(hk:∀x∈rk,LmQ b x)(hf:LmQ (b+b) f):∀x∈subG f rk ri,LmQ (4*b+1) x:=fun x hx=>by
  obtain⟨j,hj,rfl⟩:=List.getElem_of_mem hx;have e:=List.getElem?_eq_getElem hj;unfold subG at e;rw[List.getElem?_zipWith]at e
  split at e
  . rename_i a c ea ec
    have e:some (a-f*c)=some _:=e;have h1:=(hi a (List.mem_of_getElem? ea)).sub (hf.mul (hk c (List.mem_of_getElem? ec)))
    show LmQ _ (subG f rk ri)[j]
    have e2:(subG f rk ri)[j]=a-f*c:=(Option.some.inj e).symm;rw[e2];exact h1.up (by omega)
  cases e
theorem LmE.swp{b:Nat}{p:Nat}(h:LmE b eq)(hk:k<eq.length)(hp:p<eq.length):LmE b (swpG eq k p):=fun r hr x hx=>by
  unfold swpG at hr
  rcases List.mem_or_eq_of_mem_set hr with hr|rfl
  . rcases List.mem_or_eq_of_mem_set hr with hr|rfl
    . exact h r hr x hx
    exact h _ (mem_rowG hp) x hx
  exact h _ (mem_rowG hk) x hx
theorem LmE.clr{b m:Nat}(h:LmE b eq)(hb:1<=b)(hk:k<eq.length)(h0:atG eq k k≠0):LmE (4*b+1) (clrN k eq m):=fun r hr x hx=>by
  obtain⟨i,hi,rfl⟩:=List.getElem_of_mem hr;rw[clrN_len]at hi;have e:=clrN_at (k:=k) m hi;rw[List.getD_eq_getElem?_getD,List.getElem?_eq_getElem (by rw[clrN_len];exact hi)]at e;have e:(clrN k eq m)[i]=_:=e;rw[e]at hx;have h1:∀x∈eq.getD i [],LmQ b x:=h _ (mem_rowG hi)
  split at hx
  . unfold clrR at hx
    split at hx
    . exact(h1 x hx).up (by omega)
    exact subG_lm h1 (h _ (mem_rowG hk)) ((h.at (i:=i) (j:=k) hb).div (h.at (i:=k) (j:=k) hb) h0) x hx
  exact(h1 x hx).up (by omega)
end
end Go.Proofs.YtjhaedfpigebdaaGreatDoor
namespace Go.Proofs.YtjhaedfpigebdaaGreatDoor
open Go.RowKit
def rK(t:TypeId)(g n c:Nat)(xs:List Rat)(j:Nat)(x:Duo Sl Sl)(q:Rat):Ft:=
  ⟨(rO refK t (some ⟨g,0,none⟩) n c xs).own,(rO refK t (some ⟨g,0,none⟩) n c xs).ln,fun w=>(rO refK t (some ⟨g,0,none⟩) n c xs).F w/\C3 w g (j*3) (.bool (isN q)) (.slice x.a.p x.a.l x.a.c) (.slice x.b.p x.b.l x.b.c),
    fun h hg=>(rO refK t (some ⟨g,0,none⟩) n c xs).lt h.1 hg,fun h hb=>⟨(rO refK t (some ⟨g,0,none⟩) n c xs).bel h.1 hb,h.2.below hb⟩,fun{w R} h hn hS w1 h1 h2 w2 h3=>by
      refine⟨(rO refK t (some ⟨g,0,none⟩) n c xs).spa h.1 hn hS w1 h1 h2 w2 h3,?_⟩;have hg:w1.heap[g]?=w.heap[g]?:=h2 g (fun e=>hn (e▸rfl)) h.2.1;have hc:∀o,w1.cell? ⟨g,o,none⟩=w.cell? ⟨g,o,none⟩:=fun o=>by unfold World.cell?;rw[hg]
      exact C3.below (w:=w1) ⟨Nat.lt_of_lt_of_le h.2.1 h1,(hc _).trans h.2.2.1,(hc _).trans h.2.2.2.1,(hc _).trans h.2.2.2.2⟩ h3⟩
theorem SS.toK{V w:World}{l:List Ft}{t:TypeId}{g n c j:Nat}{xs:List Rat}{q:Rat}(k:SS V (rO refK t (some ⟨g,0,none⟩) n c xs::l) w)(hx:xs[j]?=some q):
    ∃x:Duo Sl Sl,SS V (rK t g n c xs j x q::rF (.agg #[.bool (isN q),.slice x.a.p x.a.l x.a.c,.slice x.b.p x.b.l x.b.c]) q::l) w:=by
  obtain⟨v0,v1,v2,hc,hr⟩:=(k.own m0).slv.ref hx;obtain⟨rfl,⟨p,a,d,rfl⟩,p',a',d',rfl⟩:=refR_cells hr;rw[Nat.zero_add]at hc;have k2:=k.fact (rF (.agg #[.bool (isN q),.slice p a d,.slice p' a' d']) q) hr;have k3:=k2.up1;refine⟨⟨⟨p,a,d⟩,⟨p',a',d'⟩⟩,k3.old,fun f hf=>?_,fun f hf=>?_,?_⟩
  . rcases List.mem_cons.1 hf with rfl|hf
    . exact⟨k3.has _ (List.mem_cons_self ..),hc⟩
    exact k3.has f (List.mem_cons_of_mem _ hf)
  . rcases List.mem_cons.1 hf with rfl|hf
    . exact k3.lo (rO refK t (some ⟨g,0,none⟩) n c xs) (List.mem_cons_self ..)
    exact k3.lo f (List.mem_cons_of_mem _ hf)
  have h1:=List.pairwise_cons.1 k3.ap;exact .cons h1.1 h1.2
theorem SS.unK{V w:World}{l:List Ft}{t:TypeId}{g n c j:Nat}{xs:List Rat}{x:Duo Sl Sl}{q:Rat}(k:SS V (rK t g n c xs j x q::l) w):SS V (rO refK t (some ⟨g,0,none⟩) n c xs::l) w:=by
  refine⟨k.old,fun f hf=>?_,fun f hf=>?_,?_⟩
  . rcases List.mem_cons.1 hf with rfl|hf
    . exact(k.has _ (List.mem_cons_self ..)).1
    exact k.has f (List.mem_cons_of_mem _ hf)
  . rcases List.mem_cons.1 hf with rfl|hf
    . exact k.lo (rK t g n c xs j x q) (List.mem_cons_self ..)
    exact k.lo f (List.mem_cons_of_mem _ hf)
  have h1:=List.pairwise_cons.1 k.ap;exact .cons h1.1 h1.2
section
variable {P:Program}{V:World}{ops:Array Oper}{Q:Act->World->Prop}{f0 fs fs':List Ft}{ks:List Nat}{o:Oper}{rest:List Oper}{a a':Act}
theorem eWK{g n c j j2:Nat}{t:TypeId}{xs:List Rat}{x:Duo Sl Sl}{q y:Rat}{v0 v1 v2:Value}(i:Nat)(hj:j2<xs.length)(hv:rF (.agg #[v0,v1,v2]) y∈fs)(h:Sx P V ops Q f0 ks rest fs' a')(hi:fs[i]?=some (rK t g n c xs j x q):=by rfl)(hf:fs.set i (rO refK t (some ⟨g,0,none⟩) n c (xs.set j2 y))=fs':=by(simp only[pB,pC])<;>exact rfl)(hs:f0.Sublist fs':=by exact List.nil_sublist _)(hq:OkL 2 i fs:=by repeat (first|exact trivial|(show OkA _ _;assumption)|refine⟨rfl,?_⟩))(hg:Wants ops o a:=by first|exact wants0 rfl|exact wantsg rfl rfl rfl rfl)
    (h1:∀w u0 u1 u2,w.cell? ⟨g,j2*3,none⟩=some u0->w.cell? ⟨g,j2*3+1,none⟩=some u1->w.cell? ⟨g,j2*3+2,none⟩=some u2->(∀o,w.frozen? ⟨g,o,none⟩=false)->Does P (fun u w'=>u=undef/\w'=putAt g (j2*3) [v0,v1,v2] w) ((execOp a.eval o).run P w):=by intro w' u0 u1 u2 c0 c1 c2 f;go_simp;exact⟨rfl,rfl⟩) (ha:a.put o.dst undef=a':=by(simp only[mkOf,Act.put,pA,pB,pC,pD,pE])<;>exact rfl):Sx P V ops Q f0 (4::ks) (o::rest) fs a:=
  sxS (R:=g) (f2:=rO refK t (some ⟨g,0,none⟩) n c (xs.set j2 y)) hi rfl (fun _ h=>h) (fun w k=>qtN (fun R' e=>by injection e with e;subst e;exact OwV.hd k.1 (List.ne_nil_of_length_pos (by omega)) (fun{_ _ _ _} h hu=>refK_hd h hu)) hq) (by rw[hf];exact hs) hg (fun w hw k=>by
    obtain⟨v0',v1',v2',hc,_⟩:=(OwV.slv k.1).ref (List.getElem?_eq_getElem hj);rw[Nat.zero_add]at hc;obtain⟨_,c0,c1,c2⟩:=hc;refine(h1 w _ _ _ c0 c1 c2 (OwV.fz k.1)).mono fun u w' ⟨e1,e2⟩=>?_
    subst e2;exact⟨e1,⟨_,_,rfl⟩,OwV.put k.1 ⟨_,_,_,rfl,hw.rq hv⟩ hj _ (Below.refl _ _)⟩) (by rw[hf,ha];exact h)
end
section
variable {α:Type}{K:EK α}[OwnK K]{w:World}{t:TypeId}{i:Nat}{ss:List Sl}{xss:List (List α)}{s:Sl}{xs:List α}
theorem rs_own(h:(rsF K t ss xss).F w)(e1:ss[i]?=some s)(e2:xss[i]?=some xs):OwV K t 0 w (.slice s.p s.l s.c) xs:=
  h.1 (rO K t s.p s.l s.c xs) (List.mem_of_getElem? (i:=i) (by unfold rsL;rw[List.getElem?_zipWith,e1,e2]))
end
section
variable {P:Program}{V:World}{ops:Array Oper}{Q:Act->World->Prop}{f0 fs fs':List Ft}{ks:List Nat}{o:Oper}{rest:List Oper}{a a':Act}{t:TypeId}
theorem eRrS{i:Nat}{ss:List Sl}{xss:List (List Rat)}{g n c j:Nat}{xs:List Rat}{q:Rat}{a2:Duo Sl Sl->Act}(hm:rsF refK t ss xss∈fs)(hss:ss[i]?=some ⟨some ⟨g,0,none⟩,n,c⟩)(hxs:xss[i]?=some xs)(hx:xs[j]?=some q)(h:∀x:Duo Sl Sl,Sx P V ops Q f0 ks rest (rF (.agg #[.bool (isN q),.slice x.a.p x.a.l x.a.c,.slice x.b.p x.b.l x.b.c]) q::fs) (a2 x))(hg:Wants ops o a:=by first|exact wants0 rfl|exact wantsg rfl rfl rfl rfl)
    (h1:∀w v0 v1 v2,w.cell? ⟨g,j*3,none⟩=some v0->w.cell? ⟨g,j*3+1,none⟩=some v1->w.cell? ⟨g,j*3+2,none⟩=some v2->Flt (.agg #[v0,v1,v2]) w ((execOp a.eval o).run P w):=by intro w' v0 v1 v2 c0 c1 c2;go_simp;(try go_bits);exact⟨rfl,rfl⟩) (ha:∀x:Duo Sl Sl,a.put o.dst (.agg #[.bool (isN q),.slice x.a.p x.a.l x.a.c,.slice x.b.p x.b.l x.b.c])=a2 x:=by intro x;(simp only[mkOf,Act.put,pA,pB,pC,pD,pE])<;>exact rfl):Sx P V ops Q f0 (2::ks) (o::rest) fs a:=
  sx2 (α:=Duo Sl Sl) (f:=fun x=>.agg #[.bool (isN q),.slice x.a.p x.a.l x.a.c,.slice x.b.p x.b.l x.b.c]) (l':=fun x=>[rF (.agg #[.bool (isN q),.slice x.a.p x.a.l x.a.c,.slice x.b.p x.b.l x.b.c]) q]) hg (fun w hw=>by
    obtain⟨v0,v1,v2,hc,hr⟩:=(OwV.slv (rs_own (hw.get hm) hss hxs)).ref hx;have hf:=h1 w v0 v1 v2 (by have:=hc.2.1;rwa [show 0+j*3=j*3 by omega]at this) (by have:=hc.2.2.1;rwa [show 0+j*3=j*3 by omega]at this) (by have:=hc.2.2.2;rwa [show 0+j*3=j*3 by omega]at this);obtain⟨rfl,⟨p,l,d,rfl⟩,p',l',d',rfl⟩:=refR_cells hr;exact Flt.does ⟨⟨⟨p,l,d⟩,⟨p',l',d'⟩⟩,rfl,(SS.start w).fact (rF _ _) hr⟩ hf) fun x=>by rw[ha];exact h x
end
section
variable {α:Type}{K:EK α}[OwnK K]{V w:World}{l:List Ft}{tt t:TypeId}{i j:Nat}{ss:List Sl}{xss:List (List α)}{s:Sl}{xs:List α}
theorem rsL_at(e1:ss[i]?=some s)(e2:xss[i]?=some xs):(rsL K t ss xss)[i]?=some (rO K t s.p s.l s.c xs):=by unfold rsL;rw[List.getElem?_zipWith,e1,e2]
theorem rsL_ers:rsL K t (ss.eraseIdx i) (xss.eraseIdx i)=(rsL K t ss xss).eraseIdx i:=by
  unfold rsL;refine List.ext_getElem? fun j=>?_
  rw[List.getElem?_zipWith,List.getElem?_eraseIdx,List.getElem?_eraseIdx,List.getElem?_eraseIdx]
  by_cases h:j<i
  . rw[if_pos h,if_pos h,if_pos h,List.getElem?_zipWith]
  rw[if_neg h,if_neg h,if_neg h,List.getElem?_zipWith]
theorem ers_perm{β:Type}:∀{l:List β} {i:Nat} {x:β},l[i]?=some x->l.Perm (x::l.eraseIdx i)
  |[],_,_,h=>by cases h
  |a::l,0,x,h=>by cases h;exact List.Perm.refl _
  |a::l,i+1,x,h=>(List.Perm.cons a (ers_perm (l:=l) (i:=i) h)).trans (List.Perm.swap ..)
theorem SS.rsOut(h:SS V (rsF K t ss xss::l) w)(e1:ss[i]?=some s)(e2:xss[i]?=some xs):SS V (rO K t s.p s.l s.c xs::rsF K t (ss.eraseIdx i) (xss.eraseIdx i)::l) w:=by
  have h2:=SS.star.1 h;have h3:=h2.perm ((ers_perm (rsL_at (K:=K) (t:=t) e1 e2)).append_right l);rw[<-rsL_ers]at h3;have h4:SS V (rsL K t (ss.eraseIdx i) (xss.eraseIdx i)++(rO K t s.p s.l s.c xs::l)) w:=h3.perm List.perm_middle.symm;exact(SS.star (hS:=rs_ln).2 h4).up1
theorem SS.rsIn(h:SS V (rO K t s.p s.l s.c xs::rsF K t (ss.eraseIdx i) (xss.eraseIdx i)::l) w)(e1:ss[i]?=some s)(hi:i<xss.length):SS V (rsF K t ss (xss.set i xs)::l) w:=by
  have e2:(xss.set i xs)[i]?=some xs:=List.getElem?_set_self hi;have h2:=SS.star.1 h.up1;have h3:SS V ((rO K t s.p s.l s.c xs::rsL K t (ss.eraseIdx i) (xss.eraseIdx i))++l) w:=h2.perm List.perm_middle
  have e3:xss.eraseIdx i=(xss.set i xs).eraseIdx i:=by
    refine List.ext_getElem? fun j=>?_
    rw[List.getElem?_eraseIdx,List.getElem?_eraseIdx]
    split
    . rename_i hj;rw[List.getElem?_set_ne (by omega)]
    rename_i hj;rw[List.getElem?_set_ne (by omega)]
  rw[e3,rsL_ers]at h3;exact SS.star.2 (h3.perm (((ers_perm (rsL_at (K:=K) (t:=t) e1 e2)).append_right l).symm))
theorem zip_set{β γ δ:Type}{f:β->γ->δ}{a:List β}{b:List γ}{i:Nat}{x:β}{y:γ}:List.zipWith f (a.set i x) (b.set i y)=(List.zipWith f a b).set i (f x y):=by
  refine List.ext_getElem? fun j=>?_
  rw[List.getElem?_zipWith,List.getElem?_set,List.getElem?_set,List.getElem?_set,List.length_zipWith]
  by_cases e:i=j
  . subst e;rw[if_pos rfl,if_pos rfl,if_pos rfl]
    by_cases h1:i<a.length
    . by_cases h2:i<b.length
      . rw[if_pos h1,if_pos h2,if_pos (by omega)]
      rw[if_pos h1,if_neg h2,if_neg (by omega)]
    rw[if_neg h1,if_neg (show ¬i<min a.length b.length by omega)]
  rw[if_neg e,if_neg e,if_neg e,List.getElem?_zipWith]
theorem SS.rsSwp(h:SS V (rsF K t ss xss::l) w){k p:Nat}{sk sp:Sl}{xk xp:List α}(k1:ss[k]?=some sk)(k2:xss[k]?=some xk)(p1:ss[p]?=some sp)(p2:xss[p]?=some xp):SS V (rsF K t ((ss.set k sp).set p sk) ((xss.set k xp).set p xk)::l) w:=by
  have h2:=SS.star.1 h;have ek:=rsL_at (K:=K) (t:=t) k1 k2;have ep:=rsL_at (K:=K) (t:=t) p1 p2
  have e:rsL K t ((ss.set k sp).set p sk) ((xss.set k xp).set p xk)=((rsL K t ss xss).set k (rO K t sp.p sp.l sp.c xp)).set p (rO K t sk.p sk.l sk.c xk):=by
    unfold rsL;rw[zip_set,zip_set]
  obtain⟨bk,ck⟩:=List.getElem?_eq_some_iff.1 ek;obtain⟨bp,cp⟩:=List.getElem?_eq_some_iff.1 ep;have hp:=List.set_set_perm bk bp;rw[ck,cp]at hp;rw[<-e]at hp;exact SS.star.2 (h2.perm (hp.symm.append_right l))
end
end Go.Proofs.YtjhaedfpigebdaaGreatDoor
namespace Go.Proofs.YtjhaedfpigebdaaGreatDoor
theorem worst_ex(rs:List Rat):∀k,∃e,WorstP rs k e
  |0=>⟨-1,.inl ⟨rfl,fun i h=>absurd h (Nat.not_lt_zero i)⟩⟩
  | k +1=>by
    obtain⟨e,h⟩:=worst_ex rs k
    have key:∀(p:Rat->Prop),(∀i,i<k->p (rs.getD i 0))->p (rs.getD k 0)-> ∀i,i<k+1->p (rs.getD i 0):=fun p h1 h2 i hi=>by
      by_cases e:i=k
      . subst e;exact h2
      exact h1 i (by omega)
    by_cases h0:rs.getD k 0<0
    . rcases h with⟨_,h2⟩|⟨m,_,hm,hn,hw⟩
      . exact⟨(k:Int),.inr ⟨k,rfl,by omega,h0,key (fun q=>rs.getD k 0<=q) (fun i hi=>Rat.le_trans (Rat.le_of_lt h0) (h2 i hi)) Rat.le_refl⟩⟩
      by_cases h1:rs.getD m 0<=rs.getD k 0
      . exact⟨m,.inr ⟨m,rfl,by omega,hn,key (fun q=>rs.getD m 0<=q) hw h1⟩⟩
      exact⟨k,.inr ⟨k,rfl,by omega,h0,key (fun q=>rs.getD k 0<=q) (fun i hi=>Rat.le_trans (Rat.le_of_lt (Rat.not_le.1 h1)) (hw i hi)) Rat.le_refl⟩⟩
    rcases h with⟨he,h2⟩|⟨m,he,hm,hn,hw⟩
    . exact⟨-1,.inl ⟨rfl,key (fun q=>0<=q) h2 (Rat.not_lt.1 h0)⟩⟩
    exact⟨m,.inr ⟨m,rfl,by omega,hn,key (fun q=>rs.getD m 0<=q) hw (Rat.le_trans (Rat.le_of_lt hn) (Rat.not_lt.1 h0))⟩⟩
theorem last_of(s:LSt)(h:s.Ok):∃t,Rch s t/\stepS t=none:=by
  obtain⟨n,hn⟩:∃n,muS s<=n:=⟨_,Nat.le_refl _⟩
  induction n generalizing s with
  | zero=>
    cases e:stepS s with
    |none=>exact⟨s,Rch.refl s,e⟩
    |some u=>have:=muS_lt h e;omega
  | succ n ih=>
    cases e:stepS s with
    |none=>exact⟨s,Rch.refl s,e⟩
    | some u=>
      have h1:=muS_lt h e;have hu:u.Ok:=by obtain⟨i,j,hp,rfl⟩:=stepS_pick h e;exact h.next hp
      obtain⟨t,⟨k,hk⟩,ht⟩:=ih u hu (by omega);exact⟨t,⟨k+1,by rw[itS,e];exact hk⟩,ht⟩
section
variable {P:LPd}
theorem ph1_last:∀(n:Nat) (s:LObj) (g z:LRow),Ph1 P s->s.os=[g,z]->muS ⟨s.T,z⟩<=n-> ∃s' g' z',Ph1 P s'/\s'.os=[g',z']/\ ∀k,0<=z'.cs.getD k 0:=fun n=>by
  induction n with
  | zero=>
    intro s g z h ho hn
    by_cases he:entN z.cs s.T.free z.cs.length<0
    . exact⟨s,g,z,h,ho,ent_none (s:=⟨s.T,z⟩) he⟩
    obtain⟨j,hj⟩:=ent_nat (s:=⟨s.T,z⟩) he;have hz:s.os[1]?=some z:=by rw[ho];rfl
    obtain⟨h1,h2⟩:=ent_some (s:=⟨s.T,z⟩) hj;obtain⟨i,hi,_⟩:=h.lea hz (by rw[<-h.ok.len z (List.mem_of_getElem? hz)];exact h1) h2;have:=(h.lstep ho hj hi).2.2;omega
  | succ n ih=>
    intro s g z h ho hn
    by_cases he:entN z.cs s.T.free z.cs.length<0
    . exact⟨s,g,z,h,ho,ent_none (s:=⟨s.T,z⟩) he⟩
    obtain⟨j,hj⟩:=ent_nat (s:=⟨s.T,z⟩) he;have hz:s.os[1]?=some z:=by rw[ho];rfl
    obtain⟨h1,h2⟩:=ent_some (s:=⟨s.T,z⟩) hj;obtain⟨i,hi,_⟩:=h.lea hz (by rw[<-h.ok.len z (List.mem_of_getElem? hz)];exact h1) h2;obtain⟨q1,q2,q3⟩:=h.lstep ho hj hi;exact ih _ _ _ q1 q2 (by omega)
theorem feas_start(hP:P.Ok){x:List Rat}(hx:feaB P x=true):∃s:LSt,s.Ok/\Alike s.obj P.init:=by
  obtain⟨e,he⟩:=worst_ex P.b P.A.length
  rcases he.case with rfl|⟨m,rfl,_⟩
  . exact⟨⟨P.init.T,P.goal⟩,init_lst hP he,Alike.refl _⟩
  obtain⟨hm,h0⟩:=worst_ph1 hP he;obtain⟨g0,z0,ho⟩:∃g z,(P.initA.piv m P.c.length).os=[g,z]:=⟨_,_,rfl⟩;obtain⟨s,g,z,h,hs,hc⟩:=ph1_last _ _ _ _ h0 ho (Nat.le_refl _);have hg:s.os[0]?=some g:=by rw[hs];rfl
  have hz:s.os[1]?=some z:=by rw[hs];rfl
  by_cases hr:z.r<0
  . exact(inf_no hP (h.infeasible hP hz hc hr) hx).elim
  have hr0:=Rat.not_lt.1 hr;have hmem:(-1:Int)∈s.T.basic++s.T.free:=(h.al.mem (-1)).2 (List.mem_append_right _ (List.mem_append_right _ (List.mem_singleton.2 rfl)))
  rcases List.mem_append.1 hmem with hb|hf
  . obtain⟨i,hi⟩:=List.mem_iff_getElem?.1 hb;obtain⟨j,hj,ha⟩:=h.find hP hz hr0 hi;have h2:=h.take hz hr0 hi hj ha
    have hj2:(s.piv i j).T.free[j]?=some (-1):=by
      show(s.T.free.set j (s.T.basic.getD i 0))[j]?=_
      rw[List.getElem?_set_self hj,getD_of hi]
    obtain⟨q1,q2⟩:=h2.lst_strike hP (g:=s.T.obj i j g) (by show(s.os.map (s.T.obj i j))[0]?=_;rw[hs];rfl) hj2;exact⟨_,q1,q2⟩
  obtain⟨j,hj⟩:=List.mem_iff_getElem?.1 hf;obtain⟨q1,q2⟩:=h.lst_strike hP hg hj;exact⟨_,q1,q2⟩
def ptT(P:LPd)(t:LSt):List Rat:=pointL P.A.length P.c.length t.T
theorem ptT_len(t:LSt):(ptT P t).length=P.c.length:=by unfold ptT pointL;rw[List.length_map,cls_len]
section
variable {t:LSt}(ht:t.Ok)(ha:Alike t.obj P.init)
include ht ha
theorem sol_sat:P.init.T.Sat t.T.sol:=(ha.sat _).1 ht.ok.sat_sol
theorem sol_slk{i:Nat}(hi:i<P.A.length):t.T.sol (i:Int)=P.b.getD i 0-dotQ (P.A.getD i []) (ptT P t):=init_sat.1 (sol_sat ht ha) i hi
omit ha in
theorem sol_nn(n:Int):0<=t.T.sol n:=asg_nn (fun k=>by
  rw[List.getD,List.getElem?_map]
  cases h:t.T.rows[k]? with
  |none=>exact Rat.le_refl
  |some x=>exact ht.feas x (List.mem_of_getElem? h)) n
theorem ptT_feas:feaB P (ptT P t)=true:=fea_iff.2 ⟨ptT_len t,fun e he=>by
  obtain⟨c,_,rfl⟩:=List.mem_map.1 he;exact sol_nn ht c,fun i hi=>by
  have h1:=sol_slk ht ha hi;have h2:=sol_nn ht (i:Int)
  grind⟩
theorem ptT_one{y:List Rat}(hy:y.length=P.c.length)(hz:∀f∈t.T.free,P.asn y 0 f=0):y=ptT P t:=by
  have hs:t.T.Sat (P.asn y 0):=(ha.sat _).2 (sat_asn hy)
  have hall:∀n∈t.T.basic++t.T.free,P.asn y 0 n=t.T.sol n:=fun n hn=>by
    rcases List.mem_append.1 hn with hb|hf
    . obtain⟨i,hi⟩:=List.mem_iff_getElem?.1 hb;have hil:i<t.T.rows.length:=by rw[<-ht.ok.nb];exact(List.getElem?_eq_some_iff.1 hi).1
      have hx:=List.getElem?_eq_getElem hil;rw[hs.at hz hi hx,ht.ok.sol_at hi hx]
    rw[hz n hf,ht.ok.sol_free hf]
  have h1:(cls P.A.length P.c.length).map (P.asn y 0)=y:=asn_cls y 0 hy;rw[<-h1];refine List.map_congr_left fun c hc=>hall c ?_
  exact(ha.mem c).2 (List.mem_append_right _ hc)
theorem ptT_free{f:Int}(hf:f∈t.T.free):P.asn (ptT P t) 0 f=0:=by
  have h0:t.T.sol f=0:=ht.ok.sol_free hf;have hm:=(ha.mem f).1 (List.mem_append_right _ hf)
  rcases List.mem_append.1 hm with h1|h1
  . obtain⟨h2,h3⟩:=mem_slk.1 h1;obtain⟨i,rfl⟩:∃i:Nat,f=(i:Int):=⟨f.toNat,by omega⟩;have e1:=asn_at (P:=P) (ptT P t) 0 (i:=i) (by omega);have e2:=sol_slk ht ha (i:=i) (by omega);rw[e1, <-e2,h0,Rat.add_zero]
  obtain⟨k,hk⟩:=List.mem_iff_getElem?.1 h1
  change (cls P.A.length P.c.length)[k]?=some f at hk
  have h2:((cls P.A.length P.c.length).map (P.asn (ptT P t) 0))[k]?=some (P.asn (ptT P t) 0 f):=by rw[List.getElem?_map,hk];rfl
  rw[asn_cls (ptT P t) 0 (ptT_len t)]at h2;unfold ptT pointL at h2;rw[List.getElem?_map,hk]at h2;exact(Option.some.inj h2).symm.trans h0
end
theorem opt_tab(hP:P.Ok){x y:List Rat}{z:Rat}(h:OptC P x y z):∃t:LSt,t.Ok/\Alike t.obj P.init/\dotQ P.c (ptT P t)=z:=by
  obtain⟨s,hs,has⟩:=feas_start hP h.fea;obtain⟨t,hr,he⟩:=last_of s hs;have ht:=hr.ok hs;have ha:=(hr.alike hs).trans has;refine⟨t,ht,ha,?_⟩
  by_cases h1:entN t.g.cs t.T.free t.g.cs.length<0
  . have ho:=optimal_of hP ht.obj ha (g:=t.g) rfl ht.feas (ent_none h1);exact ho.cx.trans (opt_one hP ho h)
  obtain⟨j,hj⟩:=ent_nat h1;obtain⟨h2,h3⟩:=ent_some hj
  by_cases h4:(leaN t.T.rows t.T.basic j t.T.rows.length).1<0
  . have hu:=unbounded_of ht.obj ha (g:=t.g) rfl ht.feas (by show j<t.T.free.length;rw[<-ht.len];exact h2) h3 (lea_none h4);exact(unb_no hP hu h.cov).elim
  obtain⟨i,hi,_⟩:=lea_nat h4;rw[step_of hj hi]at he
  cases he
end
end Go.Proofs.YtjhaedfpigebdaaGreatDoor
namespace Go.Proofs.YtjhaedfpigebdaaGreatDoor
open Go.RowKit
section
variable {n k i:Nat}{eq e:List (List Rat)}{v x y:List Rat}{P:LPd}
def pivG(eq:List (List Rat))(n k:Nat):Nat:=(((List.range n).filter fun p=>decide (k<=p/\atG eq p k≠0)).head?).getD n
theorem pivG_lt(h:pivG eq n k<n):k<=pivG eq n k/\atG eq (pivG eq n k) k≠0:=by
  unfold pivG at h⊢
  cases hf:((List.range n).filter fun p=>decide (k<=p/\atG eq p k≠0))with
  |nil=>rw[hf]at h;exact absurd h (Nat.lt_irrefl n)
  | cons p l=>
    have:p∈(List.range n).filter fun p=>decide (k<=p/\atG eq p k≠0):=by rw[hf];exact List.mem_cons_self ..
    exact of_decide_eq_true (List.mem_filter.1 this).2
theorem pivG_le:pivG eq n k<=n:=by
  unfold pivG
  cases hf:((List.range n).filter fun p=>decide (k<=p/\atG eq p k≠0))with
  |nil=>exact Nat.le_refl n
  | cons p l=>
    have:p∈(List.range n).filter fun p=>decide (k<=p/\atG eq p k≠0):=by rw[hf];exact List.mem_cons_self ..
    exact Nat.le_of_lt (List.mem_range.1 (List.mem_filter.1 this).1)
theorem pivG_no(h:pivG eq n k=n)(hi:k<=i)(hin:i<n):atG eq i k=0:=by
  apply Classical.byContradiction;intro h0;unfold pivG at h
  cases hf:((List.range n).filter fun p=>decide (k<=p/\atG eq p k≠0))with
  | nil=>
    have:i∈(List.range n).filter fun p=>decide (k<=p/\atG eq p k≠0):=List.mem_filter.2 ⟨List.mem_range.2 hin,decide_eq_true ⟨hi,h0⟩⟩
    rw[hf]at this;cases this
  | cons p l=>
    rw[hf]at h;have:p∈(List.range n).filter fun p=>decide (k<=p/\atG eq p k≠0):=by rw[hf];exact List.mem_cons_self ..
    have:=List.mem_range.1 (List.mem_filter.1 this).1;have h:p=n:=h;omega
def runG(n:Nat)(eq:List (List Rat)):Nat->Option (List (List Rat))
  |0=>some eq
  | k+1=>match runG n eq k with
    |none=>none
    |some e=>if pivG e n k=n then none else some (clrN k (swpG e k (pivG e n k)) n)
theorem runG_some(h:RecG n eq):∀{k:Nat} {e:List (List Rat)},k<=n->runG n eq k=some e->DiaG n k e/\ ∀v,SatG e v↔SatG eq v
  |0,e,_,h1=>by injection h1 with h1;subst h1;exact⟨.start h,fun _=>Iff.rfl⟩
  | k +1,e,hk,h1=>by
    unfold runG at h1
    cases h2:runG n eq k with
    |none=>rw[h2]at h1;cases h1
    | some e0=>
      rw[h2]at h1;dsimp only at h1
      split at h1
      . cases h1
      rename_i hp
      injection h1 with h1
      subst h1;obtain⟨hd,hs⟩:=runG_some h (by omega) h2;have hpl:pivG e0 n k<n:=by have:=pivG_le (eq:=e0) (n:=n) (k:=k);omega
      obtain⟨hkp,h0⟩:=pivG_lt hpl;refine⟨hd.step (by omega) hpl hkp h0,fun v=>?_⟩;rw[(hd.rg.swp (by omega) hpl).clr_sat (by omega),hd.rg.swp_sat (by omega) hpl];exact hs v
theorem runG_none(h:RecG n eq):∀{k:Nat},k<=n->runG n eq k=none-> ∃j e,j<n/\DiaG n j e/\(∀v,SatG e v↔SatG eq v)/\pivG e n j=n
  |0,_,h1=>by cases h1
  | k + 1,hk,h1=>by
    unfold runG at h1
    cases h2:runG n eq k with
    |none=>exact runG_none h (by omega) h2
    | some e0=>
      rw[h2]at h1;dsimp only at h1
      split at h1
      . rename_i hp
        obtain⟨hd,hs⟩:=runG_some h (by omega) h2;exact⟨k,e0,by omega,hd,hs,hp⟩
      cases h1
def limN(b:Nat):Nat->Nat
  |0=>b
  |k+1=>4*limN b k+1
theorem limN_pos{b:Nat}(hb:1<=b):∀k,1<=limN b k
  |0=>hb
  |k+1=>by unfold limN;omega
theorem limN_mono {b:Nat}:∀{j k:Nat},j<=k->limN b j<=limN b k
  | j, 0, h => by obtain rfl:j=0:=by omega
                  exact Nat.le_refl _
  | j,k+1,h=>by
    rcases Nat.lt_or_ge j (k+1)with q|q
    . have:=limN_mono (b:=b) (j:=j) (k:=k) (by omega)
      show limN b j<=4*limN b k+1
      omega
    obtain rfl:j=k+1:=by omega
    exact Nat.le_refl _
theorem swp_kk{p:Nat}(hk:k<eq.length)(hp:p<eq.length):atG (swpG eq k p) k k=atG eq p k:=by
  unfold atG;rw[swpG_at hk hp]
  split
  . rename_i e;rw[<-e]
  rw[if_pos rfl]
theorem runG_lm{b:Nat}(h:RecG n eq)(hl:LmE b eq)(hb:1<=b):∀{k:Nat} {e:List (List Rat)},k<=n->runG n eq k=some e->LmE (limN b k) e
  |0,e,_,h1=>by injection h1 with h1;subst h1;exact hl
  | k +1,e,hk,h1=>by
    unfold runG at h1
    cases h2:runG n eq k with
    |none=>rw[h2]at h1;cases h1
    | some e0=>
      rw[h2]at h1;dsimp only at h1
      split at h1
      . cases h1
      rename_i hp
      injection h1 with h1
      subst h1;obtain⟨hd,_⟩:=runG_some h (by omega) h2;have hpl:pivG e0 n k<n:=by have:=pivG_le (eq:=e0) (n:=n) (k:=k);omega
      obtain⟨_,h0⟩:=pivG_lt hpl;have a1:k<e0.length:=by rw[hd.rg.1];omega
      have a2:pivG e0 n k<e0.length:=by rw[hd.rg.1];exact hpl
      exact((runG_lm h hl hb (by omega) h2).swp a1 a2).clr (limN_pos hb k) (by rw[swpG_len];exact a1) (by rw[swp_kk a1 a2];exact h0)
def solG(n:Nat)(eq:List (List Rat)):Option (List Rat):=(runG n eq n).map fun e=>outG e n
theorem solG_some(h:RecG n eq)(h1:solG n eq=some x):x.length=n/\ ∀y,y.length=n->(SatG eq (y++[-1])↔y=x):=by
  unfold solG at h1
  cases h2:runG n eq n with
  |none=>rw[h2]at h1;cases h1
  | some e=>
    rw[h2]at h1
    injection h1 with h1
    subst h1;obtain⟨hd,hs⟩:=runG_some h (Nat.le_refl n) h2;exact⟨outG_len,fun y hy=>by rw[<-hs];exact hd.sol hy⟩
theorem solG_none(h:RecG n eq)(h1:solG n eq=none)(hx:x.length=n)(hs:SatG eq (x++[-1])):∃y:List Rat,y.length=n/\y≠x/\SatG eq (y++[-1]):=by
  unfold solG at h1
  cases h2:runG n eq n with
  |some e=>rw[h2]at h1;cases h1
  | none=>
    obtain⟨j,e,hj,hd,he,hp⟩:=runG_none h (Nat.le_refl n) h2;obtain⟨y,a,b,c⟩:=hd.fail hj (fun i hi hin=>pivG_no hp hi hin) hx ((he _).2 hs);exact⟨y,a,b,(he _).1 c⟩
theorem solG_one(h:RecG n eq)(hx:x.length=n)(hs:SatG eq (x++[-1]))(hu:∀y,y.length=n->SatG eq (y++[-1])->y=x):solG n eq=some x:=by
  cases h1:solG n eq with
  | none=>
    obtain⟨y,a,b,c⟩:=solG_none h h1 hx hs;exact absurd (hu y a c) b
  | some z=>
    obtain⟨_,h2⟩:=solG_some h h1;rw[(h2 x hx).1 hs]
def tgtG(P:LPd)(i:Nat):List Rat:=if i<P.A.length then P.A.getD i []++[P.b.getD i 0]else(List.replicate (P.c.length+1) 0).set (i-P.A.length) 1
theorem tgt_len(hP:P.Ok):(tgtG P i).length=P.c.length+1:=by
  unfold tgtG
  split
  . rename_i h;rw[List.length_append,hP.row h];rfl
  simp
theorem tgt_dot(hP:P.Ok)(hy:y.length=P.c.length)(hi:i<P.A.length+P.c.length):dotQ (tgtG P i) (y++[-1])=0↔P.asn y 0 (i:Int)=0:=by
  unfold tgtG
  split
  . rename_i h
    rw[asn_at y 0 h,dotQ_append _ _ _ _ (by rw[hP.row h,hy])];have e:dotQ [P.b.getD i 0] [-1]=P.b.getD i 0* -1+0:=rfl;rw[e];constructor<;>intro q<;>grind
  rename_i h
  have e:=dotQ_unit (y++[-1]) (P.c.length+1) (i-P.A.length) (by rw[List.length_append,hy];rfl) (by omega);unfold unitQ at e;rw[dotQ_comm,e,getD_app (by rw[hy];omega)];unfold LPd.asn;rw[if_neg (by omega),if_neg (by omega),Int.toNat_natCast]
def bitsG(t s:Nat):List Nat:=(List.range t).filter fun i=>s.testBit i
def eqsG(P:LPd)(s:Nat):List (List Rat):=(bitsG (P.A.length+P.c.length) s).map (tgtG P)
def vtxG(P:LPd)(s:Nat):Option Rat:=if(eqsG P s).length=P.c.length then match solG P.c.length (eqsG P s)with
  |some x=>if feaB P x=true then some (dotQ P.c x)else none
  |none=>none else none
def bstG(P:LPd):Nat->Option Rat
  |0=>none
  | s +1=>match vtxG P s with
    |none=>bstG P s
    | some v=>match bstG P s with
      |none=>some v
      |some b=>if b<v then some v else some b
theorem vtx_fea{s:Nat}{z:Rat}(h:vtxG P s=some z):∃x,feaB P x=true/\z=dotQ P.c x:=by
  unfold vtxG at h
  split at h
  . split at h
    . rename_i x _
      split at h
      . rename_i hf;injection h with h;exact⟨x,hf,h.symm⟩
      cases h
    cases h
  cases h
theorem bst_some:∀{k:Nat} {b:Rat},bstG P k=some b->(∃s,s<k/\vtxG P s=some b)/\ ∀s z,s<k->vtxG P s=some z->z<=b
  |0,b,h=>by cases h
  | k + 1,b,h=>by
    unfold bstG at h;have low:∀{c:Rat},bstG P k=some c-> ∀s z,s<k->vtxG P s=some z->z<=c:=fun hc=>(bst_some hc).2
    cases hv:vtxG P k with
    | none=>
      rw[hv]at h;obtain⟨⟨s,h1,h2⟩,h3⟩:=bst_some h;refine⟨⟨s,by omega,h2⟩,fun s z hs hz=>?_⟩
      rcases Nat.lt_or_ge s k with q|q
      . exact h3 s z q hz
      obtain rfl:s=k:=by omega
      rw[hv]at hz;cases hz
    | some v=>
      rw[hv]at h;dsimp only at h
      cases hb:bstG P k with
      | none=>
        rw[hb]at h
        injection h with h
        subst h;refine⟨⟨k,by omega,hv⟩,fun s z hs hz=>?_⟩
        rcases Nat.lt_or_ge s k with q|q
        . exact absurd hz (by rw[bst_none hb s q];intro w;cases w)
        obtain rfl:s=k:=by omega
        rw[hv]at hz;injection hz with hz;subst hz;exact Rat.le_refl
      | some c=>
        rw[hb]at h;dsimp only at h;obtain⟨⟨s0,h1,h2⟩,h3⟩:=bst_some hb
        split at h
        . rename_i hlt
          injection h with h
          subst h;refine⟨⟨k,by omega,hv⟩,fun s z hs hz=>?_⟩
          rcases Nat.lt_or_ge s k with q|q
          . have:=h3 s z q hz;grind
          obtain rfl:s=k:=by omega
          rw[hv]at hz;injection hz with hz;subst hz;exact Rat.le_refl
        rename_i hlt
        injection h with h
        subst h;refine⟨⟨s0,by omega,h2⟩,fun s z hs hz=>?_⟩
        rcases Nat.lt_or_ge s k with q|q
        . exact h3 s z q hz
        obtain rfl:s=k:=by omega
        rw[hv]at hz;injection hz with hz;subst hz;exact Rat.not_lt.1 hlt
where
  bst_none:∀{k:Nat},bstG P k=none-> ∀s,s<k->vtxG P s=none
    |0,_,s,hs=>absurd hs (Nat.not_lt_zero _)
    | k +1,h,s,hs=>by
      unfold bstG at h
      cases hv:vtxG P k with
      | none=>
        rw[hv]at h
        rcases Nat.lt_or_ge s k with q|q
        . exact bst_none h s q
        obtain rfl:s=k:=by omega
        exact hv
      | some v=>
        rw[hv]at h;dsimp only at h
        cases hb:bstG P k with
        |none=>rw[hb]at h;cases h
        |some c=>rw[hb]at h;dsimp only at h;split at h<;>cases h
def setN(p:Nat->Bool):Nat->Nat
  |0=>0
  |t+1=>setN p t+if p t=true then 2^t else 0
theorem setN_lt(p:Nat->Bool):∀t,setN p t<2^t
  |0=>Nat.one_pos
  | t+1=>by
    have:=setN_lt p t;unfold setN;rw[Nat.pow_succ]
    split<;>omega
theorem setN_bit(p:Nat->Bool):∀(t i:Nat),i<t->(setN p t).testBit i=p i
  |0,_,h=>absurd h (Nat.not_lt_zero _)
  | t + 1,i,h=>by
    have hl:=setN_lt p t;unfold setN
    by_cases e:i=t
    . subst e
      cases hp:p i with
      |false=>rw[if_neg (by decide),Nat.add_zero];exact Nat.testBit_lt_two_pow hl
      | true=>
        rw[if_pos rfl,Nat.add_comm,Nat.testBit_two_pow_add_eq,Nat.testBit_lt_two_pow hl];rfl
    have ih:=setN_bit p t i (by omega)
    split
    . rw[Nat.add_comm,Nat.testBit_two_pow_add_gt (by omega)];exact ih
    rw[Nat.add_zero];exact ih
theorem vtx_ex{t:LSt}(hP:P.Ok)(ht:t.Ok)(ha:Alike t.obj P.init):∃s,s<2^(P.A.length+P.c.length)/\vtxG P s=some (dotQ P.c (ptT P t)):=by
  refine⟨setN (fun i:Nat=>decide ((i:Int)∈t.T.free)) (P.A.length+P.c.length),setN_lt _ _,?_⟩
  have hb:bitsG (P.A.length+P.c.length) (setN (fun i:Nat=>decide ((i:Int)∈t.T.free)) (P.A.length+P.c.length))=(List.range (P.A.length+P.c.length)).filter fun i:Nat=>decide ((i:Int)∈t.T.free):=by
    unfold bitsG;refine List.filter_congr fun i hi=>?_
    exact setN_bit _ _ i (List.mem_range.1 hi)
  have hrg:∀f∈t.T.free,0<=f/\f<((P.A.length+P.c.length:Nat):Int):=fun f hf=>by
    have:=(ha.mem f).1 (List.mem_append_right _ hf)
    rcases List.mem_append.1 this with h|h
    . have:=mem_slk.1 h;omega
    have:=mem_cls.1 h;omega
  have hnd:t.T.free.Nodup:=(List.nodup_append.1 ht.ok.nd).2.1
  have hfl:t.T.free.length=P.c.length:=by
    have:=ha.nf;rw[show P.init.T.free=cls P.A.length P.c.length from rfl,cls_len]at this;exact this
  have hlen:((List.range (P.A.length+P.c.length)).filter fun i:Nat=>decide ((i:Int)∈t.T.free)).length=P.c.length:=by
    have hp:(((List.range (P.A.length+P.c.length)).filter fun i:Nat=>decide ((i:Int)∈t.T.free)).map fun i:Nat=>(i:Int)).Perm t.T.free:=by
      refine(List.perm_ext_iff_of_nodup ?_ hnd).2 fun f=>?_
      . refine List.Pairwise.map _ (fun a b hab=>?_) (List.Pairwise.filter _ List.nodup_range);intro w;exact hab (by omega)
      rw[List.mem_map];constructor
      . rintro⟨i,hi,rfl⟩;exact of_decide_eq_true (List.mem_filter.1 hi).2
      intro hf;have:=hrg f hf;exact⟨f.toNat,List.mem_filter.2 ⟨List.mem_range.2 (by omega),decide_eq_true (by rw[Int.toNat_of_nonneg this.1];exact hf)⟩,Int.toNat_of_nonneg this.1⟩
    have:=hp.length_eq;rw[List.length_map]at this;rw[this,hfl]
  have hrec:RecG P.c.length (eqsG P (setN (fun i:Nat=>decide ((i:Int)∈t.T.free)) (P.A.length+P.c.length))):=by
    refine⟨by unfold eqsG;rw[List.length_map,hb,hlen],fun r hr=>?_⟩;obtain⟨i,_,rfl⟩:=List.mem_map.1 hr;exact tgt_len hP
  have hsat:∀y:List Rat,y.length=P.c.length->(SatG (eqsG P (setN (fun i:Nat=>decide ((i:Int)∈t.T.free)) (P.A.length+P.c.length))) (y++[-1])↔ ∀f∈t.T.free,P.asn y 0 f=0):=fun y hy=>by
    unfold SatG eqsG;rw[hb];constructor
    . intro h f hf;have hr:=hrg f hf;have h1:=h (tgtG P f.toNat) (List.mem_map.2 ⟨f.toNat,List.mem_filter.2 ⟨List.mem_range.2 (by omega),decide_eq_true (by rw[Int.toNat_of_nonneg hr.1];exact hf)⟩,rfl⟩);have h2:=(tgt_dot hP hy (by omega)).1 h1
      rwa [Int.toNat_of_nonneg hr.1]at h2
    intro h r hr;obtain⟨i,hi,rfl⟩:=List.mem_map.1 hr;obtain⟨h1,h2⟩:=List.mem_filter.1 hi;exact(tgt_dot hP hy (List.mem_range.1 h1)).2 (h _ (of_decide_eq_true h2))
  unfold vtxG;rw[if_pos hrec.1,solG_one hrec (ptT_len t) ((hsat _ (ptT_len t)).2 fun f hf=>ptT_free ht ha hf) (fun y hy h=>ptT_one ht ha hy ((hsat y hy).1 h))];dsimp only;rw[if_pos (ptT_feas ht ha)]
theorem best_of(hP:P.Ok){R:LpRes}(h:CertR P R):((bstG P (2^(P.A.length+P.c.length))).isSome=decide (R.k≠2))/\(R.k=1->bstG P (2^(P.A.length+P.c.length))=some R.z):=by
  have has:(∃x,feaB P x=true)-> ∃b,bstG P (2^(P.A.length+P.c.length))=some b:=fun⟨x,hx⟩=>by
    obtain⟨s,hs,has⟩:=feas_start hP hx;obtain⟨q,hq,hv⟩:=vtx_ex hP hs has
    cases hb:bstG P (2^(P.A.length+P.c.length))with
    |some b=>exact⟨b,rfl⟩
    |none=>rw[bst_some.bst_none hb q hq]at hv;cases hv
  rcases h with⟨hk,ho,_⟩|⟨hk,hi,_⟩|⟨hk,hu,_⟩
  . obtain⟨b,hb⟩:=has ⟨R.x,ho.fea⟩;refine⟨by rw[hb,hk];rfl,fun _=>?_⟩;obtain⟨t,ht,ha,hz⟩:=opt_tab hP ho;obtain⟨q,hq,hv⟩:=vtx_ex hP ht ha;obtain⟨⟨s,_,hs⟩,hall⟩:=bst_some hb;have h1:R.z<=b:=by rw[<-hz];exact hall q _ hq hv
    obtain⟨x,hx,rfl⟩:=vtx_fea hs;have h2:dotQ P.c x<=R.z:=opt_top hP ho hx;rw[hb];exact congrArg some (Rat.le_antisymm h2 h1)
  . refine⟨?_,fun w=>by rw[hk]at w;cases w⟩
    cases hb:bstG P (2^(P.A.length+P.c.length))with
    |none=>rw[hk];rfl
    | some b=>
      obtain⟨⟨s,_,hs⟩,_⟩:=bst_some hb;obtain⟨x,hx,_⟩:=vtx_fea hs;exact absurd hx (inf_no hP hi)
  obtain⟨b,hb⟩:=has ⟨R.x,hu.fea⟩;exact⟨by rw[hb,hk];rfl,fun w=>by rw[hk]at w;cases w⟩
end
end Go.Proofs.YtjhaedfpigebdaaGreatDoor
namespace Go.Proofs.YtjhaedfpigebdaaGreatDoor
open Go.RowKit
section
variable {n k i j m:Nat}{eq:List (List Rat)}{ri rk:List Rat}
theorem pivG_n(h:∀i,k<=i->i<n->atG eq i k=0):pivG eq n k=n:=by
  rcases Nat.lt_or_ge (pivG eq n k) n with q|q
  . exact absurd (h _ (pivG_lt q).1 q) (pivG_lt q).2
  exact Nat.le_antisymm pivG_le q
theorem pivG_is(h:∀i,k<=i->i<j->atG eq i k=0)(hk:k<=j)(hj:j<n)(h0:atG eq j k≠0):pivG eq n k=j:=by
  have q:pivG eq n k<n:=by
    rcases Nat.lt_or_ge (pivG eq n k) n with q|q
    . exact q
    exact absurd (pivG_no (Nat.le_antisymm pivG_le q) hk hj) h0
  obtain⟨q1,q2⟩:=pivG_lt q;unfold pivG at q q1 q2⊢
  cases hh:((List.range n).filter fun p=>decide (k<=p/\atG eq p k≠0)).head? with
  | none=>
    have:=List.head?_eq_none_iff.1 hh;have hm:j∈(List.range n).filter fun p=>decide (k<=p/\atG eq p k≠0):=List.mem_filter.2 ⟨List.mem_range.2 hj,decide_eq_true ⟨hk,h0⟩⟩
    rw[this]at hm;cases hm
  | some p=>
    rw[hh]at q q1 q2
    show p=j
    have q1:k<=p:=q1;have q2:atG eq p k≠0:=q2
    rcases Nat.lt_trichotomy p j with e|e|e
    . exact absurd (h p q1 e) q2
    . exact e
    exfalso
    obtain⟨t,ht⟩:=List.head?_eq_some_iff.1 hh;have hs:((List.range n).filter fun p=>decide (k<=p/\atG eq p k≠0)).Pairwise (· < ·):=List.Pairwise.filter _ List.pairwise_lt_range;have hm:j∈(List.range n).filter fun p=>decide (k<=p/\atG eq p k≠0):=List.mem_filter.2 ⟨List.mem_range.2 hj,decide_eq_true ⟨hk,h0⟩⟩
    rw[ht]at hs hm
    rcases List.mem_cons.1 hm with rfl|hm
    . exact absurd e (Nat.lt_irrefl _)
    exact absurd ((List.pairwise_cons.1 hs).1 j hm) (by omega)
theorem clrN_get(h:m<=i\/i=k)(hi:eq[i]?=some ri):(clrN k eq m)[i]?=some ri:=by
  unfold clrN;rw[List.getElem?_mapIdx,hi]
  show some (if i<m/\i≠k then _ else ri)=some ri
  rw[if_neg (by omega)]
theorem clrN_zer(hi:eq[i]?=some ri)(h0:ri.getD k 0=0):clrN k eq (i+1)=clrN k eq i:=by
  refine List.ext_getElem? fun j=>?_
  unfold clrN;rw[List.getElem?_mapIdx,List.getElem?_mapIdx]
  cases hj:eq[j]? with
  |none=>rfl
  | some r=>
    refine congrArg some ?_;dsimp only
    by_cases e:j=i
    . subst e;rw[hi]at hj;injection hj with hj;subst hj;rw[if_neg (show ¬(j<j/\j≠k) by omega)]
      split
      . unfold clrR;rw[if_pos h0]
      rfl
    by_cases q:j<i/\j≠k
    . rw[if_pos q,if_pos ⟨by omega,q.2⟩]
    rw[if_neg q,if_neg (by omega)]
theorem clrN_put(hi:eq[i]?=some ri)(hk:eq[k]?=some rk)(hik:i≠k)(h0:ri.getD k 0≠0):(clrN k eq i).set i (subG (ri.getD k 0/rk.getD k 0) rk ri)=clrN k eq (i+1):=by
  have e1:eq.getD i []=ri:=by rw[List.getD_eq_getElem?_getD,hi];rfl
  have e2:eq.getD k []=rk:=by rw[List.getD_eq_getElem?_getD,hk];rfl
  rw[clrN_step (List.getElem?_eq_some_iff.1 hi).1 hik,e1,e2];unfold clrR;rw[if_neg h0]
theorem swpG_is{a b:List Rat}(h1:eq[k]?=some a)(h2:eq[j]?=some b):(eq.set k b).set j a=swpG eq k j:=by
  unfold swpG;rw[List.getD_eq_getElem?_getD,List.getD_eq_getElem?_getD,h1,h2];rfl
theorem atG_of{r:List Rat}{x:Rat}(h1:eq[i]?=some r)(h2:r[j]?=some x):atG eq i j=x:=by
  unfold atG;rw[show eq.getD i []=r by rw[List.getD_eq_getElem?_getD,h1];rfl,List.getD_eq_getElem?_getD,h2];rfl
theorem ers_at{β:Type}{l:List β}{x:β}(h:l[k]?=some x)(hk:k≠i):(l.eraseIdx i)[if k<i then k else k-1]?=some x:=by
  rw[List.getElem?_eraseIdx]
  by_cases q:k<i
  . rw[if_pos q,if_pos q];exact h
  rw[if_neg q,if_neg (by omega),show k-1+1=k by omega];exact h
theorem RecG.row(h:RecG n eq)(hi:eq[i]?=some ri):ri.length=n+1:=h.2 _ (List.mem_of_getElem? hi)
theorem outG_put{x y:Rat}(hx:atG eq m n=x)(hy:atG eq m m=y)(hm:m<n):(outG eq n).take m++[x/y]=(outG eq n).take (m+1):=by
  have hl:m<(outG eq n).length:=by rw[outG_len];exact hm
  rw[List.take_succ_eq_append_getElem hl]
  congr 2
  have:=outG_at (eq:=eq) hm;rw[List.getD_eq_getElem?_getD,List.getElem?_eq_getElem hl]at this;have q:(outG eq n)[m]=_:=this;rw[q,hx,hy]
theorem solG_lm{x:List Rat}(h:RecG n eq)(hl:LmE 2 eq)(hn:n<=4)(hs:solG n eq=some x):∀y∈x,LmQ 1194 y:=by
  unfold solG at hs
  cases h2:runG n eq n with
  |none=>rw[h2]at hs;cases hs
  | some e=>
    rw[h2]at hs
    injection hs with hs
    subst hs;have hL:=runG_lm h hl (by decide) (Nat.le_refl n) h2;have hb:limN 2 n<=597:=Nat.le_trans (limN_mono hn) (by decide);have hL2:LmE 597 e:=hL.up hb;have hd:=(runG_some h (Nat.le_refl n) h2).1;intro y hy;obtain⟨k,hk,rfl⟩:=List.mem_map.1 hy;have hk:=List.mem_range.1 hk;exact(hL2.at (by decide)).div (hL2.at (by decide)) (hd.nz _ hk)
end
section
variable {P:Program}{V:World}{ops:Array Oper}{Q:Act->World->Prop}{f0 fs fs':List Ft}{ks:List Nat}{o:Oper}{rest:List Oper}{a a':Act}{t:TypeId}
theorem eRrK{g n c j j0:Nat}{xs:List Rat}{q q0:Rat}{x0:Duo Sl Sl}{a2:Duo Sl Sl->Act}(hm:rK t g n c xs j0 x0 q0∈fs)(hx:xs[j]?=some q)(h:∀x:Duo Sl Sl,Sx P V ops Q f0 ks rest (rF (.agg #[.bool (isN q),.slice x.a.p x.a.l x.a.c,.slice x.b.p x.b.l x.b.c]) q::fs) (a2 x))(hg:Wants ops o a:=by first|exact wants0 rfl|exact wantsg rfl rfl rfl rfl)
    (h1:∀w v0 v1 v2,w.cell? ⟨g,j*3,none⟩=some v0->w.cell? ⟨g,j*3+1,none⟩=some v1->w.cell? ⟨g,j*3+2,none⟩=some v2->Flt (.agg #[v0,v1,v2]) w ((execOp a.eval o).run P w):=by intro w' v0 v1 v2 c0 c1 c2;go_simp;(try go_bits);exact⟨rfl,rfl⟩) (ha:∀x:Duo Sl Sl,a.put o.dst (.agg #[.bool (isN q),.slice x.a.p x.a.l x.a.c,.slice x.b.p x.b.l x.b.c])=a2 x:=by intro x;(simp only[mkOf,Act.put,pA,pB,pC,pD,pE])<;>exact rfl):Sx P V ops Q f0 (2::ks) (o::rest) fs a:=
  sx2 (α:=Duo Sl Sl) (f:=fun x=>.agg #[.bool (isN q),.slice x.a.p x.a.l x.a.c,.slice x.b.p x.b.l x.b.c]) (l':=fun x=>[rF (.agg #[.bool (isN q),.slice x.a.p x.a.l x.a.c,.slice x.b.p x.b.l x.b.c]) q]) hg (fun w hw=>by
    obtain⟨v0,v1,v2,hc,hr⟩:=(OwV.slv (hw.get hm).1).ref hx;have hf:=h1 w v0 v1 v2 (by have:=hc.2.1;rwa [show 0+j*3=j*3 by omega]at this) (by have:=hc.2.2.1;rwa [show 0+j*3=j*3 by omega]at this) (by have:=hc.2.2.2;rwa [show 0+j*3=j*3 by omega]at this);obtain⟨rfl,⟨p,l,d,rfl⟩,p',l',d',rfl⟩:=refR_cells hr;exact Flt.does ⟨⟨⟨p,l,d⟩,⟨p',l',d'⟩⟩,rfl,(SS.start w).fact (rF _ _) hr⟩ hf) fun x=>by rw[ha];exact h x
end
end Go.Proofs.YtjhaedfpigebdaaGreatDoor
namespace Go.Proofs.YtjhaedfpigebdaaGreatDoor
open Go.RowKit
open Go.Lib (decDigits)
set_option maxRecDepth 100000 in
set_option maxHeartbeats 400000 in
theorem tight_any(w:World){cp ap bp:Option Addr}{cl cc al ac bl bc:Nat}{P:LPd}(i:Nat)(hC:SlV refK w (.slice cp cl cc) P.c)(hA:SlV rfK w (.slice ap al ac) P.A)(hB:SlV refK w (.slice bp bl bc) P.b)(hi:i<P.A.length+P.c.length)(_hm5:P.A.length<=5)(hn1:1<=P.c.length)(hn4:P.c.length<=4)(hrow:∀i,i<P.A.length->(P.A.getD i []).length=P.c.length)(hbl:P.b.length=P.A.length):
    Calls Tryz.prog 38 #[.agg #[.slice cp cl cc,.slice ap al ac,.slice bp bl bc],.int .i64 (i:Int)] w fun e w'=> ∃s:Sl,e=.returned (.slice s.p s.l s.c)/\SS w [rO refK 34 s.p s.l s.c (tgtG P i)] w':=by
  have hK:=SS.start w;have⟨nc1,nc2⟩:=lle hC.one0;have⟨na1,na2⟩:=lle hA.one0;have⟨nb1,nb2⟩:=lle hB.one0;refine Calls.hide (fun Q0 hQ0=>?_);go_enter Tryz.func38,Tryz.ntmps38;go_upto_region 0 with(fail);refine wp_region_T [3,0] hK ?_;clear hK;refine eA (.cells #[.slice cp cl cc,.slice ap al ac,.slice bp bl bc] 29) (fun R1=>?_);refine e0 ?_;refine sxEnd (fun W2 hK=>?_);go_upto_region 1 with(fail);refine wp_region_T [0,1,0,0] hK ?_;clear hK;refine e0 ?_;refine eL m0 ?_
  iterate 2 refine e0 ?_
  refine sxEnd (fun W3 hK=>?_);go_upto_region 2 with(fail);refine wp_region_T [0,0,1,0,0] hK ?_;clear hK
  iterate 2 refine e0 ?_
  refine eL m0 ?_;refine e0 ?_;refine eB (decide (((i:Int))<((al:Int)))) (fun b1 hb1=>?_);refine sxEnd (fun W4 hK=>?_)
  cases b1
  . --
   have q_b1:=nlt hb1;go_upto_region 4 with(fail);refine wp_region_T [0,0,3,0] hK ?_;clear hK;refine e0 ?_;refine eV (.int .i64 ((P.c.length+1:Nat):Int)) (fun w'=>by go_simp;(try go_bits);first|exact⟨rfl,rfl⟩|(refine⟨congrArg _ ?_,rfl⟩;omega)|exact⟨congrArg _ (by simp),rfl⟩) ?_;refine eMk (K:=refK) (t:=34) (x:=(0:Rat)) (P.c.length+1) refz0 rfl infoR (by show(P.c.length+1)*3<=_;omega) (by decide) (fun g5=>?_);refine e0 ?_;refine sxEnd (fun W6 hK=>?_);replace hK:=hK.made (K:=refK) (n:=(P.c.length+1)) refz0 (by simp[maxLen];omega);have i7:i-P.A.length<(P.c.length+1):=(by omega);have l7:i-P.A.length<(List.replicate (P.c.length+1) (0:Rat)).length:=Nat.lt_of_lt_of_eq i7 (hK.len m0);obtain⟨z,ez⟩:=gtH l7;go_upto_region 5 with(fail);refine wp_region_S _ [0,0,0,0,0,0,2,0,4] hK ?_ (sC2 (List.Sublist.refl _));clear hK
   iterate 3 refine e0 ?_
   refine eL0 m0 ?_;refine e0 ?_;refine eV (.int .i64 ((i-P.A.length:Nat):Int)) (fun w'=>by go_simp;(try go_bits);first|exact⟨rfl,rfl⟩|(refine⟨congrArg _ ?_,rfl⟩;omega)|exact⟨congrArg _ (by simp),rfl⟩) ?_;refine eC (fun w k=>ref_S (rint_q 1 w (by omega) (by omega))) (fun x8=>?_);obtain⟨⟨p9,l9,c9⟩,⟨q9,u9,d9⟩⟩:=x8;dsimp only;refine e0 ?_;refine eWR (y:=((1:Int):Rat)) 1 l7 (fun w k=>k.rq m0) ?_ (hi:=rfl) (hs:=(sC2 (sC2 (List.Sublist.refl _))));refine sxEnd (fun W10 hK=>?_);rw[show(List.replicate (P.c.length+1) (0:Rat)).set (i-P.A.length) ((1:Int):Rat)=tgtG P i from(by unfold tgtG;rw[if_neg (by omega)];rfl)]at hK;replace hK:=hK.subl (sC2 (sK2 (sC2 sZ2)));go_wp2
   try go_ret
   show Q0 (.returned (.slice (some ⟨g5,0,none⟩) (P.c.length+1) (P.c.length+1))) _
   exact(qo hQ0 ⟨⟨(some ⟨g5,0,none⟩),P.c.length+1,P.c.length+1⟩,rfl,hK⟩)
  have q_b1:=ylt hb1;have i11:i<al:=(by omega);obtain⟨g11,o11,rfl⟩:=hA.pt i11;have l11:i<P.A.length:=Nat.lt_of_lt_of_eq i11 (hA.one0);obtain⟨x,ex⟩:=gtH l11;obtain⟨⟨x_p,x_l,x_c⟩,x_h,x_s⟩:=hA.row ex.out;dsimp only at x_h x_s;have x_n:=hid x_s.one0;have⟨x_n1,x_n2⟩:=lle x_n.out;have i12:i<bl:=(by omega);obtain⟨g12,o12,rfl⟩:=hB.pt i12;have l12:i<P.b.length:=Nat.lt_of_lt_of_eq i12 (hB.one0);obtain⟨y,ey⟩:=gtH l12;obtain⟨_,_,_,y_c,y_r⟩:=hB.ref ey.out;obtain⟨rfl,⟨y_p,y_n,y_d,rfl⟩,y_q,y_m,y_e,rfl⟩:=refR_cells y_r;have hix:i<P.A.length:=by omega
  have hxg:P.A.getD i []=x:=by rw[List.getD_eq_getElem?_getD,ex.out];rfl
  have hxl:=hid (hxg▸hrow i hix);have⟨hxl1,hxl2⟩:=lle hxl.out;have hxn:x≠[]:=fun e=>by have q:=hxl.out;rw[e]at q;simp at q;omega
  go_upto_region 3 with(fail);refine wp_region_S _ [3,0,0,0,0,0,5,0,0,0,0,0,3,5,0] hK ?_ (List.Sublist.refl _);clear hK;refine eA0 (K:=refK) (t:=34) (fun g13=>?_) (hs:=(List.Sublist.refl _));refine e0 ?_;refine eL0 m0 ?_
  iterate 2 refine e0 ?_
  refine eR0 (fun w k=>celB x_h k.old) ?_;refine eAppE 2 rfl 0 rfl infoR (fun w k=>x_s.below k.old) (by omega) (fun x14=>?_) (hs:=fun _=>(sC2 (List.Sublist.refl _)));obtain⟨p14,n14,c14⟩:=x14;dsimp only;refine e0 ?_;refine eL0 m0 ?_
  iterate 2 refine e0 ?_
  refine eRm3 (fun w k=>y_c.below k.old) ?_;refine eA (.cells #[.bool (isN y),.slice y_p y_n y_d,.slice y_q y_m y_e] 34) (fun R15=>?_);refine eAppK 2 refK_hd rfl 1 (fun e=>absurd e hxn) rfl infoR (fun w k=>k.one1 (K:=refK) (x:=y) m0 ⟨_,_,_,rfl,y_r.below k.old⟩) (by simp;omega) (fun x16=>?_) (hs:=fun _=>(sC2 (sC2 (List.Sublist.refl _))));obtain⟨p16,n16,c16⟩:=x16;dsimp only;refine e0 ?_;refine sxEnd (fun W17 hK=>?_);rw[show x++[y]=tgtG P i from(by unfold tgtG;rw[if_pos hix,hxg,show P.b.getD i 0=y by rw[List.getD_eq_getElem?_getD,ey.out];rfl])]at hK;replace hK:=hK.subl (sC2 (sK2 (sC2 sZ2)));go_wp2
  try go_ret
  show Q0 (.returned (.slice p16 n16 c16)) _
  exact(qo hQ0 ⟨⟨p16,n16,c16⟩,rfl,hK⟩)
end Go.Proofs.YtjhaedfpigebdaaGreatDoor
namespace Go.Proofs.YtjhaedfpigebdaaGreatDoor
open Go.RowKit
open Go.Lib (decDigits)
theorem rs_open{w:World}{t:TypeId}{ss:List Sl}{xss:List (List Rat)}{i m l c:Nat}{p:Option Addr}{xs:List Rat}(h:(rsF refK t ss xss).F w)(e1:ss[i]?=some ⟨p,l,c⟩)(e2:xss[i]?=some xs)(hl:xs.length=m+1):(∃g,p=some ⟨g,0,none⟩)/\l=m+1:=by
  have ho:OwV refK t 0 w (.slice p l c) xs:=rs_own h e1 e2;have hn:l=xs.length:=ho.slv.one0;obtain⟨g,o,e⟩:=ho.slv.pt (i:=0) (by omega);have e0:=ho.off e;subst e0;exact⟨⟨g,e⟩,by omega⟩
theorem runG_step{n k j:Nat}{eq e:List (List Rat)}(h:runG n eq k=some e)(hp:pivG e n k=j)(hj:j<n):runG n eq (k+1)=some (clrN k (swpG e k j) n):=by
  unfold runG;rw[h];dsimp only;rw[hp,if_neg (by omega)]
theorem runG_no {n k:Nat}{eq:List (List Rat)}(h:runG n eq k=none):∀{m},k<=m->runG n eq m=none
  | 0, hm => by obtain rfl:k=0:=by omega
                exact h
  | m+1,hm=>by
    rcases Nat.lt_or_ge m k with q|q
    . rw[show m+1=k by omega];exact h
    unfold runG;rw[runG_no h q]
theorem solG_no{n k:Nat}{eq e:List (List Rat)}(h:runG n eq k=some e)(hp:pivG e n k=n)(hk:k<n):solG n eq=none:=by
  have h1:runG n eq (k+1)=none:=by unfold runG;rw[h];dsimp only;rw[if_pos hp]
  unfold solG;rw[runG_no h1 hk];rfl
set_option maxRecDepth 100000 in
theorem rdiv_q(v0:Value)(v1:Value)(x:Rat)(y:Rat)(w:World)(h0:RefR w v0 x)(h1:RefR w v1 y) {k:Nat}(hx:LmQ k x)(hy:LmQ k y)(hk:k<=10000):
    Calls Tryz.prog 72 #[v0,v1] w fun e w'=> ∃y0,e=.returned (.tuple #[y0,.int .i64 (if y=0 then 10 else 0)])/\RefR w' y0 (x/y)/\Below w.heap.size w w':=by
  have h0_0:=h0;obtain⟨p_h0,c_h0,q_h0,d_h0,rfl,h0_1,h0_2⟩:=h0.slr;have h1_0:=h1;obtain⟨p_h1,c_h1,q_h1,d_h1,rfl,h1_1,h1_2⟩:=h1.slr;have hK:=SS.start w;have e1:(digs B6 (numQ x)).length<=50000:=d6_of hx.n (by omega);have e2:=d6_of hx.d (by omega);have e3:(digs B6 (numQ y)).length<=50000:=d6_of hy.n (by omega);have e4:=d6_of hy.d (by omega);have e5:(digs B6 (numQ x*y.den)).length<=50000:=d6_of (hx.n.mul hy.d) (by omega);have e6:(digs B6 (numQ y*x.den)).length<=50000:=d6_of (hy.n.mul hx.d) (by omega);have e7:=d6_of (hx.d.mul hy.d) (by omega);have e8:(digs B6 (numQ x*y.den+numQ y*x.den)).length<=50000:=d6_of ((hx.n.mul hy.d).add (hy.n.mul hx.d)) (by omega);have e9:(digs B6 (numQ x*y.den-numQ y*x.den)).length<=50000:=d6_of (hx.n.mul hy.d).sub (by omega);have e10:(digs B6 (numQ y*x.den-numQ x*y.den)).length<=50000:=d6_of (hy.n.mul hx.d).sub (by omega);have e11:(digs B6 (numQ x*numQ y)).length<=50000:=d6_of (hx.n.mul hy.n) (by omega);have e12:(digs B6 (x.den*numQ y)).length<=50000:=d6_of (hx.d.mul hy.n) (by omega);refine Calls.hide (fun Q0 hQ0=>?_);go_enter Tryz.func72,Tryz.ntmps72;go_upto_region 0 with(fail);refine wp_region_T [3,3,3,0] hK ?_;clear hK;refine eA (.cells #[.bool (isN x),.slice p_h0 (digs B6 (numQ x)).length c_h0,.slice q_h0 (digs B6 (den0 x)).length d_h0] 34) (fun R1=>?_);refine eA (.cells #[.bool (isN y),.slice p_h1 (digs B6 (numQ y)).length c_h1,.slice q_h1 (digs B6 (den0 y)).length d_h1] 34) (fun R2=>?_);refine eA (.cells #[.bool false,.slice none 0 0,.slice none 0 0] 34) (fun R3=>?_);refine e0 ?_;refine sxEnd (fun W4 hK=>?_);go_upto_region 1 with(fail);refine wp_region_S _ [0,0,0,0,0,0,0,0,2,2,0,2,0,0,2,2,0,0,4,0] hK ?_ (sC2 (List.Sublist.refl _));clear hK;refine e0 ?_;refine eL0 m1 ?_;refine e0 ?_;refine eL0 m0 ?_
  iterate 2 refine e0 ?_
  refine eL0 m1 ?_;refine eL0 m0 ?_;refine eC (fun w k=>ref_V (rone_q _ _ w (h1_0.below k.old))) (fun x6=>?_);obtain⟨p5,c5⟩:=x6;dsimp only;refine eC (fun w k=>ref_V (rmul_any _ _ _ _ w (h0_1.below k.old) (k.vf m0) (by omega) (by omega))) (fun x8=>?_);obtain⟨p7,c7⟩:=x8;dsimp only;refine eL0 m1 ?_;refine eC (fun w k=>ref_V (rone_q _ _ w (h0_0.below k.old))) (fun x10=>?_);obtain⟨p9,c9⟩:=x10;dsimp only;refine e0 ?_;refine eL0 m0 ?_;refine eC (fun w k=>ref_V (rmul_any _ _ _ _ w (k.vf m0) (h1_1.below k.old) (by omega) (by omega))) (fun x12=>?_);obtain⟨p11,c11⟩:=x12;dsimp only;obtain⟨z1,hz1⟩:=nmI (if(x.den*(numQ y))=0 then 10 else 0);refine eC (fun w k=>(by have q:=ref2_S (rmake_q _ _ (((isN x)) !=((isN y))) _ _ w (k.vf m2) (k.vf m0) (by omega) (by omega));rw[hz1.out]at q;exact q)) (fun x14=>?_);obtain⟨⟨p13,l13,c13⟩,⟨q13,u13,d13⟩⟩:=x14;dsimp only
  iterate 2 refine e0 ?_
  refine eP 5 0 [.bool (isN (ofS (((isN x)) !=((isN y))) ((numQ x)*y.den) (x.den*(numQ y)))),.slice p13 l13 c13,.slice q13 u13 d13] ?_ (hs:=(sC2 (sC2 (sC2 (sC2 (sC2 (sC2 (List.Sublist.refl _)))))))) (hq:=.inr ⟨rfl,rfl,rfl,rfl,rfl,rfl,rfl,trivial⟩);refine e0 ?_;refine sxEnd (fun W15 hK=>?_);have⟨c90,c91,c92⟩:=(hK.box m5).c3;go_wp2;exact bodyPost_ret (v:=.tuple #[.agg #[.bool (isN (ofS (((isN x)) !=((isN y))) ((numQ x)*y.den) (x.den*(numQ y)))),.slice p13 l13 c13,.slice q13 u13 d13],.int .i64 z1]) (by simp[results,Tryz.results72,go_sem,c90,c91,c92]) rfl (qo hQ0 ⟨_,(by rw[rdiv_e hz1.out]),((congrArg (RefR _ _) (rdiv_a x y)).mp (hK.rq m0)),hK.old⟩)
set_option maxRecDepth 100000 in
set_option maxHeartbeats 4000000 in
theorem rsolve_any(w V:World){g c:Nat}{ss:List Sl}{E:List (List Rat)}(n:Nat)(l:List Ft)(hK:SS V ((rO slcR 26 (some ⟨g,0,none⟩) n c ss)::(rsF refK 34 ss E)::l) w)(tz2:OkA 2 l)(tz3:OkA 3 l)(hR0:RecG n E)(hn1:1<=n)(hn4:n<=4)(hL0:LmE 2 E):
    Calls Tryz.prog 39 #[.slice (some ⟨g,0,none⟩) n c,.int .i64 (n:Int)] w fun e w'=> ∃s:Sl,e=.returned (.tuple #[.slice s.p s.l s.c,.bool (solG n E).isSome])/\SS V (rO refK 34 s.p s.l s.c ((solG n E).getD [])::l) w':=by
  refine Calls.hide (fun Q0 hQ0=>?_);go_enter Tryz.func39,Tryz.ntmps39;go_wp2_with fail;go_loopw [6] (fun s6 wl=> ∃(k:Nat) (ss1:List Sl) (E1:List (List Rat)),s6=.int .i64 (k:Int)/\(k<=n)/\Hid (runG n E k=some E1)/\SS V ((rO slcR 26 (some ⟨g,0,none⟩) n c ss1)::(rsF refK 34 ss1 E1)::l) wl) (fun s6 _=>n-(intOf s6).toNat)
  case atStart=>exact⟨0,ss,E,rfl,(by omega),hid rfl,hK⟩
  clear hK;obtain⟨k,ss1,E1,rfl,hk0,h_E,hK⟩:=hrel;generalize wr=W1 at hK⊢;have hdg:=hid (runG_some hR0 hk0 h_E.out).1;have hR:=hid hdg.out.rg;have hLk:=hid (runG_lm hR0 hL0 (by decide) hk0 h_E.out);have hE1:=hid hR.out.1;go_upto_region 2 with(fail);refine wp_region_T [0,0,0] hK ?_;clear hK
  iterate 2 refine e0 ?_
  refine eB (decide (((k:Int))<((n:Int)))) (fun b1 hb1=>?_);refine sxEnd (fun W2 hK=>?_)
  cases b1
  . --
   have q_b1:=nlt hb1;have hEn:=hid (show runG n E n=some E1 from by have q:=h_E.out;rwa [show k=n by omega]at q);have hLn:Hid (LmE 597 E1):=hid (hLk.out.up (Nat.le_trans (limN_mono (show k<=4 by omega)) (by decide)));replace hK:=hK.fact (rO refK 34 none 0 0 ((outG E1 n).take 0)) OwV.nil (fun _ h=>by cases h);go_wp2_with fail;go_loopw [12,13] (fun s12 s13 wl=> ∃(m:Nat) (pz:Option Addr) (nz:Nat) (cz:Nat),s12=.slice pz nz cz/\s13=.int .i64 (m:Int)/\(m<=n)/\Hid ((outG E1 n).take m=[]->pz=none)/\SS V ((rO slcR 26 (some ⟨g,0,none⟩) n c ss1)::(rsF refK 34 ss1 E1)::(rO refK 34 pz nz cz ((outG E1 n).take m))::l) wl) (fun s12 s13 _=>n-(intOf s13).toNat)
   case atStart=>exact⟨0,none,0,0,rfl,rfl,(by omega),hid (fun _=>rfl),hK.up2.up2⟩
   clear hK;obtain⟨m,pz,nz,cz,rfl,rfl,hm0,h_e,hK⟩:=hrel;generalize wr=W3 at hK⊢;go_upto_region 21 with(fail);refine wp_region_T [0,0,0] hK ?_;clear hK
   iterate 2 refine e0 ?_
   refine eB (decide (((m:Int))<((n:Int)))) (fun b2 hb2=>?_);refine sxEnd (fun W4 hK=>?_)
   cases b2
   . --
    have q_b2:=nlt hb2;have hme:m=n:=(by omega);rw[hme]at hK;clear hme;rw[show(outG E1 n).take n=outG E1 n from(List.take_of_length_le (by rw[outG_len];exact Nat.le_refl n))]at hK;have hsol:solG n E=some (outG E1 n):=(by unfold solG;rw[hEn.out];rfl);replace hK:=hK.subl (sC2 (sC2 (List.Sublist.refl _)));go_wp2
    try go_ret
    show Q0 (.returned (.tuple #[.slice pz nz cz,.bool true])) _
    exact(by obtain rfl:=hQ0.out;rw[hsol];exact⟨⟨pz,nz,cz⟩,rfl,hK⟩)
   have q_b2:=ylt hb2;obtain⟨ym,eym⟩:∃z0,Hid (E1[m]?=some z0):=⟨_,hid (List.getElem?_eq_getElem (by have q:=hE1.out;omega))⟩;have hry:=hid (hR.out.row eym.out);have i5:m<n:=(by omega);have l5:m<ss1.length:=Nat.lt_of_lt_of_eq i5 (hK.len m0);obtain⟨um,eum⟩:=gtH l5;obtain⟨um_p,um_l,um_c⟩:=um;obtain⟨⟨gum,rfl⟩,rfl⟩:=rs_open (hK.get m1) eum.out eym.out hry.out;have i6:n<n+1:=by omega
   have l6:n<ym.length:=by have q:=hry.out;omega
   obtain⟨ymn,eymn⟩:=gtH l6;have i7:m<n+1:=by omega
   have l7:m<ym.length:=by have q:=hry.out;omega
   obtain⟨ymm,eymm⟩:=gtH l7;have hl1:=hid (hLn.out ym (List.mem_of_getElem? eym.out) ymn (List.mem_of_getElem? eymn.out));have hl2:=hid (hLn.out ym (List.mem_of_getElem? eym.out) ymm (List.mem_of_getElem? eymm.out));replace hK:=hK.up1;replace hK:=hK.rsOut eum.out eym.out;dsimp only at hK;obtain⟨⟨⟨p8,l8,c8⟩,⟨q8,u8,d8⟩⟩,hK⟩:=hK.toK eymn.out;go_upto_region 23 with(fail);refine wp_region_S _ [0,0,0,0,0,0,0,0,0,0,0,0,0,2,2,0,0,0,3,4,0] hK ?_ (List.Sublist.refl _);clear hK
   iterate 3 refine e0 ?_
   refine eR0 (fun w k=>(k.own m3).slc eum.out) ?_
   iterate 2 refine e0 ?_
   refine eRm0 (F:=(rK 34 gum (n+1) um_c ym n ⟨⟨p8,l8,c8⟩,⟨q8,u8,d8⟩⟩ ymn).F) (fun w k=>k.get m0) (h1:=by intro w' k;obtain⟨_,_,c0,c1,c2⟩:=k;(try simp at c0 c1 c2);go_simp;(try go_bits);exact⟨rfl,rfl⟩) ?_
   iterate 3 refine e0 ?_
   refine eR0 (fun w k=>(k.own m3).slc eum.out) ?_
   iterate 2 refine e0 ?_
   refine eRrK m0 eymm.out (fun x9=>?_);obtain⟨⟨p9,l9,c9⟩,⟨q9,u9,d9⟩⟩:=x9;dsimp only;refine eC (fun w k=>ref2_S (rdiv_q _ _ _ _ w (k.rq m2) (k.rq m0) hl1.out hl2.out (by first|decide|omega))) (fun x10=>?_);obtain⟨⟨p11,l11,c11⟩,⟨q11,u11,d11⟩⟩:=x10;dsimp only;generalize (if ymm=0 then(10:Int)else 0)=z11e
   iterate 3 refine e0 ?_
   refine eA (.cells #[.bool false,.slice none 0 0,.slice none 0 0] 34) (fun R12=>?_);refine eP 0 0 [.bool (isN (ymn/ymm)),.slice p11 l11 c11,.slice q11 u11 d11] ?_ (hs:=(sC2 (sC2 (sC2 (List.Sublist.refl _)))));refine e0 ?_;refine sxEnd (fun W13 hK=>?_);go_upto_region 24 with(fail);refine wp_region_T [0,1,3,5,0] hK ?_;clear hK;refine e0 ?_;refine eL m0 ?_;refine eA (.cells #[.bool (isN (ymn/ymm)),.slice p11 l11 c11,.slice q11 u11 d11] 34) (fun R14=>?_);refine eAppK 2 refK_hd rfl 8 h_e.out rfl infoR (fun w k=>k.one1 (K:=refK) (x:=ymn/ymm) m0 ⟨_,_,_,rfl,k.rq m2⟩) (by rw[List.length_take,outG_len];simp;omega) (fun x15=>?_);obtain⟨p15,n15,c15⟩:=x15;dsimp only;refine e0 ?_;refine sxEnd (fun W16 hK=>?_);replace hK:=hK.up4;replace hK:=hK.unK;replace hK:=hK.up6;replace hK:=hK.up1;replace hK:=SS.rsIn (s:=⟨some ⟨gum,0,none⟩,n+1,um_c⟩) hK eum.out (by have q:=hE1.out;omega);rw[set_same eym.out]at hK;rw[show((outG E1 n).take m)++[ymn/ymm]=(outG E1 n).take (m+1)from(outG_put (atG_of eym.out eymn.out) (atG_of eym.out eymm.out) (by omega))]at hK
   (try go_wp2)
   go_roundw
   case rel=>exact⟨m+1,p15,n15,c15,(by first|rfl|go_num),(by first|rfl|go_num),(by omega),hid (fun e=>absurd (congrArg List.length e) (by rw[List.length_take,outG_len];simp;omega)),(hK.subl (sK2 (sC2 (sC2 (sC2 (sC2 (sC2 (List.Sublist.refl _)))))))).up2.up1.up2⟩
   case measure=>simp[intOf]<;>omega
  have q_b1:=ylt hb1;go_wp2_with fail;go_loopw [7] (fun s7 wl=> ∃(j:Nat),s7=.int .i64 (j:Int)/\(k<=j)/\(j<=n)/\Hid (∀i,k<=i->i<j->atG E1 i k=0)/\SS V ((rO slcR 26 (some ⟨g,0,none⟩) n c ss1)::(rsF refK 34 ss1 E1)::l) wl) (fun s7 _=>n-(intOf s7).toNat)
  case atStart=>exact⟨k,rfl,(by omega),(by omega),hid (fun i a b=>absurd b (by omega)),hK⟩
  clear hK;obtain⟨j,rfl,hj0,hj1,h_z,hK⟩:=hrel;generalize wr=W17 at hK⊢
  rcases Nat.lt_or_ge j n with hjn|hjn
  . --
   obtain⟨xj,exj⟩:∃z0,Hid (E1[j]?=some z0):=⟨_,hid (List.getElem?_eq_getElem (by have q:=hE1.out;omega))⟩;have hrj:=hid (hR.out.row exj.out);have i18:j<n:=(by omega);have l18:j<ss1.length:=Nat.lt_of_lt_of_eq i18 (hK.len m0);obtain⟨sj,esj⟩:=gtH l18;obtain⟨sj_p,sj_l,sj_c⟩:=sj;obtain⟨⟨gsj,rfl⟩,rfl⟩:=rs_open (hK.get m1) esj.out exj.out hrj.out;have i19:k<n+1:=by omega
   have l19:k<xj.length:=by have q:=hrj.out;omega
   obtain⟨xjk,exjk⟩:=gtH l19;go_upto_region 5 with(fail);refine wp_region_T [0,0,0,0,0,0,0,1,0,0,2,1,0,0] hK ?_;clear hK
   iterate 2 refine e0 ?_
   refine eV (.bool true) (fun w'=>by go_simp;(try go_bits);first|exact⟨rfl,rfl⟩|exact⟨congrArg Value.bool (by simp;omega),rfl⟩) ?_
   iterate 4 refine e0 ?_
   refine eR (fun w k=>(k.own m0).slc esj.out) ?_
   iterate 2 refine e0 ?_
   refine eRrS m1 esj.out exj.out exjk.out (fun x20=>?_);obtain⟨⟨p20,l20,c20⟩,⟨q20,u20,d20⟩⟩:=x20;dsimp only;obtain⟨z1,hz1⟩:=nmI (sgQ (xjk));refine eQ (v:=.int .i64 z1) (fun w k=>rsign_q _ _ w (k.rq m0)) ?_ (hv:=by rw[hz1.out]);refine eB (z1==0) (fun b2 hb2=>?_);refine e0 ?_;refine sxEnd (fun W21 hK=>?_)
   cases b2
   . --
    have hxn:xjk≠0:=fun e=>by{have q:=hb2.out;rw[<-hz1.out,sgQ_zero.2 e]at q;simp at q}
    go_upto_region 7 with(fail);refine wp_region_T [0,0,0] hK ?_;clear hK
    iterate 2 refine e0 ?_
    refine eV (.bool false) (fun w'=>by go_simp;(try go_bits);first|exact⟨rfl,rfl⟩|exact⟨congrArg Value.bool (by simp;omega),rfl⟩) ?_;refine sxEnd (fun W22 hK=>?_);have hxn:=hxn;have hj9:=hid (show atG E1 j k≠0 from by rw[atG_of exj.out exjk.out];exact hxn);clear hxn;have i23:k<n:=(by omega);have l23:k<ss1.length:=Nat.lt_of_lt_of_eq i23 (hK.len m1);obtain⟨sk,esk⟩:=gtH l23;obtain⟨sk_p,sk_l,sk_c⟩:=sk;obtain⟨xk1,exk1⟩:∃z0,Hid (E1[k]?=some z0):=⟨_,hid (List.getElem?_eq_getElem (by have q:=hE1.out;omega))⟩;go_upto_region 9 with(fail);refine wp_region_S _ [0,0,0,0,0,0,0,1,0,0,0,1,0,4,0,4] hK ?_ (sK2 (sC2 (List.Sublist.refl _)));clear hK
    iterate 7 refine e0 ?_
    refine eR (fun w k=>(k.own m1).slc esj.out) ?_
    iterate 3 refine e0 ?_
    refine eR (fun w k=>(k.own m1).slc esk.out) ?_;refine e0 ?_;refine eWS (y:=⟨(some ⟨gsj,0,none⟩),(n+1),sj_c⟩) 1 l23 ?_ (hi:=rfl) (hs:=(sK2 (sC2 (List.Sublist.refl _))));refine e0 ?_;refine eWS (y:=⟨sk_p,sk_l,sk_c⟩) 1 (by simpa using l18) ?_ (hi:=rfl) (hs:=(sK2 (sC2 (List.Sublist.refl _))));refine sxEnd (fun W24 hK=>?_);replace hK:=hK.up2;replace hK:=hK.rsSwp esk.out exk1.out esj.out exj.out;rw[swpG_is exk1.out exj.out]at hK;obtain⟨E2,hE2⟩:∃z,Hid (swpG E1 k j=z):=⟨_,hid rfl⟩;rw[hE2.out]at hK;obtain⟨ss2,hss2⟩:∃z,Hid ((ss1.set k (⟨(some ⟨gsj,0,none⟩),(n+1),sj_c⟩)).set j (⟨sk_p,sk_l,sk_c⟩)=z):=⟨_,hid rfl⟩;rw[hss2.out]at hK;have hR2:=hid (hE2.out▸hR.out.swp (show k<n by omega) (show j<n by omega));have hE2l:=hid hR2.out.1;have hL2:Hid (LmE 149 E2):=hid (hE2.out▸(hLk.out.swp (k:=k) (p:=j) (by have q:=hE1.out;omega) (by have q:=hE1.out;omega)).up (Nat.le_trans (limN_mono (show k<=3 by omega)) (by decide)));obtain⟨xk,exk⟩:∃z0,Hid (E2[k]?=some z0):=⟨_,hid (List.getElem?_eq_getElem (by have q:=hE2l.out;omega))⟩;have hrk:=hid (hR2.out.row exk.out);have i25:k<n:=(by omega);have l25:k<ss2.length:=Nat.lt_of_lt_of_eq i25 (hK.len m2);obtain⟨tk,etk⟩:=gtH l25;obtain⟨tk_p,tk_l,tk_c⟩:=tk;obtain⟨⟨gtk,rfl⟩,rfl⟩:=rs_open (hK.get m0) etk.out exk.out hrk.out;have i26:k<n+1:=by omega
    have l26:k<xk.length:=by have q:=hrk.out;omega
    obtain⟨xkk,exkk⟩:=gtH l26;have hkk:xkk≠0:=by{have q:=swp_kk (eq:=E1) (k:=k) (p:=j) (by have q:=hE1.out;omega) (by have q:=hE1.out;omega);rw[hE2.out,atG_of exk.out exkk.out]at q;rw[q];exact hj9.out}
    have hlkk:=hid (hL2.out xk (List.mem_of_getElem? exk.out) xkk (List.mem_of_getElem? exkk.out));have hgk:=hid (show xk.getD k 0=xkk by rw[List.getD_eq_getElem?_getD,exkk.out];rfl);rw[show E2=clrN k E2 0 from clrN_zero.symm]at hK;go_wp2_with fail;go_loopw [8] (fun s8 wl=> ∃(i:Nat),s8=.int .i64 (i:Int)/\(i<=n)/\SS V ((rO slcR 26 (some ⟨g,0,none⟩) n c ss2)::(rsF refK 34 ss2 (clrN k E2 i))::l) wl) (fun s8 _=>n-(intOf s8).toNat)
    case atStart=>exact⟨0,rfl,(by omega),(hK.subl (sK2 (sC2 (List.Sublist.refl _)))).up1⟩
    clear hK;obtain⟨i,rfl,hi0,hK⟩:=hrel;generalize wr=W27 at hK⊢;go_upto_region 11 with(fail);refine wp_region_T [0,0,0] hK ?_;clear hK
    iterate 2 refine e0 ?_
    refine eB (decide (((i:Int))<((n:Int)))) (fun b3 hb3=>?_);refine sxEnd (fun W28 hK=>?_)
    cases b3
    . --
     have q_b3:=nlt hb3;have hie:i=n:=(by omega);rw[hie]at hK;clear hie
     (try go_wp2)
     go_roundw
     case rel=>exact⟨k+1,ss2,(clrN k E2 n),(by first|rfl|go_num),(by omega),hid (by rw[<-hE2.out];exact runG_step h_E.out (pivG_is h_z.out hj0 hjn hj9.out) hjn),hK⟩
     case measure=>simp[intOf]<;>omega
    have q_b3:=ylt hb3
    rcases Classical.em (i=k)with hik|hik
    . --
     replace hik:=hid hik;go_upto_region 13 with(fail);refine wp_region_T [0,0,0,0,0,0,0,0,0,0,0,0,0,0] hK ?_;clear hK
     iterate 2 refine e0 ?_
     refine eV (.bool true) (fun w'=>by go_simp;(try go_bits);exact⟨congrArg Value.bool (by simp;have q:=hik.out;omega),rfl⟩) ?_;refine e0 ?_
     iterate 9 refine eN ?_
     refine e0 ?_;refine sxEnd (fun W29 hK=>?_);rw[show clrN k E2 i=clrN k E2 (i+1)from(by rw[hik.out];exact clrN_same.symm)]at hK
     (try go_wp2)
     go_roundw
     case rel=>exact⟨i+1,(by first|rfl|go_num),(by omega),hK⟩
     case measure=>simp[intOf]<;>omega
    obtain⟨xi,exi⟩:∃z0,Hid (E2[i]?=some z0):=⟨_,hid (List.getElem?_eq_getElem (by have q:=hE2l.out;omega))⟩;have hri:=hid (hR2.out.row exi.out);have eci:=hid (clrN_get (k:=k) (.inl (Nat.le_refl i)) exi.out);have eck:=hid (clrN_get (m:=i) (.inr rfl) exk.out);have i30:i<n:=(by omega);have l30:i<ss2.length:=Nat.lt_of_lt_of_eq i30 (hK.len m0);obtain⟨si,esi⟩:=gtH l30;obtain⟨si_p,si_l,si_c⟩:=si;obtain⟨⟨gsi,rfl⟩,rfl⟩:=rs_open (hK.get m1) esi.out eci.out hri.out;have i31:k<n+1:=by omega
    have l31:k<xi.length:=by have q:=hri.out;omega
    obtain⟨xik,exik⟩:=gtH l31;have hgi:=hid (show xi.getD k 0=xik by rw[List.getD_eq_getElem?_getD,exik.out];rfl);have hlen:=hid (hri.out.trans hrk.out.symm);go_upto_region 13 with(fail);refine wp_region_T [0,0,0,0,0,0,0,1,0,0,2,1,0,0] hK ?_;clear hK
    iterate 2 refine e0 ?_
    refine eV (.bool false) (fun w'=>by go_simp;(try go_bits);exact⟨congrArg Value.bool (by simp;omega),rfl⟩) ?_
    iterate 4 refine e0 ?_
    refine eR (fun w k=>(k.own m0).slc esi.out) ?_
    iterate 2 refine e0 ?_
    refine eRrS m1 esi.out eci.out exik.out (fun x32=>?_);obtain⟨⟨p32,l32,c32⟩,⟨q32,u32,d32⟩⟩:=x32;dsimp only;obtain⟨z2,hz2⟩:=nmI (sgQ (xik));refine eQ (v:=.int .i64 z2) (fun w k=>rsign_q _ _ w (k.rq m0)) ?_ (hv:=by rw[hz2.out]);refine eB (z2==0) (fun b4 hb4=>?_);refine e0 ?_;refine sxEnd (fun W33 hK=>?_)
    cases b4
    . --
     have hxn:xik≠0:=fun e=>by{have q:=hb4.out;rw[<-hz2.out,sgQ_zero.2 e]at q;simp at q}
     have hlik:=hid (hL2.out xi (List.mem_of_getElem? exi.out) xik (List.mem_of_getElem? exik.out));have hki:k≠i:=fun e=>hik e.symm
     replace hK:=hK.up2;replace hK:=hK.rsOut esi.out eci.out;dsimp only at hK;obtain⟨⟨⟨p34,l34,c34⟩,⟨q34,u34,d34⟩⟩,hK⟩:=hK.toK exik.out;go_upto_region 14 with(fail);refine wp_region_S _ [0,0,0,0,0,0,0,0,0,0,0,0,0,2,2,0,0,0,3,4,0] hK ?_ (List.Sublist.refl _);clear hK
     iterate 3 refine e0 ?_
     refine eR0 (fun w k=>(k.own m4).slc esi.out) ?_
     iterate 2 refine e0 ?_
     refine eRm0 (F:=(rK 34 gsi (n+1) si_c xi k ⟨⟨p34,l34,c34⟩,⟨q34,u34,d34⟩⟩ xik).F) (fun w k=>k.get m0) (h1:=by intro w' k;obtain⟨_,_,c0,c1,c2⟩:=k;(try simp at c0 c1 c2);go_simp;(try go_bits);exact⟨rfl,rfl⟩) ?_
     iterate 3 refine e0 ?_
     refine eR0 (fun w k=>(k.own m4).slc etk.out) ?_
     iterate 2 refine e0 ?_
     refine eRrS m2 (ers_at etk.out hki) (ers_at eck.out hki) exkk.out (fun x35=>?_);obtain⟨⟨p35,l35,c35⟩,⟨q35,u35,d35⟩⟩:=x35;dsimp only;refine eC (fun w k=>ref2_S (rdiv_q _ _ _ _ w (k.rq m2) (k.rq m0) hlik.out hlkk.out (by first|decide|omega))) (fun x36=>?_);obtain⟨⟨p37,l37,c37⟩,⟨q37,u37,d37⟩⟩:=x36;dsimp only;generalize (if xkk=0 then(10:Int)else 0)=z37e
     iterate 3 refine e0 ?_
     refine eA (.cells #[.bool false,.slice none 0 0,.slice none 0 0] 34) (fun R38=>?_);refine eP 0 0 [.bool (isN (xik/xkk)),.slice p37 l37 c37,.slice q37 u37 d37] ?_ (hs:=(sC2 (sC2 (sC2 (List.Sublist.refl _)))));refine e0 ?_;refine sxEnd (fun W39 hK=>?_);replace hK:=hK.up3;replace hK:=hK.unK;rw[show xi=subC (xik/xkk) xk xi 0 from subC_zero.symm]at hK;have hlf:LmQ 298 (xik/xkk):=hlik.out.div hlkk.out hkk;go_wp2_with fail;go_loopw [11] (fun s11 wl=> ∃(cc:Nat),s11=.int .i64 (cc:Int)/\(cc<=n+1)/\SS V ((rO slcR 26 (some ⟨g,0,none⟩) n c ss2)::(rO refK 34 (some ⟨gsi,0,none⟩) (n+1) si_c (subC (xik/xkk) xk xi cc))::(rsF refK 34 (ss2.eraseIdx i) ((clrN k E2 i).eraseIdx i))::(bx R38 (.cells #[.bool (isN (xik/xkk)),.slice p37 l37 c37,.slice q37 u37 d37] 34))::(rF (.agg #[.bool (isN (xik/xkk)),.slice p37 l37 c37,.slice q37 u37 d37]) (xik/xkk))::l) wl) (fun s11 _=>n+1-(intOf s11).toNat)
     case atStart=>exact⟨0,rfl,(by omega),(hK.subl (sK2 (sK2 (sK2 (sC2 (sC2 (sK2 (sC2 (List.Sublist.refl _))))))))).up2.up2.up3.up3.up4⟩
     clear hK;obtain⟨cc,rfl,hcc,hK⟩:=hrel;generalize wr=W40 at hK⊢;go_upto_region 16 with(fail);refine wp_region_T [0,0,0] hK ?_;clear hK
     iterate 2 refine e0 ?_
     refine eB (decide (((cc:Int))<=((n:Int)))) (fun b5 hb5=>?_);refine sxEnd (fun W41 hK=>?_)
     cases b5
     . --
      have q_b5:=nle hb5;have hce:cc=n+1:=(by omega);rw[hce]at hK;clear hce;rw[show subC (xik/xkk) xk xi (n+1)=subG (xik/xkk) xk xi from(by have q:=subC_all (f:=xik/xkk) hlen.out;rwa [hri.out]at q)]at hK;replace hK:=hK.up2;replace hK:=hK.up2;replace hK:=SS.rsIn (s:=⟨some ⟨gsi,0,none⟩,n+1,si_c⟩) hK esi.out (by rw[clrN_len];have q:=hE2l.out;omega);rw[show(clrN k E2 i).set i (subG (xik/xkk) xk xi)=clrN k E2 (i+1)from(by have q:=clrN_put (i:=i) exi.out exk.out hik (by rw[hgi.out];exact hxn);rwa [hgi.out,hgk.out]at q)]at hK
      (try go_wp2)
      go_roundw
      case rel=>exact⟨i+1,(by first|rfl|go_num),(by omega),(hK.subl (sK2 (sK2 (sC2 (sC2 (List.Sublist.refl _)))))).up1⟩
      case measure=>simp[intOf]<;>omega
     have q_b5:=ylt hb5;have hsl:=hid ((subC_len (f:=xik/xkk) hlen.out cc).trans hri.out);have i42:cc<n+1:=by omega
     have l42:cc<(subC (xik/xkk) xk xi cc).length:=by have q:=hsl.out;omega
     obtain⟨xic,exic⟩:=gtH l42;have lic:cc<(subC (xik/xkk) xk xi cc).length:=l42;have exic2:=hid ((subC_at (f:=xik/xkk) hlen.out (Nat.le_refl cc) (by have q:=hri.out;omega)).symm.trans exic.out);have i43:cc<n+1:=by omega
     have l43:cc<xk.length:=by have q:=hrk.out;omega
     obtain⟨xkc,exkc⟩:=gtH l43;have hlic:=hid (hL2.out xi (List.mem_of_getElem? exi.out) xic (List.mem_of_getElem? exic2.out));have hlkc:=hid (hL2.out xk (List.mem_of_getElem? exk.out) xkc (List.mem_of_getElem? exkc.out));replace hK:=hK.up1;obtain⟨⟨⟨p44,l44,c44⟩,⟨q44,u44,d44⟩⟩,hK⟩:=hK.toK exic.out;go_upto_region 18 with(fail);refine wp_region_S _ [0,0,0,0,0,0,0,0,0,0,0,1,0,0,0,0,0,0,0,2,2,2,0,4] hK ?_ (sC2 (List.Sublist.refl _));clear hK
     iterate 3 refine e0 ?_
     refine eR0 (fun w k=>(k.own m1).slc esi.out) ?_
     iterate 4 refine e0 ?_
     refine eR0 (fun w k=>(k.own m1).slc esi.out) ?_
     iterate 2 refine e0 ?_
     refine eRm (F:=(rK 34 gsi (n+1) si_c (subC (xik/xkk) xk xi cc) cc ⟨⟨p44,l44,c44⟩,⟨q44,u44,d44⟩⟩ xic).F) (fun w k=>k.get m0) (h1:=by intro w' k;obtain⟨_,_,c0,c1,c2⟩:=k;(try simp at c0 c1 c2);go_simp;(try go_bits);exact⟨rfl,rfl⟩) ?_;refine eL0 m3 ?_
     iterate 3 refine e0 ?_
     refine eR0 (fun w k=>(k.own m1).slc etk.out) ?_
     iterate 2 refine e0 ?_
     refine eRrS m3 (ers_at etk.out hki) (ers_at eck.out hki) exkc.out (fun x45=>?_);obtain⟨⟨p45,l45,c45⟩,⟨q45,u45,d45⟩⟩:=x45;dsimp only;refine eC (fun w k=>ref_S (rmul_q _ _ _ _ w (k.rq m6) (k.rq m0) (hlf.up (show 298<=298 by decide)) (hlkc.out.up (by decide)) (by first|decide|omega))) (fun x46=>?_);obtain⟨⟨p47,l47,c47⟩,⟨q47,u47,d47⟩⟩:=x46;dsimp only;refine eC (fun w k=>ref_S (rsub_q _ _ _ _ w (k.rq m3) (k.rq m0) (hlic.out.up (show 149<=600 by decide)) ((LmQ.mul hlf hlkc.out).up (by decide)) (by first|decide|omega))) (fun x48=>?_);obtain⟨⟨p49,l49,c49⟩,⟨q49,u49,d49⟩⟩:=x48;dsimp only;refine e0 ?_;refine eWK (y:=(xic-((xik/xkk)*xkc))) 3 lic m0 ?_ (hi:=rfl) (hs:=(sC2 (sC2 (sC2 (sC2 (List.Sublist.refl _))))));refine sxEnd (fun W50 hK=>?_);rw[show(subC (xik/xkk) xk xi cc).set cc (xic-((xik/xkk)*xkc))=subC (xik/xkk) xk xi (cc+1)from(subC_step hlen.out exic2.out exkc.out)]at hK
     (try go_wp2)
     go_roundw
     case rel=>exact⟨cc+1,(by first|rfl|go_num),(by omega),(hK.subl (sC2 (sC2 (sC2 (sK2 (sC2 (List.Sublist.refl _))))))).up4.up4.up4.up3.up4⟩
     case measure=>simp[intOf]<;>omega
    have hx0:xik=0:=sgQ_zero.1 (hz2.out.trans (by have q:=hb4.out;simpa using q));rw[show clrN k E2 i=clrN k E2 (i+1)from(clrN_zer exi.out (by rw[hgi.out];exact hx0)).symm]at hK
    (try go_wp2)
    go_roundw
    case rel=>exact⟨i+1,(by first|rfl|go_num),(by omega),(hK.subl (sC2 (List.Sublist.refl _)))⟩
    case measure=>simp[intOf]<;>omega
   have hx0:xjk=0:=sgQ_zero.1 (hz1.out.trans (by have q:=hb2.out;simpa using q))
   (try go_wp2)
   go_roundw
   case rel=>exact⟨j+1,(by first|rfl|go_num),(by omega),(by omega),hid (fun i a b=>by{rcases Nat.lt_or_ge i j with q|q;exact h_z.out i a q;rw[show i=j by omega];exact(atG_of exj.out exjk.out).trans hx0}),(hK.subl (sC2 (List.Sublist.refl _)))⟩
   case measure=>simp[intOf]<;>omega
  go_upto_region 5 with(fail);refine wp_region_T [0,0,0,0,0,0,0,0,0,0,0,0,0,0] hK ?_;clear hK
  iterate 2 refine e0 ?_
  refine eV (.bool false) (fun w'=>by go_simp;(try go_bits);first|exact⟨rfl,rfl⟩|exact⟨congrArg Value.bool (by simp;omega),rfl⟩) ?_;refine e0 ?_
  iterate 9 refine eN ?_
  refine e0 ?_;refine sxEnd (fun W51 hK=>?_);go_upto_region 7 with(fail);refine wp_region_T [0,0,0] hK ?_;clear hK
  iterate 2 refine e0 ?_
  refine eV (.bool true) (fun w'=>by go_simp;(try go_bits);first|exact⟨rfl,rfl⟩|exact⟨congrArg Value.bool (by simp;omega),rfl⟩) ?_;refine sxEnd (fun W52 hK=>?_);have hno:solG n E=none:=solG_no h_E.out (pivG_n (fun i a b=>h_z.out i a (by omega))) (by omega);replace hK:=hK.fact (rO refK 34 none 0 0 ([]:List Rat)) OwV.nil (fun _ h=>by cases h);replace hK:=hK.subl (sK2 (sC2 (sC2 (List.Sublist.refl _))));go_wp2
  try go_ret
  show Q0 (.returned (.tuple #[.slice none 0 0,.bool false])) _
  exact(by obtain rfl:=hQ0.out;rw[hno];exact⟨⟨none,0,0⟩,rfl,hK⟩)
end Go.Proofs.YtjhaedfpigebdaaGreatDoor
namespace Go.Proofs.YtjhaedfpigebdaaGreatDoor
open Go.RowKit
open Go.Lib (decDigits)
theorem bitsG_succ(i s:Nat):bitsG (i+1) s=bitsG i s++(if s.testBit i=true then[i]else[]):=by
  unfold bitsG;rw[List.range_succ,List.filter_append]
  congr 1
  cases h:s.testBit i<;>simp[h]
theorem and_one{n:Nat}(h:n<=512):bits .and .i64 (n:Int) 1=((n%2:Nat):Int):=by
  unfold bits
  have e:(BitVec.ofInt IntKind.i64.bits (n:Int)&&&BitVec.ofInt IntKind.i64.bits 1).toNat=n%2:=by
    rw[BitVec.toNat_and]
    show(BitVec.ofInt 64 (n:Int)).toNat&&&(BitVec.ofInt 64 1).toNat=_
    rw[BitVec.ofInt_natCast,BitVec.toNat_ofNat,show(BitVec.ofInt 64 1).toNat=1 from rfl,Nat.mod_eq_of_lt (by omega),Nat.and_one_is_mod]
  dsimp only;rw[e]
  rcases Nat.mod_two_eq_zero_or_one n with h|h<;>rw[h]<;>rfl
theorem and_bit{s i:Nat}(h:s<=512):bits .and .i64 ((s:Int)/2^i) 1=(((s.testBit i).toNat:Nat):Int):=by
  have e:((s:Int)/2^i)=((s/2^i:Nat):Int):=by simp
  rw[e,and_one (Nat.le_trans (Nat.div_le_self _ _) h),Nat.toNat_testBit]
theorem bitsG_len(i s:Nat):(bitsG i s).length<=i:=by unfold bitsG;exact Nat.le_trans (List.length_filter_le _ _) (by simp)
theorem bits_yes{P:LPd}{i s:Nat}(h:s.testBit i=true):(bitsG i s).map (tgtG P)++[tgtG P i]=(bitsG (i+1) s).map (tgtG P):=by
  rw[bitsG_succ,if_pos h,List.map_append];rfl
theorem bits_no{P:LPd}{i s:Nat}(h:s.testBit i=false):(bitsG i s).map (tgtG P)=(bitsG (i+1) s).map (tgtG P):=by
  rw[bitsG_succ,h,if_neg (by decide),List.append_nil]
section
variable {P:LPd}{s n:Nat}{v q:Rat}{xs:List Rat}{eq:List (List Rat)}
theorem tight_row(hP:P.Ok):∀i,i<P.A.length->(P.A.getD i []).length=P.c.length:=fun i hi=>hP.ha _ (by rw[List.getD_eq_getElem?_getD,List.getElem?_eq_getElem hi];exact List.getElem_mem hi)
theorem LmP.up{k m:Nat}(h:LmP k P)(hk:k<=m):LmP m P:=⟨h.c.up hk,fun r hr=>(h.a r hr).up hk,h.b.up hk,h.n,h.m⟩
theorem tgt_lm(hm:LmP 2 P)(i:Nat):LmL 2 (tgtG P i):=fun x hx=>by
  unfold tgtG at hx
  split at hx
  . rename_i hi
    rcases List.mem_append.1 hx with h|h
    . exact hm.a _ (by rw[List.getD_eq_getElem?_getD,List.getElem?_eq_getElem hi];exact List.getElem_mem hi) x h
    rw[List.mem_singleton.1 h]
    by_cases hb:i<P.b.length
    . exact hm.b _ (by rw[List.getD_eq_getElem?_getD,List.getElem?_eq_getElem hb];exact List.getElem_mem hb)
    rw[List.getD_eq_getElem?_getD,List.getElem?_eq_none (by omega)];exact LmQ.nil0.up (by decide)
  rcases List.mem_or_eq_of_mem_set hx with h|rfl
  . rw[(List.mem_replicate.1 h).2];exact LmQ.nil0.up (by decide)
  exact LmQ.int1.up (by decide)
theorem eqs_rec(hP:P.Ok)(h:(eqsG P s).length=P.c.length):RecG P.c.length (eqsG P s):=⟨h,fun r hr=>by
  obtain⟨i,_,rfl⟩:=List.mem_map.1 hr;exact tgt_len hP⟩
theorem eqs_lm(hm:LmP 2 P):LmE 2 (eqsG P s):=fun r hr=>by
  obtain⟨i,_,rfl⟩:=List.mem_map.1 hr;exact tgt_lm hm i
theorem sol_some(h:(solG n eq).isSome=true)(hx:(solG n eq).getD []=xs):solG n eq=some xs:=by
  cases hs:solG n eq with
  |none=>rw[hs]at h;cases h
  |some x=>rw[hs]at hx;exact congrArg some hx
theorem sol_none(h:(solG n eq).isSome=false):solG n eq=none:=by
  cases hs:solG n eq with
  |none=>rfl
  |some x=>rw[hs]at h;cases h
theorem solD_lm(h:RecG n eq)(hl:LmE 2 eq)(hn:n<=4):LmL 1194 ((solG n eq).getD []):=by
  cases hs:solG n eq with
  |none=>exact fun x hx=>absurd hx List.not_mem_nil
  |some x=>exact solG_lm h hl hn hs
theorem solD_len(h:RecG n eq):((solG n eq).getD []).length<=n:=by
  cases hs:solG n eq with
  |none=>exact Nat.zero_le _
  |some x=>exact Nat.le_of_eq (solG_some h hs).1
theorem vtx_no1(h:(eqsG P s).length≠P.c.length):vtxG P s=none:=by unfold vtxG;rw[if_neg h]
theorem vtx_no2(h:solG P.c.length (eqsG P s)=none):vtxG P s=none:=by unfold vtxG;rw[h];split<;>rfl
theorem vtx_no3(h:solG P.c.length (eqsG P s)=some xs)(hf:feaB P xs=false):vtxG P s=none:=by unfold vtxG;rw[h];dsimp only;rw[hf];split<;>rfl
theorem vtx_yes(h1:(eqsG P s).length=P.c.length)(h:solG P.c.length (eqsG P s)=some xs)(hf:feaB P xs=true):vtxG P s=some (dotQ P.c xs):=by unfold vtxG;rw[if_pos h1,h];dsimp only;rw[if_pos hf]
theorem bst_no(h:vtxG P s=none):bstG P (s+1)=bstG P s:=by rw[bstG,h]
theorem bst_new(h:vtxG P s=some v)(hf:(bstG P s).isSome=false):bstG P (s+1)=some v:=by
  rw[bstG,h]
  cases hs:bstG P s with
  |none=>rfl
  |some x=>rw[hs]at hf;cases hf
theorem bst_up(h:vtxG P s=some v)(hf:(bstG P s).isSome=true)(hq:(bstG P s).getD 0=q)(hl:q<v):bstG P (s+1)=some v:=by
  rw[bstG,h]
  cases hs:bstG P s with
  |none=>exact absurd hf (by rw[hs];decide)
  |some x=>rw[hs]at hq;dsimp only;rw[if_pos (show x<v from(show x=q from hq)▸hl)]
theorem bst_keep(h:vtxG P s=some v)(hf:(bstG P s).isSome=true)(hq:(bstG P s).getD 0=q)(hl:¬q<v):bstG P (s+1)=bstG P s:=by
  rw[bstG,h]
  cases hs:bstG P s with
  |none=>exact absurd hf (by rw[hs];decide)
  |some x=>rw[hs]at hq;dsimp only;rw[if_neg (show ¬x<v from(show x=q from hq)▸hl)]
theorem vtx_lm(hm:LmP 2 P)(hP:P.Ok)(hn:P.c.length<=4)(h:vtxG P s=some v):LmQ 9999 v:=by
  unfold vtxG at h
  split at h
  . rename_i he
    cases hs:solG P.c.length (eqsG P s)with
    |none=>rw[hs]at h;cases h
    | some x=>
      rw[hs]at h;dsimp only at h
      split at h
      . injection h with h
        subst h;exact(dotQ_lm (hm.up (m:=1194) (by decide)).c (solG_lm (eqs_rec hP he) (eqs_lm hm) hn hs)).up (Nat.le_trans (Nat.succ_le_succ (Nat.mul_le_mul_left _ hn)) (by decide))
      cases h
  cases h
theorem bst_lm(hm:LmP 2 P)(hP:P.Ok)(hn:P.c.length<=4):LmQ 9999 ((bstG P s).getD 0):=by
  cases hs:bstG P s with
  |none=>exact LmQ.nil0.up (by decide)
  | some b=>
    obtain⟨⟨t,_,ht⟩,_⟩:=bst_some hs;exact vtx_lm hm hP hn ht
theorem gt9{x y:Rat}{z:Int}(hz:sgQ (x-y)=z)(h:0<z):y<x:=Rat.not_le.1 (gt_of_sg hz h)
theorem ngt9{x y:Rat}{z:Int}(hz:sgQ (x-y)=z)(h:z<=0):¬y<x:=Rat.not_lt.2 (le_of_sg hz h)
end
set_option maxRecDepth 100000 in
set_option maxHeartbeats 400000 in
theorem rfeasN_any(w:World){cp ap bp:Option Addr}{cl cc al ac bl bc:Nat}{P:LPd}{p_h1:Option Addr}{n_h1 c_h1:Nat}{x:List Rat}(hh1:SlV refK w (.slice p_h1 n_h1 c_h1) x)(hC:SlV refK w (.slice cp cl cc) P.c)(hA:SlV rfK w (.slice ap al ac) P.A)(hB:SlV refK w (.slice bp bl bc) P.b){k:Nat}(hk:(k+k+1)*P.c.length+1<=9999)(hm:LmP k P)(hP:P.Ok)(hk2:k<=4000)(hb1:n_h1<=100000)(hx:LmL k x):
    Calls Tryz.prog 17 #[.agg #[.slice cp cl cc,.slice ap al ac,.slice bp bl bc],.slice p_h1 n_h1 c_h1] w fun e w'=>e=.returned (.bool (feaB P x))/\Below w.heap.size w w':=by
  have hK:=SS.start w;have⟨nc1,nc2⟩:=lle hC.one0;have⟨na1,na2⟩:=lle hA.one0;have⟨nb1,nb2⟩:=lle hB.one0;have hn12:=hm.n;have hm12:=hm.m;have hPb:=hP.hb;have⟨nr1,nr2⟩:=lle hh1.one0;refine Calls.hide (fun Q0 hQ0=>?_);go_enter Tryz.func17,Tryz.ntmps17;go_upto_region 0 with(fail);refine wp_region_T [3,0] hK ?_;clear hK;refine eA (.cells #[.slice cp cl cc,.slice ap al ac,.slice bp bl bc] 29) (fun R1=>?_);refine e0 ?_;refine sxEnd (fun W2 hK=>?_);go_upto_region 1 with(fail);refine wp_region_T [0,0,0,1,0,0,0,0,1,0,0] hK ?_;clear hK
  iterate 3 refine e0 ?_
  refine eL m0 ?_;refine e0 ?_;refine eB (((n_h1:Int)) !=((cl:Int))) (fun b1 hb1=>?_);refine e0 ?_
  cases b1
  . --
   refine e0 ?_;obtain⟨b2,hb2⟩:=nmB (nnB x);refine eQ (v:=.bool b2) (fun w k=>rpositive_any w (hh1.below k.old) (by omega)) ?_ (hv:=by rw[hb2.out])
   iterate 2 refine e0 ?_
   refine sxEnd (fun W3 hK=>?_)
   cases b2
   . --
    go_wp2
    try go_ret
    show Q0 (.returned (.bool false)) _
    exact(qo hQ0 ⟨(by unfold feaB;rw[hb2.out];simp),hK.old⟩)
   have hxe:=hid (show x.length=P.c.length from(by have qb1:=hb1.out;(try simp at qb1);have qb2:=hb2.out;(try simp at qb2);omega));go_upto_region 3 with(fail);refine wp_region_T [0] hK ?_;clear hK;refine e0 ?_;refine sxEnd (fun W4 hK=>?_);go_wp2_with fail;go_loopw [5] (fun s5 wl=> ∃(m:Nat),s5=.int .i64 (m:Int)/\(m<=al)/\Hid (allN (feaP P x) m=true)/\SS w ([bx R1 (.cells #[.slice cp cl cc,.slice ap al ac,.slice bp bl bc] 29)]) wl) (fun s5 _=>al-(intOf s5).toNat)
   case atStart=>exact⟨0,rfl,(by omega),hid rfl,hK⟩
   clear hK;obtain⟨m,rfl,hm0,h_o,hK⟩:=hrel;generalize wr=W5 at hK⊢;go_upto_region 4 with(fail);refine wp_region_T [0,0,1,0,0] hK ?_;clear hK
   iterate 2 refine e0 ?_
   refine eL m0 ?_;refine e0 ?_;refine eB (decide (((m:Int))<((al:Int)))) (fun b3 hb3=>?_);refine sxEnd (fun W6 hK=>?_)
   cases b3
   . --
    have q_b3:=nlt hb3;go_wp2
    try go_ret
    show Q0 (.returned (.bool true)) _
    exact(qo hQ0 ⟨(by unfold feaB;rw[show P.A.length=m from(by omega),h_o.out,hb2.out,decide_eq_true hxe.out];rfl),hK.old⟩)
   have q_b3:=ylt hb3;have i7:m<al:=(by omega);obtain⟨g7,o7,rfl⟩:=hA.pt i7;have l7:m<P.A.length:=Nat.lt_of_lt_of_eq i7 (hA.one0);obtain⟨a,ea⟩:=gtH l7;obtain⟨⟨a_p,a_l,a_c⟩,a_h,a_s⟩:=hA.row ea.out;dsimp only at a_h a_s;have a_n:=hid a_s.one0;have⟨a_n1,a_n2⟩:=lle a_n.out;have hal:=hid (hP.ha a (List.mem_of_getElem? ea.out));have hal1:=hal.out;have ham:=hm.a a (List.mem_of_getElem? ea.out);have i8:m<bl:=(by omega);obtain⟨g8,o8,rfl⟩:=hB.pt i8;have l8:m<P.b.length:=Nat.lt_of_lt_of_eq i8 (hB.one0);obtain⟨xb,exb⟩:=gtH l8;obtain⟨_,_,_,xb_c,xb_r⟩:=hB.ref exb.out;obtain⟨rfl,⟨xb_p,xb_n,xb_d,rfl⟩,xb_q,xb_m,xb_e,rfl⟩:=refR_cells xb_r;have hxb:=hm.b xb (List.mem_of_getElem? exb.out);go_upto_region 6 with(fail);refine wp_region_S _ [0,0,0,0,0,0,2,0,0,0,0,0,1,0] hK ?_ (List.Sublist.refl _);clear hK;refine e0 ?_;refine eL0 m0 ?_
   iterate 2 refine e0 ?_
   refine eR0 (fun w k=>celB a_h k.old) ?_;refine e0 ?_;refine eC (fun w k=>rdot_any w (a_s.below k.old) (hh1.below k.old) (by omega) (by omega) ham hx (by rw[hal.out];exact hk) hk2) (fun x9=>?_);obtain⟨⟨p10,l10,c10⟩,⟨q10,u10,d10⟩⟩:=x9;dsimp only;refine e0 ?_;refine eL0 m0 ?_
   iterate 2 refine e0 ?_
   refine eRm3 (fun w k=>xb_c.below k.old) ?_;obtain⟨z1,hz1⟩:=nmI (sgQ ((dotQ a x)-xb));refine eQ (v:=.int .i64 z1) (fun w k=>rcmp_q _ _ _ _ w (k.rq m0) (xb_r.below k.old) ((dotQ_lm ham hx).up (by rw[hal.out];exact hk)) (hxb.up (by omega)) (by first|decide|omega)) ?_ (hv:=by rw[hz1.out]);refine eB (decide (0<z1)) (fun b4 hb4=>?_);refine sxEnd (fun W11 hK=>?_)
   cases b4
   . --
    have q_b4:=nlt hb4
    (try go_wp2)
    go_roundw
    case rel=>exact⟨m+1,(by first|rfl|go_num),(by omega),hid (allN_step h_o.out (by unfold feaP;rw[getD_of ea.out,getD_of exb.out];exact decide_eq_true (le_of_sg hz1.out q_b4))),(hK.subl (sC2 (List.Sublist.refl _)))⟩
    case measure=>simp[intOf]<;>omega
   have q_b4:=ylt hb4;go_wp2
   try go_ret
   show Q0 (.returned (.bool false)) _
   exact(qo hQ0 ⟨(by unfold feaB;rw[allN_no (k:=m) (by omega) (by unfold feaP;rw[getD_of ea.out,getD_of exb.out];exact decide_eq_false (gt_of_sg hz1.out q_b4))];simp),hK.old⟩)
  iterate 3 refine eN ?_
  refine e0 ?_;refine sxEnd (fun W12 hK=>?_);go_wp2
  try go_ret
  show Q0 (.returned (.bool false)) _
  exact(by obtain rfl:=hQ0.out;exact⟨(by unfold feaB;rw[decide_eq_false (show ¬x.length=P.c.length from(by have qb1:=hb1.out;(try simp at qb1);omega))];rfl),hK.old⟩)
set_option maxRecDepth 100000 in
set_option maxHeartbeats 4000000 in
theorem rbest_any(w:World){cp ap bp:Option Addr}{cl cc al ac bl bc:Nat}{P:LPd}(hC:SlV refK w (.slice cp cl cc) P.c)(hA:SlV rfK w (.slice ap al ac) P.A)(hB:SlV refK w (.slice bp bl bc) P.b)(hm2:LmP 2 P)(hP:P.Ok)(hn1:1<=P.c.length)(hn4:P.c.length<=4)(hm5:P.A.length<=5):
    Calls Tryz.prog 14 #[.agg #[.slice cp cl cc,.slice ap al ac,.slice bp bl bc]] w fun e w'=> ∃x:Duo Sl Sl,e=.returned (.tuple #[.agg #[.bool (isN ((bstG P (2^(P.A.length+P.c.length))).getD 0)),.slice x.a.p x.a.l x.a.c,.slice x.b.p x.b.l x.b.c],.bool (bstG P (2^(P.A.length+P.c.length))).isSome])/\SS w [rF (.agg #[.bool (isN ((bstG P (2^(P.A.length+P.c.length))).getD 0)),.slice x.a.p x.a.l x.a.c,.slice x.b.p x.b.l x.b.c]) ((bstG P (2^(P.A.length+P.c.length))).getD 0)] w':=by
  have hK:=SS.start w;obtain rfl:cl=P.c.length:=hC.one0;obtain rfl:al=P.A.length:=hA.one0;obtain⟨tt,htt⟩:∃tt,Hid (P.A.length+P.c.length=tt):=⟨_,hid rfl⟩;have ht9:tt<=9:=(by have q:=htt.out;omega);obtain⟨pw,hpw⟩:∃pw,Hid (2^tt=pw):=⟨_,hid rfl⟩;have hp1:pw<=512:=(by rw[<-hpw.out];exact Nat.le_trans (Nat.pow_le_pow_right (by decide) ht9) (by decide));have hmk:LmP 1194 P:=hm2.up (by decide);refine Calls.hide (fun Q0 hQ0=>?_);go_enter Tryz.func14,Tryz.ntmps14;go_upto_region 0 with(fail);refine wp_region_T [3,3,0] hK ?_;clear hK;refine eA (.cells #[.slice cp P.c.length cc,.slice ap P.A.length ac,.slice bp bl bc] 29) (fun R1=>?_);refine eA (.cells #[.bool false,.slice none 0 0,.slice none 0 0] 34) (fun R2=>?_);refine e0 ?_;refine sxEnd (fun W3 hK=>?_);go_upto_region 1 with(fail);refine wp_region_S _ [0,0,0,0,0,0,0,0,0,0,0,0] hK ?_ (List.Sublist.refl _);clear hK;refine e0 ?_;refine eL0 m1 ?_
  iterate 2 refine e0 ?_
  refine eL0 m1 ?_
  iterate 2 refine e0 ?_
  refine eL0 m1 ?_;refine e0 ?_;refine eV (.int .i64 (tt:Int)) (fun w'=>by go_simp;(try go_bits);exact⟨congrArg _ (by have q:=htt.out;omega),rfl⟩) ?_
  iterate 2 refine e0 ?_
  refine sxEnd (fun W4 hK=>?_);go_upto_region 2 with(fail);refine wp_region_T [0,3,4,0] hK ?_;clear hK;refine e0 ?_;refine eA (.cells #[.bool false,.slice none 0 0,.slice none 0 0] 34) (fun R5=>?_);refine eP 0 0 [.bool false,.slice none 0 0,.slice none 0 0] ?_;refine e0 ?_;refine sxEnd (fun W6 hK=>?_);replace hK:=hK.fact (rF (.agg #[.bool false,.slice none 0 0,.slice none 0 0]) (0:Rat)) (refR0 _);go_wp2_with fail;go_loopw [8,7] (fun s8 s7 wl=> ∃(set:Nat) (fb:Bool) (q:Rat) (n6:Bool) (p6:Option Addr) (l6:Nat) (c6:Nat) (q6:Option Addr) (u6:Nat) (d6:Nat),s8=.int .i64 (set:Int)/\s7=.bool fb/\(set<=pw)/\Hid ((bstG P set).isSome=fb)/\Hid ((bstG P set).getD 0=q)/\SS w ([bx R1 (.cells #[.slice cp P.c.length cc,.slice ap P.A.length ac,.slice bp bl bc] 29),bx R2 (.cells #[.bool false,.slice none 0 0,.slice none 0 0] 34),bx R5 (.cells #[.bool n6,.slice p6 l6 c6,.slice q6 u6 d6] 34),rF (.agg #[.bool n6,.slice p6 l6 c6,.slice q6 u6 d6]) q]) wl) (fun s8 s7 _=>pw-(intOf s8).toNat)
  case atStart=>exact⟨0,false,(0:Rat),false,none,0,0,none,0,0,rfl,rfl,(by omega),hid rfl,hid rfl,hK.up1.up2.up3⟩
  clear hK;obtain⟨set,fb,q,n6,p6,l6,c6,q6,u6,d6,rfl,rfl,hs0,h_f,h_q,hK⟩:=hrel;generalize wr=W7 at hK⊢;go_upto_region 4 with(fail);refine wp_region_T [0,0,0,0] hK ?_;clear hK
  iterate 2 refine e0 ?_
  refine eV (.int .i64 (pw:Int)) (fun w'=>by go_simp;(try go_bits);exact⟨congrArg _ (by have q:((2:Int)^tt)=(pw:Int):=(by rw[<-hpw.out];simp);rw[q];unfold wrap64;omega),rfl⟩) ?_;refine eB (decide (((set:Int))<((pw:Int)))) (fun b1 hb1=>?_);refine sxEnd (fun W8 hK=>?_)
  cases b1
  . --
   have q_b1:=nlt hb1;go_upto_region 18 with(fail);refine wp_region_T [1,0,4,0] hK ?_;clear hK;refine eL m2 ?_;refine e0 ?_;refine eP 1 0 [.bool n6,.slice p6 l6 c6,.slice q6 u6 d6] ?_ (hq:=.inr ⟨rfl,rfl,rfl,trivial⟩);refine e0 ?_;refine sxEnd (fun W9 hK=>?_);have hse:set=2^(P.A.length+P.c.length):=(by rw[htt.out,hpw.out];omega);have hq0:=(refR_cells (hK.rq m3)).1;injection hq0 with hq0;have⟨c90,c91,c92⟩:=(hK.box m1).c3;rw[hse]at h_f h_q;replace hK:=hK.subl (sC2 (sC2 (sC2 (List.Sublist.refl _))));go_wp2;exact bodyPost_ret (v:=.tuple #[.agg #[.bool n6,.slice p6 l6 c6,.slice q6 u6 d6],.bool fb]) (by simp[results,Tryz.results14,go_sem,c90,c91,c92]) rfl (by obtain rfl:=hQ0.out;rw[h_f.out,h_q.out];subst hq0;exact⟨⟨⟨p6,l6,c6⟩,⟨q6,u6,d6⟩⟩,rfl,hK⟩)
  have q_b1:=ylt hb1;replace hK:=hK.fact (rO slcR 26 none 0 0 ([]:List Sl)) OwV.nil (fun _ h=>by cases h);replace hK:=hK.rs0 refK 34;go_wp2_with fail;go_loopw [9,10] (fun s9 s10 wl=> ∃(i:Nat) (pa:Option Addr) (na:Nat) (ca:Nat) (ss:List Sl),s9=.slice pa na ca/\s10=.int .i64 (i:Int)/\(i<=tt)/\Hid (ss.length=((bitsG i set).map (tgtG P)).length)/\Hid (ss=[]->pa=none)/\SS w ([rsF refK 34 ss ((bitsG i set).map (tgtG P)),rO slcR 26 pa na ca ss,bx R1 (.cells #[.slice cp P.c.length cc,.slice ap P.A.length ac,.slice bp bl bc] 29),bx R2 (.cells #[.bool false,.slice none 0 0,.slice none 0 0] 34),bx R5 (.cells #[.bool n6,.slice p6 l6 c6,.slice q6 u6 d6] 34),rF (.agg #[.bool n6,.slice p6 l6 c6,.slice q6 u6 d6]) q]) wl) (fun s9 s10 _=>tt-(intOf s10).toNat)
  case atStart=>exact⟨0,none,0,0,[],rfl,rfl,(by omega),hid rfl,hid (fun _=>rfl),hK⟩
  clear hK;obtain⟨i,pa,na,ca,ss,rfl,rfl,hi0,h_l,h_a,hK⟩:=hrel;generalize wr=W10 at hK⊢;go_upto_region 8 with(fail);refine wp_region_T [0,0,0] hK ?_;clear hK
  iterate 2 refine e0 ?_
  refine eB (decide (((i:Int))<((tt:Int)))) (fun b2 hb2=>?_);refine sxEnd (fun W11 hK=>?_)
  cases b2
  . --
   have q_b2:=nlt hb2;have hie:i=P.A.length+P.c.length:=(by have q:=htt.out;omega);rw[hie]at hK h_l;clear hie;rw[show(bitsG (P.A.length+P.c.length) set).map (tgtG P)=eqsG P set from rfl]at hK;replace h_l:=hid (show ss.length=(eqsG P set).length from h_l.out);have hna:=hid ((hK.len m1).trans h_l.out);go_upto_region 12 with(fail);refine wp_region_T [0,0,0,0] hK ?_;clear hK
   iterate 3 refine e0 ?_
   refine eB (((na:Int)) !=((P.c.length:Int))) (fun b3 hb3=>?_);refine sxEnd (fun W12 hK=>?_)
   cases b3
   . --
    have hnn:na=P.c.length:=(by have qb1:=hb1.out;(try simp at qb1);have qb2:=hb2.out;(try simp at qb2);have qb3:=hb3.out;(try simp at qb3);(try simp at qb9);omega);obtain rfl:=hnn;have hE9:=hid hna.out.symm;have hRg:=eqs_rec hP hE9.out;have hLg:=eqs_lm (s:=set) hm2;obtain⟨g9,rfl⟩:=hK.pt m1 (show 0<P.c.length by omega);go_upto_region 13 with(fail);refine wp_region_T [0,0,4,0,0,0,0,0] hK ?_;clear hK
    iterate 2 refine e0 ?_
    refine eM (fun w k=>rsolve_any w _ P.c.length _ (k.up1) ⟨rfl,rfl,rfl,rfl,trivial⟩ ⟨rfl,rfl,rfl,rfl,trivial⟩ hRg hn1 hn4 hLg) (fun x13=>?_);obtain⟨ps,ls,cs⟩:=x13;dsimp only;generalize hbs:(solG P.c.length (eqsG P set)).isSome=bs;replace hbs:=hid hbs
    iterate 5 refine e0 ?_
    refine sxEnd (fun W14 hK=>?_);obtain⟨xs,hxs⟩:∃xs,Hid ((solG P.c.length (eqsG P set)).getD []=xs):=⟨_,hid rfl⟩;rw[hxs.out]at hK;have hxl:LmL 1194 xs:=hxs.out▸solD_lm hRg hLg hn4;have hx4:ls<=4:=(by have q:=hK.len m0;have q2:xs.length<=P.c.length:=hxs.out▸solD_len hRg;omega);have hx5:=Nat.le_of_eq (hK.len m0);have hkc:(1194+1194+1)*P.c.length+1<=9999:=Nat.le_trans (Nat.succ_le_succ (Nat.mul_le_mul_left _ hn4)) (by decide);go_upto_region 14 with(fail);refine wp_region_T [0,0,0,1,0,1,0,0] hK ?_;clear hK
    iterate 3 refine e0 ?_
    cases bs
    . --
     iterate 4 refine eN ?_
     refine e0 ?_;refine sxEnd (fun W15 hK=>?_)
     (try go_wp2)
     go_roundw
     case rel=>exact⟨set+1,fb,q,n6,p6,l6,c6,q6,u6,d6,(by first|rfl|go_num),(by first|rfl|go_num),(by omega),hid (by rw[bst_no (vtx_no2 (sol_none hbs.out))];exact h_f.out),hid (by rw[bst_no (vtx_no2 (sol_none hbs.out))];exact h_q.out),(hK.subl (sC2 (List.Sublist.refl _)))⟩
     case measure=>simp[intOf]<;>omega
    have hsx:=hid (sol_some hbs.out hxs.out);refine eL m1 ?_;refine e0 ?_;obtain⟨b4,hb4⟩:=nmB (feaB P xs);refine eQ (v:=.bool b4) (fun w k=>rfeasN_any w (k.slv m0) (hC.below k.old) (hA.below k.old) (hB.below k.old) hkc hmk hP (by decide) (by omega) hxl) ?_ (hv:=by rw[hb4.out])
    iterate 2 refine e0 ?_
    refine sxEnd (fun W16 hK=>?_)
    cases b4
    . --
     (try go_wp2)
     go_roundw
     case rel=>exact⟨set+1,fb,q,n6,p6,l6,c6,q6,u6,d6,(by first|rfl|go_num),(by first|rfl|go_num),(by omega),hid (by rw[bst_no (vtx_no3 hsx.out (by have q:=hb4.out;simpa using q))];exact h_f.out),hid (by rw[bst_no (vtx_no3 hsx.out (by have q:=hb4.out;simpa using q))];exact h_q.out),(hK.subl (sC2 (List.Sublist.refl _)))⟩
     case measure=>simp[intOf]<;>omega
    have hvx:=hid (vtx_yes hE9.out hsx.out (by have q:=hb4.out;simpa using q));have hlq:=hid (show LmQ 9999 (dotQ P.c xs)from(dotQ_lm hmk.c hxl).up hkc);have hlb:=hid (show LmQ 9999 q from h_q.out▸bst_lm hm2 hP hn4);go_upto_region 15 with(fail);refine wp_region_T [0,1,0,2,3,4] hK ?_;clear hK;refine e0 ?_;refine eL m1 ?_;refine e0 ?_;refine eC (fun w k=>rdot_any w (hC.below k.old) (k.slv m0) (by omega) (by omega) hmk.c hxl hkc (by decide)) (fun x17=>?_);obtain⟨⟨p18,l18,c18⟩,⟨q18,u18,d18⟩⟩:=x17;dsimp only;refine eA (.cells #[.bool false,.slice none 0 0,.slice none 0 0] 34) (fun R19=>?_);refine eP 0 0 [.bool (isN (dotQ P.c xs)),.slice p18 l18 c18,.slice q18 u18 d18] ?_ (hq:=.inr ⟨rfl,rfl,rfl,rfl,rfl,rfl,trivial⟩);refine sxEnd (fun W20 hK=>?_);go_upto_region 16 with(fail);refine wp_region_T [0,0,0,1,1,1,0,0] hK ?_;clear hK
    iterate 3 refine e0 ?_
    cases fb
    . --
     iterate 4 refine eN ?_
     refine e0 ?_;refine sxEnd (fun W21 hK=>?_);go_upto_region 17 with(fail);refine wp_region_T [1,4,0] hK ?_;clear hK;refine eL m0 ?_;refine eP 5 0 [.bool (isN (dotQ P.c xs)),.slice p18 l18 c18,.slice q18 u18 d18] ?_ (hq:=.inr ⟨rfl,rfl,rfl,rfl,rfl,rfl,trivial⟩);refine e0 ?_;refine sxEnd (fun W22 hK=>?_)
     (try go_wp2)
     go_roundw
     case rel=>exact⟨set+1,true,dotQ P.c xs,(isN (dotQ P.c xs)),p18,l18,c18,q18,u18,d18,(by first|rfl|go_num),(by first|rfl|go_num),(by omega),hid (by rw[bst_new hvx.out h_f.out];rfl),hid (by rw[bst_new hvx.out h_f.out];rfl),(hK.subl (sC2 (sK2 (sC2 (sK2 (sK2 (sK2 (sC2 sZ2)))))))).up3.up3.up3⟩
     case measure=>simp[intOf]<;>omega
    refine eL m0 ?_;refine eL m5 ?_;obtain⟨z1,hz1⟩:=nmI (sgQ ((dotQ P.c xs)-q));refine eQ (v:=.int .i64 z1) (fun w k=>rcmp_q _ _ _ _ w (k.rq m1) (k.rq m6) hlq.out hlb.out (by first|decide|omega)) ?_ (hv:=by rw[hz1.out]);refine eB (decide (0<z1)) (fun b5 hb5=>?_);refine e0 ?_;refine sxEnd (fun W23 hK=>?_)
    cases b5
    . --
     have q_b5:=nlt hb5
     (try go_wp2)
     go_roundw
     case rel=>exact⟨set+1,true,q,n6,p6,l6,c6,q6,u6,d6,(by first|rfl|go_num),(by first|rfl|go_num),(by omega),hid (by rw[bst_keep hvx.out h_f.out h_q.out (ngt9 hz1.out q_b5)];exact h_f.out),hid (by rw[bst_keep hvx.out h_f.out h_q.out (ngt9 hz1.out q_b5)];exact h_q.out),(hK.subl (sC2 (sC2 (sC2 (List.Sublist.refl _)))))⟩
     case measure=>simp[intOf]<;>omega
    have q_b5:=ylt hb5;go_upto_region 17 with(fail);refine wp_region_T [1,4,0] hK ?_;clear hK;refine eL m0 ?_;refine eP 5 0 [.bool (isN (dotQ P.c xs)),.slice p18 l18 c18,.slice q18 u18 d18] ?_ (hq:=.inr ⟨rfl,rfl,rfl,rfl,rfl,rfl,trivial⟩);refine e0 ?_;refine sxEnd (fun W24 hK=>?_)
    (try go_wp2)
    go_roundw
    case rel=>exact⟨set+1,true,dotQ P.c xs,(isN (dotQ P.c xs)),p18,l18,c18,q18,u18,d18,(by first|rfl|go_num),(by first|rfl|go_num),(by omega),hid (by rw[bst_up hvx.out h_f.out h_q.out (gt9 hz1.out q_b5)];rfl),hid (by rw[bst_up hvx.out h_f.out h_q.out (gt9 hz1.out q_b5)];rfl),(hK.subl (sC2 (sK2 (sC2 (sK2 (sK2 (sK2 (sC2 sZ2)))))))).up3.up3.up3⟩
    case measure=>simp[intOf]<;>omega
   have hne:=hid (show(eqsG P set).length≠P.c.length from fun e=>by have q:=hb3.out;have q2:=hna.out;simp at q;omega)
   (try go_wp2)
   go_roundw
   case rel=>exact⟨set+1,fb,q,n6,p6,l6,c6,q6,u6,d6,(by first|rfl|go_num),(by first|rfl|go_num),(by omega),hid (by rw[bst_no (vtx_no1 hne.out)];exact h_f.out),hid (by rw[bst_no (vtx_no1 hne.out)];exact h_q.out),(hK.subl (sC2 (sC2 (List.Sublist.refl _))))⟩
   case measure=>simp[intOf]<;>omega
  have q_b2:=ylt hb2;obtain⟨bt,hbt⟩:∃bt,Hid (set.testBit i=bt):=⟨_,hid rfl⟩;go_upto_region 10 with(fail);refine wp_region_T [0,0,0,0,0] hK ?_;clear hK
  iterate 2 refine e0 ?_
  refine eV (.int .i64 ((set:Int)/2^i)) (fun w'=>by go_simp;(try go_bits);exact⟨rfl,rfl⟩) ?_;refine eV (.int .i64 ((bt.toNat:Nat):Int)) (fun w'=>by go_simp;(try go_bits);exact⟨congrArg _ (by rw[<-hbt.out];exact and_bit (by omega)),rfl⟩) ?_;refine eV (.bool bt) (fun w'=>by go_simp;(try go_bits);exact⟨congrArg Value.bool (by cases bt<;>rfl),rfl⟩) ?_;refine sxEnd (fun W25 hK=>?_)
  cases bt
  . --
   rw[show(bitsG i set).map (tgtG P)=(bitsG (i+1) set).map (tgtG P)from bits_no hbt.out]at hK
   (try go_wp2)
   go_roundw
   case rel=>exact⟨i+1,pa,na,ca,ss,(by first|rfl|go_num),(by first|rfl|go_num),(by omega),hid (by rw[h_l.out,bits_no hbt.out]),hid h_a.out,hK⟩
   case measure=>simp[intOf]<;>omega
  go_upto_region 11 with(fail);refine wp_region_T [0,1,0,2,3,5,0] hK ?_;clear hK;refine e0 ?_;refine eL m2 ?_;refine e0 ?_;refine eC (fun w k=>tight_any w i (hC.below k.old) (hA.below k.old) (hB.below k.old) (by have q:=htt.out;omega) hm5 hn1 hn4 (tight_row hP) hP.hb) (fun x26=>?_);obtain⟨px26,lx26,cx26⟩:=x26;dsimp only;refine eA (.cells #[.slice px26 lx26 cx26] 26) (fun R27=>?_);refine eAppK 3 slcR_hd rfl 3 h_a.out rfl infoSR (fun w k=>k.one1 (K:=slcR) (x:=⟨px26,lx26,cx26⟩) m0 rfl) (by rw[h_l.out,List.length_map];have q:=bitsG_len i set;simp;omega) (fun x28=>?_);obtain⟨p28,n28,c28⟩:=x28;dsimp only;refine e0 ?_;refine sxEnd (fun W29 hK=>?_);replace hK:=hK.up2;replace hK:=hK.up2;replace hK:=SS.rsN (s:=⟨px26,lx26,cx26⟩) (xs:=tgtG P i) hK h_l.out;rw[show((bitsG i set).map (tgtG P))++[tgtG P i]=(bitsG (i+1) set).map (tgtG P)from(bits_yes hbt.out)]at hK
  (try go_wp2)
  go_roundw
  case rel=>exact⟨i+1,p28,n28,c28,ss++[⟨px26,lx26,cx26⟩],(by first|rfl|go_num),(by first|rfl|go_num),(by omega),hid (by rw[List.length_append,h_l.out, <-bits_yes hbt.out,List.length_append];rfl),hid (fun e=>absurd (congrArg List.length e) (by simp)),(hK.subl (sK2 (sC2 (List.Sublist.refl _))))⟩
  case measure=>simp[intOf]<;>omega
end Go.Proofs.YtjhaedfpigebdaaGreatDoor
namespace Go.Proofs.YtjhaedfpigebdaaGreatDoor
open Go.RowKit
open Go.Lib (decDigits)
set_option maxRecDepth 100000 in
set_option maxHeartbeats 1000000 in
theorem lpBest_any(w:World){cp ap bp:Option Addr}{cl cc al ac bl bc:Nat}{s:Sm}(hs:s.Ok)(hC:SlV i8K w (.slice cp cl cc) s.c)(hA:SlV i8K w (.slice ap al ac) s.a)(hB:SlV i8K w (.slice bp bl bc) s.b)(hBs:Bas w):
    Calls Tryz.prog 3 #[.agg #[.slice cp cl cc,.slice ap al ac,.slice bp bl bc]] w fun e w'=>e=.returned (.bool true)/\Below w.heap.size w w':=by
  have hK:=SS.start w;obtain⟨P,hP9⟩:∃P,Hid (P=ofSm s):=⟨_,hid rfl⟩;have hv:vldP P=true:=(by rw[hP9.out];exact ofSm_v s);have hm:LmP 50 P:=(by rw[hP9.out];exact ofSm_lm hs 50 (by decide));have hS:LimS X5 P:=(by rw[hP9.out];exact ofSm_lims hs);have hP:=vld_ok hv;have hX:=X5_lt;have hm1:=hm.n;have hm2:=hm.m;have hb9:P.b.length<=12:=(by rw[hP.hb];exact hm2);have hn4:P.c.length<=4:=(by rw[hP9.out,ofSm_n];exact(ofN_le s).2);have hn1:1<=P.c.length:=(by rw[hP9.out,ofSm_n];exact(ofN_le s).1);have hm5:P.A.length<=5:=(by rw[hP9.out,ofSm_m];exact ofM_le s);have hmB:LmP 2 P:=(by rw[hP9.out];exact ofSm_lm hs 2 (by decide));refine Calls.hide (fun Q0 hQ0=>?_);go_enter Tryz.func3,Tryz.ntmps3;go_upto_region 0 with(fail);refine wp_region_T [3,0] hK ?_;clear hK;refine eA (.cells #[.slice cp cl cc,.slice ap al ac,.slice bp bl bc] 24) (fun R1=>?_);refine e0 ?_;refine sxEnd (fun W2 hK=>?_);go_upto_region 1 with(fail);refine wp_region_T [1,0] hK ?_;clear hK;refine eQ (fun w k=>awake40_any w (hBs.below k.old)) ?_;refine e0 ?_;refine sxEnd (fun W3 hK=>?_);go_upto_region 3 with(fail);refine wp_region_T [1,2,3,4] hK ?_;clear hK;refine eL m0 ?_;refine eC (fun w k=>(by have q:=smof_any w hs (hC.below k.old) (hA.below k.old) (hB.below k.old);rw[<-hP9.out]at q;exact q)) (fun x4=>?_);obtain⟨⟨g5cp,g5cl,g5cc⟩,⟨g5ap,g5al,g5ac⟩,⟨g5bp,g5bl,g5bc⟩,g5s⟩:=x4;dsimp only[PgR.v];refine eA (.cells #[.slice none 0 0,.slice none 0 0,.slice none 0 0] 29) (fun R6=>?_);refine eP 0 0 [.slice g5cp g5cl g5cc,.slice g5ap g5al g5ac,.slice g5bp g5bl g5bc] ?_;refine sxEnd (fun W7 hK=>?_);go_upto_region 4 with(fail);refine wp_region_T [1,2,0,0,0,3,4,0] hK ?_;clear hK;refine eL m0 ?_;refine eC (fun w k=>lsolve_any w (k.pg m1).1 (k.pg m1).2.1 (k.pg m1).2.2 (hBs.below k.old) hv hm hS hX) (fun x8=>?_);obtain⟨⟨⟨t9xp,t9xl,t9xc⟩,⟨t9yp,t9yl,t9yc⟩,⟨t9rp,t9rl,t9rc⟩,⟨t9dp,t9dl,t9dc⟩,⟨t9ep,t9el,t9ec⟩⟩,Rt9⟩:=x8;dsimp only[RsS.v]
  iterate 3 refine e0 ?_
  refine eA (.cells #[.int .i64 0,.slice none 0 0,.slice none 0 0,.slice none 0 0,.bool false,.slice none 0 0,.slice none 0 0] 36) (fun R10=>?_);refine eZ 0 0 [.int .i64 Rt9.k,.slice t9xp t9xl t9xc,.slice t9yp t9yl t9yc,.slice t9rp t9rl t9rc,.bool (isN Rt9.z),.slice t9dp t9dl t9dc,.slice t9ep t9el t9ec] ?_;refine e0 ?_;refine sxEnd (fun W11 hK=>?_);go_upto_region 5 with(fail);refine wp_region_T [1,2,0,0,0,3,4,0] hK ?_;clear hK;refine eL m3 ?_;refine eC (fun w k=>rbest_any w (k.pg m4).1 (k.pg m4).2.1 (k.pg m4).2.2 hmB hP hn1 hn4 hm5) (fun x13=>?_);obtain⟨⟨p12,l12,c12⟩,⟨q12,u12,d12⟩⟩:=x13;dsimp only;generalize hbq:(bstG P (2^(P.A.length+P.c.length))).getD 0=bq;replace hbq:=hid hbq;generalize hfb:(bstG P (2^(P.A.length+P.c.length))).isSome=fb;replace hfb:=hid hfb
  iterate 3 refine e0 ?_
  refine eA (.cells #[.bool false,.slice none 0 0,.slice none 0 0] 34) (fun R14=>?_);refine eP 0 0 [.bool (isN bq),.slice p12 l12 c12,.slice q12 u12 d12] ?_ (hq:=.inr ⟨rfl,rfl,rfl,rfl,rfl,rfl,rfl,trivial⟩);refine e0 ?_;refine sxEnd (fun W15 hK=>?_);have hcRt9:=hid (hK.get m3);have hbo:=best_of hP hcRt9.out.1;have hfk:=hid (hfb.out.symm.trans hbo.1);go_upto_region 6 with(fail);refine wp_region_T [0,0,0,0,0,1,0,0,0] hK ?_;clear hK
  iterate 5 refine e0 ?_
  refine eL m2 ?_;refine eV (.bool fb) (fun w'=>by go_simp;(try go_bits);exact⟨congrArg Value.bool (by rw[hfk.out];by_cases e:Rt9.k=2<;>simp[e]),rfl⟩) ?_;refine eV (.bool false) (fun w'=>by go_simp;(try go_bits);first|exact⟨rfl,rfl⟩|exact⟨congrArg Value.bool (by cases fb<;>rfl),rfl⟩) ?_;refine e0 ?_;refine sxEnd (fun W16 hK=>?_);go_upto_region 8 with(fail);refine wp_region_T [0,1,0,0,1,0,1,1,0,0] hK ?_;clear hK;refine e0 ?_;refine eL m2 ?_;refine eB (Rt9.k !=1) (fun b1 hb1=>?_);refine e0 ?_
  cases b1
  . --
   have hk1:Rt9.k=1:=(by have q:=hb1.out;simpa using q);have hqz:=hid (show bq=Rt9.z from by rw[<-hbq.out,hbo.2 hk1];rfl);refine eL m0 ?_;refine e0 ?_;refine eL m2 ?_;refine eQ (fun w k=>(rsame_any w (x:=bq) (y:=Rt9.z) (k:=9999) (k.rq m1) (k.rs m4).2.2.2 (by rw[<-hbq.out];exact bst_lm hmB hP hn4) ((sml_lm hcRt9.out.2.z hX).up (by decide)) (by decide)).mono fun _ _ q=>by rw[decide_eq_true hqz.out]at q;exact q) ?_
   iterate 2 refine e0 ?_
   refine sxEnd (fun W17 hK=>?_);go_wp2
   try go_ret
   show Q0 (.returned (.bool true)) _
   exact(qo hQ0 ⟨rfl,hK.old⟩)
  iterate 4 refine eN ?_
  iterate 2 refine e0 ?_
  refine sxEnd (fun W18 hK=>?_);go_wp2
  try go_ret
  show Q0 (.returned (.bool true)) _
  exact(qo hQ0 ⟨rfl,hK.old⟩)
end Go.Proofs.YtjhaedfpigebdaaGreatDoor
