/- Law 40: the programs of the statement on errors: all coefficients -1 or 0. -/

import Derived.Test.YtjhaedfpigebdaaGreatDoorQF
namespace Go.Proofs.YtjhaedfpigebdaaGreatDoor
open Go.RowKit
def zlN(n:Nat)(z:Int)(i:Nat):Nat:=((n:Int)+(if i=7 then z else 0)).toNat
theorem zlN_le{n i:Nat}{z:Int}(hz:z<=1):zlN n z i<=n+1:=by unfold zlN;split<;>omega
def rowsZ(n:Nat)(z:Int)(m:Nat):List (List Rat):=(List.range m).map fun i=>List.replicate (zlN n z i) (0:Rat)
theorem rowsZ_len(n:Nat)(z:Int)(m:Nat):(rowsZ n z m).length=m:=by simp[rowsZ]
theorem rowsZ_snoc(n:Nat)(z:Int)(m:Nat):rowsZ n z m++[List.replicate (zlN n z m) (0:Rat)]=rowsZ n z (m+1):=by unfold rowsZ;rw[List.range_succ,List.map_append];rfl
def erP(n m k:Nat)(z:Int):LPd:=⟨List.replicate n (((-1):Int):Rat),rowsZ n z m,List.replicate k 0⟩
section
variable {n m k:Nat}{z:Int}
theorem rep_snoc(x:Rat)(m:Nat):List.replicate m x++[x]=List.replicate (m+1) x:=List.replicate_succ'.symm
theorem er_n:(erP n m k z).c.length=n:=List.length_replicate
theorem er_m:(erP n m k z).A.length=m:=rowsZ_len ..
theorem er_k:(erP n m k z).b.length=k:=List.length_replicate
theorem rep_getD{x d:Rat}{i:Nat}(h:x=d):(List.replicate n x).getD i d=d:=by
  subst h;rw[List.getD,List.getElem?_replicate]
  split<;>rfl
theorem er_row(i:Nat):∃q,(erP n m k z).A.getD i []=List.replicate q 0:=by
  show ∃q,(rowsZ n z m).getD i []=_
  unfold rowsZ;rw[List.getD,List.getElem?_map]
  cases h:(List.range m)[i]? with
  |none=>exact⟨0,rfl⟩
  |some y=>exact⟨_,rfl⟩
theorem er_b(i:Nat):(erP n m k z).b.getD i 0=0:=rep_getD rfl
theorem er_goal(i:Nat):0<=((erP n m k z).goal).cs.getD i 0:=by
  show 0<=((List.replicate n (((-1):Int):Rat)).map fun x=>0-x).getD i 0
  rw[List.map_replicate,List.getD,List.getElem?_replicate]
  split
  . show(0:Rat)<=0-(((-1):Int):Rat)
    exact(by decide+kernel:(0:Rat)<=0-(((-1):Int):Rat))
  exact Rat.le_refl
theorem er_stop:stepS ⟨(erP n m k z).init.T,(erP n m k z).goal⟩=none:=by
  unfold stepS;rw[if_pos]
  rcases entN_spec (erP n m k z).goal.cs (erP n m k z).init.T.free (erP n m k z).goal.cs.length with⟨h,_⟩|⟨j,_,_,h,_⟩
  . show entN (erP n m k z).goal.cs (erP n m k z).init.T.free (erP n m k z).goal.cs.length<0
    rw[h];decide
  exact absurd (er_goal j) (Rat.not_le.2 h)
theorem zero_dot:∀(a:List Rat) (q:Nat),dotQ (List.replicate q 0) a=0:=fun a q=>by rw[dotQ_comm,dotQ_zeros]
theorem er_lim:LimP (erP n m k z):=by
  refine⟨fun x hx=>by rw[(List.mem_replicate.1 hx).2];exact LmQ.nil0.up (by decide),fun _ t ht=>?_,fun⟨i,hi⟩=>absurd hi (by rw[er_b];decide)⟩;obtain⟨q,hq⟩:=ht
  have e:t=⟨(erP n m k z).init.T,(erP n m k z).goal⟩:=by
    cases q with
    |zero=>exact(Option.some.inj hq).symm
    |succ q=>unfold itS at hq;rw[er_stop]at hq;cases hq
  subst e;have h0:LmQ 300 (0:Rat):=LmQ.nil0.up (by decide);refine⟨⟨fun x hx=>?_,fun x hx=>?_⟩,fun g hg=>?_⟩
  . obtain⟨i,_,rfl⟩:=List.mem_map.1 hx;obtain⟨q,hq⟩:=er_row (n:=n) (m:=m) (k:=k) (z:=z) i;intro c hc;have hc2:c∈(erP n m k z).A.getD i []:=hc;rw[hq]at hc2;rw[(List.mem_replicate.1 hc2).2];exact h0
  . obtain⟨i,_,rfl⟩:=List.mem_map.1 hx
    show LmQ 300 ((erP n m k z).b.getD i 0)
    rw[er_b];exact h0
  obtain rfl:=List.mem_singleton.1 hg;refine⟨fun c hc=>?_,h0⟩;have hc2:c∈(List.replicate n (((-1):Int):Rat)).map fun x=>0-x:=hc
  rw[List.map_replicate]at hc2;rw[(List.mem_replicate.1 hc2).2];exact⟨by show _<_;decide+kernel,by show _<_;decide+kernel⟩
theorem er_c:LmL 300 (erP n m k z).c:=fun c hc=>by
  have hc2:c∈List.replicate n (((-1):Int):Rat):=hc;rw[(List.mem_replicate.1 hc2).2];exact⟨by show _<_;decide+kernel,by show _<_;decide+kernel⟩
theorem er_cert:CertR (erP n m k z) ⟨1,List.replicate n 0,List.replicate m 0,[],0⟩:=by
  refine .inl ⟨rfl,⟨by rw[er_n];exact List.length_replicate,fun e he=>by rw[(List.mem_replicate.1 he).2];exact Rat.le_refl,fun i _=>by rw[er_b];rw[dotQ_zeros];exact Rat.le_refl,by rw[er_m];exact List.length_replicate,fun e he=>by rw[(List.mem_replicate.1 he).2];exact Rat.le_refl,fun i _=>?_,dotQ_zeros _ _,?_⟩,rfl⟩
  . rw[zero_dot]
    show(List.replicate n (((-1):Int):Rat)).getD i 0<=0
    rw[List.getD,List.getElem?_replicate]
    split
    . exact(by decide+kernel:(((-1):Int):Rat)<=0)
    exact Rat.le_refl
  show dotQ (List.replicate k 0) _=0
  exact zero_dot _ _
end
section
variable {P:LPd}{cp ap bp:Option Addr}{cl cc al ac bl bc:Nat}
theorem solve_bad(w:World)(hC:SlV ratK w (.slice cp cl cc) P.c)(hA:SlV rrK w (.slice ap al ac) P.A)(hB:SlV ratK w (.slice bp bl bc) P.b)(hn1:P.c.length<=100000)(hn2:P.A.length<=100000)(hn3:P.b.length<=100000)(hv:vldP P=false):
    Calls Tryz.prog 33 #[.agg #[.slice cp cl cc,.slice ap al ac,.slice bp bl bc]] w fun e w'=> ∃a:RsS,e=.returned (.tuple #[a.v ⟨0,[],[],[],0⟩,.int .i64 1])/\SS w [] w':=
  (solve_any w hC hA hB hn1 hn2 hn3 (fun h=>by rw[hv]at h;cases h) (fun h=>by rw[hv]at h;cases h)).mono fun e w' ⟨a,e1,h⟩=>by
    rcases h.get m0 with⟨_,h2,h3⟩|⟨h1,_⟩
    . exact⟨⟨a.x,a.y,a.r,a.d,a.e⟩,by rw[e1,h2];unfold SvR.v RsS.v;rw[h3],h.subl (List.nil_sublist _)⟩
    rw[hv]at h1;cases h1
theorem solve_one(w:World){R0:LpRes}(hC:SlV ratK w (.slice cp cl cc) P.c)(hA:SlV rrK w (.slice ap al ac) P.A)(hB:SlV ratK w (.slice bp bl bc) P.b)(hn1:P.c.length<=100000)(hn2:P.A.length<=100000)(hn3:P.b.length<=100000)(hv:vldP P=true)(hL:LimP P)(hl:LmL 300 P.c)(h0:CertR P R0):
    Calls Tryz.prog 33 #[.agg #[.slice cp cl cc,.slice ap al ac,.slice bp bl bc]] w fun e w'=> ∃a:RsS,e=.returned (.tuple #[a.v ⟨R0.k,[],[],[],R0.z⟩,.int .i64 0])/\SS w [qF (.agg #[.bool (isN R0.z),.slice a.d.p a.d.l a.d.c,.slice a.e.p a.e.l a.e.c]) R0.z] w':=
  (solve_any w hC hA hB hn1 hn2 hn3 (fun _=>hL) (fun _=>hl)).mono fun e w' ⟨a,e1,h⟩=>by
    rcases h.get m0 with⟨h1,_⟩|⟨_,h2,h3,_⟩
    . rw[hv]at h1;cases h1
    obtain⟨hk,hz⟩:=cert_uni (vld_ok hv) h3 h0;refine⟨⟨a.x,a.y,a.r,a.d,a.e⟩,by rw[e1,h2];unfold SvR.v RsS.v;rw[hk,hz],?_⟩;rw[<-hz];exact h.subl (.cons _ (.cons _ (.cons _ (.cons _ (sR)))))
end
end Go.Proofs.YtjhaedfpigebdaaGreatDoor
