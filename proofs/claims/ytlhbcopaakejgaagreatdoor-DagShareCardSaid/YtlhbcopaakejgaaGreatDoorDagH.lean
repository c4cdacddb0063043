/- Unique shortest paths: their parts; fewer arcs. No program in sight. -/

import Derived.Test.YtlhbcopaakejgaaGreatDoorDagL
namespace Go.Proofs.YtlhbcopaakejgaaGreatDoor
def FstP(t:TopD)(down:List Bool)(l:List Int)(d:Nat):Nat→List Nat→Nat→Prop
  |x,[],y=>x=y
  |x,a::p,y=>(∃r,nxtD t down l x d=a::r)∧FstP t down l d (hN t a) p y
section
variable {t:TopD}{down down2:List Bool}{l l2:List Int}{d x y z a:Nat}{p q:List Nat}
theorem FstP.eq(h:FstP t down l d x p d)(h':FstP t down l d x q d):p=q:=by
  induction p generalizing x q with
  | nil=>
    cases q with
    |nil=>rfl
    | cons b q=>
      obtain⟨r,hr⟩:=h'.1;have hx:x=d:=h;rw[nxt_none (.inl hx)]at hr;cases hr
  | cons a p ih=>
    cases q with
    | nil=>
      obtain⟨r,hr⟩:=h.1;have hx:x=d:=h';rw[nxt_none (.inl hx)]at hr;cases hr
    | cons b q=>
      obtain⟨r,hr⟩:=h.1;obtain⟨r',hr'⟩:=h'.1;rw[hr]at hr'
      cases hr'
      rw[ih h.2 h'.2]
theorem FstP.snoc(h:FstP t down l d x p y){r:List Nat}(ha:nxtD t down l y d=a::r):FstP t down l d x (p++[a]) (hN t a):=by
  induction p generalizing x with
  |nil=>cases h;exact⟨⟨r,ha⟩,rfl⟩
  |cons b p ih=>exact⟨h.1,ih h.2⟩
theorem sub_le(ht:topOk t=true)(h1:IsDst t down d l)(h2:IsDst t down2 d l2)(hs:∀a,a<arcsD t→upD down2 a=true→upD down a=true):∀(k x:Nat),atD l2 x=(k:Int)→0≤atD l x∧atD l x≤atD l2 x:=by
  intro k
  induction k using Nat.strongRecOn with
  | ind k ih=>
    intro x hk
    by_cases hx:x=d
    · rw[hx,h2.root,h1.root];exact⟨Int.le_refl 0,Int.le_refl 0⟩
    · obtain⟨a,e,b1,b2,b3,b4,b5⟩:=h2.2.back x (h2.out (by omega)) hx (by omega)
      obtain⟨u,v,rfl⟩:=arTo_some b2;have b3:tN t a=x:=b3;have b4:0≤atD l2 (hN t a):=b4;have b5:atD l2 x=atD l2 (hN t a)+(cN t a:Int):=b5;obtain⟨_,_,_,_,_,_,hc,_⟩:=arc_ok ht b1;obtain⟨i1,i2⟩:=ih (atD l2 (hN t a)).toNat (by omega) (hN t a) (by omega);obtain⟨j1,j2⟩:=h1.2.edge a _ b1 (arTo_of (hs a b1 u) v) i1;rw[b3]at j1 j2;exact⟨j1,by dsimp only at j2;omega⟩
end
end Go.Proofs.YtlhbcopaakejgaaGreatDoor
