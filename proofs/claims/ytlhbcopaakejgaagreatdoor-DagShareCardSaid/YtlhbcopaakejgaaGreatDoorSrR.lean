/- The reference's numbers in the separation logic; rows of rows that are made. -/

import Derived.Test.YtlhbcopaakejgaaGreatDoorNrF
import Derived.Test.YtlhbcopaakejgaaGreatDoorSv
import Derived.Test.YtlhbcopaakejgaaGreatDoorRowN
namespace Go.Proofs.YtlhbcopaakejgaaGreatDoor
open Go.RowKit
def refK:EK Rat where
  sz:=3
  pos:=by decide
  R:=fun w cs x=> ∃a b d,cs=[a,b,d]∧RefR w (.agg #[a,b,d]) x
  len:=fun⟨_,_,_,e,_⟩=>by rw[e];rfl
  one:=fun⟨a,b,d,e,h⟩ u hu=>by
    obtain⟨rfl,⟨_,_,_,rfl⟩,_,_,_,rfl⟩:=refR_cells h;subst e;simp only[List.mem_cons,List.not_mem_nil,or_false]at hu
    rcases hu with rfl|rfl|rfl<;>rfl
  below:=fun⟨a,b,d,e,h⟩ hb=>⟨a,b,d,e,h.below hb⟩
theorem refK_hd{w:World}{cs:List Value}{x:Rat}{u:Value}(h:refK.R w cs x)(hu:cs[0]?=some u):rkV u=2:=by
  obtain⟨a,b,c,rfl,h⟩:=h;obtain⟨rfl,_⟩:=refR_cells h
  cases hu;rfl
instance :OwnK refK:=⟨[1],fun⟨a,b,c,e,h⟩ hg w1 h2 h3 w2 h4=>⟨a,b,c,e,refr_spare h hg w1 h2 h3 w2 h4⟩,.inr ⟨2,rfl,refK_hd⟩⟩
theorem SlV.ref{w:World}{g o n c i:Nat}{sh:List Rat}{x:Rat}(h:SlV refK w (.slice (some ⟨g,o,none⟩) n c) sh)(hx:sh[i]?=some x):∃a b d,C3 w g (o+i*3) a b d∧RefR w (.agg #[a,b,d]) x:=by
  obtain⟨cs,h1,a,b,d,rfl,h3⟩:=h.at hx;exact⟨a,b,d,⟨h1.1,h1.2 0 _ rfl,h1.2 1 _ rfl,h1.2 2 _ rfl⟩,h3⟩
instance :HdK refK:=⟨2,refK_hd⟩
end Go.Proofs.YtlhbcopaakejgaaGreatDoor
