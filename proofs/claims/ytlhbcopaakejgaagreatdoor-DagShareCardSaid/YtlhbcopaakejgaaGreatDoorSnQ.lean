/- Naturals and rationals of both kinds in the separation logic. Rationals of both kinds as facts. -/

import Derived.Test.YtlhbcopaakejgaaGreatDoorTx
import Derived.Test.YtlhbcopaakejgaaGreatDoorSc
namespace Go.Proofs.YtlhbcopaakejgaaGreatDoor
open Go.RowKit
def nF(v:Value)(n:Nat):Ft:=pF [0] (fun w=>NatV w v n) (fun h hb=>h.below hb) (fun h hn=>nat_spare h hn)
def vF(v:Value)(n:Nat):Ft:=pF [1] (fun w=>RefV w v n) (fun h hb=>h.below hb) (fun h hn=>ref_spare h hn)
theorem NatV.sl{w:World}{v:Value}{n:Nat}(h:NatV w v n):∃p l c,v=.agg #[.slice p l c]:=by
  rcases h with⟨_,e⟩|⟨_,g,c,e,_⟩
  · exact⟨_,_,_,e⟩
  · exact⟨_,_,_,e⟩
section
variable {V w:World}{l:List Ft}{v:Value}{n m:Nat}{P:Program}{f:FuncId}{args:Array Value}{r:Value→Value}{r2:Value→Value→Value}
theorem SS.nf(h:SS V l w)(hm:nF v n∈l):NatV w v n:=h.get hm
theorem SS.vf(h:SS V l w)(hm:vF v n∈l):RefV w v n:=h.get hm
theorem nat_S(h:Calls P f args w fun e w'=> ∃y,e=.returned (r y)∧NatV w' y n∧Below w.heap.size w w'):Calls P f args w fun e w'=> ∃x:Sl,e=.returned (r (.agg #[.slice x.p x.l x.c]))∧SS w [nF (.agg #[.slice x.p x.l x.c]) n] w':=h.mono fun e w' ⟨y,h1,h2,h3⟩=>by
  obtain⟨p,l,c,rfl⟩:=h2.sl;exact⟨⟨p,l,c⟩,h1,((SS.start w).step h3).fact (nF _ _) h2⟩
theorem nat2_S(h:Calls P f args w fun e w'=> ∃y z,e=.returned (r2 y z)∧NatV w' y n∧NatV w' z m∧Below w.heap.size w w'):Calls P f args w fun e w'=> ∃x:Duo Sl Sl,e=.returned (r2 (.agg #[.slice x.a.p x.a.l x.a.c]) (.agg #[.slice x.b.p x.b.l x.b.c]))∧SS w [nF (.agg #[.slice x.a.p x.a.l x.a.c]) n,nF (.agg #[.slice x.b.p x.b.l x.b.c]) m] w':=h.mono fun e w' ⟨y,z,h1,h2,h4,h3⟩=>by
  obtain⟨p,l,c,rfl⟩:=h2.sl;obtain⟨q,k,d,rfl⟩:=h4.sl;exact⟨⟨⟨p,l,c⟩,⟨q,k,d⟩⟩,h1,(((SS.start w).step h3).fact (nF _ _) h4).fact (nF _ _) h2⟩
theorem ref_V(h:Calls P f args w fun e w'=> ∃y,e=.returned (r y)∧RefV w' y n∧Below w.heap.size w w'):Calls P f args w fun e w'=> ∃x:Duo (Option Addr) Nat,e=.returned (r (.slice x.a (digs B6 n).length x.b))∧SS w [vF (.slice x.a (digs B6 n).length x.b) n] w':=h.mono fun e w' ⟨y,h1,h2,h3⟩=>by
  obtain⟨p,c,rfl⟩:=h2.slr;exact⟨⟨p,c⟩,h1,((SS.start w).step h3).fact (vF _ _) h2⟩
theorem ref2_V(h:Calls P f args w fun e w'=> ∃y z,e=.returned (r2 y z)∧RefV w' y n∧RefV w' z m∧Below w.heap.size w w'):Calls P f args w fun e w'=> ∃x:Duo (Duo (Option Addr) Nat) (Duo (Option Addr) Nat),e=.returned (r2 (.slice x.a.a (digs B6 n).length x.a.b) (.slice x.b.a (digs B6 m).length x.b.b))∧SS w [vF (.slice x.a.a (digs B6 n).length x.a.b) n,vF (.slice x.b.a (digs B6 m).length x.b.b) m] w':=h.mono fun e w' ⟨y,z,h1,h2,h4,h3⟩=>by
  obtain⟨p,c,rfl⟩:=h2.slr;obtain⟨q,d,rfl⟩:=h4.slr;exact⟨⟨⟨p,c⟩,⟨q,d⟩⟩,h1,(((SS.start w).step h3).fact (vF _ _) h4).fact (vF _ _) h2⟩
end
section
variable {V w:World}{l:List Ft}{v:Value}{x:Rat}{P:Program}{f:FuncId}{args:Array Value}{r:Value→Value}
end
end Go.Proofs.YtlhbcopaakejgaaGreatDoor
namespace Go.Proofs.YtlhbcopaakejgaaGreatDoor
open Go.RowKit
def qF(v:Value)(x:Rat):Ft:=pF [0] (fun w=>RatV w v x) (fun h hb=>h.below hb) (fun h hn=>rat_spare h hn)
section
variable {P:Program}{f:FuncId}{args:Array Value}{w:World}{q:Rat}{c:Int}
theorem rat_S(h:Calls P f args w fun e w'=> ∃y0,e=.returned y0∧RatV w' y0 q∧Below w.heap.size w w'):Calls P f args w fun e w'=> ∃x:Duo Sl Sl,e=.returned (.agg #[.bool (isN q),.slice x.a.p x.a.l x.a.c,.slice x.b.p x.b.l x.b.c])∧SS w [qF (.agg #[.bool (isN q),.slice x.a.p x.a.l x.a.c,.slice x.b.p x.b.l x.b.c]) q] w':=h.mono fun e w' ⟨y0,h1,h2,h3⟩=>by
  have h2':=h2;obtain⟨p,l,c,p',m,d,rfl,h4,h5⟩:=h2;exact⟨⟨⟨p,l,c⟩,⟨p',m,d⟩⟩,h1,((SS.start w).step h3).fact (qF _ _) h2'⟩
theorem rat2_S(h:Calls P f args w fun e w'=> ∃y0,e=.returned (.tuple #[y0,.int .i64 c])∧RatV w' y0 q∧Below w.heap.size w w'):Calls P f args w fun e w'=> ∃x:Duo Sl Sl,e=.returned (.tuple #[.agg #[.bool (isN q),.slice x.a.p x.a.l x.a.c,.slice x.b.p x.b.l x.b.c],.int .i64 c])∧SS w [qF (.agg #[.bool (isN q),.slice x.a.p x.a.l x.a.c,.slice x.b.p x.b.l x.b.c]) q] w':=h.mono fun e w' ⟨y0,h1,h2,h3⟩=>by
  have h2':=h2;obtain⟨p,l,c,p',m,d,rfl,h4,h5⟩:=h2;exact⟨⟨⟨p,l,c⟩,⟨p',m,d⟩⟩,h1,((SS.start w).step h3).fact (qF _ _) h2'⟩
end
section
variable {V w:World}{l:List Ft}{v:Value}{x:Rat}
theorem SS.q(h:SS V l w)(hm:qF v x∈l):RatV w v x:=h.get hm
end
theorem refR_cells{w:World}{a b c:Value}{x:Rat}(h:RefR w (.agg #[a,b,c]) x):a=.bool (isN x)∧(∃p n m,b=.slice p n m)∧ ∃p n m,c=.slice p n m:=by
  obtain⟨nv,dv,e,h1,h2⟩:=h
  injection e with e
  injection e with e
  injection e with e1 e
  injection e with e2 e
  injection e with e3
  subst e2;subst e3;obtain⟨p,n,m,e4⟩:=h1.sl;obtain⟨q,n',m',e5⟩:=h2.sl;exact⟨e1,⟨p,n,m,e4⟩,q,n',m',e5⟩
def rF(v:Value)(x:Rat):Ft:=pF [1] (fun w=>RefR w v x) (fun h hb=>h.below hb) (fun h hn=>refr_spare h hn)
section
variable {P:Program}{f:FuncId}{args:Array Value}{w:World}{q:Rat}{c:Int}
theorem ref_S(h:Calls P f args w fun e w'=> ∃y0,e=.returned y0∧RefR w' y0 q∧Below w.heap.size w w'):Calls P f args w fun e w'=> ∃x:Duo Sl Sl,e=.returned (.agg #[.bool (isN q),.slice x.a.p x.a.l x.a.c,.slice x.b.p x.b.l x.b.c])∧SS w [rF (.agg #[.bool (isN q),.slice x.a.p x.a.l x.a.c,.slice x.b.p x.b.l x.b.c]) q] w':=h.mono fun e w' ⟨y0,h1,h2,h3⟩=>by
  have h2':=h2;obtain⟨nv,dv,rfl,h4,h5⟩:=h2;obtain⟨p,l,c,rfl⟩:=h4.sl;obtain⟨p',m,d,rfl⟩:=h5.sl;exact⟨⟨⟨p,l,c⟩,⟨p',m,d⟩⟩,h1,((SS.start w).step h3).fact (rF _ _) h2'⟩
theorem ref2_S(h:Calls P f args w fun e w'=> ∃y0,e=.returned (.tuple #[y0,.int .i64 c])∧RefR w' y0 q∧Below w.heap.size w w'):Calls P f args w fun e w'=> ∃x:Duo Sl Sl,e=.returned (.tuple #[.agg #[.bool (isN q),.slice x.a.p x.a.l x.a.c,.slice x.b.p x.b.l x.b.c],.int .i64 c])∧SS w [rF (.agg #[.bool (isN q),.slice x.a.p x.a.l x.a.c,.slice x.b.p x.b.l x.b.c]) q] w':=h.mono fun e w' ⟨y0,h1,h2,h3⟩=>by
  have h2':=h2;obtain⟨nv,dv,rfl,h4,h5⟩:=h2;obtain⟨p,l,c,rfl⟩:=h4.sl;obtain⟨p',m,d,rfl⟩:=h5.sl;exact⟨⟨⟨p,l,c⟩,⟨p',m,d⟩⟩,h1,((SS.start w).step h3).fact (rF _ _) h2'⟩
end
theorem refR0(w:World):RefR w (.agg #[.bool false,.slice none 0 0,.slice none 0 0]) 0:=⟨_,_,rfl,RefV.zero w,RefV.zero w⟩
theorem SS.rq{V w:World}{l:List Ft}{v:Value}{x:Rat}(h:SS V l w)(hm:rF v x∈l):RefR w v x:=h.get hm
end Go.Proofs.YtlhbcopaakejgaaGreatDoor
