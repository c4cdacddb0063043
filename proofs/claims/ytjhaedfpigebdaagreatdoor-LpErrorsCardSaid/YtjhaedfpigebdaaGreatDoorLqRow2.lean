/- The frame of a law's row of this seat. -/

import Derived.Test.YtjhaedfpigebdaaGreatDoorQF
import Derived.ChangeMaps5
import Derived.Test.YtjhaedfpigebdaaGreatDoorRows
import Derived.Test.YtjhaedfpigebdaaGreatDoorTie
import Derived.ProofKit
import Derived.OpenShut
import Derived.JoinedCond
import Derived.LaidMore
import Derived.Lay
import Derived.SevenTiedAt
import Derived.Stop.Joined
import Derived.Lib.LaidTab
import Derived.Lib.LaidU8
import Derived.Lib.SmallJoins
import Derived.Deep.Slices
import Derived.LaidLaws
namespace Go.Proofs.YtjhaedfpigebdaaGreatDoor
open Go.ChangeShapes Go.WideShapes Go.ChangeAt Go.RowKit Go.Joins Go.Deep
section
variable {H:Type}{enc:TypeId × Value->H}{w:World}{base:Nat}{sp:Nat->Bool}{hd:Bool}
set_option maxRecDepth 100000 in
theorem open_u16{b0:Nat}{v:Value}{d:DataW H}{p:List MemPlace}(hv:Value.okWide Tryz.prog w .any b0 73 v)(h:DataW.Trod enc Tryz.prog w base sp hd 73 v d p):∃x:Nat,v=.int .u16 (x:Int)/\x<65536:=by
  obtain⟨x,rfl,_,_,wx⟩:=open_int Tryz.underlying73 hv h;have hz:0<=x/\x<65536:=by simp[Lit.wf,IntKind.min,IntKind.max,IntKind.signed,IntKind.bits]at wx;omega
  exact⟨x.toNat,by rw[Int.toNat_of_nonneg hz.1],by omega⟩
end
theorem cellsK_i8x2:Tryz.prog.cellsOf 75=2:=by kernel_rfl
section
variable {H:Type}{enc:TypeId × Value->H}{w:World}{base:Nat}{sp:Nat->Bool}{hd:Bool}
set_option maxRecDepth 100000 in
theorem open_i8x2{b0:Nat}{v:Value}{d:DataW H}{p:List MemPlace}(hv:Value.okWide Tryz.prog w .any b0 75 v)(h:DataW.Trod enc Tryz.prog w base sp hd 75 v d p):∃a b:Int,v=.agg #[.int .i8 a,.int .i8 b]/\Rng8 a/\Rng8 b:=by
  simp only[Value.okWide,Tryz.underlying75]at hv;obtain⟨cs,rfl,hsz,_⟩:=hv;obtain⟨fuel,hf⟩:=h;obtain⟨xs,m,_,_,hl,hlen,hi⟩:=DataW.trod_array Tryz.underlying75 hf;obtain⟨l⟩:=cs;have hc:l.length=2:=by simpa[cellsK_i8x2]using hsz
  match l,hc,xs,hlen with
  | [c0,c1],_,[y0,y1],_=>
    obtain⟨a,e0,ha⟩:=elem_i8 (enc:=enc) (w:=w) (base:=base) (sp:=sp) (hd:=hd) (m:=m) (cs:=[c0]) (y:=y0) (by simpa[cellsK_i8,Value.cells]using hi 0 (by decide));obtain⟨b,e1,hb⟩:=elem_i8 (enc:=enc) (w:=w) (base:=base) (sp:=sp) (hd:=hd) (m:=m) (cs:=[c1]) (y:=y1) (by simpa[cellsK_i8,Value.cells]using hi 1 (by decide));simp at e0 e1;subst e0 e1;exact⟨a,b,rfl,ha,hb⟩
end
end Go.Proofs.YtjhaedfpigebdaaGreatDoor
