/- What a search asks of its caller: the arcs of a node, the ends of an arc. -/

import Derived.Test.YtlhbcopaakejgaaGreatDoorDsE
import Derived.Test.YtlhbcopaakejgaaGreatDoorDsJ
namespace Go.Proofs.YtlhbcopaakejgaaGreatDoor
open Go.RowKit
open Go.Lib (decDigits)
theorem FamO.below{α:Type}{K:EK α}[OwnK K]{w w':World}{tt t:TypeId}{k:Nat}{p:Option Addr}{n c:Nat}{ss:List Sl}{xss:List (List α)}(h:FamO K tt t k p n c ss xss w)(hb:Below w.heap.size w w'):FamO K tt t k p n c ss xss w':=(fX K tt t k p n c ss xss).bel h hb
set_option maxRecDepth 100000 in
theorem follow_any(w:World)(i:Nat){R9:Nat}{ap:Option Addr}{an ac:Nat}{ss:List Sl}{t:TopD}{s:Sl}(hB:Has 0 R9 (.cells #[.slice ap an ac] 60) w)(hF:FamO intK 43 3 ss.length ap an ac ss (lvD (hN t) (nN t) (arcsD t)) w)(hi:i<an)(hs:ss[i]?=some s):
    Calls Tryz.prog 75 #[.int .i64 (i:Int),.pointer (some ⟨R9,0,none⟩)] w fun e w'=>e=.returned (.slice s.p s.l s.c)∧Below w.heap.size w w':=by
  have hK:=SS.start w;obtain⟨ga,oa,rfl⟩:=hF.out.slv.pt hi;obtain rfl:=hF.out.off rfl;refine Calls.hide (fun Q0 hQ0=>?_);go_enter Tryz.func75,Tryz.ntmps75;go_upto_region 1 with(fail);refine wp_region_T [0,0,0,0,0] hK ?_;clear hK;refine eX0 (fun w k=>hB.below k.old) ?_
  iterate 2 refine e0 ?_
  refine eR0 (fun w k=>(hF.below k.old).out.slc hs) ?_;refine e0 ?_;refine sxEnd (fun W1 hK=>?_);go_wp2
  try go_ret
  show Q0 (.returned (.slice s.p s.l s.c)) _
  exact(by obtain rfl:=hQ0.out;exact⟨rfl,hK.old⟩)
set_option maxRecDepth 100000 in
theorem end_any(w:World)(a:Nat){R8:Nat}{p_t:Option Addr}{n_t c_t:Nat}{q_t:Option Addr}{m_t d_t:Nat}{t:TopD}(hB:Has 0 R8 (.cells #[.int .i64 t.nodes,.slice p_t n_t c_t,.slice q_t m_t d_t] 25) w)(ht:TopV w (.agg #[.int .i64 t.nodes,.slice p_t n_t c_t,.slice q_t m_t d_t]) t)(hl:t.links.length≤100000)(ht2:topOk t=true)(ha:a<arcsD t):
    Calls Tryz.prog 76 #[.int .i64 (a:Int),.pointer (some ⟨R8,0,none⟩)] w fun e w'=>e=.returned (.int .i64 ((tN t a:Nat):Int))∧Below w.heap.size w w':=by
  have hK:=SS.start w;refine Calls.hide (fun Q0 hQ0=>?_);go_enter Tryz.func76,Tryz.ntmps76;go_upto_region 1 with(fail);refine wp_region_T [0,0,1,0] hK ?_;clear hK;refine eX0 (fun w k=>hB.below k.old) ?_;refine e0 ?_;refine eQ (fun w k=>tailN_any w (ht.below k.old) a hl ht2 ha) ?_;refine e0 ?_;refine sxEnd (fun W1 hK=>?_);go_wp2
  try go_ret
  show Q0 (.returned (.int .i64 ((tN t a:Nat):Int))) _
  exact(by obtain rfl:=hQ0.out;exact⟨rfl,hK.old⟩)
end Go.Proofs.YtlhbcopaakejgaaGreatDoor
