/- The reference: paths. Laws of next arcs and of numbers of paths. -/

import Derived.Test.YtlhbcopaakejgaaGreatDoorDagH
import Derived.Test.YtlhbcopaakejgaaGreatDoorDsX
import Derived.Test.YtlhbcopaakejgaaGreatDoorDsQ
namespace Go.Proofs.YtlhbcopaakejgaaGreatDoor
open Go.RowKit
open Go.Lib (decDigits)
section
variable {t:TopD}{down:List Bool}{l:List Int}{d x y n a j i:Nat}{p:List Nat}
theorem NxP.at(h:NxP t down l d x (p.drop i) y)(hi:p[i]?=some a):a∈nxtD t down l x d∧NxP t down l d (hN t a) (p.drop (i+1)) y:=by
  obtain⟨hi,e⟩:=List.getElem?_eq_some_iff.1 hi;rw[List.drop_eq_getElem_cons hi,e]at h;exact h
end
section
variable {t:TopD}{down:List Bool}{D:List Int}{d a:Nat}{p:List Nat}
end
end Go.Proofs.YtlhbcopaakejgaaGreatDoor
namespace Go.Proofs.YtlhbcopaakejgaaGreatDoor
open Go.RowKit
open Go.Lib (decDigits)
def largeD(t:TopD)(down:List Bool):Bool:=decide (100<t.over.length∨24<t.links.length∨100<down.length∨16<t.nodes)
set_option maxRecDepth 100000 in
theorem large_any(w:World){v_t:Value}{t:TopD}(ht:TopV w v_t t){p_d:Option Addr}{n_d c_d:Nat}{down:List Bool}(hd:SlV boolK w (.slice p_d n_d c_d) down):
    Calls Tryz.prog 5 #[v_t,.slice p_d n_d c_d] w fun e w'=>e=.returned (.bool (largeD t down))∧Below w.heap.size w w':=by
  have ht_0:=ht;obtain⟨p_t,n_t,c_t,q_t,m_t,d_t,rfl,ht_1,ht_2⟩:=ht_0;have hK:=SS.start w;refine Calls.hide (fun Q0 hQ0=>?_);go_enter Tryz.func5,Tryz.ntmps5;go_upto_region 0 with(fail);refine wp_region_T [3,0] hK ?_;clear hK;refine eA (.cells #[.int .i64 t.nodes,.slice p_t n_t c_t,.slice q_t m_t d_t] 25) (fun R1=>?_);refine e0 ?_;refine sxEnd (fun W2 hK=>?_);go_upto_region 1 with(fail);refine wp_region_T [0,1,0,0,0,0,1,0,0,0,0,0,0,0,0,0,0,1,0,0,0] hK ?_;clear hK;refine e0 ?_;refine eL m0 ?_;refine e0 ?_;refine eB (decide (100<((n_t:Int)))) (fun b1 hb1=>?_);refine e0 ?_
  cases b1
  · --
   have q_b1:((n_t:Int))≤100:=Int.not_lt.1 (of_decide_eq_false hb1.out);refine e0 ?_;refine eL m0 ?_;refine e0 ?_;refine eB (decide (24<((m_t:Int)))) (fun b2 hb2=>?_)
   iterate 2 refine e0 ?_
   cases b2
   · --
    have q_b2:((m_t:Int))≤24:=Int.not_lt.1 (of_decide_eq_false hb2.out)
    iterate 2 refine e0 ?_
    refine eB (decide (100<((n_d:Int)))) (fun b3 hb3=>?_)
    iterate 2 refine e0 ?_
    cases b3
    · --
     have q_b3:((n_d:Int))≤100:=Int.not_lt.1 (of_decide_eq_false hb3.out);refine e0 ?_;refine eL m0 ?_;refine eB (decide (16<t.nodes)) (fun b4 hb4=>?_)
     iterate 2 refine e0 ?_
     refine sxEnd (fun W3 hK=>?_);go_wp2
     try go_ret
     show Q0 (.returned (.bool b4)) _
     exact(by obtain rfl:=hQ0.out;exact⟨congrArg (fun z=>Ending.returned (.bool z)) (by rw[←hb4.out];unfold largeD;exact decide_eq_decide.2 (by have e1:=ht_1.one0;have e2:=ht_2.one0;have e3:=hd.one0;have qb1:=hb1.out;(try simp at qb1);have qb2:=hb2.out;(try simp at qb2);have qb3:=hb3.out;(try simp at qb3);omega)),hK.old⟩)
    · --
     have q_b3:100<((n_d:Int)):=of_decide_eq_true hb3.out
     iterate 3 refine eN ?_
     iterate 2 refine e0 ?_
     refine sxEnd (fun W4 hK=>?_);go_wp2
     try go_ret
     show Q0 (.returned (.bool true)) _
     exact(by obtain rfl:=hQ0.out;exact⟨congrArg (fun z=>Ending.returned (.bool z)) (by unfold largeD;exact(decide_eq_true (by have e1:=ht_1.one0;have e2:=ht_2.one0;have e3:=hd.one0;have qb1:=hb1.out;(try simp at qb1);have qb2:=hb2.out;(try simp at qb2);have qb3:=hb3.out;(try simp at qb3);omega)).symm),hK.old⟩)
   · --
    have q_b2:24<((m_t:Int)):=of_decide_eq_true hb2.out
    iterate 3 refine eN ?_
    iterate 2 refine e0 ?_
    iterate 3 refine eN ?_
    iterate 2 refine e0 ?_
    refine sxEnd (fun W5 hK=>?_);go_wp2
    try go_ret
    show Q0 (.returned (.bool true)) _
    exact(by obtain rfl:=hQ0.out;exact⟨congrArg (fun z=>Ending.returned (.bool z)) (by unfold largeD;exact(decide_eq_true (by have e1:=ht_1.one0;have e2:=ht_2.one0;have e3:=hd.one0;have qb1:=hb1.out;(try simp at qb1);have qb2:=hb2.out;(try simp at qb2);omega)).symm),hK.old⟩)
  · --
   have q_b1:100<((n_t:Int)):=of_decide_eq_true hb1.out
   iterate 4 refine eN ?_
   iterate 2 refine e0 ?_
   iterate 3 refine eN ?_
   iterate 2 refine e0 ?_
   iterate 3 refine eN ?_
   iterate 2 refine e0 ?_
   refine sxEnd (fun W6 hK=>?_);go_wp2
   try go_ret
   show Q0 (.returned (.bool true)) _
   exact(by obtain rfl:=hQ0.out;exact⟨congrArg (fun z=>Ending.returned (.bool z)) (by unfold largeD;exact(decide_eq_true (by have e1:=ht_1.one0;have e2:=ht_2.one0;have e3:=hd.one0;have qb1:=hb1.out;(try simp at qb1);omega)).symm),hK.old⟩)
end Go.Proofs.YtlhbcopaakejgaaGreatDoor
