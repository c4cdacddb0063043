/- The shares are what they are: they are told by what they satisfy. No program in sight. -/

import Derived.Test.YtlhbcopaakejgaaGreatDoorDagL
namespace Go.Proofs.YtlhbcopaakejgaaGreatDoor
open Go.RowKit
section
variable {t:TopD}{down:List Bool}{l:List Int}{s d:Nat}{o:List Nat}{am sh am' sh':List Rat}
theorem ShrI.same(h:ShrI t down l s d o am sh)(h':ShrI t down l s d o am' sh'){a:Nat}(hx:a<arcsD t→onD t down l d a=true→am.getD (tN t a) 0=am'.getD (tN t a) 0):sh.getD a 0=sh'.getD a 0:=by
  rw[h.hs,h'.hs]
  split
  · rename_i w;rw[hx w.1 w.2.2]
  · rfl
theorem ShrI.uni_am(ht:topOk t=true)(hb:∀x,atD l x≤4300000)(h:ShrI t down l s d o am sh)(h':ShrI t down l s d o am' sh'):∀(n:Nat) (x:Nat),x<nN t→(4300000-atD l x).toNat≤n→am.getD x 0=am'.getD x 0:=by
  intro n
  induction n with
  | zero=>
    intro x hx hn;rw[h.ha x hx,h'.ha x hx]
    congr 1
    refine sum_congr fun a ha=>h.same h' fun h1 h2=>?_
    have hq:=nxt_less ht (mem_nxt.2 ⟨h1,rfl,h2⟩);have hx2:hN t a=x:=of_decide_eq_true (List.mem_filter.1 ha).2;have:=hb (tN t a);rw[hx2]at hq;omega
  | succ n ih=>
    intro x hx hn;rw[h.ha x hx,h'.ha x hx]
    congr 1
    refine sum_congr fun a ha=>h.same h' fun h1 h2=>?_
    have hq:=nxt_less ht (mem_nxt.2 ⟨h1,rfl,h2⟩);have hx2:hN t a=x:=of_decide_eq_true (List.mem_filter.1 ha).2;have:=hb (tN t a);rw[hx2]at hq;exact ih (tN t a) ((arc_ok ht h1).2.2.2.1) (by omega)
theorem ShrI.uni(ht:topOk t=true)(hb:∀x,atD l x≤4300000)(h:ShrI t down l s d o am sh)(h':ShrI t down l s d o am' sh'):sh=sh':=by
  refine List.ext_getElem? fun a=>?_
  have e:sh.getD a 0=sh'.getD a 0:=h.same h' fun h1 _=>h.uni_am ht hb h' _ _ ((arc_ok ht h1).2.2.2.1) (Nat.le_refl _)
  rcases Nat.lt_or_ge a (arcsD t)with ha|ha
  · have h1:a<sh.length:=by rw[h.ls];exact ha
    have h2:a<sh'.length:=by rw[h'.ls];exact ha
    rw[List.getElem?_eq_getElem h1,List.getElem?_eq_getElem h2];rw[List.getD,List.getElem?_eq_getElem h1,List.getD,List.getElem?_eq_getElem h2]at e;exact congrArg some e
  · rw[List.getElem?_eq_none (by rw[h.ls];exact ha),List.getElem?_eq_none (by rw[h'.ls];exact ha)]
theorem PshI.own(ht:topOk t=true){v:Rat}{m k:Nat}(h:PshI t v am sh ((nxtD t down l m d).take k) am' sh')(hm:m<am.length):am'.getD m 0=am.getD m 0:=by
  rw[h.a m hm,sum_zero (fun a ha=>?_),Rat.add_zero];have hq:=nxt_less ht (List.mem_of_mem_take ha);rw[if_neg (fun e=>by rw[e]at hq;omega)]
end
end Go.Proofs.YtlhbcopaakejgaaGreatDoor
