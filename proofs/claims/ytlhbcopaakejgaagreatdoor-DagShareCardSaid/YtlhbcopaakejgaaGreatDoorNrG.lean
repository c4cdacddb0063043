/- Rational numbers and their texts. -/

import Derived.Test.YtlhbcopaakejgaaGreatDoorNrF
import Derived.Lib.IndexMore
import Derived.Test.YtlhbcopaakejgaaGreatDoorShelf
namespace Go.Proofs.YtlhbcopaakejgaaGreatDoor
open Go.RowKit
open Go.Lib (decDigits)
def Bas(w:World):Prop:=Tab w∧True
theorem Bas.below{w w':World}(h:Bas w)(hb:Below w.heap.size w w'):Bas w':=⟨h.1.below hb,trivial⟩
theorem ntext_q(v:Value)(n:Nat)(w:World)(hv:NatV w v n)(hB:Bas w)(hl:(digs B32 n).length≤100000):
    Calls Tryz.prog 33 #[v] w fun e w'=>e=.returned (.string ⟨(decDigits n).toArray⟩)∧Below w.heap.size w w':=text_any v n w hv hB.1 hl
theorem textQ_eq{x:Rat}{b0 b1:Bool}(h0:isN x=b0)(h1:(den0 x==0)=b1):textQ x=(if b0 then[45]else[])++(decDigits x.num.natAbs++(if b1 then[]else 47::decDigits (den0 x))):=by
  subst h0;subst h1;unfold textQ
  congr 2
  by_cases h:x.den=1
  · rw[if_pos h,(den0_zero x).2 h];rfl
  · have e:den0 x≠0:=fun e=>h ((den0_zero x).1 e)
    rw[if_neg h,if_neg (by simpa using e)];unfold den0;rw[if_neg h]
theorem textQ_eq2{x:Rat}{b0 b1:Bool}(h0:isN x=b0)(h1:decide (0<((digs B6 (den0 x)).length:Int))=b1):textQ x=(if b0 then[45]else[])++(decDigits x.num.natAbs++(if b1 then 47::decDigits (den0 x)else[])):=by
  have h2:=len6_lt h1;rw[textQ_eq h0 rfl]
  cases b1 with
  |false=>rw[h2.2 rfl];rfl
  | true=>
    have:den0 x≠0:=fun e=>by have:=h2.1 e;cases this
    rw[show(den0 x==0)=false by simp[this]];rfl
set_option maxRecDepth 100000 in
theorem qtext_q(v0:Value)(x:Rat)(w:World)(h0:RatV w v0 x)(hB0:Bas w){k:Nat}(hx:LmQ k x)(hk:k≤10000):
    Calls Tryz.prog 8 #[v0] w fun e w'=>e=.returned (.string ⟨(textQ x).toArray⟩)∧Below w.heap.size w w':=by
  have h0_0:=h0;obtain⟨p_h0,l_h0,c_h0,q_h0,m_h0,d_h0,rfl,h0_1,h0_2⟩:=h0;have hK:=SS.start w;have e1:=dec_len hx.n;have e2:=dec_len hx.d;have ez:(decDigits (den0 x)).length≤18*k+1:=dec_len hx.d0;have e3:=hx.n.len;have e4:=hx.d0.len;obtain⟨b0,hb0⟩:∃b,RowKit.Hid (isN x=b):=⟨_,hid rfl⟩;rw[hb0.out]at h0_0⊢;obtain⟨sg,hsg⟩:∃s,RowKit.Hid (s=(if b0 then[45]else[]:List UInt8)):=⟨_,hid rfl⟩;have eb:sg.length≤1:=by rw[hsg.out];cases b0<;>decide
  refine Calls.hide (fun Q0 hQ0=>?_);go_enter Tryz.func8,Tryz.ntmps8;go_upto_region 0 with(fail);refine wp_region_T [3,0] hK ?_;clear hK;refine eA (.cells #[.bool b0,.slice p_h0 l_h0 c_h0,.slice q_h0 m_h0 d_h0] 41) (fun R1=>?_);refine e0 ?_;refine sxEnd (fun W2 hK=>?_);go_upto_region 1 with(fail);refine wp_region_T [0,1,1,0] hK ?_;clear hK;refine e0 ?_;refine eL m0 ?_;refine eQ (fun w k=>ntext_q _ _ w (h0_1.below k.old) (hB0.below k.old) (by omega)) ?_;refine e0 ?_;refine sxEnd (fun W3 hK=>?_);go_upto_region 2 with(fail);refine wp_region_T [0,1] hK ?_;clear hK;refine e0 ?_;refine eL m0 ?_;refine sxEnd (fun W4 hK=>?_);go_upto_if 8 with(fail);go_cut [3]from 9999 to 9999 (fun s3 wl=>s3=.string ⟨(sg++decDigits x.num.natAbs).toArray⟩∧SS w ([bx R1 (.cells #[.bool b0,.slice p_h0 l_h0 c_h0,.slice q_h0 m_h0 d_h0] 41)]) wl)
  case first=>
   cases b0
   · --
    (try go_wp2)
    go_meet
    case rel=>exact⟨(by rw[hsg.out];rfl),hK⟩
   · --
    go_upto_region 3 with(fail);refine wp_region_T [0,0,0] hK ?_;clear hK;refine e0 ?_;refine eV (.string ⟨([45]++decDigits x.num.natAbs).toArray⟩) (fun w'=>by go_simp;(try go_bits);rw[if_neg (by omega)];exact⟨congrArg Value.string (str_add _ _),rfl⟩) ?_;refine e0 ?_;refine sxEnd (fun W5 hK=>?_)
    (try go_wp2)
    go_meet
    case rel=>exact⟨(by rw[hsg.out];rfl),hK⟩
  case rest=>
   clear hK;obtain⟨rfl,hK⟩:=hcut;generalize wc=W6 at hK⊢;go_upto_region 4 with(fail);refine wp_region_T [0,1,1,0] hK ?_;clear hK;refine e0 ?_;refine eL m0 ?_;obtain⟨b1,hb1⟩:∃z9:Bool,RowKit.Hid (((den0 x)==0)=z9):=⟨_,hid rfl⟩;refine eQ (v:=.bool b1) (fun w k=>isZero_any _ _ w (h0_2.below k.old)) ?_ (hv:=by rw[hb1.out]);refine e0 ?_;refine sxEnd (fun W7 hK=>?_);go_upto_if 14 with(fail);go_cut [3]from 9999 to 9999 (fun s3 wl=>s3=.string ⟨(textQ x).toArray⟩∧SS w ([bx R1 (.cells #[.bool b0,.slice p_h0 l_h0 c_h0,.slice q_h0 m_h0 d_h0] 41)]) wl)
   case first=>
    cases b1
    · --
     go_upto_region 5 with(fail);refine wp_region_T [0,0,1,1,0,0,0] hK ?_;clear hK
     iterate 2 refine e0 ?_
     refine eL m0 ?_;refine eQ (fun w k=>ntext_q _ _ w (h0_2.below k.old) (hB0.below k.old) (by omega)) ?_;refine eV (.string ⟨([47]++decDigits (den0 x)).toArray⟩) (fun w'=>by go_simp;(try go_bits);rw[if_neg (by omega)];exact⟨congrArg Value.string (str_add _ _),rfl⟩) ?_;refine eV (.string ⟨((sg++decDigits x.num.natAbs)++([47]++decDigits (den0 x))).toArray⟩) (fun w'=>by go_simp;(try go_bits);rw[if_neg (by omega)];exact⟨congrArg Value.string ((str_add _ _).trans (by simp)),rfl⟩) ?_;refine e0 ?_;refine sxEnd (fun W8 hK=>?_)
     (try go_wp2)
     go_meet
     case rel=>exact⟨(by rw[textQ_eq hb0.out hb1.out,hsg.out];simp[numQ]),hK⟩
    · --
     (try go_wp2)
     go_meet
     case rel=>exact⟨(by rw[textQ_eq hb0.out hb1.out,hsg.out];simp[numQ]),hK⟩
   case rest=>
    clear hK;obtain⟨rfl,hK⟩:=hcut;generalize wc=W9 at hK⊢;go_wp2
    try go_ret
    show Q0 (.returned (.string ⟨(textQ x).toArray⟩)) _
    exact(by obtain rfl:=hQ0.out;exact⟨rfl,hK.old⟩)
set_option maxRecDepth 100000 in
theorem rtext_q(v0:Value)(x:Rat)(w:World)(h0:RefR w v0 x) {k:Nat}(hx:LmQ k x)(hk:k≤10000):
    Calls Tryz.prog 9 #[v0] w fun e w'=>e=.returned (.string ⟨(textQ x).toArray⟩)∧Below w.heap.size w w':=by
  have h0_0:=h0;obtain⟨p_h0,c_h0,q_h0,d_h0,rfl,h0_1,h0_2⟩:=h0.slr;have hK:=SS.start w;have e1:=dec_len hx.n;have e2:=dec_len hx.d;have ez:(decDigits (den0 x)).length≤18*k+1:=dec_len hx.d0;have e3:=hx.n.len;have e4:=hx.d0.len;have e5:(decDigits (numQ x)).length≤18*k+1:=e1;have e6:(digs B6 (numQ x)).length≤2*k:=hx.n.len6;have e7:(digs B6 (den0 x)).length≤2*k:=hx.d0.len6;obtain⟨b0,hb0⟩:∃b,RowKit.Hid (isN x=b):=⟨_,hid rfl⟩;rw[hb0.out]at h0_0⊢;obtain⟨sg,hsg⟩:∃s,RowKit.Hid (s=(if b0 then[45]else[]:List UInt8)):=⟨_,hid rfl⟩;have eb:sg.length≤1:=by rw[hsg.out];cases b0<;>decide
  refine Calls.hide (fun Q0 hQ0=>?_);go_enter Tryz.func9,Tryz.ntmps9;go_upto_region 0 with(fail);refine wp_region_T [3,0] hK ?_;clear hK;refine eA (.cells #[.bool b0,.slice p_h0 (digs B6 (numQ x)).length c_h0,.slice q_h0 (digs B6 (den0 x)).length d_h0] 46) (fun R1=>?_);refine e0 ?_;refine sxEnd (fun W2 hK=>?_);go_upto_region 1 with(fail);refine wp_region_T [0,1,1,0] hK ?_;clear hK;refine e0 ?_;refine eL m0 ?_;refine eQ (fun w k=>rtext_any _ _ w (h0_1.below k.old) (by omega) (by omega)) ?_;refine e0 ?_;refine sxEnd (fun W3 hK=>?_);go_upto_region 2 with(fail);refine wp_region_T [0,1] hK ?_;clear hK;refine e0 ?_;refine eL m0 ?_;refine sxEnd (fun W4 hK=>?_);go_upto_if 8 with(fail);go_cut [3]from 9999 to 9999 (fun s3 wl=>s3=.string ⟨(sg++decDigits (numQ x)).toArray⟩∧SS w ([bx R1 (.cells #[.bool b0,.slice p_h0 (digs B6 (numQ x)).length c_h0,.slice q_h0 (digs B6 (den0 x)).length d_h0] 46)]) wl)
  case first=>
   cases b0
   · --
    (try go_wp2)
    go_meet
    case rel=>exact⟨(by rw[hsg.out];rfl),hK⟩
   · --
    go_upto_region 3 with(fail);refine wp_region_T [0,0,0] hK ?_;clear hK;refine e0 ?_;refine eV (.string ⟨([45]++decDigits (numQ x)).toArray⟩) (fun w'=>by go_simp;(try go_bits);rw[if_neg (by omega)];exact⟨congrArg Value.string (str_add _ _),rfl⟩) ?_;refine e0 ?_;refine sxEnd (fun W5 hK=>?_)
    (try go_wp2)
    go_meet
    case rel=>exact⟨(by rw[hsg.out];rfl),hK⟩
  case rest=>
   clear hK;obtain⟨rfl,hK⟩:=hcut;generalize wc=W6 at hK⊢;go_upto_region 4 with(fail);refine wp_region_T [0,1,0,0] hK ?_;clear hK;refine e0 ?_;refine eL m0 ?_;refine e0 ?_;refine eB (decide (0<(((digs B6 (den0 x)).length:Int)))) (fun b1 hb1=>?_);refine sxEnd (fun W7 hK=>?_);go_upto_if 14 with(fail);go_cut [3]from 9999 to 9999 (fun s3 wl=>s3=.string ⟨(textQ x).toArray⟩∧SS w ([bx R1 (.cells #[.bool b0,.slice p_h0 (digs B6 (numQ x)).length c_h0,.slice q_h0 (digs B6 (den0 x)).length d_h0] 46)]) wl)
   case first=>
    cases b1
    · --
     have q_b1:(((digs B6 (den0 x)).length:Int))≤0:=Int.not_lt.1 (of_decide_eq_false hb1.out)
     (try go_wp2)
     go_meet
     case rel=>exact⟨(by rw[textQ_eq2 hb0.out hb1.out,hsg.out];simp[numQ]),hK⟩
    · --
     have q_b1:0<(((digs B6 (den0 x)).length:Int)):=of_decide_eq_true hb1.out;go_upto_region 5 with(fail);refine wp_region_T [0,0,1,1,0,0,0] hK ?_;clear hK
     iterate 2 refine e0 ?_
     refine eL m0 ?_;refine eQ (fun w k=>rtext_any _ _ w (h0_2.below k.old) (by omega) (by omega)) ?_;refine eV (.string ⟨([47]++decDigits (den0 x)).toArray⟩) (fun w'=>by go_simp;(try go_bits);rw[if_neg (by omega)];exact⟨congrArg Value.string (str_add _ _),rfl⟩) ?_;refine eV (.string ⟨((sg++decDigits (numQ x))++([47]++decDigits (den0 x))).toArray⟩) (fun w'=>by go_simp;(try go_bits);rw[if_neg (by omega)];exact⟨congrArg Value.string ((str_add _ _).trans (by simp)),rfl⟩) ?_;refine e0 ?_;refine sxEnd (fun W8 hK=>?_)
     (try go_wp2)
     go_meet
     case rel=>exact⟨(by rw[textQ_eq2 hb0.out hb1.out,hsg.out];simp[numQ]),hK⟩
   case rest=>
    clear hK;obtain⟨rfl,hK⟩:=hcut;generalize wc=W9 at hK⊢;go_wp2
    try go_ret
    show Q0 (.returned (.string ⟨(textQ x).toArray⟩)) _
    exact(by obtain rfl:=hQ0.out;exact⟨rfl,hK.old⟩)
end Go.Proofs.YtlhbcopaakejgaaGreatDoor
