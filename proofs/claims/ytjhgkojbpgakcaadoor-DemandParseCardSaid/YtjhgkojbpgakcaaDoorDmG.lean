/- A drawn region whose last operation waits for all others. -/
import Derived.Test.YtjhgkojbpgakcaaDoorDmF
namespace Go.Proofs.YtjhgkojbpgakcaaDoor
open Go.RowKit
section
variable {P : Program} {P0 : World → Prop} {base : Nat} {ops : Array Oper} {md : Region.Mode} {F : Fence} {n : Nat}
def initO : List Oper → List Oper
  | [] => []
  | [_] => []
  | a :: b :: l => a :: initO (b :: l)
def lastO : List Oper → List Oper
  | [] => []
  | [o] => [o]
  | _ :: b :: l => lastO (b :: l)
theorem init_last : ∀ {l : List Oper}, l ≠ [] → ∃ o, lastO l = [o] ∧ l = initO l ++ [o]
  | [], h => absurd rfl h
  | [o], _ => ⟨o, rfl, rfl⟩
  | a :: b :: l, _ => by
    obtain ⟨o, h1, h2⟩ := init_last (l := b :: l) (by simp)
    refine ⟨o, h1, ?_⟩
    show a :: (b :: l) = a :: (initO (b :: l) ++ [o])
    rw [← h2]
def lastB (md : Region.Mode) (l : List Oper) : Bool := match lastO l with
  | [o] => (List.range (l.length - 1)).all fun j => o.after.toList.any fun e => e.on == j && Region.binds md e
  | _ => false
theorem wpAnyIn_of_NL (hF : Wide F n P) (hdef : ∀ (j : Nat) (o : Oper) c, ops[j]? = some o → o.op ≠ .defer c) {kd : Nat → Nat} {ks : List Nat} (hkd : ∀ i, kd i = ks.getD i 0) {Q' : Exit → Act → World → Prop} {m : Nat} {oL : Oper} (hm1 : ops.size = m + 1) (hoL : ops[m]? = some oL) (hL : ∀ j, j < m → ∃ e ∈ oL.after, e.on = j ∧ Region.binds md e = true) {w0 : World} (hw0 : P0 w0) (hbase : ∀ w, P0 w → base ≤ w.heap.size) (hsel : ∀ (j : Nat) (o : Oper) cs b, ops[j]? = some o → o.op ≠ .select cs b) (hB : floatB md ops ks = true) :
    ∀ (fuel : Nat) (listed : Array Bool) (l : List Nat) (S : Kl) (a : Act) (w : World), (∀ i, i ∈ l ↔ i < m ∧ listed.getD i true = false) → listed.getD m true = false → l.Pairwise (· < ·) → listed.size = ops.size → Closed md ops listed → Gd P0 S → S.s w → wpN P P0 base ops kd (fun a w => wpListIn F n P ops Q' [oL] a w) l S a → l.length + 1 ≤ fuel → wpAnyIn F n P md ops Q' fuel listed a w
  | 0, _, _, _, _, _, _, _, _, _, _, _, _, _, hf => absurd hf (by omega)
  | fuel + 1, listed, l, S, a, w, hm, hlm, hpw, hsz, hcl, hS, hw, h, hf => by
    have hin : ∀ j, j < m → listed.getD j false = false → j ∈ l := fun j hj hv => (hm j).2 ⟨hj, by
      have hes : j < listed.size := by omega
      rw [Array.getD_eq_getD_getElem?, Array.getElem?_eq_getElem hes] at hv ⊢
      simpa using hv⟩
    refine ⟨fun h0 => ?_, fun i hi => ?_⟩
    · exfalso
      cases l with
      | nil =>
        have hr : m ∈ Region.ready md ops listed := mem_ready.2 ⟨hlm, _, hoL, fun e he hb => by
          have hlt := (floatB_spec hB hoL).1 e he hb
          cases hv : listed.getD e.on false with
          | true => rfl
          | false => exact absurd (hin _ hlt hv) List.not_mem_nil⟩
        rw [h0] at hr
        cases hr
      | cons j l =>
        obtain ⟨hj1, hj2⟩ := (hm j).1 (List.mem_cons_self ..)
        have hoj : ops[j]? = some (ops[j]'(by omega)) := Array.getElem?_eq_getElem (by omega)
        have hr : j ∈ Region.ready md ops listed := mem_ready.2 ⟨hj2, _, hoj, fun e he hb => by
          have hlt := (floatB_spec hB hoj).1 e he hb
          cases hv : listed.getD e.on false with
          | true => rfl
          | false =>
            exfalso
            have h4 := hin e.on (by omega) hv
            rw [List.pairwise_cons] at hpw
            rcases List.mem_cons.1 h4 with h5 | h5
            · omega
            · have := hpw.1 _ h5; omega⟩
        rw [h0] at hr
        cases hr
    · obtain ⟨hun, oi, ho, hdn⟩ := mem_ready.1 hi
      by_cases him : i = m
      · subst him
        obtain rfl : oL = oi := Option.some.inj (hoL.symm.trans ho)
        obtain rfl : l = [] := by
          refine List.eq_nil_iff_forall_not_mem.2 fun j hj => ?_
          obtain ⟨hj1, hj2⟩ := (hm j).1 hj
          obtain ⟨e, he, rfl, hb⟩ := hL j hj1
          have h3 := hdn e he hb
          have hes : e.on < listed.size := by omega
          rw [Array.getD_eq_getD_getElem?, Array.getElem?_eq_getElem hes] at hj2 h3
          simp only [Option.getD_some] at hj2 h3
          rw [hj2] at h3; cases h3
        have h1 : wpListIn F n P ops Q' [oL] a w := h w hw
        have hdone : ∀ a w, Q' .normal a w → wpAnyIn F n P md ops Q' fuel (listed.setIfInBounds i true) a w := fun a w hq => by
          have hr : Region.ready md ops (listed.setIfInBounds i true) = [] := by
            refine List.eq_nil_iff_forall_not_mem.2 fun j hj => ?_
            obtain ⟨hj1, o, hoj, _⟩ := mem_ready.1 hj
            have hjs : j < i + 1 := by rw [← hm1]; exact (Array.getElem?_eq_some_iff.1 hoj).1
            by_cases hji : i = j
            · subst hji
              have his : i < listed.size := by omega
              simp [his] at hj1
            · rw [getD_set_ne true hji] at hj1
              exact absurd ((hm j).2 ⟨by omega, hj1⟩) List.not_mem_nil
          exact wpAnyIn_done hr hq _
        unfold wpOpIn
        rw [ho]
        unfold wpListIn at h1
        dsimp only
        split
        · rename_i hg
          rw [if_pos hg] at h1
          exact Oper.wpIn_mono (fun a w hq => hdone a w hq) h1
        · rename_i hg
          rw [if_neg hg] at h1
          exact ⟨h1.1, hdone _ _ h1.2⟩
      · have hil : i ∈ l := (hm i).2 ⟨by have := (Array.getElem?_eq_some_iff.1 ho).1; omega, hun⟩
        have hpl := nPull (kd := kd) hw0 hsel ho l S a hpw hil (fun j hj hlt oj hoj => by
          rcases (floatB_spec hB ho).2 j oj hlt hoj with h1 | h1
          · have h2 := h1 listed hcl hi
            have h3 := ((hm j).1 hj).2
            have hjs : j < listed.size := by rw [hsz]; have := ((hm j).1 hj).1; omega
            rw [Array.getD_eq_getD_getElem?, Array.getElem?_eq_getElem hjs] at h2 h3
            simp only [Option.getD_some] at h2 h3
            rw [h2] at h3; cases h3
          · rw [hkd, hkd]; exact ⟨h1.2, h1.1⟩) hS h
        unfold wpOpIn
        rw [ho]
        refine nStep.wpIn hF (fun c => hdef i oi c ho) hbase hS hw (fun S' a' w' hS' hw' hk => ?_) hpl
        refine wpAnyIn_of_NL hF hdef hkd hm1 hoL hL hw0 hbase hsel hB fuel _ (l.erase i) S' a' w' (fun k => ?_) (by rw [getD_set_ne true him]; exact hlm) (hpw.sublist List.erase_sublist) (by rw [Array.size_setIfInBounds]; exact hsz) (hcl.set hi) hS' hw' hk (by rw [List.length_erase_of_mem hil]; have := List.length_pos_of_mem hil; omega)
        have hnd : l.Nodup := hpw.imp (fun h => Nat.ne_of_lt h)
        rw [hnd.mem_erase_iff, hm k]
        by_cases hki : i = k
        · subst hki
          have his : i < listed.size := by rw [hsz]; exact (Array.getElem?_eq_some_iff.1 ho).1
          simp [his]
        · rw [getD_set_ne true hki]
          exact ⟨fun h => h.2, fun h => ⟨fun e => hki e.symm, h⟩⟩
theorem wpX_to_NL {Q : Act → World → Prop} {kd : Nat → Nat} {ks0 : List Nat} (hkd : ∀ i, kd i = ks0.getD i 0) : ∀ (l : List Oper) (k : Nat) (S : Kl) (a : Act), k + l.length ≤ ks0.length → Gd P0 S → (∀ j, j < l.length → l[j]? = ops[k + j]?) → wpX P P0 base ops Q (ks0.drop k) l S a → wpN P P0 base ops kd Q (List.range' k l.length) S a
  | [], k, S, a, _, _, _, h => by cases hk : ks0.drop k <;> (rw [hk] at h; exact h)
  | o :: l, k, S, a, hlen, hS, hl, h => by
    rw [List.length_cons] at hlen
    have h0 : ops[k]? = some o := by simpa using (hl 0 (by simp)).symm
    have hks : k < ks0.length := by omega
    have hdrop : ks0.drop k = ks0.getD k 0 :: ks0.drop (k + 1) := by
      rw [List.drop_eq_getElem_cons hks]
      simp [hks]
    rw [hdrop] at h
    rw [List.length_cons, List.range'_succ]
    unfold wpN
    rw [h0]
    dsimp only
    rw [hkd]
    exact nStep.mono hS (fun S' a' hS' h' => wpX_to_NL hkd l (k + 1) S' a' (by omega) hS' (fun j hj => by have := hl (j + 1) (by rw [List.length_cons]; omega); simpa [Nat.add_assoc, Nat.add_comm 1 j] using this) h') h
end
section
variable {P : Program} {V : World} {fs f0 : List Ft} {a : Act} {F : Fence} {n : Nat} {ops : Array Oper}
theorem wpListIn_L (hF : Wide F n P) {Q : Exit → Act → World → Prop} {w : World} {l : List Oper} (ks : List Nat) (hK : SS V fs w) (h : Sx P V ops (fun a w => Q .normal a w) [] ks l fs a) (hnd : (l.all fun o => match o.op with | .defer _ => false | _ => true) = true := by kernel_rfl) : wpListIn F n P ops Q l a w :=
  wpListIn_of_X hF (P0 := SS V []) (base := V.heap.size) (fun _ h => h.old.size) ks l _ a w hnd (gdS (List.nil_sublist _)) hK (h.out (List.nil_sublist _))
theorem wpIn_region_L (hF : Wide F n P) {id : Nat} {Q : Exit → Act → World → Prop} {w : World} {L : List Oper} (f0 : List Ft) (ks : List Nat) (hK : SS V fs w) (h : Sx P V L.toArray (fun a w => wpListIn F n P L.toArray Q (lastO L) a w) f0 ks (initO L) fs a) (hs : f0.Sublist fs) (hm : P.follows .mixedOrders = true := by kernel_rfl)
    (hn : Region.noSelect L.toArray = true := by kernel_rfl) (hlen : (L.length == ks.length + 1) = true := by kernel_rfl) (hst : floatB .any L.toArray (ks ++ [4]) = true := by kernel_rfl) (hnd : noDefer L.toArray = true := by kernel_rfl) (hla : lastB .any L = true := by kernel_rfl) : (Code.region id L.toArray true).wpIn F n P Q a w := by
  have hlen' : L.length = ks.length + 1 := by simpa using hlen
  have hne : L ≠ [] := fun e => by rw [e] at hlen'; simp at hlen'
  obtain ⟨oL, hl, hL⟩ := init_last hne
  have hli : (initO L).length = ks.length := by have := congrArg List.length hL; rw [List.length_append] at this; simp at this; omega
  rw [hl] at h
  have hget : ∀ j, j < (initO L).length → (initO L)[j]? = L[j]? := fun j hj => by
    conv => rhs; rw [hL]
    rw [List.getElem?_append_left hj]
  have hgl : L[ks.length]? = some oL := by
    rw [hL, List.getElem?_append_right (by omega), hli]; simp
  refine wpIn_region_any hm ?_
  refine wpAnyIn_of_NL hF (noDefer_spec hnd) (P0 := SS V f0) (base := V.heap.size) (kd := fun i => (ks ++ [4]).getD i 0) (ks := ks ++ [4]) (fun _ => rfl) (m := ks.length) (oL := oL) (by simpa using hlen') (by simpa using hgl) (fun j hj => ?_) ((gdS hs).p _ hK.drew) (fun _ h => h.old.size) (Region.noSelect_spec hn) hst _ _ (List.range' 0 (initO L).length) ⟨Own fs, SS V fs⟩ a _ (fun i => ?_) (by simp [hlen']) List.pairwise_lt_range' (by simp) (fun j o hj ht => ?_) (gdS hs) hK.drew
    (wpX_to_NL (ops := L.toArray) (ks0 := ks ++ [4]) (fun _ => rfl) (initO L) 0 _ a (by simp; omega) (gdS hs) (fun j hj => by simpa using hget j hj) ?_) (by simp; omega)
  · unfold lastB at hla
    rw [hl] at hla
    dsimp only at hla
    have h1 := List.all_eq_true.1 hla j (List.mem_range.2 (by omega))
    obtain ⟨e, he, h2⟩ := List.any_eq_true.1 h1
    rw [Bool.and_eq_true] at h2
    exact ⟨e, by simpa using he, by simpa using h2.1, h2.2⟩
  · rw [List.mem_range'_1]
    constructor
    · intro hi
      have hlt : i < L.length := by omega
      exact ⟨by omega, by simp [hlt]⟩
    · intro hi
      exact ⟨Nat.zero_le _, by have := hi.1; omega⟩
  · have hlt : j < L.toArray.size := (Array.getElem?_eq_some_iff.1 hj).1
    simp at hlt
    simp [hlt] at ht
  · have h9 := h.out hs
    have hx : ∀ (ks ks' : List Nat) (l : List Oper) (S : Kl) (a : Act), l.length = ks.length → Gd (SS V f0) S → wpX P (SS V f0) V.heap.size L.toArray (fun a w => wpListIn F n P L.toArray Q [oL] a w) ks l S a → wpX P (SS V f0) V.heap.size L.toArray (fun a w => wpListIn F n P L.toArray Q [oL] a w) (ks ++ ks') l S a := by
      intro ks ks' l
      induction l generalizing ks with
      | nil => intro S a _ _ h; cases ks <;> cases ks' <;> exact h
      | cons o l ih =>
        intro S a he hg h
        cases ks with
        | nil => cases he
        | cons k ks =>
          rw [List.length_cons, List.length_cons] at he
          exact nStep.mono hg (fun S' a' hg' hk => ih ks S' a' (by omega) hg' hk) h
    exact hx ks [4] (initO L) _ a hli (gdS hs) h9
end
end Go.Proofs.YtjhgkojbpgakcaaDoor
