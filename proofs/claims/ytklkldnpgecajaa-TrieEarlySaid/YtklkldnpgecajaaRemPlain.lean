/- remove as a plain function; what a call of it leaves. -/
import Derived.Test.YtklkldnpgecajaaTreePlain
namespace Go.Proofs.Ytklkldnpgecajaa
open Go.RowKit

def T.fix (a n : Nat) (v : Int) (h : Bool) (l r : T) : T :=
  match h, l, r with
  | true, l, r => .node a n v true l r
  | false, .nil, r => r
  | false, .node a1 n1 v1 h1 l1 r1, .nil => .node a1 n1 v1 h1 l1 r1
  | false, .node a1 n1 v1 h1 l1 r1, .node a2 n2 v2 h2 l2 r2 => .node a n v false (.node a1 n1 v1 h1 l1 r1) (.node a2 n2 v2 h2 l2 r2)
def T.remove (pa pn : Nat) : T → T
  | .nil => .nil
  | .node a n v h l r =>
    if a = pa ∧ n = pn then T.fix a n 0 false l r
    else if bit pa n = 0 then T.fix a n v h (l.remove pa pn) r else T.fix a n v h l (r.remove pa pn)
/-- The way to a prefix does not end too early. -/
def T.On (pa pn : Nat) : T → Prop
  | .nil => False
  | .node a n _ _ l r => (a = pa ∧ n = pn) ∨ (¬ (a = pa ∧ n = pn) ∧ n < 32 ∧ W32 a ∧ ((bit pa n = 0 ∧ l.On pa pn) ∨ (bit pa n = 1 ∧ r.On pa pn)))
def Left (X : XT) (t : T) (w : World) (e : Ending) (w' : World) : Prop :=
  ∃ X' : XT, e = .returned (.pointer X'.ptr) ∧ X'.t = t ∧ X'.In w' ∧ X'.blocks.Nodup ∧ (∀ b ∈ X'.blocks, b ∈ X.blocks ∨ w.heap.size ≤ b) ∧ Chg X.blocks w w'
/-- What is left of a node whose kids are L and R. -/
def XT.fix (b a n : Nat) (v : Int) (h : Bool) (l r : XT) : XT :=
  match h, l, r with
  | true, l, r => .node b a n v true l r
  | false, .nil, r => r
  | false, .node b1 a1 n1 v1 h1 l1 r1, .nil => .node b1 a1 n1 v1 h1 l1 r1
  | false, .node b1 a1 n1 v1 h1 l1 r1, .node b2 a2 n2 v2 h2 l2 r2 => .node b a n v false (.node b1 a1 n1 v1 h1 l1 r1) (.node b2 a2 n2 v2 h2 l2 r2)
theorem XT.fix_t (b a n : Nat) (v : Int) (h : Bool) (l r : XT) : (XT.fix b a n v h l r).t = T.fix a n v h l.t r.t := by
  cases h <;> cases l <;> cases r <;> simp [XT.fix, T.fix, XT.t]
theorem XT.fix_cases (b a n : Nat) (v : Int) (h : Bool) (l r : XT) : XT.fix b a n v h l r = .node b a n v h l r ∨ XT.fix b a n v h l r = l ∨ XT.fix b a n v h l r = r := by
  cases h <;> cases l <;> cases r <;> simp [XT.fix]
theorem left_fix {X : XT} {t : T} {w w' : World} {b a n : Nat} {v : Int} {h : Bool} {l r : XT} (hin : (XT.node b a n v h l r).In w') (hnd : (XT.node b a n v h l r).blocks.Nodup)
    (hb : ∀ c ∈ (XT.node b a n v h l r).blocks, c ∈ X.blocks ∨ w.heap.size ≤ c) (hc : Chg X.blocks w w') (ht : T.fix a n v h l.t r.t = t) : Left X t w (.returned (.pointer (XT.fix b a n v h l r).ptr)) w' := by
  obtain ⟨n1, n2⟩ := List.nodup_cons.1 hnd
  obtain ⟨n3, n4, n5⟩ := List.nodup_append.1 n2
  refine ⟨_, rfl, by rw [XT.fix_t, ht], ?_, ?_, ?_, hc⟩
  · rcases XT.fix_cases b a n v h l r with e | e | e <;> rw [e]
    · exact hin
    · exact hin.2.1
    · exact hin.2.2
  · rcases XT.fix_cases b a n v h l r with e | e | e <;> rw [e]
    · exact hnd
    · exact n3
    · exact n4
  · intro c hcm
    refine hb c ?_
    rcases XT.fix_cases b a n v h l r with e | e | e <;> rw [e] at hcm
    · exact hcm
    · exact List.mem_cons_of_mem _ (List.mem_append_left _ hcm)
    · exact List.mem_cons_of_mem _ (List.mem_append_right _ hcm)

theorem kid_step0 {w w2 : World} {b a n : Nat} {v : Int} {h : Bool} {l r L : XT} (hin : (XT.node b a n v h l r).In w) (hnd : (XT.node b a n v h l r).blocks.Nodup)
    (hL : L.In w2) (hLn : L.blocks.Nodup) (hLb : ∀ c ∈ L.blocks, c ∈ l.blocks ∨ w.heap.size ≤ c) (hc : Chg l.blocks w w2) :
    (XT.In (w2.setCell ⟨b, 4, none⟩ (.pointer L.ptr)) (.node b a n v h L r)) ∧ (XT.blocks (.node b a n v h L r)).Nodup ∧ (∀ c ∈ XT.blocks (.node b a n v h L r), c ∈ (XT.node b a n v h l r).blocks ∨ w.heap.size ≤ c) ∧ Chg (XT.node b a n v h l r).blocks w (w2.setCell ⟨b, 4, none⟩ (.pointer L.ptr)) := by
  obtain ⟨h0, hl, hr⟩ := hin
  have hbl : b < w.heap.size := (Array.getElem?_eq_some_iff.1 h0).1
  obtain ⟨n1, n2⟩ := List.nodup_cons.1 hnd
  obtain ⟨n3, n4, n5⟩ := List.nodup_append.1 n2
  have b1 : b ∉ l.blocks := fun hb => n1 (List.mem_append_left _ hb)
  have b2 : b ∉ r.blocks := fun hb => n1 (List.mem_append_right _ hb)
  have b3 : b ∉ L.blocks := fun hb => by rcases hLb b hb with h | h; exact b1 h; omega
  have h2 : w2.heap[b]? = some (nodeObj a n v h l.ptr r.ptr) := (hc.block b hbl b1).trans h0
  refine ⟨⟨node_set0 h2 _, hL.same fun c hc' => setCell_far _ (ne_of_in hc' b3), hr.same fun c hc' => ?_⟩, ?_, ?_, ?_⟩
  · rw [setCell_far _ (ne_of_in hc' b2)]
    exact hc.block c (hr.lt c hc') fun hcl => n5 c hcl c hc' rfl
  · refine List.nodup_cons.2 ⟨fun hb => ?_, List.nodup_append.2 ⟨hLn, n4, fun x hx y hy e => ?_⟩⟩
    · rcases List.mem_append.1 hb with hb | hb
      · exact b3 hb
      · exact b2 hb
    · subst e
      rcases hLb x hx with h | h
      · exact n5 x h x hy rfl
      · have := hr.lt x hy; omega
  · intro c hc'
    rcases List.mem_cons.1 hc' with rfl | hc'
    · exact .inl (List.mem_cons_self ..)
    · rcases List.mem_append.1 hc' with hc' | hc'
      · exact (hLb c hc').imp (fun h => List.mem_cons_of_mem _ (List.mem_append_left _ h)) id
      · exact .inl (List.mem_cons_of_mem _ (List.mem_append_right _ hc'))
  · exact (hc.mono fun c hc' => List.mem_cons_of_mem _ (List.mem_append_left _ hc')).setCell (p := ⟨b, 4, none⟩) (.inl (List.mem_cons_self ..)) _
theorem kid_step1 {w w2 : World} {b a n : Nat} {v : Int} {h : Bool} {l r R : XT} (hin : (XT.node b a n v h l r).In w) (hnd : (XT.node b a n v h l r).blocks.Nodup)
    (hR : R.In w2) (hRn : R.blocks.Nodup) (hRb : ∀ c ∈ R.blocks, c ∈ r.blocks ∨ w.heap.size ≤ c) (hc : Chg r.blocks w w2) :
    (XT.In (w2.setCell ⟨b, 5, none⟩ (.pointer R.ptr)) (.node b a n v h l R)) ∧ (XT.blocks (.node b a n v h l R)).Nodup ∧ (∀ c ∈ XT.blocks (.node b a n v h l R), c ∈ (XT.node b a n v h l r).blocks ∨ w.heap.size ≤ c) ∧ Chg (XT.node b a n v h l r).blocks w (w2.setCell ⟨b, 5, none⟩ (.pointer R.ptr)) := by
  obtain ⟨h0, hl, hr⟩ := hin
  have hbl : b < w.heap.size := (Array.getElem?_eq_some_iff.1 h0).1
  obtain ⟨n1, n2⟩ := List.nodup_cons.1 hnd
  obtain ⟨n3, n4, n5⟩ := List.nodup_append.1 n2
  have b1 : b ∉ l.blocks := fun hb => n1 (List.mem_append_left _ hb)
  have b2 : b ∉ r.blocks := fun hb => n1 (List.mem_append_right _ hb)
  have b3 : b ∉ R.blocks := fun hb => by rcases hRb b hb with h | h; exact b2 h; omega
  have h2 : w2.heap[b]? = some (nodeObj a n v h l.ptr r.ptr) := (hc.block b hbl b2).trans h0
  refine ⟨⟨node_set1 h2 _, hl.same fun c hc' => ?_, hR.same fun c hc' => setCell_far _ (ne_of_in hc' b3)⟩, ?_, ?_, ?_⟩
  · rw [setCell_far _ (ne_of_in hc' b1)]
    exact hc.block c (hl.lt c hc') fun hcr => n5 c hc' c hcr rfl
  · refine List.nodup_cons.2 ⟨fun hb => ?_, List.nodup_append.2 ⟨n3, hRn, fun x hx y hy e => ?_⟩⟩
    · rcases List.mem_append.1 hb with hb | hb
      · exact b1 hb
      · exact b3 hb
    · subst e
      rcases hRb x hy with h | h
      · exact n5 x hx x h rfl
      · have := hl.lt x hx; omega
  · intro c hc'
    rcases List.mem_cons.1 hc' with rfl | hc'
    · exact .inl (List.mem_cons_self ..)
    · rcases List.mem_append.1 hc' with hc' | hc'
      · exact .inl (List.mem_cons_of_mem _ (List.mem_append_left _ hc'))
      · exact (hRb c hc').imp (fun h => List.mem_cons_of_mem _ (List.mem_append_right _ h)) id
  · exact (hc.mono fun c hc' => List.mem_cons_of_mem _ (List.mem_append_right _ hc')).setCell (p := ⟨b, 5, none⟩) (.inl (List.mem_cons_self ..)) _


end Go.Proofs.Ytklkldnpgecajaa
