/- The trie as a plain tree, and the same tree with the addresses of its nodes: no walk in this text. -/
import Derived.Test.YtklkldnpgecajaaPfxPlain
import Derived.Below
import Derived.Lib.BitFns
namespace Go.Proofs.Ytklkldnpgecajaa
open Go.RowKit

/-- A trie: a node's prefix, value, whether it has a route, its two kids. -/
inductive T where
  | nil
  | node (a n : Nat) (v : Int) (h : Bool) (l r : T)

/-- The bit of an address behind the first n ones. -/
def bit (a n : Nat) : Nat := a / 2 ^ (31 - n) % 2
/-- How many first bits two addresses have in common. -/
def com (x y : Nat) : Nat := 32 - Lib.bitLen (x ^^^ y)

def T.put (ra rn : Nat) (rv : Int) : T → T
  | .nil => .node ra rn rv true .nil .nil
  | .node a n v h l r =>
    if a = ra ∧ n = rn then .node ra rn rv true l r
    else if cvr a n ra rn = true then (if bit ra n = 0 then .node a n v h (l.put ra rn rv) r else .node a n v h l (r.put ra rn rv))
    else if cvr ra rn a n = true then (if bit a rn = 0 then .node ra rn rv true (.node a n v h l r) .nil else .node ra rn rv true .nil (.node a n v h l r))
    else if bit ra (com ra a) = 0 then .node (base (com ra a) ra) (com ra a) 0 false (.node ra rn rv true .nil .nil) (.node a n v h l r)
    else .node (base (com ra a) ra) (com ra a) 0 false (.node a n v h l r) (.node ra rn rv true .nil .nil)

/-- Each node's prefix is valid. -/
def T.Fine : T → Prop
  | .nil => True
  | .node a n _ _ l r => (W32 a ∧ vld a (n : Int) = true) ∧ l.Fine ∧ r.Fine

/-- A trie with the blocks of its nodes. -/
inductive XT where
  | nil
  | node (b : Nat) (a n : Nat) (v : Int) (h : Bool) (l r : XT)
instance : Nonempty XT := ⟨.nil⟩
def XT.ptr : XT → Option Addr
  | .nil => none
  | .node b _ _ _ _ _ _ => some ⟨b, 0, none⟩
def XT.t : XT → T
  | .nil => .nil
  | .node _ a n v h l r => .node a n v h l.t r.t
def XT.blocks : XT → List Nat
  | .nil => []
  | .node b _ _ _ _ l r => b :: (l.blocks ++ r.blocks)
/-- A node's block. -/
def nodeObj (a n : Nat) (v : Int) (h : Bool) (p q : Option Addr) : Obj :=
  .cells #[.int .u32 (a : Int), .int .i64 (n : Int), .int .i64 v, .bool h, .pointer p, .pointer q] 71 (0, 0)
/-- The nodes lie in the world. -/
def XT.In (w : World) : XT → Prop
  | .nil => True
  | .node b a n v h l r => w.heap[b]? = some (nodeObj a n v h l.ptr r.ptr) ∧ l.In w ∧ r.In w

theorem XT.In.lt {w : World} : ∀ {X : XT}, X.In w → ∀ b ∈ X.blocks, b < w.heap.size
  | .nil, _, b, hb => by cases hb
  | .node _ _ _ _ _ _ _, ⟨h0, hl, hr⟩, b, hb => by
    rcases List.mem_cons.1 hb with rfl | hb
    · exact (Array.getElem?_eq_some_iff.1 h0).1
    · rcases List.mem_append.1 hb with hb | hb
      · exact hl.lt b hb
      · exact hr.lt b hb
theorem XT.In.same {w w' : World} : ∀ {X : XT}, X.In w → (∀ b ∈ X.blocks, w'.heap[b]? = w.heap[b]?) → X.In w'
  | .nil, _, _ => trivial
  | .node c _ _ _ _ _ _, ⟨h0, hl, hr⟩, hs =>
    ⟨(hs c (List.mem_cons_self ..)).trans h0, hl.same fun b hb => hs b (List.mem_cons_of_mem _ (List.mem_append_left _ hb)), hr.same fun b hb => hs b (List.mem_cons_of_mem _ (List.mem_append_right _ hb))⟩

/-- What is no block of L lies as it lay; nothing has gone. -/
structure Chg (L : List Nat) (w w' : World) : Prop where
  os : w'.os = w.os
  tape : w'.tape = w.tape
  output : w'.output = w.output
  size : w.heap.size ≤ w'.heap.size
  block : ∀ k, k < w.heap.size → k ∉ L → w'.heap[k]? = w.heap[k]?
theorem Chg.refl (L : List Nat) (w : World) : Chg L w w := ⟨rfl, rfl, rfl, Nat.le_refl _, fun _ _ _ => rfl⟩
theorem Chg.of_below {L : List Nat} {w w' : World} (h : Below w.heap.size w w') : Chg L w w' := ⟨h.os, h.tape, h.output, h.size, fun k hk _ => h.block k hk⟩
theorem Chg.mono {L L' : List Nat} {w w' : World} (h : Chg L w w') (hs : ∀ b ∈ L, b ∈ L') : Chg L' w w' := ⟨h.os, h.tape, h.output, h.size, fun k hk hn => h.block k hk fun hb => hn (hs k hb)⟩
theorem Chg.trans {L : List Nat} {a b c : World} (h : Chg L a b) (k : Chg L b c) : Chg L a c :=
  ⟨k.os.trans h.os, k.tape.trans h.tape, k.output.trans h.output, Nat.le_trans h.size k.size, fun i hi hn => (k.block i (Nat.lt_of_lt_of_le hi h.size) hn).trans (h.block i hi hn)⟩
/-- A step that touches what lies at or beyond the first world's size, or L. -/
theorem Chg.then {L : List Nat} {a b c : World} (h : Chg L a b) (ht : c.os = b.os ∧ c.tape = b.tape ∧ c.output = b.output ∧ b.heap.size ≤ c.heap.size) (hk : ∀ i, i < a.heap.size → i ∉ L → c.heap[i]? = b.heap[i]?) : Chg L a c :=
  ⟨ht.1.trans h.os, ht.2.1.trans h.tape, ht.2.2.1.trans h.output, Nat.le_trans h.size ht.2.2.2, fun i hi hn => (hk i hi hn).trans (h.block i hi hn)⟩
theorem Chg.setCell {L : List Nat} {a w : World} (h : Chg L a w) {p : Addr} (hp : p.block ∈ L ∨ a.heap.size ≤ p.block) (u : Value) : Chg L a (w.setCell p u) :=
  h.then ⟨rfl, rfl, rfl, by simp [World.setCell]⟩ fun i hi hn => Below.heap_setCell _ _ _ _ fun e => by
    subst e
    rcases hp with hp | hp
    · exact hn hp
    · omega
theorem Chg.below {L : List Nat} {a w w' : World} {B : Nat} (h : Chg L a w) (hb : Below B w w') (hB : a.heap.size ≤ B) : Chg L a w' :=
  h.then ⟨hb.os, hb.tape, hb.output, hb.size⟩ fun i hi _ => hb.block i (by omega)
/-- Chg over draws. -/
theorem Chg.drew {L : List Nat} {a w : World} (h : Chg L a w) : Chg L a w.drew := h.then ⟨rfl, rfl, rfl, Nat.le_refl _⟩ fun _ _ _ => rfl

/-- The six cells of a node. -/
theorem node_cells {w : World} {b a n : Nat} {v : Int} {h : Bool} {p q : Option Addr} (hb : w.heap[b]? = some (nodeObj a n v h p q)) :
    w.cell? ⟨b, 0, none⟩ = some (.int .u32 (a : Int)) ∧ w.cell? ⟨b, 1, none⟩ = some (.int .i64 (n : Int)) ∧ w.cell? ⟨b, 2, none⟩ = some (.int .i64 v) ∧ w.cell? ⟨b, 3, none⟩ = some (.bool h) ∧
    w.cell? ⟨b, 4, none⟩ = some (.pointer p) ∧ w.cell? ⟨b, 5, none⟩ = some (.pointer q) := by
  refine ⟨?_, ?_, ?_, ?_, ?_, ?_⟩ <;> simp [World.cell?, hb, nodeObj]
theorem node_free {w : World} {b a n : Nat} {v : Int} {h : Bool} {p q : Option Addr} (hb : w.heap[b]? = some (nodeObj a n v h p q)) : ∀ o, w.frozen? ⟨b, o, none⟩ = false := by
  intro o; simp [World.frozen?, hb, nodeObj]

theorem heap_setCell_at {w : World} {b o : Nat} {c : Array Value} {t : TypeId} {m : Nat × Nat} (h : w.heap[b]? = some (.cells c t m)) (u : Value) : (w.setCell ⟨b, o, none⟩ u).heap[b]? = some (.cells (c.setIfInBounds o u) t m) := by
  obtain ⟨hlt, hk⟩ := Array.getElem?_eq_some_iff.1 h
  show (w.heap.modify b _)[b]? = _
  rw [Array.getElem?_eq_getElem (by rw [Array.size_modify]; exact hlt), Array.getElem_modify_self, hk]
  rfl
theorem heap_alloc_at (w : World) (o : Obj) : (w.alloc o).heap[w.heap.size]? = some o := by
  show (w.heap.push o)[w.heap.size]? = _
  simp
theorem setCell_far {w : World} {b o c : Nat} (u : Value) (h : c ≠ b) : (w.setCell ⟨b, o, none⟩ u).heap[c]? = w.heap[c]? := Below.heap_setCell _ _ _ _ h
theorem ne_of_in {L : List Nat} {c b : Nat} (hc : c ∈ L) (hb : b ∉ L) : c ≠ b := fun e => hb (e ▸ hc)
/-- A kid's cell is written. -/
theorem node_set0 {w : World} {b a n : Nat} {v : Int} {h : Bool} {p q : Option Addr} (hb : w.heap[b]? = some (nodeObj a n v h p q)) (p' : Option Addr) : (w.setCell ⟨b, 4, none⟩ (.pointer p')).heap[b]? = some (nodeObj a n v h p' q) := heap_setCell_at hb _
theorem node_set1 {w : World} {b a n : Nat} {v : Int} {h : Bool} {p q : Option Addr} (hb : w.heap[b]? = some (nodeObj a n v h p q)) (q' : Option Addr) : (w.setCell ⟨b, 5, none⟩ (.pointer q')).heap[b]? = some (nodeObj a n v h p q') := heap_setCell_at hb _

theorem cell_of_pfx {W : World} {B : Nat} {x y : Value} {t : TypeId} (h : W.heap[B]? = some (.cells #[x, y] t)) : W.cell? ⟨B, 0, none⟩ = some x ∧ W.cell? ⟨B, 1, none⟩ = some y := by
  refine ⟨?_, ?_⟩ <;> simp [World.cell?, h]
/-- A prefix's box. -/
theorem box_head (pa : Nat) (pn : Int) (w : World) :
    ∃ W1, W1 = w.alloc (.cells #[.int .u32 (pa : Int), .int .i64 pn] 35) ∧ W1.heap.size = w.heap.size + 1 ∧
      W1.heap[w.heap.size]? = some (.cells #[.int .u32 (pa : Int), .int .i64 pn] 35) ∧ Below w.heap.size w W1 :=
  ⟨_, rfl, World.size_alloc _ _, heap_alloc_at _ _, (Below.refl _ _).alloc (Nat.le_refl _) _⟩

/-- What put leaves. -/
def PutPost (X : XT) (ra rn : Nat) (rv : Int) (w : World) (e : Ending) (w' : World) : Prop :=
  ∃ X' : XT, e = .returned (.pointer X'.ptr) ∧ X'.t = X.t.put ra rn rv ∧ X'.In w' ∧ X'.blocks.Nodup ∧ (∀ b ∈ X'.blocks, b ∈ X.blocks ∨ w.heap.size ≤ b) ∧ Chg X.blocks w w'

/-- The step of 'n.kids[0] = ..'. -/
theorem put_step0 {w w2 : World} {b a n : Nat} {v : Int} {h : Bool} {l r L : XT} {ra rn : Nat} {rv : Int} (hin : (XT.node b a n v h l r).In w) (hnd : (XT.node b a n v h l r).blocks.Nodup)
    (ht : L.t = l.t.put ra rn rv) (hL : L.In w2) (hLn : L.blocks.Nodup) (hLb : ∀ c ∈ L.blocks, c ∈ l.blocks ∨ w.heap.size ≤ c) (hc : Chg l.blocks w w2)
    (hs : (T.node a n v h l.t r.t).put ra rn rv = .node a n v h (l.t.put ra rn rv) r.t) :
    PutPost (.node b a n v h l r) ra rn rv w (.returned (.pointer (some ⟨b, 0, none⟩))) (w2.setCell ⟨b, 4, none⟩ (.pointer L.ptr)) := by
  obtain ⟨h0, hl, hr⟩ := hin
  have hbl : b < w.heap.size := (Array.getElem?_eq_some_iff.1 h0).1
  obtain ⟨n1, n2⟩ := List.nodup_cons.1 hnd
  obtain ⟨n3, n4, n5⟩ := List.nodup_append.1 n2
  have b1 : b ∉ l.blocks := fun hb => n1 (List.mem_append_left _ hb)
  have b2 : b ∉ r.blocks := fun hb => n1 (List.mem_append_right _ hb)
  have b3 : b ∉ L.blocks := fun hb => by rcases hLb b hb with h | h; exact b1 h; omega
  have h2 : w2.heap[b]? = some (nodeObj a n v h l.ptr r.ptr) := (hc.block b hbl b1).trans h0
  refine ⟨.node b a n v h L r, rfl, ?_, ⟨node_set0 h2 _, hL.same fun c hc' => setCell_far _ (ne_of_in hc' b3), hr.same fun c hc' => ?_⟩, ?_, ?_, ?_⟩
  · simp only [XT.t, ht, hs]
  · rw [setCell_far _ (ne_of_in hc' b2)]
    exact hc.block c (hr.lt c hc') fun hcl => n5 c hcl c hc' rfl
  · refine List.nodup_cons.2 ⟨fun hb => ?_, List.nodup_append.2 ⟨hLn, n4, fun x hx y hy e => ?_⟩⟩
    · rcases List.mem_append.1 hb with hb | hb
      · exact b3 hb
      · exact b2 hb
    · subst e
      rcases hLb x hx with h | h
      · exact n5 x h x hy rfl
      · have := hr.lt x hy; omega
  · intro c hc'
    rcases List.mem_cons.1 hc' with rfl | hc'
    · exact .inl (List.mem_cons_self ..)
    · rcases List.mem_append.1 hc' with hc' | hc'
      · exact (hLb c hc').imp (fun h => List.mem_cons_of_mem _ (List.mem_append_left _ h)) id
      · exact .inl (List.mem_cons_of_mem _ (List.mem_append_right _ hc'))
  · exact (hc.mono fun c hc' => List.mem_cons_of_mem _ (List.mem_append_left _ hc')).setCell (p := ⟨b, 4, none⟩) (.inl (List.mem_cons_self ..)) _
theorem put_step1 {w w2 : World} {b a n : Nat} {v : Int} {h : Bool} {l r R : XT} {ra rn : Nat} {rv : Int} (hin : (XT.node b a n v h l r).In w) (hnd : (XT.node b a n v h l r).blocks.Nodup)
    (ht : R.t = r.t.put ra rn rv) (hR : R.In w2) (hRn : R.blocks.Nodup) (hRb : ∀ c ∈ R.blocks, c ∈ r.blocks ∨ w.heap.size ≤ c) (hc : Chg r.blocks w w2)
    (hs : (T.node a n v h l.t r.t).put ra rn rv = .node a n v h l.t (r.t.put ra rn rv)) :
    PutPost (.node b a n v h l r) ra rn rv w (.returned (.pointer (some ⟨b, 0, none⟩))) (w2.setCell ⟨b, 5, none⟩ (.pointer R.ptr)) := by
  obtain ⟨h0, hl, hr⟩ := hin
  have hbl : b < w.heap.size := (Array.getElem?_eq_some_iff.1 h0).1
  obtain ⟨n1, n2⟩ := List.nodup_cons.1 hnd
  obtain ⟨n3, n4, n5⟩ := List.nodup_append.1 n2
  have b1 : b ∉ l.blocks := fun hb => n1 (List.mem_append_left _ hb)
  have b2 : b ∉ r.blocks := fun hb => n1 (List.mem_append_right _ hb)
  have b3 : b ∉ R.blocks := fun hb => by rcases hRb b hb with h | h; exact b2 h; omega
  have h2 : w2.heap[b]? = some (nodeObj a n v h l.ptr r.ptr) := (hc.block b hbl b2).trans h0
  refine ⟨.node b a n v h l R, rfl, ?_, ⟨node_set1 h2 _, hl.same fun c hc' => ?_, hR.same fun c hc' => setCell_far _ (ne_of_in hc' b3)⟩, ?_, ?_, ?_⟩
  · simp only [XT.t, ht, hs]
  · rw [setCell_far _ (ne_of_in hc' b1)]
    exact hc.block c (hl.lt c hc') fun hcr => n5 c hc' c hcr rfl
  · refine List.nodup_cons.2 ⟨fun hb => ?_, List.nodup_append.2 ⟨n3, hRn, fun x hx y hy e => ?_⟩⟩
    · rcases List.mem_append.1 hb with hb | hb
      · exact b1 hb
      · exact b3 hb
    · subst e
      rcases hRb x hy with h | h
      · exact n5 x hx x h rfl
      · have := hl.lt x hx; omega
  · intro c hc'
    rcases List.mem_cons.1 hc' with rfl | hc'
    · exact .inl (List.mem_cons_self ..)
    · rcases List.mem_append.1 hc' with hc' | hc'
      · exact .inl (List.mem_cons_of_mem _ (List.mem_append_left _ hc'))
      · exact (hRb c hc').imp (fun h => List.mem_cons_of_mem _ (List.mem_append_right _ h)) id
  · exact (hc.mono fun c hc' => List.mem_cons_of_mem _ (List.mem_append_right _ hc')).setCell (p := ⟨b, 5, none⟩) (.inl (List.mem_cons_self ..)) _

end Go.Proofs.Ytklkldnpgecajaa
