/- A trie of one's own: its blocks lie at or behind n₀ and apart from the blocks S, and nothing below n₀ has turned since w₀. The methods over such a trie. -/
import Derived.Test.YtklkldnpgecajaaNil
import Derived.Test.YtklkldnpgecajaaTreeG
namespace Go.Proofs.Ytklkldnpgecajaa
open Go.RowKit Go.Shelf

def Has (n₀ : Nat) (w₀ w : World) (tb : Nat) (t : T) (S : List Nat) : Prop :=
  ∃ X : XT, X.t = t ∧ TrieAt w tb X ∧ (∀ b ∈ tb :: X.blocks, n₀ ≤ b ∧ b ∉ S) ∧ (∀ k ∈ S, k < w.heap.size) ∧ n₀ ≤ w.heap.size ∧ Below n₀ w₀ w

theorem Has.below {n₀ tb : Nat} {w₀ w w' : World} {t : T} {S : List Nat} (h : Has n₀ w₀ w tb t S) (hb : Below w.heap.size w w') : Has n₀ w₀ w' tb t S := by
  obtain ⟨X, e, h1, h2, h3, h4, h5⟩ := h
  exact ⟨X, e, h1.below hb, h2, fun k hk => Nat.lt_of_lt_of_le (h3 k hk) hb.size, Nat.le_trans h4 hb.size, h5.trans (hb.mono h4)⟩
theorem Has.sub {n₀ tb : Nat} {w₀ w : World} {t : T} {S S' : List Nat} (h : Has n₀ w₀ w tb t S) (hs : ∀ k ∈ S', k ∈ S) : Has n₀ w₀ w tb t S' := by
  obtain ⟨X, e, h1, h2, h3, h4⟩ := h
  exact ⟨X, e, h1, fun b hb => ⟨(h2 b hb).1, fun hk => (h2 b hb).2 (hs b hk)⟩, fun k hk => h3 k (hs k hk), h4⟩
/-- Blocks that have been laid since lie apart. -/
theorem Has.add {n₀ tb : Nat} {w₀ w w' : World} {t : T} {S : List Nat} (h : Has n₀ w₀ w tb t S) (hb : Below w.heap.size w w') (S' : List Nat) (hs : ∀ k ∈ S', w.heap.size ≤ k ∧ k < w'.heap.size) : Has n₀ w₀ w' tb t (S' ++ S) := by
  obtain ⟨X, e, h1, h2, h3, h4, h5⟩ := h
  refine ⟨X, e, h1.below hb, fun b hb' => ⟨(h2 b hb').1, fun hk => ?_⟩, fun k hk => ?_, Nat.le_trans h4 hb.size, h5.trans (hb.mono h4)⟩
  · rcases List.mem_append.1 hk with hk | hk
    · have := (hs b hk).1
      rcases List.mem_cons.1 hb' with e' | hb'
      · have := h1.lt; omega
      · have := h1.nodes.lt b hb'; omega
    · exact (h2 b hb').2 hk
  · rcases List.mem_append.1 hk with hk | hk
    · exact (hs k hk).2
    · exact Nat.lt_of_lt_of_le (h3 k hk) hb.size
/-- A store into a block apart. -/
theorem Has.done {n₀ tb : Nat} {w₀ w w' : World} {X : XT} {t' : T} {S : List Nat} (h1 : TrieAt w tb X) (h2 : ∀ b ∈ tb :: X.blocks, n₀ ≤ b ∧ b ∉ S) (h3 : ∀ k ∈ S, k < w.heap.size) (h4 : n₀ ≤ w.heap.size) (h5 : Below n₀ w₀ w) (hd : Done tb X t' w w') :
    Has n₀ w₀ w' tb t' S ∧ ∀ k ∈ S, w'.heap[k]? = w.heap[k]? := by
  obtain ⟨X', e, k1, k2, k3⟩ := hd
  refine ⟨⟨X', e, k1, fun b hb => ?_, fun k hk => Nat.lt_of_lt_of_le (h3 k hk) k3.size, Nat.le_trans h4 k3.size, h5.trans ⟨k3.os, k3.tape, k3.output, k3.size, fun k hk => k3.block k (Nat.lt_of_lt_of_le hk h4) fun hb => ?_⟩⟩, fun k hk => k3.block k (h3 k hk) fun hb => (h2 k hb).2 hk⟩
  · rcases List.mem_cons.1 hb with e' | hb
    · subst e'; exact h2 _ (List.mem_cons_self ..)
    · rcases k2 b hb with hb | hb
      · exact h2 b (List.mem_cons_of_mem _ hb)
      · exact ⟨Nat.le_trans h4 hb, fun hk => by have := h3 b hk; omega⟩
  · have := (h2 k hb).1; omega

theorem has_new (w : World) :
    Calls Try.prog 21 #[] w fun e w' => e = .returned (.pointer (some ⟨w.heap.size, 0, none⟩)) ∧ Has w.heap.size w w' w.heap.size .nil [] ∧ Below w.heap.size w w' ∧ w.heap.size < w'.heap.size :=
  (new_any w).mono fun _ w' ⟨e, h1, h2⟩ => ⟨e, ⟨.nil, rfl, h1, fun b hb => by simp [XT.blocks] at hb; subst hb; simp, (fun _ hk => nomatch hk), h2.size, h2⟩, h2, h1.lt⟩

section
variable {n₀ tb : Nat} {w₀ w : World} {t : T} {S : List Nat}

theorem has_putGood (h : Has n₀ w₀ w tb t S) (ra rn : Nat) (rv : Int) (hf : t.Fine) (hra : W32 ra) (hv : vld ra (rn : Int) = true) :
    Calls Try.prog 22 #[.pointer (some ⟨tb, 0, none⟩), .agg #[.int .u32 (ra : Int), .int .i64 (rn : Int), .int .i64 rv]] w fun e w' => e = .returned (.int .i64 0) ∧ Has n₀ w₀ w' tb (t.put ra rn rv) S ∧ ∀ k ∈ S, w'.heap[k]? = w.heap[k]? := by
  obtain ⟨X, rfl, h1, h2, h3, h4, h5⟩ := h
  exact (putGood tb X ra rn rv w h1 hf hra hv).mono fun _ w' ⟨e, hd⟩ => ⟨e, Has.done h1 h2 h3 h4 h5 hd⟩
theorem has_remGood (h : Has n₀ w₀ w tb t S) (pa pn : Nat) (u : Int) (hf : t.Fine) (hpa : W32 pa) (hv : vld pa (pn : Int) = true) (hg : t.get pa pn = some u) :
    Calls Try.prog 26 #[.pointer (some ⟨tb, 0, none⟩), .agg #[.int .u32 (pa : Int), .int .i64 (pn : Int)]] w fun e w' => e = .returned (.int .i64 0) ∧ Has n₀ w₀ w' tb (t.remove pa pn) S ∧ ∀ k ∈ S, w'.heap[k]? = w.heap[k]? := by
  obtain ⟨X, rfl, h1, h2, h3, h4, h5⟩ := h
  exact (remGood tb X pa pn u w h1 hf hpa hv hg).mono fun _ w' ⟨e, hd⟩ => ⟨e, Has.done h1 h2 h3 h4 h5 hd⟩
theorem has_remNone (h : Has n₀ w₀ w tb t S) (pa pn : Nat) (hf : t.Fine) (hpa : W32 pa) (hv : vld pa (pn : Int) = true) (hg : t.get pa pn = none) :
    Calls Try.prog 26 #[.pointer (some ⟨tb, 0, none⟩), .agg #[.int .u32 (pa : Int), .int .i64 (pn : Int)]] w fun e w' => e = .returned (.int .i64 8) ∧ Below w.heap.size w w' := by
  obtain ⟨X, rfl, h1, _⟩ := h
  exact remNone tb X pa pn w h1 hf hpa hv hg
theorem has_get (h : Has n₀ w₀ w tb t S) (pa pn : Nat) (hf : t.Fine) (hpa : W32 pa) (hv : vld pa (pn : Int) = true) :
    Calls Try.prog 19 #[.pointer (some ⟨tb, 0, none⟩), .agg #[.int .u32 (pa : Int), .int .i64 (pn : Int)]] w fun e w' => e = .returned (getV (t.get pa pn)) ∧ Below w.heap.size w w' := by
  obtain ⟨X, rfl, h1, _⟩ := h
  exact get_good tb X pa pn w h1 hf hpa hv
theorem has_look (h : Has n₀ w₀ w tb t S) (x : Nat) (hf : t.Fine) (hx : W32 x) :
    Calls Try.prog 17 #[.pointer (some ⟨tb, 0, none⟩), .int .u32 (x : Int)] w fun e w' => e = .returned (lookV (t.look x ⟨0, 0, 0, false⟩)) ∧ Below w.heap.size w w' := by
  obtain ⟨X, rfl, h1, _⟩ := h
  exact lookup_any tb X x w h1 hf hx
theorem has_nodes (h : Has n₀ w₀ w tb t S) (hc : t.count ≤ 1000000) :
    Calls Try.prog 15 #[.pointer (some ⟨tb, 0, none⟩)] w fun e w' => e = .returned (.int .i64 ((t.count : Nat) : Int)) ∧ Below w.heap.size w w' := by
  obtain ⟨X, rfl, h1, _⟩ := h
  exact nodes_any tb X w h1 hc
theorem len_any (p0 : Option Addr) (L : List Rt) (w : World) (h : AllAt w.heap.size w p0 L) (hc : L.length ≤ 1000000) :
    Calls Try.prog 14 #[.pointer p0] w fun e w' => e = .returned (.int .i64 ((L.length : Nat) : Int)) ∧ Below w.heap.size w w' :=
  callsIn_wide.1 (len_in Fence.wide rfl (fun _ => trivial) rfl 3 (by omega) p0 L w h hc)
theorem routes_any (p0 : Option Addr) (L : List Rt) (w : World) (h : AllAt w.heap.size w p0 L) (hc : L.length ≤ 1000000) :
    Calls Try.prog 13 #[.pointer p0] w fun e w' => ∃ v, e = .returned v ∧ w'.ownsRow w.heap.size 37 3 v L.length (L.flatMap Rt.cells) ∧ Below w.heap.size w w' :=
  callsIn_wide.1 (routes_in Fence.wide rfl (fun _ => trivial) rfl 3 (by omega) p0 L w h hc)
theorem Has.all (h : Has n₀ w₀ w tb t S) : AllAt w.heap.size w (some ⟨tb, 0, none⟩) t.list := by
  obtain ⟨X, rfl, h1, _⟩ := h
  exact h1.all
end

end Go.Proofs.Ytklkldnpgecajaa
