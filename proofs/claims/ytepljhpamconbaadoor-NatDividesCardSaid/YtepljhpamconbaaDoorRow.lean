/- Rows of values of one cell. -/
import Derived.Test.YtepljhpamconbaaDoorUtil
import Derived.OwnWalk
import Derived.Laws.OwnMore
import Derived.Laws.AppendOwn
namespace Go.Proofs.YtepljhpamconbaaDoor
open Go.RowKit

theorem row1_snoc {W : World} {base n : Nat} {e : TypeId} {v u : Value} {xs : List Value} (h : W.ownsRow base e 1 v (n + 1) (xs ++ [u])) (hn : n = xs.length) : W.ownsRow base e 1 v (xs ++ [u]).length (xs ++ [u]) := by
  subst hn
  rw [List.length_append, List.length_singleton]; exact h
theorem row1_lt {W : World} {base n : Nat} {e : TypeId} {v : Value} {xs : List Value} (h : W.ownsRow base e 1 v n xs) : ∀ k, v.ownBlock = some k → base ≤ k ∧ k < W.heap.size := by
  intro k hk
  rcases h.2 with ⟨rfl, _⟩ | ⟨g, cap, cur, rfl, hg, hb, _⟩
  · cases hk
  · simp only [Value.ownBlock, Option.some.injEq] at hk
    subst hk
    exact ⟨hg, (Array.getElem?_eq_some_iff.1 hb).1⟩
theorem row1_step {B base n : Nat} {e : TypeId} {W1 wr w1 : World} {v : Value} {xs : List Value} {tmp : Obj} (hb : Below B W1 wr) (hrow : wr.ownsRow base e 1 v n xs) (hbase : B ≤ base) (hB : B ≤ wr.heap.size) (hgrow : (wr.alloc tmp).grownBy w1 v.ownBlock) : Below B W1 w1 :=
  (hb.alloc hB tmp).grown hgrow (by simp; omega) fun k hk => Nat.le_trans hbase (row1_lt hrow k hk).1
theorem cells1_new (w : World) (u : Value) (t : TypeId) : ∀ j x, [u][j]? = some x → (w.alloc (.cells #[u] t)).cell? ((⟨w.heap.size, 0, none⟩ : Addr).add j) = some x := by
  intro j x hx
  match j, hx with
  | 0, hx =>
    simp only [List.getElem?_cons_zero, Option.some.injEq] at hx
    subst hx
    rw [add_at]
    exact cell_box1 (heap_new w _)
/-- What a row shows at a place. -/
theorem row1_cell {W : World} {base n : Nat} {e : TypeId} {v : Value} {xs : List Value} (h : W.ownsRow base e 1 v n xs) (hn : n = xs.length) {k : Nat} (hk : k < xs.length) : ∃ g cap, v = .slice (some ⟨g, 0, none⟩) n cap ∧ base ≤ g ∧ W.cell? ⟨g, k, none⟩ = some xs[k] := by
  rcases h.2 with ⟨_, h0⟩ | ⟨g, cap, cur, rfl, hg, hb, hle, _, hs, ht⟩
  · omega
  · refine ⟨g, cap, rfl, hg, ?_⟩
    unfold World.cell?
    rw [show W.heap[(⟨g, k, none⟩ : Addr).block]? = _ from hb]
    have h1 : cur.toList[k]? = some xs[k] := by
      have := congrArg (fun l => l[k]?) ht
      rw [List.getElem?_take_of_lt (by omega)] at this
      rw [this]; exact List.getElem?_eq_getElem hk
    rw [Array.getElem?_toList] at h1
    simpa using h1
end Go.Proofs.YtepljhpamconbaaDoor
