/- The library's table of powers of ten; strconv.Itoa. -/
import Derived.Test.YtjhgkojbpgakcaaDoorMA
import Derived.Test.YtjhgkojbpgakcaaDoorShelf
import Derived.Lib.SmallJoins
import Derived.Lib.ItoaLen
import Derived.Lib.ItoaMem
namespace Go.Proofs.YtjhgkojbpgakcaaDoor
open Go.RowKit
open Go.Lib (decDigits)
def Tab (w : World) : Prop := Lib.TabIs Tryd.prog w "internal/strconv.uint64pow10" .u64 Lib.pow10Tab
theorem var_below {P : Program} {w w' : World} {nm : String} {x : Array Value} (h : w.var? P nm = some x) (hb : Below w.heap.size w w') : w'.var? P nm = some x := by
  unfold World.var? at h ⊢
  cases hg : P.globalNamed nm with
  | none => rw [hg] at h; cases h
  | some g =>
    rw [hg] at h
    simp only [Option.bind_some] at h ⊢
    cases hk : w.heap[g]? with
    | none => rw [hk] at h; cases h
    | some o => rw [hb.block g (Array.getElem?_eq_some_iff.1 hk).1]; exact h
theorem Tab.below {w w' : World} (h : Tab w) (hb : Below w.heap.size w w') : Tab w' := var_below h hb
theorem below_grow (w : World) (k : Nat) (os : Array Obj) : Below w.heap.size w (Go.Sort.grow (w.drewN k) os) :=
  ⟨rfl, rfl, rfl, by simp [Go.Sort.grow], fun i hi => by simp only [Go.Sort.grow, World.heap_drewN]; rw [Array.getElem?_append_left hi]⟩
theorem itoa_any (n : Nat) (w : World) (hn : n ≤ 9223372036854775807) (ht : Tab w) :
    Calls Tryd.prog 17 #[.int .i64 (n : Int)] w fun e w' => e = .returned (.string ⟨(decDigits n).toArray⟩) ∧ Below w.heap.size w w' :=
  (Tryd.strconv_Itoa (n : Int) (by omega) (by omega) w ht).mono fun e w' ⟨h1, k, os, h2⟩ => ⟨by rw [h1, Lib.itoa_nonneg], by rw [h2]; exact below_grow _ _ _⟩
end Go.Proofs.YtjhgkojbpgakcaaDoor
