/- Rows of demands. -/
import Derived.Test.YtjhgkojbpgakcaaDoorDemP
import Derived.Test.YtjhgkojbpgakcaaDoorSortC
import Derived.Test.YtjhgkojbpgakcaaDoorBasP
namespace Go.Proofs.YtjhgkojbpgakcaaDoor
open Go.RowKit
def dmC (x : Dm) : List Value := [.int .i64 x.s, .int .i64 x.d, .int .i64 x.a, .int .i64 x.p]
def demK : EK Dm where
  sz := 4
  pos := by decide
  R := fun _ cs x => cs = dmC x
  len := fun e => by rw [e]; rfl
  one := fun e u hu => by
    subst e
    simp only [dmC, List.mem_cons, List.not_mem_nil, or_false] at hu
    rcases hu with rfl | rfl | rfl | rfl <;> rfl
  below := fun e _ => e
theorem demK_free : demK.Free := fun _ _ _ _ h => h
instance : OwnK demK := ⟨[], fun h _ _ _ _ _ _ => h, .inl demK_free⟩
section
variable {V w : World} {l : List (World → Prop)} {g o n c k : Nat}
theorem KS.atD {xs : List Dm} {x : Dm} (hK : KS V l w) (h : SlV demK w (.slice (some ⟨g, o, none⟩) n c) xs) (hx : xs[k]? = some x) : KS V (CelAt g (o + k * 4) [.int .i64 x.s, .int .i64 x.d, .int .i64 x.a, .int .i64 x.p] :: l) w := by
  obtain ⟨cs, h1, rfl⟩ := h.at hx
  exact hK.add fun w' hb => h1.below hb
end
theorem infoDm : (Tryd.prog.info? 33).map (fun i => (i.zero, i.size, i.bytes)) = some (some (.agg #[.int .i64 0, .int .i64 0, .int .i64 0, .int .i64 0]), demK.sz, 32) := by kernel_rfl
end Go.Proofs.YtjhgkojbpgakcaaDoor
