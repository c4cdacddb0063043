/- Rows of integers; a box that reads as a row. -/
import Derived.Test.YtmcfomainmppdaaGreatDoorFRowG
namespace Go.Proofs.YtmcfomainmppdaaGreatDoor
open Go.RowKit
def intK : EK Int where
  sz := 1
  pos := by decide
  R := fun _ cs x => cs = [.int .i64 x]
  len := fun e => by rw [e]; rfl
  one := fun e u hu => by
    subst e
    simp only [List.mem_cons, List.not_mem_nil, or_false] at hu
    subst hu; rfl
  below := fun e _ => e
theorem intK_free : intK.Free := fun _ _ _ _ h => h
instance : OwnK intK := ⟨[], fun h _ _ _ _ _ _ => h, .inl intK_free⟩
def strK : EK (List UInt8) where
  sz := 1
  pos := by decide
  R := fun _ cs x => cs = [.string ⟨x.toArray⟩]
  len := fun e => by rw [e]; rfl
  one := fun e u hu => by
    subst e
    simp only [List.mem_cons, List.not_mem_nil, or_false] at hu
    subst hu; rfl
  below := fun e _ => e
theorem strK_free : strK.Free := fun _ _ _ _ h => h
instance : OwnK strK := ⟨[], fun h _ _ _ _ _ _ => h, .inl strK_free⟩
section
variable {α : Type} {V w : World} {l : List (World → Prop)} {g o n c k : Nat}
theorem KS.atI {xs : List Int} {x : Int} (hK : KS V l w) (h : SlV intK w (.slice (some ⟨g, o, none⟩) n c) xs) (hx : xs[k]? = some x) : KS V (CelAt g (o + k * 1) [.int .i64 x] :: l) w := by
  obtain ⟨cs, h1, rfl⟩ := h.at hx
  exact hK.add fun w' hb => h1.below hb
theorem SlV.ofBox {K : EK α} {f : α → List Value} (hf : ∀ w x, K.R w (f x) x) {xs : List α} {base R : Nat} {ty : TypeId} (h : Has base R (.cells (xs.map f).flatten.toArray ty) w) (hl : xs.length ≤ 9223372036854775807) : SlV K w (.slice (some ⟨R, 0, none⟩) xs.length xs.length) xs := by
  have he : Els K w (xs.map f) xs := ⟨by simp, fun k cs x h1 h2 => by
    rw [List.getElem?_map, h2] at h1
    simp at h1
    subst h1
    exact hf w x⟩
  refine ⟨xs.map f, he, .inr ⟨R, 0, _, rfl, h.ltS, Nat.le_refl _, hl, fun k cs j u h1 h2 => ?_⟩⟩
  have hj : j < K.sz := (he.sizes cs (List.mem_of_getElem? h1)) ▸ (List.getElem?_eq_some_iff.1 h2).1
  rw [show 0 + k * K.sz + j = k * K.sz + j by omega]
  exact h.at _ ((flat_at _ he.sizes k j cs h1 hj).trans h2)
end
end Go.Proofs.YtmcfomainmppdaaGreatDoor
