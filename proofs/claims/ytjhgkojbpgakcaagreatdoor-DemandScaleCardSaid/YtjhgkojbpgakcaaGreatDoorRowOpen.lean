/- A slice that is handed in reads as a list, if each of its elements does as one. -/
import Derived.Test.YtjhgkojbpgakcaaGreatDoorRowG
import Derived.ChangeMaps5
import Derived.ProofKit
import Derived.OpenShut
import Derived.Lib.LaidTab
import Derived.Deep.Slices
namespace Go.Proofs.YtjhgkojbpgakcaaGreatDoor
open Go.RowKit Go.ChangeShapes Go.WideShapes Go.ChangeAt Go.Deep
section
variable {α H : Type} {enc : TypeId × Value → H} {P : Program} {w : World} {base : Nat} {sp : Nat → Bool} {hd : Bool}
theorem open_slv {K : EK α} {t e : TypeId} {Ok : α → Prop} (ht : P.underlying t = some (.slice e)) (hsz : P.cellsOf e = K.sz)
    (hel : ∀ (cs : List Value) (m : Nat) (y : DataW H × List MemPlace), cs.length = K.sz → DataW.trod enc P w base sp hd m e cs = some y → ∃ x, K.R w cs x ∧ Ok x)
    {v : Value} {d : DataW H} {p : List MemPlace} (hv : ∃ a len cap, v = .slice a len cap) (h : DataW.Trod enc P w base sp hd t v d p) : ∃ xs : List α, SlV K w v xs ∧ ∀ x ∈ xs, Ok x := by
  obtain ⟨a0, len0, cap0, rfl⟩ := hv
  obtain ⟨fuel, hf⟩ := h
  rcases open_slice ht hf with ⟨hcs, _⟩ | ⟨a, len, cap, m, n, D, Pl, hcs, _, hl, hm, hmm, hx, hi⟩
  · simp [Value.cells] at hcs
    obtain ⟨rfl, rfl, rfl⟩ := hcs
    exact ⟨[], .nil, fun _ h => by cases h⟩
  · simp [Value.cells] at hcs
    obtain ⟨rfl, rfl, rfl⟩ := hcs
    have hlm : len0 ≤ m := by rw [hmm]; split <;> omega
    by_cases h0 : len0 = 0
    · subst h0
      exact ⟨[], .nil, fun _ h => by cases h⟩
    have each : ∀ i, i < len0 → ∃ q : List Value × α, K.R w q.1 q.2 ∧ Ok q.2 ∧ ∀ j, j < K.sz → w.cell? ((a.add (i * K.sz)).add j) = q.1[j]? := fun i hil => by
      obtain ⟨cs', hc, ht'⟩ := hi i (by omega)
      rw [hsz] at hc
      obtain ⟨_, hcl, hat⟩ := World.cells?_some hc
      obtain ⟨x, h1, h2⟩ := hel cs' _ _ hcl ht'
      exact ⟨(cs', x), h1, h2, hat⟩
    haveI : Inhabited (List Value × α) := ⟨(each 0 (by omega)).choose⟩
    obtain ⟨f, hf⟩ := choose_lt each
    obtain ⟨b, off, spot⟩ := a
    have hp := K.pos
    have hfl := fun i (hil : i < len0) => K.len (hf i hil).1
    have hspot : spot = none := by
      have h1 := (hf 0 (by omega)).2.2 0 hp
      have h2 : (f 0).1[0]? = some ((f 0).1[0]'(by rw [hfl 0 (by omega)]; exact hp)) := List.getElem?_eq_getElem _
      have := World.cell?_spot (h1.trans h2)
      simpa [Addr.add] using this
    subst hspot
    have he : ∀ k o, (⟨b, o, none⟩ : Addr).add k = ⟨b, o + k, none⟩ := fun k o => by unfold Addr.add; split <;> simp_all
    refine ⟨(List.range len0).map fun i => (f i).2, ⟨(List.range len0).map fun i => (f i).1, ⟨by simp, fun k cs x h1 h2 => ?_⟩, .inr ⟨b, off, cap0, by simp, ?_, by simpa using hl, by simpa [maxLen] using hm, fun k cs j u h1 h2 => ?_⟩⟩, fun x hx => ?_⟩
    · have hk : k < len0 := by
        have := (List.getElem?_eq_some_iff.1 h1).1
        simpa using this
      simp [hk] at h1 h2
      subst h1; subst h2
      exact (hf k hk).1
    · have h1 := (hf 0 (by omega)).2.2 0 hp
      have h2 : (f 0).1[0]? = some ((f 0).1[0]'(by rw [hfl 0 (by omega)]; exact hp)) := List.getElem?_eq_getElem _
      rw [he, he] at h1
      exact World.block_lt_of_cell? w _ (h1.trans h2)
    · have hk : k < len0 := by
        have := (List.getElem?_eq_some_iff.1 h1).1
        simpa using this
      simp [hk] at h1
      subst h1
      have hj : j < K.sz := (hfl k hk) ▸ (List.getElem?_eq_some_iff.1 h2).1
      have h3 := (hf k hk).2.2 j hj
      rw [he, he] at h3
      exact h3.trans h2
    · obtain ⟨k, hk, rfl⟩ := List.mem_map.1 hx
      exact (hf k (List.mem_range.1 hk)).2.1
end
end Go.Proofs.YtjhgkojbpgakcaaGreatDoor
