/- The frame of a law's row of this seat. -/
import Derived.Test.YtbbjjjaclbkolaaDoorPfxRow
import Derived.Test.YtbbjjjaclbkolaaDoorRowOpen
import Derived.Test.YtbbjjjaclbkolaaDoorPfxV
import Derived.ChangeMaps5
import Derived.Test.YtbbjjjaclbkolaaDoorRows
import Derived.Test.YtbbjjjaclbkolaaDoorTie
import Derived.ProofKit
import Derived.OpenShut
import Derived.JoinedCond
import Derived.LaidMore
import Derived.Lay
import Derived.SevenTiedAt
import Derived.Stop.Joined
import Derived.Lib.LaidTab
import Derived.Lib.LaidU8
import Derived.Lib.SmallJoins
import Derived.Deep.Slices
import Derived.LaidLaws
namespace Go.Proofs.YtbbjjjaclbkolaaDoor
open Go.ChangeShapes Go.WideShapes Go.ChangeAt Go.RowKit Go.Joins Go.Deep

section
variable {H : Type} {enc : TypeId × Value → H} {w : World} {base : Nat} {sp : Nat → Bool} {hd : Bool}
theorem elem_pfx {m : Nat} {cs : List Value} {y : DataW H × List MemPlace} (hl : cs.length = 2) (h : DataW.trod enc Tryd.prog w base sp hd m 24 cs = some y) : ∃ x : Pf, cs = pfC x ∧ W32 x.1 := by
  match cs, hl with
  | [c0, c1], _ =>
    obtain ⟨y0, y1, n, hx, _, h0, h1⟩ := trod_struct2 Tryd.underlying24 h
    have h0' : DataW.trod enc Tryd.prog w base sp hd n 22 [c0] = some y0 := by simpa [cellsK_u32, Value.cells] using h0
    have h1' : DataW.trod enc Tryd.prog w base sp hd n 3 [c1] = some y1 := by simpa [cellsK_int, Value.cells] using h1
    obtain ⟨a, e0, _, w0⟩ := DataW.trod_int Tryd.underlying22 h0'
    obtain ⟨n, e1, _, w1⟩ := DataW.trod_int Tryd.underlying3 h1'
    simp at e0 e1
    subst e0 e1
    obtain ⟨k, rfl, hk⟩ := u32_wf w0
    exact ⟨(k, n), rfl, hk⟩
theorem open_pfxs {v : Value} {d : DataW H} {p : List MemPlace} (hv : ∃ a len cap, v = .slice a len cap) (h : DataW.Trod enc Tryd.prog w base sp hd 39 v d p) : ∃ xs : List Pf, SlV pfxK w v xs ∧ ∀ x ∈ xs, W32 x.1 :=
  open_slv (K := pfxK) Tryd.underlying39 (by kernel_rfl) (fun _ _ _ hl hx => elem_pfx hl hx) hv h
end
end Go.Proofs.YtbbjjjaclbkolaaDoor
