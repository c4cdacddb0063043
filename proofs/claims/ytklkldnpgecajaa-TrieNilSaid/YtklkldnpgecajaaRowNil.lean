/- TrieNil: for every route the call returns true, and the route reads as it did. No condition. -/
import Derived.Test.YtklkldnpgecajaaTrieNil
import Derived.Test.YtklkldnpgecajaaRows
import Derived.ProofKit
import Derived.OpenShut
import Derived.JoinedCond
import Derived.Lib.SmallJoins
namespace Go.Proofs.Ytklkldnpgecajaa
open Go.ChangeShapes Go.WideShapes Go.ChangeAt Go.RowKit Go.Joins

theorem own : ownKnob Try.prog.godebug = none := by kernel_rfl

theorem cells33 : Try.prog.cellsOf 33 = 1 := by kernel_rfl
theorem cells3 : Try.prog.cellsOf 3 = 1 := by kernel_rfl
theorem cells35 : Try.prog.cellsOf 35 = 2 := by kernel_rfl
theorem cells37 : Try.prog.cellsOf 37 = 3 := by kernel_rfl
theorem read_route {H : Type} {enc : TypeId × Value → H} {w : World} {base : Nat} {sp : Nat → Bool} {hd : Bool} {a n v : Int} (wa : (Lit.int .u32 a).wf = true) (wn : (Lit.int .i64 n).wf = true) (wv : (Lit.int .i64 v).wf = true) :
    DataW.Trod enc Try.prog w base sp hd 37 (.agg #[.int .u32 a, .int .i64 n, .int .i64 v]) (.agg [.agg [.lit (.int .u32 a), .lit (.int .i64 n)], .lit (.int .i64 v)]) [] :=
  ⟨4, by simp [DataW.trod, Try.underlying37, Try.underlying35, Try.underlying33, Try.underlying3, cells33, cells3, cells35, cells37, Value.cells, wa, wn, wv]⟩

/-- A route, by value: its reading is of three integers. -/
theorem open_route {H : Type} {enc : TypeId × Value → H} {w : World} {base : Nat} {sp : Nat → Bool} {hd : Bool} {c0 c1 c2 : Value} {d : DataW H} {p : List MemPlace} (h : DataW.Trod enc Try.prog w base sp hd 37 (.agg #[c0, c1, c2]) d p) :
    ∃ a n v : Int, c0 = .int .u32 a ∧ c1 = .int .i64 n ∧ c2 = .int .i64 v ∧ (Lit.int .u32 a).wf = true ∧ (Lit.int .i64 n).wf = true ∧ (Lit.int .i64 v).wf = true ∧ d = .agg [.agg [.lit (.int .u32 a), .lit (.int .i64 n)], .lit (.int .i64 v)] ∧ p = [] := by
  obtain ⟨fuel, hf⟩ := h
  obtain ⟨y0, y1, n, hx, _, h0, h1⟩ := trod_struct2 Try.underlying37 hf
  obtain ⟨y2, y3, n', rfl, _, h2, h3⟩ := trod_struct2 Try.underlying35 h0
  have h2' : DataW.trod enc Try.prog w base sp hd n' 33 [c0] = some y2 := by simpa [cells35, cells33, Value.cells] using h2
  have h3' : DataW.trod enc Try.prog w base sp hd n' 3 [c1] = some y3 := by simpa [cells35, cells3, Value.cells] using h3
  have h1' : DataW.trod enc Try.prog w base sp hd n 3 [c2] = some y1 := by simpa [cells3, Value.cells] using h1
  obtain ⟨a, e0, rfl, w0⟩ := DataW.trod_int Try.underlying33 h2'
  obtain ⟨n, e1, rfl, w1⟩ := DataW.trod_int Try.underlying3 h3'
  obtain ⟨v, e2, rfl, w2⟩ := DataW.trod_int Try.underlying3 h1'
  simp at e0 e1 e2
  subst e0 e1 e2
  simp only [Prod.mk.injEq, List.append_nil] at hx
  exact ⟨a, n, v, rfl, rfl, rfl, w0, w1, w2, hx.1, hx.2⟩

set_option maxRecDepth 100000 in
theorem trieNil_lifted (os : Os) (started : os.Started) (H : Type) (enc : TypeId × Value → H) :
    ReturnsInHanded {} Try.checked os 9 .any (Rows.trieNilSpec.pre6 enc Try.prog Try.f9 Rows.trieNilRow.domain false) (Rows.trieNilSpec.post enc Try.prog Try.f9 false true false false) := by
  refine returnsInHanded_of_change (C := Try.checked) own started (by kernel_rfl) Try.func9
    (ChangeSpec.witness6 (enc := enc) (C := Try.checked) false ⟨#[], #[.agg #[.int .u32 0, .int .i64 0, .int .i64 0]], []⟩ 8 (by kernel_rfl) (by kernel_rfl) (by kernel_rfl) (by kernel_rfl)) ?_
  intro W base args ds gs before hval0 hW hcnd _
  have hval : ∀ (j : Nat) t v, Try.f9.params[j]? = some t → args[j]? = some v → Value.okWide Try.prog W .any base t v := hval0
  have hW' := hW
  obtain ⟨p, q, hA0, hV, rfl, hfz, hnd⟩ := hW
  have hA : DataW.TrodAll enc Try.prog W 0 (fun _ => true) true Try.f9.params.toList args.toList ds p := hA0
  rw [Try.params9] at hA hval
  obtain ⟨v0, vs0, d0, ds0, p0, q0, hargs, rfl, rfl, h0, r0⟩ := trodAll_cons hA
  obtain ⟨rfl, rfl, rfl⟩ := trodAll_nil r0
  obtain rfl : args = #[v0] := by cases args; simp_all
  obtain ⟨rfl, rfl⟩ := trodVars_none hV
  obtain ⟨cs, rfl, hsz⟩ := okWide_struct Try.underlying37 (hval 0 37 v0 rfl rfl)
  obtain ⟨c0, c1, c2, rfl⟩ := array3 (hsz.trans cells37)
  obtain ⟨a, n, v, rfl, rfl, rfl, wa, wn, wv, rfl, rfl⟩ := open_route h0
  obtain ⟨a, rfl⟩ : ∃ k : Nat, a = (k : Int) := ⟨a.toNat, by simp [Lit.wf, IntKind.min, IntKind.max, IntKind.signed, IntKind.bits] at wa; omega⟩
  have ha : W32 a := by unfold W32; simp [Lit.wf, IntKind.min, IntKind.max, IntKind.signed, IntKind.bits] at wa; omega
  clear hA0 hval0
  simp only [List.append_nil] at hW'
  refine (trieNil_any a n v W ha).mono fun e W' ⟨he, hB⟩ => ?_
  subst he
  refine ⟨_, rfl, _, _, _, [], [], [], hW', ?_, ?_, rfl, hB.frame _, fun h => by cases h⟩
  · exact trodAll_cons_mk (shut_bool Try.underlying4 _) trodAll_mk0
  · exact trodAll_cons_mk (p := []) (read_route wa wn wv) trodAll_mk0

theorem trieNil_over : Rows.trieNilRow.holds Try.pinned (OpenSpec.ofChange Rows.trieNilSpec) :=
  OpenClaim.holds_of_wide 9 Try.f9 rfl rfl rfl rfl rfl rfl rfl ⟨rfl, rfl, rfl, rfl, rfl⟩ rfl rfl rfl rfl rfl (by kernel_rfl) Try.func9 (by kernel_rfl)
    (of_decide_eq_true (by kernel_rfl)) (by unfold Func.isWrapper; first | (rw [if_pos (by decide +kernel)]; kernel_rfl) | (rw [if_neg (by decide +kernel)]; exact ⟨rfl, rfl⟩))
    (fun os started H enc _ => trieNil_lifted os started H enc)

theorem trieNil_holds : Rows.TrieNilSaid := trieNil_over

#print axioms trieNil_holds

end Go.Proofs.Ytklkldnpgecajaa
