/- The reference's numbers: groups of six digits; append of a row of another type; without. -/
import Derived.Test.YtepljhpamconbaaDoorNatK
import Derived.Laws.AppendOwnNone
namespace Go.Proofs.YtepljhpamconbaaDoor
open Go.RowKit

section
variable {P : Program}
theorem append_types {w : World} (t u ty e e' : TypeId) (ht : P.underlying t = some (.slice e)) (hu : P.underlying u = some (.slice e')) (p : Option Addr) (n c : Nat) (x : Value) :
    (Builtin.append_ #[t, u] ty #[.slice p n c, x]).run P w = (Builtin.append_ #[t, t] ty #[.slice p n c, x]).run P w := by
  simp [Builtin.append_, run_underlying ht, run_underlying hu]
/-- Append of a row of another type of slice to a row of one's own; of whatever row, an empty one too. -/
theorem wpList_append_two {w : World} {ops : Array Oper} {rest : List Oper} {o : Oper} {a : Act} {Q : Exit → Act → World → Prop} (hgd : o.guard = none) (s x : Operand) (t u : TypeId)
    (ho : o.op = .call { callee := .builtin .append, args := #[s, x], argTypes := #[t, u] })
    (base : Nat) (e e' : TypeId) (i : TypeInfo) (z : Value) (bytes : Nat) (ht : P.underlying t = some (.slice e)) (hu : P.underlying u = some (.slice e')) (hi : P.info? e = some i) (hz : i.zero = some z)
    (hsize : i.size = 1) (hby : i.bytes = bytes) (hzs : z.cells.size = 1)
    (v : Value) (n : Nat) (xs : List Value) (hs : a.eval s = v) (hown : w.ownsRow base e 1 v n xs)
    (p : Option Addr) (m c : Nat) (news : List Value) (hx : a.eval x = .slice p m c) (hl : news.length = m) (hnews : m = 0 ∨ ∃ ad, p = some ad ∧ ∀ j u, news[j]? = some u → w.cell? (ad.add j) = some u) (h1 : ∀ u ∈ news, u.oneCell' = true)
    (h63 : n + m ≤ maxLen) (hbytes : (n + m) * bytes ≤ 140737488355328) (hbase : base ≤ w.heap.size)
    (h : ∀ v' w', w'.ownsRow base e 1 v' (n + m) (xs ++ news) → w.grownBy w' v.ownBlock → wpList P ops Q rest (a.put o.dst v') w') : wpList P ops Q (o :: rest) a w := by
  refine wpList_plain hgd fun K hK => ?_
  obtain ⟨pv, cv, rfl⟩ := row_slice hown
  have key : ∃ v' w', (Builtin.append_ #[t, t] o.type #[.slice pv n cv, .slice p m c]).run P w = .ok v' w' ∧ w'.ownsRow base e 1 v' (n + m) (xs ++ news) ∧ w.grownBy w' (Value.slice pv n cv).ownBlock := by
    by_cases hp : ∃ ad, p = some ad
    · obtain ⟨ad, rfl⟩ := hp
      have hn : ∀ j u, news[j]? = some u → w.cell? (ad.add j) = some u := by
        rcases hnews with rfl | ⟨ad', e1, h2⟩
        · intro j u hj
          rw [List.eq_nil_of_length_eq_zero hl] at hj
          simp at hj
        · injection e1 with e1; subst e1; exact h2
      obtain ⟨v', w', hr, h2, h3, _⟩ := run_append_own (P := P) w base t o.type e i z 1 bytes ht hi hz hsize hby hzs (by decide) _ n xs hown ad m c news (by omega) hn h1 h63 hbytes hbase
      exact ⟨v', w', hr, h2, h3⟩
    · have hp0 : p = none := by cases p with
        | none => rfl
        | some ad => exact absurd ⟨ad, rfl⟩ hp
      subst hp0
      rcases hnews with rfl | ⟨ad', e1, _⟩
      · have e0 : news = [] := List.eq_nil_of_length_eq_zero hl
        subst e0
        have e2 : (Builtin.append_ #[t, t] o.type #[.slice pv n cv, .slice none 0 c]).run P w = .ok (.slice pv n cv) w := by
          have hle : n ≤ cv := by
            rcases hown.2 with ⟨e3, rfl⟩ | ⟨g, cap, cur, e3, _, _, h4, _⟩
            · exact Nat.zero_le _
            · injection e3 with _ _ e4; omega
          cases pv <;> simp [Builtin.append_, run_underlying ht, sizeOf, typeInfo, hi, Builtin.lenOf, Builtin.firstCells, hle, loadCells, loadCellsFrom, storeCells]
        exact ⟨_, w, e2, by simpa using hown, ⟨rfl, rfl, rfl, Nat.le_refl _, fun _ _ _ => rfl⟩⟩
      · cases e1
  obtain ⟨v', w', hr, h2, h3⟩ := key
  unfold Oper.wp execOp
  simp only [ho, resolve, invoke, builtin, Sem.run_bind, Sem.run_pure, Result.andThen_ok, List.map_toArray, List.map_cons, List.map_nil, hs, hx, append_types t u o.type e e' ht hu, hr]
  exact hK _ _ (h v' w' h2 h3)
end
end Go.Proofs.YtepljhpamconbaaDoor
