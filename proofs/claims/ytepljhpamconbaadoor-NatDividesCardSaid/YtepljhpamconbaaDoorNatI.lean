/- Text: the library's pieces, the first loop's state. -/
import Derived.Test.YtepljhpamconbaaDoorNatH
import Derived.Test.YtepljhpamconbaaDoorRow
import Derived.Test.YtepljhpamconbaaDoorDecPlain
import Derived.Lib.SmallJoins
import Derived.Lib.ItoaLen
import Derived.Lib.ItoaMem
namespace Go.Proofs.YtepljhpamconbaaDoor
open Go.RowKit
open Go.Lib (decDigits)

/-- The library's table of powers of ten stands. -/
def Tab (w : World) : Prop := Lib.TabIs Tryd.prog w "internal/strconv.uint64pow10" .u64 Lib.pow10Tab
theorem var_below {P : Program} {w w' : World} {nm : String} {x : Array Value} (h : w.var? P nm = some x) (hb : Below w.heap.size w w') : w'.var? P nm = some x := by
  unfold World.var? at h ⊢
  cases hg : P.globalNamed nm with
  | none => rw [hg] at h; cases h
  | some g =>
    rw [hg] at h
    simp only [Option.bind_some] at h ⊢
    cases hk : w.heap[g]? with
    | none => rw [hk] at h; cases h
    | some o => rw [hb.block g (Array.getElem?_eq_some_iff.1 hk).1]; exact h
theorem Tab.below {w w' : World} (h : Tab w) (hb : Below w.heap.size w w') : Tab w' := var_below h hb
theorem below_grow (w : World) (k : Nat) (os : Array Obj) : Below w.heap.size w (Go.Sort.grow (w.drewN k) os) :=
  ⟨rfl, rfl, rfl, by simp [Go.Sort.grow], fun i hi => by simp only [Go.Sort.grow, World.heap_drewN]; rw [Array.getElem?_append_left hi]⟩
theorem itoa_any (n : Nat) (w : World) (hn : n ≤ 9223372036854775807) (ht : Tab w) :
    Calls Tryd.prog 43 #[.int .i64 (n : Int)] w fun e w' => e = .returned (.string ⟨(decDigits n).toArray⟩) ∧ Below w.heap.size w w' :=
  (Tryd.strconv_Itoa (n : Int) (by omega) (by omega) w ht).mono fun e w' ⟨h1, k, os, h2⟩ => ⟨by rw [h1, Lib.itoa_nonneg], by rw [h2]; exact below_grow _ _ _⟩
theorem write_any (b : Nat) (l : List UInt8) (s : ByteArray) (w : World) (h : Lib.IsBuilder 76 5 b b (Lib.byteCells l) w) (hlen : l.length + s.size ≤ 140737488355328) :
    Calls Tryd.prog 45 #[.pointer (some ⟨b, 0, none⟩), .string s] w fun e w' => ∃ r, e = .returned r ∧ Lib.IsBuilder 76 5 b b (Lib.byteCells (l ++ s.data.toList)) w' ∧ Below b w w' := by
  have hB : b ≤ w.heap.size := by
    rcases h with h | h
    · exact Nat.le_of_lt h.lt
    · exact Nat.le_of_lt h.lt
  refine (Any.Builder_WriteString (P := Tryd.prog) (ρ := Tryd.lays105_ren) { Tryd.lays105 with } Tryd.Builder_Extra_105 b b _ s w h (by rw [Lib.byteCells_length]; exact hlen) hB).mono fun e w' ⟨h1, h2, h3⟩ => ⟨_, h1, .inr ?_, h3⟩
  rw [Lib.byteCells_append]; exact h2

/-- The bytes of strings, one behind the other. -/
def flat (ps : List ByteArray) : List UInt8 := ps.flatMap fun s => s.data.toList
theorem flat_append (a b : List ByteArray) : flat (a ++ b) = flat a ++ flat b := by unfold flat; rw [List.flatMap_append]
theorem flat_one (s : ByteArray) : flat [s] = s.data.toList := by simp [flat]
theorem flat_mk (l : List UInt8) : flat [⟨l.toArray⟩] = l := by simp [flat]
/-- The state of Text's first loop. -/
structure TextAt (w0 : World) (m : Nat) (v : Value) (ps : List ByteArray) (wr : World) : Prop where
  box : ∃ p c, wr.heap[w0.heap.size]? = some (.cells #[.slice p (digs B32 m).length c] 26) ∧ NatV wr (.agg #[.slice p (digs B32 m).length c]) m
  row : wr.ownsRow (w0.heap.size + 1) 9 1 v ps.length (ps.map .string)
  nil : ps = [] → v = .slice none 0 0
  old : Below w0.heap.size w0 wr
  sz : w0.heap.size + 1 ≤ wr.heap.size
theorem TextAt.below {w0 wr w' : World} {m : Nat} {v : Value} {ps : List ByteArray} (h : TextAt w0 m v ps wr) (hb : Below wr.heap.size wr w') : TextAt w0 m v ps w' := by
  obtain ⟨⟨p, c, h1, h2⟩, h3, hn, h4, h5⟩ := h
  exact ⟨⟨p, c, (hb.block _ (by omega)).trans h1, h2.below hb⟩, row_kept_none h3 (grown_of_below hb), hn, h4.trans (hb.mono (by omega)), Nat.le_trans h5 hb.size⟩
theorem TextAt.store {w0 wr : World} {m m' : Nat} {v : Value} {ps : List ByteArray} {p : Option Addr} {c : Nat} (h : TextAt w0 m v ps wr) (hn : NatV wr (.agg #[.slice p (digs B32 m').length c]) m') : TextAt w0 m' v ps (wr.setCell ⟨w0.heap.size, 0, none⟩ (.slice p (digs B32 m').length c)) := by
  obtain ⟨⟨p0, c0, h1, h2⟩, h3, hnil, h4, h5⟩ := h
  refine ⟨⟨p, c, box_store h1 _, hn.store (cell_box1 h1) _⟩, ⟨h3.1, ?_⟩, hnil, h4.setCell (p := ⟨w0.heap.size, 0, none⟩) (Nat.le_refl _) _, by simpa [World.setCell] using h5⟩
  refine h3.2.imp id fun ⟨g, cap, cur, e1, e2, e3, e4⟩ => ⟨g, cap, cur, e1, e2, ?_, e4⟩
  rw [setCell_far _ (by omega)]; exact e3
theorem NatV.grown {w w' : World} {row : Option Nat} {v : Value} {n : Nat} (h : NatV w v n) (hg : w.grownBy w' row) (hr : ∀ k, row = some k → ∀ x : Nat, w.cell? ⟨k, 0, none⟩ ≠ some (.int .u32 (x : Int))) : NatV w' v n := by
  refine h.imp id fun ⟨h0, g, c2, e, t, hc⟩ => ⟨h0, g, c2, e, ⟨Nat.lt_of_lt_of_le t.lt hg.size, fun k hk => ?_⟩, hc⟩
  have hne : some g ≠ row := fun e => hr g e.symm _ (t.at0 0 (by omega))
  rw [← t.at0 k hk]
  exact World.cell?_of_block (a := ⟨g, k, none⟩) (hg.block g t.lt hne)
theorem TextAt.push {w0 wr w' : World} {m : Nat} {v v' : Value} {ps : List ByteArray} {tmp : Obj} {s : ByteArray} (h : TextAt w0 m v ps wr) (hown : w'.ownsRow (w0.heap.size + 1) 9 1 v' (ps.length + 1) (ps.map .string ++ [.string s])) (hg : (wr.alloc tmp).grownBy w' v.ownBlock) : TextAt w0 m v' (ps ++ [s]) w' := by
  obtain ⟨⟨p, c, h1, h2⟩, h3, hn, h4, h5⟩ := h
  have hb : Below (w0.heap.size + 1) wr w' := row1_step (Below.refl _ wr) h3 (Nat.le_refl _) h5 hg
  refine ⟨⟨p, c, (hb.block _ (by omega)).trans h1, ?_⟩, by simpa using hown, by simp, h4.trans (hb.mono (by omega)), Nat.le_trans h5 hb.size⟩
  refine (h2.below ((Below.refl _ wr).alloc (Nat.le_refl _) tmp)).grown hg fun k hk x hx => ?_
  by_cases hps : ps = []
  · rw [hn hps] at hk; cases hk
  · have hpos : 0 < (ps.map Value.string).length := by rw [List.length_map]; exact List.length_pos_iff.2 hps
    obtain ⟨g, cap, rfl, hgb, hc⟩ := row1_cell h3 (by simp) hpos
    simp only [Value.ownBlock, Option.some.injEq] at hk
    subst hk
    have hlt := row1_lt h3 g rfl
    rw [((Below.refl wr.heap.size wr).alloc (Nat.le_refl _) tmp).cell (p := ⟨g, 0, none⟩) hlt.2, hc] at hx
    simp only [List.getElem_map, Option.some.injEq] at hx
    cases hx

/-- How many strings a slice shows. -/
def sliceLen : Value → Nat
  | .slice _ n _ => n
  | _ => 0
theorem row_sliceLen {W : World} {base n : Nat} {e : TypeId} {v : Value} {xs : List Value} (h : W.ownsRow base e 1 v n xs) : sliceLen v = n := by
  rcases h.2 with ⟨rfl, h0⟩ | ⟨g, cap, cur, rfl, _⟩
  · rw [h0]; rfl
  · rfl
def base9 : Nat := 1000000000
/-- The texts of the groups of nine digits that are split off. -/
def groups (n k m : Nat) (ps : List ByteArray) : Prop := m = n / base9 ^ k ∧ decDigits n = (if m = 0 then [] else decDigits m) ++ flat ps.reverse
theorem groups_step {n k m : Nat} {ps : List ByteArray} (h : groups n k m ps) (hm : m ≠ 0) (s : List UInt8) (hs : s = if m / base9 = 0 then decDigits (m % base9) else padk 9 (m % base9)) : groups n (k + 1) (m / base9) (ps ++ [⟨s.toArray⟩]) := by
  obtain ⟨h1, h2⟩ := h
  refine ⟨by rw [h1, Nat.pow_succ, Nat.div_div_eq_div_mul], ?_⟩
  rw [h2, if_neg hm, List.reverse_append, flat_append, List.reverse_singleton, flat_mk, ← List.append_assoc]
  congr 1
  rw [hs]
  by_cases h0 : m / base9 = 0
  · rw [if_pos h0, if_pos h0, List.nil_append, Nat.mod_eq_of_lt]
    exact Nat.lt_of_not_le fun hle => by
      have := Nat.div_pos hle (by decide : 0 < base9); omega
  · rw [if_neg h0, if_neg h0]
    exact dec_split 9 m h0
theorem groups_bound {n k m : Nat} {ps : List ByteArray} (h : groups n k m ps) (hm : m ≠ 0) {L : Nat} (hL : n < B32 ^ L) : k < 2 * L := by
  refine Nat.lt_of_not_le fun hle => hm ?_
  rw [h.1]
  refine Nat.div_eq_of_lt (Nat.lt_of_lt_of_le hL ?_)
  have h1 : B32 ^ L ≤ (base9 ^ 2) ^ L := Nat.pow_le_pow_left (by decide) L
  have h2 : (base9 ^ 2) ^ L = base9 ^ (2 * L) := (Nat.pow_mul base9 2 L).symm
  exact Nat.le_trans h1 (h2 ▸ Nat.pow_le_pow_right (by decide) hle)
theorem dec_len {n L : Nat} (hL : n < B32 ^ L) : (decDigits n).length ≤ 18 * L + 1 := by
  refine (pad_eq (18 * L + 1) n (by omega) (Nat.lt_of_lt_of_le hL ?_)).1
  have h1 : B32 ^ L ≤ (10 ^ 18) ^ L := Nat.pow_le_pow_left (by decide) L
  have h2 : (10 ^ 18) ^ L = 10 ^ (18 * L) := (Nat.pow_mul 10 18 L).symm
  exact Nat.le_trans h1 (h2 ▸ Nat.pow_le_pow_right (by decide) (by omega))
theorem pad_string (r : Nat) (hr : r < base9) : (⟨(Lib.repeatL [48] (9 - (decDigits r).length)).toArray⟩ : ByteArray) ++ ⟨(decDigits r).toArray⟩ = ⟨(padk 9 r).toArray⟩ := by
  rw [repeat_zero, (pad_eq 9 r (by omega) hr).2, ByteArray.mk_append_mk]
theorem repeat_any (c : Nat) (w : World) (hc : c ≤ 1000) :
    Calls Tryd.prog 44 #[.string ⟨#[48]⟩, .int .i64 (c : Int)] w fun e w' => e = .returned (.string ⟨(Lib.repeatL [48] c).toArray⟩) ∧ Below w.heap.size w w' :=
  Tryd.strings_Repeat ⟨#[48]⟩ c w (by omega) (by
    have : (⟨#[48]⟩ : ByteArray).size = 1 := rfl
    rw [this]; omega)
theorem builder_new (w : World) : Lib.IsBuilder 76 5 w.heap.size w.heap.size (Lib.byteCells []) (w.alloc (.cells #[.pointer none, .slice none 0 0] 76)) :=
  .inl ⟨Nat.le_refl _, .slice none 0 0, heap_new w _, ⟨rfl, .inl ⟨rfl, rfl⟩⟩, by simp [Value.ownBlock]⟩
theorem flat_take (ps : List ByteArray) (k : Nat) : (flat (ps.take k)).length ≤ (flat ps).length := by
  have : flat ps = flat (ps.take k) ++ flat (ps.drop k) := by rw [← flat_append, List.take_append_drop]
  rw [this, List.length_append]; omega
end Go.Proofs.YtepljhpamconbaaDoor
