/- The lists of demands that texts say: lines. No program in sight. -/
import Derived.Test.YtjhgkojbpgakcaaDoorDemZ
namespace Go.Proofs.YtjhgkojbpgakcaaDoor
open Go.RowKit
open Go.Lib (decDigits)
def bodyD (x : Dm) : List UInt8 := dmB ++ argsD x 4
def lineR (s : List UInt8) : Option Dm := match pieces 32 s with
  | [w0, w1, w2, w3, w4] => if w0 = dmB then some ⟨numB w1, numB w2, numB w3, numB w4⟩ else none
  | _ => none
def linesR : List (List UInt8) → Option (List Dm)
  | [] => none
  | [a] => if a = [] then some [] else none
  | a :: b :: r => match lineR a, linesR (b :: r) with
    | some x, some l => some (x :: l)
    | _, _ => none
def prsR (s : List UInt8) : Option (List Dm) := match linesR (pieces 10 s) with
  | some l => if vldD 64 l = true then some l else none
  | none => none
def b1D (x : Dm) : List UInt8 := decDigits x.s.toNat ++ 32 :: (decDigits x.d.toNat ++ 32 :: (decDigits x.a.toNat ++ 32 :: decDigits x.p.toNat))
def b2D (x : Dm) : List UInt8 := decDigits x.d.toNat ++ 32 :: (decDigits x.a.toNat ++ 32 :: decDigits x.p.toNat)
def b3D (x : Dm) : List UInt8 := decDigits x.a.toNat ++ 32 :: decDigits x.p.toNat
section
variable {x : Dm} {l : List Dm} {s : List UInt8}
theorem body_eq (x : Dm) : bodyD x = dmB ++ 32 :: b1D x := by unfold bodyD b1D; simp [argsD, fldD]
theorem line_body (x : Dm) : lineD x = bodyD x ++ [10] := rfl
theorem no32 (n : Nat) : ∀ d ∈ decDigits n, d ≠ 32 := dec_ne_c (by decide) n
theorem no10 (n : Nat) : ∀ d ∈ decDigits n, d ≠ 10 := dec_ne_c (by decide) n
theorem dm32 : ∀ d ∈ dmB, d ≠ 32 := by decide
theorem dm10 : ∀ d ∈ dmB, d ≠ 10 := by decide
theorem pieces_body (x : Dm) : pieces 32 (bodyD x) = [dmB, decDigits x.s.toNat, decDigits x.d.toNat, decDigits x.a.toNat, decDigits x.p.toNat] := by
  rw [body_eq, pieces_hit dm32, b1D, pieces_hit (no32 _), pieces_hit (no32 _), pieces_hit (no32 _), pieces_no (no32 _)]
theorem body10 (x : Dm) : ∀ d ∈ bodyD x, d ≠ 10 := fun d hd => by
  rw [body_eq, b1D] at hd
  simp only [List.mem_append, List.mem_cons] at hd
  rcases hd with h | h | h | h | h | h | h | h | h
  · exact dm10 d h
  · rw [h]; decide
  · exact no10 _ d h
  · rw [h]; decide
  · exact no10 _ d h
  · rw [h]; decide
  · exact no10 _ d h
  · rw [h]; decide
  · exact no10 _ d h
theorem lineR_body (h : OkD 64 x) : lineR (bodyD x) = some x := by
  unfold lineR
  rw [pieces_body]
  unfold OkD at h
  dsimp only
  rw [if_pos rfl, num_dec (by omega), num_dec (by omega), num_dec (by omega), num_dec (by omega)]
  exact congrArg some (Dm.eq (by show ((x.s.toNat : Nat) : Int) = x.s; omega) (by show ((x.d.toNat : Nat) : Int) = x.d; omega) (by show ((x.a.toNat : Nat) : Int) = x.a; omega) (by show ((x.p.toNat : Nat) : Int) = x.p; omega))
theorem lineR_of (h : lineR s = some x) (h0 : 0 ≤ x.s) (h1 : 0 ≤ x.d) (h2 : 0 ≤ x.a) (h3 : 0 ≤ x.p) : s = bodyD x := by
  unfold lineR at h
  split at h
  · rename_i w0 w1 w2 w3 w4 e
    split at h
    · rename_i hw
      cases h
      dsimp only at h0 h1 h2 h3
      have hj := join_pieces (c := 32) (l := s)
      rw [e] at hj
      rw [← hj, body_eq, b1D]
      show w0 ++ 32 :: (w1 ++ 32 :: (w2 ++ 32 :: (w3 ++ 32 :: w4))) = _
      rw [hw, ← num_yes h0, ← num_yes h1, ← num_yes h2, ← num_yes h3]
    · cases h
  · cases h
theorem linesR_lns : ∀ {l : List Dm}, (∀ x ∈ l, OkD 64 x) → linesR (pieces 10 (lnsD l)) = some l
  | [], _ => by
    have : lnsD [] = [] := rfl
    rw [this, pieces_no (fun d h => absurd h List.not_mem_nil)]; rfl
  | x :: l, h => by
    have e1 : lnsD (x :: l) = bodyD x ++ 10 :: lnsD l := by
      unfold lnsD; rw [List.map_cons, List.flatten_cons, line_body, List.append_assoc]; rfl
    have ih := linesR_lns (l := l) fun y hy => h y (List.mem_cons_of_mem _ hy)
    rw [e1, pieces_hit (body10 x)]
    cases e : pieces 10 (lnsD l) with
    | nil => exact absurd e (pieces_ne _ _)
    | cons a r =>
      rw [e] at ih
      rw [linesR, lineR_body (h x (List.mem_cons_self ..)), ih]
theorem linesR_of : ∀ {ps : List (List UInt8)} {l : List Dm}, linesR ps = some l → (∀ x ∈ l, OkD 64 x) → joinC 10 ps = lnsD l
  | [], _, h, _ => by cases h
  | [a], l, h, _ => by
    rw [linesR] at h
    split at h
    · rename_i e; cases h; rw [e]; rfl
    · cases h
  | a :: b :: r, l, h, ho => by
    rw [linesR] at h
    split at h
    · rename_i x l' e1 e2
      cases h
      have hx := ho x (List.mem_cons_self ..)
      have ih := linesR_of e2 fun y hy => ho y (List.mem_cons_of_mem _ hy)
      unfold OkD at hx
      show a ++ 10 :: joinC 10 (b :: r) = _
      rw [ih, lineR_of e1 hx.1 hx.2.2.1 (by omega) (by omega)]
      unfold lnsD; rw [List.map_cons, List.flatten_cons, line_body, List.append_assoc]; rfl
    · cases h
theorem prsR_iff : prsR s = some l ↔ vldD 64 l = true ∧ lnsD l = s := by
  unfold prsR
  constructor
  · intro h
    split at h
    · rename_i l' e
      split at h
      · rename_i hv
        cases h
        have := linesR_of e (vldD_iff.1 hv).2.2.2
        rw [join_pieces] at this
        exact ⟨hv, this.symm⟩
      · cases h
    · cases h
  · rintro ⟨hv, rfl⟩
    rw [linesR_lns (vldD_iff.1 hv).2.2.2]
    dsimp only
    rw [if_pos hv]
theorem prsR_text (hv : vldD 64 l = true) : prsR (textD l) = some l := prsR_iff.2 ⟨hv, (textD_t hv).symm⟩
theorem prsR_some (hv : vldD 64 l = true) (ht : textD l = s) : prsR s = some l := prsR_iff.2 ⟨hv, by rw [← textD_t hv]; exact ht⟩
theorem cut_body (x : Dm) : cutL 32 (bodyD x) = dmB ∧ cutR 32 (bodyD x) = b1D x := by
  rw [body_eq]; obtain ⟨h1, h2, _⟩ := cut_hit (c := 32) (l := dmB) (m := b1D x) dm32; exact ⟨h1, h2⟩
theorem cut_b1 (x : Dm) : cutL 32 (b1D x) = decDigits x.s.toNat ∧ cutR 32 (b1D x) = b2D x := by
  obtain ⟨h1, h2, _⟩ := cut_hit (c := 32) (m := b2D x) (no32 x.s.toNat); exact ⟨h1, h2⟩
theorem cut_b2 (x : Dm) : cutL 32 (b2D x) = decDigits x.d.toNat ∧ cutR 32 (b2D x) = b3D x := by
  obtain ⟨h1, h2, _⟩ := cut_hit (c := 32) (m := b3D x) (no32 x.d.toNat); exact ⟨h1, h2⟩
theorem cut_b3 (x : Dm) : cutL 32 (b3D x) = decDigits x.a.toNat ∧ cutR 32 (b3D x) = decDigits x.p.toNat := by
  obtain ⟨h1, h2, _⟩ := cut_hit (c := 32) (m := decDigits x.p.toNat) (no32 x.a.toNat); exact ⟨h1, h2⟩
end
end Go.Proofs.YtjhgkojbpgakcaaDoor
