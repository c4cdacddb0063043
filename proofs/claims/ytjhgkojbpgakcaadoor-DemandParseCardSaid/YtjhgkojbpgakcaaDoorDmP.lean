/- The lines of a text as strings.Lines tells them, and what the program makes of them. No program in sight. -/
import Derived.Test.YtjhgkojbpgakcaaDoorDmC
namespace Go.Proofs.YtjhgkojbpgakcaaDoor
open Go.RowKit
open Go.Lib (decDigits)
inductive LnsB : List UInt8 → List (List UInt8) → Prop
  | nil : LnsB [] []
  | last {l : List UInt8} (h : l ≠ []) (h2 : ∀ d ∈ l, d ≠ 10) : LnsB l [l]
  | cons {u v : List UInt8} {ls : List (List UInt8)} (h : ∀ d ∈ u, d ≠ 10) (h2 : LnsB v ls) : LnsB (u ++ 10 :: v) ((u ++ [10]) :: ls)
theorem lns_ex (l : List UInt8) : ∃ ls, LnsB l ls := by
  induction hn : l.length using Nat.strongRecOn generalizing l with
  | ind n ih =>
    rcases first_c 10 l with w | ⟨u, v, rfl, w⟩
    · by_cases h : l = []
      · exact ⟨[], h ▸ .nil⟩
      · exact ⟨[l], .last h w⟩
    · obtain ⟨ls, h⟩ := ih v.length (by rw [← hn]; simp; omega) v rfl
      exact ⟨_, .cons w h⟩
theorem first_uniq {c : UInt8} : ∀ {u u' v v' : List UInt8}, u ++ c :: v = u' ++ c :: v' → (∀ d ∈ u, d ≠ c) → (∀ d ∈ u', d ≠ c) → u = u' ∧ v = v'
  | [], [], _, _, e, _, _ => ⟨rfl, by injection e⟩
  | [], a :: u', _, _, e, _, h' => by injection e with e1 _; exact absurd e1.symm (h' a (List.mem_cons_self ..))
  | a :: u, [], _, _, e, h, _ => by injection e with e1 _; exact absurd e1 (h a (List.mem_cons_self ..))
  | a :: u, b :: u', _, _, e, h, h' => by
    injection e with e1 e2
    obtain ⟨h1, h2⟩ := first_uniq e2 (fun d hd => h d (List.mem_cons_of_mem _ hd)) (fun d hd => h' d (List.mem_cons_of_mem _ hd))
    exact ⟨by rw [e1, h1], h2⟩
theorem lns_uniq {l : List UInt8} {a b : List (List UInt8)} (h : LnsB l a) (h' : LnsB l b) : a = b := by
  induction h generalizing b with
  | nil =>
    generalize hl : ([] : List UInt8) = m at h'
    cases h' with
    | nil => rfl
    | last h _ => exact absurd hl.symm h
    | cons _ _ => simp at hl
  | @last l h h2 =>
    generalize hl : l = m at h'
    cases h' with
    | nil => exact absurd hl h
    | last _ _ => rfl
    | cons _ _ => exact absurd rfl (h2 10 (by rw [hl]; simp))
  | @cons u v ls h h2 ih =>
    generalize hl : u ++ 10 :: v = m at h'
    cases h' with
    | nil => simp at hl
    | last _ h3 => exact absurd rfl (h3 10 (by rw [← hl]; simp))
    | cons h3 h4 =>
      obtain ⟨rfl, rfl⟩ := first_uniq hl h h3
      rw [ih h4]
def PreB (txt : List UInt8) (pre : List (List UInt8)) (r : List UInt8) : Prop := ∀ ls, LnsB r ls → LnsB txt (pre ++ ls)
theorem PreB.start (t : List UInt8) : PreB t [] t := fun _ h => h
theorem PreB.line {t u v : List UInt8} {pre : List (List UInt8)} (h : PreB t pre (u ++ 10 :: v)) (hu : ∀ d ∈ u, d ≠ 10) : PreB t (pre ++ [u ++ [10]]) v := fun ls hl => by
  have := h _ (.cons hu hl)
  rwa [List.append_assoc]
theorem PreB.rest {t r : List UInt8} {pre : List (List UInt8)} (h : PreB t pre r) (hr : r ≠ []) (hu : ∀ d ∈ r, d ≠ 10) : PreB t (pre ++ [r]) [] := fun ls hl => by
  rw [lns_uniq hl .nil, List.append_nil]
  exact h _ (.last hr hu)
theorem PreB.all {t : List UInt8} {pre : List (List UInt8)} (h : PreB t pre []) : LnsB t pre := by
  have := h _ .nil
  rwa [List.append_nil] at this
def trimN (x : List UInt8) : List UInt8 := Lib.trimSuffix x [10]
theorem trim_nl (u : List UInt8) : trimN (u ++ [10]) = u := by
  unfold trimN Lib.trimSuffix
  rw [if_pos (by simp [Lib.hasSuffix])]
  simp
theorem trim_len (x : List UInt8) : (trimN x).length ≤ x.length := by
  unfold trimN Lib.trimSuffix
  split
  · rw [List.length_take]; omega
  · exact Nat.le_refl _
def r1P (y : List UInt8) : List UInt8 := cutR 32 y
def r2P (y : List UInt8) : List UInt8 := cutR 32 (r1P y)
def r3P (y : List UInt8) : List UInt8 := cutR 32 (r2P y)
def r4P (y : List UInt8) : List UInt8 := cutR 32 (r3P y)
def itemP (y : List UInt8) : Dm := ⟨nmD (cutL 32 (r1P y)), nmD (cutL 32 (r2P y)), nmD (cutL 32 (r3P y)), nmD (cutL 32 (r4P y))⟩
def lnP (x : List UInt8) : Dm := itemP (trimN x)
def GoodL (pre : List (List UInt8)) : Prop := (∀ x ∈ pre, cutL 32 (trimN x) = dmB) ∧ pre.length ≤ 64
def BadL (pre : List (List UInt8)) : Prop := (∃ x ∈ pre, cutL 32 (trimN x) ≠ dmB) ∨ 64 < pre.length
theorem cutL_none {c : UInt8} {l : List UInt8} (h : ∀ d ∈ l, d ≠ c) : cutL c l = l := by
  unfold cutL Lib.cut
  rw [idx_no c l h, if_neg (by decide)]
theorem decFrom_le : ∀ {l : List UInt8} {acc m : Nat}, Lib.decFrom acc l = some m → acc ≤ m
  | [], acc, m, h => by injection h with h; omega
  | b :: r, acc, m, h => by
    unfold Lib.decFrom at h
    split at h
    · have := decFrom_le h; omega
    · cases h
theorem pu10 : ∀ {l : List UInt8} {acc m : Nat}, Lib.decFrom acc l = some m → m < 1000000000 → Lib.parseUint10 acc l = .ok m
  | [], acc, m, h, _ => by injection h with h; subst h; rfl
  | b :: r, acc, m, h, hm => by
    unfold Lib.decFrom at h
    split at h
    · rename_i d hd
      unfold Lib.digitVal at hd
      split at hd
      · rename_i hb
        injection hd with hd
        subst hd
        have h1 := decFrom_le h
        unfold Lib.parseUint10
        rw [if_pos hb, if_neg (by omega), if_neg (by omega)]
        exact pu10 h hm
      · cases hd
    · cases h
theorem atoiAll_dec {n : Nat} (h : n < 1000000000) : Lib.atoiAll (decDigits n) = .ok (n : Int) := by
  have h1 := pu10 (decFrom_dec n) h
  have h2 := dec_all n
  cases e : decDigits n with
  | nil => exact absurd e (dec_ne n)
  | cons c r =>
    rw [e] at h1 h2
    rw [List.all_cons, Bool.and_eq_true] at h2
    have h3 := chrB_of h2.1
    have h4 : dgB c = true := h2.1
    unfold dgB at h4
    rw [Bool.and_eq_true, decide_eq_true_eq, decide_eq_true_eq] at h4
    unfold Lib.atoiAll Lib.parseMag
    dsimp only
    rw [if_neg (by omega : ¬ (c.toNat = 43 ∨ c.toNat = 45)), if_neg (by simp), h1]
    dsimp only
    rw [if_neg (by omega), if_neg (by omega), if_neg (by omega)]
theorem nm_dec {n : Nat} (h : n < 1000000000) : nmD (decDigits n) = (n : Int) := by
  unfold nmD atNo atI
  rw [atoiAll_dec h]
  rfl
theorem cut_no32 (n : Nat) : cutL 32 (decDigits n) = decDigits n := cutL_none (no32 n)
theorem item_body {x : Dm} (h : OkD 64 x) : itemP (bodyD x) = x := by
  unfold OkD at h
  have e1 : r1P (bodyD x) = b1D x := (cut_body x).2
  have e2 : r2P (bodyD x) = b2D x := by unfold r2P; rw [e1]; exact (cut_b1 x).2
  have e3 : r3P (bodyD x) = b3D x := by unfold r3P; rw [e2]; exact (cut_b2 x).2
  have e4 : r4P (bodyD x) = decDigits x.p.toNat := by unfold r4P; rw [e3]; exact (cut_b3 x).2
  unfold itemP
  rw [e1, e2, e3, e4, (cut_b1 x).1, (cut_b2 x).1, (cut_b3 x).1, cut_no32, nm_dec (by omega), nm_dec (by omega), nm_dec (by omega), nm_dec (by omega)]
  exact Dm.eq (by show ((x.s.toNat : Nat) : Int) = x.s; omega) (by show ((x.d.toNat : Nat) : Int) = x.d; omega) (by show ((x.a.toNat : Nat) : Int) = x.a; omega) (by show ((x.p.toNat : Nat) : Int) = x.p; omega)
theorem lns_text : ∀ (l : List Dm), LnsB (lnsD l) (l.map lineD)
  | [] => .nil
  | x :: l => by
    have e1 : lnsD (x :: l) = bodyD x ++ 10 :: lnsD l := by
      unfold lnsD; rw [List.map_cons, List.flatten_cons, line_body, List.append_assoc]; rfl
    rw [e1, List.map_cons, line_body]
    exact .cons (body10 x) (lns_text l)
theorem line_item {x : Dm} (h : OkD 64 x) : lnP (lineD x) = x := by unfold lnP; rw [line_body, trim_nl, item_body h]
theorem map_items : ∀ {l : List Dm}, (∀ x ∈ l, OkD 64 x) → (l.map lineD).map lnP = l
  | [], _ => rfl
  | x :: l, h => by rw [List.map_cons, List.map_cons, line_item (h x (List.mem_cons_self ..)), map_items fun y hy => h y (List.mem_cons_of_mem _ hy)]
section
variable {txt : List UInt8} {ls pre : List (List UInt8)} {xs l : List Dm}
theorem prs_lines (h : prsR txt = some l) (hl : LnsB txt ls) : ls = l.map lineD ∧ vldD 64 l = true := by
  obtain ⟨hv, rfl⟩ := prsR_iff.1 h
  exact ⟨lns_uniq hl (lns_text l), hv⟩
theorem prs_test (hl : LnsB txt ls) (hx : xs = ls.map lnP) : prsR txt = if vldD 64 xs = true ∧ textD xs = txt then some xs else none := by
  split
  · rename_i h; exact prsR_some h.1 h.2
  · rename_i h
    cases e : prsR txt with
    | none => rfl
    | some l =>
      exfalso
      obtain ⟨e1, hv⟩ := prs_lines e hl
      have e2 : xs = l := by rw [hx, e1]; exact map_items (vldD_iff.1 hv).2.2.2
      obtain ⟨_, e3⟩ := prsR_iff.1 e
      exact h ⟨e2 ▸ hv, by rw [e2, textD_t hv]; exact e3⟩
theorem prs_stop {r : List UInt8} (hp : PreB txt pre r) (hb : BadL pre) : prsR txt = none := by
  cases e : prsR txt with
  | none => rfl
  | some l =>
    exfalso
    obtain ⟨ls, h⟩ := lns_ex r
    obtain ⟨e1, hv⟩ := prs_lines e (hp _ h)
    obtain ⟨_, _, h64, hok⟩ := vldD_iff.1 hv
    rcases hb with ⟨x, hx, hd⟩ | hb
    · have : x ∈ l.map lineD := by rw [← e1]; exact List.mem_append_left _ hx
      obtain ⟨y, _, rfl⟩ := List.mem_map.1 this
      rw [line_body, trim_nl] at hd
      exact hd (cut_body y).1
    · have := congrArg List.length e1
      rw [List.length_append, List.length_map] at this
      omega
theorem GoodL.nil : GoodL [] := ⟨fun _ h => absurd h List.not_mem_nil, by simp⟩
theorem GoodL.snoc {x : List UInt8} (h : GoodL pre) (hx : cutL 32 (trimN x) = dmB) (hl : pre.length < 64) : GoodL (pre ++ [x]) := ⟨fun y hy => by
  rcases List.mem_append.1 hy with q | q
  · exact h.1 y q
  · rw [List.mem_singleton.1 q]; exact hx, by simp; omega⟩
theorem BadL.word {x : List UInt8} (hx : cutL 32 (trimN x) ≠ dmB) : BadL (pre ++ [x]) := .inl ⟨x, by simp, hx⟩
theorem BadL.many {x : List UInt8} (h : 64 ≤ pre.length) : BadL (pre ++ [x]) := .inr (by simp; omega)
end
end Go.Proofs.YtjhgkojbpgakcaaDoor
