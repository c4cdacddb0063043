/- The simplex method: the rule of Bland ends. No program in sight. -/
import Derived.Test.YtcdbgincfdejkaaGreatDoorLpA
namespace Go.Proofs.YtcdbgincfdejkaaGreatDoor
def entN (cs : List Rat) (fs : List Int) : Nat → Int
  | 0 => -1
  | k + 1 => if cs.getD k 0 < 0 ∧ (entN cs fs k < 0 ∨ fs.getD k 0 < fs.getD (entN cs fs k).toNat 0) then (k : Int) else entN cs fs k
theorem entN_spec (cs : List Rat) (fs : List Int) (k : Nat) : (entN cs fs k = -1 ∧ ∀ m, m < k → 0 ≤ cs.getD m 0) ∨ ∃ j : Nat, j < k ∧ entN cs fs k = (j : Int) ∧ cs.getD j 0 < 0 ∧ ∀ m, m < k → cs.getD m 0 < 0 → fs.getD j 0 ≤ fs.getD m 0 := by
  induction k with
  | zero => exact .inl ⟨rfl, fun m h => absurd h (Nat.not_lt_zero _)⟩
  | succ k ih =>
    unfold entN
    rcases ih with ⟨h1, h2⟩ | ⟨j, hj, h1, h2, h3⟩
    · rw [h1]
      by_cases hc : cs.getD k 0 < 0
      · rw [if_pos ⟨hc, .inl (by decide)⟩]
        refine .inr ⟨k, Nat.lt_succ_self _, rfl, hc, fun m hm hn => ?_⟩
        rcases Nat.lt_or_eq_of_le (Nat.le_of_lt_succ hm) with h | rfl
        · have := h2 m h; grind
        · exact Int.le_refl _
      · rw [if_neg (fun h => hc h.1)]
        refine .inl ⟨rfl, fun m hm => ?_⟩
        rcases Nat.lt_or_eq_of_le (Nat.le_of_lt_succ hm) with h | rfl
        · exact h2 m h
        · grind
    · rw [h1]
      by_cases hc : cs.getD k 0 < 0 ∧ ((j : Int) < 0 ∨ fs.getD k 0 < fs.getD (j : Int).toNat 0)
      · rw [if_pos hc]
        obtain ⟨hc, hd⟩ := hc
        rw [Int.toNat_natCast] at hd
        refine .inr ⟨k, Nat.lt_succ_self _, rfl, hc, fun m hm hn => ?_⟩
        rcases Nat.lt_or_eq_of_le (Nat.le_of_lt_succ hm) with h | rfl
        · have := h3 m h hn; omega
        · exact Int.le_refl _
      · rw [if_neg hc]
        refine .inr ⟨j, by omega, rfl, h2, fun m hm hn => ?_⟩
        rcases Nat.lt_or_eq_of_le (Nat.le_of_lt_succ hm) with h | rfl
        · exact h3 m h hn
        · rw [Int.toNat_natCast] at hc
          rcases Int.lt_or_le (fs.getD m 0) (fs.getD j 0) with h | h
          · exact absurd ⟨hn, .inr h⟩ hc
          · exact h
def leaN (rs : List LRow) (bs : List Int) (j : Nat) : Nat → Int × Rat
  | 0 => (-1, 0)
  | k + 1 => if (rs.getD k default).cs.getD j 0 ≤ 0 then leaN rs bs j k else
      if (leaN rs bs j k).1 < 0 ∨ (rs.getD k default).r / (rs.getD k default).cs.getD j 0 < (leaN rs bs j k).2 ∨ ((rs.getD k default).r / (rs.getD k default).cs.getD j 0 = (leaN rs bs j k).2 ∧ bs.getD k 0 < bs.getD (leaN rs bs j k).1.toNat 0)
      then ((k : Int), (rs.getD k default).r / (rs.getD k default).cs.getD j 0) else leaN rs bs j k
def quoR (rs : List LRow) (j k : Nat) : Rat := (rs.getD k default).r / (rs.getD k default).cs.getD j 0
def cofR (rs : List LRow) (j k : Nat) : Rat := (rs.getD k default).cs.getD j 0
theorem leaN_succ (rs : List LRow) (bs : List Int) (j k : Nat) : leaN rs bs j (k + 1) = if cofR rs j k ≤ 0 then leaN rs bs j k else
      if (leaN rs bs j k).1 < 0 ∨ quoR rs j k < (leaN rs bs j k).2 ∨ (quoR rs j k = (leaN rs bs j k).2 ∧ bs.getD k 0 < bs.getD (leaN rs bs j k).1.toNat 0) then ((k : Int), quoR rs j k) else leaN rs bs j k := rfl
theorem leaN_spec (rs : List LRow) (bs : List Int) (j k : Nat) : (leaN rs bs j k = (-1, 0) ∧ ∀ m, m < k → cofR rs j m ≤ 0) ∨ ∃ i : Nat, i < k ∧ leaN rs bs j k = ((i : Int), quoR rs j i) ∧ 0 < cofR rs j i ∧
    ∀ m, m < k → 0 < cofR rs j m → quoR rs j i ≤ quoR rs j m ∧ (quoR rs j i = quoR rs j m → bs.getD i 0 ≤ bs.getD m 0) := by
  induction k with
  | zero => exact .inl ⟨rfl, fun m h => absurd h (Nat.not_lt_zero _)⟩
  | succ k ih =>
    rw [leaN_succ]
    by_cases ha : cofR rs j k ≤ 0
    · rw [if_pos ha]
      rcases ih with ⟨h1, h2⟩ | ⟨i, hi, h1, h2, h3⟩
      · refine .inl ⟨h1, fun m hm => ?_⟩
        rcases Nat.lt_or_eq_of_le (Nat.le_of_lt_succ hm) with h | rfl
        · exact h2 m h
        · exact ha
      · refine .inr ⟨i, by omega, h1, h2, fun m hm hn => ?_⟩
        rcases Nat.lt_or_eq_of_le (Nat.le_of_lt_succ hm) with h | rfl
        · exact h3 m h hn
        · grind
    · rw [if_neg ha]
      have ha' : 0 < cofR rs j k := by grind
      rcases ih with ⟨h1, h2⟩ | ⟨i, hi, h1, h2, h3⟩
      · rw [h1, if_pos (.inl (by show (-1 : Int) < 0; decide))]
        refine .inr ⟨k, Nat.lt_succ_self _, rfl, ha', fun m hm hn => ?_⟩
        rcases Nat.lt_or_eq_of_le (Nat.le_of_lt_succ hm) with h | rfl
        · have := h2 m h; grind
        · exact ⟨Rat.le_refl, fun _ => Int.le_refl _⟩
      · rw [h1]
        dsimp only
        rw [Int.toNat_natCast]
        by_cases hc : quoR rs j k < quoR rs j i ∨ (quoR rs j k = quoR rs j i ∧ bs.getD k 0 < bs.getD i 0)
        · rw [if_pos (.inr hc)]
          refine .inr ⟨k, Nat.lt_succ_self _, rfl, ha', fun m hm hn => ?_⟩
          rcases Nat.lt_or_eq_of_le (Nat.le_of_lt_succ hm) with h | rfl
          · obtain ⟨h4, h5⟩ := h3 m h hn
            rcases hc with hc | ⟨hc, hd⟩
            · exact ⟨by grind, fun e => by grind⟩
            · rw [hc]
              exact ⟨h4, fun e => by have := h5 e; omega⟩
          · exact ⟨Rat.le_refl, fun _ => Int.le_refl _⟩
        · rw [if_neg (fun h => h.elim (fun h => by omega) hc)]
          refine .inr ⟨i, by omega, rfl, h2, fun m hm hn => ?_⟩
          rcases Nat.lt_or_eq_of_le (Nat.le_of_lt_succ hm) with h | rfl
          · exact h3 m h hn
          · refine ⟨by grind, fun e => ?_⟩
            rcases Int.lt_or_le (bs.getD m 0) (bs.getD i 0) with h | h
            · exact absurd (.inr ⟨e.symm, h⟩) hc
            · exact h
def asg : List Int → List Rat → Int → Rat
  | b :: bs, x :: xs, n => if n = b then x else asg bs xs n
  | _, _, _ => 0
theorem asg_out : ∀ (bs : List Int) (xs : List Rat) (n : Int), n ∉ bs → asg bs xs n = 0
  | [], _, _, _ => by simp [asg]
  | b :: bs, [], n, _ => by simp [asg]
  | b :: bs, x :: xs, n, h => by
    rw [asg, if_neg (fun e => h (by simp [e]))]
    exact asg_out bs xs n (fun h2 => h (List.mem_cons_of_mem _ h2))
theorem asg_at : ∀ (bs : List Int) (xs : List Rat) (i : Nat) (b : Int) (x : Rat), bs.Nodup → bs[i]? = some b → xs[i]? = some x → asg bs xs b = x
  | [], _, _, _, _, _, h, _ => by simp at h
  | b :: bs, [], i, _, _, _, _, h => by simp at h
  | b :: bs, x :: xs, 0, b', x', _, h, h' => by simp at h h'; subst h; subst h'; simp [asg]
  | b :: bs, x :: xs, i + 1, b', x', hn, h, h' => by
    have hn2 := List.nodup_cons.1 hn
    simp only [List.getElem?_cons_succ] at h h'
    rw [asg, if_neg (fun (e : b' = b) => hn2.1 (e ▸ List.mem_of_getElem? h))]
    exact asg_at bs xs i b' x' hn2.2 h h'
theorem dotV_zero {v : Int → Rat} : ∀ {cs : List Rat} {fs : List Int}, (∀ f ∈ fs, v f = 0) → dotV v cs fs = 0
  | [], fs, _ => dotV_nil v fs
  | _ :: _, [], _ => rfl
  | c :: cs, f :: fs, h => by
    have ih := dotV_zero (cs := cs) (fun g hg => h g (List.mem_cons_of_mem _ hg))
    simp only [dotV]
    rw [ih, h f (List.mem_cons_self ..)]; grind
theorem dotV_one {v : Int → Rat} : ∀ {cs : List Rat} {fs : List Int} {j : Nat}, j < fs.length → j < cs.length → (∀ k f, k ≠ j → fs[k]? = some f → v f = 0) → dotV v cs fs = cs.getD j 0 * v (fs.getD j 0)
  | [], _, _, _, h, _ => absurd h (Nat.not_lt_zero _)
  | _ :: _, [], _, h, _, _ => absurd h (Nat.not_lt_zero _)
  | c :: cs, f :: fs, 0, _, _, h => by
    have h0 : dotV v cs fs = 0 := dotV_zero fun g hg => by
      obtain ⟨k, hk⟩ := List.mem_iff_getElem?.1 hg
      exact h (k + 1) g (by omega) (by simpa using hk)
    simp only [dotV, List.getD_cons_zero]
    rw [h0]; grind
  | c :: cs, f :: fs, j + 1, h1, h2, h => by
    have ih := dotV_one (cs := cs) (fs := fs) (j := j) (by simpa using h1) (by simpa using h2) fun k g hk hg => h (k + 1) g (by omega) (by simpa using hg)
    have h0 : v f = 0 := h 0 f (by omega) rfl
    simp only [dotV, List.getD_cons_succ]
    rw [ih, h0]; grind
theorem dotV_subv (v u : Int → Rat) : ∀ (cs : List Rat) (fs : List Int), dotV (fun n => v n - u n) cs fs = dotV v cs fs - dotV u cs fs
  | [], fs => by simp only [dotV_nil]; grind
  | c :: cs, [] => by simp only [dotV]; grind
  | c :: cs, f :: fs => by
    simp only [dotV]
    rw [dotV_subv v u cs fs]; grind
theorem dotV_neg {v : Int → Rat} : ∀ {cs : List Rat} {fs : List Int}, dotV v cs fs < 0 → ∃ k f, fs[k]? = some f ∧ k < cs.length ∧ cs.getD k 0 * v f < 0
  | [], fs, h => by rw [dotV_nil] at h; grind
  | c :: cs, [], h => by simp only [dotV] at h; grind
  | c :: cs, f :: fs, h => by
    simp only [dotV] at h
    by_cases h1 : c * v f < 0
    · exact ⟨0, f, rfl, by simp, by simpa using h1⟩
    · obtain ⟨k, g, h2, h3, h4⟩ := dotV_neg (v := v) (cs := cs) (fs := fs) (by grind)
      exact ⟨k + 1, g, by simpa using h2, by simpa using h3, by simpa using h4⟩
theorem nodup_inj {l : List Int} (h : l.Nodup) {i j : Nat} (hi : i < l.length) (hj : j < l.length) (e : l[i] = l[j]) : i = j := by
  rcases Nat.lt_trichotomy i j with h1 | h1 | h1
  · exact absurd e (List.pairwise_iff_getElem.1 h i j hi hj h1)
  · exact h1
  · exact absurd e.symm (List.pairwise_iff_getElem.1 h j i hj hi h1)
section
variable {T : LTab}
theorem LTab.Ok.nd1 (h : T.Ok) : T.basic.Nodup := (List.nodup_append.1 h.nd).1
theorem LTab.Ok.nd2 (h : T.Ok) : T.free.Nodup := (List.nodup_append.1 h.nd).2.1
theorem LTab.Ok.apart (h : T.Ok) {n : Int} (h1 : n ∈ T.basic) (h2 : n ∈ T.free) : False := (List.nodup_append.1 h.nd).2.2 n h1 n h2 rfl
def LTab.sol (T : LTab) : Int → Rat := asg T.basic (T.rows.map (·.r))
def LTab.pt (T : LTab) (j : Nat) (y : Rat) (n : Int) : Rat := if n = T.free.getD j 0 then y else asg T.basic (T.rows.map fun x => x.r - x.cs.getD j 0 * y) n
theorem LTab.Ok.sol_free (h : T.Ok) {n : Int} (hn : n ∈ T.free) : T.sol n = 0 := asg_out _ _ _ fun hb => h.apart hb hn
theorem LTab.Ok.sol_at (h : T.Ok) {i : Nat} {b : Int} {x : LRow} (hb : T.basic[i]? = some b) (hx : T.rows[i]? = some x) : T.sol b = x.r := asg_at _ _ i b x.r h.nd1 hb (by simp [hx])
theorem LTab.Ok.sat_sol (h : T.Ok) : T.Sat T.sol := fun i b x hb hx => by
  rw [h.sol_at hb hx]
  unfold LRow.ev
  rw [dotV_zero fun f hf => h.sol_free hf]; grind
theorem mem_getD {l : List Int} {j : Nat} (h : j < l.length) : l.getD j 0 ∈ l := by
  rw [List.getD, List.getElem?_eq_getElem h]; exact List.getElem_mem h
theorem LTab.Ok.pt_at (h : T.Ok) {i j : Nat} (hj : j < T.free.length) (y : Rat) {b : Int} {x : LRow} (hb : T.basic[i]? = some b) (hx : T.rows[i]? = some x) : T.pt j y b = x.r - x.cs.getD j 0 * y := by
  unfold LTab.pt
  rw [if_neg (fun (e : b = T.free.getD j 0) => h.apart (List.mem_of_getElem? hb) (e ▸ mem_getD hj))]
  exact asg_at _ _ i b _ h.nd1 hb (by simp [hx])
theorem LTab.pt_j (T : LTab) (j : Nat) (y : Rat) : T.pt j y (T.free.getD j 0) = y := by unfold LTab.pt; rw [if_pos rfl]
theorem LTab.pt_out {j : Nat} (y : Rat) {n : Int} (hn : n ∉ T.basic) (hne : n ≠ T.free.getD j 0) : T.pt j y n = 0 := by
  unfold LTab.pt; rw [if_neg hne]; exact asg_out _ _ _ hn
theorem LTab.Ok.pt_free (h : T.Ok) {j k : Nat} (hj : j < T.free.length) (y : Rat) {f : Int} (hk : k ≠ j) (hf : T.free[k]? = some f) : T.pt j y f = 0 := by
  refine LTab.pt_out y (fun hb => h.apart hb (List.mem_of_getElem? hf)) fun e => hk ?_
  obtain ⟨hk', rfl⟩ := List.getElem?_eq_some_iff.1 hf
  rw [List.getD, List.getElem?_eq_getElem hj, Option.getD_some] at e
  exact nodup_inj h.nd2 hk' hj e
theorem LTab.Ok.pt_dot (h : T.Ok) {j : Nat} (hj : j < T.free.length) (y : Rat) {cs : List Rat} (hc : cs.length = T.free.length) : dotV (T.pt j y) cs T.free = cs.getD j 0 * y := by
  rw [dotV_one hj (by omega) fun k f hk hf => h.pt_free hj y hk hf, T.pt_j]
theorem LTab.Ok.sat_pt (h : T.Ok) {j : Nat} (hj : j < T.free.length) (y : Rat) : T.Sat (T.pt j y) := fun i b x hb hx => by
  rw [h.pt_at hj y hb hx]
  unfold LRow.ev
  rw [h.pt_dot hj y (h.row hx)]
theorem LTab.Sat.at {v : Int → Rat} (hs : T.Sat v) (hz : ∀ n ∈ T.free, v n = 0) {i : Nat} {b : Int} {x : LRow} (hb : T.basic[i]? = some b) (hx : T.rows[i]? = some x) : v b = x.r := by
  rw [hs i b x hb hx]
  unfold LRow.ev
  rw [dotV_zero hz]; grind
def LTab.Feas (T : LTab) : Prop := ∀ x ∈ T.rows, 0 ≤ x.r
structure Pick (T : LTab) (g : LRow) (i j : Nat) : Prop where
  hi : i < T.rows.length
  hj : j < T.free.length
  c : g.cs.getD j 0 < 0
  least : ∀ m, m < T.free.length → g.cs.getD m 0 < 0 → T.free.getD j 0 ≤ T.free.getD m 0
  a : 0 < cofR T.rows j i
  quo : ∀ m, m < T.rows.length → 0 < cofR T.rows j m → quoR T.rows j i ≤ quoR T.rows j m ∧ (quoR T.rows j i = quoR T.rows j m → T.basic.getD i 0 ≤ T.basic.getD m 0)
theorem row_getD {i : Nat} (h : i < T.rows.length) : T.rows[i]? = some (T.rows.getD i default) := by rw [List.getD, List.getElem?_eq_getElem h]; rfl
theorem getD_some {l : List Int} {i : Nat} (h : i < l.length) : l[i]? = some (l.getD i 0) := by rw [List.getD, List.getElem?_eq_getElem h]; rfl
theorem pos_ne {a : Rat} (h : 0 < a) : a ≠ 0 := by grind
theorem div_nn {a b : Rat} (ha : 0 ≤ a) (hb : 0 < b) : 0 ≤ a / b := by
  rw [Rat.div_def]; exact Rat.mul_nonneg ha (Rat.le_of_lt (Rat.inv_pos.2 hb))
theorem pivot_r (i j k : Nat) {x : LRow} (hx : T.rows[k]? = some x) : ((T.pivot i j).rows[k]?.getD default).r = if k = i then x.r * (1 / x.cs.getD j 0) else x.r - x.cs.getD j 0 * ((T.rows.getD i default).r * (1 / (T.rows.getD i default).cs.getD j 0)) := by
  rw [pivot_rows, hx]
  simp only [Option.map_some, Option.getD_some]
  split <;> simp [LRow.scale, LRow.subst]
theorem LTab.Feas.pivot {i j : Nat} (hF : T.Feas) (hi : i < T.rows.length) (ha : 0 < cofR T.rows j i) (hq : ∀ m, m < T.rows.length → 0 < cofR T.rows j m → quoR T.rows j i ≤ quoR T.rows j m) : (T.pivot i j).Feas := fun x hx => by
  obtain ⟨k, hk⟩ := List.mem_iff_getElem?.1 hx
  have hk' : k < T.rows.length := by
    have := (List.getElem?_eq_some_iff.1 hk).1
    simpa [LTab.pivot] using this
  have h1 := pivot_r i j k (row_getD hk')
  rw [hk, Option.getD_some] at h1
  rw [h1]
  have hri := hF _ (List.mem_of_getElem? (row_getD hi))
  have hrk := hF _ (List.mem_of_getElem? (row_getD hk'))
  have hqi : (T.rows.getD i default).r * (1 / (T.rows.getD i default).cs.getD j 0) = quoR T.rows j i := by unfold quoR; grind
  split
  · rename_i e; subst e; rw [hqi]; exact div_nn hri ha
  · rw [hqi]
    have hq0 : 0 ≤ quoR T.rows j i := div_nn hri ha
    by_cases hc : 0 < cofR T.rows j k
    · have h2 := hq k hk' hc
      have h3 : quoR T.rows j k * cofR T.rows j k = (T.rows.getD k default).r := by unfold quoR cofR at *; exact Rat.div_mul_cancel (pos_ne hc)
      have h4 := Rat.mul_le_mul_of_nonneg_right h2 (Rat.le_of_lt hc)
      unfold cofR at *
      grind
    · have h2 : 0 ≤ -(cofR T.rows j k) * quoR T.rows j i := Rat.mul_nonneg (by grind) hq0
      unfold cofR at *
      grind
end
end Go.Proofs.YtcdbgincfdejkaaGreatDoor
