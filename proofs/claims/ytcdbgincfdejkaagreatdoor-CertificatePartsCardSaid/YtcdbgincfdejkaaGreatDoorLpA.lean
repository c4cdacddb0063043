/- The simplex method over rational numbers: rows, pivots, and what they keep. No program in sight. -/
namespace Go.Proofs.YtcdbgincfdejkaaGreatDoor
structure LRow where
  cs : List Rat
  r : Rat
instance : Inhabited LRow := ⟨⟨[], 0⟩⟩
def dotV (v : Int → Rat) : List Rat → List Int → Rat
  | c :: cs, f :: fs => c * v f + dotV v cs fs
  | _, _ => 0
def LRow.ev (v : Int → Rat) (fs : List Int) (x : LRow) : Rat := x.r - dotV v x.cs fs
def subCs (f : Rat) : List Rat → List Rat → List Rat
  | a :: as, b :: bs => (a - f * b) :: subCs f as bs
  | as, _ => as
def LRow.subst (x : LRow) (j : Nat) (p : LRow) : LRow := ⟨subCs (x.cs.getD j 0) (x.cs.set j 0) p.cs, x.r - x.cs.getD j 0 * p.r⟩
def LRow.scale (x : LRow) (j : Nat) : LRow := ⟨(x.cs.set j 1).map (· * (1 / x.cs.getD j 0)), x.r * (1 / x.cs.getD j 0)⟩
theorem dotV_nil (v : Int → Rat) (fs : List Int) : dotV v [] fs = 0 := by cases fs <;> rfl
theorem dotV_set (v : Int → Rat) (c : Rat) : ∀ (cs : List Rat) (fs : List Int) (j : Nat), j < cs.length → j < fs.length → dotV v (cs.set j c) fs = dotV v cs fs + (c - cs.getD j 0) * v (fs.getD j 0)
  | [], _, _, h, _ => absurd h (Nat.not_lt_zero _)
  | _ :: _, [], _, _, h => absurd h (Nat.not_lt_zero _)
  | a :: cs, f :: fs, 0, _, _ => by simp [dotV]; grind
  | a :: cs, f :: fs, j + 1, h, h' => by
    have ih := dotV_set v c cs fs j (by simpa using h) (by simpa using h')
    simp only [List.set_cons_succ, dotV, List.getD_cons_succ]
    rw [ih]; grind
theorem dotV_fset (v : Int → Rat) (b : Int) : ∀ (cs : List Rat) (fs : List Int) (j : Nat), j < cs.length → j < fs.length → dotV v cs (fs.set j b) = dotV v cs fs + cs.getD j 0 * (v b - v (fs.getD j 0))
  | [], _, _, h, _ => absurd h (Nat.not_lt_zero _)
  | _ :: _, [], _, _, h => absurd h (Nat.not_lt_zero _)
  | a :: cs, f :: fs, 0, _, _ => by simp [dotV]; grind
  | a :: cs, f :: fs, j + 1, h, h' => by
    have ih := dotV_fset v b cs fs j (by simpa using h) (by simpa using h')
    simp only [List.set_cons_succ, dotV, List.getD_cons_succ]
    rw [ih]; grind
theorem dotV_map (v : Int → Rat) (s : Rat) : ∀ (cs : List Rat) (fs : List Int), dotV v (cs.map (· * s)) fs = dotV v cs fs * s
  | [], fs => by simp [dotV_nil]
  | a :: cs, [] => by simp [dotV]
  | a :: cs, f :: fs => by
    have ih := dotV_map v s cs fs
    simp only [List.map_cons, dotV]
    rw [ih]; grind
theorem dotV_sub (v : Int → Rat) (f : Rat) : ∀ (as bs : List Rat) (fs : List Int), bs.length = as.length → dotV v (subCs f as bs) fs = dotV v as fs - f * dotV v bs fs
  | [], [], fs, _ => by simp [subCs, dotV_nil]; grind
  | [], b :: bs, fs, h => by simp at h
  | a :: as, [], fs, h => by simp at h
  | a :: as, b :: bs, [], _ => by simp [subCs, dotV]; grind
  | a :: as, b :: bs, e :: fs, h => by
    have ih := dotV_sub v f as bs fs (by simpa using h)
    simp only [subCs, dotV]
    rw [ih]; grind
theorem subCs_len (f : Rat) : ∀ (as bs : List Rat), (subCs f as bs).length = as.length
  | [], [] => rfl
  | [], _ :: _ => rfl
  | _ :: _, [] => rfl
  | a :: as, b :: bs => by simp [subCs, subCs_len f as bs]
theorem subCs_at (f : Rat) : ∀ (as bs : List Rat) (k : Nat), bs.length = as.length → (subCs f as bs).getD k 0 = as.getD k 0 - f * bs.getD k 0
  | [], [], k, _ => by simp [subCs]; grind
  | [], b :: bs, k, h => by simp at h
  | a :: as, [], k, h => by simp at h
  | a :: as, b :: bs, 0, _ => by simp [subCs]
  | a :: as, b :: bs, k + 1, h => by simpa [subCs] using subCs_at f as bs k (by simpa using h)
theorem LRow.subst_len (x : LRow) (j : Nat) (p : LRow) : (x.subst j p).cs.length = x.cs.length := by simp [LRow.subst, subCs_len]
theorem LRow.scale_len (x : LRow) (j : Nat) : (x.scale j).cs.length = x.cs.length := by simp [LRow.scale]
theorem LRow.scale_ev {x : LRow} {fs : List Int} {j : Nat} {b : Int} (v : Int → Rat) (hl : x.cs.length = fs.length) (hj : j < fs.length) (ha : x.cs.getD j 0 ≠ 0) : (v b = x.ev v fs) ↔ (v (fs.getD j 0) = (x.scale j).ev v (fs.set j b)) := by
  have h1 := dotV_map v (1 / x.cs.getD j 0) (x.cs.set j 1) (fs.set j b)
  have h2 := dotV_set v 1 x.cs (fs.set j b) j (by omega) (by simpa using hj)
  have h3 := dotV_fset v b x.cs fs j (by omega) hj
  have h4 : (fs.set j b).getD j 0 = b := by simp [List.getD, List.getElem?_set_self hj]
  rw [h4] at h2
  unfold LRow.ev LRow.scale
  simp only [h1, h2, h3]
  generalize x.cs.getD j 0 = a at *
  generalize v (fs.getD j 0) = e at *
  generalize dotV v x.cs fs = d at *
  constructor
  · intro h; grind
  · intro h; grind
theorem LRow.subst_ev {x p : LRow} {fs : List Int} {j : Nat} {b : Int} (v : Int → Rat) (hl : x.cs.length = fs.length) (hp : p.cs.length = fs.length) (hj : j < fs.length) (he : v (fs.getD j 0) = p.ev v (fs.set j b)) : (x.subst j p).ev v (fs.set j b) = x.ev v fs := by
  unfold LRow.ev LRow.subst
  have h1 := dotV_sub v (x.cs.getD j 0) (x.cs.set j 0) p.cs (fs.set j b) (by simp [hl, hp])
  have h2 := dotV_set v 0 x.cs (fs.set j b) j (by omega) (by simpa using hj)
  have h3 := dotV_fset v b x.cs fs j (by omega) hj
  have h4 : (fs.set j b).getD j 0 = b := by simp [List.getD, List.getElem?_set_self hj]
  rw [h4] at h2
  unfold LRow.ev at he
  simp only [h1, h2, h3]
  generalize x.cs.getD j 0 = a at *
  generalize v (fs.getD j 0) = e at *
  generalize dotV v x.cs fs = d at *
  grind
structure LTab where
  rows : List LRow
  basic : List Int
  free : List Int
structure LTab.Ok (T : LTab) : Prop where
  nb : T.basic.length = T.rows.length
  cl : ∀ x ∈ T.rows, x.cs.length = T.free.length
  nd : (T.basic ++ T.free).Nodup
def LTab.Sat (T : LTab) (v : Int → Rat) : Prop := ∀ (i : Nat) (b : Int) (x : LRow), T.basic[i]? = some b → T.rows[i]? = some x → v b = x.ev v T.free
def LTab.pivot (T : LTab) (i j : Nat) : LTab :=
  ⟨T.rows.mapIdx fun k x => if k = i then x.scale j else x.subst j ((T.rows.getD i default).scale j), T.basic.set i (T.free.getD j 0), T.free.set j (T.basic.getD i 0)⟩
def LTab.obj (T : LTab) (i j : Nat) (g : LRow) : LRow := g.subst j ((T.rows.getD i default).scale j)
section
variable {T : LTab} {i j : Nat}
theorem getD_of {α : Type _} {l : List α} {i : Nat} {x d : α} (h : l[i]? = some x) : l.getD i d = x := by simp [List.getD, h]
theorem pivot_rows (k : Nat) : (T.pivot i j).rows[k]? = T.rows[k]?.map fun x => if k = i then x.scale j else x.subst j ((T.rows.getD i default).scale j) := by
  unfold LTab.pivot; simp [List.getElem?_mapIdx]
theorem LTab.Ok.row (h : T.Ok) {x : LRow} (hx : T.rows[i]? = some x) : x.cs.length = T.free.length := h.cl x (List.mem_of_getElem? hx)
theorem swap_nodup {as bs : List Int} {i j : Nat} (hn : (as ++ bs).Nodup) (hi : i < as.length) (hj : j < bs.length) : (as.set i bs[j] ++ bs.set j as[i]).Nodup := by
  have hp : (as.set i bs[j] ++ bs.set j as[i]).Perm (as ++ bs) := by
    have h1 : as = as.take i ++ as[i] :: as.drop (i + 1) := by rw [← List.drop_eq_getElem_cons, List.take_append_drop]
    have h2 : bs = bs.take j ++ bs[j] :: bs.drop (j + 1) := by rw [← List.drop_eq_getElem_cons, List.take_append_drop]
    rw [List.set_eq_take_append_cons_drop, if_pos hi, List.set_eq_take_append_cons_drop, if_pos hj]
    refine List.Perm.trans ?_ (List.Perm.of_eq (congr (congrArg HAppend.hAppend h1.symm) h2.symm))
    generalize as.take i = a1
    generalize as.drop (i + 1) = a2
    generalize bs.take j = b1
    generalize bs.drop (j + 1) = b2
    generalize as[i] = x
    generalize bs[j] = y
    rw [List.perm_iff_count]
    intro z
    simp [List.count_append, List.count_cons]
    omega
  exact hp.nodup_iff.2 hn
theorem LTab.Ok.pivot (h : T.Ok) (hi : i < T.rows.length) (hj : j < T.free.length) : (T.pivot i j).Ok := by
  have hi' : i < T.basic.length := h.nb ▸ hi
  refine ⟨by simp [LTab.pivot, h.nb], fun x hx => ?_, ?_⟩
  · obtain ⟨k, hk⟩ := List.mem_iff_getElem?.1 hx
    rw [pivot_rows] at hk
    cases e : T.rows[k]? with
    | none => rw [e] at hk; cases hk
    | some y =>
      rw [e] at hk
      simp only [Option.map_some, Option.some.injEq] at hk
      subst hk
      have := h.row e
      simp only [LTab.pivot, List.length_set]
      split
      · rw [LRow.scale_len, this]
      · rw [LRow.subst_len, this]
  · have := swap_nodup h.nd hi' hj
    simpa [LTab.pivot, List.getD, List.getElem?_eq_getElem hi', List.getElem?_eq_getElem hj] using this
theorem LTab.Ok.sat_pivot (h : T.Ok) {x : LRow} (hx : T.rows[i]? = some x) (hj : j < T.free.length) (ha : x.cs.getD j 0 ≠ 0) (v : Int → Rat) : (T.pivot i j).Sat v ↔ T.Sat v := by
  have hi : i < T.rows.length := (List.getElem?_eq_some_iff.1 hx).1
  have hi' : i < T.basic.length := h.nb ▸ hi
  obtain ⟨b, hb⟩ : ∃ b, T.basic[i]? = some b := ⟨_, List.getElem?_eq_getElem hi'⟩
  have key := LRow.scale_ev (x := x) (fs := T.free) (j := j) (b := b) v (h.row hx) hj ha
  have hxd : T.rows.getD i default = x := getD_of hx
  have he : ∀ (y : LRow) (k : Nat), T.rows[k]? = some y → v (T.free.getD j 0) = (x.scale j).ev v (T.free.set j b) → (y.subst j (x.scale j)).ev v (T.free.set j b) = y.ev v T.free := fun y k hy hh =>
    LRow.subst_ev v (h.row hy) ((LRow.scale_len x j).trans (h.row hx)) hj hh
  constructor
  · intro hs
    have h0 := hs i (T.free.getD j 0) (x.scale j) (by simp [LTab.pivot, List.getElem?_set_self hi']) (by rw [pivot_rows, hx]; simp)
    rw [show (T.pivot i j).free = T.free.set j b by simp [LTab.pivot, hb]] at h0
    intro k c y hc hy
    by_cases hk : k = i
    · subst hk
      rw [hb] at hc; rw [hx] at hy; cases hc; cases hy
      exact key.2 h0
    · have h1 := hs k c (y.subst j (x.scale j)) (by simp [LTab.pivot, List.getElem?_set_ne (Ne.symm hk), hc]) (by rw [pivot_rows, hy]; simp [hk, hx])
      rw [show (T.pivot i j).free = T.free.set j b by simp [LTab.pivot, hb], he y k hy h0] at h1
      exact h1
  · intro hs
    have h0 := key.1 (hs i b x hb hx)
    intro k c y hc hy
    rw [show (T.pivot i j).free = T.free.set j b by simp [LTab.pivot, hb]]
    rw [pivot_rows] at hy
    cases e : T.rows[k]? with
    | none => rw [e] at hy; cases hy
    | some z =>
      rw [e] at hy
      simp only [Option.map_some, Option.some.injEq] at hy
      subst hy
      by_cases hk : k = i
      · subst hk
        rw [hx] at e; cases e
        rw [if_pos rfl]
        have : (T.pivot k j).basic[k]? = some (T.free.getD j 0) := by simp [LTab.pivot, List.getElem?_set_self hi']
        rw [this] at hc; cases hc
        exact h0
      · rw [if_neg hk, hxd, he z k e h0]
        refine hs k c z ?_ e
        have : (T.pivot i j).basic[k]? = T.basic[k]? := by simp [LTab.pivot, List.getElem?_set_ne (Ne.symm hk)]
        rwa [this] at hc
theorem LTab.Ok.obj_ev (h : T.Ok) {x g : LRow} (hx : T.rows[i]? = some x) (hj : j < T.free.length) (ha : x.cs.getD j 0 ≠ 0) (hg : g.cs.length = T.free.length) {v : Int → Rat} (hs : T.Sat v) : (T.obj i j g).ev v (T.pivot i j).free = g.ev v T.free := by
  have hi : i < T.rows.length := (List.getElem?_eq_some_iff.1 hx).1
  have hi' : i < T.basic.length := h.nb ▸ hi
  obtain ⟨b, hb⟩ : ∃ b, T.basic[i]? = some b := ⟨_, List.getElem?_eq_getElem hi'⟩
  have hxd : T.rows.getD i default = x := getD_of hx
  have h0 := (LRow.scale_ev (x := x) (fs := T.free) (j := j) (b := b) v (h.row hx) hj ha).1 (hs i b x hb hx)
  rw [show (T.pivot i j).free = T.free.set j b by simp [LTab.pivot, List.getD, hb]]
  unfold LTab.obj
  rw [hxd]
  exact LRow.subst_ev v hg ((LRow.scale_len x j).trans (h.row hx)) hj h0
end
end Go.Proofs.YtcdbgincfdejkaaGreatDoor
