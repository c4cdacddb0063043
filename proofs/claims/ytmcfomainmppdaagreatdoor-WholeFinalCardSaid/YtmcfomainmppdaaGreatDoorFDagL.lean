/- Distances: what they satisfy, that they are the only such numbers; repeated comparisons and Dijkstra's search both reach them. No program in sight. Dijkstra's search with a queue that gives a least key: it reaches the distances. No program in sight. Topologies, their arcs and distances; next arcs, the order of the nodes, the number of shortest paths. No program in sight. The number of shortest paths, counted towards the end; paths of next arcs. No program in sight. Counting node by node, towards growing distances; the shares of the arcs. No program in sight. Distances are small; next arcs as the program gathers them. No program in sight. Unique shortest paths: their parts; fewer arcs. No program in sight. A topology without the links that are down: the same distances, the same next arcs, under other numbers. No program in sight. -/
import Derived.Test.YtmcfomainmppdaaGreatDoorFMA
namespace Go.Proofs.YtmcfomainmppdaaGreatDoor
structure ArcD where
  x : Nat
  y : Nat
  c : Nat
structure Bel (ar : Nat → Option ArcD) (A n r : Nat) (f : Nat → Int) : Prop where
  root : f r = 0
  edge : ∀ a e, a < A → ar a = some e → 0 ≤ f e.y → 0 ≤ f e.x ∧ f e.x ≤ f e.y + (e.c : Int)
  back : ∀ x, x < n → x ≠ r → 0 ≤ f x → ∃ a e, a < A ∧ ar a = some e ∧ e.x = x ∧ 0 ≤ f e.y ∧ f x = f e.y + (e.c : Int)
  neg : ∀ x, f x < 0 → f x = -1
structure ArOk (ar : Nat → Option ArcD) (A n C : Nat) : Prop where
  hx : ∀ a e, a < A → ar a = some e → e.x < n ∧ e.y < n ∧ 1 ≤ e.c ∧ e.c ≤ C
section
variable {ar : Nat → Option ArcD} {A n r C : Nat} {f g : Nat → Int}
theorem Bel.le (ha : ArOk ar A n C) (hf : Bel ar A n r f) (hg : Bel ar A n r g) : ∀ (k x : Nat), x < n → f x = (k : Int) → 0 ≤ g x ∧ g x ≤ f x := by
  intro k
  induction k using Nat.strongRecOn with
  | ind k ih =>
    intro x hx hk
    by_cases hr : x = r
    · subst hr; rw [hg.root, hf.root]; omega
    · obtain ⟨a, e, h1, h2, h3, h4, h5⟩ := hf.back x hx hr (by omega)
      obtain ⟨_, hy, hc, _⟩ := ha.hx a e h1 h2
      obtain ⟨j, hj⟩ : ∃ j : Nat, f e.y = (j : Int) := Int.eq_ofNat_of_zero_le h4
      obtain ⟨i1, i2⟩ := ih j (by omega) e.y hy hj
      obtain ⟨i3, i4⟩ := hg.edge a e h1 h2 i1
      rw [h3] at i3 i4
      omega
theorem Bel.eq (ha : ArOk ar A n C) (hf : Bel ar A n r f) (hg : Bel ar A n r g) {x : Nat} (hx : x < n) : f x = g x := by
  by_cases h : 0 ≤ f x
  · obtain ⟨k, hk⟩ : ∃ k : Nat, f x = (k : Int) := Int.eq_ofNat_of_zero_le h
    obtain ⟨h1, h2⟩ := hf.le ha hg k x hx hk
    obtain ⟨j, hj⟩ : ∃ j : Nat, g x = (j : Int) := Int.eq_ofNat_of_zero_le h1
    obtain ⟨_, h4⟩ := hg.le ha hf j x hx hj
    omega
  · by_cases h' : 0 ≤ g x
    · obtain ⟨j, hj⟩ : ∃ j : Nat, g x = (j : Int) := Int.eq_ofNat_of_zero_le h'
      have := (hg.le ha hf j x hx hj).1
      omega
    · rw [hf.neg x (by omega), hg.neg x (by omega)]
end
def atD (l : List Int) (x : Nat) : Int := l.getD x (-1)
def relB (l : List Int) (e : ArcD) : Bool := decide (0 ≤ atD l e.y) && (decide (atD l e.x < 0) || decide (atD l e.y + (e.c : Int) < atD l e.x))
def rel1 (l : List Int) (e : ArcD) : List Int := if relB l e then l.set e.x (atD l e.y + (e.c : Int)) else l
def passN (ar : Nat → Option ArcD) (l : List Int) : Nat → List Int × Bool
  | 0 => (l, false)
  | k + 1 => match ar k with
    | none => passN ar l k
    | some e => if relB (passN ar l k).1 e then (rel1 (passN ar l k).1 e, true) else passN ar l k
section
variable {ar : Nat → Option ArcD} {A n r C : Nat} {l : List Int} {e : ArcD} {k : Nat}
theorem atD_set {x y : Nat} {v : Int} (hx : x < l.length) : atD (l.set x v) y = if x = y then v else atD l y := by
  unfold atD List.getD
  rw [List.getElem?_set]
  split
  · rename_i h; subst h; simp []
  · rfl
theorem atD_out {x : Nat} (hx : l.length ≤ x) : atD l x = -1 := by unfold atD List.getD; rw [List.getElem?_eq_none hx]; rfl
def cntD (l : List Int) : Nat := (l.filter fun v => decide (0 ≤ v)).length
theorem cnt_set {l : List Int} {x : Nat} {v : Int} (hx : x < l.length) (hv : 0 ≤ v) : cntD (l.set x v) = cntD l + (if atD l x < 0 then 1 else 0) := by
  induction l generalizing x with
  | nil => simp at hx
  | cons a l ih =>
    cases x with
    | zero =>
      unfold cntD atD
      by_cases ha : 0 ≤ a
      · simp [hv, ha, Int.not_lt.2 ha]
      · simp [hv, ha, Int.not_le.1 ha]
    | succ x =>
      have := ih (x := x) (by simpa using hx)
      unfold cntD atD at this ⊢
      by_cases ha : 0 ≤ a
      · simp only [List.set_cons_succ, List.filter_cons, ha, decide_true, if_true, List.length_cons, List.getD_cons_succ]; omega
      · simp only [List.set_cons_succ, List.filter_cons, ha, decide_false, Bool.false_eq_true, if_false, List.getD_cons_succ]; omega
theorem cnt_le (l : List Int) : cntD l ≤ l.length := List.length_filter_le _ _
structure RelI (ar : Nat → Option ArcD) (A n r C : Nat) (l : List Int) : Prop where
  len : l.length = n
  hr : r < n
  root : atD l r = 0
  neg : ∀ x, atD l x < 0 → atD l x = -1
  sup : ∀ x, x ≠ r → 0 ≤ atD l x → ∃ a e, a < A ∧ ar a = some e ∧ e.x = x ∧ 0 ≤ atD l e.y ∧ atD l e.y + (e.c : Int) ≤ atD l x
  bd : ∀ x, atD l x ≤ (((cntD l - 1) * C : Nat) : Int)
  one : 1 ≤ cntD l
theorem RelI.small (h : RelI ar A n r C l) (x : Nat) : atD l x ≤ (((n - 1) * C : Nat) : Int) :=
  Int.le_trans (h.bd x) (Int.ofNat_le.2 (Nat.mul_le_mul_right _ (Nat.sub_le_sub_right (h.len ▸ cnt_le l) 1)))
theorem relB_iff : relB l e = true ↔ 0 ≤ atD l e.y ∧ (atD l e.x < 0 ∨ atD l e.y + (e.c : Int) < atD l e.x) := by
  unfold relB; simp
theorem RelI.step (ha : ArOk ar A n C) (h : RelI ar A n r C l) {a : Nat} (hl : a < A) (he : ar a = some e) (hb : relB l e = true) : RelI ar A n r C (l.set e.x (atD l e.y + (e.c : Int))) := by
  obtain ⟨hx, hy, hc1, hc2⟩ := ha.hx a e hl he
  obtain ⟨b1, b2⟩ := relB_iff.1 hb
  have hxl : e.x < l.length := by rw [h.len]; exact hx
  have hxr : e.x ≠ r := fun q => by rw [q, h.root] at b2; omega
  have hyx : e.x ≠ e.y := fun q => by rw [← q] at b1 b2; omega
  have hc := cnt_set (l := l) (v := atD l e.y + (e.c : Int)) hxl (by omega)
  refine ⟨by rw [List.length_set]; exact h.len, h.hr, by rw [atD_set hxl, if_neg hxr]; exact h.root, fun x hx => ?_, fun x hxr' h0 => ?_, fun x => ?_, ?_⟩
  · rw [atD_set hxl] at hx ⊢
    split at hx
    · omega
    · rename_i q; rw [if_neg q]; exact h.neg x hx
  · rw [atD_set hxl] at h0
    split at h0
    · rename_i q
      exact ⟨a, e, hl, he, q, by rw [atD_set hxl, if_neg hyx]; exact b1, by rw [atD_set hxl, if_neg hyx, atD_set hxl, if_pos q]; exact Int.le_refl _⟩
    · rename_i q
      obtain ⟨a', e', h1, h2, h3, h4, h5⟩ := h.sup x hxr' h0
      refine ⟨a', e', h1, h2, h3, ?_, ?_⟩
      · rw [atD_set hxl]; split
        · omega
        · exact h4
      · rw [atD_set hxl, atD_set hxl, if_neg q]
        split
        · rename_i q2
          rw [q2] at b2
          rcases b2 with b2 | b2
          · rw [← q2] at h4; rw [← q2] at b2; omega
          · omega
        · exact h5
  · rw [hc, atD_set hxl]
    have h1 := h.one
    have h2 := h.bd e.y
    split
    · by_cases q : atD l e.x < 0
      · rw [if_pos q]
        have e1 : (cntD l + 1 - 1) * C = (cntD l - 1) * C + C := by
          rw [show cntD l + 1 - 1 = (cntD l - 1) + 1 by omega, Nat.add_mul, Nat.one_mul]
        rw [e1]
        omega
      · rw [if_neg q, Nat.add_zero]
        have := h.bd e.x
        omega
    · refine Int.le_trans (h.bd x) (Int.ofNat_le.2 (Nat.mul_le_mul_right _ ?_))
      omega
  · have := h.one; rw [hc]; omega
def muD (M : Nat) (l : List Int) : Nat := (l.map fun v => if v < 0 then M else v.toNat).sum
theorem mu_set {M : Nat} {l : List Int} {x : Nat} {v : Int} (hx : x < l.length) (hv : 0 ≤ v) (hM : v < (M : Int)) (h : atD l x < 0 ∨ v < atD l x) : muD M (l.set x v) < muD M l := by
  induction l generalizing x with
  | nil => simp at hx
  | cons a l ih =>
    cases x with
    | zero =>
      unfold muD
      have h' : a < 0 ∨ v < a := h
      simp only [List.set_cons_zero, List.map_cons, List.sum_cons, if_neg (Int.not_lt.2 hv)]
      split <;> omega
    | succ x =>
      have := ih (x := x) (by simpa using hx) h
      unfold muD at this ⊢
      simp only [List.set_cons_succ, List.map_cons, List.sum_cons]
      omega
theorem RelI.mu (ha : ArOk ar A n C) (h : RelI ar A n r C l) {a : Nat} (hl : a < A) (he : ar a = some e) (hb : relB l e = true) : muD (n * C + 1) (l.set e.x (atD l e.y + (e.c : Int))) < muD (n * C + 1) l := by
  obtain ⟨hx, _, _, hc2⟩ := ha.hx a e hl he
  obtain ⟨b1, b2⟩ := relB_iff.1 hb
  refine mu_set (by rw [h.len]; exact hx) (by omega) ?_ b2
  have h1 := h.small e.y
  have e1 : n * C = (n - 1) * C + C := by
    have := h.hr
    rw [show n = (n - 1) + 1 by omega, Nat.add_mul, Nat.one_mul]; rfl
  rw [e1]
  omega
theorem pass_ok (ha : ArOk ar A n C) (h : RelI ar A n r C l) : ∀ k, k ≤ A → RelI ar A n r C (passN ar l k).1 ∧ muD (n * C + 1) (passN ar l k).1 ≤ muD (n * C + 1) l ∧ ((passN ar l k).2 = true → muD (n * C + 1) (passN ar l k).1 < muD (n * C + 1) l) ∧ ((passN ar l k).2 = false → (passN ar l k).1 = l ∧ ∀ a e, a < k → ar a = some e → relB l e = false) := by
  intro k
  induction k with
  | zero => exact fun _ => ⟨h, Nat.le_refl _, fun e => by simp [passN] at e, fun _ => ⟨rfl, fun a e h _ => absurd h (by omega)⟩⟩
  | succ k ih =>
    intro hk
    obtain ⟨i1, i2, i3, i4⟩ := ih (by omega)
    rw [passN]
    split
    · rename_i hn
      refine ⟨i1, i2, i3, fun q => ⟨(i4 q).1, fun a e h1 h2 => ?_⟩⟩
      by_cases hak : a = k
      · subst hak; rw [hn] at h2; cases h2
      · exact (i4 q).2 a e (by omega) h2
    · rename_i e he
      split
      · rename_i hb
        have hs := i1.step ha (by omega) he hb
        have hm := i1.mu ha (by omega) he hb
        unfold rel1
        rw [if_pos hb]
        exact ⟨hs, Nat.le_trans (Nat.le_of_lt hm) i2, fun _ => Nat.lt_of_lt_of_le hm i2, fun q => by cases q⟩
      · rename_i hb
        refine ⟨i1, i2, i3, fun q => ⟨(i4 q).1, fun a e' h1 h2 => ?_⟩⟩
        by_cases hak : a = k
        · subst hak; rw [he] at h2; cases h2
          rw [← (i4 q).1]; simpa using hb
        · exact (i4 q).2 a e' (by omega) h2
theorem RelI.bel (h : RelI ar A n r C l) (hf : ∀ a e, a < A → ar a = some e → relB l e = false) : Bel ar A n r (atD l) := by
  have hed : ∀ a e, a < A → ar a = some e → 0 ≤ atD l e.y → 0 ≤ atD l e.x ∧ atD l e.x ≤ atD l e.y + (e.c : Int) := fun a e h1 h2 h3 => by
    have q := hf a e h1 h2
    have q2 : ¬ (0 ≤ atD l e.y ∧ (atD l e.x < 0 ∨ atD l e.y + (e.c : Int) < atD l e.x)) := fun w => by rw [relB_iff.2 w] at q; cases q
    omega
  refine ⟨h.root, hed, fun x _ hx h0 => ?_, h.neg⟩
  obtain ⟨a, e, h1, h2, h3, h4, h5⟩ := h.sup x hx h0
  have := (hed a e h1 h2 h4).2
  rw [h3] at this
  exact ⟨a, e, h1, h2, h3, h4, by omega⟩
def startD (n r : Nat) : List Int := (List.replicate n (-1)).set r 0
theorem start_at (hr : r < n) (x : Nat) : atD (startD n r) x = if r = x then 0 else -1 := by
  unfold startD
  rw [atD_set (by simpa using hr)]
  split
  · rfl
  · unfold atD List.getD
    rw [List.getElem?_replicate]
    split <;> rfl
theorem cnt_rep (n : Nat) : cntD (List.replicate n (-1)) = 0 := by
  unfold cntD
  rw [List.length_eq_zero_iff, List.filter_eq_nil_iff]
  intro a h
  rw [(List.mem_replicate.1 h).2]; decide
theorem RelI.start (hr : r < n) : RelI ar A n r C (startD n r) := by
  have hc : cntD (startD n r) = 1 := by
    unfold startD
    rw [cnt_set (by simpa using hr) (Int.le_refl 0), cnt_rep]
    have : atD (List.replicate n (-1)) r < 0 := by unfold atD List.getD; rw [List.getElem?_replicate, if_pos hr]; decide
    rw [if_pos this]
  refine ⟨by simp [startD], hr, by rw [start_at hr, if_pos rfl], fun x h => ?_, fun x hx h0 => ?_, fun x => ?_, by omega⟩
  · rw [start_at hr] at h ⊢; split at h
    · omega
    · rename_i q; rw [if_neg q]
  · rw [start_at hr, if_neg (fun q => hx q.symm)] at h0; omega
  · rw [start_at hr, hc]; split <;> simp
end
end Go.Proofs.YtmcfomainmppdaaGreatDoor
namespace Go.Proofs.YtmcfomainmppdaaGreatDoor
abbrev PQ := Nat → Option Int
def PQ.put (q : PQ) (i : Nat) (v : Int) : PQ := fun x => if x = i then some v else q x
def PQ.del (q : PQ) (i : Nat) : PQ := fun x => if x = i then none else q x
def PQ.Least (q : PQ) (i : Nat) (v : Int) : Prop := q i = some v ∧ ∀ z u, q z = some u → v ≤ u
structure DijI (ar : Nat → Option ArcD) (A n r C : Nat) (l : List Int) (q : PQ) (ex : Nat → Prop) : Prop where
  len : l.length = n
  hr : r < n
  hq : ∀ x v, q x = some v → x < n ∧ atD l x < 0 ∧ 0 ≤ v
  neg : ∀ x, atD l x < 0 → atD l x = -1
  rt : atD l r = 0 ∨ (q r = some 0 ∧ (∀ x, x ≠ r → q x = none) ∧ ∀ x, atD l x < 0)
  edge : ∀ a e, a < A → ar a = some e → ¬ ex a → 0 ≤ atD l e.y → (0 ≤ atD l e.x ∧ atD l e.x ≤ atD l e.y + (e.c : Int)) ∨ ∃ v, q e.x = some v ∧ v ≤ atD l e.y + (e.c : Int)
  supq : ∀ x v, q x = some v → x = r ∨ ∃ a e, a < A ∧ ar a = some e ∧ e.x = x ∧ 0 ≤ atD l e.y ∧ v = atD l e.y + (e.c : Int)
  sup : ∀ x, 0 ≤ atD l x → x ≠ r → ∃ a e, a < A ∧ ar a = some e ∧ e.x = x ∧ 0 ≤ atD l e.y ∧ atD l x = atD l e.y + (e.c : Int)
  mono : ∀ x z v, 0 ≤ atD l x → q z = some v → atD l x ≤ v
  bd : ∀ x v, q x = some v → v ≤ ((cntD l * C : Nat) : Int)
  bl : ∀ x, 0 ≤ atD l x → atD l x ≤ (((cntD l - 1) * C : Nat) : Int)
structure DijJ (ar : Nat → Option ArcD) (A n r C : Nat) (l : List Int) (q : PQ) (ex : Nat → Prop) (i : Nat) (k : Int) : Prop extends DijI ar A n r C l q ex where
  at_i : atD l i = k
  k0 : 0 ≤ k
  hi : i < n
  last : ∀ x, 0 ≤ atD l x → atD l x ≤ k
section
variable {ar : Nat → Option ArcD} {A n r C : Nat} {l : List Int} {q : PQ} {ex : Nat → Prop} {i : Nat} {k v : Int} {e : ArcD} {a : Nat}
theorem pq_put {x : Nat} : q.put i v x = if x = i then some v else q x := rfl
theorem pq_del {x : Nat} : q.del i x = if x = i then none else q x := rfl
theorem at_lt {x : Nat} (h : 0 ≤ atD l x) : x < l.length := by
  by_cases hx : x < l.length
  · exact hx
  · rw [atD_out (by omega)] at h; omega
theorem DijI.pop (_ha : ArOk ar A n C) (h : DijI ar A n r C l q (fun _ => False)) (hl : q.Least i v) : DijJ ar A n r C (l.set i v) (q.del i) (fun a => ∃ e, ar a = some e ∧ e.y = i) i v := by
  obtain ⟨hin, hineg, hv0⟩ := h.hq i v hl.1
  have hil : i < l.length := by rw [h.len]; exact hin
  have hc := cnt_set hil hv0
  rw [if_pos hineg] at hc
  have hne : ∀ x, 0 ≤ atD l x → x ≠ i := fun x hx e => by rw [e] at hx; omega
  have at' : ∀ x, atD (l.set i v) x = if i = x then v else atD l x := fun x => atD_set hil
  have keep : ∀ x, 0 ≤ atD l x → atD (l.set i v) x = atD l x := fun x hx => by rw [at', if_neg (fun e => hne x hx e.symm)]
  refine ⟨⟨by rw [List.length_set]; exact h.len, h.hr, fun x u hu => ?_, fun x hx => ?_, ?_, fun b e hb he hex hy => ?_, fun x u hu => ?_, fun x hx hxr => ?_, fun x z u hx hu => ?_, fun x u hu => ?_, fun x hx => ?_⟩, by rw [at', if_pos rfl], hv0, hin, fun x hx => ?_⟩
  · rw [pq_del] at hu
    split at hu
    · cases hu
    · rename_i hxi
      obtain ⟨a1, a2, a3⟩ := h.hq x u hu
      exact ⟨a1, by rw [at', if_neg (fun e => hxi e.symm)]; exact a2, a3⟩
  · rw [at'] at hx ⊢
    split at hx
    · omega
    · rename_i hxi; rw [if_neg hxi]; exact h.neg x hx
  · left
    rcases h.rt with hr | ⟨h1, h2, h3⟩
    · rw [keep r (by omega)]; exact hr
    · have : i = r := by
        by_cases hir : i = r
        · exact hir
        · have := h2 i hir; rw [hl.1] at this; cases this
      subst this
      have := hl.1; rw [h1] at this
      rw [at', if_pos rfl]; exact (Option.some.inj this).symm
  · have hyi : e.y ≠ i := fun w => hex ⟨e, he, w⟩
    have hy' : 0 ≤ atD l e.y := by rw [at', if_neg (fun w => hyi w.symm)] at hy; exact hy
    rw [keep _ hy']
    rcases h.edge b e hb he (fun w => w) hy' with ⟨h1, h2⟩ | ⟨u, h1, h2⟩
    · left; rw [keep _ h1]; exact ⟨h1, h2⟩
    · by_cases hxi : e.x = i
      · left
        rw [hxi, hl.1] at h1
        cases h1
        rw [at', if_pos hxi.symm]; exact ⟨hv0, h2⟩
      · right; exact ⟨u, by rw [pq_del, if_neg hxi]; exact h1, h2⟩
  · rw [pq_del] at hu
    split at hu
    · cases hu
    · rcases h.supq x u hu with hx | ⟨b, e, h1, h2, h3, h4, h5⟩
      · exact .inl hx
      · exact .inr ⟨b, e, h1, h2, h3, by rw [keep _ h4]; exact h4, by rw [keep _ h4]; exact h5⟩
  · by_cases hxi : i = x
    · subst hxi
      rcases h.supq i v hl.1 with hx | ⟨b, e, h1, h2, h3, h4, h5⟩
      · exact absurd hx hxr
      · exact ⟨b, e, h1, h2, h3, by rw [keep _ h4]; exact h4, by rw [keep _ h4, at', if_pos rfl]; exact h5⟩
    · have hx' : 0 ≤ atD l x := by rw [at', if_neg hxi] at hx; exact hx
      obtain ⟨b, e, h1, h2, h3, h4, h5⟩ := h.sup x hx' hxr
      exact ⟨b, e, h1, h2, h3, by rw [keep _ h4]; exact h4, by rw [keep _ h4, keep _ hx']; exact h5⟩
  · rw [pq_del] at hu
    split at hu
    · cases hu
    · rw [at'] at hx ⊢
      split
      · exact hl.2 z u hu
      · rename_i hxi; rw [if_neg hxi] at hx; exact h.mono x z u hx hu
  · rw [pq_del] at hu
    split at hu
    · cases hu
    · rw [hc]
      exact Int.le_trans (h.bd x u hu) (Int.ofNat_le.2 (Nat.mul_le_mul_right _ (by omega)))
  · rw [hc, Nat.add_sub_cancel]
    rw [at'] at hx ⊢
    split
    · exact h.bd i v hl.1
    · rename_i hxi; rw [if_neg hxi] at hx
      exact Int.le_trans (h.bl x hx) (Int.ofNat_le.2 (Nat.mul_le_mul_right _ (by omega)))
  · rw [at'] at hx ⊢
    split
    · exact Int.le_refl _
    · rename_i hxi; rw [if_neg hxi] at hx; exact h.mono x i v hx hl.1
theorem DijJ.skip (_ha : ArOk ar A n C) (h : DijJ ar A n r C l q ex i k) (he : ∀ e, a < A → ar a = some e → e.y = i ∧ (0 ≤ atD l e.x ∨ ∃ v, q e.x = some v ∧ v ≤ k + (e.c : Int))) : DijJ ar A n r C l q (fun b => ex b ∧ b ≠ a) i k := by
  refine ⟨⟨h.len, h.hr, h.hq, h.neg, h.rt, fun b e hb he' hex hy => ?_, h.supq, h.sup, h.mono, h.bd, h.bl⟩, h.at_i, h.k0, h.hi, h.last⟩
  by_cases hba : b = a
  · subst hba
    obtain ⟨h1, h2⟩ := he e hb he'
    rw [h1, h.at_i]
    rcases h2 with h2 | ⟨v, h2, h3⟩
    · have := h.last e.x h2
      exact .inl ⟨h2, by omega⟩
    · exact .inr ⟨v, h2, h3⟩
  · exact h.edge b e hb he' (fun w => hex ⟨w, hba⟩) hy
theorem DijJ.set (ha : ArOk ar A n C) (h : DijJ ar A n r C l q ex i k) (hb : a < A) (he : ar a = some e) (hy : e.y = i) (h0 : atD l e.x < 0) (hk : ∀ v, q e.x = some v → k + (e.c : Int) < v) : DijJ ar A n r C l (q.put e.x (k + (e.c : Int))) (fun b => ex b ∧ b ≠ a) i k := by
  obtain ⟨hx, _, hc1, hc2⟩ := ha.hx a e hb he
  have hk0 := h.k0
  have hrt : atD l r = 0 := h.rt.elim id fun w => by have := w.2.2 i; rw [h.at_i] at this; omega
  have hcnt : 1 ≤ cntD l := by
    have := at_lt (l := l) (x := i) (by rw [h.at_i]; exact hk0)
    unfold cntD
    refine List.length_pos_iff.2 (fun w => ?_)
    have hm : k ∈ l.filter fun v => decide (0 ≤ v) := List.mem_filter.2 ⟨by
      have := h.at_i
      unfold atD List.getD at this
      rw [List.getElem?_eq_getElem (by assumption)] at this
      exact this ▸ List.getElem_mem _, by simpa using hk0⟩
    rw [w] at hm; cases hm
  refine ⟨⟨h.len, h.hr, fun x u hu => ?_, h.neg, .inl hrt, fun b e' hb' he' hex hy' => ?_, fun x u hu => ?_, h.sup, fun x z u hx' hu => ?_, fun x u hu => ?_, h.bl⟩, h.at_i, h.k0, h.hi, h.last⟩
  · rw [pq_put] at hu
    split at hu
    · rename_i hxe; cases hu; exact ⟨hxe ▸ hx, hxe ▸ h0, by omega⟩
    · exact h.hq x u hu
  · by_cases hba : b = a
    · subst hba
      rw [he] at he'; cases he'
      right
      exact ⟨_, by rw [pq_put, if_pos rfl], by rw [hy, h.at_i]; exact Int.le_refl _⟩
    · rcases h.edge b e' hb' he' (fun w => hex ⟨w, hba⟩) hy' with w | ⟨u, h1, h2⟩
      · exact .inl w
      · right
        by_cases hxe : e'.x = e.x
        · rw [hxe] at h1
          have := hk u h1
          exact ⟨_, by rw [pq_put, if_pos hxe], by omega⟩
        · exact ⟨u, by rw [pq_put, if_neg hxe]; exact h1, h2⟩
  · rw [pq_put] at hu
    split at hu
    · rename_i hxe; cases hu
      exact .inr ⟨a, e, hb, he, hxe.symm, by rw [hy, h.at_i]; exact hk0, by rw [hy, h.at_i]⟩
    · exact h.supq x u hu
  · rw [pq_put] at hu
    split at hu
    · cases hu; have := h.last x hx'; omega
    · exact h.mono x z u hx' hu
  · rw [pq_put] at hu
    split at hu
    · cases hu
      have h1 := h.bl i (by rw [h.at_i]; exact hk0)
      rw [h.at_i] at h1
      have e1 : cntD l * C = (cntD l - 1) * C + C := by rw [show cntD l = (cntD l - 1) + 1 by omega, Nat.add_mul, Nat.one_mul]; rfl
      rw [e1]; omega
    · exact h.bd x u hu
theorem DijJ.done (h : DijJ ar A n r C l q ex i k) (hex : ∀ a e, a < A → ar a = some e → ¬ ex a) : DijI ar A n r C l q (fun _ => False) :=
  ⟨h.len, h.hr, h.hq, h.neg, h.rt, fun b e hb he _ hy => h.edge b e hb he (hex b e hb he) hy, h.supq, h.sup, h.mono, h.bd, h.bl⟩
theorem DijI.bel (h : DijI ar A n r C l q (fun _ => False)) (hq : ∀ x, q x = none) : Bel ar A n r (atD l) := by
  refine ⟨h.rt.elim id (fun w => by have q := w.1; rw [hq r] at q; cases q), fun a e hl he hy => ?_, fun x _ hxr hx => h.sup x hx hxr, h.neg⟩
  rcases h.edge a e hl he (fun w => w) hy with w | ⟨v, h1, _⟩
  · exact w
  · rw [hq e.x] at h1; cases h1
def noneD (n : Nat) : List Int := List.replicate n (-1)
theorem none_at (n x : Nat) : atD (noneD n) x = -1 := by
  unfold noneD atD List.getD
  rw [List.getElem?_replicate]
  split <;> rfl
theorem DijI.start (hr : r < n) : DijI ar A n r C (noneD n) (PQ.put (fun _ => none) r 0) (fun _ => False) := by
  have hn : ∀ x, atD (noneD n) x < 0 := fun x => by rw [none_at]; decide
  refine ⟨by simp [noneD], hr, fun x v hv => ?_, fun x _ => none_at n x, .inr ⟨by rw [pq_put, if_pos rfl], fun x hx => by rw [pq_put, if_neg hx], hn⟩, fun a e _ _ _ hy => absurd (hn e.y) (by omega), fun x v hv => ?_, fun x hx => absurd (hn x) (by omega), fun x z v hx => absurd (hn x) (by omega), fun x v hv => ?_, fun x hx => absurd (hn x) (by omega)⟩
  · rw [pq_put] at hv; split at hv
    · rename_i hx; cases hv; exact ⟨hx ▸ hr, hn x, Int.le_refl _⟩
    · cases hv
  · rw [pq_put] at hv; split at hv
    · rename_i hx; exact .inl hx
    · cases hv
  · rw [pq_put] at hv; split at hv
    · cases hv; exact Int.natCast_nonneg _
    · cases hv
theorem DijI.less (h : DijI ar A n r C l q ex) (hi : q i = some v) : n - cntD (l.set i v) < n - cntD l := by
  obtain ⟨h1, h2, h3⟩ := h.hq i v hi
  have hil : i < l.length := by rw [h.len]; exact h1
  have hc := cnt_set hil h3
  rw [if_pos h2] at hc
  have := cnt_le (l.set i v)
  rw [List.length_set, h.len] at this
  omega
end
end Go.Proofs.YtmcfomainmppdaaGreatDoor
namespace Go.Proofs.YtmcfomainmppdaaGreatDoor
structure LnkD where
  a : Int
  b : Int
  c0 : Int
  c1 : Int
  cap : Int
  dly : Int
  grp : Int
structure TopD where
  nodes : Int
  over : List Bool
  links : List LnkD
def lnk0 : LnkD := ⟨0, 0, 0, 0, 0, 0, 0⟩
def lnkOk (n : Int) (l : LnkD) : Bool := decide (0 ≤ l.a ∧ l.a < n ∧ 0 ≤ l.b ∧ l.b < n ∧ l.a ≠ l.b ∧ 1 ≤ l.c0 ∧ l.c0 ≤ 65535 ∧ 1 ≤ l.c1 ∧ l.c1 ≤ 65535 ∧ 0 ≤ l.cap ∧ l.cap ≤ 1048576 ∧ 1 ≤ l.dly ∧ l.dly ≤ 65536 ∧ 0 ≤ l.grp ∧ l.grp ≤ 64)
def topOk (t : TopD) : Bool := decide (1 ≤ t.nodes ∧ t.nodes ≤ 64 ∧ (t.over.length = 0 ∨ (t.over.length : Int) = t.nodes) ∧ t.links.length ≤ 256) && t.links.all (lnkOk t.nodes)
def fitsD (t : TopD) (down : List Bool) : Bool := topOk t && decide (down.length = 0 ∨ down.length = 2 * t.links.length)
def lnkAt (t : TopD) (a : Nat) : LnkD := t.links.getD (a / 2) lnk0
def tlD (t : TopD) (a : Nat) : Int := if a % 2 = 0 then (lnkAt t a).a else (lnkAt t a).b
def hdD (t : TopD) (a : Nat) : Int := if a % 2 = 0 then (lnkAt t a).b else (lnkAt t a).a
def csD (t : TopD) (a : Nat) : Int := if a % 2 = 0 then (lnkAt t a).c0 else (lnkAt t a).c1
def arcsD (t : TopD) : Nat := 2 * t.links.length
def tN (t : TopD) (a : Nat) : Nat := (tlD t a).toNat
def hN (t : TopD) (a : Nat) : Nat := (hdD t a).toNat
def cN (t : TopD) (a : Nat) : Nat := (csD t a).toNat
def upD (down : List Bool) (a : Nat) : Bool := decide (down.length = 0) || !down.getD a false
def ovD (t : TopD) (n : Nat) : Bool := t.over.getD n false
def trD (t : TopD) (n d : Nat) : Bool := decide (n = d) || !ovD t n
def arTo (t : TopD) (down : List Bool) (d : Nat) (a : Nat) : Option ArcD := if upD down a && trD t (hN t a) d then some ⟨tN t a, hN t a, cN t a⟩ else none
def nN (t : TopD) : Nat := t.nodes.toNat
section
variable {t : TopD} {down : List Bool} {a d n : Nat} {l l' : List Int}
theorem topOk_link (h : topOk t = true) (ha : a < arcsD t) : lnkOk t.nodes (lnkAt t a) = true := by
  unfold topOk at h
  rw [Bool.and_eq_true, List.all_eq_true] at h
  have hl : a / 2 < t.links.length := by unfold arcsD at ha; omega
  refine h.2 _ ?_
  unfold lnkAt List.getD
  rw [List.getElem?_eq_getElem hl]
  exact List.getElem_mem hl
theorem arc_ok (h : topOk t = true) (ha : a < arcsD t) : tlD t a = (tN t a : Int) ∧ hdD t a = (hN t a : Int) ∧ csD t a = (cN t a : Int) ∧ tN t a < nN t ∧ hN t a < nN t ∧ tN t a ≠ hN t a ∧ 1 ≤ cN t a ∧ cN t a ≤ 65535 := by
  have q := topOk_link h ha
  unfold lnkOk at q
  have q := of_decide_eq_true q
  unfold tN hN cN nN tlD hdD csD
  by_cases e : a % 2 = 0
  · simp only [if_pos e]; omega
  · simp only [if_neg e]; omega
theorem arTo_some {e : ArcD} (h : arTo t down d a = some e) : upD down a = true ∧ trD t (hN t a) d = true ∧ e = ⟨tN t a, hN t a, cN t a⟩ := by
  unfold arTo at h
  split at h
  · rename_i q; rw [Bool.and_eq_true] at q; exact ⟨q.1, q.2, (Option.some.inj h).symm⟩
  · cases h
theorem arTo_of (h1 : upD down a = true) (h2 : trD t (hN t a) d = true) : arTo t down d a = some ⟨tN t a, hN t a, cN t a⟩ := by unfold arTo; rw [h1, h2]; rfl
theorem arTo_ok (h : topOk t = true) : ArOk (arTo t down d) (arcsD t) (nN t) 65535 := ⟨fun a e ha he => by
  obtain ⟨_, _, rfl⟩ := arTo_some he
  obtain ⟨_, _, _, h1, h2, _, h3, h4⟩ := arc_ok h ha
  exact ⟨h1, h2, h3, h4⟩⟩
def IsDst (t : TopD) (down : List Bool) (d : Nat) (l : List Int) : Prop := l.length = nN t ∧ Bel (arTo t down d) (arcsD t) (nN t) d (atD l)
theorem IsDst.eq (h : topOk t = true) (h1 : IsDst t down d l) (h2 : IsDst t down d l') : l = l' := by
  refine List.ext_getElem? fun x => ?_
  by_cases hx : x < nN t
  · have := h1.2.eq (arTo_ok h) h2.2 hx
    unfold atD List.getD at this
    rw [List.getElem?_eq_getElem (by rw [h1.1]; exact hx), List.getElem?_eq_getElem (by rw [h2.1]; exact hx)] at this ⊢
    simpa using this
  · rw [List.getElem?_eq_none (by rw [h1.1]; omega), List.getElem?_eq_none (by rw [h2.1]; omega)]
theorem IsDst.root (h : IsDst t down d l) : atD l d = 0 := h.2.root
theorem IsDst.out (h : IsDst t down d l) {x : Nat} (hx : 0 ≤ atD l x) : x < nN t := by rw [← h.1]; exact at_lt hx
def onD (t : TopD) (down : List Bool) (l : List Int) (d a : Nat) : Bool := upD down a && decide (tN t a ≠ d) && decide (0 ≤ atD l (hN t a)) && trD t (hN t a) d && decide (atD l (tN t a) = atD l (hN t a) + (cN t a : Int))
def outD (t : TopD) (n : Nat) : List Nat := (List.range (arcsD t)).filter fun a => decide (tN t a = n)
def nxtD (t : TopD) (down : List Bool) (l : List Int) (n d : Nat) : List Nat := (List.range (arcsD t)).filter fun a => decide (tN t a = n) && onD t down l d a
theorem on_iff : onD t down l d a = true ↔ upD down a = true ∧ tN t a ≠ d ∧ 0 ≤ atD l (hN t a) ∧ trD t (hN t a) d = true ∧ atD l (tN t a) = atD l (hN t a) + (cN t a : Int) := by
  unfold onD; simp only [Bool.and_eq_true, decide_eq_true_eq]
  constructor
  · rintro ⟨⟨⟨⟨h1, h2⟩, h3⟩, h4⟩, h5⟩; exact ⟨h1, h2, h3, h4, h5⟩
  · rintro ⟨h1, h2, h3, h4, h5⟩; exact ⟨⟨⟨⟨h1, h2⟩, h3⟩, h4⟩, h5⟩
theorem mem_nxt : a ∈ nxtD t down l n d ↔ a < arcsD t ∧ tN t a = n ∧ onD t down l d a = true := by
  unfold nxtD; rw [List.mem_filter, List.mem_range, Bool.and_eq_true, decide_eq_true_eq]
def onP (t : TopD) (down : List Bool) (l : List Int) (n d a : Nat) : Bool := !(!upD down a || (decide (atD l (hN t a) < 0) || (decide (hN t a ≠ d) && ovD t (hN t a)))) && decide (atD l (hN t a) + (cN t a : Int) = atD l n)
theorem nxt_prog (hn : n ≠ d) : (outD t n).filter (onP t down l n d) = nxtD t down l n d := by
  unfold outD nxtD
  rw [List.filter_filter]
  refine List.filter_congr fun a _ => ?_
  by_cases e : tN t a = n
  · subst e
    unfold onP onD trD
    rw [Bool.eq_iff_iff]
    cases upD down a <;> cases ovD t (hN t a) <;> simp <;> omega
  · simp [e]
theorem nxt_none (h : n = d ∨ atD l n < 0) : nxtD t down l n d = [] := by
  refine List.filter_eq_nil_iff.2 fun a _ => ?_
  rw [Bool.and_eq_true, decide_eq_true_eq, on_iff]
  rintro ⟨e, _, h2, h3, _, h5⟩
  rcases h with h | h
  · exact h2 (e.trans h)
  · rw [e] at h5; omega
theorem nxt_some (hd : IsDst t down d l) (hn : n ≠ d) (h0 : 0 ≤ atD l n) : ∃ a, a ∈ nxtD t down l n d := by
  obtain ⟨a, e, h1, h2, h3, h4, h5⟩ := hd.2.back n (hd.out h0) hn h0
  obtain ⟨u, v, rfl⟩ := arTo_some h2
  have h3 : tN t a = n := h3
  have h5 : atD l n = atD l (hN t a) + (cN t a : Int) := h5
  exact ⟨a, mem_nxt.2 ⟨h1, h3, on_iff.2 ⟨u, by rw [h3]; exact hn, h4, v, by rw [h3]; exact h5⟩⟩⟩
theorem nxt_less (ht : topOk t = true) (h : a ∈ nxtD t down l n d) : 0 ≤ atD l (hN t a) ∧ atD l (hN t a) < atD l n ∧ hN t a < nN t ∧ atD l n = atD l (hN t a) + (cN t a : Int) := by
  obtain ⟨h1, h2, h3⟩ := mem_nxt.1 h
  obtain ⟨_, _, h4, _, h5⟩ := on_iff.1 h3
  obtain ⟨_, _, _, _, h6, _, h7, _⟩ := arc_ok ht h1
  rw [h2] at h5
  exact ⟨h4, by omega, h6, h5⟩
end
theorem pair_ext {α : Type _} {R : α → α → Prop} (hi : ∀ x, ¬ R x x) (ht : ∀ x y z, R x y → R y z → R x z) : ∀ {l l' : List α}, l.Pairwise R → l'.Pairwise R → (∀ x, x ∈ l ↔ x ∈ l') → l = l'
  | [], [], _, _, _ => rfl
  | [], y :: l', _, _, h => absurd ((h y).2 (List.mem_cons_self ..)) List.not_mem_nil
  | x :: l, [], _, _, h => absurd ((h x).1 (List.mem_cons_self ..)) List.not_mem_nil
  | x :: l, y :: l', h1, h2, h => by
    obtain ⟨a1, a2⟩ := List.pairwise_cons.1 h1
    obtain ⟨b1, b2⟩ := List.pairwise_cons.1 h2
    have hxy : x = y := by
      rcases List.mem_cons.1 ((h x).1 (List.mem_cons_self ..)) with e | e
      · exact e
      · rcases List.mem_cons.1 ((h y).2 (List.mem_cons_self ..)) with e' | e'
        · exact e'.symm
        · exact absurd (ht x y x (a1 y e') (b1 x e)) (hi x)
    subst hxy
    congr 1
    refine pair_ext hi ht a2 b2 fun z => ⟨fun hz => ?_, fun hz => ?_⟩
    · rcases List.mem_cons.1 ((h z).1 (List.mem_cons_of_mem _ hz)) with e | e
      · subst e; exact absurd (a1 z hz) (hi z)
      · exact e
    · rcases List.mem_cons.1 ((h z).2 (List.mem_cons_of_mem _ hz)) with e | e
      · subst e; exact absurd (b1 z hz) (hi z)
      · exact e
theorem nd_len : ∀ {l1 l2 : List Nat}, l1.Nodup → (∀ x ∈ l1, x ∈ l2) → l1.length ≤ l2.length
  | [], _, _, _ => Nat.zero_le _
  | x :: l1, l2, h, hs => by
    obtain ⟨h1, h2⟩ := List.nodup_cons.1 h
    have h3 := nd_len h2 (l2 := l2.erase x) fun y hy => (List.mem_erase_of_ne (fun e : y = x => h1 (by rw [← e]; exact hy))).2 (hs y (List.mem_cons_of_mem _ hy))
    have h4 := List.length_pos_of_mem (hs x (List.mem_cons_self ..))
    rw [List.length_erase_of_mem (hs x (List.mem_cons_self ..))] at h3
    simp only [List.length_cons]; omega
def bfO (l : List Int) (x y : Nat) : Prop := atD l y < atD l x ∨ (atD l x = atD l y ∧ x < y)
def IsOrd (n : Nat) (l : List Int) (o : List Nat) : Prop := o.Pairwise (bfO l) ∧ ∀ x, x ∈ o ↔ x < n ∧ 0 ≤ atD l x
section
variable {n k : Nat} {l : List Int} {o o' : List Nat} {b : Option Nat}
theorem IsOrd.eq (h : IsOrd n l o) (h' : IsOrd n l o') : o = o' :=
  pair_ext (fun x h => by unfold bfO at h; omega) (fun x y z h h' => by unfold bfO at *; omega) h.1 h'.1 fun x => (h.2 x).trans (h'.2 x).symm
structure SelI (n : Nat) (l : List Int) (o : List Nat) : Prop where
  pw : o.Pairwise (bfO l)
  mem : ∀ x ∈ o, x < n ∧ 0 ≤ atD l x
  rest : ∀ x ∈ o, ∀ y, y < n → 0 ≤ atD l y → y ∉ o → bfO l x y
def BstI (l : List Int) (o : List Nat) (k : Nat) : Option Nat → Prop
  | none => ∀ x, x < k → 0 ≤ atD l x → x ∈ o
  | some m => m < k ∧ 0 ≤ atD l m ∧ m ∉ o ∧ ∀ x, x < k → 0 ≤ atD l x → x ∉ o → x ≠ m → bfO l m x
theorem SelI.nil : SelI n l [] := ⟨.nil, fun _x h => absurd h List.not_mem_nil, fun _x h => absurd h List.not_mem_nil⟩
theorem BstI.zero : BstI l o 0 none := fun x hx => absurd hx (by omega)
theorem BstI.take (h : BstI l o k b) (h0 : 0 ≤ atD l k) (ho : k ∉ o) (hb : ∀ m, b = some m → atD l m < atD l k) : BstI l o (k + 1) (some k) := by
  refine ⟨by omega, h0, ho, fun x hx hx0 hxo hxk => ?_⟩
  cases b with
  | none => exact absurd (h x (by omega) hx0) hxo
  | some m =>
    obtain ⟨h1, h2, h3, h4⟩ := h
    have := hb m rfl
    by_cases e : x = m
    · subst e; unfold bfO; omega
    · have := h4 x (by omega) hx0 hxo e
      unfold bfO at *; omega
theorem SelI.add {m : Nat} (h : SelI n l o) (hb : BstI l o n (some m)) : SelI n l (o ++ [m]) := by
  obtain ⟨h1, h2, h3, h4⟩ := hb
  refine ⟨List.pairwise_append.2 ⟨h.pw, List.pairwise_singleton _ _, fun x hx y hy => by rw [List.mem_singleton.1 hy]; exact h.rest x hx m h1 h2 h3⟩, fun x hx => ?_, fun x hx y hy hy0 hyo => ?_⟩
  · rcases List.mem_append.1 hx with hx | hx
    · exact h.mem x hx
    · rw [List.mem_singleton.1 hx]; exact ⟨h1, h2⟩
  · have hyo' : y ∉ o := fun w => hyo (List.mem_append_left _ w)
    have hym : y ≠ m := fun w => hyo (by rw [w]; simp)
    rcases List.mem_append.1 hx with hx | hx
    · exact h.rest x hx y hy hy0 hyo'
    · rw [List.mem_singleton.1 hx]; exact h4 y hy hy0 hyo' hym
theorem SelI.done (h : SelI n l o) (hb : BstI l o n none) : IsOrd n l o := ⟨h.pw, fun x => ⟨h.mem x, fun w => hb x w.1 w.2⟩⟩
theorem SelI.len (h : SelI n l o) : o.length ≤ n := by
  have hnd : o.Nodup := h.pw.imp fun {a b} w e => by subst e; unfold bfO at w; omega
  simpa using nd_len hnd (l2 := List.range n) fun x hx => List.mem_range.2 (h.mem x hx).1
end
end Go.Proofs.YtmcfomainmppdaaGreatDoor
namespace Go.Proofs.YtmcfomainmppdaaGreatDoor
def nP (t : TopD) (down : List Bool) (l : List Int) (d : Nat) : Nat → Nat → Nat
  | 0, x => if x = d then 1 else 0
  | k + 1, x => if x = d then 1 else ((nxtD t down l x d).map fun a => nP t down l d k (hN t a)).sum
def nSP (t : TopD) (down : List Bool) (l : List Int) (d x : Nat) : Nat := nP t down l d (atD l x).toNat x
section
variable {t : TopD} {down : List Bool} {l : List Int} {d x n a k : Nat}
theorem nP_more (ht : topOk t = true) : ∀ (k x : Nat), atD l x ≤ (k : Int) → nP t down l d (k + 1) x = nP t down l d k x := by
  intro k
  induction k with
  | zero =>
    intro x hx
    rw [nP, nP]
    by_cases e : x = d
    · rw [if_pos e, if_pos e]
    · rw [if_neg e, if_neg e]
      have : nxtD t down l x d = [] := List.eq_nil_iff_forall_not_mem.2 fun a ha => by
        obtain ⟨h1, h2, _⟩ := nxt_less ht ha
        have : ((0 : Nat) : Int) = 0 := rfl
        omega
      rw [this]; rfl
  | succ k ih =>
    intro x hx
    rw [nP]
    conv => rhs; rw [nP]
    by_cases e : x = d
    · rw [if_pos e, if_pos e]
    · rw [if_neg e, if_neg e]
      congr 1
      refine List.map_congr_left fun a ha => ?_
      obtain ⟨h1, h2, _⟩ := nxt_less ht ha
      exact ih (hN t a) (by have : ((k + 1 : Nat) : Int) = (k : Int) + 1 := by omega
                            omega)
theorem nP_at (ht : topOk t = true) {k : Nat} (h : atD l x ≤ (k : Int)) : nP t down l d k x = nSP t down l d x := by
  unfold nSP
  obtain ⟨j, hj⟩ : ∃ j, k = (atD l x).toNat + j := ⟨k - (atD l x).toNat, by omega⟩
  subst hj
  clear h
  induction j with
  | zero => rfl
  | succ j ih => exact (nP_more ht ((atD l x).toNat + j) x (by omega)).trans ih
theorem nSP_end : nSP t down l d d = 1 := by
  unfold nSP
  cases (atD l d).toNat <;> (rw [nP]; exact if_pos rfl)
theorem nSP_sum (ht : topOk t = true) (hx : x ≠ d) : nSP t down l d x = ((nxtD t down l x d).map fun a => nSP t down l d (hN t a)).sum := by
  rw [← nP_at ht (k := (atD l x).toNat + 1) (by omega), nP, if_neg hx]
  congr 1
  refine List.map_congr_left fun a ha => ?_
  obtain ⟨h1, h2, _⟩ := nxt_less ht ha
  exact nP_at ht (by omega)
theorem nSP_no (ht : topOk t = true) (hx : x ≠ d) (h : atD l x < 0) : nSP t down l d x = 0 := by rw [nSP_sum ht hx, nxt_none (.inr h)]; rfl
def satM (M c h : Nat) : Nat := c + min h (M - c)
theorem sat_min {M s h : Nat} : satM M (min s M) (min h M) = min (s + h) M := by unfold satM; omega
theorem sat_fold {M : Nat} {f g : Nat → Nat} (hfg : ∀ a, g a = min (f a) M) (s : Nat) : ∀ (us : List Nat), us.foldl (fun c a => satM M c (g a)) (min s M) = min (s + (us.map f).sum) M := by
  intro us
  induction us generalizing s with
  | nil => simp
  | cons a us ih =>
    rw [List.foldl_cons, hfg, sat_min, ih, List.map_cons, List.sum_cons, Nat.add_assoc]
structure CntI (t : TopD) (down : List Bool) (l : List Int) (d n M : Nat) (o : List Nat) (c : List Nat) : Prop where
  len : c.length = n
  done : ∀ x, x ∈ o → c.getD x 0 = min (nSP t down l d x) M
  rest : ∀ x, x ∉ o → x ≠ d → c.getD x 0 = 0
  last : c.getD d 0 = min 1 M
end
def NxP (t : TopD) (down : List Bool) (l : List Int) (d : Nat) : Nat → List Nat → Nat → Prop
  | x, [], y => x = y
  | x, a :: p, y => a ∈ nxtD t down l x d ∧ NxP t down l d (hN t a) p y
def costD (t : TopD) (p : List Nat) : Int := (p.map fun a => (cN t a : Int)).sum
section
variable {t : TopD} {down : List Bool} {l : List Int} {d x y n a k : Nat} {p q : List Nat}
theorem NxP.snoc (h : NxP t down l d x p y) (ha : a ∈ nxtD t down l y d) : NxP t down l d x (p ++ [a]) (hN t a) := by
  induction p generalizing x with
  | nil => cases h; exact ⟨ha, rfl⟩
  | cons b p ih => exact ⟨h.1, ih h.2⟩
theorem NxP.nodes (ht : topOk t = true) (_hd : IsDst t down d l) (h : NxP t down l d x p y) (hx : 0 ≤ atD l x) : ∃ ns : List Nat, ns.length = p.length ∧ ns.Nodup ∧ ∀ z ∈ ns, z < nN t ∧ 0 ≤ atD l z ∧ atD l z < atD l x := by
  induction p generalizing x with
  | nil => exact ⟨[], rfl, .nil, fun z hz => absurd hz List.not_mem_nil⟩
  | cons b p ih =>
    obtain ⟨h1, h2, h3, _⟩ := nxt_less ht h.1
    obtain ⟨ns, e1, e2, e3⟩ := ih h.2 h1
    refine ⟨hN t b :: ns, by simp [e1], List.nodup_cons.2 ⟨fun w => by have := (e3 _ w).2.2; omega, e2⟩, fun z hz => ?_⟩
    rcases List.mem_cons.1 hz with rfl | hz
    · exact ⟨h3, h1, h2⟩
    · obtain ⟨a1, a2, a3⟩ := e3 z hz
      exact ⟨a1, a2, by omega⟩
theorem NxP.short (ht : topOk t = true) (hd : IsDst t down d l) (h : NxP t down l d x p y) (hx : 0 ≤ atD l x) : p.length < nN t := by
  obtain ⟨ns, e1, e2, e3⟩ := h.nodes ht hd hx
  have hx' := hd.out hx
  have := nd_len (l1 := x :: ns) (l2 := List.range (nN t)) (List.nodup_cons.2 ⟨fun w => by have := (e3 _ w).2.2; omega, e2⟩) fun z hz => by
    rcases List.mem_cons.1 hz with rfl | hz
    · exact List.mem_range.2 hx'
    · exact List.mem_range.2 (e3 z hz).1
  rw [List.length_cons, List.length_range] at this
  omega
end
end Go.Proofs.YtmcfomainmppdaaGreatDoor
namespace Go.Proofs.YtmcfomainmppdaaGreatDoor
section
variable {t : TopD} {down : List Bool} {l : List Int} {d x m n a k M : Nat} {o c : List Nat}
theorem getD_set {α : Type _} {xs : List α} {i j : Nat} {v z : α} (hi : i < xs.length) : (xs.set i v).getD j z = if i = j then v else xs.getD j z := by
  rw [List.getD, List.getElem?_set]
  split
  · rename_i h; subst h; simp []
  · rfl
def cnt0 (n d M : Nat) : List Nat := (List.replicate n 0).set d (min 1 M)
theorem CntI.start (hd : d < n) : CntI t down l d n M [] (cnt0 n d M) := by
  refine ⟨by simp [cnt0], fun x h => absurd h List.not_mem_nil, fun x _ hx => ?_, ?_⟩
  · unfold cnt0
    rw [getD_set (by simpa using hd), if_neg (fun e => hx e.symm), List.getD, List.getElem?_replicate]
    split <;> rfl
  · unfold cnt0
    rw [getD_set (by simpa using hd), if_pos rfl]
def cnt1 (t : TopD) (M : Nat) (c : List Nat) (m : Nat) (us : List Nat) : Nat := us.foldl (fun v a => satM M v (c.getD (hN t a) 0)) (c.getD m 0)
theorem fold_congr {g g' : Nat → Nat} : ∀ (us : List Nat) (s : Nat), (∀ a ∈ us, g a = g' a) → us.foldl (fun c a => satM M c (g a)) s = us.foldl (fun c a => satM M c (g' a)) s
  | [], _, _ => rfl
  | a :: us, s, h => by
    rw [List.foldl_cons, List.foldl_cons, h a (List.mem_cons_self ..)]
    exact fold_congr us _ fun b hb => h b (List.mem_cons_of_mem _ hb)
theorem CntI.step (ht : topOk t = true) (h : CntI t down l d n M o c) (hm : m < n) (hmo : m ∉ o) (hh : ∀ a ∈ nxtD t down l m d, hN t a ∈ o ∨ hN t a = d) : CntI t down l d n M (m :: o) (c.set m (cnt1 t M c m (nxtD t down l m d))) := by
  have hml : m < c.length := by rw [h.len]; exact hm
  have hv : m ≠ d → cnt1 t M c m (nxtD t down l m d) = min (nSP t down l d m) M := fun hd => by
    unfold cnt1
    rw [h.rest m hmo hd, nSP_sum ht hd]
    rw [fold_congr (g' := fun a => min (nSP t down l d (hN t a)) M) _ _ fun a ha => by
      rcases hh a ha with w | w
      · exact h.done _ w
      · rw [w, h.last, nSP_end]]
    have := sat_fold (M := M) (f := fun a => nSP t down l d (hN t a)) (g := fun a => min (nSP t down l d (hN t a)) M) (fun _ => rfl) 0 (nxtD t down l m d)
    rw [Nat.zero_min, Nat.zero_add] at this
    exact this
  have he : m = d → c.set m (cnt1 t M c m (nxtD t down l m d)) = c := fun hd => by
    unfold cnt1
    rw [nxt_none (.inl hd), List.foldl_nil, List.getD, List.getElem?_eq_getElem hml]
    exact List.set_getElem_self hml
  by_cases hd : m = d
  · rw [he hd]
    refine ⟨h.len, fun x hx => ?_, fun x hx hxd => h.rest x (fun w => hx (List.mem_cons_of_mem _ w)) hxd, h.last⟩
    rcases List.mem_cons.1 hx with rfl | hx
    · rw [hd, h.last, nSP_end]
    · exact h.done x hx
  · rw [hv hd]
    refine ⟨by rw [List.length_set]; exact h.len, fun x hx => ?_, fun x hx hxd => ?_, ?_⟩
    · rw [getD_set hml]
      split
      · rename_i e; rw [e]
      · rename_i e
        rcases List.mem_cons.1 hx with w | hx
        · exact absurd w.symm e
        · exact h.done x hx
    · rw [getD_set hml, if_neg (fun e => hx (by rw [← e]; exact List.mem_cons_self ..))]
      exact h.rest x (fun w => hx (List.mem_cons_of_mem _ w)) hxd
    · rw [getD_set hml, if_neg hd]; exact h.last
theorem CntI.full (ht : topOk t = true) (hd : IsDst t down d l) (h : CntI t down l d n M o c) (ho : ∀ x, x ∈ o ↔ x < nN t ∧ 0 ≤ atD l x) (x : Nat) : c.getD x 0 = min (nSP t down l d x) M := by
  by_cases hx : x ∈ o
  · exact h.done x hx
  · by_cases hxd : x = d
    · rw [hxd, h.last, nSP_end]
    · have : atD l x < 0 := Decidable.byContradiction fun w => hx ((ho x).2 ⟨hd.out (by omega), by omega⟩)
      rw [h.rest x hx hxd, nSP_no ht hxd this, Nat.zero_min]
theorem ord_tails (ht : topOk t = true) (ho : IsOrd (nN t) l o) {pre post : List Nat} (e : o = pre ++ m :: post) : ∀ a ∈ nxtD t down l m d, hN t a ∈ post := fun a ha => by
  obtain ⟨h1, h2, h3, _⟩ := nxt_less ht ha
  have hin : hN t a ∈ o := (ho.2 _).2 ⟨h3, h1⟩
  have hp := ho.1
  rw [e] at hin hp
  rcases List.mem_append.1 hin with w | w
  · have := (List.pairwise_append.1 hp).2.2 _ w m (List.mem_cons_self ..)
    unfold bfO at this; omega
  · rcases List.mem_cons.1 w with w | w
    · rw [w] at h2; omega
    · exact w
end
section
variable {t : TopD} {down : List Bool} {l : List Int} {d s x m n a k : Nat} {o : List Nat}
structure ShrI (t : TopD) (down : List Bool) (l : List Int) (s d : Nat) (o : List Nat) (am sh : List Rat) : Prop where
  la : am.length = nN t
  ls : sh.length = arcsD t
  hs : ∀ a, sh.getD a 0 = if a < arcsD t ∧ tN t a ∈ o ∧ onD t down l d a = true then am.getD (tN t a) 0 / (((nxtD t down l (tN t a) d).length : Nat) : Rat) else 0
  ha : ∀ x, x < nN t → am.getD x 0 = (if x = s then 1 else 0) + (((List.range (arcsD t)).filter fun a => decide (hN t a = x)).map fun a => sh.getD a 0).sum
  nn : ∀ x, 0 ≤ am.getD x 0
theorem sum_zero {f : Nat → Rat} : ∀ {us : List Nat}, (∀ a ∈ us, f a = 0) → (us.map f).sum = 0
  | [], _ => rfl
  | a :: us, h => by
    rw [List.map_cons, List.sum_cons, h a (List.mem_cons_self ..), sum_zero fun b hb => h b (List.mem_cons_of_mem _ hb)]; exact Rat.zero_add 0
theorem sum_congr {f g : Nat → Rat} {us : List Nat} (h : ∀ a ∈ us, f a = g a) : (us.map f).sum = (us.map g).sum := by rw [List.map_congr_left h]
theorem sum_add {f g : Nat → Rat} : ∀ (us : List Nat), (us.map fun a => f a + g a).sum = (us.map f).sum + (us.map g).sum
  | [] => (Rat.zero_add 0).symm
  | a :: us => by
    rw [List.map_cons, List.sum_cons, sum_add us, List.map_cons, List.sum_cons, List.map_cons, List.sum_cons]; grind
theorem sum_filter {f : Nat → Rat} {p : Nat → Bool} : ∀ (us : List Nat), ((us.filter p).map f).sum = (us.map fun a => if p a then f a else 0).sum
  | [] => rfl
  | a :: us => by
    rw [List.map_cons, List.sum_cons, ← sum_filter us, List.filter_cons]
    split
    · rw [List.map_cons, List.sum_cons]
    · exact (Rat.zero_add _).symm
theorem sum_nn {f : Nat → Rat} : ∀ {us : List Nat}, (∀ a ∈ us, 0 ≤ f a) → 0 ≤ (us.map f).sum
  | [], _ => Rat.le_refl
  | a :: us, h => by
    rw [List.map_cons, List.sum_cons]
    exact Rat.add_nonneg (h a (List.mem_cons_self ..)) (sum_nn fun b hb => h b (List.mem_cons_of_mem _ hb))
structure PshI (t : TopD) (v : Rat) (am sh : List Rat) (us : List Nat) (am' sh' : List Rat) : Prop where
  la : am'.length = am.length
  ls : sh'.length = sh.length
  a : ∀ x, x < am.length → am'.getD x 0 = am.getD x 0 + (us.map fun a => if hN t a = x then v else 0).sum
  s : ∀ b, sh'.getD b 0 = if b ∈ us then v else sh.getD b 0
theorem PshI.nil {v : Rat} {am sh : List Rat} : PshI t v am sh [] am sh := ⟨rfl, rfl, fun x _ => (Rat.add_zero _).symm, fun b => by rw [if_neg List.not_mem_nil]⟩
theorem PshI.snoc {v : Rat} {am sh am' sh' : List Rat} {us : List Nat} (h : PshI t v am sh us am' sh') (hx : hN t a < am.length) (ha : a < sh.length) : PshI t v am sh (us ++ [a]) (am'.set (hN t a) (am'.getD (hN t a) 0 + v)) (sh'.set a v) := by
  refine ⟨by rw [List.length_set]; exact h.la, by rw [List.length_set]; exact h.ls, fun x hx' => ?_, fun b => ?_⟩
  · rw [getD_set (by rw [h.la]; exact hx), List.map_append, List.sum_append, List.map_singleton, List.sum_singleton]
    split
    · rename_i e; rw [e, h.a x hx']; exact Rat.add_assoc _ _ _
    · rw [h.a x hx', Rat.add_zero]
  · rw [getD_set (by rw [h.ls]; exact ha), h.s b]
    by_cases e : a = b
    · rw [if_pos e, if_pos (by rw [e]; simp)]
    · rw [if_neg e]
      have : b ∈ us ++ [a] ↔ b ∈ us := by rw [List.mem_append, List.mem_singleton]; exact ⟨fun w => w.elim id fun w => absurd w.symm e, .inl⟩
      by_cases hb : b ∈ us
      · rw [if_pos hb, if_pos (this.2 hb)]
      · rw [if_neg hb, if_neg (fun w => hb (this.1 w))]
variable {am sh am' sh' : List Rat}
theorem ShrI.step (ht : topOk t = true) (h : ShrI t down l s d o am sh) (hmo : m ∉ o) (hh : ∀ a ∈ nxtD t down l m d, hN t a ∉ o) (hp : PshI t (am.getD m 0 / (((nxtD t down l m d).length : Nat) : Rat)) am sh (nxtD t down l m d) am' sh') : ShrI t down l s d (m :: o) am' sh' := by
  obtain ⟨v, hv⟩ : ∃ v, am.getD m 0 / (((nxtD t down l m d).length : Nat) : Rat) = v := ⟨_, rfl⟩
  rw [hv] at hp
  have hv0 : 0 ≤ v := by
    rw [← hv, Rat.div_def]
    refine Rat.mul_nonneg (h.nn m) ?_
    rcases Rat.le_iff_lt_or_eq.1 (Rat.natCast_nonneg (a := (nxtD t down l m d).length)) with w | w
    · exact Rat.le_of_lt (Rat.inv_pos.2 w)
    · rw [← w, Rat.inv_zero]; exact Rat.le_refl
  have hnm : ∀ a ∈ nxtD t down l m d, hN t a ≠ m := fun a ha e => by
    obtain ⟨_, h2, _⟩ := nxt_less ht ha
    rw [e] at h2; omega
  have keep : ∀ x, x ∈ o ∨ x = m → am'.getD x 0 = am.getD x 0 := fun x hx => by
    by_cases hxl : x < am.length
    · rw [hp.a x hxl, sum_zero (fun a ha => if_neg fun e => ?_), Rat.add_zero]
      rcases hx with hx | hx
      · exact hh a ha (e ▸ hx)
      · exact hnm a ha (e.trans hx)
    · rw [List.getD, List.getElem?_eq_none (by rw [hp.la]; omega), List.getD, List.getElem?_eq_none (by omega)]
  have hz : ∀ a, a ∈ nxtD t down l m d → sh.getD a 0 = 0 := fun a ha => by
    rw [h.hs a, if_neg (fun w => hmo (by have := (mem_nxt.1 ha).2.1; rw [this] at w; exact w.2.1))]
  refine ⟨hp.la.trans h.la, hp.ls.trans h.ls, fun a => ?_, fun x hx => ?_, fun x => ?_⟩
  · rw [hp.s a]
    by_cases ha : a ∈ nxtD t down l m d
    · obtain ⟨h1, h2, h3⟩ := mem_nxt.1 ha
      rw [if_pos ha, if_pos ⟨h1, by rw [h2]; exact List.mem_cons_self .., h3⟩, h2, keep m (.inr rfl), hv]
    · rw [if_neg ha, h.hs a]
      by_cases hc : a < arcsD t ∧ tN t a ∈ o ∧ onD t down l d a = true
      · rw [if_pos hc, if_pos ⟨hc.1, List.mem_cons_of_mem _ hc.2.1, hc.2.2⟩, keep _ (.inl hc.2.1)]
      · rw [if_neg hc, if_neg (fun w => ?_)]
        rcases List.mem_cons.1 w.2.1 with e | e
        · exact ha (mem_nxt.2 ⟨w.1, e, w.2.2⟩)
        · exact hc ⟨w.1, e, w.2.2⟩
  · have e1 : ∀ a, sh'.getD a 0 = sh.getD a 0 + (if a ∈ nxtD t down l m d then v else 0) := fun a => by
      rw [hp.s a]
      by_cases ha : a ∈ nxtD t down l m d
      · rw [if_pos ha, if_pos ha, hz a ha, Rat.zero_add]
      · rw [if_neg ha, if_neg ha, Rat.add_zero]
    rw [hp.a x (by rw [h.la]; exact hx), h.ha x hx, sum_congr (fun a _ => e1 a), sum_add, ← Rat.add_assoc]
    congr 1
    unfold nxtD
    rw [sum_filter, sum_filter]
    refine sum_congr fun a ha => ?_
    have hm : (a ∈ (List.range (arcsD t)).filter fun a => decide (tN t a = m) && onD t down l d a) ↔ (decide (tN t a = m) && onD t down l d a) = true := by
      rw [List.mem_filter]; exact ⟨And.right, fun w => ⟨ha, w⟩⟩
    simp only [hm]
    generalize (decide (tN t a = m) && onD t down l d a) = p
    cases p <;> by_cases q1 : hN t a = x <;> simp [q1]
  · by_cases hxl : x < am.length
    · rw [hp.a x hxl]
      refine Rat.add_nonneg (h.nn x) (sum_nn fun a _ => ?_)
      split
      · exact hv0
      · exact Rat.le_refl
    · rw [List.getD, List.getElem?_eq_none (by rw [hp.la]; omega)]; exact Rat.le_refl
end
end Go.Proofs.YtmcfomainmppdaaGreatDoor
namespace Go.Proofs.YtmcfomainmppdaaGreatDoor
section
variable {ar : Nat → Option ArcD} {A n r C : Nat} {f : Nat → Int}
def nearN (f : Nat → Int) (n : Nat) (v : Int) : Nat := ((List.range n).filter fun z => decide (0 ≤ f z ∧ f z < v)).length
theorem near_le (f : Nat → Int) (n : Nat) (v : Int) : nearN f n v ≤ n := by unfold nearN; exact Nat.le_trans (List.length_filter_le _ _) (by simp)
theorem near_lt {v u : Int} {y : Nat} (hy : y < n) (h0 : 0 ≤ f y) (h1 : v ≤ f y) (h2 : f y < u) : nearN f n v + 1 ≤ nearN f n u := by
  unfold nearN
  have hnd : (y :: (List.range n).filter fun z => decide (0 ≤ f z ∧ f z < v)).Nodup := by
    refine List.nodup_cons.2 ⟨fun h => ?_, (List.nodup_range (n := n)).filter _⟩
    have := (List.mem_filter.1 h).2
    simp at this; omega
  have := nd_len hnd (l2 := (List.range n).filter fun z => decide (0 ≤ f z ∧ f z < u)) fun x hx => by
    rcases List.mem_cons.1 hx with rfl | hx
    · exact List.mem_filter.2 ⟨List.mem_range.2 hy, by simp; omega⟩
    · obtain ⟨h3, h4⟩ := List.mem_filter.1 hx
      refine List.mem_filter.2 ⟨h3, ?_⟩
      simp at h4 ⊢; omega
  simpa using this
theorem Bel.small (ha : ArOk ar A n C) (h : Bel ar A n r f) : ∀ (k x : Nat), x < n → f x = (k : Int) → f x ≤ ((nearN f n (f x) * C : Nat) : Int) := by
  intro k
  induction k using Nat.strongRecOn with
  | ind k ih =>
    intro x hx hk
    by_cases hr : x = r
    · subst hr; rw [h.root]; omega
    · obtain ⟨a, e, h1, h2, h3, h4, h5⟩ := h.back x hx hr (by omega)
      obtain ⟨_, hy, hc, hC⟩ := ha.hx a e h1 h2
      obtain ⟨j, hj⟩ : ∃ j : Nat, f e.y = (j : Int) := Int.eq_ofNat_of_zero_le h4
      have i1 := ih j (by omega) e.y hy hj
      have i2 : nearN f n (f e.y) + 1 ≤ nearN f n (f x) := near_lt hy h4 (Int.le_refl _) (by omega)
      have i3 : (nearN f n (f e.y) + 1) * C ≤ nearN f n (f x) * C := Nat.mul_le_mul_right _ i2
      rw [Nat.add_mul, Nat.one_mul] at i3
      omega
end
theorem IsDst.small {t : TopD} {down : List Bool} {d : Nat} {l : List Int} (ht : topOk t = true) (h : IsDst t down d l) (x : Nat) : atD l x ≤ 4300000 := by
  by_cases hx : 0 ≤ atD l x
  · obtain ⟨k, hk⟩ := Int.eq_ofNat_of_zero_le hx
    have h1 := h.2.small (arTo_ok ht) k x (h.out hx) hk
    have h2 := near_le (atD l) (nN t) (atD l x)
    have h3 : nN t ≤ 64 := by
      unfold topOk at ht
      rw [Bool.and_eq_true] at ht
      have q := of_decide_eq_true ht.1
      unfold nN; omega
    have h4 : nearN (atD l) (nN t) (atD l x) * 65535 ≤ 64 * 65535 := Nat.mul_le_mul_right _ (by omega)
    omega
  · omega
def selL (P : Nat → Bool) (l : List Nat) (j : Nat) : List Nat := (l.take j).filter P
theorem selL_yes {P : Nat → Bool} {l : List Nat} {j a : Nat} (h : l[j]? = some a) (hp : P a = true) : selL P l (j + 1) = selL P l j ++ [a] := by
  unfold selL; rw [List.take_add_one, h, Option.toList_some, List.filter_append]; simp [hp]
theorem selL_no {P : Nat → Bool} {l : List Nat} {j a : Nat} (h : l[j]? = some a) (hp : P a = false) : selL P l (j + 1) = selL P l j := by
  unfold selL; rw [List.take_add_one, h, Option.toList_some, List.filter_append]; simp [hp]
theorem selL_all {P : Nat → Bool} {l : List Nat} {j : Nat} (h : l.length ≤ j) : selL P l j = l.filter P := by unfold selL; rw [List.take_of_length_le h]
theorem selL_len (P : Nat → Bool) (l : List Nat) (j : Nat) : (selL P l j).length ≤ l.length := by
  unfold selL; refine Nat.le_trans (List.length_filter_le _ _) ?_; rw [List.length_take]; omega
theorem mem_out {t : TopD} {n a : Nat} : a ∈ outD t n ↔ a < arcsD t ∧ tN t a = n := by unfold outD; rw [List.mem_filter, List.mem_range, decide_eq_true_eq]
theorem out_len (t : TopD) (n : Nat) : (outD t n).length ≤ arcsD t := by unfold outD; exact Nat.le_trans (List.length_filter_le _ _) (by simp)
end Go.Proofs.YtmcfomainmppdaaGreatDoor
namespace Go.Proofs.YtmcfomainmppdaaGreatDoor
def FstP (t : TopD) (down : List Bool) (l : List Int) (d : Nat) : Nat → List Nat → Nat → Prop
  | x, [], y => x = y
  | x, a :: p, y => (∃ r, nxtD t down l x d = a :: r) ∧ FstP t down l d (hN t a) p y
section
variable {t : TopD} {down down2 : List Bool} {l l2 : List Int} {d x y z a : Nat} {p q : List Nat}
theorem FstP.eq (h : FstP t down l d x p d) (h' : FstP t down l d x q d) : p = q := by
  induction p generalizing x q with
  | nil =>
    cases q with
    | nil => rfl
    | cons b q =>
      obtain ⟨r, hr⟩ := h'.1
      have hx : x = d := h
      rw [nxt_none (.inl hx)] at hr; cases hr
  | cons a p ih =>
    cases q with
    | nil =>
      obtain ⟨r, hr⟩ := h.1
      have hx : x = d := h'
      rw [nxt_none (.inl hx)] at hr; cases hr
    | cons b q =>
      obtain ⟨r, hr⟩ := h.1
      obtain ⟨r', hr'⟩ := h'.1
      rw [hr] at hr'
      cases hr'
      rw [ih h.2 h'.2]
theorem FstP.snoc (h : FstP t down l d x p y) {r : List Nat} (ha : nxtD t down l y d = a :: r) : FstP t down l d x (p ++ [a]) (hN t a) := by
  induction p generalizing x with
  | nil => cases h; exact ⟨⟨r, ha⟩, rfl⟩
  | cons b p ih => exact ⟨h.1, ih h.2⟩
theorem FstP.nx (h : FstP t down l d x p y) : NxP t down l d x p y := by
  induction p generalizing x with
  | nil => exact h
  | cons b p ih =>
    obtain ⟨r, hr⟩ := h.1
    exact ⟨by rw [hr]; exact List.mem_cons_self .., ih h.2⟩
end
end Go.Proofs.YtmcfomainmppdaaGreatDoor
namespace Go.Proofs.YtmcfomainmppdaaGreatDoor
section
variable {t : TopD} {down : List Bool} {num : List Nat} {a b d n : Nat} {l : List Int}
def restD (t : TopD) (num : List Nat) : TopD := ⟨t.nodes, t.over, num.map fun i => t.links.getD i lnk0⟩
def renD (num : List Nat) (a : Nat) : Nat := 2 * num.getD (a / 2) 0 + a % 2
structure LeftD (t : TopD) (down : List Bool) (num : List Nat) : Prop where
  up : num.Pairwise (· < ·)
  iff : ∀ i, i ∈ num ↔ i < t.links.length ∧ upD down (2 * i) = true
  two : ∀ i, i < t.links.length → upD down (2 * i + 1) = upD down (2 * i)
theorem ren_lnk (ha : a < 2 * num.length) : lnkAt (restD t num) a = lnkAt t (renD num a) := by
  unfold lnkAt restD renD
  have h : a / 2 < num.length := by omega
  rw [show (2 * num.getD (a / 2) 0 + a % 2) / 2 = num.getD (a / 2) 0 by omega]
  simp only [List.getD_eq_getElem?_getD, List.getElem?_map]
  rw [List.getElem?_eq_getElem h]
  rfl
theorem ren_mod : renD num a % 2 = a % 2 := by unfold renD; omega
theorem ren_tl (ha : a < 2 * num.length) : tN (restD t num) a = tN t (renD num a) := by unfold tN tlD; rw [ren_lnk ha, ren_mod]
theorem ren_hd (ha : a < 2 * num.length) : hN (restD t num) a = hN t (renD num a) := by unfold hN hdD; rw [ren_lnk ha, ren_mod]
theorem ren_cs (ha : a < 2 * num.length) : cN (restD t num) a = cN t (renD num a) := by unfold cN csD; rw [ren_lnk ha, ren_mod]
theorem rest_arcs : arcsD (restD t num) = 2 * num.length := by unfold arcsD restD; simp
theorem rest_n : nN (restD t num) = nN t := rfl
theorem rest_tr : trD (restD t num) n d = trD t n d := rfl
theorem ren_lt (h : LeftD t down num) (ha : a < 2 * num.length) : renD num a < arcsD t ∧ upD down (renD num a) = true := by
  have hl : a / 2 < num.length := by omega
  have hm : num.getD (a / 2) 0 ∈ num := by rw [List.getD_eq_getElem?_getD, List.getElem?_eq_getElem hl]; exact List.getElem_mem hl
  obtain ⟨h1, h2⟩ := (h.iff _).1 hm
  unfold renD arcsD
  refine ⟨by omega, ?_⟩
  rcases Nat.mod_two_eq_zero_or_one a with e | e <;> rw [e]
  · exact h2
  · rw [h.two _ h1]; exact h2
theorem ren_ex (h : LeftD t down num) (hb : b < arcsD t) (hu : upD down b = true) : ∃ a, a < 2 * num.length ∧ renD num a = b := by
  have hl : b / 2 < t.links.length := by unfold arcsD at hb; omega
  have hu2 : upD down (2 * (b / 2)) = true := by
    rcases Nat.mod_two_eq_zero_or_one b with e | e
    · rwa [show 2 * (b / 2) = b by omega]
    · rw [← h.two _ hl, show 2 * (b / 2) + 1 = b by omega]; exact hu
  obtain ⟨k, hk⟩ := List.mem_iff_getElem?.1 ((h.iff _).2 ⟨hl, hu2⟩)
  have hkl := (List.getElem?_eq_some_iff.1 hk).1
  refine ⟨2 * k + b % 2, by omega, ?_⟩
  unfold renD
  rw [show (2 * k + b % 2) / 2 = k by omega, List.getD_eq_getElem?_getD, hk, show (2 * k + b % 2) % 2 = b % 2 by omega]
  show 2 * (b / 2) + b % 2 = b
  omega
theorem ren_mono (h : LeftD t down num) (hab : a < b) (hb : b < 2 * num.length) : renD num a < renD num b := by
  unfold renD
  by_cases e : a / 2 = b / 2
  · rw [e]; omega
  · have h1 : a / 2 < b / 2 := by omega
    have h2 : b / 2 < num.length := by omega
    have q := List.pairwise_iff_getElem.1 h.up (a / 2) (b / 2) (by omega) h2 h1
    simp only [List.getD_eq_getElem?_getD, List.getElem?_eq_getElem h2, List.getElem?_eq_getElem (show a / 2 < num.length by omega)]
    show 2 * num[a / 2] + a % 2 < 2 * num[b / 2] + b % 2
    omega
theorem up_nil : upD [] a = true := rfl
theorem rest_arTo (h : LeftD t down num) (ha : a < 2 * num.length) : arTo (restD t num) [] d a = arTo t down d (renD num a) := by
  unfold arTo
  rw [up_nil, (ren_lt h ha).2, ren_hd ha, ren_tl ha, ren_cs ha, rest_tr]
theorem rest_bel (h : LeftD t down num) {f : Nat → Int} {N r : Nat} : Bel (arTo (restD t num) [] d) (arcsD (restD t num)) N r f ↔ Bel (arTo t down d) (arcsD t) N r f := by
  rw [rest_arcs]
  constructor
  · intro q
    refine ⟨q.root, fun b e hb he => ?_, fun x hx hr h0 => ?_, q.neg⟩
    · obtain ⟨a, ha, rfl⟩ := ren_ex h hb (arTo_some he).1
      exact q.edge a e ha (by rw [rest_arTo h ha]; exact he)
    · obtain ⟨a, e, h1, h2, h3⟩ := q.back x hx hr h0
      exact ⟨renD num a, e, (ren_lt h h1).1, by rw [← rest_arTo h h1]; exact h2, h3⟩
  · intro q
    refine ⟨q.root, fun a e ha he => ?_, fun x hx hr h0 => ?_, q.neg⟩
    · exact q.edge _ e (ren_lt h ha).1 (by rw [← rest_arTo h ha]; exact he)
    · obtain ⟨b, e, h1, h2, h3⟩ := q.back x hx hr h0
      obtain ⟨a, ha, rfl⟩ := ren_ex h h1 (arTo_some h2).1
      exact ⟨a, e, ha, by rw [rest_arTo h ha]; exact h2, h3⟩
theorem rest_dst (h : LeftD t down num) : IsDst (restD t num) [] d l ↔ IsDst t down d l := by
  unfold IsDst
  rw [rest_bel h, rest_n]
theorem rest_on (h : LeftD t down num) (ha : a < 2 * num.length) : onD (restD t num) [] l d a = onD t down l d (renD num a) := by
  unfold onD
  rw [up_nil, (ren_lt h ha).2, ren_hd ha, ren_tl ha, ren_cs ha, rest_tr]
theorem rest_nxt (h : LeftD t down num) : (nxtD (restD t num) [] l n d).map (renD num) = nxtD t down l n d := by
  refine pair_ext (R := (· < ·)) (fun _ => Nat.lt_irrefl _) (fun _ _ _ => Nat.lt_trans) ?_ ?_ fun b => ?_
  · refine List.pairwise_map.2 ?_
    have hp : (nxtD (restD t num) [] l n d).Pairwise (· < ·) := List.Pairwise.filter _ List.pairwise_lt_range
    refine List.Pairwise.imp_of_mem (fun {a b} _ hb hab => ?_) hp
    exact ren_mono h hab (by have q := (mem_nxt.1 hb).1; rwa [rest_arcs] at q)
  · exact List.Pairwise.filter _ List.pairwise_lt_range
  · rw [List.mem_map]
    constructor
    · rintro ⟨a, ha, rfl⟩
      obtain ⟨h1, h2, h3⟩ := mem_nxt.1 ha
      rw [rest_arcs] at h1
      exact mem_nxt.2 ⟨(ren_lt h h1).1, by rw [← ren_tl h1]; exact h2, by rw [← rest_on h h1]; exact h3⟩
    · intro hb
      obtain ⟨h1, h2, h3⟩ := mem_nxt.1 hb
      obtain ⟨a, ha, rfl⟩ := ren_ex h h1 (on_iff.1 h3).1
      exact ⟨a, mem_nxt.2 ⟨by rw [rest_arcs]; exact ha, by rw [ren_tl ha]; exact h2, by rw [rest_on h ha]; exact h3⟩, rfl⟩
theorem rest_ok (ht : topOk t = true) (h : LeftD t down num) : topOk (restD t num) = true := by
  have hnum : num.length ≤ t.links.length := by
    have := nd_len (l1 := num) (l2 := List.range t.links.length) (h.up.imp fun q => Nat.ne_of_lt q) fun i hi => List.mem_range.2 ((h.iff i).1 hi).1
    simpa using this
  unfold topOk at ht ⊢
  rw [Bool.and_eq_true, List.all_eq_true] at ht ⊢
  have h1 := of_decide_eq_true ht.1
  refine ⟨decide_eq_true ?_, fun x hx => ?_⟩
  · unfold restD; simp only [List.length_map]; omega
  · obtain ⟨i, hi, rfl⟩ := List.mem_map.1 (show x ∈ num.map fun i => t.links.getD i lnk0 from hx)
    have hl := ((h.iff i).1 hi).1
    exact ht.2 _ (by rw [List.getD_eq_getElem?_getD, List.getElem?_eq_getElem hl]; exact List.getElem_mem hl)
end
end Go.Proofs.YtmcfomainmppdaaGreatDoor
