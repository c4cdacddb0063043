/- The simplex method: Bland's rule never goes on for ever. No program in sight. -/
import Derived.Test.YtcdbgincfdejkaaGreatDoorLpB
namespace Go.Proofs.YtcdbgincfdejkaaGreatDoor
structure LSt where
  T : LTab
  g : LRow
structure LSt.Ok (s : LSt) : Prop where
  ok : s.T.Ok
  feas : s.T.Feas
  len : s.g.cs.length = s.T.free.length
def LSt.next (s : LSt) (i j : Nat) : LSt := ⟨s.T.pivot i j, s.T.obj i j s.g⟩
theorem LSt.Ok.next {s : LSt} {i j : Nat} (h : s.Ok) (hp : Pick s.T s.g i j) : (s.next i j).Ok :=
  ⟨h.ok.pivot hp.hi hp.hj, h.feas.pivot hp.hi hp.a fun m hm ha => (hp.quo m hm ha).1, by simp [LSt.next, LTab.obj, LTab.pivot, LRow.subst_len, h.len]⟩
theorem LSt.Ok.sat {s : LSt} {i j : Nat} (h : s.Ok) (hp : Pick s.T s.g i j) (v : Int → Rat) : (s.next i j).T.Sat v ↔ s.T.Sat v := h.ok.sat_pivot (row_getD hp.hi) hp.hj (pos_ne hp.a) v
theorem LSt.Ok.val {s : LSt} {i j : Nat} (h : s.Ok) (hp : Pick s.T s.g i j) {v : Int → Rat} (hs : s.T.Sat v) : (s.next i j).g.ev v (s.next i j).T.free = s.g.ev v s.T.free := h.ok.obj_ev (row_getD hp.hi) hp.hj (pos_ne hp.a) h.len hs
structure Run (f : Nat → LSt) (i j : Nat → Nat) : Prop where
  ok : (f 0).Ok
  pick : ∀ k, Pick (f k).T (f k).g (i k) (j k)
  step : ∀ k, f (k + 1) = (f k).next (i k) (j k)
section
variable {f : Nat → LSt} {i j : Nat → Nat}
theorem Run.oks (h : Run f i j) (k : Nat) : (f k).Ok := by
  induction k with
  | zero => exact h.ok
  | succ k ih => rw [h.step]; exact ih.next (h.pick k)
theorem Run.sat (h : Run f i j) (v : Int → Rat) (k : Nat) : (f k).T.Sat v ↔ (f 0).T.Sat v := by
  induction k with
  | zero => exact Iff.rfl
  | succ k ih => rw [h.step, ← ih]; exact (h.oks k).sat (h.pick k) v
theorem Run.val (h : Run f i j) {v : Int → Rat} (hs : (f 0).T.Sat v) (k : Nat) : (f k).g.ev v (f k).T.free = (f 0).g.ev v (f 0).T.free := by
  induction k with
  | zero => rfl
  | succ k ih => rw [h.step, ← ih]; exact (h.oks k).val (h.pick k) ((h.sat v k).2 hs)
def entV (f : Nat → LSt) (j : Nat → Nat) (k : Nat) : Int := (f k).T.free.getD (j k) 0
def leaV (f : Nat → LSt) (i : Nat → Nat) (k : Nat) : Int := (f k).T.basic.getD (i k) 0
theorem Run.free (h : Run f i j) (k : Nat) : (f (k + 1)).T.free = (f k).T.free.set (j k) (leaV f i k) := by rw [h.step]; rfl
theorem Run.basic (h : Run f i j) (k : Nat) : (f (k + 1)).T.basic = (f k).T.basic.set (i k) (entV f j k) := by rw [h.step]; rfl
theorem Run.ib (h : Run f i j) (k : Nat) : i k < (f k).T.basic.length := by rw [(h.oks k).ok.nb]; exact (h.pick k).hi
theorem mem_set_ne {l : List Int} {k : Nat} {a n : Int} (hn : n ∈ l) (hne : n ≠ l.getD k 0) : n ∈ l.set k a := by
  obtain ⟨m, hm⟩ := List.mem_iff_getElem?.1 hn
  by_cases e : k = m
  · subst e; exact absurd (getD_of hm).symm hne
  · exact List.mem_of_getElem? (i := m) (by rw [List.getElem?_set_ne e, hm])
theorem mem_set_self {l : List Int} {k : Nat} {a : Int} (hk : k < l.length) : a ∈ l.set k a := List.mem_of_getElem? (i := k) (by rw [List.getElem?_set_self hk])
theorem Run.stays_free (h : Run f i j) {k : Nat} {n : Int} (hn : n ∈ (f k).T.free) (hne : n ≠ entV f j k) : n ∈ (f (k + 1)).T.free := by rw [h.free]; exact mem_set_ne hn hne
theorem Run.stays_basic (h : Run f i j) {k : Nat} {n : Int} (hn : n ∈ (f k).T.basic) (hne : n ≠ leaV f i k) : n ∈ (f (k + 1)).T.basic := by rw [h.basic]; exact mem_set_ne hn hne
theorem Run.in_basic (h : Run f i j) (k : Nat) : entV f j k ∈ (f (k + 1)).T.basic := by rw [h.basic]; exact mem_set_self (h.ib k)
theorem Run.ent_free (h : Run f i j) (k : Nat) : entV f j k ∈ (f k).T.free := mem_getD (h.pick k).hj
theorem Run.lea_basic (h : Run f i j) (k : Nat) : leaV f i k ∈ (f k).T.basic := mem_getD (h.ib k)
theorem Run.enters (h : Run f i j) {p q : Nat} (hf : (f p).T.free = (f q).T.free) {n : Int} {k1 k2 : Nat} (h1 : p ≤ k1) (h2 : k1 ≤ q) (h3 : p ≤ k2) (h4 : k2 ≤ q) (hfr : n ∈ (f k1).T.free) (hba : n ∈ (f k2).T.basic) : ∃ k, p ≤ k ∧ k < q ∧ entV f j k = n := Classical.byContradiction fun hno => by
  have hgo : ∀ a d : Nat, p ≤ a → a + d ≤ q → n ∈ (f a).T.free → n ∈ (f (a + d)).T.free := fun a d ha hd hn => by
    induction d with
    | zero => exact hn
    | succ d ih => exact h.stays_free (ih (by omega)) fun e => hno ⟨a + d, by omega, by omega, e.symm⟩
  rcases Nat.le_total k1 k2 with hk | hk
  · have := hgo k1 (k2 - k1) h1 (by omega) hfr
    rw [show k1 + (k2 - k1) = k2 by omega] at this
    exact (h.oks k2).ok.apart hba this
  · have h5 := hgo k1 (q - k1) h1 (by omega) hfr
    rw [show k1 + (q - k1) = q by omega, ← hf] at h5
    have := hgo p (k2 - p) (Nat.le_refl _) (by omega) h5
    rw [show p + (k2 - p) = k2 by omega] at this
    exact (h.oks k2).ok.apart hba this
theorem Run.leaves (h : Run f i j) {p q : Nat} (hf : (f p).T.basic = (f q).T.basic) {n : Int} {k1 k2 : Nat} (h1 : p ≤ k1) (h2 : k1 ≤ q) (h3 : p ≤ k2) (h4 : k2 ≤ q) (hba : n ∈ (f k1).T.basic) (hfr : n ∈ (f k2).T.free) : ∃ k, p ≤ k ∧ k < q ∧ leaV f i k = n := Classical.byContradiction fun hno => by
  have hgo : ∀ a d : Nat, p ≤ a → a + d ≤ q → n ∈ (f a).T.basic → n ∈ (f (a + d)).T.basic := fun a d ha hd hn => by
    induction d with
    | zero => exact hn
    | succ d ih => exact h.stays_basic (ih (by omega)) fun e => hno ⟨a + d, by omega, by omega, e.symm⟩
  rcases Nat.le_total k1 k2 with hk | hk
  · have := hgo k1 (k2 - k1) h1 (by omega) hba
    rw [show k1 + (k2 - k1) = k2 by omega] at this
    exact (h.oks k2).ok.apart this hfr
  · have h5 := hgo k1 (q - k1) h1 (by omega) hba
    rw [show k1 + (q - k1) = q by omega, ← hf] at h5
    have := hgo p (k2 - p) (Nat.le_refl _) (by omega) h5
    rw [show p + (k2 - p) = k2 by omega] at this
    exact (h.oks k2).ok.apart this hfr
theorem Run.grow (h : Run f i j) (k : Nat) : (f (k + 1)).g.r = (f k).g.r - (f k).g.cs.getD (j k) 0 * quoR (f k).T.rows (j k) (i k) := by
  rw [h.step]
  simp only [LSt.next, LTab.obj, LRow.subst, LRow.scale, quoR]
  grind
theorem Run.quo0 (h : Run f i j) (k : Nat) : 0 ≤ quoR (f k).T.rows (j k) (i k) := div_nn ((h.oks k).feas _ (List.mem_of_getElem? (row_getD (h.pick k).hi))) (h.pick k).a
theorem Run.mono1 (h : Run f i j) (k : Nat) : (f k).g.r ≤ (f (k + 1)).g.r := by
  rw [h.grow]
  have h1 := (h.pick k).c
  have h2 : 0 ≤ -((f k).g.cs.getD (j k) 0) * quoR (f k).T.rows (j k) (i k) := Rat.mul_nonneg (by grind) (h.quo0 k)
  grind
theorem Run.mono (h : Run f i j) (k d : Nat) : (f k).g.r ≤ (f (k + d)).g.r := by
  induction d with
  | zero => exact Rat.le_refl
  | succ d ih => exact Rat.le_trans ih (h.mono1 (k + d))
theorem Run.still (h : Run f i j) {p q : Nat} (_hpq : p ≤ q) (hz : (f p).g.r = (f q).g.r) {k : Nat} (h1 : p ≤ k) (h2 : k < q) : quoR (f k).T.rows (j k) (i k) = 0 := by
  have a1 := h.mono p (k - p)
  have a2 := h.mono (k + 1) (q - (k + 1))
  rw [show p + (k - p) = k by omega] at a1
  rw [show k + 1 + (q - (k + 1)) = q by omega] at a2
  have a3 := h.mono1 k
  have a4 := h.grow k
  have a5 := (h.pick k).c
  have a6 : (f k).g.cs.getD (j k) 0 * quoR (f k).T.rows (j k) (i k) = 0 := by grind
  rcases Rat.mul_eq_zero.1 a6 with e | e
  · rw [e] at a5; exact absurd a5 (by decide)
  · exact e
theorem Run.zero (h : Run f i j) {p q : Nat} (hpq : p ≤ q) (hz : (f p).g.r = (f q).g.r) (d : Nat) (hd : p + d ≤ q) : ∀ n ∈ (f (p + d)).T.free, (f p).T.sol n = 0 := by
  have hs : ∀ k, (f k).T.Sat (f p).T.sol := fun k => (h.sat _ k).2 ((h.sat _ p).1 (h.oks p).ok.sat_sol)
  induction d with
  | zero => exact fun n hn => (h.oks p).ok.sol_free hn
  | succ d ih =>
    intro n hn
    have ih := ih (by omega)
    rw [← Nat.add_assoc, h.free] at hn
    rcases List.mem_or_eq_of_mem_set hn with hn | rfl
    · exact ih n hn
    · have h1 := (hs (p + d)).at ih (getD_some (h.ib (p + d))) (row_getD (h.pick (p + d)).hi)
      have h2 := h.still hpq hz (k := p + d) (by omega) (by omega)
      have h3 : quoR (f (p + d)).T.rows (j (p + d)) (i (p + d)) * cofR (f (p + d)).T.rows (j (p + d)) (i (p + d)) = ((f (p + d)).T.rows.getD (i (p + d)) default).r := by
        unfold quoR; exact Rat.div_mul_cancel (pos_ne (h.pick (p + d)).a)
      rw [h2, Rat.zero_mul] at h3
      exact h1.trans h3.symm
theorem greatest (e : Nat → Int) : ∀ (p d : Nat), 0 < d → ∃ k, p ≤ k ∧ k < p + d ∧ ∀ m, p ≤ m → m < p + d → e m ≤ e k
  | p, 0, h => absurd h (Nat.lt_irrefl _)
  | p, d + 1, _ => by
    rcases Nat.eq_zero_or_pos d with rfl | hd
    · exact ⟨p, Nat.le_refl _, by omega, fun m h1 h2 => by rw [show m = p by omega]; exact Int.le_refl _⟩
    · obtain ⟨k, h1, h2, h3⟩ := greatest e p d hd
      by_cases hc : e k ≤ e (p + d)
      · refine ⟨p + d, by omega, by omega, fun m h4 h5 => ?_⟩
        by_cases hm : m = p + d
        · rw [hm]; exact Int.le_refl _
        · exact Int.le_trans (h3 m h4 (by omega)) hc
      · refine ⟨k, h1, by omega, fun m h4 h5 => ?_⟩
        by_cases hm : m = p + d
        · rw [hm]; omega
        · exact h3 m h4 (by omega)
theorem Run.no_round (h : Run f i j) {p q : Nat} (hpq : p < q) (hb : (f p).T.basic = (f q).T.basic) (hf : (f p).T.free = (f q).T.free) : False := by
  have hsat : ∀ k v, (f k).T.Sat v ↔ (f 0).T.Sat v := fun k v => h.sat v k
  have hz : (f p).g.r = (f q).g.r := by
    have h0 : (f 0).T.Sat (f p).T.sol := (hsat p _).1 (h.oks p).ok.sat_sol
    have h1 := h.val h0 p
    have h2 := h.val h0 q
    have hfree : ∀ n ∈ (f p).T.free, (f p).T.sol n = 0 := fun n hn => (h.oks p).ok.sol_free hn
    unfold LRow.ev at h1 h2
    rw [dotV_zero hfree] at h1
    rw [dotV_zero (fs := (f q).T.free) (fun n hn => hfree n (hf ▸ hn))] at h2
    grind
  obtain ⟨kt, ht1, ht2, hmax⟩ := greatest (entV f j) p (q - p) (by omega)
  have hle : ∀ m, p ≤ m → m < q → entV f j m ≤ entV f j kt := fun m h1 h2 => hmax m h1 (by omega)
  have ht2 : kt < q := by omega
  obtain ⟨k, hk1, hk2, hlea⟩ := h.leaves hb (n := entV f j kt) (k1 := kt + 1) (k2 := kt) (by omega) (by omega) ht1 (by omega) (h.in_basic kt) (h.ent_free kt)
  have hokk := (h.oks k).ok
  have hokt := (h.oks kt).ok
  -- the two assignments
  have hs1 := (hsat kt _).2 ((hsat k _).1 (hokk.sat_pt (h.pick k).hj 1))
  have hs0 := (hsat kt _).2 ((hsat k _).1 (hokk.sat_pt (h.pick k).hj 0))
  have e1 := (h.val ((hsat kt _).1 hs1) kt).trans (h.val ((hsat kt _).1 hs1) k).symm
  have e0 := (h.val ((hsat kt _).1 hs0) kt).trans (h.val ((hsat kt _).1 hs0) k).symm
  unfold LRow.ev at e1 e0
  rw [hokk.pt_dot (h.pick k).hj 1 (h.oks k).len] at e1
  rw [hokk.pt_dot (h.pick k).hj 0 (h.oks k).len] at e0
  have e2 := dotV_subv ((f k).T.pt (j k) 1) ((f k).T.pt (j k) 0) (f kt).g.cs (f kt).T.free
  have hck := (h.pick k).c
  obtain ⟨m, n, hm, hml, hneg⟩ := dotV_neg (v := fun n => (f k).T.pt (j k) 1 n - (f k).T.pt (j k) 0 n) (cs := (f kt).g.cs) (fs := (f kt).T.free) (by rw [e2]; grind)
  have hml' : m < (f kt).T.free.length := (List.getElem?_eq_some_iff.1 hm).1
  have hnd : (f kt).T.free.getD m 0 = n := getD_of hm
  have hnfree : n ∈ (f kt).T.free := List.mem_of_getElem? hm
  have hets : entV f j k ≠ entV f j kt := fun e => hokk.apart (hlea ▸ h.lea_basic k) (e ▸ h.ent_free k)
  have hlet := hle k hk1 hk2
  -- Who is n?
  by_cases hns : n = entV f j k
  · subst hns
    have d1 : (f k).T.pt (j k) 1 (entV f j k) = 1 := LTab.pt_j _ _ _
    have d0 : (f k).T.pt (j k) 0 (entV f j k) = 0 := LTab.pt_j _ _ _
    rw [d1, d0] at hneg
    have := (h.pick kt).least m hml' (by grind)
    rw [hnd] at this
    exact hets (Int.le_antisymm hlet this)
  · by_cases hnb : n ∈ (f k).T.basic
    · obtain ⟨r, hr⟩ := List.mem_iff_getElem?.1 hnb
      have hrl : r < (f k).T.rows.length := by rw [← hokk.nb]; exact (List.getElem?_eq_some_iff.1 hr).1
      have d1 := hokk.pt_at (h.pick k).hj 1 hr (row_getD hrl)
      have d0 := hokk.pt_at (h.pick k).hj 0 hr (row_getD hrl)
      rw [d1, d0] at hneg
      have hneg2 : (f kt).g.cs.getD m 0 * cofR (f k).T.rows (j k) r > 0 := by unfold cofR; grind
      obtain ⟨ke, hke1, hke2, hke⟩ := h.enters hf (n := n) (k1 := kt) (k2 := k) ht1 (by omega) hk1 (by omega) hnfree hnb
      have hnle : n ≤ entV f j kt := hke ▸ hle ke hke1 hke2
      by_cases hc : (f kt).g.cs.getD m 0 < 0
      · have h5 := (h.pick kt).least m hml' hc
        rw [hnd] at h5
        have hnt : n = entV f j kt := Int.le_antisymm hnle h5
        -- n is t: its coefficient in k is above 0
        have hri : r = i k := by
          have e3 : (f k).T.basic.getD (i k) 0 = n := hlea.trans hnt.symm
          have e4 := getD_some (h.ib k)
          rw [e3] at e4
          obtain ⟨x1, x2⟩ := List.getElem?_eq_some_iff.1 hr
          obtain ⟨y1, y2⟩ := List.getElem?_eq_some_iff.1 e4
          exact nodup_inj hokk.nd1 x1 y1 (x2.trans y2.symm)
        subst hri
        have h6 := (h.pick k).a
        have h7 : 0 ≤ -((f kt).g.cs.getD m 0) * cofR (f k).T.rows (j k) (i k) := Rat.mul_nonneg (by grind) (Rat.le_of_lt h6)
        grind
      · have hcp : 0 ≤ (f kt).g.cs.getD m 0 := by grind
        have hap : 0 < cofR (f k).T.rows (j k) r := Classical.byContradiction fun hx => by
          have : 0 ≤ (f kt).g.cs.getD m 0 * -(cofR (f k).T.rows (j k) r) := Rat.mul_nonneg hcp (by grind)
          grind
        -- n is 0 in the basic solution
        have hzero := h.zero (Nat.le_of_lt hpq) hz (kt - p) (by omega) n (by rw [show p + (kt - p) = kt by omega]; exact hnfree)
        have hzk := h.zero (Nat.le_of_lt hpq) hz (k - p) (by omega)
        rw [show p + (k - p) = k by omega] at hzk
        have hrest := LTab.Sat.at ((hsat k _).2 ((hsat p _).1 (h.oks p).ok.sat_sol)) hzk hr (row_getD hrl)
        rw [hzero] at hrest
        have hq0 : quoR (f k).T.rows (j k) r = 0 := by unfold quoR; rw [← hrest, Rat.div_def, Rat.zero_mul]
        have h8 := ((h.pick k).quo r hrl hap).2 ((h.still (Nat.le_of_lt hpq) hz hk1 hk2).trans hq0.symm)
        have h9 : (f k).T.basic.getD r 0 = n := getD_of hr
        rw [h9, show (f k).T.basic.getD (i k) 0 = entV f j kt from hlea] at h8
        have hnt : n = entV f j kt := Int.le_antisymm hnle h8
        -- then t's coefficient in kt is below 0
        have hjm : m = j kt := by
          have e4 := getD_some (h.pick kt).hj
          rw [show (f kt).T.free.getD (j kt) 0 = n from hnt.symm] at e4
          obtain ⟨x1, x2⟩ := List.getElem?_eq_some_iff.1 hm
          obtain ⟨y1, y2⟩ := List.getElem?_eq_some_iff.1 e4
          exact nodup_inj hokt.nd2 x1 y1 (x2.trans y2.symm)
        subst hjm
        exact hc (h.pick kt).c
    · rw [LTab.pt_out _ hnb hns, LTab.pt_out _ hnb hns] at hneg
      grind
theorem pigeon {α : Type _} : ∀ (S : List α) (f : Nat → α), (∀ k, f k ∈ S) → ∃ p q, p < q ∧ f p = f q
  | [], f, h => absurd (h 0) List.not_mem_nil
  | x :: S, f, h => by
    by_cases h1 : ∃ p q, p < q ∧ f p = x ∧ f q = x
    · obtain ⟨p, q, h2, h3, h4⟩ := h1; exact ⟨p, q, h2, h3.trans h4.symm⟩
    · obtain ⟨k0, hk0⟩ : ∃ k0, ∀ k, k0 ≤ k → f k ≠ x := by
        by_cases h2 : ∃ p, f p = x
        · obtain ⟨p, hp⟩ := h2
          exact ⟨p + 1, fun k hk e => h1 ⟨p, k, by omega, hp, e⟩⟩
        · exact ⟨0, fun k _ e => h2 ⟨k, e⟩⟩
      obtain ⟨p, q, h2, h3⟩ := pigeon S (fun k => f (k0 + k)) fun k => (List.mem_cons.1 (h (k0 + k))).resolve_left (hk0 _ (by omega))
      exact ⟨k0 + p, k0 + q, by omega, h3⟩
def lsts (U : List Int) : Nat → List (List Int)
  | 0 => [[]]
  | n + 1 => (lsts U n).flatMap fun l => U.map fun u => u :: l
theorem mem_lsts {U : List Int} : ∀ {l : List Int}, (∀ x ∈ l, x ∈ U) → l ∈ lsts U l.length
  | [], _ => by simp [lsts]
  | x :: l, h => by
    simp only [List.length_cons, lsts, List.mem_flatMap, List.mem_map]
    exact ⟨l, mem_lsts fun y hy => h y (List.mem_cons_of_mem _ hy), x, h x (List.mem_cons_self ..), rfl⟩
theorem Run.lens (h : Run f i j) (k : Nat) : (f k).T.basic.length = (f 0).T.basic.length ∧ (f k).T.free.length = (f 0).T.free.length ∧ ∀ n, n ∈ (f k).T.basic ++ (f k).T.free → n ∈ (f 0).T.basic ++ (f 0).T.free := by
  induction k with
  | zero => exact ⟨rfl, rfl, fun _ h => h⟩
  | succ k ih =>
    obtain ⟨h1, h2, h3⟩ := ih
    refine ⟨by rw [h.basic, List.length_set, h1], by rw [h.free, List.length_set, h2], fun n hn => h3 n ?_⟩
    rcases List.mem_append.1 hn with hn | hn
    · rw [h.basic] at hn
      rcases List.mem_or_eq_of_mem_set hn with hn | rfl
      · exact List.mem_append_left _ hn
      · exact List.mem_append_right _ (h.ent_free k)
    · rw [h.free] at hn
      rcases List.mem_or_eq_of_mem_set hn with hn | rfl
      · exact List.mem_append_right _ hn
      · exact List.mem_append_left _ (h.lea_basic k)
theorem Run.ends (h : Run f i j) : False := by
  obtain ⟨p, q, hpq, he⟩ := pigeon (lsts ((f 0).T.basic ++ (f 0).T.free) ((f 0).T.basic.length + (f 0).T.free.length)) (fun k => (f k).T.basic ++ (f k).T.free) fun k => by
    obtain ⟨h1, h2, h3⟩ := h.lens k
    rw [← h1, ← h2, ← List.length_append]
    exact mem_lsts h3
  have h1 : (f p).T.basic.length = (f q).T.basic.length := (h.lens p).1.trans (h.lens q).1.symm
  obtain ⟨e1, e2⟩ := List.append_inj he h1
  exact h.no_round hpq e1 e2
end
end Go.Proofs.YtcdbgincfdejkaaGreatDoor
