/- The laws of merged lists. -/
import Derived.Test.YthkoaaneikhjjaaDoorDemW
namespace Go.Proofs.YthkoaaneikhjjaaDoor
open Go.RowKit
open Go.Lib (decDigits)
theorem same_of {v u : Value} {xs ys : List Dm} (w : World) (h : SlV demK w v xs) (h2 : SlV demK w u ys) (e : xs = ys) (hl : xs.length ≤ 100000) : Calls Tryd.prog 9 #[v, u] w fun e w' => e = .returned (.bool true) ∧ Below w.heap.size w w' := by
  have q := same_any v u xs ys w h h2 hl (by rw [← e]; exact hl)
  rw [decide_eq_true e] at q; exact q
def sgm (n b i : Nat) : Nat := (n - 1 - i + b) % n
theorem sgm_lt {n b i : Nat} (h : 0 < n) : sgm n b i < n := Nat.mod_lt _ h
theorem sgm_inv {n b i : Nat} (h : i < n) : sgm n b (sgm n b i) = i := by
  unfold sgm
  have hn : 0 < n := by omega
  have h1 := Nat.mod_add_div (n - 1 - i + b) n
  have h2 := Nat.mod_lt (n - 1 - i + b) hn
  generalize (n - 1 - i + b) % n = r at h1 h2 ⊢
  have h3 : n - 1 - r + b = i + n * ((n - 1 - i + b) / n) := by omega
  rw [h3, Nat.add_mul_mod_self_left, Nat.mod_eq_of_lt h]
def bakD (xs : List Dm) (b k : Nat) : List Dm := (List.range k).map fun i => xs[sgm xs.length b i]?.getD default
theorem bakD_step {xs : List Dm} {b k : Nat} {x : Dm} (hx : xs[sgm xs.length b k]? = some x) : bakD xs b k ++ [x] = bakD xs b (k + 1) := by
  unfold bakD; rw [List.range_succ, List.map_append]; simp [hx]
theorem bakD_perm (xs : List Dm) (b : Nat) : (bakD xs b xs.length).Perm xs := by
  have h1 : ((List.range xs.length).map (sgm xs.length b)).Perm (List.range xs.length) := by
    refine (List.perm_ext_iff_of_nodup ?_ List.nodup_range).2 fun j => ?_
    · refine (List.pairwise_map.2 ?_)
      refine List.Pairwise.imp_of_mem (fun {i j} hi hj hij e => ?_) (List.nodup_range (n := xs.length))
      have q := congrArg (sgm xs.length b) e
      rw [sgm_inv (by simpa using hi), sgm_inv (by simpa using hj)] at q
      exact hij q
    · simp only [List.mem_map, List.mem_range]
      exact ⟨fun ⟨i, hi, e⟩ => e ▸ sgm_lt (by omega), fun hj => ⟨sgm xs.length b j, sgm_lt (by omega), sgm_inv hj⟩⟩
  have h2 := h1.map fun i => xs[i]?.getD default
  rw [List.map_map] at h2
  have h3 : (List.range xs.length).map (fun i => xs[i]?.getD default) = xs := by
    refine List.ext_getElem? fun i => ?_
    rw [List.getElem?_map]
    by_cases hi : i < xs.length
    · rw [List.getElem?_range hi, Option.map_some, List.getElem?_eq_getElem hi]; rfl
    · rw [List.getElem?_eq_none (by simp; omega), List.getElem?_eq_none (by omega)]; rfl
  rw [h3] at h2
  exact h2
theorem sgm_i {n b i : Nat} (h : i < n) : ((n : Int) - 1 - (i : Int) + (b : Int)) % (n : Int) = ((sgm n b i : Nat) : Int) := by
  unfold sgm
  rw [Int.natCast_emod, show ((n - 1 - i + b : Nat) : Int) = (n : Int) - 1 - (i : Int) + (b : Int) by omega]
end Go.Proofs.YthkoaaneikhjjaaDoor
