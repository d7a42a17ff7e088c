/- Plain laws of what Solve returns: growth by one, equal springs, a step. -/
import Derived.Test.YtajkmlejklgbbaaSpSolve
namespace Go.Proofs.Ytajkmlejklgbbaa
open Go.RowKit

theorem evenF_sum_take (l : List Spr) (left : Int) (h0 : 0 ≤ left % (l.length : Int)) : ∀ k, k ≤ l.length → ((evenF l left).take k).sum = mins (l.take k) + (k : Int) * (left / (l.length : Int)) + min (k : Int) (left % (l.length : Int)) := by
  intro k
  induction k with
  | zero => intro _; simp [mins]; omega
  | succ k ih =>
    intro hk
    obtain ⟨s, hs⟩ : ∃ s, l[k]? = some s := ⟨_, List.getElem?_eq_getElem (by omega)⟩
    have e1 := evenF_get l left hs
    have e2 : mins (l.take (k + 1)) = mins (l.take k) + s.m := by rw [List.take_add_one, hs, Option.toList_some, mins_snoc]
    rw [List.take_add_one, e1, Option.toList_some, List.sum_append, ih (by omega), e2]
    have e3 : ((k + 1 : Nat) : Int) * (left / (l.length : Int)) = (k : Int) * (left / (l.length : Int)) + left / (l.length : Int) := by
      rw [show ((k + 1 : Nat) : Int) = (k : Int) + 1 by omega, Int.add_mul, Int.one_mul]
    rw [e3]
    simp only [List.sum_cons, List.sum_nil]
    split <;> omega

theorem evenF_sum {l : List Spr} {left : Int} (h0 : 0 < l.length) : (evenF l left).sum = mins l + left := by
  have h1 : 0 ≤ left % (l.length : Int) := Int.emod_nonneg _ (by omega)
  have h2 : left % (l.length : Int) < (l.length : Int) := Int.emod_lt_of_pos _ (by omega)
  have h3 := evenF_sum_take l left h1 l.length (Nat.le_refl _)
  have h4 := Int.mul_ediv_add_emod left (l.length : Int)
  rw [List.take_length, List.take_of_length_le (by rw [evenF_len]; exact Nat.le_refl _)] at h3
  rw [h3]
  omega

theorem evenF_mono {l : List Spr} {left : Int} (h0 : 0 < l.length) {i : Nat} {v u : Int} (hv : (evenF l left)[i]? = some v) (hu : (evenF l (left + 1))[i]? = some u) : v ≤ u := by
  have hi : i < l.length := by rw [← evenF_len l left]; exact (List.getElem?_eq_some_iff.1 hv).1
  obtain ⟨s, hs⟩ : ∃ s, l[i]? = some s := ⟨_, List.getElem?_eq_getElem hi⟩
  rw [evenF_get l left hs] at hv
  rw [evenF_get l (left + 1) hs] at hu
  cases hv
  cases hu
  obtain ⟨n, hn⟩ : ∃ n : Int, n = (l.length : Int) := ⟨_, rfl⟩
  have n0 : 0 < n := by omega
  have hin : (i : Int) < n := by omega
  rw [← hn]
  have a1 := Int.emod_nonneg left (show n ≠ 0 by omega)
  have a2 := Int.emod_lt_of_pos left n0
  have a3 := Int.mul_ediv_add_emod left n
  have b1 := Int.emod_nonneg (left + 1) (show n ≠ 0 by omega)
  have b2 := Int.emod_lt_of_pos (left + 1) n0
  have b3 := Int.mul_ediv_add_emod (left + 1) n
  have c : left / n ≤ (left + 1) / n := Int.ediv_le_ediv n0 (by omega)
  rcases (show left / n = (left + 1) / n ∨ left / n + 1 ≤ (left + 1) / n by omega) with e | e
  · rw [← e] at b3 ⊢
    split <;> split <;> omega
  · split <;> split <;> omega

/-- the width grows by one: nothing shrinks, and the sum grows by one -/
theorem grows {l : List Spr} (hn : ∀ s ∈ l, 0 ≤ s.n ∧ 0 ≤ s.m) (h0 : 0 < l.length) {width : Int} {x y : List Int} (hx : SolveOut l width x) (hy : SolveOut l (width + 1) y) :
    (∀ (i : Nat) (v u : Int), x[i]? = some v → y[i]? = some u → v ≤ u) ∧ y.sum = x.sum + 1 := by
  by_cases hp : ∃ s ∈ l, 0 < s.n
  · have bx := hx.bal hp
    have by_ := hy.bal hp
    obtain ⟨i, s, v, hpick⟩ := pick_ex bx.len hp
    have hyx := by_.unique (fun s hs => (hn s hs).1) (bx.grow hpick)
    refine ⟨fun j a b ha hb => ?_, by rw [by_.sum, bx.sum]⟩
    rw [hyx, List.getElem?_set] at hb
    by_cases e : i = j
    · subst e
      rw [hpick.gv] at ha
      cases ha
      rw [if_pos rfl, if_pos (List.getElem?_eq_some_iff.1 hpick.gv).1] at hb
      cases hb
      omega
    · rw [if_neg e, ha] at hb
      cases hb
      exact Int.le_refl _
  · have hz : ∀ s ∈ l, s.n = 0 := fun s hs => by
      have := (hn s hs).1
      rcases (show s.n = 0 ∨ 0 < s.n by omega) with h | h
      · exact h
      · exact absurd ⟨s, hs, h⟩ hp
    have ex := hx.even hz
    have ey := hy.even hz
    rw [show width + 1 - mins l = width - mins l + 1 by omega] at ey
    refine ⟨fun i v u hv hu => ?_, ?_⟩
    · rw [ex] at hv
      rw [ey] at hu
      exact evenF_mono h0 hv hu
    · rw [ex, ey, evenF_sum h0, evenF_sum h0]
      omega

theorem mins_rep (k : Nat) (s : Spr) : mins (List.replicate k s) = (k : Int) * s.m := by
  induction k with
  | zero => simp [mins]
  | succ k ih =>
    have e : mins (List.replicate (k + 1) s) = s.m + mins (List.replicate k s) := by simp [mins, List.replicate_succ]
    rw [e, ih, show ((k + 1 : Nat) : Int) = (k : Int) + 1 by omega, Int.add_mul, Int.one_mul]
    omega

/-- equal springs share evenly -/
theorem equal {k : Nat} {s : Spr} (hk : 0 < k) (hs : 0 ≤ s.n ∧ 0 ≤ s.m) {more : Int} (hm : 0 ≤ more) {x : List Int} (hx : SolveOut (List.replicate k s) ((k : Int) * s.m + more) x) : x = evenF (List.replicate k s) more := by
  have hl : (List.replicate k s).length = k := List.length_replicate
  have hw : (k : Int) * s.m + more - mins (List.replicate k s) = more := by rw [mins_rep]; omega
  rcases (show s.n = 0 ∨ 0 < s.n by omega) with h | h
  · have := hx.even (fun t ht => by rw [List.eq_of_mem_replicate ht]; exact h)
    rw [hw] at this
    exact this
  · have hb := hx.bal ⟨s, List.mem_replicate.2 ⟨by omega, rfl⟩, h⟩
    refine hb.unique (fun t ht => by rw [List.eq_of_mem_replicate ht]; exact hs.1) ⟨evenF_len _ _, by rw [evenF_sum (by omega), mins_rep], fun i t v ht hv => ?_, fun i j t r v u ht hr hv hu tn rn hlt => ?_⟩
    · have h1 := evenF_get _ more ht
      rw [hv] at h1
      have h2 : t = s := List.eq_of_mem_replicate (List.mem_of_getElem? ht)
      subst h2
      have h3 : 0 ≤ more / ((List.replicate k t).length : Int) := Int.ediv_nonneg hm (by omega)
      have h4 : v = t.m + more / ((List.replicate k t).length : Int) + if (i : Int) < more % ((List.replicate k t).length : Int) then 1 else 0 := Option.some.inj h1
      exact ⟨by rw [h4]; split <;> omega, fun e => by omega⟩
    · have h1 := evenF_get _ more ht
      have h1' := evenF_get _ more hr
      rw [hv] at h1
      rw [hu] at h1'
      have h2 : t = s := List.eq_of_mem_replicate (List.mem_of_getElem? ht)
      have h2' : r = s := List.eq_of_mem_replicate (List.mem_of_getElem? hr)
      subst h2
      subst h2'
      have h4 := Option.some.inj h1
      have h5 := Option.some.inj h1'
      rcases (show v < u + 1 ∨ (v = u + 1 ∧ i ≤ j) by
        rw [h4, h5]
        split <;> split <;> omega) with h6 | ⟨h6, h7⟩
      · exact .inl (Int.mul_lt_mul_of_pos_right h6 tn)
      · exact .inr ⟨by rw [h6], h7⟩

/-- the solution for the total at a step -/
theorem atStep {l : List Spr} (hn : ∀ s ∈ l, 0 ≤ s.n ∧ 0 ≤ s.m) {s : Spr} (hs : s ∈ l) (h0 : 0 < s.n) {p q : Int} (hq : 1 ≤ q) {x : List Int} (hx : SolveOut l (lens l p q) x) : x = l.map fun t => lenF t p q :=
  (hx.bal ⟨s, hs, h0⟩).unique (fun t ht => (hn t ht).1) (Bal.atStep hn hq)

end Go.Proofs.Ytajkmlejklgbbaa
