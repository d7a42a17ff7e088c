/- The natural distance: plain laws. -/
import Derived.Test.YtajkmlejklgbbaaNat
namespace Go.Proofs.Ytajkmlejklgbbaa

theorem natR_ind {motive : Int → Int → Int → Prop} (stop : ∀ t s n, 0 < s → s ≤ t → ¬ 2 * s ≤ t → motive t s n) (step : ∀ t s n, 0 < s → 2 * s ≤ t → motive t (2 * s) (n + 48) → motive t s n)
    (t s n : Int) (h : 0 < s) (h' : s ≤ t) : motive t s n := by
  obtain ⟨k, hk⟩ : ∃ k : Nat, k = (t - s).toNat := ⟨_, rfl⟩
  induction k using Nat.strongRecOn generalizing s n with
  | _ k ih =>
    by_cases h2 : 2 * s ≤ t
    · exact step t s n h h2 (ih (t - 2 * s).toNat (by omega) (2 * s) (n + 48) (by omega) h2 rfl)
    · exact stop t s n h h' h2

theorem natR_lo (t s n : Int) (h : 0 < s) (h' : s ≤ t) : n ≤ natR t s n := by
  refine natR_ind (motive := fun t s n => n ≤ natR t s n) ?_ ?_ t s n h h'
  · intro t s n h h1 h2
    rw [natR_end t s n h2]
    have : 0 ≤ 48 * (t - s) / s := Int.ediv_nonneg (by omega) (by omega)
    omega
  · intro t s n h h2 ih
    rw [natR_go t s n h h2]
    omega
theorem natR_hi (t s n : Int) (h : 0 < s) (h' : s ≤ t) : natR t s n ≤ n + 48 * (t - s) := by
  refine natR_ind (motive := fun t s n => natR t s n ≤ n + 48 * (t - s)) ?_ ?_ t s n h h'
  · intro t s n h h1 h2
    rw [natR_end t s n h2]
    have : 48 * (t - s) / s ≤ 48 * (t - s) := Int.ediv_le_self _ (by omega)
    omega
  · intro t s n h h2 ih
    rw [natR_go t s n h h2]
    omega
theorem natR_add (t s n c : Int) (h : 0 < s) (h' : s ≤ t) : natR t s (n + c) = natR t s n + c := by
  refine natR_ind (motive := fun t s n => natR t s (n + c) = natR t s n + c) ?_ ?_ t s n h h'
  · intro t s n h h1 h2
    rw [natR_end t s n h2, natR_end t s _ h2]
    omega
  · intro t s n h h2 ih
    rw [natR_go t s n h h2, natR_go t s _ h h2, ← ih]
    congr 1
    omega
theorem natR_scale (t s n : Int) (h : 0 < s) (h' : s ≤ t) : natR (2 * t) (2 * s) n = natR t s n := by
  refine natR_ind (motive := fun t s n => natR (2 * t) (2 * s) n = natR t s n) ?_ ?_ t s n h h'
  · intro t s n h h1 h2
    rw [natR_end t s n h2, natR_end (2 * t) (2 * s) n (by omega), show 48 * (2 * t - 2 * s) = 2 * (48 * (t - s)) by omega, Int.mul_ediv_mul_of_pos _ _ (by omega)]
  · intro t s n h h2 ih
    rw [natR_go t s n h h2, natR_go (2 * t) (2 * s) n (by omega) (by omega), ih]
theorem nat_double (t s : Int) (h : 0 < s) (h' : s ≤ t) : nat (2 * t) s = nat t s + 48 := by
  rw [nat, nat, if_neg (by omega), if_neg (by omega), natR_go (2 * t) s 96 h (by omega), natR_scale t s _ h h', natR_add t s 96 48 h h']
theorem natR_mono (t t' s n : Int) (h : 0 < s) (h' : s ≤ t) (hle : t ≤ t') : natR t s n ≤ natR t' s n := by
  refine natR_ind (motive := fun t s n => ∀ t', t ≤ t' → natR t s n ≤ natR t' s n) ?_ ?_ t s n h h' t' hle
  · intro t s n h h1 h2 t' hle
    rw [natR_end t s n h2]
    by_cases h3 : 2 * s ≤ t'
    · rw [natR_go t' s n h h3]
      have := natR_lo t' (2 * s) (n + 48) (by omega) h3
      have h4 : 48 * (t - s) / s < 48 := Int.ediv_lt_of_lt_mul h (by omega)
      omega
    · rw [natR_end t' s n h3]
      have := Int.ediv_le_ediv h (show 48 * (t - s) ≤ 48 * (t' - s) by omega)
      omega
  · intro t s n h h2 ih t' hle
    rw [natR_go t s n h h2, natR_go t' s n h (by omega)]
    exact ih t' hle
theorem nat_mono (t t' s : Int) (h : 0 < s) (h0 : 0 ≤ t) (hle : t ≤ t') : nat t s ≤ nat t' s := by
  rw [nat, nat]
  by_cases h1 : t < s
  · rw [if_pos h1]
    by_cases h2 : t' < s
    · rw [if_pos h2]
      exact Int.ediv_le_ediv h (by omega)
    · rw [if_neg h2]
      have h3 : 96 * t / s < 96 := Int.ediv_lt_of_lt_mul h (by omega)
      have := natR_lo t' s 96 h (by omega)
      omega
  · rw [if_neg h1, if_neg (by omega)]
    exact natR_mono t t' s 96 h (by omega) hle
theorem nat_bnd (t s : Int) (h : 0 < s) (h0 : 0 ≤ t) : 0 ≤ nat t s ∧ nat t s ≤ 96 + 96 * t := by
  rw [nat]
  by_cases h1 : t < s
  · rw [if_pos h1]
    have h2 : 0 ≤ 96 * t / s := Int.ediv_nonneg (by omega) (by omega)
    have h3 : 96 * t / s ≤ 96 * t := Int.ediv_le_self _ (by omega)
    omega
  · rw [if_neg h1]
    have h2 := natR_lo t s 96 h (by omega)
    have h3 := natR_hi t s 96 h (by omega)
    omega

end Go.Proofs.Ytajkmlejklgbbaa
