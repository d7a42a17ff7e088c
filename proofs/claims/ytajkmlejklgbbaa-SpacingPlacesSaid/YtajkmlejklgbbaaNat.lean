/- The natural distance: the program's function and the law's own. -/
import Derived.Test.YtajkmlejklgbbaaBase
namespace Go.Proofs.Ytajkmlejklgbbaa
open Go.RowKit

def natR (t s n : Int) : Int := if 0 < s ∧ 2 * s ≤ t then natR t (2 * s) (n + 48) else n + 48 * (t - s) / s
termination_by (t - s).toNat
decreasing_by omega

def nat (t s : Int) : Int := if t < s then 96 * t / s else natR t s 96

theorem natR_go (t s n : Int) (h : 0 < s) (h2 : 2 * s ≤ t) : natR t s n = natR t (2 * s) (n + 48) := by
  rw [natR, if_pos ⟨h, h2⟩]
theorem natR_end (t s n : Int) (h2 : ¬ 2 * s ≤ t) : natR t s n = n + 48 * (t - s) / s := by
  rw [natR, if_neg (fun h => h2 h.2)]

set_option maxHeartbeats 400000 in
theorem natural_any (t s : Int) (w : World) (h0 : 0 ≤ t) (h1 : t ≤ 15482880) (h2 : 1 ≤ s) (h3 : s ≤ 15482880) :
    Calls Try.prog 32 #[.int .i64 t, .int .i64 s] w fun e w' => e = .returned (.int .i64 (nat t s)) ∧ w = w' := by
  by_cases hts : t < s
  · go_enter Try.func32, Try.ntmps32
    go_wp2
    go_ret
    exact ⟨ret_int (by rw [nat, if_pos hts]), rfl⟩
  · go_enter Try.func32, Try.ntmps32
    go_wp2
    go_loop [1, 5] (fun a b => ∃ (x n : Int), a = .int .i64 x ∧ b = .int .i64 n ∧ 1 ≤ x ∧ x ≤ t ∧ 96 ≤ n ∧ n ≤ 96 + 48 * x ∧ natR t x n = natR t s 96)
      (fun a _ => (t - intOf a).toNat)
    case atStart => exact ⟨s, 96, rfl, rfl, by omega, by omega, by omega, by omega, rfl⟩
    case round =>
      obtain ⟨x, n, rfl, rfl, hx, hxt, hn, hn2, he⟩ := hrel
      have HE := hide he
      clear he
      have q1 : 0 ≤ 48 * (t - x) / x := Int.ediv_nonneg (by omega) (by omega)
      have q2 : 48 * (t - x) / x ≤ 48 * (t - x) := Int.ediv_le_self _ (by omega)
      go_wp2
      · go_round
        case rel => exact ⟨2 * x, n + 48, rfl, rfl, by omega, by omega, by omega, by omega, by rw [← HE.out]; exact (natR_go t x n (by omega) (by omega)).symm⟩
        case measure => simp [intOf]; omega
      · go_ret
        exact ⟨ret_int (by rw [nat, if_neg (by omega), ← HE.out]; exact (natR_end t x n (by omega)).symm), rfl⟩

set_option maxHeartbeats 400000 in
theorem lnatural_any (t s : Int) (w : World) (h0 : 0 ≤ t) (h1 : t ≤ 15482880) (h2 : 1 ≤ s) (h3 : s ≤ 15482880) :
    Calls Try.prog 15 #[.int .i64 t, .int .i64 s] w fun e w' => e = .returned (.int .i64 (nat t s)) ∧ w = w' := by
  by_cases hts : t < s
  · go_enter Try.func15, Try.ntmps15
    go_wp2
    go_ret
    exact ⟨ret_int (by rw [nat, if_pos hts]), rfl⟩
  · go_enter Try.func15, Try.ntmps15
    go_wp2
    go_loop [1, 5] (fun a b => ∃ (x n : Int), a = .int .i64 x ∧ b = .int .i64 n ∧ 1 ≤ x ∧ x ≤ t ∧ 96 ≤ n ∧ n ≤ 96 + 48 * x ∧ natR t x n = natR t s 96)
      (fun a _ => (t - intOf a).toNat)
    case atStart => exact ⟨s, 96, rfl, rfl, by omega, by omega, by omega, by omega, rfl⟩
    case round =>
      obtain ⟨x, n, rfl, rfl, hx, hxt, hn, hn2, he⟩ := hrel
      have HE := hide he
      clear he
      have q1 : 0 ≤ 48 * (t - x) / x := Int.ediv_nonneg (by omega) (by omega)
      have q2 : 48 * (t - x) / x ≤ 48 * (t - x) := Int.ediv_le_self _ (by omega)
      go_wp2
      · go_round
        case rel => exact ⟨2 * x, n + 48, rfl, rfl, by omega, by omega, by omega, by omega, by rw [← HE.out]; exact (natR_go t x n (by omega) (by omega)).symm⟩
        case measure => simp [intOf]; omega
      · go_ret
        exact ⟨ret_int (by rw [nat, if_neg (by omega), ← HE.out]; exact (natR_end t x n (by omega)).symm), rfl⟩

set_option maxHeartbeats 400000 in
theorem Natural_ok (t s : Int) (w : World) (h0 : 0 ≤ t) (h1 : t ≤ 15482880) (h2 : 1 ≤ s) (h3 : s ≤ 15482880) :
    Calls Try.prog 13 #[.int .i64 t, .int .i64 s] w fun e w' => e = .returned (.tuple #[.int .i64 (nat t s), .int .i64 0]) ∧ w = w' := by
  go_enter Try.func13, Try.ntmps13
  go_wp2_with (first | (go_at_call 32; refine (natural_any _ _ _ (by omega) (by omega) (by omega) (by omega)).mono ?_; rintro e w' ⟨rfl, rfl⟩) | go_in)
  go_ret2
  exact ⟨rfl, rfl⟩

set_option maxHeartbeats 400000 in
theorem Natural_bad (t s : Int) (w : World) (h : t < 0 ∨ 15482880 < t ∨ s < 1 ∨ 15482880 < s) :
    Calls Try.prog 13 #[.int .i64 t, .int .i64 s] w fun e w' => e = .returned (.tuple #[.int .i64 0, .int .i64 2]) ∧ w = w' := by
  go_enter Try.func13, Try.ntmps13
  go_wp2_with (first | (go_at_call 32; fail) | go_in)
  all_goals
    first
    | (go_ret2; exact ⟨rfl, rfl⟩)
    | (exfalso; simp only [Bool.not_eq_false', decide_eq_true_eq] at *; omega)

end Go.Proofs.Ytajkmlejklgbbaa
