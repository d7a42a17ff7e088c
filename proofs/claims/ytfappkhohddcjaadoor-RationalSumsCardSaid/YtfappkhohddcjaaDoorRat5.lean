/- floor; the reference's Floor, Neg, Cmp. -/
import Derived.Test.YtfappkhohddcjaaDoorRat2
namespace Go.Proofs.YtfappkhohddcjaaDoor
open Go.RowKit

theorem floor_cases (a b : Int) (hb : 0 < b) : (0 ≤ a ∧ a.tdiv b = a / b ∧ a.tmod b = a % b ∧ a / b * b ≤ a) ∨ (a < 0 ∧ a.tmod b = 0 ∧ a.tdiv b = a / b ∧ a.tdiv b * b = a) ∨ (a < 0 ∧ a.tmod b ≠ 0 ∧ a.tdiv b = a / b + 1 ∧ a < a.tdiv b * b) := by
  rcases (show 0 ≤ a ∨ a < 0 by omega) with h | h
  · exact .inl ⟨h, Int.tdiv_eq_ediv_of_nonneg h, Int.tmod_eq_emod_of_nonneg h, Int.ediv_mul_le a (by omega)⟩
  · obtain ⟨c, rfl⟩ : ∃ c, a = -c := ⟨-a, by omega⟩
    have hc : 0 ≤ c := by omega
    have e1 : (-c).tdiv b = -(c / b) := by rw [Int.neg_tdiv, Int.tdiv_eq_ediv_of_nonneg hc]
    have e2 : (-c).tmod b = -(c % b) := by rw [Int.neg_tmod, Int.tmod_eq_emod_of_nonneg hc]
    have e3 := Int.mul_ediv_add_emod c b
    have e4 := Int.emod_nonneg c (show b ≠ 0 by omega)
    have e5 := Int.emod_lt_of_pos c hb
    rw [e1, e2]
    rcases (show c % b = 0 ∨ 0 < c % b by omega) with h0 | h0
    · refine .inr (.inl ⟨h, by omega, ?_, ?_⟩)
      · exact ((Int.ediv_emod_unique (a := -c) (b := b) (r := 0) (q := -(c / b)) hb).2 ⟨by rw [Int.mul_neg]; omega, by omega, hb⟩).1.symm
      · rw [Int.neg_mul, Int.mul_comm]; omega
    · refine .inr (.inr ⟨h, by omega, ?_, ?_⟩)
      · have := ((Int.ediv_emod_unique (a := -c) (b := b) (r := b - c % b) (q := -(c / b) - 1) hb).2 ⟨by rw [Int.mul_sub, Int.mul_neg, Int.mul_one]; omega, by omega, by omega⟩).1
        omega
      · rw [Int.neg_mul, Int.mul_comm]; omega

def bigr (n : Int) : Prop := -4611686018427387904 ≤ n ∧ n ≤ 4611686018427387904
theorem floor_bnd {a b : Int} (ha : bigr a) (hb : 0 < b) : -4611686018427387904 ≤ a / b ∧ a / b ≤ 4611686018427387904 := by
  obtain ⟨h1, h2⟩ := ha
  constructor
  · rw [Int.le_ediv_iff_mul_le hb]
    omega
  · exact Int.ediv_le_of_le_mul hb (by omega)

set_option maxHeartbeats 1000000 in
theorem floor_any (a b : Int) (w : World) (ha : bigr a) (hb : 0 < b) (hb2 : b ≤ 4611686018427387904) :
    Calls Tryd.prog 47 #[.int .i64 a, .int .i64 b] w fun e w' => e = .returned (.int .i64 (a / b)) ∧ w = w' := by
  have hbd := floor_bnd ha hb
  obtain ⟨h1, h2⟩ := ha
  obtain ⟨f, hf⟩ : ∃ f, f = a / b := ⟨_, rfl⟩
  have hb0 : ¬ b = 0 := by omega
  have hm := Int.emod_lt_of_pos a hb
  have hm0 := Int.emod_nonneg a hb0
  rw [← hf] at hbd
  rw [← hf]
  rcases floor_cases a b hb with ⟨h0, e1, e2, -⟩ | ⟨h0, e2, e1, -⟩ | ⟨h0, e2, e1, -⟩
  · rw [← hf] at e1
    obtain ⟨r, hr⟩ : ∃ r, r = a % b := ⟨_, rfl⟩
    rw [← hr] at e2 hm hm0
    have i1 : IntKind.i64.wrap f = f := IntWalk.i64_in _ (by omega)
    have i2 : IntKind.i64.wrap r = r := IntWalk.i64_in _ (by omega)
    have h3 : ¬ a < 0 := by omega
    clear hf hr
    rcases (show r = 0 ∨ ¬ r = 0 by omega) with hr0 | hr0
    · subst hr0
      go_enter Tryd.func47, Tryd.ntmps47
      go_wp2_with fail
      go_ret
      exact ⟨rfl, rfl⟩
    · have hr1 : (r != 0) = true := by simpa using hr0
      go_enter Tryd.func47, Tryd.ntmps47
      go_wp2_with fail
      go_ret
      exact ⟨rfl, rfl⟩
  · rw [← hf] at e1
    have i1 : IntKind.i64.wrap f = f := IntWalk.i64_in _ (by omega)
    clear hf
    go_enter Tryd.func47, Tryd.ntmps47
    go_wp2_with fail
    go_ret
    exact ⟨rfl, rfl⟩
  · rw [← hf] at e1
    have hfi : IntKind.i64.wrap (f + 1) = f + 1 := IntWalk.i64_in _ (by omega)
    have hfi2 : IntKind.i64.wrap (f + 1 - 1) = f := by rw [show f + 1 - 1 = f by omega]; exact IntWalk.i64_in _ (by omega)
    have hr1 : (a.tmod b != 0) = true := by simpa using e2
    obtain ⟨r, hr⟩ : ∃ r, r = a.tmod b := ⟨_, rfl⟩
    have e3 : a.tmod b = r := hr.symm
    rw [← hr] at hr1 e2
    have hrb : -b < r ∧ r < b := by
      rw [hr]
      have := Int.tmod_lt_of_pos a hb
      have := Int.lt_tmod_of_pos a hb
      omega
    have i2 : IntKind.i64.wrap r = r := IntWalk.i64_in _ (by omega)
    clear hf hr
    go_enter Tryd.func47, Tryd.ntmps47
    go_wp2_with fail
    go_ret
    exact ⟨by first | rfl | simp, rfl⟩

end Go.Proofs.YtfappkhohddcjaaDoor
