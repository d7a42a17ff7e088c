/- The law SpacingNatural, walked. -/
import Derived.Test.YtajkmlejklgbbaaKnown
import Derived.Test.YtajkmlejklgbbaaNatPlain
namespace Go.Proofs.Ytajkmlejklgbbaa
open Go.RowKit

set_option maxRecDepth 100000 in
set_option maxHeartbeats 1000000 in
theorem natural_bad (t s m : Int) (w : World) (h : t < 0 ∨ 15482880 < t ∨ s < 1 ∨ 15482880 < s) :
    Calls Try.prog 3 #[.int .i64 t, .int .i64 s, .int .u16 m] w fun e w' => e = .returned (.bool true) ∧ Below w.heap.size w w' := by
  go_enter Try.func3, Try.ntmps3
  go_wp2_with fail
  refine (Natural_bad t s _ h).mono ?_
  rintro e w1 ⟨rfl, rfl⟩
  go_wp2_with fail
  refine (known_any _).mono ?_
  rintro e w1 ⟨rfl, hb⟩
  go_wp2_with fail
  all_goals
    first
    | (go_ret; exact ⟨rfl, hb⟩)
    | (exfalso; simp only [Bool.not_eq_false', decide_eq_true_eq] at *; omega)
    | go_goals

set_option maxRecDepth 100000 in
set_option maxHeartbeats 1000000 in
theorem natural_good (t s m : Int) (w : World) (h0 : 0 ≤ t) (h1 : t ≤ 15482880) (h2 : 1 ≤ s) (h3 : s ≤ 15482880) (m0 : 0 ≤ m) (m1 : m ≤ 65535) :
    Calls Try.prog 3 #[.int .i64 t, .int .i64 s, .int .u16 m] w fun e w' => e = .returned (.bool true) ∧ Below w.heap.size w w' := by
  obtain ⟨b0, b1⟩ := nat_bnd t s (by omega) h0
  have hm := nat_mono t (t + m) s (by omega) h0 (by omega)
  have hd := fun h => nat_double t s (by omega) h
  have HD := hide hd
  have HM := hide hm
  clear hd hm
  rcases (show (t < s ∧ 15482880 < t + m) ∨ (t < s ∧ t + m ≤ 15482880) ∨ (s ≤ t ∧ 15482880 < 2 * t ∧ 15482880 < t + m) ∨ (s ≤ t ∧ 15482880 < 2 * t ∧ t + m ≤ 15482880) ∨ (s ≤ t ∧ 2 * t ≤ 15482880 ∧ t + m ≤ 15482880) by omega)
    with ⟨hts, htm⟩ | ⟨hts, htm⟩ | ⟨hts, hts2, htm⟩ | ⟨hts, hts2, htm⟩ | ⟨hts, hts2, htm⟩
  all_goals
    go_enter Try.func3, Try.ntmps3
    go_wp2_with fail
    refine (Natural_ok t s _ h0 h1 h2 h3).mono ?_
    rintro e w1 ⟨rfl, rfl⟩
    go_wp2_with fail
    refine (known_any _).mono ?_
    rintro e w1 ⟨rfl, hb⟩
    go_wp2_with fail
    refine (lnatural_any t s _ h0 h1 h2 h3).mono ?_
    rintro e w2 ⟨rfl, rfl⟩
    go_wp2_with fail
  · go_ret
    exact ⟨rfl, hb⟩
  · refine (Natural_ok (t + m) s _ (by omega) (by omega) h2 h3).mono ?_
    rintro e w2 ⟨rfl, rfl⟩
    have hm := HM.out
    go_wp2_with fail
    go_ret
    exact ⟨rfl, hb⟩
  · go_ret
    exact ⟨rfl, hb⟩
  · refine (Natural_ok (t + m) s _ (by omega) (by omega) h2 h3).mono ?_
    rintro e w2 ⟨rfl, rfl⟩
    have hm := HM.out
    go_wp2_with fail
    go_ret
    exact ⟨rfl, hb⟩
  · refine (Natural_ok (2 * t) s _ (by omega) (by omega) h2 h3).mono ?_
    rw [HD.out hts]
    rintro e w2 ⟨rfl, rfl⟩
    go_wp2_with fail
    refine (Natural_ok (t + m) s _ (by omega) (by omega) h2 h3).mono ?_
    rintro e w2 ⟨rfl, rfl⟩
    have hm := HM.out
    go_wp2_with fail
    go_ret
    exact ⟨rfl, hb⟩

theorem spacingNatural_walk (t : Int) (w0 : (Lit.int .i64 t).wf = true) (s : Int) (w1 : (Lit.int .i64 s).wf = true) (m : Int) (w2 : (Lit.int .u16 m).wf = true) (w : World) :
    Calls Try.prog 3 #[.int .i64 t, .int .i64 s, .int .u16 m] w fun e w' => e = .returned (.bool true) ∧ Below w.heap.size w w' := by
  have hm : 0 ≤ m ∧ m ≤ 65535 := by
    exact bounds_u16 w2
  by_cases h : t < 0 ∨ 15482880 < t ∨ s < 1 ∨ 15482880 < s
  · exact natural_bad t s m w h
  · exact natural_good t s m w (by omega) (by omega) (by omega) (by omega) hm.1 hm.2

end Go.Proofs.Ytajkmlejklgbbaa
