/- rational: size, reduced, Of, Int, Num, Den, Neg; the reference's magnitude, divisor, Of, Neg. -/
import Derived.Test.YtfappkhohddcjaaDoorTake
namespace Go.Proofs.YtfappkhohddcjaaDoor
open Go.RowKit

/-- a fraction with its error: numerator, denominator, error -/
structure Fr where
  n : Int
  d : Int
  e : Int
def redF (neg : Bool) (a b : Nat) : Fr :=
  if 1073741824 < a / Nat.gcd a b ∨ 1073741824 < b / Nat.gcd a b then ⟨0, 1, 14⟩ else ⟨if neg then -((a / Nat.gcd a b : Nat) : Int) else ((a / Nat.gcd a b : Nat) : Int), ((b / Nat.gcd a b : Nat) : Int), 0⟩
def ofF (n d : Int) : Fr := if d = 0 then ⟨0, 1, 15⟩ else redF (decide (n < 0) != decide (d < 0)) n.natAbs d.natAbs
def i64r (n : Int) : Prop := -9223372036854775808 ≤ n ∧ n ≤ 9223372036854775807

set_option maxHeartbeats 1000000 in
theorem size_any (n : Int) (w : World) (h : i64r n) : Calls Tryd.prog 55 #[.int .i64 n] w fun e w' => e = .returned (.int .u64 (n.natAbs : Int)) ∧ w = w' := by
  obtain ⟨h1, h2⟩ := h
  rcases (show n < 0 ∨ 0 ≤ n by omega) with h0 | h0
  · have i1 : IntKind.u64.wrap n = n + 18446744073709551616 := by
      show n % 18446744073709551616 = _
      omega
    have i2 : IntKind.u64.wrap (-(n + 18446744073709551616)) = -n := by
      show (-(n + 18446744073709551616)) % 18446744073709551616 = _
      omega
    have HV := hide (show ((n.natAbs : Nat) : Int) = -n by omega)
    go_enter Tryd.func55, Tryd.ntmps55
    go_wp2_with fail
    go_ret
    exact ⟨by rw [HV.out]; rfl, rfl⟩
  · have i1 : IntKind.u64.wrap n = n := by
      show n % 18446744073709551616 = _
      omega
    have HV := hide (show ((n.natAbs : Nat) : Int) = n by omega)
    go_enter Tryd.func55, Tryd.ntmps55
    go_wp2_with fail
    go_ret
    exact ⟨by rw [HV.out]; rfl, rfl⟩

set_option maxHeartbeats 1000000 in
theorem magn_any (n : Int) (w : World) (h : i64r n) : Calls Tryd.prog 45 #[.int .i64 n] w fun e w' => e = .returned (.int .u64 (n.natAbs : Int)) ∧ w = w' := by
  obtain ⟨h1, h2⟩ := h
  rcases (show n < 0 ∨ 0 ≤ n by omega) with h0 | h0
  · have i1 : IntKind.u64.wrap n = n + 18446744073709551616 := by
      show n % 18446744073709551616 = _
      omega
    have i2 : IntKind.u64.wrap (-(n + 18446744073709551616)) = -n := by
      show (-(n + 18446744073709551616)) % 18446744073709551616 = _
      omega
    have HV := hide (show ((n.natAbs : Nat) : Int) = -n by omega)
    go_enter Tryd.func45, Tryd.ntmps45
    go_wp2_with fail
    go_ret
    exact ⟨by rw [HV.out]; rfl, rfl⟩
  · have i1 : IntKind.u64.wrap n = n := by
      show n % 18446744073709551616 = _
      omega
    have HV := hide (show ((n.natAbs : Nat) : Int) = n by omega)
    go_enter Tryd.func45, Tryd.ntmps45
    go_wp2_with fail
    go_ret
    exact ⟨by rw [HV.out]; rfl, rfl⟩

theorem u64_in (x : Nat) (h : x ≤ 9223372036854775808) : IntKind.u64.wrap (x : Int) = (x : Int) := by
  show (x : Int) % 18446744073709551616 = _
  omega

set_option maxHeartbeats 1000000 in
theorem rdiv_any (a b : Nat) (w : World) (ha : a ≤ 9223372036854775808) (hb : b ≤ 9223372036854775808) :
    Calls Tryd.prog 46 #[.int .u64 a, .int .u64 b] w fun e w' => e = .returned (.int .u64 (Nat.gcd a b : Nat)) ∧ Below w.heap.size w w' := by
  go_enter Tryd.func46, Tryd.ntmps46
  go_wp2_with fail
  go_loopg [0, 1] b (fun gl s0 s1 wr => ∃ x y : Nat, s0 = .int .u64 x ∧ s1 = .int .u64 y ∧ y ≤ gl ∧ x ≤ 9223372036854775808 ∧ y ≤ 9223372036854775808 ∧ Hid (Nat.gcd x y = Nat.gcd a b) ∧ Hid (Below w.heap.size w wr))
  case atStart => exact ⟨a, b, rfl, rfl, Nat.le_refl _, ha, hb, hide rfl, Below.refl _ _⟩
  case round =>
    obtain ⟨x, y, rfl, rfl, hgl, hx, hy, HG, HB⟩ := hrel
    by_cases hy0 : y = 0
    · subst hy0
      have HA := hide (show x = Nat.gcd a b by have := HG.out; rwa [Nat.gcd_zero_right] at this)
      go_wp2_with fail
      go_ret
      exact ⟨by rw [← HA.out]; rfl, HB.out⟩
    · have hyp : (0 : Int) < (y : Int) := by omega
      have hy0' : ¬ (y : Int) = 0 := by omega
      have hlt2 : x % y < y := Nat.mod_lt _ (by omega)
      have e1 : (x : Int).tmod (y : Int) = ((x % y : Nat) : Int) := by rw [Int.tmod_eq_emod_of_nonneg (by omega)]; exact (Int.natCast_emod x y).symm
      have HG2 := hide (show Nat.gcd y (x % y) = Nat.gcd a b by rw [← HG.out, Nat.gcd_comm y, ← Nat.gcd_rec, Nat.gcd_comm])
      obtain ⟨r, hr⟩ : ∃ r, r = x % y := ⟨_, rfl⟩
      rw [← hr] at hlt2 e1 HG2
      have e2 := u64_in r (by omega)
      clear hr HG
      go_wp2_with fail
      go_quiet (fail)
      go_wp2_with fail
      go_roundg (y - 1)
      case measure => omega
      case rel => exact ⟨y, r, rfl, rfl, by omega, by omega, by omega, HG2, hide (below_drewN HB.out _)⟩

end Go.Proofs.YtfappkhohddcjaaDoor
