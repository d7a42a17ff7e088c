/- The law's comparison of two lists that are equal. -/
import Derived.Test.YtajkmlejklgbbaaSprA
namespace Go.Proofs.Ytajkmlejklgbbaa
open Go.RowKit

set_option maxRecDepth 100000 in
set_option maxHeartbeats 1000000 in
theorem same_true (A A' : Option Addr) (n c c' : Nat) (l : List Col) (w : World) (hn : n = l.length) (hm : n ≤ 9223372036854775807) (h : Rds w w.heap.size A (cols l)) (h' : Rds w w.heap.size A' (cols l)) :
    Calls Try.prog 23 #[.slice A n c, .slice A' n c'] w fun e w' => e = .returned (.bool true) ∧ Below w.heap.size w w' := by
  have HN := hide hn
  clear hn
  go_enter Try.func23, Try.ntmps23
  go_wp2_with fail
  go_loopg [5] n (fun gk i wr => ∃ k : Nat, k ≤ n ∧ i = .int .i64 k ∧ n ≤ gk + k ∧ Below w.heap.size w wr)
  case atStart => exact ⟨0, Nat.zero_le _, rfl, by omega, Below.refl _ _⟩
  case round =>
    obtain ⟨k, hk, rfl, hgk, hb⟩ := hrel
    by_cases hlt : k < n
    · obtain ⟨x, hx⟩ : ∃ x, l[k]? = some x := ⟨_, List.getElem?_eq_getElem (by have := HN.out; omega)⟩
      obtain ⟨b, off, rfl, hbB, c0, c1, c2⟩ := (h.below hb).col hx
      obtain ⟨b', off', rfl, hbB', d0, d1, d2⟩ := (h'.below hb).col hx
      have HB := hide hb
      clear hx hb h h'
      have i1 : (k : Int) < (n : Int) := by omega
      have i2 : (0 : Int) ≤ (k : Int) := by omega
      go_wp2_with fail
      go_quiet (fail)
      go_wp2_with fail
      go_roundg (gk - 1)
      case measure => omega
      case rel => exact ⟨k + 1, by omega, by go_num, by omega, below_drewN HB.out _⟩
    · go_wp2_with fail
      go_ret
      exact ⟨rfl, hb⟩

end Go.Proofs.Ytajkmlejklgbbaa
