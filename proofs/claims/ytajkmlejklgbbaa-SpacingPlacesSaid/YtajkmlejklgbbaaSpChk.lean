/- spring.Check. -/
import Derived.Test.YtajkmlejklgbbaaSp
namespace Go.Proofs.Ytajkmlejklgbbaa
open Go.RowKit

set_option maxHeartbeats 1000000 in
theorem spCheck_any (A : Option Addr) (n c : Nat) (l : List Spr) (w : World) (hn : n = l.length) (hm : n ≤ 9223372036854775807) (h : Rds w w.heap.size A (sprs l)) :
    Calls Try.prog 29 #[.slice A n c] w fun e w' => e = .returned (.int .i64 (spErr l)) ∧ Below w.heap.size w w' := by
  have HN := hide hn
  clear hn
  by_cases hlong : 8192 < n
  · go_enter Try.func29, Try.ntmps29
    go_wp2
    go_ret
    exact ⟨ret_int (by rw [spErr, if_pos (by have := HN.out; omega)]), Below.refl _ _⟩
  · go_enter Try.func29, Try.ntmps29
    go_wp2
    go_loopg [10] n (fun gk i wr => ∃ k : Nat, k ≤ n ∧ i = .int .i64 k ∧ n ≤ gk + k ∧ (∀ j s, j < k → l[j]? = some s → s.ok) ∧ Below w.heap.size w wr)
    case atStart => exact ⟨0, Nat.zero_le _, rfl, by omega, fun j c hj => absurd hj (by omega), Below.refl _ _⟩
    case round =>
      obtain ⟨k, hk, rfl, hgk, hok, hb⟩ := hrel
      by_cases hlt : k < n
      · obtain ⟨x, hx⟩ : ∃ x, l[k]? = some x := ⟨_, List.getElem?_eq_getElem (by have := HN.out; omega)⟩
        obtain ⟨b, off, rfl, hbB, c0, c1⟩ := (h.below hb).spr hx
        have HX := hide hx
        have HOK := hide hok
        have HB := hide hb
        clear hx hok h hb
        by_cases hxo : x.ok
        · obtain ⟨g0, g1, g2, g3⟩ := Spr.ok_of hxo
          go_wp2
          go_roundg (gk - 1)
          case measure => omega
          case rel =>
            refine ⟨k + 1, by omega, by go_num, by omega, ?_, HB.out.alloc HB.out.size _⟩
            intro j c' hj hc'
            by_cases hjk : j = k
            · subst hjk; rw [HX.out] at hc'; cases hc'; exact hxo
            · exact HOK.out j c' (by omega) hc'
        · have hne := spErr_bad l (by have := HN.out; omega) (List.mem_of_getElem? HX.out) hxo
          have HE := hide hne
          have hcc := Spr.nok_of hxo
          clear hne hxo
          go_wp2
          all_goals
            first
            | (go_ret; exact ⟨ret_int HE.out.symm, HB.out.alloc HB.out.size _⟩)
            | (exfalso; simp only [Bool.not_eq_false', decide_eq_true_eq] at *; omega)
      · go_wp2
        go_ret
        exact ⟨ret_int (spErr_ok l (by have := HN.out; omega) (by have := HN.out; intro j c hj hc; exact hok j c (by omega) hc)).symm, hb⟩

end Go.Proofs.Ytajkmlejklgbbaa
