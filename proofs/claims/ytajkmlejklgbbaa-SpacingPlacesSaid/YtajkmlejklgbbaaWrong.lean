/- The law's own check of least distances. -/
import Derived.Test.YtajkmlejklgbbaaSprA
namespace Go.Proofs.Ytajkmlejklgbbaa
open Go.RowKit

def lstErr (L : List Lst) (n : Nat) : Int := if ∀ x ∈ L, x.ok n then 0 else 2
theorem lstErr_bad {L : List Lst} {n : Nat} {x : Lst} (h : x ∈ L) (hx : ¬ x.ok n) : lstErr L n = 2 := by
  rw [lstErr, if_neg (fun hh => hx (hh x h))]
theorem lstErr_ok {L : List Lst} {n : Nat} (h : ∀ j x, j < L.length → L[j]? = some x → x.ok n) : lstErr L n = 0 := by
  rw [lstErr, if_pos]
  intro x hx
  obtain ⟨j, hj⟩ := List.getElem?_of_mem hx
  exact h j x (List.getElem?_eq_some_iff.1 hj).1 hj

set_option maxHeartbeats 1000000 in
theorem wrong_any (A : Option Addr) (n c m : Nat) (L : List Lst) (w : World) (hn : n = L.length) (hm : n ≤ 9223372036854775807) (h : Rds w w.heap.size A (lsts L)) :
    Calls Try.prog 18 #[.slice A n c, .int .i64 m] w fun e w' => e = .returned (.int .i64 (lstErr L m)) ∧ Below w.heap.size w w' := by
  have HN := hide hn
  clear hn
  go_enter Try.func18, Try.ntmps18
  go_wp2
  go_loopg [9] n (fun gk i wr => ∃ k : Nat, k ≤ n ∧ i = .int .i64 k ∧ n ≤ gk + k ∧ (∀ j c, j < k → L[j]? = some c → c.ok m) ∧ Below w.heap.size w wr)
  case atStart => exact ⟨0, Nat.zero_le _, rfl, by omega, fun j c hj => absurd hj (by omega), Below.refl _ _⟩
  case round =>
    obtain ⟨k, hk, rfl, hgk, hok, hb⟩ := hrel
    by_cases hlt : k < n
    · obtain ⟨x, hx⟩ : ∃ x, L[k]? = some x := ⟨_, List.getElem?_eq_getElem (by have := HN.out; omega)⟩
      obtain ⟨b, off, rfl, hbB, c0, c1, c2⟩ := (h.below hb).lst hx
      have HX := hide hx
      have HOK := hide hok
      have HB := hide hb
      clear hx hok h hb
      by_cases hxo : x.ok m
      · obtain ⟨g0, g1, g2, g3, g4⟩ := Lst.ok_of hxo
        go_wp2
        go_roundg (gk - 1)
        case measure => omega
        case rel =>
          refine ⟨k + 1, by omega, by go_num, by omega, ?_, HB.out.alloc HB.out.size _⟩
          intro j c' hj hc'
          by_cases hjk : j = k
          · subst hjk; rw [HX.out] at hc'; cases hc'; exact hxo
          · exact HOK.out j c' (by omega) hc'
      · have hne := lstErr_bad (List.mem_of_getElem? HX.out) hxo
        have HE := hide hne
        have hcc := Lst.nok_of hxo
        clear hne hxo
        go_wp2
        all_goals
          first
          | (go_ret; exact ⟨ret_int HE.out.symm, HB.out.alloc HB.out.size _⟩)
          | (exfalso; simp only [Bool.not_eq_false', decide_eq_true_eq] at *; omega)
    · go_wp2
      go_ret
      exact ⟨ret_int (lstErr_ok (by have := HN.out; intro j c hj hc; exact hok j c (by omega) hc)).symm, hb⟩

end Go.Proofs.Ytajkmlejklgbbaa
