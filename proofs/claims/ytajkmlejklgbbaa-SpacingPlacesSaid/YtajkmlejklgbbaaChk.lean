/- spacing.Check and the law's own check. -/
import Derived.Test.YtajkmlejklgbbaaCol
namespace Go.Proofs.Ytajkmlejklgbbaa
open Go.RowKit

theorem colErr_bad (l : List Col) {c : Col} (hl : ¬ 4096 < l.length) (h : c ∈ l) (hc : ¬ c.ok) : colErr l = 2 := by
  rw [colErr, if_neg hl, if_neg (fun hh => hc (hh c h))]
theorem colErr_ok (l : List Col) (hl : ¬ 4096 < l.length) (h : ∀ j c, j < l.length → l[j]? = some c → c.ok) : colErr l = 0 := by
  rw [colErr, if_neg hl, if_pos]
  intro c hc
  obtain ⟨j, hj⟩ := List.getElem?_of_mem hc
  exact h j c (List.getElem?_eq_some_iff.1 hj).1 hj
theorem Col.nok_of {c : Col} (h : ¬ c.ok) : c.l < 0 ∨ 65536 < c.l ∨ c.r < 0 ∨ 65536 < c.r ∨ c.t < 0 ∨ 15482880 < c.t := by
  unfold Col.ok at h; omega
theorem Col.ok_of {c : Col} (h : c.ok) : 0 ≤ c.l ∧ c.l ≤ 65536 ∧ 0 ≤ c.r ∧ c.r ≤ 65536 ∧ 0 ≤ c.t ∧ c.t ≤ 15482880 := h

set_option maxHeartbeats 400000 in
theorem check_any (A : Option Addr) (n c : Nat) (l : List Col) (w : World) (hn : n = l.length) (hm : n ≤ 9223372036854775807) (h : Rds w w.heap.size A (cols l)) :
    Calls Try.prog 20 #[.slice A n c] w fun e w' => e = .returned (.int .i64 (colErr l)) ∧ Below w.heap.size w w' := by
  have HN := hide hn
  clear hn
  by_cases hlong : 4096 < n
  · go_enter Try.func20, Try.ntmps20
    go_wp2
    go_ret
    exact ⟨ret_int (by rw [colErr, if_pos (by have := HN.out; omega)]), Below.refl _ _⟩
  · go_enter Try.func20, Try.ntmps20
    go_wp2
    go_loopw [10] (fun i wr => ∃ k : Nat, k ≤ n ∧ i = .int .i64 k ∧ (∀ j c, j < k → l[j]? = some c → c.ok) ∧ Below w.heap.size w wr) (fun i _ => n - (intOf i).toNat)
    case atStart => exact ⟨0, Nat.zero_le _, rfl, fun j c hj => absurd hj (by omega), Below.refl _ _⟩
    case round =>
      obtain ⟨k, hk, rfl, hok, hb⟩ := hrel
      by_cases hlt : k < n
      · obtain ⟨c, hc⟩ : ∃ c, l[k]? = some c := ⟨_, List.getElem?_eq_getElem (by have := HN.out; omega)⟩
        obtain ⟨b, off, rfl, hbB, c0, c1, c2⟩ := (h.below hb).col hc
        have HC := hide hc
        have HOK := hide hok
        have HB := hide hb
        clear hc hok h hb
        by_cases hco : c.ok
        · obtain ⟨g0, g1, g2, g3, g4, g5⟩ := Col.ok_of hco
          go_wp2
          go_roundw
          case rel =>
            refine ⟨k + 1, by omega, by go_num, ?_, ?_⟩
            · intro j c' hj hc'
              by_cases hjk : j = k
              · subst hjk; rw [HC.out] at hc'; cases hc'; exact hco
              · exact HOK.out j c' (by omega) hc'
            · exact HB.out.alloc HB.out.size _
          case measure => simp [intOf]; omega
        · have hne := colErr_bad l (by have := HN.out; omega) (List.mem_of_getElem? HC.out) hco
          have HE := hide hne
          have hcc := Col.nok_of hco
          clear hne hco
          go_wp2
          all_goals
            first
            | (go_ret; exact ⟨ret_int HE.out.symm, HB.out.alloc HB.out.size _⟩)
            | (exfalso; simp only [Bool.not_eq_false', decide_eq_true_eq] at *; omega)
      · go_wp2
        go_ret
        exact ⟨ret_int (colErr_ok l (by have := HN.out; omega) (by have := HN.out; intro j c hj hc; exact hok j c (by omega) hc)).symm, hb⟩

set_option maxHeartbeats 400000 in
theorem lcheck_any (A : Option Addr) (n c : Nat) (l : List Col) (w : World) (hn : n = l.length) (hm : n ≤ 9223372036854775807) (h : Rds w w.heap.size A (cols l)) :
    Calls Try.prog 17 #[.slice A n c] w fun e w' => e = .returned (.int .i64 (colErr l)) ∧ w = w' := by
  have HN := hide hn
  clear hn
  by_cases hlong : 4096 < n
  · go_enter Try.func17, Try.ntmps17
    go_wp2
    go_ret
    exact ⟨ret_int (by rw [colErr, if_pos (by have := HN.out; omega)]), rfl⟩
  · go_enter Try.func17, Try.ntmps17
    go_wp2
    go_loop [3] (fun i => ∃ k : Nat, k ≤ n ∧ i = .int .i64 k ∧ (∀ j c, j < k → l[j]? = some c → c.ok)) (fun i => n - (intOf i).toNat)
    case atStart => exact ⟨0, Nat.zero_le _, rfl, fun j c hj => absurd hj (by omega)⟩
    case round =>
      obtain ⟨k, hk, rfl, hok⟩ := hrel
      by_cases hlt : k < n
      · obtain ⟨c, hc⟩ : ∃ c, l[k]? = some c := ⟨_, List.getElem?_eq_getElem (by have := HN.out; omega)⟩
        obtain ⟨b, off, rfl, hbB, c0, c1, c2⟩ := h.col hc
        have HC := hide hc
        have HOK := hide hok
        clear hc hok h
        by_cases hco : c.ok
        · obtain ⟨g0, g1, g2, g3, g4, g5⟩ := Col.ok_of hco
          go_wp2
          go_round
          case rel =>
            refine ⟨k + 1, by omega, by go_num, ?_⟩
            intro j c' hj hc'
            by_cases hjk : j = k
            · subst hjk; rw [HC.out] at hc'; cases hc'; exact hco
            · exact HOK.out j c' (by omega) hc'
          case measure => simp [intOf]; omega
        · have hne := colErr_bad l (by have := HN.out; omega) (List.mem_of_getElem? HC.out) hco
          have HE := hide hne
          have hcc := Col.nok_of hco
          clear hne hco
          go_wp2
          all_goals
            first
            | (go_ret; exact ⟨ret_int HE.out.symm, rfl⟩)
            | (exfalso; simp only [Bool.not_eq_false', decide_eq_true_eq] at *; omega)
      · go_wp2
        go_ret
        exact ⟨ret_int (colErr_ok l (by have := HN.out; omega) (by have := HN.out; intro j c hj hc; exact hok j c (by omega) hc)).symm, rfl⟩

end Go.Proofs.Ytajkmlejklgbbaa
