/- spring.sum at its two functions; minimal, total, Minimal, Natural. -/
import Derived.Test.YtajkmlejklgbbaaSpSum
namespace Go.Proofs.Ytajkmlejklgbbaa
open Go.RowKit

set_option maxHeartbeats 1000000 in
theorem sum_min (A : Option Addr) (n c : Nat) (l : List Spr) (w : World) (hn : n = l.length) (hm : n ≤ 8192) (h : Rds w w.heap.size A (sprs l)) (hok : ∀ s ∈ l, s.ok) :
    Calls Try.prog 53 #[.slice A n c, Value.func (Fn.func 54) #[] #[]] w fun e w' => e = .returned (.int .i64 (mins l)) ∧ Below w.heap.size w w' := by
  have HN := hide hn
  have HOK := hide hok
  clear hn hok
  go_enter Try.func53, Try.ntmps53
  go_wp2_with fail
  go_loopg [5, 10] n (fun gk m i wr => ∃ k : Nat, k ≤ n ∧ i = .int .i64 k ∧ n ≤ gk + k ∧ m = .int .i64 (mins (l.take k)) ∧ Below w.heap.size w wr)
  case atStart => exact ⟨0, Nat.zero_le _, rfl, by omega, rfl, Below.refl _ _⟩
  case round =>
    obtain ⟨k, hk, rfl, hgk, rfl, hb⟩ := hrel
    have hbd := mins_bnd (l.take k) fun s hs => HOK.out s (List.mem_of_mem_take hs)
    have hlk : (l.take k).length ≤ k := List.length_take_le _ _
    by_cases hlt : k < n
    · obtain ⟨x, hx⟩ : ∃ x, l[k]? = some x := ⟨_, List.getElem?_eq_getElem (by have := HN.out; omega)⟩
      obtain ⟨b, off, rfl, hbB, c0, c1⟩ := (h.below hb).spr hx
      obtain ⟨g0, g1, g2, g3⟩ := Spr.ok_of (HOK.out x (List.mem_of_getElem? hx))
      have hs : mins (l.take (k + 1)) = mins (l.take k) + x.m := by rw [List.take_add_one, hx, Option.toList_some, mins_snoc]
      have HS := hide hs
      have HB := hide hb
      clear hx h hb hs
      obtain ⟨m, hm2⟩ : ∃ m, m = mins (l.take k) := ⟨_, rfl⟩
      rw [← hm2] at HS hbd
      rw [← hm2]
      clear hm2
      go_wp2_with fail
      refine (min1_any x _).mono ?_
      rintro e w1 ⟨rfl, hb1⟩
      have hb2 := (HB.out.alloc HB.out.size _).trans (hb1.mono (by have := HB.out.size; simp; omega))
      clear hb1
      go_wp2_with fail
      go_roundg (gk - 1)
      case measure => omega
      case rel => exact ⟨k + 1, by omega, by go_num, by omega, by rw [HS.out], hb2⟩
    · have hall : l.take k = l := List.take_of_length_le (by have := HN.out; omega)
      rw [hall]
      clear hall
      go_wp2_with fail
      go_ret
      exact ⟨rfl, hb⟩

set_option maxHeartbeats 1000000 in
theorem sum_tot (A : Option Addr) (n c : Nat) (l : List Spr) (num den : Int) (bf : Nat) (w : World) (hn : n = l.length) (hm : n ≤ 8192) (h : Rds w w.heap.size A (sprs l)) (hok : ∀ s ∈ l, s.ok)
    (hbf : bf < w.heap.size) (f0 : w.cell? ⟨bf, 0, none⟩ = some (.int .i64 num)) (f1 : w.cell? ⟨bf, 1, none⟩ = some (.int .i64 den)) (h0 : 0 ≤ num) (h1 : num ≤ 268435456) (h2 : 1 ≤ den) (h3 : den ≤ 268435456) :
    Calls Try.prog 53 #[.slice A n c, Value.func (Fn.func 57) #[] #[.pointer (some ⟨bf, 0, none⟩)]] w fun e w' => e = .returned (.int .i64 (lens l num den)) ∧ Below w.heap.size w w' := by
  have HN := hide hn
  have HOK := hide hok
  have F0 := hide f0
  have F1 := hide f1
  clear hn hok f0 f1
  go_enter Try.func53, Try.ntmps53
  go_wp2_with fail
  go_loopg [5, 10] n (fun gk m i wr => ∃ k : Nat, k ≤ n ∧ i = .int .i64 k ∧ n ≤ gk + k ∧ m = .int .i64 (lens (l.take k) num den) ∧ Below w.heap.size w wr)
  case atStart => exact ⟨0, Nat.zero_le _, rfl, by omega, rfl, Below.refl _ _⟩
  case round =>
    obtain ⟨k, hk, rfl, hgk, rfl, hb⟩ := hrel
    have hbd := lens_bnd (l.take k) num den (fun s hs => HOK.out s (List.mem_of_mem_take hs)) h0 h1 h2
    have hlk : (l.take k).length ≤ k := List.length_take_le _ _
    by_cases hlt : k < n
    · obtain ⟨x, hx⟩ : ∃ x, l[k]? = some x := ⟨_, List.getElem?_eq_getElem (by have := HN.out; omega)⟩
      obtain ⟨b, off, rfl, hbB, c0, c1⟩ := (h.below hb).spr hx
      have hxo := HOK.out x (List.mem_of_getElem? hx)
      have hxb := (lenF_bnd hxo h0 h1 h2).2.2.2.2
      have hs : lens (l.take (k + 1)) num den = lens (l.take k) num den + lenF x num den := by rw [List.take_add_one, hx, Option.toList_some, lens_snoc]
      have e0 := (hb.cell (p := ⟨bf, 0, none⟩) hbf).trans F0.out
      have e1 := (hb.cell (p := ⟨bf, 1, none⟩) hbf).trans F1.out
      have hsz := hb.size
      have HS := hide hs
      have HB := hide hb
      have HXO := hide hxo
      clear hx h hb hs hxo
      obtain ⟨m, hm2⟩ : ∃ m, m = lens (l.take k) num den := ⟨_, rfl⟩
      rw [← hm2] at HS hbd
      rw [← hm2]
      clear hm2
      have hbw : bf < wr.heap.size := by omega
      have E0 := hide e0
      have E1 := hide e1
      clear e0 e1
      go_wp2_with fail
      refine (tot1_any x num den bf _ (by simp; omega) ((World.cell?_alloc_lt _ _ _ hbw).trans E0.out) ((World.cell?_alloc_lt _ _ _ hbw).trans E1.out) HXO.out h0 h1 h2 h3).mono ?_
      rintro e w1 ⟨rfl, hb1⟩
      have hb2 := (HB.out.alloc HB.out.size _).trans (hb1.mono (by simp; omega))
      clear hb1
      go_wp2_with fail
      go_roundg (gk - 1)
      case measure => omega
      case rel => exact ⟨k + 1, by omega, by go_num, by omega, by rw [HS.out], hb2⟩
    · have hall : l.take k = l := List.take_of_length_le (by have := HN.out; omega)
      rw [hall]
      clear hall
      go_wp2_with fail
      go_ret
      exact ⟨rfl, hb⟩

set_option maxHeartbeats 1000000 in
theorem minimal_any (A : Option Addr) (n c : Nat) (l : List Spr) (w : World) (hn : n = l.length) (hm : n ≤ 8192) (h : Rds w w.heap.size A (sprs l)) (hok : ∀ s ∈ l, s.ok) :
    Calls Try.prog 43 #[.slice A n c] w fun e w' => e = .returned (.int .i64 (mins l)) ∧ Below w.heap.size w w' := by
  have HN := hide hn
  have HOK := hide hok
  clear hn hok
  go_enter Try.func43, Try.ntmps43
  go_wp2_with fail
  refine (sum_min A n c l _ HN.out hm h HOK.out).mono ?_
  rintro e w1 ⟨rfl, hb⟩
  go_wp2_with fail
  go_ret
  exact ⟨rfl, hb⟩

set_option maxHeartbeats 1000000 in
theorem total_any (A : Option Addr) (n c : Nat) (l : List Spr) (num den : Int) (w : World) (hn : n = l.length) (hm : n ≤ 8192) (h : Rds w w.heap.size A (sprs l)) (hok : ∀ s ∈ l, s.ok)
    (h0 : 0 ≤ num) (h1 : num ≤ 268435456) (h2 : 1 ≤ den) (h3 : den ≤ 268435456) :
    Calls Try.prog 47 #[.slice A n c, .agg #[.int .i64 num, .int .i64 den]] w fun e w' => e = .returned (.int .i64 (lens l num den)) ∧ Below w.heap.size w w' := by
  have HN := hide hn
  have HOK := hide hok
  clear hn hok
  go_enter Try.func47, Try.ntmps47
  go_wp2_with fail
  have hb0 : Below w.heap.size w (w.alloc (.cells #[.int .i64 num, .int .i64 den] 87)) := (Below.refl _ w).alloc (Nat.le_refl _) _
  refine (sum_tot A n c l num den w.heap.size _ HN.out hm ((h.below hb0).more hb0.size) HOK.out (by simp) ((cell_of_row _ _ 0 _ _ _ (heap_alloc_new w _)).trans rfl) ((cell_of_row _ _ 1 _ _ _ (heap_alloc_new w _)).trans rfl) h0 h1 h2 h3).mono ?_
  rintro e w1 ⟨rfl, hb⟩
  go_wp2_with fail
  go_ret
  exact ⟨rfl, hb0.trans (hb.mono hb0.size)⟩

end Go.Proofs.Ytajkmlejklgbbaa
