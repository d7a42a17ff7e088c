/- The law SpacingGaps, walked. -/
import Derived.Test.YtajkmlejklgbbaaKnown
import Derived.Test.YtajkmlejklgbbaaDec
namespace Go.Proofs.Ytajkmlejklgbbaa
open Go.RowKit

theorem run_eql_col (c : Col) (w : World) : (binOp .eql 41 (.agg #[.int .i64 c.l, .int .i64 c.r, .int .i64 c.t]) (.agg #[.int .i64 0, .int .i64 0, .int .i64 0])).run Try.prog w = .ok (.bool (!c.nz)) w := by
  go_simp
  unfold Col.nz
  split <;> simp_all
  split <;> simp_all
  split <;> simp_all
theorem colErr2 {a b : Col} (h : colErr [a, b] ≠ 0) : colErr [a, b] = 2 := by
  unfold colErr at *
  rw [if_neg (by simp)] at *
  split at h
  · exact absurd rfl h
  · rename_i h2; rw [if_neg h2]

structure GapFacts (w w1 : World) (a b : Col) : Prop where
  bel : Below w.heap.size w w1
  a0 : w1.cell? ⟨w.heap.size, 0, none⟩ = some (.int .i64 a.l)
  a1 : w1.cell? ⟨w.heap.size, 1, none⟩ = some (.int .i64 a.r)
  a2 : w1.cell? ⟨w.heap.size, 2, none⟩ = some (.int .i64 a.t)
  b0 : w1.cell? ⟨w.heap.size + 1, 0, none⟩ = some (.int .i64 b.l)
  b1 : w1.cell? ⟨w.heap.size + 1, 1, none⟩ = some (.int .i64 b.r)
  b2 : w1.cell? ⟨w.heap.size + 1, 2, none⟩ = some (.int .i64 b.t)
theorem gap_facts {w : World} {a b : Col} {o : Obj} {t t' : TypeId} (w1 : World)
    (hb : Below (w.heap.size + 1 + 1 + 1) (((w.alloc (.cells #[.int .i64 a.l, .int .i64 a.r, .int .i64 a.t] t)).alloc (.cells #[.int .i64 b.l, .int .i64 b.r, .int .i64 b.t] t')).alloc o) w1) : GapFacts w w1 a b := by
  have h0 : ∀ i u, #[Value.int .i64 a.l, .int .i64 a.r, .int .i64 a.t][i]? = some u → w1.cell? ⟨w.heap.size, i, none⟩ = some u := by
    intro i u hu
    rw [hb.cell (p := ⟨w.heap.size, i, none⟩) (by show w.heap.size < _; omega), World.cell?_alloc_lt _ _ _ (by simp; omega), World.cell?_alloc_lt _ _ _ (by simp)]
    rw [cell_of_row _ _ i _ _ _ (heap_alloc_new w _)]
    exact hu
  have h1 : ∀ i u, #[Value.int .i64 b.l, .int .i64 b.r, .int .i64 b.t][i]? = some u → w1.cell? ⟨w.heap.size + 1, i, none⟩ = some u := by
    intro i u hu
    have e : (w.alloc (.cells #[.int .i64 a.l, .int .i64 a.r, .int .i64 a.t] t)).heap.size = w.heap.size + 1 := by simp
    rw [hb.cell (p := ⟨w.heap.size + 1, i, none⟩) (by show w.heap.size + 1 < _; omega), World.cell?_alloc_lt _ _ _ (by simp), ← e]
    rw [cell_of_row _ _ i _ _ _ (heap_alloc_new _ _)]
    exact hu
  refine ⟨?_, h0 0 _ rfl, h0 1 _ rfl, h0 2 _ rfl, h1 0 _ rfl, h1 1 _ rfl, h1 2 _ rfl⟩
  exact (((((Below.refl _ w).alloc (Nat.le_refl _) _).alloc (by simp) _).alloc (by simp; omega) _).trans (hb.mono (by omega)))
theorem GapFacts.next {w w1 w2 : World} {a b : Col} (h : GapFacts w w1 a b) (hb : Below w1.heap.size w1 w2) : Below w.heap.size w w2 ∧
    w2.cell? ⟨w.heap.size, 0, none⟩ = some (.int .i64 a.l) ∧ w2.cell? ⟨w.heap.size, 1, none⟩ = some (.int .i64 a.r) ∧ w2.cell? ⟨w.heap.size, 2, none⟩ = some (.int .i64 a.t) ∧
    w2.cell? ⟨w.heap.size + 1, 0, none⟩ = some (.int .i64 b.l) ∧ w2.cell? ⟨w.heap.size + 1, 1, none⟩ = some (.int .i64 b.r) ∧ w2.cell? ⟨w.heap.size + 1, 2, none⟩ = some (.int .i64 b.t) := by
  have k : ∀ (p : Addr) u, w1.cell? p = some u → w2.cell? p = some u := fun p u hu => (hb.cell (World.block_lt_of_cell? w1 p hu)).trans hu
  exact ⟨h.bel.trans (hb.mono h.bel.size), k _ _ h.a0, k _ _ h.a1, k _ _ h.a2, k _ _ h.b0, k _ _ h.b1, k _ _ h.b2⟩
theorem GapFacts.rds {w : World} {t : TypeId} (a b : Col) :
    Rds (w.alloc (.cells #[.int .i64 a.l, .int .i64 a.r, .int .i64 a.t, .int .i64 b.l, .int .i64 b.r, .int .i64 b.t] t)) (w.alloc (.cells #[.int .i64 a.l, .int .i64 a.r, .int .i64 a.t, .int .i64 b.l, .int .i64 b.r, .int .i64 b.t] t)).heap.size (some ⟨w.heap.size, 0, none⟩) (cols [a, b]) :=
  (Rds.new w #[.int .i64 a.l, .int .i64 a.r, .int .i64 a.t, .int .i64 b.l, .int .i64 b.r, .int .i64 b.t] t).more (by simp)

set_option maxRecDepth 100000 in
set_option maxHeartbeats 4000000 in
theorem gaps_bad (a b : Col) (g : Int) (w : World) (h : colErr [a, b] = 2 ∨ (colErr [a, b] = 0 ∧ (g < 0 ∨ 1024 < g))) :
    Calls Try.prog 5 #[.agg #[.int .i64 a.l, .int .i64 a.r, .int .i64 a.t], .agg #[.int .i64 b.l, .int .i64 b.r, .int .i64 b.t], .int .i64 g] w
      fun e w' => e = .returned (.bool true) ∧ Below w.heap.size w w' := by
  have H := hide h
  clear h
  go_enter Try.func5, Try.ntmps5
  go_wp2_with fail
  have hc := Rds.at_new (w := (w.alloc (.cells #[.int .i64 a.l, .int .i64 a.r, .int .i64 a.t] 41)).alloc (.cells #[.int .i64 b.l, .int .i64 b.r, .int .i64 b.t] 41)) (b := w.heap.size + 1 + 1) (by simp) #[.int .i64 a.l, .int .i64 a.r, .int .i64 a.t, .int .i64 b.l, .int .i64 b.r, .int .i64 b.t] 41
  have hc' : Rds (((w.alloc (.cells #[.int .i64 a.l, .int .i64 a.r, .int .i64 a.t] 41)).alloc (.cells #[.int .i64 b.l, .int .i64 b.r, .int .i64 b.t] 41)).alloc (.cells #[.int .i64 a.l, .int .i64 a.r, .int .i64 a.t, .int .i64 b.l, .int .i64 b.r, .int .i64 b.t] 41)) (w.heap.size + 1 + 1 + 1) (some ⟨w.heap.size + 1 + 1, 0, none⟩) (cols [a, b]) := hc
  have HC := hide hc'
  clear hc hc'
  have d0 : ∀ (w1 : World), Below (w.heap.size + 1 + 1 + 1) (((w.alloc (.cells #[.int .i64 a.l, .int .i64 a.r, .int .i64 a.t] 41)).alloc (.cells #[.int .i64 b.l, .int .i64 b.r, .int .i64 b.t] 41)).alloc (.cells #[.int .i64 a.l, .int .i64 a.r, .int .i64 a.t, .int .i64 b.l, .int .i64 b.r, .int .i64 b.t] 41)) w1 → GapFacts w w1 a b := gap_facts
  have D0 := hide d0
  clear d0
  rcases H.out with he | ⟨he, hg⟩
  · have HE := hide he
    clear he
    refine (Springs_err1 _ none 2 2 0 0 [a, b] 241920 g _ rfl (by omega) (HC.out.more (by simp)) (by rw [HE.out]; decide)).mono ?_
    rw [HE.out]
    rintro e w1 ⟨rfl, hb1⟩
    have f1 := D0.out w1 (hb1.mono (by simp))
    go_wp2_with fail
    refine (known_any _).mono ?_
    rintro e w2 ⟨rfl, hb2⟩
    obtain ⟨b2, a0, a1, a2, b0, b1, c2⟩ := f1.next hb2
    clear f1 hb1 hb2
    go_wp2_with fail
    refine (lcheck_any _ 2 2 [a, b] _ rfl (by omega) (GapFacts.rds a b)).mono ?_
    rw [HE.out]
    rintro e w3 ⟨rfl, rfl⟩
    go_wp2_with fail
    go_ret
    exact ⟨rfl, b2.alloc b2.size _⟩
  · have HE := hide he
    clear he
    refine (Springs_err2 _ none 2 2 0 0 [a, b] 241920 g _ rfl (by omega) (HC.out.more (by simp)) HE.out (by omega)).mono ?_
    rintro e w1 ⟨rfl, hb1⟩
    have f1 := D0.out w1 (hb1.mono (by simp))
    go_wp2_with fail
    refine (known_any _).mono ?_
    rintro e w2 ⟨rfl, hb2⟩
    obtain ⟨b2, a0, a1, a2, b0, b1, c2⟩ := f1.next hb2
    clear f1 hb1 hb2
    go_wp2_with fail
    refine (lcheck_any _ 2 2 [a, b] _ rfl (by omega) (GapFacts.rds a b)).mono ?_
    rw [HE.out]
    rintro e w3 ⟨rfl, rfl⟩
    go_wp2_with fail
    all_goals
      first
      | (go_ret; exact ⟨rfl, b2.alloc b2.size _⟩)
      | (exfalso; omega)

set_option maxRecDepth 100000 in
set_option maxHeartbeats 4000000 in
theorem gaps_good (a b : Col) (g : Int) (w : World) (he : colErr [a, b] = 0) (h0 : 0 ≤ g) (h1 : g ≤ 1024) :
    Calls Try.prog 5 #[.agg #[.int .i64 a.l, .int .i64 a.r, .int .i64 a.t], .agg #[.int .i64 b.l, .int .i64 b.r, .int .i64 b.t], .int .i64 g] w
      fun e w' => e = .returned (.bool true) ∧ Below w.heap.size w w' := by
  obtain ⟨x0, x1, x2, x3, x4, x5⟩ := Col.ok_of ((colErr_all _ he).2 a (by simp))
  obtain ⟨y0, y1, y2, y3, y4, y5⟩ := Col.ok_of ((colErr_all _ he).2 b (by simp))
  have HE := hide he
  clear he
  go_enter Try.func5, Try.ntmps5
  go_wp2_with fail
  have hc := Rds.at_new (w := (w.alloc (.cells #[.int .i64 a.l, .int .i64 a.r, .int .i64 a.t] 41)).alloc (.cells #[.int .i64 b.l, .int .i64 b.r, .int .i64 b.t] 41)) (b := w.heap.size + 1 + 1) (by simp) #[.int .i64 a.l, .int .i64 a.r, .int .i64 a.t, .int .i64 b.l, .int .i64 b.r, .int .i64 b.t] 41
  have hc' : Rds (((w.alloc (.cells #[.int .i64 a.l, .int .i64 a.r, .int .i64 a.t] 41)).alloc (.cells #[.int .i64 b.l, .int .i64 b.r, .int .i64 b.t] 41)).alloc (.cells #[.int .i64 a.l, .int .i64 a.r, .int .i64 a.t, .int .i64 b.l, .int .i64 b.r, .int .i64 b.t] 41)) (w.heap.size + 1 + 1 + 1) (some ⟨w.heap.size + 1 + 1, 0, none⟩) (cols [a, b]) := hc
  have HC := hide hc'
  clear hc hc'
  refine (Springs_ok _ none 2 2 0 0 [a, b] 241920 g [] _ rfl (by omega) (HC.out.more (by simp)) HE.out (by omega) rfl (by omega) .nil (fun x hx => by cases hx)).mono ?_
  rintro e w1 ⟨v, rfl, o1, hb1⟩
  have hr : adjs (srt []) (baseS 241920 g [a, b]) = [sprOf 241920 g a b] := rfl
  rw [hr] at o1
  obtain ⟨gg, cap, rfl, hg1, hg1w⟩ := o1.form (by omega)
  have f1 := gap_facts w1 (hb1.mono (by simp))
  have s1 := o1.cellAt 1 (by omega)
  have s0 := o1.cellAt 0 (by omega)
  simp only [sprs, List.flatMap_cons, List.flatMap_nil, Spr.cells, List.append_nil, List.getElem?_cons_zero, List.getElem?_cons_succ] at s0 s1
  clear hr o1 hb1
  go_wp2_with fail
  refine (known_any _).mono ?_
  rintro e w2 ⟨rfl, hb2⟩
  obtain ⟨b2, a0, a1, a2, b0, b1, c2⟩ := f1.next hb2
  have t1 := (hb2.cell (p := ⟨gg, 1, none⟩) hg1w).trans s1
  have hgw : gg < w2.heap.size := Nat.lt_of_lt_of_le hg1w hb2.size
  have hz2 : w.heap.size + 1 < w2.heap.size := World.block_lt_of_cell? w2 _ b0
  have hz3 : w.heap.size < w2.heap.size := World.block_lt_of_cell? w2 _ a0
  clear f1 s0 s1 hb2
  go_wp2_with fail
  refine (lcheck_any _ 2 2 [a, b] _ rfl (by omega) (GapFacts.rds a b)).mono ?_
  rw [HE.out]
  rintro e w3 ⟨rfl, rfl⟩
  have heq := run_eql_col
  have hz : (a.nz = false ∨ (a.nz = true ∧ b.nz = false)) ∨ (a.nz = true ∧ b.nz = true) := by
    rcases a.nz <;> rcases b.nz <;> simp
  rcases hz with (hxz | ⟨hxz, hyz⟩) | ⟨hxz, hyz⟩
  · have hm : (sprOf 241920 g a b).m = a.r + b.l := by simp [sprOf, hxz]
    rw [hm] at t1
    clear hm
    go_wp2_with fail
    go_ret
    exact ⟨rfl, b2.alloc b2.size _⟩
  · have hm : (sprOf 241920 g a b).m = a.r + b.l := by simp [sprOf, hxz, hyz]
    rw [hm] at t1
    clear hm
    go_wp2_with fail
    go_ret
    exact ⟨rfl, b2.alloc b2.size _⟩
  · have hm : (sprOf 241920 g a b).m = a.r + b.l + g := by simp [sprOf, hxz, hyz]
    rw [hm] at t1
    clear hm
    go_wp2_with fail
    go_ret
    exact ⟨rfl, b2.alloc b2.size _⟩

theorem spacingGaps_walk {w : World} (a : Col) (_ : Col.wf w a) (b : Col) (_ : Col.wf w b) (g : Int) (_ : (Lit.int .i64 g).wf = true) :
    Calls Try.prog 5 #[.agg (Col.cells a).toArray, .agg (Col.cells b).toArray, .int .i64 g] w fun e w' => e = .returned (.bool true) ∧ Below w.heap.size w w' := by
  by_cases h : colErr [a, b] = 0
  · by_cases hg : g < 0 ∨ 1024 < g
    · exact gaps_bad a b g w (.inr ⟨h, hg⟩)
    · exact gaps_good a b g w h (by omega) (by omega)
  · exact gaps_bad a b g w (.inl (colErr2 h))

end Go.Proofs.Ytajkmlejklgbbaa
