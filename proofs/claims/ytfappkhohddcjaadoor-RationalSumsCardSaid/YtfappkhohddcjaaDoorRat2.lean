/- rational.reduced, Of, Int; the reference's Of. -/
import Derived.Test.YtfappkhohddcjaaDoorRat1
namespace Go.Proofs.YtfappkhohddcjaaDoor
open Go.RowKit

/-- a block of two numbers -/
structure Two (wr : World) (k : Nat) (a b : Int) : Prop where
  lt : k < wr.heap.size
  c0 : wr.cell? ⟨k, 0, none⟩ = some (.int .i64 a)
  c1 : wr.cell? ⟨k, 1, none⟩ = some (.int .i64 b)
  f0 : wr.frozen? ⟨k, 0, none⟩ = false
  f1 : wr.frozen? ⟨k, 1, none⟩ = false
section
variable {wr w' : World} {k : Nat} {a b : Int}
theorem Two.on (h : Two wr k a b) {B : Nat} (hb : Below B wr w') (hk : k < B) : Two w' k a b :=
  ⟨by have := hb.size; have := h.lt; omega, (hb.cell (p := ⟨_, _, none⟩) hk).trans h.c0, (hb.cell (p := ⟨_, _, none⟩) hk).trans h.c1, (hb.frozen (p := ⟨_, _, none⟩) hk).trans h.f0, (hb.frozen (p := ⟨_, _, none⟩) hk).trans h.f1⟩
theorem Two.set (h : Two wr k a b) (a' b' : Int) : Two ((wr.setCell ⟨k, 0, none⟩ (.int .i64 a')).setCell ⟨k, 1, none⟩ (.int .i64 b')) k a' b' := by
  refine ⟨by simpa [World.setCell] using h.lt, ?_, ?_, ?_, ?_⟩
  · rw [World.cell?_setCell_other _ _ _ _ (by intro e; injection e with _ e; omega)]
    exact World.cell?_setCell_same _ _ _ h.c0
  · exact World.cell?_setCell_same _ _ _ (u := .int .i64 b) (by rw [World.cell?_setCell_other _ _ _ _ (by intro e; injection e with _ e; omega)]; exact h.c1)
  · simpa using h.f0
  · simpa using h.f1
theorem Two.new (w : World) (a b : Int) (t : TypeId) : Two (w.alloc (.cells #[.int .i64 a, .int .i64 b] t)) w.heap.size a b := by
  refine ⟨by simp, ?_, ?_, ?_, ?_⟩ <;> simp [go_sem]
end
theorem on_tr {w w1 w2 : World} (h : Below w.heap.size w w1) (h2 : Below w1.heap.size w1 w2) : Below w.heap.size w w2 := h.trans (h2.mono h.size)

theorem redF_eq {neg : Bool} {a b g : Nat} (hg : g = Nat.gcd a b) : redF neg a b = if 1073741824 < a / g ∨ 1073741824 < b / g then ⟨0, 1, 14⟩ else ⟨if neg then -((a / g : Nat) : Int) else ((a / g : Nat) : Int), ((b / g : Nat) : Int), 0⟩ := by
  rw [hg]; rfl

set_option maxRecDepth 100000 in
set_option maxHeartbeats 2000000 in
theorem reduced_any (neg : Bool) (a b : Nat) (w : World) (ha : a ≤ 9223372036854775808) (hb : b ≤ 9223372036854775808) (hb1 : 1 ≤ b) :
    Calls Tryd.prog 54 #[.bool neg, .int .u64 a, .int .u64 b] w fun e w' => e = .returned (.tuple #[.agg #[.int .i64 (redF neg a b).n, .int .i64 ((redF neg a b).d - 1)], .int .i64 (redF neg a b).e]) ∧ Below w.heap.size w w' := by
  have HT0 := hide (Two.new w 0 0 24)
  have HB0 := hide ((Below.refl w.heap.size w).alloc (Nat.le_refl _) (.cells #[.int .i64 0, .int .i64 0] 24))
  obtain ⟨F, hF⟩ : ∃ F, F = redF neg a b := ⟨_, rfl⟩
  rw [← hF]
  have HF := hide hF
  clear hF
  go_enter Tryd.func54, Tryd.ntmps54
  go_wp2_with fail
  go_loopg [8, 9] b (fun gl s0 s1 wr => ∃ x y : Nat, s0 = .int .u64 x ∧ s1 = .int .u64 y ∧ y ≤ gl ∧ x ≤ 9223372036854775808 ∧ y ≤ 9223372036854775808 ∧ Hid (Nat.gcd x y = Nat.gcd a b) ∧ Hid (Below w.heap.size w wr) ∧ Hid (Two wr w.heap.size 0 0))
  case atStart => exact ⟨a, b, rfl, rfl, Nat.le_refl _, ha, hb, hide rfl, HB0, HT0⟩
  case round =>
    obtain ⟨x, y, rfl, rfl, hgl, hx, hy, HG, HB, HT⟩ := hrel
    by_cases hy0 : y = 0
    · subst hy0
      have hx2 : x = Nat.gcd a b := by have := HG.out; rwa [Nat.gcd_zero_right] at this
      have hg0 : 0 < Nat.gcd a b := Nat.gcd_pos_of_pos_right _ hb1
      have hx0 : ¬ (x : Int) = 0 := by omega
      have e1 : (a : Int).tdiv (x : Int) = ((a / x : Nat) : Int) := by rw [Int.tdiv_eq_ediv_of_nonneg (by omega)]; exact (Int.natCast_ediv a x).symm
      have e2 : (b : Int).tdiv (x : Int) = ((b / x : Nat) : Int) := by rw [Int.tdiv_eq_ediv_of_nonneg (by omega)]; exact (Int.natCast_ediv b x).symm
      have HFF := hide (show F = if 1073741824 < a / x ∨ 1073741824 < b / x then ⟨0, 1, 14⟩ else ⟨if neg then -((a / x : Nat) : Int) else ((a / x : Nat) : Int), ((b / x : Nat) : Int), 0⟩ from by rw [HF.out]; exact redF_eq hx2)
      have hal := Nat.div_le_self a x
      have hbl := Nat.div_le_self b x
      obtain ⟨p, hp⟩ : ∃ p, p = a / x := ⟨_, rfl⟩
      obtain ⟨q, hq⟩ : ∃ q, q = b / x := ⟨_, rfl⟩
      rw [← hp] at e1 hal HFF
      rw [← hq] at e2 hbl HFF
      have u1 := u64_in p (by omega)
      have u2 := u64_in q (by omega)
      have r0 := HT.out.c0
      have r1 := HT.out.c1
      have f0 := HT.out.f0
      have f1 := HT.out.f1
      have hlt := HT.out.lt
      clear hx2 hp hq HG
      rcases (show 1073741824 < p ∨ (p ≤ 1073741824 ∧ 1073741824 < q) ∨ (p ≤ 1073741824 ∧ q ≤ 1073741824) by omega) with hc | ⟨hc, hc2⟩ | ⟨hc, hc2⟩
      · have HV := hide (show F = ⟨0, 1, 14⟩ by rw [HFF.out, if_pos (.inl hc)])
        go_wp2_with fail
        go_quiet (fail)
        have HTN := (HT.out.on (below_drewN (Below.refl wr.heap.size wr) nq) hlt).set (0) (0)
        have d0 := HTN.c0
        have d1 := HTN.c1
        go_wp2_with fail
        refine bodyPost_ret (v := .tuple #[.agg #[.int .i64 (0), .int .i64 (0)], .int .i64 14]) (by simp [results, Tryd.results54, go_sem, d0, d1]) rfl ?_
        exact ⟨by rw [HV.out]; try (first | rfl | simp), ((below_drewN HB.out nq).setCell (by simp) _).setCell (by simp) _⟩
      · have HV := hide (show F = ⟨0, 1, 14⟩ by rw [HFF.out, if_pos (.inr hc2)])
        have hc3 : ¬ 1073741824 < p := by omega
        go_wp2_with fail
        go_quiet (fail)
        have HTN := (HT.out.on (below_drewN (Below.refl wr.heap.size wr) nq) hlt).set (0) (0)
        have d0 := HTN.c0
        have d1 := HTN.c1
        go_wp2_with fail
        refine bodyPost_ret (v := .tuple #[.agg #[.int .i64 (0), .int .i64 (0)], .int .i64 14]) (by simp [results, Tryd.results54, go_sem, d0, d1]) rfl ?_
        exact ⟨by rw [HV.out]; try (first | rfl | simp), ((below_drewN HB.out nq).setCell (by simp) _).setCell (by simp) _⟩
      · have hc3 : ¬ 1073741824 < p := by omega
        have hc4 : ¬ 1073741824 < q := by omega
        have w1 : IntKind.i64.wrap (p : Int) = (p : Int) := IntWalk.i64_in _ (by omega)
        have w2 : IntKind.i64.wrap (-(p : Int)) = -(p : Int) := IntWalk.i64_in _ (by omega)
        have w3 : IntKind.i64.wrap (q : Int) = (q : Int) := IntWalk.i64_in _ (by omega)
        have w4 : IntKind.i64.wrap ((q : Int) - 1) = (q : Int) - 1 := IntWalk.i64_in _ (by omega)
        cases neg with
        | true =>
          have HV := hide (show F = ⟨-(p : Int), (q : Int), 0⟩ by rw [HFF.out, if_neg (by omega)]; rfl)
          go_wp2_with fail
          go_quiet (fail)
          have HTN := (HT.out.on (below_drewN (Below.refl wr.heap.size wr) nq) hlt).set (-(p : Int)) ((q : Int) - 1)
          have d0 := HTN.c0
          have d1 := HTN.c1
          go_wp2_with fail
          refine bodyPost_ret (v := .tuple #[.agg #[.int .i64 (-(p : Int)), .int .i64 ((q : Int) - 1)], .int .i64 0]) (by simp [results, Tryd.results54, go_sem, d0, d1]) rfl ?_
          exact ⟨by rw [HV.out]; try (first | rfl | simp), ((below_drewN HB.out nq).setCell (by simp) _).setCell (by simp) _⟩
        | false =>
          have HV := hide (show F = ⟨(p : Int), (q : Int), 0⟩ by rw [HFF.out, if_neg (by omega)]; rfl)
          go_wp2_with fail
          go_quiet (fail)
          have HTN := (HT.out.on (below_drewN (Below.refl wr.heap.size wr) nq) hlt).set ((p : Int)) ((q : Int) - 1)
          have d0 := HTN.c0
          have d1 := HTN.c1
          go_wp2_with fail
          refine bodyPost_ret (v := .tuple #[.agg #[.int .i64 ((p : Int)), .int .i64 ((q : Int) - 1)], .int .i64 0]) (by simp [results, Tryd.results54, go_sem, d0, d1]) rfl ?_
          exact ⟨by rw [HV.out]; try (first | rfl | simp), ((below_drewN HB.out nq).setCell (by simp) _).setCell (by simp) _⟩
    · have hyp : ((y : Int) != 0) = true := by simpa using hy0
      have hy0' : ¬ (y : Int) = 0 := by omega
      have hlt2 : x % y < y := Nat.mod_lt _ (by omega)
      have e1 : (x : Int).tmod (y : Int) = ((x % y : Nat) : Int) := by rw [Int.tmod_eq_emod_of_nonneg (by omega)]; exact (Int.natCast_emod x y).symm
      have HG2 := hide (show Nat.gcd y (x % y) = Nat.gcd a b by rw [← HG.out, Nat.gcd_comm y, ← Nat.gcd_rec, Nat.gcd_comm])
      obtain ⟨r, hr⟩ : ∃ r, r = x % y := ⟨_, rfl⟩
      rw [← hr] at hlt2 e1 HG2
      have e2 := u64_in r (by omega)
      clear hr HG
      go_wp2_with fail
      go_quiet (fail)
      go_wp2_with fail
      go_roundg (y - 1)
      case measure => omega
      case rel => exact ⟨y, r, rfl, rfl, by omega, by omega, by omega, HG2, hide (below_drewN HB.out _), hide (HT.out.on (below_drewN (Below.refl wr.heap.size wr) _) HT.out.lt)⟩

end Go.Proofs.YtfappkhohddcjaaDoor
