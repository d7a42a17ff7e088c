/- The reference's Of. -/
import Derived.Test.YtfappkhohddcjaaDoorRat3
namespace Go.Proofs.YtfappkhohddcjaaDoor
open Go.RowKit

set_option maxRecDepth 100000 in
set_option maxHeartbeats 4000000 in
theorem ROf_any (n d : Int) (w : World) (hn : i64r n) (hd : i64r d) :
    Calls Tryd.prog 15 #[.int .i64 n, .int .i64 d] w fun e w' => e = .returned (.tuple #[.agg #[.int .i64 (ofF n d).n, .int .i64 (ofF n d).d], .int .i64 (ofF n d).e]) ∧ Below w.heap.size w w' := by
  have HT0 := hide (Two.new w 0 0 26)
  have HB0 := hide ((Below.refl w.heap.size w).alloc (Nat.le_refl _) (.cells #[.int .i64 0, .int .i64 0] 26))
  obtain ⟨F, hF⟩ : ∃ F, F = ofF n d := ⟨_, rfl⟩
  rw [← hF]
  by_cases hd0 : d = 0
  · subst hd0
    have HV := hide (show F = ⟨0, 1, 15⟩ by rw [hF]; exact ofF_zero n)
    clear hF
    go_enter Tryd.func15, Tryd.ntmps15
    go_wp2_with fail
    refine bodyPost_ret (v := .tuple #[.agg #[.int .i64 0, .int .i64 1], .int .i64 15]) (by simp [results, Tryd.results15, go_sem]) rfl ?_
    exact ⟨by rw [HV.out]; try (first | rfl | simp), by go_grown⟩
  · have HV := hide (show F = redF (decide (n < 0) != decide (d < 0)) n.natAbs d.natAbs by rw [hF]; exact ofF_pos hd0)
    have hde : (d == 0) = false := by simpa using hd0
    have HSN := hide (fun W => magn_any n W hn)
    have HSD := hide (fun W => magn_any d W hd)
    obtain ⟨a, ha⟩ : ∃ a, a = n.natAbs := ⟨_, rfl⟩
    obtain ⟨b, hb⟩ : ∃ b, b = d.natAbs := ⟨_, rfl⟩
    have hb1 : 1 ≤ b := by omega
    have ha2 : a ≤ 9223372036854775808 := by rw [ha]; exact natAbs_le hn
    have hb2 : b ≤ 9223372036854775808 := by rw [hb]; exact natAbs_le hd
    rw [← ha] at HV HSN
    rw [← hb] at HV HSD
    obtain ⟨x, hx⟩ : ∃ x, x = Nat.gcd a b := ⟨_, rfl⟩
    have HX := hide hx
    have hg0 : 0 < x := by rw [hx]; exact Nat.gcd_pos_of_pos_right _ hb1
    have hxb : x ≤ b := by rw [hx]; exact Nat.gcd_le_right _ hb1
    have hx0 : ¬ (x : Int) = 0 := by omega
    have e1 : (a : Int).tdiv (x : Int) = ((a / x : Nat) : Int) := by rw [Int.tdiv_eq_ediv_of_nonneg (by omega)]; exact (Int.natCast_ediv a x).symm
    have e2 : (b : Int).tdiv (x : Int) = ((b / x : Nat) : Int) := by rw [Int.tdiv_eq_ediv_of_nonneg (by omega)]; exact (Int.natCast_ediv b x).symm
    have HFF := hide (fun neg (h : (decide (n < 0) != decide (d < 0)) = neg) => show F = if 1073741824 < a / x ∨ 1073741824 < b / x then ⟨0, 1, 14⟩ else ⟨if neg then -((a / x : Nat) : Int) else ((a / x : Nat) : Int), ((b / x : Nat) : Int), 0⟩ from by rw [HV.out, h]; exact redF_eq hx)
    have hal := Nat.div_le_self a x
    have hbl := Nat.div_le_self b x
    obtain ⟨p, hp⟩ : ∃ p, p = a / x := ⟨_, rfl⟩
    obtain ⟨q, hq⟩ : ∃ q, q = b / x := ⟨_, rfl⟩
    rw [← hp] at e1 hal HFF
    rw [← hq] at e2 hbl HFF
    have u1 := u64_in p (by omega)
    have u2 := u64_in q (by omega)
    clear hF HV ha hb hx hp hq
    rcases (show 1073741824 < p ∨ (p ≤ 1073741824 ∧ 1073741824 < q) ∨ (p ≤ 1073741824 ∧ q ≤ 1073741824) by omega) with hc | ⟨hc, hc2⟩ | ⟨hc, hc2⟩
    · have HV := hide (show F = ⟨0, 1, 14⟩ by rw [HFF.out _ rfl, if_pos (.inl hc)])
      go_enter Tryd.func15, Tryd.ntmps15
      go_wp2_with fail
      refine (HSN.out _).mono ?_
      rintro e w1 ⟨rfl, rfl⟩
      go_wp2_with fail
      refine (HSD.out _).mono ?_
      rintro e w1 ⟨rfl, rfl⟩
      go_wp2_with fail
      refine (rdiv_any a b _ ha2 hb2).mono ?_
      rw [← HX.out]
      rintro e w5 ⟨rfl, hb⟩
      have HB5 := hide (on_tr HB0.out hb)
      have HT5 := hide (HT0.out.on hb HT0.out.lt)
      clear hb
      have r0 := HT5.out.c0
      have r1 := HT5.out.c1
      have f0 := HT5.out.f0
      have f1 := HT5.out.f1
      go_wp2_with fail
      go_quiet (fail)
      have HTN := (HT5.out.on (below_drewN (Below.refl w5.heap.size w5) nq) HT5.out.lt).set (0) (1)
      have d0 := HTN.c0
      have d1 := HTN.c1
      go_wp2_with fail
      refine bodyPost_ret (v := .tuple #[.agg #[.int .i64 (0), .int .i64 (1)], .int .i64 14]) (by simp [results, Tryd.results15, go_sem, d0, d1]) rfl ?_
      exact ⟨by rw [HV.out]; try (first | rfl | simp), ((below_drewN HB5.out nq).setCell (by simp) _).setCell (by simp) _⟩
    · have HV := hide (show F = ⟨0, 1, 14⟩ by rw [HFF.out _ rfl, if_pos (.inr hc2)])
      have hc3 : ¬ 1073741824 < p := by omega
      go_enter Tryd.func15, Tryd.ntmps15
      go_wp2_with fail
      refine (HSN.out _).mono ?_
      rintro e w1 ⟨rfl, rfl⟩
      go_wp2_with fail
      refine (HSD.out _).mono ?_
      rintro e w1 ⟨rfl, rfl⟩
      go_wp2_with fail
      refine (rdiv_any a b _ ha2 hb2).mono ?_
      rw [← HX.out]
      rintro e w5 ⟨rfl, hb⟩
      have HB5 := hide (on_tr HB0.out hb)
      have HT5 := hide (HT0.out.on hb HT0.out.lt)
      clear hb
      have r0 := HT5.out.c0
      have r1 := HT5.out.c1
      have f0 := HT5.out.f0
      have f1 := HT5.out.f1
      go_wp2_with fail
      go_quiet (fail)
      have HTN := (HT5.out.on (below_drewN (Below.refl w5.heap.size w5) nq) HT5.out.lt).set (0) (1)
      have d0 := HTN.c0
      have d1 := HTN.c1
      go_wp2_with fail
      refine bodyPost_ret (v := .tuple #[.agg #[.int .i64 (0), .int .i64 (1)], .int .i64 14]) (by simp [results, Tryd.results15, go_sem, d0, d1]) rfl ?_
      exact ⟨by rw [HV.out]; try (first | rfl | simp), ((below_drewN HB5.out nq).setCell (by simp) _).setCell (by simp) _⟩
    · have hc3 : ¬ 1073741824 < p := by omega
      have hc4 : ¬ 1073741824 < q := by omega
      have w1 : IntKind.i64.wrap (p : Int) = (p : Int) := IntWalk.i64_in _ (by omega)
      have w2 : IntKind.i64.wrap (-(p : Int)) = -(p : Int) := IntWalk.i64_in _ (by omega)
      have w3 : IntKind.i64.wrap (q : Int) = (q : Int) := IntWalk.i64_in _ (by omega)
      rcases (show (n < 0 ∧ d < 0) ∨ (n < 0 ∧ ¬ d < 0) ∨ (¬ n < 0 ∧ d < 0) ∨ (¬ n < 0 ∧ ¬ d < 0) by omega) with ⟨s1, s2⟩ | ⟨s1, s2⟩ | ⟨s1, s2⟩ | ⟨s1, s2⟩
      · have HV := hide (show F = ⟨(p : Int), (q : Int), 0⟩ by rw [HFF.out false (by simp [s1, s2]), if_neg (by omega)]; rfl)
        have s3 : decide (n < 0) = true := by simp; omega
        have s4 : decide (d < 0) = true := by simp; omega
        have s5 : n < 0 ↔ (true : Bool) = true := by simp; omega
        have s6 : d < 0 ↔ (true : Bool) = true := by simp; omega
        go_enter Tryd.func15, Tryd.ntmps15
        go_wp2_with fail
        refine (HSN.out _).mono ?_
        rintro e w1 ⟨rfl, rfl⟩
        go_wp2_with fail
        refine (HSD.out _).mono ?_
        rintro e w1 ⟨rfl, rfl⟩
        go_wp2_with fail
        refine (rdiv_any a b _ ha2 hb2).mono ?_
        rw [← HX.out]
        rintro e w5 ⟨rfl, hb⟩
        have HB5 := hide (on_tr HB0.out hb)
        have HT5 := hide (HT0.out.on hb HT0.out.lt)
        clear hb
        have r0 := HT5.out.c0
        have r1 := HT5.out.c1
        have f0 := HT5.out.f0
        have f1 := HT5.out.f1
        go_wp2_with fail
        go_quiet (fail)
        have HTN := (HT5.out.on (below_drewN (Below.refl w5.heap.size w5) nq) HT5.out.lt).set ((p : Int)) ((q : Int))
        have d0 := HTN.c0
        have d1 := HTN.c1
        go_wp2_with fail
        refine bodyPost_ret (v := .tuple #[.agg #[.int .i64 ((p : Int)), .int .i64 ((q : Int))], .int .i64 0]) (by simp [results, Tryd.results15, go_sem, d0, d1]) rfl ?_
        exact ⟨by rw [HV.out]; try (first | rfl | simp), ((below_drewN HB5.out nq).setCell (by simp) _).setCell (by simp) _⟩
      · have HV := hide (show F = ⟨-(p : Int), (q : Int), 0⟩ by rw [HFF.out true (by simp [s1, s2]), if_neg (by omega)]; rfl)
        have s3 : decide (n < 0) = true := by simp; omega
        have s4 : decide (d < 0) = false := by simp; omega
        have s5 : n < 0 ↔ (true : Bool) = true := by simp; omega
        have s6 : d < 0 ↔ (false : Bool) = true := by simp; omega
        go_enter Tryd.func15, Tryd.ntmps15
        go_wp2_with fail
        refine (HSN.out _).mono ?_
        rintro e w1 ⟨rfl, rfl⟩
        go_wp2_with fail
        refine (HSD.out _).mono ?_
        rintro e w1 ⟨rfl, rfl⟩
        go_wp2_with fail
        refine (rdiv_any a b _ ha2 hb2).mono ?_
        rw [← HX.out]
        rintro e w5 ⟨rfl, hb⟩
        have HB5 := hide (on_tr HB0.out hb)
        have HT5 := hide (HT0.out.on hb HT0.out.lt)
        clear hb
        have r0 := HT5.out.c0
        have r1 := HT5.out.c1
        have f0 := HT5.out.f0
        have f1 := HT5.out.f1
        go_wp2_with fail
        go_quiet (fail)
        have HTN := (HT5.out.on (below_drewN (Below.refl w5.heap.size w5) nq) HT5.out.lt).set (-(p : Int)) ((q : Int))
        have d0 := HTN.c0
        have d1 := HTN.c1
        go_wp2_with fail
        refine bodyPost_ret (v := .tuple #[.agg #[.int .i64 (-(p : Int)), .int .i64 ((q : Int))], .int .i64 0]) (by simp [results, Tryd.results15, go_sem, d0, d1]) rfl ?_
        exact ⟨by rw [HV.out]; try (first | rfl | simp), ((below_drewN HB5.out nq).setCell (by simp) _).setCell (by simp) _⟩
      · have HV := hide (show F = ⟨-(p : Int), (q : Int), 0⟩ by rw [HFF.out true (by simp [s1, s2]), if_neg (by omega)]; rfl)
        have s3 : decide (n < 0) = false := by simp; omega
        have s4 : decide (d < 0) = true := by simp; omega
        have s5 : n < 0 ↔ (false : Bool) = true := by simp; omega
        have s6 : d < 0 ↔ (true : Bool) = true := by simp; omega
        go_enter Tryd.func15, Tryd.ntmps15
        go_wp2_with fail
        refine (HSN.out _).mono ?_
        rintro e w1 ⟨rfl, rfl⟩
        go_wp2_with fail
        refine (HSD.out _).mono ?_
        rintro e w1 ⟨rfl, rfl⟩
        go_wp2_with fail
        refine (rdiv_any a b _ ha2 hb2).mono ?_
        rw [← HX.out]
        rintro e w5 ⟨rfl, hb⟩
        have HB5 := hide (on_tr HB0.out hb)
        have HT5 := hide (HT0.out.on hb HT0.out.lt)
        clear hb
        have r0 := HT5.out.c0
        have r1 := HT5.out.c1
        have f0 := HT5.out.f0
        have f1 := HT5.out.f1
        go_wp2_with fail
        go_quiet (fail)
        have HTN := (HT5.out.on (below_drewN (Below.refl w5.heap.size w5) nq) HT5.out.lt).set (-(p : Int)) ((q : Int))
        have d0 := HTN.c0
        have d1 := HTN.c1
        go_wp2_with fail
        refine bodyPost_ret (v := .tuple #[.agg #[.int .i64 (-(p : Int)), .int .i64 ((q : Int))], .int .i64 0]) (by simp [results, Tryd.results15, go_sem, d0, d1]) rfl ?_
        exact ⟨by rw [HV.out]; try (first | rfl | simp), ((below_drewN HB5.out nq).setCell (by simp) _).setCell (by simp) _⟩
      · have HV := hide (show F = ⟨(p : Int), (q : Int), 0⟩ by rw [HFF.out false (by simp [s1, s2]), if_neg (by omega)]; rfl)
        have s3 : decide (n < 0) = false := by simp; omega
        have s4 : decide (d < 0) = false := by simp; omega
        have s5 : n < 0 ↔ (false : Bool) = true := by simp; omega
        have s6 : d < 0 ↔ (false : Bool) = true := by simp; omega
        go_enter Tryd.func15, Tryd.ntmps15
        go_wp2_with fail
        refine (HSN.out _).mono ?_
        rintro e w1 ⟨rfl, rfl⟩
        go_wp2_with fail
        refine (HSD.out _).mono ?_
        rintro e w1 ⟨rfl, rfl⟩
        go_wp2_with fail
        refine (rdiv_any a b _ ha2 hb2).mono ?_
        rw [← HX.out]
        rintro e w5 ⟨rfl, hb⟩
        have HB5 := hide (on_tr HB0.out hb)
        have HT5 := hide (HT0.out.on hb HT0.out.lt)
        clear hb
        have r0 := HT5.out.c0
        have r1 := HT5.out.c1
        have f0 := HT5.out.f0
        have f1 := HT5.out.f1
        go_wp2_with fail
        go_quiet (fail)
        have HTN := (HT5.out.on (below_drewN (Below.refl w5.heap.size w5) nq) HT5.out.lt).set ((p : Int)) ((q : Int))
        have d0 := HTN.c0
        have d1 := HTN.c1
        go_wp2_with fail
        refine bodyPost_ret (v := .tuple #[.agg #[.int .i64 ((p : Int)), .int .i64 ((q : Int))], .int .i64 0]) (by simp [results, Tryd.results15, go_sem, d0, d1]) rfl ?_
        exact ⟨by rw [HV.out]; try (first | rfl | simp), ((below_drewN HB5.out nq).setCell (by simp) _).setCell (by simp) _⟩

end Go.Proofs.YtfappkhohddcjaaDoor
