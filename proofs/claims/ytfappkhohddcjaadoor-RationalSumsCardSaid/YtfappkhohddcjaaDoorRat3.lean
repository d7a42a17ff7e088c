/- rational.Of, Int, Num, Den, Neg; the reference's Of, Neg. -/
import Derived.Test.YtfappkhohddcjaaDoorRat2
namespace Go.Proofs.YtfappkhohddcjaaDoor
open Go.RowKit

theorem natAbs_le {n : Int} (h : i64r n) : n.natAbs ≤ 9223372036854775808 := by
  obtain ⟨h1, h2⟩ := h
  omega
theorem ofF_zero (n : Int) : ofF n 0 = ⟨0, 1, 15⟩ := by rw [ofF, if_pos rfl]
theorem ofF_pos {n d : Int} (h : ¬ d = 0) : ofF n d = redF (decide (n < 0) != decide (d < 0)) n.natAbs d.natAbs := by rw [ofF, if_neg h]

set_option maxRecDepth 100000 in
set_option maxHeartbeats 2000000 in
theorem Of_any (n d : Int) (w : World) (hn : i64r n) (hd : i64r d) :
    Calls Tryd.prog 29 #[.int .i64 n, .int .i64 d] w fun e w' => e = .returned (.tuple #[.agg #[.int .i64 (ofF n d).n, .int .i64 ((ofF n d).d - 1)], .int .i64 (ofF n d).e]) ∧ Below w.heap.size w w' := by
  have HT0 := hide (Two.new w 0 0 24)
  have HB0 := hide ((Below.refl w.heap.size w).alloc (Nat.le_refl _) (.cells #[.int .i64 0, .int .i64 0] 24))
  obtain ⟨F, hF⟩ : ∃ F, F = ofF n d := ⟨_, rfl⟩
  rw [← hF]
  by_cases hd0 : d = 0
  · subst hd0
    have HV := hide (show F = ⟨0, 1, 15⟩ by rw [hF]; exact ofF_zero n)
    clear hF
    go_enter Tryd.func29, Tryd.ntmps29
    go_wp2_with fail
    refine bodyPost_ret (v := .tuple #[.agg #[.int .i64 0, .int .i64 0], .int .i64 15]) (by simp [results, Tryd.results29, go_sem]) rfl ?_
    exact ⟨by rw [HV.out]; try (first | rfl | simp), by go_grown⟩
  · have HV := hide (show F = redF (decide (n < 0) != decide (d < 0)) n.natAbs d.natAbs by rw [hF]; exact ofF_pos hd0)
    have hde : (d == 0) = false := by simpa using hd0
    have HSN := hide (fun W => size_any n W hn)
    have HSD := hide (fun W => size_any d W hd)
    obtain ⟨a, ha⟩ : ∃ a, a = n.natAbs := ⟨_, rfl⟩
    obtain ⟨b, hb⟩ : ∃ b, b = d.natAbs := ⟨_, rfl⟩
    have hb1 : 1 ≤ b := by omega
    have ha2 : a ≤ 9223372036854775808 := by rw [ha]; exact natAbs_le hn
    have hb2 : b ≤ 9223372036854775808 := by rw [hb]; exact natAbs_le hd
    rw [← ha] at HV HSN
    rw [← hb] at HV HSD
    have hkey : ∀ neg : Bool, (decide (n < 0) != decide (d < 0)) = neg → F = redF neg a b := fun neg h => by rw [HV.out, h]
    have HK := hide hkey
    clear hF hkey ha hb HV
    rcases (show (n < 0 ∧ d < 0) ∨ (n < 0 ∧ ¬ d < 0) ∨ (¬ n < 0 ∧ d < 0) ∨ (¬ n < 0 ∧ ¬ d < 0) by omega) with ⟨s1, s2⟩ | ⟨s1, s2⟩ | ⟨s1, s2⟩ | ⟨s1, s2⟩
    · have HV := hide (HK.out false (by simp [s1, s2]))
      have HRE := hide (fun W => reduced_any false a b W ha2 hb2 hb1)
      rw [← HV.out] at HRE
      go_enter Tryd.func29, Tryd.ntmps29
      go_wp2_with fail
      refine (HSN.out _).mono ?_
      rintro e w1 ⟨rfl, rfl⟩
      go_wp2_with fail
      refine (HSD.out _).mono ?_
      rintro e w1 ⟨rfl, rfl⟩
      go_wp2_with fail
      refine (HRE.out _).mono ?_
      rintro e w2 ⟨rfl, hb⟩
      have HB2 := hide (on_tr HB0.out hb)
      have HT2 := hide (HT0.out.on hb HT0.out.lt)
      clear hb
      have r0 := HT2.out.c0
      have r1 := HT2.out.c1
      have f0 := HT2.out.f0
      have f1 := HT2.out.f1
      have d0 := (HT2.out.set F.n (F.d - 1)).c0
      have d1 := (HT2.out.set F.n (F.d - 1)).c1
      go_wp2_with fail
      refine bodyPost_ret (v := .tuple #[.agg #[.int .i64 F.n, .int .i64 (F.d - 1)], .int .i64 F.e]) (by simp [results, Tryd.results29, go_sem, d0, d1]) rfl ?_
      exact ⟨rfl, (HB2.out.setCell (by simp) _).setCell (by simp) _⟩
    · have HV := hide (HK.out true (by simp [s1, s2]))
      have HRE := hide (fun W => reduced_any true a b W ha2 hb2 hb1)
      rw [← HV.out] at HRE
      go_enter Tryd.func29, Tryd.ntmps29
      go_wp2_with fail
      refine (HSN.out _).mono ?_
      rintro e w1 ⟨rfl, rfl⟩
      go_wp2_with fail
      refine (HSD.out _).mono ?_
      rintro e w1 ⟨rfl, rfl⟩
      go_wp2_with fail
      refine (HRE.out _).mono ?_
      rintro e w2 ⟨rfl, hb⟩
      have HB2 := hide (on_tr HB0.out hb)
      have HT2 := hide (HT0.out.on hb HT0.out.lt)
      clear hb
      have r0 := HT2.out.c0
      have r1 := HT2.out.c1
      have f0 := HT2.out.f0
      have f1 := HT2.out.f1
      have d0 := (HT2.out.set F.n (F.d - 1)).c0
      have d1 := (HT2.out.set F.n (F.d - 1)).c1
      go_wp2_with fail
      refine bodyPost_ret (v := .tuple #[.agg #[.int .i64 F.n, .int .i64 (F.d - 1)], .int .i64 F.e]) (by simp [results, Tryd.results29, go_sem, d0, d1]) rfl ?_
      exact ⟨rfl, (HB2.out.setCell (by simp) _).setCell (by simp) _⟩
    · have HV := hide (HK.out true (by simp [s1, s2]))
      have HRE := hide (fun W => reduced_any true a b W ha2 hb2 hb1)
      rw [← HV.out] at HRE
      go_enter Tryd.func29, Tryd.ntmps29
      go_wp2_with fail
      refine (HSN.out _).mono ?_
      rintro e w1 ⟨rfl, rfl⟩
      go_wp2_with fail
      refine (HSD.out _).mono ?_
      rintro e w1 ⟨rfl, rfl⟩
      go_wp2_with fail
      refine (HRE.out _).mono ?_
      rintro e w2 ⟨rfl, hb⟩
      have HB2 := hide (on_tr HB0.out hb)
      have HT2 := hide (HT0.out.on hb HT0.out.lt)
      clear hb
      have r0 := HT2.out.c0
      have r1 := HT2.out.c1
      have f0 := HT2.out.f0
      have f1 := HT2.out.f1
      have d0 := (HT2.out.set F.n (F.d - 1)).c0
      have d1 := (HT2.out.set F.n (F.d - 1)).c1
      go_wp2_with fail
      refine bodyPost_ret (v := .tuple #[.agg #[.int .i64 F.n, .int .i64 (F.d - 1)], .int .i64 F.e]) (by simp [results, Tryd.results29, go_sem, d0, d1]) rfl ?_
      exact ⟨rfl, (HB2.out.setCell (by simp) _).setCell (by simp) _⟩
    · have HV := hide (HK.out false (by simp [s1, s2]))
      have HRE := hide (fun W => reduced_any false a b W ha2 hb2 hb1)
      rw [← HV.out] at HRE
      go_enter Tryd.func29, Tryd.ntmps29
      go_wp2_with fail
      refine (HSN.out _).mono ?_
      rintro e w1 ⟨rfl, rfl⟩
      go_wp2_with fail
      refine (HSD.out _).mono ?_
      rintro e w1 ⟨rfl, rfl⟩
      go_wp2_with fail
      refine (HRE.out _).mono ?_
      rintro e w2 ⟨rfl, hb⟩
      have HB2 := hide (on_tr HB0.out hb)
      have HT2 := hide (HT0.out.on hb HT0.out.lt)
      clear hb
      have r0 := HT2.out.c0
      have r1 := HT2.out.c1
      have f0 := HT2.out.f0
      have f1 := HT2.out.f1
      have d0 := (HT2.out.set F.n (F.d - 1)).c0
      have d1 := (HT2.out.set F.n (F.d - 1)).c1
      go_wp2_with fail
      refine bodyPost_ret (v := .tuple #[.agg #[.int .i64 F.n, .int .i64 (F.d - 1)], .int .i64 F.e]) (by simp [results, Tryd.results29, go_sem, d0, d1]) rfl ?_
      exact ⟨rfl, (HB2.out.setCell (by simp) _).setCell (by simp) _⟩

set_option maxHeartbeats 1000000 in
theorem Int_any (n : Int) (w : World) (hn : i64r n) :
    Calls Tryd.prog 30 #[.int .i64 n] w fun e w' => e = .returned (.tuple #[.agg #[.int .i64 (ofF n 1).n, .int .i64 ((ofF n 1).d - 1)], .int .i64 (ofF n 1).e]) ∧ Below w.heap.size w w' := by
  have HT0 := hide (Two.new w 0 0 24)
  have HB0 := hide ((Below.refl w.heap.size w).alloc (Nat.le_refl _) (.cells #[.int .i64 0, .int .i64 0] 24))
  have HOF := hide (fun W => Of_any n 1 W hn ⟨by omega, by omega⟩)
  obtain ⟨F, hF⟩ : ∃ F, F = ofF n 1 := ⟨_, rfl⟩
  rw [← hF] at HOF
  rw [← hF]
  clear hF
  go_enter Tryd.func30, Tryd.ntmps30
  go_wp2_with fail
  refine (HOF.out _).mono ?_
  rintro e w2 ⟨rfl, hb⟩
  have HB2 := hide (on_tr HB0.out hb)
  have HT2 := hide (HT0.out.on hb HT0.out.lt)
  clear hb
  have r0 := HT2.out.c0
  have r1 := HT2.out.c1
  have f0 := HT2.out.f0
  have f1 := HT2.out.f1
  have d0 := (HT2.out.set F.n (F.d - 1)).c0
  have d1 := (HT2.out.set F.n (F.d - 1)).c1
  go_wp2_with fail
  refine bodyPost_ret (v := .tuple #[.agg #[.int .i64 F.n, .int .i64 (F.d - 1)], .int .i64 F.e]) (by simp [results, Tryd.results30, go_sem, d0, d1]) rfl ?_
  exact ⟨rfl, (HB2.out.setCell (by simp) _).setCell (by simp) _⟩

set_option maxHeartbeats 1000000 in
theorem Num_any (n d : Int) (w : World) : Calls Tryd.prog 39 #[.agg #[.int .i64 n, .int .i64 d]] w fun e w' => e = .returned (.int .i64 n) ∧ Below w.heap.size w w' := by
  go_enter Tryd.func39, Tryd.ntmps39
  go_wp2_with fail
  go_ret
  exact ⟨rfl, by go_grown⟩

set_option maxHeartbeats 1000000 in
theorem Den_any (n d : Int) (w : World) (h : -2 ≤ d) (h2 : d ≤ 9223372036854775806) : Calls Tryd.prog 40 #[.agg #[.int .i64 n, .int .i64 (d - 1)]] w fun e w' => e = .returned (.int .i64 d) ∧ Below w.heap.size w w' := by
  have i1 : IntKind.i64.wrap (d - 1 + 1) = d := by rw [show d - 1 + 1 = d by omega]; exact IntWalk.i64_in _ (by omega)
  go_enter Tryd.func40, Tryd.ntmps40
  go_wp2_with fail
  go_ret
  exact ⟨by first | rfl | (rw [i1]; rfl) | simp [i1], by go_grown⟩

end Go.Proofs.YtfappkhohddcjaaDoor
