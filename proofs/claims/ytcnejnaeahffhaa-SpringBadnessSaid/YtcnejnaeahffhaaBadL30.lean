/- The reference's Badness; the law SpringBadness, walked. -/
import Derived.Test.YtcnejnaeahffhaaBad30
import Derived.Test.YtcnejnaeahffhaaDec30
namespace Go.Proofs.Ytcnejnaeahffhaa
open Go.RowKit

set_option maxRecDepth 100000 in
set_option maxHeartbeats 2000000 in
theorem rbad_any (A : Option Addr) (n c : Nat) (l : List Spr) (width : Int) (w : World) (hn : n = l.length) (hm : n ≤ 8192) (h : Rds w w.heap.size A (sprs l)) (hok : ∀ s ∈ l, s.ok)
    (hw0 : 0 ≤ width) (hw1 : width ≤ 67108864) (hmin : mins l ≤ width) :
    Calls Try.prog 29 #[.slice A n c, .int .i64 width] w fun e w' => e = .returned (.int .i64 (badF (lens l 1 1) (mins l) width)) ∧ Below w.heap.size w w' := by
  have HN := hide hn
  have HR := hide h
  have HOK := hide hok
  have hS2 := lens11_bnd hok
  have hSb := lens_bnd l 1 1 hok (by omega) (by omega) (by omega)
  have hMb := mins_bnd l hok
  obtain ⟨S, hS⟩ : ∃ S, S = lens l 1 1 := ⟨_, rfl⟩
  obtain ⟨M, hM⟩ : ∃ M, M = mins l := ⟨_, rfl⟩
  rw [← hS] at hSb hS2
  rw [← hM] at hMb hmin
  rw [← hS, ← hM]
  have HT1 := hide (fun W (hW : Rds W W.heap.size A (sprs l)) => show Calls Try.prog 14 #[.slice A n c, .int .i64 1, .int .i64 1] W fun e w' => e = .returned (.int .i64 S) ∧ Below W.heap.size W w' from by rw [hS]; exact rtotal_any A n c l 1 1 W HN.out hm hW HOK.out (by omega) (by omega) (by omega) (by omega))
  have HT0 := hide (fun W (hW : Rds W W.heap.size A (sprs l)) => show Calls Try.prog 14 #[.slice A n c, .int .i64 0, .int .i64 1] W fun e w' => e = .returned (.int .i64 M) ∧ Below W.heap.size W w' from by
    have := rtotal_any A n c l 0 1 W HN.out hm hW HOK.out (by omega) (by omega) (by omega) (by omega)
    rw [lens_zero fun s hs => (Spr.ok_of (HOK.out s hs)).2.2.1, ← hM] at this
    exact this)
  have S1 : S ≤ 1048576 * 8192 := by omega
  have S0 : 0 ≤ S := hSb.1
  have M0 : 0 ≤ M := hMb.1
  clear hn h hok hS hM hSb hMb hS2
  have key : ∃ r : Int, badR S M width = r ∧ 0 ≤ r ∧ r ≤ 10000 ∧ ((S < width ∧ S = 0 ∧ r = 10000) ∨ (S < width ∧ 0 < S ∧ r = min 10000 (1000 * (width - S) / S)) ∨ (width < S ∧ r = 1000 * (S - width) / (S - M)) ∨ (width = S ∧ r = 0)) := by
    refine ⟨_, rfl, ?_⟩
    unfold badR
    by_cases h1 : S < width
    · rw [if_pos h1]
      by_cases h2 : S = 0
      · rw [if_pos h2]; exact ⟨by omega, by omega, .inl ⟨h1, h2, rfl⟩⟩
      · rw [if_neg h2]
        have h3 : 0 ≤ 1000 * (width - S) / S := Int.ediv_nonneg (by omega) S0
        exact ⟨by omega, by omega, .inr (.inl ⟨h1, by omega, rfl⟩)⟩
    · rw [if_neg h1]
      by_cases h2 : width < S
      · rw [if_pos h2]
        have h3 : 0 ≤ 1000 * (S - width) / (S - M) := Int.ediv_nonneg (by omega) (by omega)
        have h4 : 1000 * (S - width) / (S - M) ≤ 1000 := Int.ediv_le_of_le_mul (show 0 < S - M by omega) (by omega)
        exact ⟨h3, by omega, .inr (.inr (.inl ⟨h2, rfl⟩))⟩
      · rw [if_neg h2]; exact ⟨by omega, by omega, .inr (.inr (.inr ⟨by omega, rfl⟩))⟩
  obtain ⟨r, hr, r0, r1, hcase⟩ := key
  obtain ⟨c0, c1, c2, c3⟩ := cube_bnd r0 r1
  obtain ⟨d, hd⟩ : ∃ d, d = r * r * r / 10000000 := ⟨_, rfl⟩
  have d0 : 0 ≤ d := by rw [hd]; exact Int.ediv_nonneg c2 (by omega)
  have d1 : d ≤ 1000000000000 := by have := Int.ediv_le_self 10000000 c2; omega
  have HF := hide (show badF S M width = min 10000 d by rw [badF, hr, hd])
  have e1 : IntKind.i64.wrap (r * r) = r * r := IntWalk.i64_in _ (by omega)
  have e2 : IntKind.i64.wrap (r * r * r) = r * r * r := IntWalk.i64_in _ (by omega)
  have e3 : (r * r * r).tdiv 10000000 = d := by rw [hd]; exact Int.tdiv_eq_ediv_of_nonneg c2
  have e4 : IntKind.i64.wrap d = d := IntWalk.i64_in _ (by omega)
  have HD := hide hd
  clear hr hd
  rcases hcase with ⟨h1, h2, h3⟩ | ⟨h1, h2, h3⟩ | ⟨h1, h2⟩ | ⟨h1, h2⟩
  · subst h2 h3
    have hd5 : d = 100000 := by rw [HD.out]; rfl
    clear e1 e2 e3 e4
    go_enter Try.func29, Try.ntmps29
    have HB0 := hide (Below.refl w.heap.size w)
    go_wp2_with fail
    refine (HT1.out _ (Rds.on2 HR.out HB0.out)).mono ?_
    rintro e w1 ⟨rfl, hb⟩
    have HB1 := hide (find1_tr HB0.out hb)
    clear hb
    go_wp2_with fail
    refine (HT0.out _ (Rds.on2 HR.out HB1.out)).mono ?_
    rintro e w2 ⟨rfl, hb⟩
    have HB2 := hide (find1_tr HB1.out hb)
    clear hb
    go_wp2_with fail
    go_ret
    exact ⟨ret_int (by rw [HF.out, hd5]; try rfl), HB2.out⟩
  · obtain ⟨q, hq⟩ : ∃ q, q = 1000 * (width - S) / S := ⟨_, rfl⟩
    rw [← hq] at h3
    have q1 : q ≤ 1000 * (width - S) := by rw [hq]; exact Int.ediv_le_self _ (by omega)
    have q0 : 0 ≤ q := by rw [hq]; exact Int.ediv_nonneg (by omega) S0
    have j0 : IntKind.i64.wrap (width - S) = width - S := IntWalk.i64_in _ (by omega)
    have j1 : IntKind.i64.wrap (1000 * (width - S)) = 1000 * (width - S) := IntWalk.i64_in _ (by omega)
    have j2 : (1000 * (width - S)).tdiv S = q := by rw [hq]; exact Int.tdiv_eq_ediv_of_nonneg (by omega)
    have j3 : IntKind.i64.wrap q = q := IntWalk.i64_in _ (by omega)
    have j4 : ¬ S = 0 := by omega
    have j5 : min 10000 q = r := h3.symm
    have j6 : ¬ width < S := by omega
    clear hq h3
    go_enter Try.func29, Try.ntmps29
    have HB0 := hide (Below.refl w.heap.size w)
    go_wp2_with fail
    refine (HT1.out _ (Rds.on2 HR.out HB0.out)).mono ?_
    rintro e w1 ⟨rfl, hb⟩
    have HB1 := hide (find1_tr HB0.out hb)
    clear hb
    go_wp2_with fail
    refine (HT0.out _ (Rds.on2 HR.out HB1.out)).mono ?_
    rintro e w2 ⟨rfl, hb⟩
    have HB2 := hide (find1_tr HB1.out hb)
    clear hb
    go_wp2_with fail
    go_ret
    exact ⟨ret_int (by rw [HF.out]), HB2.out⟩
  · have j0 : IntKind.i64.wrap (S - width) = S - width := IntWalk.i64_in _ (by omega)
    have j1 : IntKind.i64.wrap (1000 * (S - width)) = 1000 * (S - width) := IntWalk.i64_in _ (by omega)
    have j2 : IntKind.i64.wrap (S - M) = S - M := IntWalk.i64_in _ (by omega)
    have j3 : (1000 * (S - width)).tdiv (S - M) = r := by rw [h2]; exact Int.tdiv_eq_ediv_of_nonneg (by omega)
    have j4 : IntKind.i64.wrap r = r := IntWalk.i64_in _ (by omega)
    have j5 : ¬ S - M = 0 := by omega
    have j6 : ¬ S < width := by omega
    clear h2
    go_enter Try.func29, Try.ntmps29
    have HB0 := hide (Below.refl w.heap.size w)
    go_wp2_with fail
    refine (HT1.out _ (Rds.on2 HR.out HB0.out)).mono ?_
    rintro e w1 ⟨rfl, hb⟩
    have HB1 := hide (find1_tr HB0.out hb)
    clear hb
    go_wp2_with fail
    refine (HT0.out _ (Rds.on2 HR.out HB1.out)).mono ?_
    rintro e w2 ⟨rfl, hb⟩
    have HB2 := hide (find1_tr HB1.out hb)
    clear hb
    go_wp2_with fail
    go_ret
    exact ⟨ret_int (by rw [HF.out]), HB2.out⟩
  · subst h1 h2
    have hd5 : d = 0 := by rw [HD.out]; rfl
    clear e1 e2 e3 e4
    go_enter Try.func29, Try.ntmps29
    have HB0 := hide (Below.refl w.heap.size w)
    go_wp2_with fail
    refine (HT1.out _ (Rds.on2 HR.out HB0.out)).mono ?_
    rintro e w1 ⟨rfl, hb⟩
    have HB1 := hide (find1_tr HB0.out hb)
    clear hb
    go_wp2_with fail
    refine (HT0.out _ (Rds.on2 HR.out HB1.out)).mono ?_
    rintro e w2 ⟨rfl, hb⟩
    have HB2 := hide (find1_tr HB1.out hb)
    clear hb
    go_wp2_with fail
    go_ret
    exact ⟨ret_int (by rw [HF.out, hd5]; try rfl), HB2.out⟩

set_option maxRecDepth 100000 in
set_option maxHeartbeats 2000000 in
theorem badness_law (A : Option Addr) (n c : Nat) (l : List Spr) (width : Int) (w : World) (hn : n = l.length) (h : Rds w w.heap.size A (sprs l)) :
    Calls Try.prog 9 #[.slice A n c, .int .i64 width] w fun e w' => e = .returned (.bool true) ∧ Below w.heap.size w w' := by
  have HN := hide hn
  have HR := hide h
  clear hn h
  rcases (show 8 < n ∨ n ≤ 8 by omega) with h30 | h30
  · go_enter Try.func9, Try.ntmps9
    have HB0 := hide (Below.refl w.heap.size w)
    go_wp2_with fail
    refine (known_any _).mono ?_
    rintro e w1 ⟨rfl, hb⟩
    have HB1 := hide (find1_tr HB0.out hb)
    clear hb
    go_wp2_with fail
    refine (known_any _).mono ?_
    rintro e w2 ⟨rfl, hb⟩
    have HB2 := hide (find1_tr HB1.out hb)
    clear hb
    go_wp2_with fail
    go_ret
    exact ⟨rfl, HB2.out⟩
  · by_cases he : spErr l = 0
    · have HE := hide he
      have HOK := hide (spErr_all l he).2
      have HNM := hide (show ∀ s ∈ l, 0 ≤ s.n ∧ 0 ≤ s.m from fun s hs => ⟨(Spr.ok_of (HOK.out s hs)).1, (Spr.ok_of (HOK.out s hs)).2.2.1⟩)
      obtain ⟨M, hM⟩ : ∃ M, M = mins l := ⟨_, rfl⟩
      have HT := hide (fun W (hW : Rds W W.heap.size A (sprs l)) => show Calls Try.prog 14 #[.slice A n c, .int .i64 0, .int .i64 1] W fun e w' => e = .returned (.int .i64 M) ∧ Below W.heap.size W w' from by
        have := rtotal_any A n c l 0 1 W HN.out (by omega) hW HOK.out (by omega) (by omega) (by omega) (by omega)
        rw [lens_zero fun s hs => (Spr.ok_of (HOK.out s hs)).2.2.1, ← hM] at this
        exact this)
      have HM := hide hM
      clear he
      rcases (show width < 0 ∨ (0 ≤ width ∧ 67108864 < width) ∨ (0 ≤ width ∧ width ≤ 67108864 ∧ width < M) ∨ (0 ≤ width ∧ width ≤ 67108864 ∧ M ≤ width) by omega) with h1 | ⟨h1, h2⟩ | ⟨h1, h2, h3⟩ | ⟨h1, h2, h3⟩
      · clear hM
        go_enter Try.func9, Try.ntmps9
        have HB0 := hide (Below.refl w.heap.size w)
        go_wp2_with fail
        refine (known_any _).mono ?_
        rintro e w1 ⟨rfl, hb⟩
        have HB1 := hide (find1_tr HB0.out hb)
        clear hb
        go_wp2_with fail
        refine (rcheck_any A n c l _ HN.out (by omega) (Rds.on2 HR.out HB1.out)).mono ?_
        rw [HE.out]
        rintro e w101 ⟨rfl, rfl⟩
        go_wp2_with fail
        refine (known_any _).mono ?_
        rintro e w2 ⟨rfl, hb⟩
        have HB2 := hide (find1_tr HB1.out hb)
        clear hb
        go_wp2_with fail
        go_ret
        exact ⟨rfl, HB2.out⟩
      · clear hM
        go_enter Try.func9, Try.ntmps9
        have HB0 := hide (Below.refl w.heap.size w)
        go_wp2_with fail
        refine (known_any _).mono ?_
        rintro e w1 ⟨rfl, hb⟩
        have HB1 := hide (find1_tr HB0.out hb)
        clear hb
        go_wp2_with fail
        refine (rcheck_any A n c l _ HN.out (by omega) (Rds.on2 HR.out HB1.out)).mono ?_
        rw [HE.out]
        rintro e w101 ⟨rfl, rfl⟩
        go_wp2_with fail
        refine (known_any _).mono ?_
        rintro e w2 ⟨rfl, hb⟩
        have HB2 := hide (find1_tr HB1.out hb)
        clear hb
        go_wp2_with fail
        go_ret
        exact ⟨rfl, HB2.out⟩
      · have HFE := hide (show fitErr l width = 28 by rw [fitErr, if_neg (by rw [HE.out]; simp), if_neg (by omega), if_pos (by rw [← hM]; exact h3)])
        have HF := hide (show fitErr l width ≠ 0 by rw [HFE.out]; omega)
        clear hM
        go_enter Try.func9, Try.ntmps9
        have HB0 := hide (Below.refl w.heap.size w)
        go_wp2_with fail
        refine (known_any _).mono ?_
        rintro e w1 ⟨rfl, hb⟩
        have HB1 := hide (find1_tr HB0.out hb)
        clear hb
        go_wp2_with fail
        refine (rcheck_any A n c l _ HN.out (by omega) (Rds.on2 HR.out HB1.out)).mono ?_
        rw [HE.out]
        rintro e w101 ⟨rfl, rfl⟩
        go_wp2_with fail
        refine (own_any A n c l _ HN.out (by omega) (Rds.on2 HR.out HB1.out)).mono ?_
        rintro e w2 ⟨A1, c1, rfl, hr1, hb⟩
        have HB2 := hide (find1_tr HB1.out hb)
        clear hb
        go_wp2_with fail
        refine (Badness_err A1 n c1 l width _ HN.out (by omega) hr1 HF.out).mono ?_
        rw [HFE.out]
        rintro e w3 ⟨rfl, hb⟩
        have HB3 := hide (find1_tr HB2.out hb)
        clear hb
        go_wp2_with fail
        refine (HT.out _ (Rds.on2 HR.out HB3.out)).mono ?_
        rintro e w4 ⟨rfl, hb⟩
        have HB4 := hide (find1_tr HB3.out hb)
        clear hb
        go_wp2_with fail
        go_ret
        exact ⟨rfl, HB4.out⟩
      · have HFE := hide (show fitErr l width = 0 by rw [fitErr, if_neg (by rw [HE.out]; simp), if_neg (by omega), if_neg (by rw [← hM]; omega)])
        have h4 : ¬ width < M := by omega
        have hmw : mins l ≤ width := by rw [← hM]; exact h3
        have HMW := hide hmw
        obtain ⟨bd, hbd⟩ : ∃ bd, bd = badF (lens l 1 1) (mins l) width := ⟨_, rfl⟩
        have HBD := hide hbd
        clear hM hmw hbd
        go_enter Try.func9, Try.ntmps9
        have HB0 := hide (Below.refl w.heap.size w)
        go_wp2_with fail
        refine (known_any _).mono ?_
        rintro e w1 ⟨rfl, hb⟩
        have HB1 := hide (find1_tr HB0.out hb)
        clear hb
        go_wp2_with fail
        refine (rcheck_any A n c l _ HN.out (by omega) (Rds.on2 HR.out HB1.out)).mono ?_
        rw [HE.out]
        rintro e w101 ⟨rfl, rfl⟩
        go_wp2_with fail
        refine (own_any A n c l _ HN.out (by omega) (Rds.on2 HR.out HB1.out)).mono ?_
        rintro e w2 ⟨A1, c1, rfl, hr1, hb⟩
        have HB2 := hide (find1_tr HB1.out hb)
        clear hb
        go_wp2_with fail
        refine (Badness_ok A1 n c1 l width _ HN.out hr1 HFE.out).mono ?_
        rw [← HBD.out]
        rintro e w3 ⟨rfl, hb⟩
        have HB3 := hide (find1_tr HB2.out hb)
        clear hb
        go_wp2_with fail
        refine (HT.out _ (Rds.on2 HR.out HB3.out)).mono ?_
        rintro e w4 ⟨rfl, hb⟩
        have HB4 := hide (find1_tr HB3.out hb)
        clear hb
        go_wp2_with fail
        refine (rbad_any A n c l width _ HN.out (by omega) (Rds.on2 HR.out HB4.out) HOK.out h1 h2 HMW.out).mono ?_
        rw [← HBD.out]
        rintro e w5 ⟨rfl, hb⟩
        have HB5 := hide (find1_tr HB4.out hb)
        clear hb
        go_wp2_with fail
        go_ret
        exact ⟨rfl, HB5.out⟩
    · obtain ⟨r, hr⟩ : ∃ r, r = spErr l := ⟨_, rfl⟩
      have hr2 : (r != 0) = true := by rw [hr]; simpa using he
      have HRR := hide hr
      clear he hr
      go_enter Try.func9, Try.ntmps9
      have HB0 := hide (Below.refl w.heap.size w)
      go_wp2_with fail
      refine (known_any _).mono ?_
      rintro e w1 ⟨rfl, hb⟩
      have HB1 := hide (find1_tr HB0.out hb)
      clear hb
      go_wp2_with fail
      refine (rcheck_any A n c l _ HN.out (by omega) (Rds.on2 HR.out HB1.out)).mono ?_
      rw [← HRR.out]
      rintro e w101 ⟨rfl, rfl⟩
      go_wp2_with fail
      refine (known_any _).mono ?_
      rintro e w2 ⟨rfl, hb⟩
      have HB2 := hide (find1_tr HB1.out hb)
      clear hb
      go_wp2_with fail
      go_ret
      exact ⟨rfl, HB2.out⟩

theorem springBadness_walk {w : World} (a : Sl Spr) (ha : Sl.Good Spr.cells Spr.wf w a) (x : Int) (_ : (Lit.int .i64 x).wf = true) :
    Calls Try.prog 9 #[.slice a.A a.n a.c, .int .i64 x] w fun e w' => e = .returned (.bool true) ∧ Below w.heap.size w w' :=
  badness_law a.A a.n a.c a.l x w ha.len ha.rds

end Go.Proofs.Ytcnejnaeahffhaa
