/- The law SpringSums, walked. -/
import Derived.Test.YtcnejnaeahffhaaRef30
import Derived.Test.YtcnejnaeahffhaaSpPub
import Derived.Test.YtcnejnaeahffhaaDec30
namespace Go.Proofs.Ytcnejnaeahffhaa
open Go.RowKit

set_option maxRecDepth 100000 in
set_option maxHeartbeats 2000000 in
theorem sums_law (A : Option Addr) (n c : Nat) (l : List Spr) (w : World) (hn : n = l.length) (h : Rds w w.heap.size A (sprs l)) :
    Calls Try.prog 7 #[.slice A n c] w fun e w' => e = .returned (.bool true) ∧ Below w.heap.size w w' := by
  have HN := hide hn
  have HR := hide h
  clear hn h
  rcases (show 30 < n ∨ n ≤ 30 by omega) with h30 | h30
  · go_enter Try.func7, Try.ntmps7
    go_wp2_with fail
    refine (known_any _).mono ?_
    rintro e w1 ⟨rfl, hb1⟩
    go_wp2_with fail
    refine (known_any _).mono ?_
    rintro e w2 ⟨rfl, hb2⟩
    have hb := find1_tr hb1 hb2
    clear hb1 hb2
    go_wp2_with fail
    go_ret
    exact ⟨rfl, hb⟩
  · by_cases he : spErr l = 0
    · have HE := hide he
      have HOK := hide (spErr_all l he).2
      have HZ := hide (lens_zero (l := l) fun s hs => (Spr.ok_of ((spErr_all l he).2 s hs)).2.2.1)
      obtain ⟨S, hS⟩ : ∃ S, S = lens l 1 1 := ⟨_, rfl⟩
      obtain ⟨M, hM⟩ : ∃ M, M = mins l := ⟨_, rfl⟩
      have HO1 := hide (show okOr l (lens l 1 1) = S by rw [okOr, if_pos he, hS])
      have HO2 := hide (show okOr l (mins l) = M by rw [okOr, if_pos he, hM])
      rw [← hM] at HZ
      have HS := hide hS
      clear he hS hM
      go_enter Try.func7, Try.ntmps7
      go_wp2_with fail
      refine (known_any _).mono ?_
      rintro e w1 ⟨rfl, hb1⟩
      go_wp2_with fail
      refine (rcheck_any A n c l _ HN.out (by omega) (Rds.on2 HR.out hb1)).mono ?_
      rw [HE.out]
      rintro e w2 ⟨rfl, rfl⟩
      go_wp2_with fail
      refine (own_any A n c l _ HN.out (by omega) (Rds.on2 HR.out hb1)).mono ?_
      rintro e w2 ⟨A2, c2, rfl, hr2, hb2⟩
      have hb2 := find1_tr hb1 hb2
      clear hb1
      go_wp2_with fail
      refine (NaturalSp_any A2 n c2 l _ HN.out (by omega) hr2).mono ?_
      rw [HO1.out, HE.out]
      rintro e w3 ⟨rfl, hb3⟩
      have hb3 := find1_tr hb2 hb3
      clear hb2 hr2
      go_wp2_with fail
      refine (own_any A n c l _ HN.out (by omega) (Rds.on2 HR.out hb3)).mono ?_
      rintro e w4 ⟨A4, c4, rfl, hr4, hb4⟩
      have hb4 := find1_tr hb3 hb4
      clear hb3
      go_wp2_with fail
      refine (Minimal_any A4 n c4 l _ HN.out (by omega) hr4).mono ?_
      rw [HO2.out, HE.out]
      rintro e w5 ⟨rfl, hb5⟩
      have hb5 := find1_tr hb4 hb5
      clear hb4 hr4
      go_wp2_with fail
      refine (own_any A n c l _ HN.out (by omega) (Rds.on2 HR.out hb5)).mono ?_
      rintro e w6 ⟨A6, c6, rfl, hr6, hb6⟩
      have hb6 := find1_tr hb5 hb6
      clear hb5
      go_wp2_with fail
      refine (spCheck_any A6 n c6 l _ HN.out (by omega) hr6).mono ?_
      rw [HE.out]
      rintro e w7 ⟨rfl, hb7⟩
      have hb7 := find1_tr hb6 hb7
      clear hb6 hr6
      go_wp2_with fail
      refine (rtotal_any A n c l 1 1 _ HN.out (by omega) (Rds.on2 HR.out hb7) HOK.out (by omega) (by omega) (by omega) (by omega)).mono ?_
      rw [← HS.out]
      rintro e w8 ⟨rfl, hb8⟩
      have hb8 := find1_tr hb7 hb8
      clear hb7
      go_wp2_with fail
      refine (rtotal_any A n c l 0 1 _ HN.out (by omega) (Rds.on2 HR.out hb8) HOK.out (by omega) (by omega) (by omega) (by omega)).mono ?_
      rw [HZ.out]
      rintro e w9 ⟨rfl, hb9⟩
      have hb9 := find1_tr hb8 hb9
      clear hb8
      go_wp2_with fail
      go_ret
      exact ⟨rfl, hb9⟩
    · have HO1 := hide (fun v => show okOr l v = 0 by rw [okOr, if_neg he])
      obtain ⟨r, hr⟩ : ∃ r, r = spErr l := ⟨_, rfl⟩
      have hr2 : (r != 0) = true := by rw [hr]; simpa using he
      have HRR := hide hr
      clear he hr
      go_enter Try.func7, Try.ntmps7
      go_wp2_with fail
      refine (known_any _).mono ?_
      rintro e w1 ⟨rfl, hb1⟩
      go_wp2_with fail
      refine (rcheck_any A n c l _ HN.out (by omega) (Rds.on2 HR.out hb1)).mono ?_
      rw [← HRR.out]
      rintro e w2 ⟨rfl, rfl⟩
      go_wp2_with fail
      refine (own_any A n c l _ HN.out (by omega) (Rds.on2 HR.out hb1)).mono ?_
      rintro e w2 ⟨A2, c2, rfl, hr2', hb2⟩
      have hb2 := find1_tr hb1 hb2
      clear hb1
      go_wp2_with fail
      refine (NaturalSp_any A2 n c2 l _ HN.out (by omega) hr2').mono ?_
      rw [HO1.out, ← HRR.out]
      rintro e w3 ⟨rfl, hb3⟩
      have hb3 := find1_tr hb2 hb3
      clear hb2 hr2'
      go_wp2_with fail
      refine (own_any A n c l _ HN.out (by omega) (Rds.on2 HR.out hb3)).mono ?_
      rintro e w4 ⟨A4, c4, rfl, hr4, hb4⟩
      have hb4 := find1_tr hb3 hb4
      clear hb3
      go_wp2_with fail
      refine (Minimal_any A4 n c4 l _ HN.out (by omega) hr4).mono ?_
      rw [HO1.out, ← HRR.out]
      rintro e w5 ⟨rfl, hb5⟩
      have hb5 := find1_tr hb4 hb5
      clear hb4 hr4
      go_wp2_with fail
      refine (own_any A n c l _ HN.out (by omega) (Rds.on2 HR.out hb5)).mono ?_
      rintro e w6 ⟨A6, c6, rfl, hr6, hb6⟩
      have hb6 := find1_tr hb5 hb6
      clear hb5
      go_wp2_with fail
      refine (spCheck_any A6 n c6 l _ HN.out (by omega) hr6).mono ?_
      rw [← HRR.out]
      rintro e w7 ⟨rfl, hb7⟩
      have hb7 := find1_tr hb6 hb7
      clear hb6 hr6
      go_wp2_with fail
      go_ret
      exact ⟨rfl, hb7⟩

theorem springSums_walk {w : World} (a : Sl Spr) (ha : Sl.Good Spr.cells Spr.wf w a) :
    Calls Try.prog 7 #[.slice a.A a.n a.c] w fun e w' => e = .returned (.bool true) ∧ Below w.heap.size w w' :=
  sums_law a.A a.n a.c a.l w ha.len ha.rds

end Go.Proofs.Ytcnejnaeahffhaa
