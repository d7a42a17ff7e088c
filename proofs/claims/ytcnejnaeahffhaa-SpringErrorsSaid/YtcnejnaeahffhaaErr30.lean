/- The law SpringErrors, walked. -/
import Derived.Test.YtcnejnaeahffhaaBad30
import Derived.Test.YtcnejnaeahffhaaDec30
namespace Go.Proofs.Ytcnejnaeahffhaa
open Go.RowKit

set_option maxRecDepth 100000 in
set_option maxHeartbeats 2000000 in
theorem errors_law (A : Option Addr) (n c : Nat) (l : List Spr) (width : Int) (w : World) (hn : n = l.length) (h : Rds w w.heap.size A (sprs l)) :
    Calls Try.prog 10 #[.slice A n c, .int .i64 width] w fun e w' => e = .returned (.bool true) ∧ Below w.heap.size w w' := by
  have HN := hide hn
  have HR := hide h
  clear hn h
  rcases (show 8 < n ∨ n ≤ 8 by omega) with h30 | h30
  · go_enter Try.func10, Try.ntmps10
    have HB0 := hide (Below.refl w.heap.size w)
    go_wp2_with fail
    refine (known_any _).mono ?_
    rintro e w1 ⟨rfl, hb⟩
    have HB1 := hide (find1_tr HB0.out hb)
    clear hb
    go_wp2_with fail
    refine (known_any _).mono ?_
    rintro e w2 ⟨rfl, hb⟩
    have HB2 := hide (find1_tr HB1.out hb)
    clear hb
    go_wp2_with fail
    go_ret
    exact ⟨rfl, HB2.out⟩
  · by_cases he : spErr l = 0
    · have HE := hide he
      have HOK := hide (spErr_all l he).2
      have hl8 := (spErr_all l he).1
      obtain ⟨M, hM⟩ : ∃ M, M = mins l := ⟨_, rfl⟩
      have HT := hide (fun W (hW : Rds W W.heap.size A (sprs l)) => show Calls Try.prog 14 #[.slice A n c, .int .i64 0, .int .i64 1] W fun e w' => e = .returned (.int .i64 M) ∧ Below W.heap.size W w' from by
        have := rtotal_any A n c l 0 1 W HN.out (by omega) hW HOK.out (by omega) (by omega) (by omega) (by omega)
        rw [lens_zero fun s hs => (Spr.ok_of (HOK.out s hs)).2.2.1, ← hM] at this
        exact this)
      have HM := hide hM
      rcases (show width < 0 ∨ (0 ≤ width ∧ 67108864 < width) ∨ (0 ≤ width ∧ width ≤ 67108864 ∧ width < M) ∨ (0 ≤ width ∧ width ≤ 67108864 ∧ M ≤ width) by omega) with h1 | ⟨h1, h2⟩ | ⟨h1, h2, h3⟩ | ⟨h1, h2, h3⟩
      · have HFE := hide (show fitErr l width = 2 by rw [fitErr, if_neg (by simpa using he), if_pos (by omega)])
        have HF := hide (show fitErr l width ≠ 0 by rw [HFE.out]; omega)
        clear he hM hl8
        go_enter Try.func10, Try.ntmps10
        have HB0 := hide (Below.refl w.heap.size w)
        go_wp2_with fail
        refine (known_any _).mono ?_
        rintro e w1 ⟨rfl, hb⟩
        have HB1 := hide (find1_tr HB0.out hb)
        clear hb
        go_wp2_with fail
        refine (own_any A n c l _ HN.out (by omega) (Rds.on2 HR.out HB1.out)).mono ?_
        rintro e w2 ⟨A1, c1, rfl, hr1, hb⟩
        have HB2 := hide (find1_tr HB1.out hb)
        clear hb
        go_wp2_with fail
        refine (Force_err A1 n c1 l width _ HN.out (by omega) hr1 HF.out).mono ?_
        rw [HFE.out]
        rintro e w3 ⟨rfl, hb⟩
        have HB3 := hide (find1_tr HB2.out hb)
        clear hb
        go_wp2_with fail
        refine (own_any A n c l _ HN.out (by omega) (Rds.on2 HR.out HB3.out)).mono ?_
        rintro e w4 ⟨A3, c3, rfl, hr3, hb⟩
        have HB4 := hide (find1_tr HB3.out hb)
        clear hb
        go_wp2_with fail
        refine (Solve_err A3 n c3 l width _ HN.out (by omega) hr3 HF.out).mono ?_
        rw [HFE.out]
        rintro e w5 ⟨rfl, hb⟩
        have HB5 := hide (find1_tr HB4.out hb)
        clear hb
        go_wp2_with fail
        refine (own_any A n c l _ HN.out (by omega) (Rds.on2 HR.out HB5.out)).mono ?_
        rintro e w6 ⟨A5, c5, rfl, hr5, hb⟩
        have HB6 := hide (find1_tr HB5.out hb)
        clear hb
        go_wp2_with fail
        refine (Badness_err A5 n c5 l width _ HN.out (by omega) hr5 HF.out).mono ?_
        rw [HFE.out]
        rintro e w7 ⟨rfl, hb⟩
        have HB7 := hide (find1_tr HB6.out hb)
        clear hb
        go_wp2_with fail
        refine (rcheck_any A n c l _ HN.out (by omega) (Rds.on2 HR.out HB7.out)).mono ?_
        rw [HE.out]
        rintro e w107 ⟨rfl, rfl⟩
        go_wp2_with fail
        go_ret
        exact ⟨rfl, HB7.out⟩
      · have HFE := hide (show fitErr l width = 2 by rw [fitErr, if_neg (by simpa using he), if_pos (by omega)])
        have HF := hide (show fitErr l width ≠ 0 by rw [HFE.out]; omega)
        clear he hM hl8
        go_enter Try.func10, Try.ntmps10
        have HB0 := hide (Below.refl w.heap.size w)
        go_wp2_with fail
        refine (known_any _).mono ?_
        rintro e w1 ⟨rfl, hb⟩
        have HB1 := hide (find1_tr HB0.out hb)
        clear hb
        go_wp2_with fail
        refine (own_any A n c l _ HN.out (by omega) (Rds.on2 HR.out HB1.out)).mono ?_
        rintro e w2 ⟨A1, c1, rfl, hr1, hb⟩
        have HB2 := hide (find1_tr HB1.out hb)
        clear hb
        go_wp2_with fail
        refine (Force_err A1 n c1 l width _ HN.out (by omega) hr1 HF.out).mono ?_
        rw [HFE.out]
        rintro e w3 ⟨rfl, hb⟩
        have HB3 := hide (find1_tr HB2.out hb)
        clear hb
        go_wp2_with fail
        refine (own_any A n c l _ HN.out (by omega) (Rds.on2 HR.out HB3.out)).mono ?_
        rintro e w4 ⟨A3, c3, rfl, hr3, hb⟩
        have HB4 := hide (find1_tr HB3.out hb)
        clear hb
        go_wp2_with fail
        refine (Solve_err A3 n c3 l width _ HN.out (by omega) hr3 HF.out).mono ?_
        rw [HFE.out]
        rintro e w5 ⟨rfl, hb⟩
        have HB5 := hide (find1_tr HB4.out hb)
        clear hb
        go_wp2_with fail
        refine (own_any A n c l _ HN.out (by omega) (Rds.on2 HR.out HB5.out)).mono ?_
        rintro e w6 ⟨A5, c5, rfl, hr5, hb⟩
        have HB6 := hide (find1_tr HB5.out hb)
        clear hb
        go_wp2_with fail
        refine (Badness_err A5 n c5 l width _ HN.out (by omega) hr5 HF.out).mono ?_
        rw [HFE.out]
        rintro e w7 ⟨rfl, hb⟩
        have HB7 := hide (find1_tr HB6.out hb)
        clear hb
        go_wp2_with fail
        refine (rcheck_any A n c l _ HN.out (by omega) (Rds.on2 HR.out HB7.out)).mono ?_
        rw [HE.out]
        rintro e w107 ⟨rfl, rfl⟩
        go_wp2_with fail
        go_ret
        exact ⟨rfl, HB7.out⟩
      · have HFE := hide (show fitErr l width = 28 by rw [fitErr, if_neg (by simpa using he), if_neg (by omega), if_pos (by rw [← hM]; exact h3)])
        have HF := hide (show fitErr l width ≠ 0 by rw [HFE.out]; omega)
        clear he hM hl8
        go_enter Try.func10, Try.ntmps10
        have HB0 := hide (Below.refl w.heap.size w)
        go_wp2_with fail
        refine (known_any _).mono ?_
        rintro e w1 ⟨rfl, hb⟩
        have HB1 := hide (find1_tr HB0.out hb)
        clear hb
        go_wp2_with fail
        refine (own_any A n c l _ HN.out (by omega) (Rds.on2 HR.out HB1.out)).mono ?_
        rintro e w2 ⟨A1, c1, rfl, hr1, hb⟩
        have HB2 := hide (find1_tr HB1.out hb)
        clear hb
        go_wp2_with fail
        refine (Force_err A1 n c1 l width _ HN.out (by omega) hr1 HF.out).mono ?_
        rw [HFE.out]
        rintro e w3 ⟨rfl, hb⟩
        have HB3 := hide (find1_tr HB2.out hb)
        clear hb
        go_wp2_with fail
        refine (own_any A n c l _ HN.out (by omega) (Rds.on2 HR.out HB3.out)).mono ?_
        rintro e w4 ⟨A3, c3, rfl, hr3, hb⟩
        have HB4 := hide (find1_tr HB3.out hb)
        clear hb
        go_wp2_with fail
        refine (Solve_err A3 n c3 l width _ HN.out (by omega) hr3 HF.out).mono ?_
        rw [HFE.out]
        rintro e w5 ⟨rfl, hb⟩
        have HB5 := hide (find1_tr HB4.out hb)
        clear hb
        go_wp2_with fail
        refine (own_any A n c l _ HN.out (by omega) (Rds.on2 HR.out HB5.out)).mono ?_
        rintro e w6 ⟨A5, c5, rfl, hr5, hb⟩
        have HB6 := hide (find1_tr HB5.out hb)
        clear hb
        go_wp2_with fail
        refine (Badness_err A5 n c5 l width _ HN.out (by omega) hr5 HF.out).mono ?_
        rw [HFE.out]
        rintro e w7 ⟨rfl, hb⟩
        have HB7 := hide (find1_tr HB6.out hb)
        clear hb
        go_wp2_with fail
        refine (rcheck_any A n c l _ HN.out (by omega) (Rds.on2 HR.out HB7.out)).mono ?_
        rw [HE.out]
        rintro e w107 ⟨rfl, rfl⟩
        go_wp2_with fail
        refine (HT.out _ (Rds.on2 HR.out HB7.out)).mono ?_
        rintro e w8 ⟨rfl, hb⟩
        have HB8 := hide (find1_tr HB7.out hb)
        clear hb
        go_wp2_with fail
        go_ret
        exact ⟨rfl, HB8.out⟩
      · have HFE := hide (show fitErr l width = 0 by rw [fitErr, if_neg (by simpa using he), if_neg (by omega), if_neg (by rw [← hM]; omega)])
        have h4 : ¬ width < M := by omega
        clear he hM hl8
        rcases (show 0 < n ∨ (n = 0 ∧ width = 0) ∨ (n = 0 ∧ ¬ width = 0) by omega) with hz | ⟨hz, hz2⟩ | ⟨hz, hz2⟩
        · have hz3 : ((n : Int) == 0) = false := by simp; omega
          go_enter Try.func10, Try.ntmps10
          have HB0 := hide (Below.refl w.heap.size w)
          go_wp2_with fail
          refine (known_any _).mono ?_
          rintro e w1 ⟨rfl, hb⟩
          have HB1 := hide (find1_tr HB0.out hb)
          clear hb
          go_wp2_with fail
          refine (own_any A n c l _ HN.out (by omega) (Rds.on2 HR.out HB1.out)).mono ?_
          rintro e w2 ⟨A1, c1, rfl, hr1, hb⟩
          have HB2 := hide (find1_tr HB1.out hb)
          clear hb
          go_wp2_with fail
          refine (Force_ok A1 n c1 l width _ HN.out hr1 HFE.out).mono ?_
          rintro e w3 ⟨p, q, rfl, -, hb⟩
          have HB3 := hide (find1_tr HB2.out hb)
          clear hb
          go_wp2_with fail
          refine (own_any A n c l _ HN.out (by omega) (Rds.on2 HR.out HB3.out)).mono ?_
          rintro e w4 ⟨A3, c3, rfl, hr3, hb⟩
          have HB4 := hide (find1_tr HB3.out hb)
          clear hb
          go_wp2_with fail
          refine (Solve_ok A3 n c3 l width _ HN.out hz hr3 HFE.out).mono ?_
          rintro e w5 ⟨gg, xs, rfl, -, -, hb⟩
          have HB5 := hide (find1_tr HB4.out hb)
          clear hb
          go_wp2_with fail
          refine (own_any A n c l _ HN.out (by omega) (Rds.on2 HR.out HB5.out)).mono ?_
          rintro e w6 ⟨A5, c5, rfl, hr5, hb⟩
          have HB6 := hide (find1_tr HB5.out hb)
          clear hb
          go_wp2_with fail
          refine (Badness_ok A5 n c5 l width _ HN.out hr5 HFE.out).mono ?_
          rintro e w7 ⟨rfl, hb⟩
          have HB7 := hide (find1_tr HB6.out hb)
          clear hb
          go_wp2_with fail
          refine (rcheck_any A n c l _ HN.out (by omega) (Rds.on2 HR.out HB7.out)).mono ?_
          rw [HE.out]
          rintro e w107 ⟨rfl, rfl⟩
          go_wp2_with fail
          refine (HT.out _ (Rds.on2 HR.out HB7.out)).mono ?_
          rintro e w8 ⟨rfl, hb⟩
          have HB8 := hide (find1_tr HB7.out hb)
          clear hb
          go_wp2_with fail
          go_ret
          exact ⟨rfl, HB8.out⟩
        · subst hz
          have hl0 : l = [] := List.eq_nil_of_length_eq_zero HN.out.symm
          have HS0 := hide (fun (A2 : Option Addr) (c2 : Nat) W => show Calls Try.prog 22 #[.slice A2 0 c2, .int .i64 width] W fun e w' => e = .returned (.tuple #[.slice none 0 0, .int .i64 0]) ∧ Below W.heap.size W w' from by
            have := Solve_nil A2 c2 width W (by rw [← hl0]; exact HFE.out)
            rw [if_pos hz2] at this
            exact this)
          clear hl0
          subst hz2
          go_enter Try.func10, Try.ntmps10
          have HB0 := hide (Below.refl w.heap.size w)
          go_wp2_with fail
          refine (known_any _).mono ?_
          rintro e w1 ⟨rfl, hb⟩
          have HB1 := hide (find1_tr HB0.out hb)
          clear hb
          go_wp2_with fail
          refine (own_any A 0 c l _ HN.out (by omega) (Rds.on2 HR.out HB1.out)).mono ?_
          rintro e w2 ⟨A1, c1, rfl, hr1, hb⟩
          have HB2 := hide (find1_tr HB1.out hb)
          clear hb
          go_wp2_with fail
          refine (Force_ok A1 0 c1 l 0 _ HN.out hr1 HFE.out).mono ?_
          rintro e w3 ⟨p, q, rfl, -, hb⟩
          have HB3 := hide (find1_tr HB2.out hb)
          clear hb
          go_wp2_with fail
          refine (own_any A 0 c l _ HN.out (by omega) (Rds.on2 HR.out HB3.out)).mono ?_
          rintro e w4 ⟨A3, c3, rfl, hr3, hb⟩
          have HB4 := hide (find1_tr HB3.out hb)
          clear hb
          go_wp2_with fail
          refine (HS0.out A3 c3 _).mono ?_
          rintro e w5 ⟨rfl, hb⟩
          have HB5 := hide (find1_tr HB4.out hb)
          clear hb
          go_wp2_with fail
          refine (own_any A 0 c l _ HN.out (by omega) (Rds.on2 HR.out HB5.out)).mono ?_
          rintro e w6 ⟨A5, c5, rfl, hr5, hb⟩
          have HB6 := hide (find1_tr HB5.out hb)
          clear hb
          go_wp2_with fail
          refine (Badness_ok A5 0 c5 l 0 _ HN.out hr5 HFE.out).mono ?_
          rintro e w7 ⟨rfl, hb⟩
          have HB7 := hide (find1_tr HB6.out hb)
          clear hb
          go_wp2_with fail
          refine (rcheck_any A 0 c l _ HN.out (by omega) (Rds.on2 HR.out HB7.out)).mono ?_
          rw [HE.out]
          rintro e w107 ⟨rfl, rfl⟩
          go_wp2_with fail
          refine (HT.out _ (Rds.on2 HR.out HB7.out)).mono ?_
          rintro e w8 ⟨rfl, hb⟩
          have HB8 := hide (find1_tr HB7.out hb)
          clear hb
          go_wp2_with fail
          go_ret
          exact ⟨rfl, HB8.out⟩
        · subst hz
          have hl0 : l = [] := List.eq_nil_of_length_eq_zero HN.out.symm
          have HS0 := hide (fun (A2 : Option Addr) (c2 : Nat) W => show Calls Try.prog 22 #[.slice A2 0 c2, .int .i64 width] W fun e w' => e = .returned (.tuple #[.slice none 0 0, .int .i64 28]) ∧ Below W.heap.size W w' from by
            have := Solve_nil A2 c2 width W (by rw [← hl0]; exact HFE.out)
            rw [if_neg hz2] at this
            exact this)
          clear hl0
          have hz3 : (width != 0) = true := by simpa using hz2
          go_enter Try.func10, Try.ntmps10
          have HB0 := hide (Below.refl w.heap.size w)
          go_wp2_with fail
          refine (known_any _).mono ?_
          rintro e w1 ⟨rfl, hb⟩
          have HB1 := hide (find1_tr HB0.out hb)
          clear hb
          go_wp2_with fail
          refine (own_any A 0 c l _ HN.out (by omega) (Rds.on2 HR.out HB1.out)).mono ?_
          rintro e w2 ⟨A1, c1, rfl, hr1, hb⟩
          have HB2 := hide (find1_tr HB1.out hb)
          clear hb
          go_wp2_with fail
          refine (Force_ok A1 0 c1 l width _ HN.out hr1 HFE.out).mono ?_
          rintro e w3 ⟨p, q, rfl, -, hb⟩
          have HB3 := hide (find1_tr HB2.out hb)
          clear hb
          go_wp2_with fail
          refine (own_any A 0 c l _ HN.out (by omega) (Rds.on2 HR.out HB3.out)).mono ?_
          rintro e w4 ⟨A3, c3, rfl, hr3, hb⟩
          have HB4 := hide (find1_tr HB3.out hb)
          clear hb
          go_wp2_with fail
          refine (HS0.out A3 c3 _).mono ?_
          rintro e w5 ⟨rfl, hb⟩
          have HB5 := hide (find1_tr HB4.out hb)
          clear hb
          go_wp2_with fail
          refine (own_any A 0 c l _ HN.out (by omega) (Rds.on2 HR.out HB5.out)).mono ?_
          rintro e w6 ⟨A5, c5, rfl, hr5, hb⟩
          have HB6 := hide (find1_tr HB5.out hb)
          clear hb
          go_wp2_with fail
          refine (Badness_ok A5 0 c5 l width _ HN.out hr5 HFE.out).mono ?_
          rintro e w7 ⟨rfl, hb⟩
          have HB7 := hide (find1_tr HB6.out hb)
          clear hb
          go_wp2_with fail
          refine (rcheck_any A 0 c l _ HN.out (by omega) (Rds.on2 HR.out HB7.out)).mono ?_
          rw [HE.out]
          rintro e w107 ⟨rfl, rfl⟩
          go_wp2_with fail
          refine (HT.out _ (Rds.on2 HR.out HB7.out)).mono ?_
          rintro e w8 ⟨rfl, hb⟩
          have HB8 := hide (find1_tr HB7.out hb)
          clear hb
          go_wp2_with fail
          go_ret
          exact ⟨rfl, HB8.out⟩
    · obtain ⟨r, hr⟩ : ∃ r, r = spErr l := ⟨_, rfl⟩
      have hr2 : (r != 0) = true := by rw [hr]; simpa using he
      have hr3 : (r == 0) = false := by rw [hr]; simpa using he
      have HFE := hide (show fitErr l width = r by rw [fitErr, if_pos he, hr])
      have HF := hide (show fitErr l width ≠ 0 by rw [HFE.out, hr]; exact he)
      have HE := hide hr.symm
      clear he hr
      go_enter Try.func10, Try.ntmps10
      have HB0 := hide (Below.refl w.heap.size w)
      go_wp2_with fail
      refine (known_any _).mono ?_
      rintro e w1 ⟨rfl, hb⟩
      have HB1 := hide (find1_tr HB0.out hb)
      clear hb
      go_wp2_with fail
      refine (own_any A n c l _ HN.out (by omega) (Rds.on2 HR.out HB1.out)).mono ?_
      rintro e w2 ⟨A1, c1, rfl, hr1, hb⟩
      have HB2 := hide (find1_tr HB1.out hb)
      clear hb
      go_wp2_with fail
      refine (Force_err A1 n c1 l width _ HN.out (by omega) hr1 HF.out).mono ?_
      rw [HFE.out]
      rintro e w3 ⟨rfl, hb⟩
      have HB3 := hide (find1_tr HB2.out hb)
      clear hb
      go_wp2_with fail
      refine (own_any A n c l _ HN.out (by omega) (Rds.on2 HR.out HB3.out)).mono ?_
      rintro e w4 ⟨A3, c3, rfl, hr3, hb⟩
      have HB4 := hide (find1_tr HB3.out hb)
      clear hb
      go_wp2_with fail
      refine (Solve_err A3 n c3 l width _ HN.out (by omega) hr3 HF.out).mono ?_
      rw [HFE.out]
      rintro e w5 ⟨rfl, hb⟩
      have HB5 := hide (find1_tr HB4.out hb)
      clear hb
      go_wp2_with fail
      refine (own_any A n c l _ HN.out (by omega) (Rds.on2 HR.out HB5.out)).mono ?_
      rintro e w6 ⟨A5, c5, rfl, hr5, hb⟩
      have HB6 := hide (find1_tr HB5.out hb)
      clear hb
      go_wp2_with fail
      refine (Badness_err A5 n c5 l width _ HN.out (by omega) hr5 HF.out).mono ?_
      rw [HFE.out]
      rintro e w7 ⟨rfl, hb⟩
      have HB7 := hide (find1_tr HB6.out hb)
      clear hb
      go_wp2_with fail
      refine (rcheck_any A n c l _ HN.out (by omega) (Rds.on2 HR.out HB7.out)).mono ?_
      rw [HE.out]
      rintro e w107 ⟨rfl, rfl⟩
      go_wp2_with fail
      go_ret
      exact ⟨rfl, HB7.out⟩

theorem springErrors_walk {w : World} (a : Sl Spr) (ha : Sl.Good Spr.cells Spr.wf w a) (x : Int) (_ : (Lit.int .i64 x).wf = true) :
    Calls Try.prog 10 #[.slice a.A a.n a.c, .int .i64 x] w fun e w' => e = .returned (.bool true) ∧ Below w.heap.size w w' :=
  errors_law a.A a.n a.c a.l x w ha.len ha.rds

end Go.Proofs.Ytcnejnaeahffhaa
