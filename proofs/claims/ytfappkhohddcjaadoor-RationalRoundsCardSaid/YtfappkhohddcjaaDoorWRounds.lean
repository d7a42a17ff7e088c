/- The walk of RationalRounds. -/
import Derived.Test.YtfappkhohddcjaaDoorOfL
import Derived.Test.YtfappkhohddcjaaDoorKeep
import Derived.Test.YtfappkhohddcjaaDoorHand
import Derived.Test.YtfappkhohddcjaaDoorKn01
namespace Go.Proofs.YtfappkhohddcjaaDoor
open Go.RowKit

theorem half_fact (n d : Int) (_ : 1 ≤ d) : 1 < (ofF (2 * n + d) (2 * d)).d ∨ (¬ 1 < (ofF (2 * n + d) (2 * d)).d ∧ (ofF (2 * n + d) (2 * d)).n = 0) ∨ (¬ 1 < (ofF (2 * n + d) (2 * d)).d ∧ ¬ (ofF (2 * n + d) (2 * d)).n = 0 ∧ (2 * n + d) / (2 * d) = (ofF (2 * n + d) (2 * d)).n) := by
  by_cases h1 : 1 < (ofF (2 * n + d) (2 * d)).d
  · exact .inl h1
  · by_cases h2 : (ofF (2 * n + d) (2 * d)).n = 0
    · exact .inr (.inl ⟨h1, h2⟩)
    · refine .inr (.inr ⟨h1, h2, ?_⟩)
      have he : (ofF (2 * n + d) (2 * d)).e = 0 := by
        by_cases he : (ofF (2 * n + d) (2 * d)).e = 0
        · exact he
        · exact absurd (ofF_err _ _ he).1 h2
      obtain ⟨_, k1, k2⟩ := ofF_val he
      have k3 : (ofF (2 * n + d) (2 * d)).d = 1 := by have := k2.q.2.2.1; omega
      rw [k3, Int.mul_one] at k1
      have k4 := Int.mul_ediv_cancel (ofF (2 * n + d) (2 * d)).n (show 2 * d ≠ 0 by omega)
      rw [k1] at k4
      exact k4

set_option linter.unusedSimpArgs false in
set_option maxRecDepth 100000 in
set_option maxHeartbeats 16000000 in
theorem rationalRounds_walk (a0 b0 : Int) (_ : i64r a0) (_ : i64r b0) (w : World) (ht : Tab w) :
    Calls Tryd.prog 3 #[.agg #[.int .i64 a0, .int .i64 b0]] w fun e w' => e = .returned (.bool true) ∧ Below w.heap.size w w' := by
  have HT := hide ht
  have HOf := hide (fun W => of_any a0 b0 W)
  have HLF := hide (show Low (ofF (clN a0) (clD b0)).n (ofF (clN a0) (clD b0)).d from (ofF_val (cl_low a0 b0)).2.2)
  generalize ofF (clN a0) (clD b0) = F at HOf HLF
  have HK := hide (fun W (h : Tab W) => known_any W h)
  obtain ⟨n, d, e⟩ := F
  have hq := HLF.out.q
  obtain ⟨q1, q2, q3, q4⟩ := hq
  simp only at q1 q2 q3 q4 HOf
  have HF := hide (fun W => Floor_any n d W HLF.out.q)
  have HC := hide (fun W => Ceil_any n d W HLF.out.q)
  have HRo := hide (fun W => Round_any n d W HLF.out.q)
  have HRF := hide (fun W => RFloor_any n d W ⟨by omega, by omega⟩ (by omega) (by omega))
  have HRN := hide (fun W => RNeg_any n d W ⟨by omega, by omega⟩)
  have HRF2 := hide (fun W => RFloor_any (-n) d W ⟨by omega, by omega⟩ (by omega) (by omega))
  have HH := hide (fun W => ROf_any (2 * n + d) (2 * d) W ⟨by omega, by omega⟩ ⟨by omega, by omega⟩)
  have HRF3 := hide (fun W => RFloor_any (2 * n + d) (2 * d) W ⟨by omega, by omega⟩ (by omega) (by omega))
  have HFact := hide (half_fact n d q3)
  generalize ofF (2 * n + d) (2 * d) = G at HH HFact
  generalize (2 * n + d) / (2 * d) = R at HRo HRF3 HFact
  have hb1 := floor_bnd (a := -n) (b := d) ⟨by omega, by omega⟩ (by omega)
  generalize (-n) / d = C at HC HRF2 hb1
  generalize n / d = B at HF HRF
  have i1 : IntKind.i64.wrap (2 * n) = 2 * n := IntWalk.i64_in _ (by omega)
  have i2 : IntKind.i64.wrap (2 * n + d) = 2 * n + d := IntWalk.i64_in _ (by omega)
  have i3 : IntKind.i64.wrap (2 * d) = 2 * d := IntWalk.i64_in _ (by omega)
  have i4 : IntKind.i64.wrap (-C) = -C := IntWalk.i64_in _ (by omega)
  clear ht hb1
  obtain ⟨gn, gd, ge⟩ := G
  simp only at HH HFact
  have HB_0 := hide (Below.refl w.heap.size w)
  go_enter Tryd.func3, Tryd.ntmps3
  go_wp2_with fail
  have HB_1 := hide (HB_0.out.alloc HB_0.out.size (.cells #[.int .i64 a0, .int .i64 b0] 22))
  have HP0_1 := hide (Two.new w a0 b0 22)
  generalize w.alloc (.cells #[.int .i64 a0, .int .i64 b0] 22) = w1 at  HB_1 HP0_1 ⊢
  generalize w.heap.size = hp0 at HP0_1 ⊢
  clear  HB_0
  have c0 := HP0_1.out.c0
  have c1 := HP0_1.out.c1
  go_wp2_with fail
  clear c0 c1
  refine (HOf.out _).mono ?_
  rintro e w2 ⟨rfl, hb⟩
  have HP0_2 := hide (HP0_1.out.on hb HP0_1.out.lt)
  have HB_2 := hide (on_tr HB_1.out hb)
  clear hb HP0_1 HB_1
  go_wp2_with fail
  have HP0_3 := hide ((HP0_2.out.on ((Below.refl w2.heap.size w2).alloc (Nat.le_refl _) (.cells #[.int .i64 n, .int .i64 (d - 1)] 24)) HP0_2.out.lt).on ((Below.refl _ _).alloc (Nat.le_refl _) (.cells #[.int .i64 n, .int .i64 d] 26)) (by have := HP0_2.out.lt; simp; omega))
  have HB_3 := hide ((HB_2.out.alloc HB_2.out.size (.cells #[.int .i64 n, .int .i64 (d - 1)] 24)).alloc (by have := HB_2.out.size; simp; omega) (.cells #[.int .i64 n, .int .i64 d] 26))
  have HP := hide (S2.new2 w2 n (d - 1) n d 24 26)
  have HX1_3 := hide HP.out.tx
  have HX2_3 := hide HP.out.ty
  clear HP
  generalize (w2.alloc (.cells #[.int .i64 n, .int .i64 (d - 1)] 24)).alloc (.cells #[.int .i64 n, .int .i64 d] 26) = w3 at HP0_3 HB_3 HX1_3 HX2_3 ⊢
  generalize w2.heap.size = hx1 at HX1_3 HX2_3 ⊢
  clear HP0_2 HB_2
  have c0 := HX2_3.out.c0
  have c1 := HX2_3.out.c1
  go_wp2_with fail
  clear c0 c1
  refine (HH.out _).mono ?_
  rintro e w4 ⟨rfl, hb⟩
  have HP0_4 := hide (HP0_3.out.on hb HP0_3.out.lt)
  have HX1_4 := hide (HX1_3.out.on hb HX1_3.out.lt)
  have HX2_4 := hide (HX2_3.out.on hb HX2_3.out.lt)
  have HB_4 := hide (on_tr HB_3.out hb)
  clear hb HP0_3 HX1_3 HX2_3 HB_3
  have HP0_5 := hide (HP0_4.out.on ((Below.refl w4.heap.size w4).alloc (Nat.le_refl _) (.cells #[.int .i64 gn, .int .i64 gd] 26)) HP0_4.out.lt)
  have HX1_5 := hide (HX1_4.out.on ((Below.refl w4.heap.size w4).alloc (Nat.le_refl _) (.cells #[.int .i64 gn, .int .i64 gd] 26)) HX1_4.out.lt)
  have HX2_5 := hide (HX2_4.out.on ((Below.refl w4.heap.size w4).alloc (Nat.le_refl _) (.cells #[.int .i64 gn, .int .i64 gd] 26)) HX2_4.out.lt)
  have HB_5 := hide (HB_4.out.alloc HB_4.out.size (.cells #[.int .i64 gn, .int .i64 gd] 26))
  have HY_5 := hide (Two.new w4 gn gd 26)
  have c0 := HX2_5.out.c0
  have c1 := HX2_5.out.c1
  go_wp2_with fail
  clear c0 c1
  generalize w4.alloc (.cells #[.int .i64 gn, .int .i64 gd] 26) = w5 at HP0_5 HX1_5 HX2_5 HB_5 HY_5 ⊢
  generalize w4.heap.size = hy at HY_5 ⊢
  clear HP0_4 HX1_4 HX2_4 HB_4
  refine (HRF3.out _).mono ?_
  rintro e w6 ⟨rfl, hb⟩
  have HP0_6 := hide (HP0_5.out.on hb HP0_5.out.lt)
  have HX1_6 := hide (HX1_5.out.on hb HX1_5.out.lt)
  have HX2_6 := hide (HX2_5.out.on hb HX2_5.out.lt)
  have HY_6 := hide (HY_5.out.on hb HY_5.out.lt)
  have HB_6 := hide (on_tr HB_5.out hb)
  clear hb HP0_5 HX1_5 HX2_5 HY_5 HB_5
  go_wp2_with fail
  rcases HFact.out with h1 | ⟨h1, h2⟩ | ⟨h1, h2, h3⟩
  · have h1' : decide (1 < gd) = true := by simpa using h1
    refine wp_region_noPanic ?_
    refine wp_region_held_drew (S := fun w' => w'.cell? ⟨hx1, 0, none⟩ = some (.int .i64 (n)) ∧ w'.cell? ⟨hx1, 1, none⟩ = some (.int .i64 (d - 1)) ∧ w'.cell? ⟨hx1 + 1, 0, none⟩ = some (.int .i64 (n)) ∧ w'.cell? ⟨hx1 + 1, 1, none⟩ = some (.int .i64 (d)) ∧ w'.cell? ⟨hy, 0, none⟩ = some (.int .i64 (gn)) ∧ w'.cell? ⟨hy, 1, none⟩ = some (.int .i64 (gd)) ∧ Two w' (hx1) (n) (d - 1) ∧ Two w' (hx1 + 1) (n) (d) ∧ Two w' (hy) (gn) (gd) ∧ Below w.heap.size w w') (by kernel_rfl) ?_ (fun hHeld => ?_)
    · exact K3.of HX1_6.out.drew HX2_6.out.drew HY_6.out.drew (Below.drew HB_6.out)
    refine hand_call (i := 0) rfl (by kernel_rfl) (fun K hK => ?_)
    go_simp
    have hKh := K3.hid hHeld
    refine (HK.out _ (HT.out.on (K3.bel hKh))).mono ?_
    rintro e w' ⟨rfl, hb'⟩
    go_wp2_with fail
    refine hK.out _ _ ?_ (fun hHeld2 => ?_)
    · exact K3.next hHeld hb'
    clear hK K hHeld hKh
    have hHeld := hHeld2
    clear hHeld2
    try simp only [Act.put, List.setIfInBounds_toArray, List.set_cons_zero, List.set_cons_succ]
    refine hand_yes (i := 1) (v := ?_) rfl (by kernel_rfl) (by kernel_rfl) (by kernel_rfl) (fun _ _ _ h => h) (by rfl) ?_ (by assumption) ?_
    rotate_left
    · intro w hSw
      (try dsimp only at hSw)
      go_simp
      all_goals with_reducible rfl
    try simp only [Act.put, List.setIfInBounds_toArray, List.set_cons_zero, List.set_cons_succ]
    refine hand_yes (i := 2) (v := ?_) rfl (by kernel_rfl) (by kernel_rfl) (by kernel_rfl) (fun _ _ _ h => h) (by rfl) ?_ (by assumption) ?_
    rotate_left
    · intro w hSw
      (try dsimp only at hSw)
      go_simp
      all_goals with_reducible rfl
    try simp only [Act.put, List.setIfInBounds_toArray, List.set_cons_zero, List.set_cons_succ]
    refine hand_yes (i := 4) (v := ?_) rfl (by kernel_rfl) (by kernel_rfl) (by kernel_rfl) (fun _ _ _ h => h) (by rfl) ?_ (by assumption) ?_
    rotate_left
    · intro w hSw
      (try dsimp only at hSw)
      go_simp
      all_goals with_reducible rfl
    try simp only [Act.put, List.setIfInBounds_toArray, List.set_cons_zero, List.set_cons_succ]
    refine hand_call (i := 3) rfl (by kernel_rfl) (fun K hK => ?_)
    go_simp
    refine (HF.out _).mono ?_
    rintro e w' ⟨rfl, hb'⟩
    go_wp2_with fail
    refine hK.out _ _ ?_ (fun hHeld2 => ?_)
    · exact K3.next hHeld hb'
    clear hK K hHeld
    have hHeld := hHeld2
    clear hHeld2
    try simp only [Act.put, List.setIfInBounds_toArray, List.set_cons_zero, List.set_cons_succ]
    refine hand_call (i := 5) rfl (by kernel_rfl) (fun K hK => ?_)
    go_simp
    refine (HRF.out _).mono ?_
    rintro e w' ⟨rfl, hb'⟩
    go_wp2_with fail
    refine hK.out _ _ ?_ (fun hHeld2 => ?_)
    · exact K3.next hHeld hb'
    clear hK K hHeld
    have hHeld := hHeld2
    clear hHeld2
    try simp only [Act.put, List.setIfInBounds_toArray, List.set_cons_zero, List.set_cons_succ]
    refine hand_yes (i := 6) (v := ?_) rfl (by kernel_rfl) (by kernel_rfl) (by kernel_rfl) (fun _ _ _ h => h) (by rfl) ?_ (by assumption) ?_
    rotate_left
    · intro w hSw
      (try dsimp only at hSw)
      go_simp
      all_goals with_reducible rfl
    try simp only [Act.put, List.setIfInBounds_toArray, List.set_cons_zero, List.set_cons_succ]
    refine hand_yes (i := 7) (v := ?_) rfl (by kernel_rfl) (by kernel_rfl) (by kernel_rfl) (fun _ _ _ h => h) (by rfl) ?_ (by assumption) ?_
    rotate_left
    · intro w hSw
      (try dsimp only at hSw)
      go_simp
      all_goals with_reducible rfl
    try simp only [Act.put, List.setIfInBounds_toArray, List.set_cons_zero, List.set_cons_succ]
    refine hand_yes (i := 8) (v := ?_) rfl (by kernel_rfl) (by kernel_rfl) (by kernel_rfl) (fun _ _ _ h => h) (by rfl) ?_ (by assumption) ?_
    rotate_left
    · intro w hSw
      (try dsimp only at hSw)
      go_simp
      all_goals with_reducible rfl
    try simp only [Act.put, List.setIfInBounds_toArray, List.set_cons_zero, List.set_cons_succ]
    refine hand_yes (i := 9) (v := ?_) rfl (by kernel_rfl) (by kernel_rfl) (by kernel_rfl) (fun _ _ _ h => h) (by rfl) ?_ (by assumption) ?_
    rotate_left
    · intro w hSw
      (try dsimp only at hSw)
      go_simp
      all_goals with_reducible rfl
    try simp only [Act.put, List.setIfInBounds_toArray, List.set_cons_zero, List.set_cons_succ]
    refine hand_yes (i := 11) (v := ?_) rfl (by kernel_rfl) (by kernel_rfl) (by kernel_rfl) (fun _ _ _ h => h) (by rfl) ?_ (by assumption) ?_
    rotate_left
    · intro w hSw
      (try dsimp only at hSw)
      go_simp
      all_goals with_reducible rfl
    try simp only [Act.put, List.setIfInBounds_toArray, List.set_cons_zero, List.set_cons_succ]
    refine hand_call (i := 10) rfl (by kernel_rfl) (fun K hK => ?_)
    go_simp
    refine (HC.out _).mono ?_
    rintro e w' ⟨rfl, hb'⟩
    go_wp2_with fail
    refine hK.out _ _ ?_ (fun hHeld2 => ?_)
    · exact K3.next hHeld hb'
    clear hK K hHeld
    have hHeld := hHeld2
    clear hHeld2
    try simp only [Act.put, List.setIfInBounds_toArray, List.set_cons_zero, List.set_cons_succ]
    refine hand_call (i := 12) rfl (by kernel_rfl) (fun K hK => ?_)
    go_simp
    refine (HRN.out _).mono ?_
    rintro e w' ⟨rfl, hb'⟩
    go_wp2_with fail
    refine hK.out _ _ ?_ (fun hHeld2 => ?_)
    · exact K3.next hHeld hb'
    clear hK K hHeld
    have hHeld := hHeld2
    clear hHeld2
    try simp only [Act.put, List.setIfInBounds_toArray, List.set_cons_zero, List.set_cons_succ]
    refine hand_call (i := 13) rfl (by kernel_rfl) (fun K hK => ?_)
    go_simp
    refine (HRF2.out _).mono ?_
    rintro e w' ⟨rfl, hb'⟩
    go_wp2_with fail
    refine hK.out _ _ ?_ (fun hHeld2 => ?_)
    · exact K3.next hHeld hb'
    clear hK K hHeld
    have hHeld := hHeld2
    clear hHeld2
    try simp only [Act.put, List.setIfInBounds_toArray, List.set_cons_zero, List.set_cons_succ]
    refine hand_yes (i := 14) (v := ?_) rfl (by kernel_rfl) (by kernel_rfl) (by kernel_rfl) (fun _ _ _ h => h) (by rfl) ?_ (by assumption) ?_
    rotate_left
    · intro w hSw
      (try dsimp only at hSw)
      go_simp
      all_goals with_reducible rfl
    try simp only [Act.put, List.setIfInBounds_toArray, List.set_cons_zero, List.set_cons_succ]
    refine hand_yes (i := 15) (v := ?_) rfl (by kernel_rfl) (by kernel_rfl) (by kernel_rfl) (fun _ _ _ h => h) (by rfl) ?_ (by assumption) ?_
    rotate_left
    · intro w hSw
      (try dsimp only at hSw)
      go_simp
      all_goals with_reducible rfl
    try simp only [Act.put, List.setIfInBounds_toArray, List.set_cons_zero, List.set_cons_succ]
    refine hand_yes (i := 16) (v := ?_) rfl (by kernel_rfl) (by kernel_rfl) (by kernel_rfl) (fun _ _ _ h => h) (by rfl) ?_ (by assumption) ?_
    rotate_left
    · intro w hSw
      (try dsimp only at hSw)
      go_simp
      all_goals with_reducible rfl
    try simp only [Act.put, List.setIfInBounds_toArray, List.set_cons_zero, List.set_cons_succ]
    refine hand_yes (i := 17) (v := ?_) rfl (by kernel_rfl) (by kernel_rfl) (by kernel_rfl) (fun _ _ _ h => h) (by rfl) ?_ (by assumption) ?_
    rotate_left
    · intro w hSw
      (try dsimp only at hSw)
      go_simp
      all_goals with_reducible rfl
    try simp only [Act.put, List.setIfInBounds_toArray, List.set_cons_zero, List.set_cons_succ]
    refine hand_yes (i := 18) (v := ?_) rfl (by kernel_rfl) (by kernel_rfl) (by kernel_rfl) (fun _ _ _ h => h) (by rfl) ?_ (by assumption) ?_
    rotate_left
    · intro w hSw
      (try dsimp only at hSw)
      go_simp
      all_goals with_reducible rfl
    try simp only [Act.put, List.setIfInBounds_toArray, List.set_cons_zero, List.set_cons_succ]
    refine hand_yes (i := 20) (v := ?_) rfl (by kernel_rfl) (by kernel_rfl) (by kernel_rfl) (fun _ _ _ h => h) (by rfl) ?_ (by assumption) ?_
    rotate_left
    · intro w hSw
      (try dsimp only at hSw)
      go_simp
      all_goals with_reducible rfl
    try simp only [Act.put, List.setIfInBounds_toArray, List.set_cons_zero, List.set_cons_succ]
    refine hand_call (i := 19) rfl (by kernel_rfl) (fun K hK => ?_)
    go_simp
    refine (HRo.out _).mono ?_
    rintro e w' ⟨rfl, hb'⟩
    go_wp2_with fail
    refine hK.out _ _ ?_ (fun hHeld2 => ?_)
    · exact K3.next hHeld hb'
    clear hK K hHeld
    have hHeld := hHeld2
    clear hHeld2
    try simp only [Act.put, List.setIfInBounds_toArray, List.set_cons_zero, List.set_cons_succ]
    refine hand_yes (i := 21) (v := ?_) rfl (by kernel_rfl) (by kernel_rfl) (by kernel_rfl) (fun _ _ _ h => h) (by rfl) ?_ (by assumption) ?_
    rotate_left
    · intro w hSw
      (try dsimp only at hSw)
      go_simp
      all_goals with_reducible rfl
    try simp only [Act.put, List.setIfInBounds_toArray, List.set_cons_zero, List.set_cons_succ]
    refine hand_yes (i := 22) (v := ?_) rfl (by kernel_rfl) (by kernel_rfl) (by kernel_rfl) (fun _ _ _ h => h) (by rfl) ?_ (by assumption) ?_
    rotate_left
    · intro w hSw
      (try dsimp only at hSw)
      go_simp
      all_goals with_reducible rfl
    try simp only [Act.put, List.setIfInBounds_toArray, List.set_cons_zero, List.set_cons_succ]
    refine hand_yes (i := 23) (v := ?_) rfl (by kernel_rfl) (by kernel_rfl) (by kernel_rfl) (fun _ _ _ h => h) (by rfl) ?_ (by assumption) ?_
    rotate_left
    · intro w hSw
      (try dsimp only at hSw)
      go_simp
      all_goals with_reducible rfl
    try simp only [Act.put, List.setIfInBounds_toArray, List.set_cons_zero, List.set_cons_succ]
    refine hand_yes (i := 24) (v := ?_) rfl (by kernel_rfl) (by kernel_rfl) (by kernel_rfl) (fun _ _ _ h => h) (by rfl) ?_ (by assumption) ?_
    rotate_left
    · intro w hSw
      (try dsimp only at hSw)
      go_simp
      all_goals with_reducible rfl
    try simp only [Act.put, List.setIfInBounds_toArray, List.set_cons_zero, List.set_cons_succ]
    refine hand_yes (i := 25) (v := ?_) rfl (by kernel_rfl) (by kernel_rfl) (by kernel_rfl) (fun _ _ _ h => h) (by rfl) ?_ (by assumption) ?_
    rotate_left
    · intro w hSw
      (try dsimp only at hSw)
      go_simp
      all_goals with_reducible rfl
    try simp only [Act.put, List.setIfInBounds_toArray, List.set_cons_zero, List.set_cons_succ]
    refine hand_yes (i := 26) (v := ?_) rfl (by kernel_rfl) (by kernel_rfl) (by kernel_rfl) (fun _ _ _ h => h) (by rfl) ?_ (by assumption) ?_
    rotate_left
    · intro w hSw
      (try dsimp only at hSw)
      go_simp
      all_goals with_reducible rfl
    try simp only [Act.put, List.setIfInBounds_toArray, List.set_cons_zero, List.set_cons_succ]
    refine hand_yes (i := 27) (v := ?_) rfl (by kernel_rfl) (by kernel_rfl) (by kernel_rfl) (fun _ _ _ h => h) (by rfl) ?_ (by assumption) ?_
    rotate_left
    · intro w hSw
      (try dsimp only at hSw)
      go_simp
      all_goals with_reducible rfl
    try simp only [Act.put, List.setIfInBounds_toArray, List.set_cons_zero, List.set_cons_succ]
    refine hand_no (i := 28) rfl (by kernel_rfl) (by kernel_rfl) (by kernel_rfl) (fun _ _ _ h => h) (by rfl) (by assumption) ?_
    try simp only [Act.put, List.setIfInBounds_toArray, List.set_cons_zero, List.set_cons_succ]
    refine hand_no (i := 29) rfl (by kernel_rfl) (by kernel_rfl) (by kernel_rfl) (fun _ _ _ h => h) (by rfl) (by assumption) ?_
    try simp only [Act.put, List.setIfInBounds_toArray, List.set_cons_zero, List.set_cons_succ]
    refine hand_no (i := 30) rfl (by kernel_rfl) (by kernel_rfl) (by kernel_rfl) (fun _ _ _ h => h) (by rfl) (by assumption) ?_
    try simp only [Act.put, List.setIfInBounds_toArray, List.set_cons_zero, List.set_cons_succ]
    refine hand_yes (i := 31) (v := ?_) rfl (by kernel_rfl) (by kernel_rfl) (by kernel_rfl) (fun _ _ _ h => h) (by rfl) ?_ (by assumption) ?_
    rotate_left
    · intro w hSw
      (try dsimp only at hSw)
      go_simp
      all_goals with_reducible rfl
    try simp only [Act.put, List.setIfInBounds_toArray, List.set_cons_zero, List.set_cons_succ]
    refine hand_yes (i := 32) (v := ?_) rfl (by kernel_rfl) (by kernel_rfl) (by kernel_rfl) (fun _ _ _ h => h) (by rfl) ?_ (by assumption) ?_
    rotate_left
    · intro w hSw
      (try dsimp only at hSw)
      go_simp
      all_goals with_reducible rfl
    try simp only [Act.put, List.setIfInBounds_toArray, List.set_cons_zero, List.set_cons_succ]
    refine hand_no (i := 33) rfl (by kernel_rfl) (by kernel_rfl) (by kernel_rfl) (fun _ _ _ h => h) (by rfl) (by assumption) ?_
    try simp only [Act.put, List.setIfInBounds_toArray, List.set_cons_zero, List.set_cons_succ]
    refine hand_no (i := 34) rfl (by kernel_rfl) (by kernel_rfl) (by kernel_rfl) (fun _ _ _ h => h) (by rfl) (by assumption) ?_
    try simp only [Act.put, List.setIfInBounds_toArray, List.set_cons_zero, List.set_cons_succ]
    refine hand_no (i := 35) rfl (by kernel_rfl) (by kernel_rfl) (by kernel_rfl) (fun _ _ _ h => h) (by rfl) (by assumption) ?_
    try simp only [Act.put, List.setIfInBounds_toArray, List.set_cons_zero, List.set_cons_succ]
    refine hand_no (i := 36) rfl (by kernel_rfl) (by kernel_rfl) (by kernel_rfl) (fun _ _ _ h => h) (by rfl) (by assumption) ?_
    try simp only [Act.put, List.setIfInBounds_toArray, List.set_cons_zero, List.set_cons_succ]
    refine hand_yes (i := 37) (v := ?_) rfl (by kernel_rfl) (by kernel_rfl) (by kernel_rfl) (fun _ _ _ h => h) (by rfl) ?_ (by assumption) ?_
    rotate_left
    · intro w hSw
      (try dsimp only at hSw)
      go_simp
      all_goals with_reducible rfl
    try simp only [Act.put, List.setIfInBounds_toArray, List.set_cons_zero, List.set_cons_succ]
    refine hand_yes (i := 38) (v := ?_) rfl (by kernel_rfl) (by kernel_rfl) (by kernel_rfl) (fun _ _ _ h => h) (by rfl) ?_ (by assumption) ?_
    rotate_left
    · intro w hSw
      (try dsimp only at hSw)
      go_simp
      all_goals with_reducible rfl
    try simp only [Act.put, List.setIfInBounds_toArray, List.set_cons_zero, List.set_cons_succ]
    refine hand_yes (i := 39) (v := ?_) rfl (by kernel_rfl) (by kernel_rfl) (by kernel_rfl) (fun _ _ _ h => h) (by rfl) ?_ (by assumption) ?_
    rotate_left
    · intro w hSw
      (try dsimp only at hSw)
      go_simp
      all_goals with_reducible rfl
    try simp only [Act.put, List.setIfInBounds_toArray, List.set_cons_zero, List.set_cons_succ]
    refine wpAnyH_done (by kernel_rfl) ?_ _
    refine NoPanic.normal ?_
    go_wp2_with fail
    go_ret
    exact ⟨by first | rfl | simp, K3.bel hHeld⟩
  · have h1' : decide (1 < gd) = false := by simpa using h1
    subst h2
    refine wp_region_noPanic ?_
    refine wp_region_held_drew (S := fun w' => w'.cell? ⟨hx1, 0, none⟩ = some (.int .i64 (n)) ∧ w'.cell? ⟨hx1, 1, none⟩ = some (.int .i64 (d - 1)) ∧ w'.cell? ⟨hx1 + 1, 0, none⟩ = some (.int .i64 (n)) ∧ w'.cell? ⟨hx1 + 1, 1, none⟩ = some (.int .i64 (d)) ∧ w'.cell? ⟨hy, 0, none⟩ = some (.int .i64 (0)) ∧ w'.cell? ⟨hy, 1, none⟩ = some (.int .i64 (gd)) ∧ Two w' (hx1) (n) (d - 1) ∧ Two w' (hx1 + 1) (n) (d) ∧ Two w' (hy) (0) (gd) ∧ Below w.heap.size w w') (by kernel_rfl) ?_ (fun hHeld => ?_)
    · exact K3.of HX1_6.out.drew HX2_6.out.drew HY_6.out.drew (Below.drew HB_6.out)
    refine hand_call (i := 0) rfl (by kernel_rfl) (fun K hK => ?_)
    go_simp
    have hKh := K3.hid hHeld
    refine (HK.out _ (HT.out.on (K3.bel hKh))).mono ?_
    rintro e w' ⟨rfl, hb'⟩
    go_wp2_with fail
    refine hK.out _ _ ?_ (fun hHeld2 => ?_)
    · exact K3.next hHeld hb'
    clear hK K hHeld hKh
    have hHeld := hHeld2
    clear hHeld2
    try simp only [Act.put, List.setIfInBounds_toArray, List.set_cons_zero, List.set_cons_succ]
    refine hand_yes (i := 1) (v := ?_) rfl (by kernel_rfl) (by kernel_rfl) (by kernel_rfl) (fun _ _ _ h => h) (by rfl) ?_ (by assumption) ?_
    rotate_left
    · intro w hSw
      (try dsimp only at hSw)
      go_simp
      all_goals with_reducible rfl
    try simp only [Act.put, List.setIfInBounds_toArray, List.set_cons_zero, List.set_cons_succ]
    refine hand_yes (i := 2) (v := ?_) rfl (by kernel_rfl) (by kernel_rfl) (by kernel_rfl) (fun _ _ _ h => h) (by rfl) ?_ (by assumption) ?_
    rotate_left
    · intro w hSw
      (try dsimp only at hSw)
      go_simp
      all_goals with_reducible rfl
    try simp only [Act.put, List.setIfInBounds_toArray, List.set_cons_zero, List.set_cons_succ]
    refine hand_yes (i := 4) (v := ?_) rfl (by kernel_rfl) (by kernel_rfl) (by kernel_rfl) (fun _ _ _ h => h) (by rfl) ?_ (by assumption) ?_
    rotate_left
    · intro w hSw
      (try dsimp only at hSw)
      go_simp
      all_goals with_reducible rfl
    try simp only [Act.put, List.setIfInBounds_toArray, List.set_cons_zero, List.set_cons_succ]
    refine hand_call (i := 3) rfl (by kernel_rfl) (fun K hK => ?_)
    go_simp
    refine (HF.out _).mono ?_
    rintro e w' ⟨rfl, hb'⟩
    go_wp2_with fail
    refine hK.out _ _ ?_ (fun hHeld2 => ?_)
    · exact K3.next hHeld hb'
    clear hK K hHeld
    have hHeld := hHeld2
    clear hHeld2
    try simp only [Act.put, List.setIfInBounds_toArray, List.set_cons_zero, List.set_cons_succ]
    refine hand_call (i := 5) rfl (by kernel_rfl) (fun K hK => ?_)
    go_simp
    refine (HRF.out _).mono ?_
    rintro e w' ⟨rfl, hb'⟩
    go_wp2_with fail
    refine hK.out _ _ ?_ (fun hHeld2 => ?_)
    · exact K3.next hHeld hb'
    clear hK K hHeld
    have hHeld := hHeld2
    clear hHeld2
    try simp only [Act.put, List.setIfInBounds_toArray, List.set_cons_zero, List.set_cons_succ]
    refine hand_yes (i := 6) (v := ?_) rfl (by kernel_rfl) (by kernel_rfl) (by kernel_rfl) (fun _ _ _ h => h) (by rfl) ?_ (by assumption) ?_
    rotate_left
    · intro w hSw
      (try dsimp only at hSw)
      go_simp
      all_goals with_reducible rfl
    try simp only [Act.put, List.setIfInBounds_toArray, List.set_cons_zero, List.set_cons_succ]
    refine hand_yes (i := 7) (v := ?_) rfl (by kernel_rfl) (by kernel_rfl) (by kernel_rfl) (fun _ _ _ h => h) (by rfl) ?_ (by assumption) ?_
    rotate_left
    · intro w hSw
      (try dsimp only at hSw)
      go_simp
      all_goals with_reducible rfl
    try simp only [Act.put, List.setIfInBounds_toArray, List.set_cons_zero, List.set_cons_succ]
    refine hand_yes (i := 8) (v := ?_) rfl (by kernel_rfl) (by kernel_rfl) (by kernel_rfl) (fun _ _ _ h => h) (by rfl) ?_ (by assumption) ?_
    rotate_left
    · intro w hSw
      (try dsimp only at hSw)
      go_simp
      all_goals with_reducible rfl
    try simp only [Act.put, List.setIfInBounds_toArray, List.set_cons_zero, List.set_cons_succ]
    refine hand_yes (i := 9) (v := ?_) rfl (by kernel_rfl) (by kernel_rfl) (by kernel_rfl) (fun _ _ _ h => h) (by rfl) ?_ (by assumption) ?_
    rotate_left
    · intro w hSw
      (try dsimp only at hSw)
      go_simp
      all_goals with_reducible rfl
    try simp only [Act.put, List.setIfInBounds_toArray, List.set_cons_zero, List.set_cons_succ]
    refine hand_yes (i := 11) (v := ?_) rfl (by kernel_rfl) (by kernel_rfl) (by kernel_rfl) (fun _ _ _ h => h) (by rfl) ?_ (by assumption) ?_
    rotate_left
    · intro w hSw
      (try dsimp only at hSw)
      go_simp
      all_goals with_reducible rfl
    try simp only [Act.put, List.setIfInBounds_toArray, List.set_cons_zero, List.set_cons_succ]
    refine hand_call (i := 10) rfl (by kernel_rfl) (fun K hK => ?_)
    go_simp
    refine (HC.out _).mono ?_
    rintro e w' ⟨rfl, hb'⟩
    go_wp2_with fail
    refine hK.out _ _ ?_ (fun hHeld2 => ?_)
    · exact K3.next hHeld hb'
    clear hK K hHeld
    have hHeld := hHeld2
    clear hHeld2
    try simp only [Act.put, List.setIfInBounds_toArray, List.set_cons_zero, List.set_cons_succ]
    refine hand_call (i := 12) rfl (by kernel_rfl) (fun K hK => ?_)
    go_simp
    refine (HRN.out _).mono ?_
    rintro e w' ⟨rfl, hb'⟩
    go_wp2_with fail
    refine hK.out _ _ ?_ (fun hHeld2 => ?_)
    · exact K3.next hHeld hb'
    clear hK K hHeld
    have hHeld := hHeld2
    clear hHeld2
    try simp only [Act.put, List.setIfInBounds_toArray, List.set_cons_zero, List.set_cons_succ]
    refine hand_call (i := 13) rfl (by kernel_rfl) (fun K hK => ?_)
    go_simp
    refine (HRF2.out _).mono ?_
    rintro e w' ⟨rfl, hb'⟩
    go_wp2_with fail
    refine hK.out _ _ ?_ (fun hHeld2 => ?_)
    · exact K3.next hHeld hb'
    clear hK K hHeld
    have hHeld := hHeld2
    clear hHeld2
    try simp only [Act.put, List.setIfInBounds_toArray, List.set_cons_zero, List.set_cons_succ]
    refine hand_yes (i := 14) (v := ?_) rfl (by kernel_rfl) (by kernel_rfl) (by kernel_rfl) (fun _ _ _ h => h) (by rfl) ?_ (by assumption) ?_
    rotate_left
    · intro w hSw
      (try dsimp only at hSw)
      go_simp
      all_goals with_reducible rfl
    try simp only [Act.put, List.setIfInBounds_toArray, List.set_cons_zero, List.set_cons_succ]
    refine hand_yes (i := 15) (v := ?_) rfl (by kernel_rfl) (by kernel_rfl) (by kernel_rfl) (fun _ _ _ h => h) (by rfl) ?_ (by assumption) ?_
    rotate_left
    · intro w hSw
      (try dsimp only at hSw)
      go_simp
      all_goals with_reducible rfl
    try simp only [Act.put, List.setIfInBounds_toArray, List.set_cons_zero, List.set_cons_succ]
    refine hand_yes (i := 16) (v := ?_) rfl (by kernel_rfl) (by kernel_rfl) (by kernel_rfl) (fun _ _ _ h => h) (by rfl) ?_ (by assumption) ?_
    rotate_left
    · intro w hSw
      (try dsimp only at hSw)
      go_simp
      all_goals with_reducible rfl
    try simp only [Act.put, List.setIfInBounds_toArray, List.set_cons_zero, List.set_cons_succ]
    refine hand_yes (i := 17) (v := ?_) rfl (by kernel_rfl) (by kernel_rfl) (by kernel_rfl) (fun _ _ _ h => h) (by rfl) ?_ (by assumption) ?_
    rotate_left
    · intro w hSw
      (try dsimp only at hSw)
      go_simp
      all_goals with_reducible rfl
    try simp only [Act.put, List.setIfInBounds_toArray, List.set_cons_zero, List.set_cons_succ]
    refine hand_yes (i := 18) (v := ?_) rfl (by kernel_rfl) (by kernel_rfl) (by kernel_rfl) (fun _ _ _ h => h) (by rfl) ?_ (by assumption) ?_
    rotate_left
    · intro w hSw
      (try dsimp only at hSw)
      go_simp
      all_goals with_reducible rfl
    try simp only [Act.put, List.setIfInBounds_toArray, List.set_cons_zero, List.set_cons_succ]
    refine hand_yes (i := 20) (v := ?_) rfl (by kernel_rfl) (by kernel_rfl) (by kernel_rfl) (fun _ _ _ h => h) (by rfl) ?_ (by assumption) ?_
    rotate_left
    · intro w hSw
      (try dsimp only at hSw)
      go_simp
      all_goals with_reducible rfl
    try simp only [Act.put, List.setIfInBounds_toArray, List.set_cons_zero, List.set_cons_succ]
    refine hand_call (i := 19) rfl (by kernel_rfl) (fun K hK => ?_)
    go_simp
    refine (HRo.out _).mono ?_
    rintro e w' ⟨rfl, hb'⟩
    go_wp2_with fail
    refine hK.out _ _ ?_ (fun hHeld2 => ?_)
    · exact K3.next hHeld hb'
    clear hK K hHeld
    have hHeld := hHeld2
    clear hHeld2
    try simp only [Act.put, List.setIfInBounds_toArray, List.set_cons_zero, List.set_cons_succ]
    refine hand_yes (i := 21) (v := ?_) rfl (by kernel_rfl) (by kernel_rfl) (by kernel_rfl) (fun _ _ _ h => h) (by rfl) ?_ (by assumption) ?_
    rotate_left
    · intro w hSw
      (try dsimp only at hSw)
      go_simp
      all_goals with_reducible rfl
    try simp only [Act.put, List.setIfInBounds_toArray, List.set_cons_zero, List.set_cons_succ]
    refine hand_yes (i := 22) (v := ?_) rfl (by kernel_rfl) (by kernel_rfl) (by kernel_rfl) (fun _ _ _ h => h) (by rfl) ?_ (by assumption) ?_
    rotate_left
    · intro w hSw
      (try dsimp only at hSw)
      go_simp
      all_goals with_reducible rfl
    try simp only [Act.put, List.setIfInBounds_toArray, List.set_cons_zero, List.set_cons_succ]
    refine hand_yes (i := 23) (v := ?_) rfl (by kernel_rfl) (by kernel_rfl) (by kernel_rfl) (fun _ _ _ h => h) (by rfl) ?_ (by assumption) ?_
    rotate_left
    · intro w hSw
      (try dsimp only at hSw)
      go_simp
      all_goals with_reducible rfl
    try simp only [Act.put, List.setIfInBounds_toArray, List.set_cons_zero, List.set_cons_succ]
    refine hand_yes (i := 24) (v := ?_) rfl (by kernel_rfl) (by kernel_rfl) (by kernel_rfl) (fun _ _ _ h => h) (by rfl) ?_ (by assumption) ?_
    rotate_left
    · intro w hSw
      (try dsimp only at hSw)
      go_simp
      all_goals with_reducible rfl
    try simp only [Act.put, List.setIfInBounds_toArray, List.set_cons_zero, List.set_cons_succ]
    refine hand_yes (i := 25) (v := ?_) rfl (by kernel_rfl) (by kernel_rfl) (by kernel_rfl) (fun _ _ _ h => h) (by rfl) ?_ (by assumption) ?_
    rotate_left
    · intro w hSw
      (try dsimp only at hSw)
      go_simp
      all_goals with_reducible rfl
    try simp only [Act.put, List.setIfInBounds_toArray, List.set_cons_zero, List.set_cons_succ]
    refine hand_yes (i := 26) (v := ?_) rfl (by kernel_rfl) (by kernel_rfl) (by kernel_rfl) (fun _ _ _ h => h) (by rfl) ?_ (by assumption) ?_
    rotate_left
    · intro w hSw
      (try dsimp only at hSw)
      go_simp
      all_goals with_reducible rfl
    try simp only [Act.put, List.setIfInBounds_toArray, List.set_cons_zero, List.set_cons_succ]
    refine hand_yes (i := 27) (v := ?_) rfl (by kernel_rfl) (by kernel_rfl) (by kernel_rfl) (fun _ _ _ h => h) (by rfl) ?_ (by assumption) ?_
    rotate_left
    · intro w hSw
      (try dsimp only at hSw)
      go_simp
      all_goals with_reducible rfl
    try simp only [Act.put, List.setIfInBounds_toArray, List.set_cons_zero, List.set_cons_succ]
    refine hand_yes (i := 28) (v := ?_) rfl (by kernel_rfl) (by kernel_rfl) (by kernel_rfl) (fun _ _ _ h => h) (by rfl) ?_ (by assumption) ?_
    rotate_left
    · intro w hSw
      (try dsimp only at hSw)
      go_simp
      all_goals with_reducible rfl
    try simp only [Act.put, List.setIfInBounds_toArray, List.set_cons_zero, List.set_cons_succ]
    refine hand_yes (i := 29) (v := ?_) rfl (by kernel_rfl) (by kernel_rfl) (by kernel_rfl) (fun _ _ _ h => h) (by rfl) ?_ (by assumption) ?_
    rotate_left
    · intro w hSw
      (try dsimp only at hSw)
      go_simp
      all_goals with_reducible rfl
    try simp only [Act.put, List.setIfInBounds_toArray, List.set_cons_zero, List.set_cons_succ]
    refine hand_yes (i := 30) (v := ?_) rfl (by kernel_rfl) (by kernel_rfl) (by kernel_rfl) (fun _ _ _ h => h) (by rfl) ?_ (by assumption) ?_
    rotate_left
    · intro w hSw
      (try dsimp only at hSw)
      go_simp
      all_goals with_reducible rfl
    try simp only [Act.put, List.setIfInBounds_toArray, List.set_cons_zero, List.set_cons_succ]
    refine hand_yes (i := 31) (v := ?_) rfl (by kernel_rfl) (by kernel_rfl) (by kernel_rfl) (fun _ _ _ h => h) (by rfl) ?_ (by assumption) ?_
    rotate_left
    · intro w hSw
      (try dsimp only at hSw)
      go_simp
      all_goals with_reducible rfl
    try simp only [Act.put, List.setIfInBounds_toArray, List.set_cons_zero, List.set_cons_succ]
    refine hand_yes (i := 32) (v := ?_) rfl (by kernel_rfl) (by kernel_rfl) (by kernel_rfl) (fun _ _ _ h => h) (by rfl) ?_ (by assumption) ?_
    rotate_left
    · intro w hSw
      (try dsimp only at hSw)
      go_simp
      all_goals with_reducible rfl
    try simp only [Act.put, List.setIfInBounds_toArray, List.set_cons_zero, List.set_cons_succ]
    refine hand_no (i := 33) rfl (by kernel_rfl) (by kernel_rfl) (by kernel_rfl) (fun _ _ _ h => h) (by rfl) (by assumption) ?_
    try simp only [Act.put, List.setIfInBounds_toArray, List.set_cons_zero, List.set_cons_succ]
    refine hand_no (i := 34) rfl (by kernel_rfl) (by kernel_rfl) (by kernel_rfl) (fun _ _ _ h => h) (by rfl) (by assumption) ?_
    try simp only [Act.put, List.setIfInBounds_toArray, List.set_cons_zero, List.set_cons_succ]
    refine hand_no (i := 35) rfl (by kernel_rfl) (by kernel_rfl) (by kernel_rfl) (fun _ _ _ h => h) (by rfl) (by assumption) ?_
    try simp only [Act.put, List.setIfInBounds_toArray, List.set_cons_zero, List.set_cons_succ]
    refine hand_no (i := 36) rfl (by kernel_rfl) (by kernel_rfl) (by kernel_rfl) (fun _ _ _ h => h) (by rfl) (by assumption) ?_
    try simp only [Act.put, List.setIfInBounds_toArray, List.set_cons_zero, List.set_cons_succ]
    refine hand_yes (i := 37) (v := ?_) rfl (by kernel_rfl) (by kernel_rfl) (by kernel_rfl) (fun _ _ _ h => h) (by rfl) ?_ (by assumption) ?_
    rotate_left
    · intro w hSw
      (try dsimp only at hSw)
      go_simp
      all_goals with_reducible rfl
    try simp only [Act.put, List.setIfInBounds_toArray, List.set_cons_zero, List.set_cons_succ]
    refine hand_yes (i := 38) (v := ?_) rfl (by kernel_rfl) (by kernel_rfl) (by kernel_rfl) (fun _ _ _ h => h) (by rfl) ?_ (by assumption) ?_
    rotate_left
    · intro w hSw
      (try dsimp only at hSw)
      go_simp
      all_goals with_reducible rfl
    try simp only [Act.put, List.setIfInBounds_toArray, List.set_cons_zero, List.set_cons_succ]
    refine hand_yes (i := 39) (v := ?_) rfl (by kernel_rfl) (by kernel_rfl) (by kernel_rfl) (fun _ _ _ h => h) (by rfl) ?_ (by assumption) ?_
    rotate_left
    · intro w hSw
      (try dsimp only at hSw)
      go_simp
      all_goals with_reducible rfl
    try simp only [Act.put, List.setIfInBounds_toArray, List.set_cons_zero, List.set_cons_succ]
    refine wpAnyH_done (by kernel_rfl) ?_ _
    refine NoPanic.normal ?_
    go_wp2_with fail
    go_ret
    exact ⟨by first | rfl | simp, K3.bel hHeld⟩
  · have h1' : decide (1 < gd) = false := by simpa using h1
    have h2' : (R == 0) = false := by simpa [h3] using h2
    subst h3
    first
    | (go_region_held3 (fun w' => w'.cell? ⟨hx1, 0, none⟩ = some (.int .i64 (n)) ∧ w'.cell? ⟨hx1, 1, none⟩ = some (.int .i64 (d - 1)) ∧ w'.cell? ⟨hx1 + 1, 0, none⟩ = some (.int .i64 (n)) ∧ w'.cell? ⟨hx1 + 1, 1, none⟩ = some (.int .i64 (d)) ∧ w'.cell? ⟨hy, 0, none⟩ = some (.int .i64 (R)) ∧ w'.cell? ⟨hy, 1, none⟩ = some (.int .i64 (gd)) ∧ Two w' (hx1) (n) (d - 1) ∧ Two w' (hx1 + 1) (n) (d) ∧ Two w' (hy) (R) (gd) ∧ Below w.heap.size w w') (first | assumption | (exact K3.of HX1_6.out.drew HX2_6.out.drew HY_6.out.drew (Below.drew HB_6.out)) | (exact K3.next (by assumption) (by assumption))) (first | (go_at_call 17; have hK := K3.hid (by assumption); (with_reducible refine (HK.out _ (HT.out.on (K3.bel hK.out))).mono ?_); rintro e w' ⟨rfl, hb'⟩) | (go_at_call 18; (with_reducible refine (HF.out _).mono ?_); rintro e w' ⟨rfl, hb'⟩) | (go_at_call 19; (with_reducible refine (HC.out _).mono ?_); rintro e w' ⟨rfl, hb'⟩) | (go_at_call 21; (with_reducible refine (HRo.out _).mono ?_); rintro e w' ⟨rfl, hb'⟩) | (go_at_call 16; (with_reducible refine (HRF.out _).mono ?_); rintro e w' ⟨rfl, hb'⟩) | (go_at_call 20; (with_reducible refine (HRN.out _).mono ?_); rintro e w' ⟨rfl, hb'⟩) | (go_at_call 16; (with_reducible refine (HRF2.out _).mono ?_); rintro e w' ⟨rfl, hb'⟩)))
    | fail
    all_goals
      go_wp2_with fail
      go_ret
      exact ⟨by first | rfl | simp, K3.bel (by assumption)⟩

end Go.Proofs.YtfappkhohddcjaaDoor
