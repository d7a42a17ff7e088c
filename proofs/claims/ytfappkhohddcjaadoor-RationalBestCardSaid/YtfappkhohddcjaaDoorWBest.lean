/- The walk of RationalBest. -/
import Derived.Test.YtfappkhohddcjaaDoorOfL
import Derived.Test.YtfappkhohddcjaaDoorBest2
import Derived.Test.YtfappkhohddcjaaDoorKeep
import Derived.Test.YtfappkhohddcjaaDoorKn01
namespace Go.Proofs.YtfappkhohddcjaaDoor
open Go.RowKit

theorem ex_nearest (n d : Int) (hd : 0 < d) : ∀ m : Nat, 1 ≤ m → ∃ p q, Nearest n d m p q
  | 0, h => by omega
  | 1, _ => by
    by_cases h : dist n d (n / d + 1) 1 < dist n d (n / d) 1
    · exact ⟨_, 1, near_first hd rfl (.inl ⟨h, rfl⟩)⟩
    · exact ⟨_, 1, near_first hd rfl (.inr ⟨h, rfl⟩)⟩
  | m + 2, _ => by
    obtain ⟨p, q, h⟩ := ex_nearest n d hd (m + 1) (by omega)
    have key : ∃ p q, Nearest n d (((m + 1 : Nat) : Int) + 1) p q := by
      by_cases h1 : dist n d (n * (((m + 1 : Nat) : Int) + 1) / d) (((m + 1 : Nat) : Int) + 1) * q < dist n d p q * (((m + 1 : Nat) : Int) + 1)
      · by_cases h2 : dist n d (n * (((m + 1 : Nat) : Int) + 1) / d + 1) (((m + 1 : Nat) : Int) + 1) * (((m + 1 : Nat) : Int) + 1) < dist n d (n * (((m + 1 : Nat) : Int) + 1) / d) (((m + 1 : Nat) : Int) + 1) * (((m + 1 : Nat) : Int) + 1)
        · exact ⟨_, _, near_step hd rfl (by omega) h (.inl ⟨h1, rfl, rfl⟩) (.inl ⟨h2, rfl, rfl⟩)⟩
        · exact ⟨_, _, near_step hd rfl (by omega) h (.inl ⟨h1, rfl, rfl⟩) (.inr ⟨h2, rfl, rfl⟩)⟩
      · by_cases h2 : dist n d (n * (((m + 1 : Nat) : Int) + 1) / d + 1) (((m + 1 : Nat) : Int) + 1) * q < dist n d p q * (((m + 1 : Nat) : Int) + 1)
        · exact ⟨_, _, near_step hd rfl (by omega) h (.inr ⟨h1, rfl, rfl⟩) (.inl ⟨h2, rfl, rfl⟩)⟩
        · exact ⟨_, _, near_step hd rfl (by omega) h (.inr ⟨h1, rfl, rfl⟩) (.inr ⟨h2, rfl, rfl⟩)⟩
    exact key

theorem near_dist {n d m p q : Int} (hd : 0 < d) (h : Nearest n d m p q) : dist n d p q ≤ d := by
  have hq := h.one
  have hf := (fl_dist (n := n) (d := d) (m := q) (f := n * q / d) hd rfl).1
  rcases h.best (n * q / d) q h.one h.le with ⟨e, _⟩ | hl
  · rw [← e]; exact hf
  · have : dist n d p q * q ≤ dist n d (n * q / d) q * q := by unfold Lex at hl; omega
    have := Int.le_of_mul_le_mul_right this (by omega)
    omega
theorem fq_ok {p q : Int} (h : Fq p q) : (ofF p q).e = 0 := by
  obtain ⟨h1, h2, h3, h4⟩ := h
  rw [ofF_pos (by omega)]
  unfold redF
  have k1 := Nat.div_le_self p.natAbs (Nat.gcd p.natAbs q.natAbs)
  have k2 := Nat.div_le_self q.natAbs (Nat.gcd p.natAbs q.natAbs)
  rw [if_neg (by omega)]
theorem near_small {n d p q : Int} {m : Nat} (hl : Fq n d) (hm : m ≤ 60) (h : Nearest n d m p q) : (ofF p q).e = 0 := by
  obtain ⟨a1, a2, a3, a4⟩ := hl
  have hd := near_dist (by omega) h
  have hq := h.one
  have hq2 := h.le
  refine fq_ok ⟨?_, ?_, hq, by omega⟩
  all_goals
    rcases (show q < d ∨ d ≤ q by omega) with hc | hc
    · have k1 : n * q ≤ 1073741824 * q := Int.mul_le_mul_of_nonneg_right a2 (by omega)
      have k2 : -1073741824 * q ≤ n * q := Int.mul_le_mul_of_nonneg_right a1 (by omega)
      unfold dist at hd
      have k3 : p * d ≤ 1073741824 * d := by omega
      have k4 : -1073741824 * d ≤ p * d := by omega
      first | exact Int.le_of_mul_le_mul_right k4 (by omega) | exact Int.le_of_mul_le_mul_right k3 (by omega)
    · have hdm : d ≤ m := by omega
      have hdn : dist n d p q = 0 := by
        rcases h.best n d a3 hdm with ⟨e1, e2⟩ | hl
        · rw [← e1, ← e2]; unfold dist; simp
        · have e0 : dist n d n d = 0 := by unfold dist; simp
          unfold Lex at hl
          rw [e0, Int.zero_mul] at hl
          have := Int.mul_nonneg (dist_nonneg n d p q) (show 0 ≤ d by omega)
          have h0 : dist n d p q * d = 0 := by omega
          rcases Int.mul_eq_zero.1 h0 with h | h
          · exact h
          · omega
      have hpd : p * d = n * q := by unfold dist at hdn; omega
      rcases h.best n d a3 hdm with ⟨e1, e2⟩ | hl
      · omega
      · unfold Lex at hl
        have e0 : dist n d n d = 0 := by unfold dist; simp
        rw [hdn, e0] at hl
        have hqd : q = d := by omega
        rw [hqd] at hpd
        have := Int.eq_of_mul_eq_mul_right (show d ≠ 0 by omega) hpd
        omega

set_option maxRecDepth 100000 in
set_option maxHeartbeats 16000000 in
theorem rationalBest_walk (a0 b0 : Int) (_ : i64r a0) (_ : i64r b0) (m : Int) (hm : i64r m) (w : World) (ht : Tab w) :
    Calls Tryd.prog 4 #[.agg #[.int .i64 a0, .int .i64 b0], .int .i64 m] w fun e w' => e = .returned (.bool true) ∧ Below w.heap.size w w' := by
  have HT := hide ht
  obtain ⟨hm1, hm2⟩ := hm
  have HO0 := hide (fun W => of_any a0 b0 W)
  have HLF := hide (show Low (ofF (clN a0) (clD b0)).n (ofF (clN a0) (clD b0)).d from (ofF_val (cl_low a0 b0)).2.2)
  generalize ofF (clN a0) (clD b0) = F at HO0 HLF
  have HK := hide (fun W (h : Tab W) => known_any W h)
  rcases (show (¬ 60 < m ∧ m < 1) ∨ (¬ 60 < m ∧ ¬ m < 1) ∨ (60 < m ∧ m ≤ 1073741824 ∧ m % 60 = 0) ∨ (60 < m ∧ m ≤ 1073741824 ∧ 0 < m % 60) ∨ (60 < m ∧ ¬ m ≤ 1073741824) by omega) with ⟨h1, h2⟩ | ⟨h1, h2⟩ | ⟨h1, h2, h3⟩ | ⟨h1, h2, h3⟩ | ⟨h1, h2⟩
  · have z1 := trivial
    have HB := hide (fun W => Best_range F.n F.d m W (by omega))
    clear ht
    have HB_0 := hide (Below.refl w.heap.size w)
    go_enter Tryd.func4, Tryd.ntmps4
    go_wp2_with fail
    have HB_1 := hide (HB_0.out.alloc HB_0.out.size (.cells #[.int .i64 a0, .int .i64 b0] 22))
    have HP0_1 := hide (Two.new w a0 b0 22)
    generalize w.alloc (.cells #[.int .i64 a0, .int .i64 b0] 22) = w1 at  HB_1 HP0_1 ⊢
    generalize w.heap.size = hp0 at HP0_1 ⊢
    clear  HB_0
    have c0 := HP0_1.out.c0
    have c1 := HP0_1.out.c1
    go_wp2_with fail
    clear c0 c1
    refine (HO0.out _).mono ?_
    rintro e w2 ⟨rfl, hb⟩
    have HP0_2 := hide (HP0_1.out.on hb HP0_1.out.lt)
    have HB_2 := hide (on_tr HB_1.out hb)
    clear hb HP0_1 HB_1
    have HP0_3 := hide ((HP0_2.out.on ((Below.refl w2.heap.size w2).alloc (Nat.le_refl _) (.cells #[.int .i64 F.n, .int .i64 (F.d - 1)] 24)) HP0_2.out.lt).on ((Below.refl _ _).alloc (Nat.le_refl _) (.cells #[.int .i64 F.n, .int .i64 F.d] 26)) (by have := HP0_2.out.lt; simp; omega))
    have HB_3 := hide ((HB_2.out.alloc HB_2.out.size (.cells #[.int .i64 F.n, .int .i64 (F.d - 1)] 24)).alloc (by have := HB_2.out.size; simp; omega) (.cells #[.int .i64 F.n, .int .i64 F.d] 26))
    have HP := hide (S2.new2 w2 F.n (F.d - 1) F.n F.d 24 26)
    have HX0_3 := hide HP.out.tx
    have HQ0_3 := hide HP.out.ty
    clear HP
    have c0 := HX0_3.out.c0
    have c1 := HX0_3.out.c1
    go_wp2_with fail
    clear c0 c1
    generalize (w2.alloc (.cells #[.int .i64 F.n, .int .i64 (F.d - 1)] 24)).alloc (.cells #[.int .i64 F.n, .int .i64 F.d] 26) = w3 at HP0_3 HB_3 HX0_3 HQ0_3 ⊢
    generalize w2.heap.size = hx0 at HX0_3 HQ0_3 ⊢
    clear HP0_2 HB_2
    refine (HB.out _).mono ?_
    rintro e w4 ⟨rfl, hb⟩
    have HP0_4 := hide (HP0_3.out.on hb HP0_3.out.lt)
    have HX0_4 := hide (HX0_3.out.on hb HX0_3.out.lt)
    have HQ0_4 := hide (HQ0_3.out.on hb HQ0_3.out.lt)
    have HB_4 := hide (on_tr HB_3.out hb)
    clear hb HP0_3 HX0_3 HQ0_3 HB_3
    have HP0_5 := hide (HP0_4.out.on ((Below.refl w4.heap.size w4).alloc (Nat.le_refl _) (.cells #[.int .i64 0, .int .i64 0] 24)) HP0_4.out.lt)
    have HX0_5 := hide (HX0_4.out.on ((Below.refl w4.heap.size w4).alloc (Nat.le_refl _) (.cells #[.int .i64 0, .int .i64 0] 24)) HX0_4.out.lt)
    have HQ0_5 := hide (HQ0_4.out.on ((Below.refl w4.heap.size w4).alloc (Nat.le_refl _) (.cells #[.int .i64 0, .int .i64 0] 24)) HQ0_4.out.lt)
    have HB_5 := hide (HB_4.out.alloc HB_4.out.size (.cells #[.int .i64 0, .int .i64 0] 24))
    have HB1_5 := hide (Two.new w4 0 0 24)
    go_wp2_with fail
    generalize w4.alloc (.cells #[.int .i64 0, .int .i64 0] 24) = w5 at HP0_5 HX0_5 HQ0_5 HB_5 HB1_5 ⊢
    generalize w4.heap.size = hb1 at HB1_5 ⊢
    clear HP0_4 HX0_4 HQ0_4 HB_4
    have HTT := hide (HT.out.on HB_5.out)
    refine (HK.out _ HTT.out).mono ?_
    clear HTT
    rintro e w6 ⟨rfl, hb⟩
    have HP0_6 := hide (HP0_5.out.on hb HP0_5.out.lt)
    have HX0_6 := hide (HX0_5.out.on hb HX0_5.out.lt)
    have HQ0_6 := hide (HQ0_5.out.on hb HQ0_5.out.lt)
    have HB1_6 := hide (HB1_5.out.on hb HB1_5.out.lt)
    have HB_6 := hide (on_tr HB_5.out hb)
    clear hb HP0_5 HX0_5 HQ0_5 HB1_5 HB_5
    have c0 := HB1_6.out.c0
    have c1 := HB1_6.out.c1
    go_wp2_with fail
    clear c0 c1
    go_ret
    exact ⟨by first | rfl | simp, HB_6.out⟩
  · obtain ⟨M, rfl⟩ : ∃ M : Nat, m = (M : Int) := ⟨m.toNat, by omega⟩
    have g1 : ¬ (1073741824 : Int) < (M : Int) := by omega
    obtain ⟨p, q, hN⟩ := ex_nearest F.n F.d (by have := HLF.out.q.2.2.1; omega) M (by omega)
    have hE := near_small HLF.out.q (by omega) hN
    have HB := hide (fun W => Best_any F.n F.d M p q W HLF.out.q HLF.out.g (by omega) (by omega) hN)
    have HRB := hide (fun W => RBest_any F.n F.d M p q W HLF.out.q (by omega) (by omega) hN)
    have hs := fun W => same_any (ofF p q) W (ofF_fq p q) (ofF_err p q)
    rw [hE] at HB hs
    have HS := hide hs
    generalize ofF p q = P at HB HRB HS
    clear hs hN hE ht
    have HB_0 := hide (Below.refl w.heap.size w)
    go_enter Tryd.func4, Tryd.ntmps4
    go_wp2_with fail
    have HB_1 := hide (HB_0.out.alloc HB_0.out.size (.cells #[.int .i64 a0, .int .i64 b0] 22))
    have HP0_1 := hide (Two.new w a0 b0 22)
    generalize w.alloc (.cells #[.int .i64 a0, .int .i64 b0] 22) = w1 at  HB_1 HP0_1 ⊢
    generalize w.heap.size = hp0 at HP0_1 ⊢
    clear  HB_0
    have c0 := HP0_1.out.c0
    have c1 := HP0_1.out.c1
    go_wp2_with fail
    clear c0 c1
    refine (HO0.out _).mono ?_
    rintro e w2 ⟨rfl, hb⟩
    have HP0_2 := hide (HP0_1.out.on hb HP0_1.out.lt)
    have HB_2 := hide (on_tr HB_1.out hb)
    clear hb HP0_1 HB_1
    have HP0_3 := hide ((HP0_2.out.on ((Below.refl w2.heap.size w2).alloc (Nat.le_refl _) (.cells #[.int .i64 F.n, .int .i64 (F.d - 1)] 24)) HP0_2.out.lt).on ((Below.refl _ _).alloc (Nat.le_refl _) (.cells #[.int .i64 F.n, .int .i64 F.d] 26)) (by have := HP0_2.out.lt; simp; omega))
    have HB_3 := hide ((HB_2.out.alloc HB_2.out.size (.cells #[.int .i64 F.n, .int .i64 (F.d - 1)] 24)).alloc (by have := HB_2.out.size; simp; omega) (.cells #[.int .i64 F.n, .int .i64 F.d] 26))
    have HP := hide (S2.new2 w2 F.n (F.d - 1) F.n F.d 24 26)
    have HX0_3 := hide HP.out.tx
    have HQ0_3 := hide HP.out.ty
    clear HP
    have c0 := HX0_3.out.c0
    have c1 := HX0_3.out.c1
    go_wp2_with fail
    clear c0 c1
    generalize (w2.alloc (.cells #[.int .i64 F.n, .int .i64 (F.d - 1)] 24)).alloc (.cells #[.int .i64 F.n, .int .i64 F.d] 26) = w3 at HP0_3 HB_3 HX0_3 HQ0_3 ⊢
    generalize w2.heap.size = hx0 at HX0_3 HQ0_3 ⊢
    clear HP0_2 HB_2
    refine (HB.out _).mono ?_
    rintro e w4 ⟨rfl, hb⟩
    have HP0_4 := hide (HP0_3.out.on hb HP0_3.out.lt)
    have HX0_4 := hide (HX0_3.out.on hb HX0_3.out.lt)
    have HQ0_4 := hide (HQ0_3.out.on hb HQ0_3.out.lt)
    have HB_4 := hide (on_tr HB_3.out hb)
    clear hb HP0_3 HX0_3 HQ0_3 HB_3
    have HP0_5 := hide (HP0_4.out.on ((Below.refl w4.heap.size w4).alloc (Nat.le_refl _) (.cells #[.int .i64 P.n, .int .i64 (P.d - 1)] 24)) HP0_4.out.lt)
    have HX0_5 := hide (HX0_4.out.on ((Below.refl w4.heap.size w4).alloc (Nat.le_refl _) (.cells #[.int .i64 P.n, .int .i64 (P.d - 1)] 24)) HX0_4.out.lt)
    have HQ0_5 := hide (HQ0_4.out.on ((Below.refl w4.heap.size w4).alloc (Nat.le_refl _) (.cells #[.int .i64 P.n, .int .i64 (P.d - 1)] 24)) HQ0_4.out.lt)
    have HB_5 := hide (HB_4.out.alloc HB_4.out.size (.cells #[.int .i64 P.n, .int .i64 (P.d - 1)] 24))
    have HB1_5 := hide (Two.new w4 P.n (P.d - 1) 24)
    go_wp2_with fail
    generalize w4.alloc (.cells #[.int .i64 P.n, .int .i64 (P.d - 1)] 24) = w5 at HP0_5 HX0_5 HQ0_5 HB_5 HB1_5 ⊢
    generalize w4.heap.size = hb1 at HB1_5 ⊢
    clear HP0_4 HX0_4 HQ0_4 HB_4
    first
    | (go_region_held3 (fun w' => w'.cell? ⟨hb1, 0, none⟩ = some (.int .i64 (P.n)) ∧ w'.cell? ⟨hb1, 1, none⟩ = some (.int .i64 (P.d - 1)) ∧ w'.cell? ⟨hx0 + 1, 0, none⟩ = some (.int .i64 (F.n)) ∧ w'.cell? ⟨hx0 + 1, 1, none⟩ = some (.int .i64 (F.d)) ∧ Two w' (hb1) (P.n) (P.d - 1) ∧ Two w' (hx0 + 1) (F.n) (F.d) ∧ Below w.heap.size w w') (first | assumption | (exact K2.of HB1_5.out.drew HQ0_5.out.drew (Below.drew HB_5.out)) | (exact K2.next (by assumption) (by assumption))) (first | (go_at_call 17; have hK := K2.hid (by assumption); (with_reducible refine (HK.out _ (HT.out.on (K2.bel hK.out))).mono ?_); rintro e w' ⟨rfl, hb'⟩) | (go_at_call 24; (with_reducible refine (HRB.out _).mono ?_); rintro e w' ⟨rfl, hb'⟩) | (go_at_call 23; (with_reducible refine (HS.out _).mono ?_); rintro e w' ⟨rfl, hb'⟩)))
    | fail
    all_goals
      go_wp2_with fail
      go_ret
      exact ⟨by first | rfl | simp, K2.bel (by assumption)⟩
  · have t1 : m.tmod 60 = 0 := by rw [Int.tmod_eq_emod_of_nonneg (by omega)]; exact h3
    have HB := hide (fun W => Best_range F.n F.d 0 W (by omega))
    clear ht
    have HB_0 := hide (Below.refl w.heap.size w)
    go_enter Tryd.func4, Tryd.ntmps4
    go_wp2_with fail
    have HB_1 := hide (HB_0.out.alloc HB_0.out.size (.cells #[.int .i64 a0, .int .i64 b0] 22))
    have HP0_1 := hide (Two.new w a0 b0 22)
    generalize w.alloc (.cells #[.int .i64 a0, .int .i64 b0] 22) = w1 at  HB_1 HP0_1 ⊢
    generalize w.heap.size = hp0 at HP0_1 ⊢
    clear  HB_0
    have c0 := HP0_1.out.c0
    have c1 := HP0_1.out.c1
    go_wp2_with fail
    clear c0 c1
    refine (HO0.out _).mono ?_
    rintro e w2 ⟨rfl, hb⟩
    have HP0_2 := hide (HP0_1.out.on hb HP0_1.out.lt)
    have HB_2 := hide (on_tr HB_1.out hb)
    clear hb HP0_1 HB_1
    have HP0_3 := hide ((HP0_2.out.on ((Below.refl w2.heap.size w2).alloc (Nat.le_refl _) (.cells #[.int .i64 F.n, .int .i64 (F.d - 1)] 24)) HP0_2.out.lt).on ((Below.refl _ _).alloc (Nat.le_refl _) (.cells #[.int .i64 F.n, .int .i64 F.d] 26)) (by have := HP0_2.out.lt; simp; omega))
    have HB_3 := hide ((HB_2.out.alloc HB_2.out.size (.cells #[.int .i64 F.n, .int .i64 (F.d - 1)] 24)).alloc (by have := HB_2.out.size; simp; omega) (.cells #[.int .i64 F.n, .int .i64 F.d] 26))
    have HP := hide (S2.new2 w2 F.n (F.d - 1) F.n F.d 24 26)
    have HX0_3 := hide HP.out.tx
    have HQ0_3 := hide HP.out.ty
    clear HP
    have c0 := HX0_3.out.c0
    have c1 := HX0_3.out.c1
    go_wp2_with fail
    clear c0 c1
    generalize (w2.alloc (.cells #[.int .i64 F.n, .int .i64 (F.d - 1)] 24)).alloc (.cells #[.int .i64 F.n, .int .i64 F.d] 26) = w3 at HP0_3 HB_3 HX0_3 HQ0_3 ⊢
    generalize w2.heap.size = hx0 at HX0_3 HQ0_3 ⊢
    clear HP0_2 HB_2
    refine (HB.out _).mono ?_
    rintro e w4 ⟨rfl, hb⟩
    have HP0_4 := hide (HP0_3.out.on hb HP0_3.out.lt)
    have HX0_4 := hide (HX0_3.out.on hb HX0_3.out.lt)
    have HQ0_4 := hide (HQ0_3.out.on hb HQ0_3.out.lt)
    have HB_4 := hide (on_tr HB_3.out hb)
    clear hb HP0_3 HX0_3 HQ0_3 HB_3
    have HP0_5 := hide (HP0_4.out.on ((Below.refl w4.heap.size w4).alloc (Nat.le_refl _) (.cells #[.int .i64 0, .int .i64 0] 24)) HP0_4.out.lt)
    have HX0_5 := hide (HX0_4.out.on ((Below.refl w4.heap.size w4).alloc (Nat.le_refl _) (.cells #[.int .i64 0, .int .i64 0] 24)) HX0_4.out.lt)
    have HQ0_5 := hide (HQ0_4.out.on ((Below.refl w4.heap.size w4).alloc (Nat.le_refl _) (.cells #[.int .i64 0, .int .i64 0] 24)) HQ0_4.out.lt)
    have HB_5 := hide (HB_4.out.alloc HB_4.out.size (.cells #[.int .i64 0, .int .i64 0] 24))
    have HB1_5 := hide (Two.new w4 0 0 24)
    go_wp2_with fail
    generalize w4.alloc (.cells #[.int .i64 0, .int .i64 0] 24) = w5 at HP0_5 HX0_5 HQ0_5 HB_5 HB1_5 ⊢
    generalize w4.heap.size = hb1 at HB1_5 ⊢
    clear HP0_4 HX0_4 HQ0_4 HB_4
    have HTT := hide (HT.out.on HB_5.out)
    refine (HK.out _ HTT.out).mono ?_
    clear HTT
    rintro e w6 ⟨rfl, hb⟩
    have HP0_6 := hide (HP0_5.out.on hb HP0_5.out.lt)
    have HX0_6 := hide (HX0_5.out.on hb HX0_5.out.lt)
    have HQ0_6 := hide (HQ0_5.out.on hb HQ0_5.out.lt)
    have HB1_6 := hide (HB1_5.out.on hb HB1_5.out.lt)
    have HB_6 := hide (on_tr HB_5.out hb)
    clear hb HP0_5 HX0_5 HQ0_5 HB1_5 HB_5
    have c0 := HB1_6.out.c0
    have c1 := HB1_6.out.c1
    go_wp2_with fail
    clear c0 c1
    go_ret
    exact ⟨by first | rfl | simp, HB_6.out⟩
  · obtain ⟨M, hM⟩ : ∃ M : Nat, m % 60 = (M : Int) := ⟨(m % 60).toNat, by omega⟩
    have t1 : m.tmod 60 = (M : Int) := by rw [Int.tmod_eq_emod_of_nonneg (by omega)]; exact hM
    have g1 : ¬ (1073741824 : Int) < (M : Int) := by omega
    have g2 : ¬ (M : Int) < 1 := by omega
    have i1 : IntKind.i64.wrap (M : Int) = (M : Int) := IntWalk.i64_in _ (by omega)
    have g3 : 1 ≤ M := by omega
    have g4 : M ≤ 60 := by omega
    clear h3
    obtain ⟨p, q, hN⟩ := ex_nearest F.n F.d (by have := HLF.out.q.2.2.1; omega) M (by omega)
    have hE := near_small HLF.out.q (by omega) hN
    have HB := hide (fun W => Best_any F.n F.d M p q W HLF.out.q HLF.out.g (by omega) (by omega) hN)
    have HRB := hide (fun W => RBest_any F.n F.d M p q W HLF.out.q (by omega) (by omega) hN)
    have hs := fun W => same_any (ofF p q) W (ofF_fq p q) (ofF_err p q)
    rw [hE] at HB hs
    have HS := hide hs
    generalize ofF p q = P at HB HRB HS
    clear hs hN hE ht
    have HB_0 := hide (Below.refl w.heap.size w)
    go_enter Tryd.func4, Tryd.ntmps4
    go_wp2_with fail
    have HB_1 := hide (HB_0.out.alloc HB_0.out.size (.cells #[.int .i64 a0, .int .i64 b0] 22))
    have HP0_1 := hide (Two.new w a0 b0 22)
    generalize w.alloc (.cells #[.int .i64 a0, .int .i64 b0] 22) = w1 at  HB_1 HP0_1 ⊢
    generalize w.heap.size = hp0 at HP0_1 ⊢
    clear  HB_0
    have c0 := HP0_1.out.c0
    have c1 := HP0_1.out.c1
    go_wp2_with fail
    clear c0 c1
    refine (HO0.out _).mono ?_
    rintro e w2 ⟨rfl, hb⟩
    have HP0_2 := hide (HP0_1.out.on hb HP0_1.out.lt)
    have HB_2 := hide (on_tr HB_1.out hb)
    clear hb HP0_1 HB_1
    have HP0_3 := hide ((HP0_2.out.on ((Below.refl w2.heap.size w2).alloc (Nat.le_refl _) (.cells #[.int .i64 F.n, .int .i64 (F.d - 1)] 24)) HP0_2.out.lt).on ((Below.refl _ _).alloc (Nat.le_refl _) (.cells #[.int .i64 F.n, .int .i64 F.d] 26)) (by have := HP0_2.out.lt; simp; omega))
    have HB_3 := hide ((HB_2.out.alloc HB_2.out.size (.cells #[.int .i64 F.n, .int .i64 (F.d - 1)] 24)).alloc (by have := HB_2.out.size; simp; omega) (.cells #[.int .i64 F.n, .int .i64 F.d] 26))
    have HP := hide (S2.new2 w2 F.n (F.d - 1) F.n F.d 24 26)
    have HX0_3 := hide HP.out.tx
    have HQ0_3 := hide HP.out.ty
    clear HP
    have c0 := HX0_3.out.c0
    have c1 := HX0_3.out.c1
    go_wp2_with fail
    clear c0 c1
    generalize (w2.alloc (.cells #[.int .i64 F.n, .int .i64 (F.d - 1)] 24)).alloc (.cells #[.int .i64 F.n, .int .i64 F.d] 26) = w3 at HP0_3 HB_3 HX0_3 HQ0_3 ⊢
    generalize w2.heap.size = hx0 at HX0_3 HQ0_3 ⊢
    clear HP0_2 HB_2
    refine (HB.out _).mono ?_
    rintro e w4 ⟨rfl, hb⟩
    have HP0_4 := hide (HP0_3.out.on hb HP0_3.out.lt)
    have HX0_4 := hide (HX0_3.out.on hb HX0_3.out.lt)
    have HQ0_4 := hide (HQ0_3.out.on hb HQ0_3.out.lt)
    have HB_4 := hide (on_tr HB_3.out hb)
    clear hb HP0_3 HX0_3 HQ0_3 HB_3
    have HP0_5 := hide (HP0_4.out.on ((Below.refl w4.heap.size w4).alloc (Nat.le_refl _) (.cells #[.int .i64 P.n, .int .i64 (P.d - 1)] 24)) HP0_4.out.lt)
    have HX0_5 := hide (HX0_4.out.on ((Below.refl w4.heap.size w4).alloc (Nat.le_refl _) (.cells #[.int .i64 P.n, .int .i64 (P.d - 1)] 24)) HX0_4.out.lt)
    have HQ0_5 := hide (HQ0_4.out.on ((Below.refl w4.heap.size w4).alloc (Nat.le_refl _) (.cells #[.int .i64 P.n, .int .i64 (P.d - 1)] 24)) HQ0_4.out.lt)
    have HB_5 := hide (HB_4.out.alloc HB_4.out.size (.cells #[.int .i64 P.n, .int .i64 (P.d - 1)] 24))
    have HB1_5 := hide (Two.new w4 P.n (P.d - 1) 24)
    go_wp2_with fail
    generalize w4.alloc (.cells #[.int .i64 P.n, .int .i64 (P.d - 1)] 24) = w5 at HP0_5 HX0_5 HQ0_5 HB_5 HB1_5 ⊢
    generalize w4.heap.size = hb1 at HB1_5 ⊢
    clear HP0_4 HX0_4 HQ0_4 HB_4
    first
    | (go_region_held3 (fun w' => w'.cell? ⟨hb1, 0, none⟩ = some (.int .i64 (P.n)) ∧ w'.cell? ⟨hb1, 1, none⟩ = some (.int .i64 (P.d - 1)) ∧ w'.cell? ⟨hx0 + 1, 0, none⟩ = some (.int .i64 (F.n)) ∧ w'.cell? ⟨hx0 + 1, 1, none⟩ = some (.int .i64 (F.d)) ∧ Two w' (hb1) (P.n) (P.d - 1) ∧ Two w' (hx0 + 1) (F.n) (F.d) ∧ Below w.heap.size w w') (first | assumption | (exact K2.of HB1_5.out.drew HQ0_5.out.drew (Below.drew HB_5.out)) | (exact K2.next (by assumption) (by assumption))) (first | (go_at_call 17; have hK := K2.hid (by assumption); (with_reducible refine (HK.out _ (HT.out.on (K2.bel hK.out))).mono ?_); rintro e w' ⟨rfl, hb'⟩) | (go_at_call 24; (with_reducible refine (HRB.out _).mono ?_); rintro e w' ⟨rfl, hb'⟩) | (go_at_call 23; (with_reducible refine (HS.out _).mono ?_); rintro e w' ⟨rfl, hb'⟩)))
    | fail
    all_goals
      go_wp2_with fail
      go_ret
      exact ⟨by first | rfl | simp, K2.bel (by assumption)⟩
  · have g1 : (1073741824 : Int) < m := by omega
    have g2 : ¬ m < 1 := by omega
    have HB := hide (fun W => Best_range F.n F.d m W (by omega))
    clear ht
    have HB_0 := hide (Below.refl w.heap.size w)
    go_enter Tryd.func4, Tryd.ntmps4
    go_wp2_with fail
    have HB_1 := hide (HB_0.out.alloc HB_0.out.size (.cells #[.int .i64 a0, .int .i64 b0] 22))
    have HP0_1 := hide (Two.new w a0 b0 22)
    generalize w.alloc (.cells #[.int .i64 a0, .int .i64 b0] 22) = w1 at  HB_1 HP0_1 ⊢
    generalize w.heap.size = hp0 at HP0_1 ⊢
    clear  HB_0
    have c0 := HP0_1.out.c0
    have c1 := HP0_1.out.c1
    go_wp2_with fail
    clear c0 c1
    refine (HO0.out _).mono ?_
    rintro e w2 ⟨rfl, hb⟩
    have HP0_2 := hide (HP0_1.out.on hb HP0_1.out.lt)
    have HB_2 := hide (on_tr HB_1.out hb)
    clear hb HP0_1 HB_1
    have HP0_3 := hide ((HP0_2.out.on ((Below.refl w2.heap.size w2).alloc (Nat.le_refl _) (.cells #[.int .i64 F.n, .int .i64 (F.d - 1)] 24)) HP0_2.out.lt).on ((Below.refl _ _).alloc (Nat.le_refl _) (.cells #[.int .i64 F.n, .int .i64 F.d] 26)) (by have := HP0_2.out.lt; simp; omega))
    have HB_3 := hide ((HB_2.out.alloc HB_2.out.size (.cells #[.int .i64 F.n, .int .i64 (F.d - 1)] 24)).alloc (by have := HB_2.out.size; simp; omega) (.cells #[.int .i64 F.n, .int .i64 F.d] 26))
    have HP := hide (S2.new2 w2 F.n (F.d - 1) F.n F.d 24 26)
    have HX0_3 := hide HP.out.tx
    have HQ0_3 := hide HP.out.ty
    clear HP
    have c0 := HX0_3.out.c0
    have c1 := HX0_3.out.c1
    go_wp2_with fail
    clear c0 c1
    generalize (w2.alloc (.cells #[.int .i64 F.n, .int .i64 (F.d - 1)] 24)).alloc (.cells #[.int .i64 F.n, .int .i64 F.d] 26) = w3 at HP0_3 HB_3 HX0_3 HQ0_3 ⊢
    generalize w2.heap.size = hx0 at HX0_3 HQ0_3 ⊢
    clear HP0_2 HB_2
    refine (HB.out _).mono ?_
    rintro e w4 ⟨rfl, hb⟩
    have HP0_4 := hide (HP0_3.out.on hb HP0_3.out.lt)
    have HX0_4 := hide (HX0_3.out.on hb HX0_3.out.lt)
    have HQ0_4 := hide (HQ0_3.out.on hb HQ0_3.out.lt)
    have HB_4 := hide (on_tr HB_3.out hb)
    clear hb HP0_3 HX0_3 HQ0_3 HB_3
    have HP0_5 := hide (HP0_4.out.on ((Below.refl w4.heap.size w4).alloc (Nat.le_refl _) (.cells #[.int .i64 0, .int .i64 0] 24)) HP0_4.out.lt)
    have HX0_5 := hide (HX0_4.out.on ((Below.refl w4.heap.size w4).alloc (Nat.le_refl _) (.cells #[.int .i64 0, .int .i64 0] 24)) HX0_4.out.lt)
    have HQ0_5 := hide (HQ0_4.out.on ((Below.refl w4.heap.size w4).alloc (Nat.le_refl _) (.cells #[.int .i64 0, .int .i64 0] 24)) HQ0_4.out.lt)
    have HB_5 := hide (HB_4.out.alloc HB_4.out.size (.cells #[.int .i64 0, .int .i64 0] 24))
    have HB1_5 := hide (Two.new w4 0 0 24)
    go_wp2_with fail
    generalize w4.alloc (.cells #[.int .i64 0, .int .i64 0] 24) = w5 at HP0_5 HX0_5 HQ0_5 HB_5 HB1_5 ⊢
    generalize w4.heap.size = hb1 at HB1_5 ⊢
    clear HP0_4 HX0_4 HQ0_4 HB_4
    have HTT := hide (HT.out.on HB_5.out)
    refine (HK.out _ HTT.out).mono ?_
    clear HTT
    rintro e w6 ⟨rfl, hb⟩
    have HP0_6 := hide (HP0_5.out.on hb HP0_5.out.lt)
    have HX0_6 := hide (HX0_5.out.on hb HX0_5.out.lt)
    have HQ0_6 := hide (HQ0_5.out.on hb HQ0_5.out.lt)
    have HB1_6 := hide (HB1_5.out.on hb HB1_5.out.lt)
    have HB_6 := hide (on_tr HB_5.out hb)
    clear hb HP0_5 HX0_5 HQ0_5 HB1_5 HB_5
    have c0 := HB1_6.out.c0
    have c1 := HB1_6.out.c1
    go_wp2_with fail
    clear c0 c1
    go_ret
    exact ⟨by first | rfl | simp, HB_6.out⟩

end Go.Proofs.YtfappkhohddcjaaDoor
