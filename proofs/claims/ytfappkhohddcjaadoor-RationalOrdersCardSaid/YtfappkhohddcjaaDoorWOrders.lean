/- The walk of RationalOrders. -/
import Derived.Test.YtfappkhohddcjaaDoorFieldL
import Derived.Test.YtfappkhohddcjaaDoorKeep2
import Derived.Test.YtfappkhohddcjaaDoorHand
import Derived.Test.YtfappkhohddcjaaDoorKn01
namespace Go.Proofs.YtfappkhohddcjaaDoor
open Go.RowKit

theorem eq_cases {F G : Fr} (lF : Low F.n F.d) (lG : Low G.n G.d) : (F.n = G.n ∧ F.d = G.d ∧ cmpQ (F.n * G.d) (G.n * F.d) = 0) ∨ (¬ F.n = G.n ∧ ¬ cmpQ (F.n * G.d) (G.n * F.d) = 0) ∨ (F.n = G.n ∧ ¬ F.d = G.d ∧ ¬ cmpQ (F.n * G.d) (G.n * F.d) = 0) := by
  rw [cmpQ_zero]
  by_cases h1 : F.n = G.n
  · by_cases h2 : F.d = G.d
    · exact .inl ⟨h1, h2, by rw [h1, h2]⟩
    · exact .inr (.inr ⟨h1, h2, fun h => h2 (lF.eq lG h).2⟩)
  · exact .inr (.inl ⟨h1, fun h => h1 (lF.eq lG h).1⟩)
theorem trans_cases {F G K : Fr} (lF : Low F.n F.d) (lG : Low G.n G.d) (lK : Low K.n K.d) :
    ¬ cmpQ (F.n * G.d) (G.n * F.d) ≤ 0 ∨ (cmpQ (F.n * G.d) (G.n * F.d) ≤ 0 ∧ ¬ cmpQ (G.n * K.d) (K.n * G.d) ≤ 0) ∨ (cmpQ (F.n * G.d) (G.n * F.d) ≤ 0 ∧ cmpQ (G.n * K.d) (K.n * G.d) ≤ 0 ∧ ¬ 0 < cmpQ (F.n * K.d) (K.n * F.d)) := by
  by_cases h1 : cmpQ (F.n * G.d) (G.n * F.d) ≤ 0
  · by_cases h2 : cmpQ (G.n * K.d) (K.n * G.d) ≤ 0
    · have := (cmpQ_le _ _).2 (frac_trans lF lG lK ((cmpQ_le _ _).1 h1) ((cmpQ_le _ _).1 h2))
      exact .inr (.inr ⟨h1, h2, by omega⟩)
    · exact .inr (.inl ⟨h1, h2⟩)
  · exact .inl h1

set_option linter.unusedSimpArgs false in
set_option maxRecDepth 100000 in
set_option maxHeartbeats 16000000 in
theorem rationalOrders_walk (a0 b0 : Int) (_ : i64r a0) (_ : i64r b0) (a1 b1 : Int) (_ : i64r a1) (_ : i64r b1) (a2 b2 : Int) (_ : i64r a2) (_ : i64r b2) (w : World) (ht : Tab w) :
    Calls Tryd.prog 11 #[.agg #[.int .i64 a0, .int .i64 b0], .agg #[.int .i64 a1, .int .i64 b1], .agg #[.int .i64 a2, .int .i64 b2]] w fun e w' => e = .returned (.bool true) ∧ Below w.heap.size w w' := by
  have HT := hide ht
  have HO0 := hide (fun W => of_any a0 b0 W)
  have HLF := hide (show Low (ofF (clN a0) (clD b0)).n (ofF (clN a0) (clD b0)).d from (ofF_val (cl_low a0 b0)).2.2)
  generalize ofF (clN a0) (clD b0) = F at HO0 HLF
  have HO1 := hide (fun W => of_any a1 b1 W)
  have HLG := hide (show Low (ofF (clN a1) (clD b1)).n (ofF (clN a1) (clD b1)).d from (ofF_val (cl_low a1 b1)).2.2)
  generalize ofF (clN a1) (clD b1) = G at HO1 HLG
  have HO2 := hide (fun W => of_any a2 b2 W)
  have HLK := hide (show Low (ofF (clN a2) (clD b2)).n (ofF (clN a2) (clD b2)).d from (ofF_val (cl_low a2 b2)).2.2)
  generalize ofF (clN a2) (clD b2) = K at HO2 HLK
  have HK := hide (fun W (h : Tab W) => known_any W h)
  have HC1 := hide (fun W => Cmp_any F.n F.d G.n G.d W HLF.out.q HLG.out.q)
  have HR1 := hide (fun W => RCmp_any F.n F.d G.n G.d W HLF.out.q HLG.out.q)
  have HC2 := hide (fun W => Cmp_any G.n G.d K.n K.d W HLG.out.q HLK.out.q)
  have HC3 := hide (fun W => Cmp_any F.n F.d K.n K.d W HLF.out.q HLK.out.q)
  have HC4 := hide (fun W => Cmp_any K.n K.d F.n F.d W HLK.out.q HLF.out.q)
  have HR4 := hide (fun W => RCmp_any K.n K.d F.n F.d W HLK.out.q HLF.out.q)
  have HSg := hide (fun W => Sign_any F.n F.d W HLF.out.q)
  have HRs := hide (fun W => RCmp_any F.n F.d 0 1 W HLF.out.q ⟨by omega, by omega, by omega, by omega⟩)
  rw [Int.mul_one, Int.zero_mul] at HRs
  have HAd := hide (fun W => Add_any F.n F.d K.n K.d W HLF.out.q HLK.out.q)
  have HBd := hide (fun W => Add_any G.n G.d K.n K.d W HLG.out.q HLK.out.q)
  have hadd := fun S T hS hT => frac_add (S := S) (T := T) HLF.out HLG.out HLK.out hS hT
  have HC5 := hide (fun W => Cmp_any _ _ _ _ W (ofF_fq (F.n * K.d + K.n * F.d) (F.d * K.d)) (ofF_fq (G.n * K.d + K.n * G.d) (G.d * K.d)))
  obtain ⟨S, hS⟩ : ∃ S, S = ofF (F.n * K.d + K.n * F.d) (F.d * K.d) := ⟨_, rfl⟩
  obtain ⟨T, hT⟩ : ∃ T, T = ofF (G.n * K.d + K.n * G.d) (G.d * K.d) := ⟨_, rfl⟩
  have HADD := hide (hadd S T hS hT)
  rw [← hS] at HAd HC5
  rw [← hT] at HBd HC5
  have heq := eq_cases HLF.out HLG.out
  have htr := trans_cases HLF.out HLG.out HLK.out
  generalize cmpQ (F.n * G.d) (G.n * F.d) = c1 at HC1 HR1 HADD heq htr
  generalize cmpQ (G.n * K.d) (K.n * G.d) = c2 at HC2 htr
  generalize cmpQ (F.n * K.d) (K.n * F.d) = c3 at HC3 htr
  generalize cmpQ (K.n * F.d) (F.n * K.d) = c4 at HC4 HR4
  generalize cmpQ F.n 0 = c0 at HSg HRs
  generalize cmpQ (S.n * T.d) (T.n * S.d) = c5 at HC5 HADD
  have HEQ := hide heq
  have HTR := hide htr
  clear ht hadd hS hT heq htr
  have HB_0 := hide (Below.refl w.heap.size w)
  go_enter Tryd.func11, Tryd.ntmps11
  go_wp2_with fail
  have HB_1 := hide (box3_bel w a0 b0 a1 b1 a2 b2 22)
  have HP0_1 := hide (box3_0 w a0 b0 a1 b1 a2 b2 22)
  have HP1_1 := hide (box3_1 w a0 b0 a1 b1 a2 b2 22)
  have HP2_1 := hide (box3_2 w a0 b0 a1 b1 a2 b2 22)
  generalize (((w.alloc (.cells #[.int .i64 a0, .int .i64 b0] 22)).alloc (.cells #[.int .i64 a1, .int .i64 b1] 22)).alloc (.cells #[.int .i64 a2, .int .i64 b2] 22)) = w1 at HB_1 HP0_1 HP1_1 HP2_1 ⊢
  clear HB_0
  have c0 := HP0_1.out.c0
  have c1 := HP0_1.out.c1
  go_wp2_with fail
  clear c0 c1
  refine (HO0.out _).mono ?_
  rintro e w2 ⟨rfl, hb⟩
  have HP0_2 := hide (HP0_1.out.on hb HP0_1.out.lt)
  have HP1_2 := hide (HP1_1.out.on hb HP1_1.out.lt)
  have HP2_2 := hide (HP2_1.out.on hb HP2_1.out.lt)
  have HB_2 := hide (on_tr HB_1.out hb)
  clear hb HP0_1 HP1_1 HP2_1 HB_1
  have HP0_3 := hide ((HP0_2.out.on ((Below.refl w2.heap.size w2).alloc (Nat.le_refl _) (.cells #[.int .i64 F.n, .int .i64 (F.d - 1)] 24)) HP0_2.out.lt).on ((Below.refl _ _).alloc (Nat.le_refl _) (.cells #[.int .i64 F.n, .int .i64 F.d] 26)) (by have := HP0_2.out.lt; simp; omega))
  have HP1_3 := hide ((HP1_2.out.on ((Below.refl w2.heap.size w2).alloc (Nat.le_refl _) (.cells #[.int .i64 F.n, .int .i64 (F.d - 1)] 24)) HP1_2.out.lt).on ((Below.refl _ _).alloc (Nat.le_refl _) (.cells #[.int .i64 F.n, .int .i64 F.d] 26)) (by have := HP1_2.out.lt; simp; omega))
  have HP2_3 := hide ((HP2_2.out.on ((Below.refl w2.heap.size w2).alloc (Nat.le_refl _) (.cells #[.int .i64 F.n, .int .i64 (F.d - 1)] 24)) HP2_2.out.lt).on ((Below.refl _ _).alloc (Nat.le_refl _) (.cells #[.int .i64 F.n, .int .i64 F.d] 26)) (by have := HP2_2.out.lt; simp; omega))
  have HB_3 := hide ((HB_2.out.alloc HB_2.out.size (.cells #[.int .i64 F.n, .int .i64 (F.d - 1)] 24)).alloc (by have := HB_2.out.size; simp; omega) (.cells #[.int .i64 F.n, .int .i64 F.d] 26))
  have HP := hide (S2.new2 w2 F.n (F.d - 1) F.n F.d 24 26)
  have HX0_3 := hide HP.out.tx
  have HQ0_3 := hide HP.out.ty
  clear HP
  have c0 := HP1_3.out.c0
  have c1 := HP1_3.out.c1
  go_wp2_with fail
  clear c0 c1
  generalize (w2.alloc (.cells #[.int .i64 F.n, .int .i64 (F.d - 1)] 24)).alloc (.cells #[.int .i64 F.n, .int .i64 F.d] 26) = w3 at HP0_3 HP1_3 HP2_3 HB_3 HX0_3 HQ0_3 ⊢
  generalize w2.heap.size = hx0 at HX0_3 HQ0_3 ⊢
  clear HP0_2 HP1_2 HP2_2 HB_2
  refine (HO1.out _).mono ?_
  rintro e w4 ⟨rfl, hb⟩
  have HP0_4 := hide (HP0_3.out.on hb HP0_3.out.lt)
  have HP1_4 := hide (HP1_3.out.on hb HP1_3.out.lt)
  have HP2_4 := hide (HP2_3.out.on hb HP2_3.out.lt)
  have HX0_4 := hide (HX0_3.out.on hb HX0_3.out.lt)
  have HQ0_4 := hide (HQ0_3.out.on hb HQ0_3.out.lt)
  have HB_4 := hide (on_tr HB_3.out hb)
  clear hb HP0_3 HP1_3 HP2_3 HX0_3 HQ0_3 HB_3
  have HP0_5 := hide ((HP0_4.out.on ((Below.refl w4.heap.size w4).alloc (Nat.le_refl _) (.cells #[.int .i64 G.n, .int .i64 (G.d - 1)] 24)) HP0_4.out.lt).on ((Below.refl _ _).alloc (Nat.le_refl _) (.cells #[.int .i64 G.n, .int .i64 G.d] 26)) (by have := HP0_4.out.lt; simp; omega))
  have HP1_5 := hide ((HP1_4.out.on ((Below.refl w4.heap.size w4).alloc (Nat.le_refl _) (.cells #[.int .i64 G.n, .int .i64 (G.d - 1)] 24)) HP1_4.out.lt).on ((Below.refl _ _).alloc (Nat.le_refl _) (.cells #[.int .i64 G.n, .int .i64 G.d] 26)) (by have := HP1_4.out.lt; simp; omega))
  have HP2_5 := hide ((HP2_4.out.on ((Below.refl w4.heap.size w4).alloc (Nat.le_refl _) (.cells #[.int .i64 G.n, .int .i64 (G.d - 1)] 24)) HP2_4.out.lt).on ((Below.refl _ _).alloc (Nat.le_refl _) (.cells #[.int .i64 G.n, .int .i64 G.d] 26)) (by have := HP2_4.out.lt; simp; omega))
  have HX0_5 := hide ((HX0_4.out.on ((Below.refl w4.heap.size w4).alloc (Nat.le_refl _) (.cells #[.int .i64 G.n, .int .i64 (G.d - 1)] 24)) HX0_4.out.lt).on ((Below.refl _ _).alloc (Nat.le_refl _) (.cells #[.int .i64 G.n, .int .i64 G.d] 26)) (by have := HX0_4.out.lt; simp; omega))
  have HQ0_5 := hide ((HQ0_4.out.on ((Below.refl w4.heap.size w4).alloc (Nat.le_refl _) (.cells #[.int .i64 G.n, .int .i64 (G.d - 1)] 24)) HQ0_4.out.lt).on ((Below.refl _ _).alloc (Nat.le_refl _) (.cells #[.int .i64 G.n, .int .i64 G.d] 26)) (by have := HQ0_4.out.lt; simp; omega))
  have HB_5 := hide ((HB_4.out.alloc HB_4.out.size (.cells #[.int .i64 G.n, .int .i64 (G.d - 1)] 24)).alloc (by have := HB_4.out.size; simp; omega) (.cells #[.int .i64 G.n, .int .i64 G.d] 26))
  have HP := hide (S2.new2 w4 G.n (G.d - 1) G.n G.d 24 26)
  have HX1_5 := hide HP.out.tx
  have HQ1_5 := hide HP.out.ty
  clear HP
  have c0 := HP2_5.out.c0
  have c1 := HP2_5.out.c1
  go_wp2_with fail
  clear c0 c1
  generalize (w4.alloc (.cells #[.int .i64 G.n, .int .i64 (G.d - 1)] 24)).alloc (.cells #[.int .i64 G.n, .int .i64 G.d] 26) = w5 at HP0_5 HP1_5 HP2_5 HX0_5 HQ0_5 HB_5 HX1_5 HQ1_5 ⊢
  generalize w4.heap.size = hx1 at HX1_5 HQ1_5 ⊢
  clear HP0_4 HP1_4 HP2_4 HX0_4 HQ0_4 HB_4
  refine (HO2.out _).mono ?_
  rintro e w6 ⟨rfl, hb⟩
  have HP0_6 := hide (HP0_5.out.on hb HP0_5.out.lt)
  have HP1_6 := hide (HP1_5.out.on hb HP1_5.out.lt)
  have HP2_6 := hide (HP2_5.out.on hb HP2_5.out.lt)
  have HX0_6 := hide (HX0_5.out.on hb HX0_5.out.lt)
  have HQ0_6 := hide (HQ0_5.out.on hb HQ0_5.out.lt)
  have HX1_6 := hide (HX1_5.out.on hb HX1_5.out.lt)
  have HQ1_6 := hide (HQ1_5.out.on hb HQ1_5.out.lt)
  have HB_6 := hide (on_tr HB_5.out hb)
  clear hb HP0_5 HP1_5 HP2_5 HX0_5 HQ0_5 HX1_5 HQ1_5 HB_5
  have HP0_7 := hide ((HP0_6.out.on ((Below.refl w6.heap.size w6).alloc (Nat.le_refl _) (.cells #[.int .i64 K.n, .int .i64 (K.d - 1)] 24)) HP0_6.out.lt).on ((Below.refl _ _).alloc (Nat.le_refl _) (.cells #[.int .i64 K.n, .int .i64 K.d] 26)) (by have := HP0_6.out.lt; simp; omega))
  have HP1_7 := hide ((HP1_6.out.on ((Below.refl w6.heap.size w6).alloc (Nat.le_refl _) (.cells #[.int .i64 K.n, .int .i64 (K.d - 1)] 24)) HP1_6.out.lt).on ((Below.refl _ _).alloc (Nat.le_refl _) (.cells #[.int .i64 K.n, .int .i64 K.d] 26)) (by have := HP1_6.out.lt; simp; omega))
  have HP2_7 := hide ((HP2_6.out.on ((Below.refl w6.heap.size w6).alloc (Nat.le_refl _) (.cells #[.int .i64 K.n, .int .i64 (K.d - 1)] 24)) HP2_6.out.lt).on ((Below.refl _ _).alloc (Nat.le_refl _) (.cells #[.int .i64 K.n, .int .i64 K.d] 26)) (by have := HP2_6.out.lt; simp; omega))
  have HX0_7 := hide ((HX0_6.out.on ((Below.refl w6.heap.size w6).alloc (Nat.le_refl _) (.cells #[.int .i64 K.n, .int .i64 (K.d - 1)] 24)) HX0_6.out.lt).on ((Below.refl _ _).alloc (Nat.le_refl _) (.cells #[.int .i64 K.n, .int .i64 K.d] 26)) (by have := HX0_6.out.lt; simp; omega))
  have HQ0_7 := hide ((HQ0_6.out.on ((Below.refl w6.heap.size w6).alloc (Nat.le_refl _) (.cells #[.int .i64 K.n, .int .i64 (K.d - 1)] 24)) HQ0_6.out.lt).on ((Below.refl _ _).alloc (Nat.le_refl _) (.cells #[.int .i64 K.n, .int .i64 K.d] 26)) (by have := HQ0_6.out.lt; simp; omega))
  have HX1_7 := hide ((HX1_6.out.on ((Below.refl w6.heap.size w6).alloc (Nat.le_refl _) (.cells #[.int .i64 K.n, .int .i64 (K.d - 1)] 24)) HX1_6.out.lt).on ((Below.refl _ _).alloc (Nat.le_refl _) (.cells #[.int .i64 K.n, .int .i64 K.d] 26)) (by have := HX1_6.out.lt; simp; omega))
  have HQ1_7 := hide ((HQ1_6.out.on ((Below.refl w6.heap.size w6).alloc (Nat.le_refl _) (.cells #[.int .i64 K.n, .int .i64 (K.d - 1)] 24)) HQ1_6.out.lt).on ((Below.refl _ _).alloc (Nat.le_refl _) (.cells #[.int .i64 K.n, .int .i64 K.d] 26)) (by have := HQ1_6.out.lt; simp; omega))
  have HB_7 := hide ((HB_6.out.alloc HB_6.out.size (.cells #[.int .i64 K.n, .int .i64 (K.d - 1)] 24)).alloc (by have := HB_6.out.size; simp; omega) (.cells #[.int .i64 K.n, .int .i64 K.d] 26))
  have HP := hide (S2.new2 w6 K.n (K.d - 1) K.n K.d 24 26)
  have HX2_7 := hide HP.out.tx
  have HQ2_7 := hide HP.out.ty
  clear HP
  go_wp2_with fail
  generalize (w6.alloc (.cells #[.int .i64 K.n, .int .i64 (K.d - 1)] 24)).alloc (.cells #[.int .i64 K.n, .int .i64 K.d] 26) = w7 at HP0_7 HP1_7 HP2_7 HX0_7 HQ0_7 HX1_7 HQ1_7 HB_7 HX2_7 HQ2_7 ⊢
  generalize w6.heap.size = hx2 at HX2_7 HQ2_7 ⊢
  clear HP0_6 HP1_6 HP2_6 HX0_6 HQ0_6 HX1_6 HQ1_6 HB_6
  go_upto_region 4 with fail
  go_cut [69] (fun v wx => v = .bool false ∧ K6 w (hx0) (F.n) (F.d - 1) (hx1) (G.n) (G.d - 1) (hx2) (K.n) (K.d - 1) (hx0 + 1) (F.n) (F.d) (hx1 + 1) (G.n) (G.d) (hx2 + 1) (K.n) (K.d) wx)
  case first =>
    rcases HEQ.out with ⟨e1, e2, e3⟩ | ⟨e1, e3⟩ | ⟨e1, e2, e3⟩
    · have e4 : (c1 == 0) = true := by simpa using e3
      have e5 : (F.n == G.n) = true := by simpa using e1
      have e6 : (F.d - 1 == G.d - 1) = true := by simp; omega
      clear e1 e2 e3
      first
      | (go_region_held3 (fun w' => w'.cell? ⟨hx0, 0, none⟩ = some (.int .i64 (F.n)) ∧ w'.cell? ⟨hx0, 1, none⟩ = some (.int .i64 (F.d - 1)) ∧ w'.cell? ⟨hx1, 0, none⟩ = some (.int .i64 (G.n)) ∧ w'.cell? ⟨hx1, 1, none⟩ = some (.int .i64 (G.d - 1)) ∧ w'.cell? ⟨hx2, 0, none⟩ = some (.int .i64 (K.n)) ∧ w'.cell? ⟨hx2, 1, none⟩ = some (.int .i64 (K.d - 1)) ∧ w'.cell? ⟨hx0 + 1, 0, none⟩ = some (.int .i64 (F.n)) ∧ w'.cell? ⟨hx0 + 1, 1, none⟩ = some (.int .i64 (F.d)) ∧ w'.cell? ⟨hx1 + 1, 0, none⟩ = some (.int .i64 (G.n)) ∧ w'.cell? ⟨hx1 + 1, 1, none⟩ = some (.int .i64 (G.d)) ∧ w'.cell? ⟨hx2 + 1, 0, none⟩ = some (.int .i64 (K.n)) ∧ w'.cell? ⟨hx2 + 1, 1, none⟩ = some (.int .i64 (K.d)) ∧ Two w' (hx0) (F.n) (F.d - 1) ∧ Two w' (hx1) (G.n) (G.d - 1) ∧ Two w' (hx2) (K.n) (K.d - 1) ∧ Two w' (hx0 + 1) (F.n) (F.d) ∧ Two w' (hx1 + 1) (G.n) (G.d) ∧ Two w' (hx2 + 1) (K.n) (K.d) ∧ Below w.heap.size w w') (first | assumption | (exact K6.of HX0_7.out.drew HX1_7.out.drew HX2_7.out.drew HQ0_7.out.drew HQ1_7.out.drew HQ2_7.out.drew (Below.drew HB_7.out)) | (exact K6.next (by assumption) (by assumption))) (first | (go_at_call 17; have hK := K6.hid (by assumption); (with_reducible refine (HK.out _ (HT.out.on (K6.bel hK.out))).mono ?_); rintro e w' ⟨rfl, hb'⟩) | (go_at_call 42; (with_reducible refine (HC1.out _).mono ?_); rintro e w' ⟨rfl, hb'⟩) | (go_at_call 41; (with_reducible refine (HSg.out _).mono ?_); rintro e w' ⟨rfl, hb'⟩) | (go_at_call 43; (with_reducible refine (HR1.out _).mono ?_); rintro e w' ⟨rfl, hb'⟩) | (go_at_call 43; (with_reducible refine (HRs.out _).mono ?_); rintro e w' ⟨rfl, hb'⟩)))
      | fail
      all_goals
        go_wp2_with fail
        go_meet
        exact ⟨by first | rfl | simp, by assumption⟩
    · have e4 : (c1 == 0) = false := by simpa using e3
      have e5 : (F.n == G.n) = false := by simpa using e1
      clear e1 e3
      first
      | (go_region_held3 (fun w' => w'.cell? ⟨hx0, 0, none⟩ = some (.int .i64 (F.n)) ∧ w'.cell? ⟨hx0, 1, none⟩ = some (.int .i64 (F.d - 1)) ∧ w'.cell? ⟨hx1, 0, none⟩ = some (.int .i64 (G.n)) ∧ w'.cell? ⟨hx1, 1, none⟩ = some (.int .i64 (G.d - 1)) ∧ w'.cell? ⟨hx2, 0, none⟩ = some (.int .i64 (K.n)) ∧ w'.cell? ⟨hx2, 1, none⟩ = some (.int .i64 (K.d - 1)) ∧ w'.cell? ⟨hx0 + 1, 0, none⟩ = some (.int .i64 (F.n)) ∧ w'.cell? ⟨hx0 + 1, 1, none⟩ = some (.int .i64 (F.d)) ∧ w'.cell? ⟨hx1 + 1, 0, none⟩ = some (.int .i64 (G.n)) ∧ w'.cell? ⟨hx1 + 1, 1, none⟩ = some (.int .i64 (G.d)) ∧ w'.cell? ⟨hx2 + 1, 0, none⟩ = some (.int .i64 (K.n)) ∧ w'.cell? ⟨hx2 + 1, 1, none⟩ = some (.int .i64 (K.d)) ∧ Two w' (hx0) (F.n) (F.d - 1) ∧ Two w' (hx1) (G.n) (G.d - 1) ∧ Two w' (hx2) (K.n) (K.d - 1) ∧ Two w' (hx0 + 1) (F.n) (F.d) ∧ Two w' (hx1 + 1) (G.n) (G.d) ∧ Two w' (hx2 + 1) (K.n) (K.d) ∧ Below w.heap.size w w') (first | assumption | (exact K6.of HX0_7.out.drew HX1_7.out.drew HX2_7.out.drew HQ0_7.out.drew HQ1_7.out.drew HQ2_7.out.drew (Below.drew HB_7.out)) | (exact K6.next (by assumption) (by assumption))) (first | (go_at_call 17; have hK := K6.hid (by assumption); (with_reducible refine (HK.out _ (HT.out.on (K6.bel hK.out))).mono ?_); rintro e w' ⟨rfl, hb'⟩) | (go_at_call 42; (with_reducible refine (HC1.out _).mono ?_); rintro e w' ⟨rfl, hb'⟩) | (go_at_call 41; (with_reducible refine (HSg.out _).mono ?_); rintro e w' ⟨rfl, hb'⟩) | (go_at_call 43; (with_reducible refine (HR1.out _).mono ?_); rintro e w' ⟨rfl, hb'⟩) | (go_at_call 43; (with_reducible refine (HRs.out _).mono ?_); rintro e w' ⟨rfl, hb'⟩)))
      | fail
      all_goals
        go_wp2_with fail
        go_meet
        exact ⟨by first | rfl | simp, by assumption⟩
    · have e4 : (c1 == 0) = false := by simpa using e3
      have e5 : (F.d - 1 == G.d - 1) = false := by simp; omega
      have e6 : (F.n == G.n) = true := by simpa using e1
      clear e1 e2 e3
      first
      | (go_region_held3 (fun w' => w'.cell? ⟨hx0, 0, none⟩ = some (.int .i64 (F.n)) ∧ w'.cell? ⟨hx0, 1, none⟩ = some (.int .i64 (F.d - 1)) ∧ w'.cell? ⟨hx1, 0, none⟩ = some (.int .i64 (G.n)) ∧ w'.cell? ⟨hx1, 1, none⟩ = some (.int .i64 (G.d - 1)) ∧ w'.cell? ⟨hx2, 0, none⟩ = some (.int .i64 (K.n)) ∧ w'.cell? ⟨hx2, 1, none⟩ = some (.int .i64 (K.d - 1)) ∧ w'.cell? ⟨hx0 + 1, 0, none⟩ = some (.int .i64 (F.n)) ∧ w'.cell? ⟨hx0 + 1, 1, none⟩ = some (.int .i64 (F.d)) ∧ w'.cell? ⟨hx1 + 1, 0, none⟩ = some (.int .i64 (G.n)) ∧ w'.cell? ⟨hx1 + 1, 1, none⟩ = some (.int .i64 (G.d)) ∧ w'.cell? ⟨hx2 + 1, 0, none⟩ = some (.int .i64 (K.n)) ∧ w'.cell? ⟨hx2 + 1, 1, none⟩ = some (.int .i64 (K.d)) ∧ Two w' (hx0) (F.n) (F.d - 1) ∧ Two w' (hx1) (G.n) (G.d - 1) ∧ Two w' (hx2) (K.n) (K.d - 1) ∧ Two w' (hx0 + 1) (F.n) (F.d) ∧ Two w' (hx1 + 1) (G.n) (G.d) ∧ Two w' (hx2 + 1) (K.n) (K.d) ∧ Below w.heap.size w w') (first | assumption | (exact K6.of HX0_7.out.drew HX1_7.out.drew HX2_7.out.drew HQ0_7.out.drew HQ1_7.out.drew HQ2_7.out.drew (Below.drew HB_7.out)) | (exact K6.next (by assumption) (by assumption))) (first | (go_at_call 17; have hK := K6.hid (by assumption); (with_reducible refine (HK.out _ (HT.out.on (K6.bel hK.out))).mono ?_); rintro e w' ⟨rfl, hb'⟩) | (go_at_call 42; (with_reducible refine (HC1.out _).mono ?_); rintro e w' ⟨rfl, hb'⟩) | (go_at_call 41; (with_reducible refine (HSg.out _).mono ?_); rintro e w' ⟨rfl, hb'⟩) | (go_at_call 43; (with_reducible refine (HR1.out _).mono ?_); rintro e w' ⟨rfl, hb'⟩) | (go_at_call 43; (with_reducible refine (HRs.out _).mono ?_); rintro e w' ⟨rfl, hb'⟩)))
      | fail
      all_goals
        go_wp2_with fail
        go_meet
        exact ⟨by first | rfl | simp, by assumption⟩
  case rest =>
    obtain ⟨rfl, hK⟩ := hcut
    have HX0_8 := hide (K6.t0 hK)
    have HX1_8 := hide (K6.t1 hK)
    have HX2_8 := hide (K6.t2 hK)
    have HQ0_8 := hide (K6.t3 hK)
    have HQ1_8 := hide (K6.t4 hK)
    have HQ2_8 := hide (K6.t5 hK)
    have HB_8 := hide (K6.bel hK)
    clear hK
    go_upto_region 6 with fail
    go_cut [94] (fun v wx => v = .bool false ∧ K6 w (hx0) (F.n) (F.d - 1) (hx1) (G.n) (G.d - 1) (hx2) (K.n) (K.d - 1) (hx0 + 1) (F.n) (F.d) (hx1 + 1) (G.n) (G.d) (hx2 + 1) (K.n) (K.d) wx)
    case first =>
      rcases HTR.out with h1 | ⟨h1, h2⟩ | ⟨h1, h2, h3⟩
      · have g1 : decide (c1 ≤ 0) = false := by simpa using h1
        refine wp_region_noPanic ?_
        refine wp_region_held_drew (S := fun w' => w'.cell? ⟨hx0, 0, none⟩ = some (.int .i64 (F.n)) ∧ w'.cell? ⟨hx0, 1, none⟩ = some (.int .i64 (F.d - 1)) ∧ w'.cell? ⟨hx1, 0, none⟩ = some (.int .i64 (G.n)) ∧ w'.cell? ⟨hx1, 1, none⟩ = some (.int .i64 (G.d - 1)) ∧ w'.cell? ⟨hx2, 0, none⟩ = some (.int .i64 (K.n)) ∧ w'.cell? ⟨hx2, 1, none⟩ = some (.int .i64 (K.d - 1)) ∧ w'.cell? ⟨hx0 + 1, 0, none⟩ = some (.int .i64 (F.n)) ∧ w'.cell? ⟨hx0 + 1, 1, none⟩ = some (.int .i64 (F.d)) ∧ w'.cell? ⟨hx1 + 1, 0, none⟩ = some (.int .i64 (G.n)) ∧ w'.cell? ⟨hx1 + 1, 1, none⟩ = some (.int .i64 (G.d)) ∧ w'.cell? ⟨hx2 + 1, 0, none⟩ = some (.int .i64 (K.n)) ∧ w'.cell? ⟨hx2 + 1, 1, none⟩ = some (.int .i64 (K.d)) ∧ Two w' (hx0) (F.n) (F.d - 1) ∧ Two w' (hx1) (G.n) (G.d - 1) ∧ Two w' (hx2) (K.n) (K.d - 1) ∧ Two w' (hx0 + 1) (F.n) (F.d) ∧ Two w' (hx1 + 1) (G.n) (G.d) ∧ Two w' (hx2 + 1) (K.n) (K.d) ∧ Below w.heap.size w w') (by kernel_rfl) ?_ (fun hHeld => ?_)
        · exact K6.of HX0_8.out.drew HX1_8.out.drew HX2_8.out.drew HQ0_8.out.drew HQ1_8.out.drew HQ2_8.out.drew (Below.drew HB_8.out)
        refine hand_yes (i := 0) (v := ?_) rfl (by kernel_rfl) (by kernel_rfl) (by kernel_rfl) (fun _ _ _ h => h) (by rfl) ?_ (by assumption) ?_
        rotate_left
        · intro w hSw
          (try dsimp only at hSw)
          go_simp
          all_goals with_reducible rfl
        try simp only [Act.put, List.setIfInBounds_toArray, List.set_cons_zero, List.set_cons_succ]
        refine hand_yes (i := 1) (v := ?_) rfl (by kernel_rfl) (by kernel_rfl) (by kernel_rfl) (fun _ _ _ h => h) (by rfl) ?_ (by assumption) ?_
        rotate_left
        · intro w hSw
          (try dsimp only at hSw)
          go_simp
          all_goals with_reducible rfl
        try simp only [Act.put, List.setIfInBounds_toArray, List.set_cons_zero, List.set_cons_succ]
        refine hand_call (i := 2) rfl (by kernel_rfl) (fun K hK => ?_)
        go_simp
        refine (HC1.out _).mono ?_
        rintro e w' ⟨rfl, hb'⟩
        go_wp2_with fail
        refine hK.out _ _ ?_ (fun hHeld2 => ?_)
        · exact K6.next hHeld hb'
        clear hK K hHeld
        have hHeld := hHeld2
        clear hHeld2
        try simp only [Act.put, List.setIfInBounds_toArray, List.set_cons_zero, List.set_cons_succ]
        refine hand_yes (i := 3) (v := ?_) rfl (by kernel_rfl) (by kernel_rfl) (by kernel_rfl) (fun _ _ _ h => h) (by rfl) ?_ (by assumption) ?_
        rotate_left
        · intro w hSw
          (try dsimp only at hSw)
          go_simp
          all_goals with_reducible rfl
        try simp only [Act.put, List.setIfInBounds_toArray, List.set_cons_zero, List.set_cons_succ]
        refine hand_yes (i := 4) (v := ?_) rfl (by kernel_rfl) (by kernel_rfl) (by kernel_rfl) (fun _ _ _ h => h) (by rfl) ?_ (by assumption) ?_
        rotate_left
        · intro w hSw
          (try dsimp only at hSw)
          go_simp
          all_goals with_reducible rfl
        try simp only [Act.put, List.setIfInBounds_toArray, List.set_cons_zero, List.set_cons_succ]
        refine hand_no (i := 5) rfl (by kernel_rfl) (by kernel_rfl) (by kernel_rfl) (fun _ _ _ h => h) (by rfl) (by assumption) ?_
        try simp only [Act.put, List.setIfInBounds_toArray, List.set_cons_zero, List.set_cons_succ]
        refine hand_no (i := 6) rfl (by kernel_rfl) (by kernel_rfl) (by kernel_rfl) (fun _ _ _ h => h) (by rfl) (by assumption) ?_
        try simp only [Act.put, List.setIfInBounds_toArray, List.set_cons_zero, List.set_cons_succ]
        refine hand_no (i := 7) rfl (by kernel_rfl) (by kernel_rfl) (by kernel_rfl) (fun _ _ _ h => h) (by rfl) (by assumption) ?_
        try simp only [Act.put, List.setIfInBounds_toArray, List.set_cons_zero, List.set_cons_succ]
        refine hand_no (i := 8) rfl (by kernel_rfl) (by kernel_rfl) (by kernel_rfl) (fun _ _ _ h => h) (by rfl) (by assumption) ?_
        try simp only [Act.put, List.setIfInBounds_toArray, List.set_cons_zero, List.set_cons_succ]
        refine hand_yes (i := 9) (v := ?_) rfl (by kernel_rfl) (by kernel_rfl) (by kernel_rfl) (fun _ _ _ h => h) (by rfl) ?_ (by assumption) ?_
        rotate_left
        · intro w hSw
          (try dsimp only at hSw)
          go_simp
          all_goals with_reducible rfl
        try simp only [Act.put, List.setIfInBounds_toArray, List.set_cons_zero, List.set_cons_succ]
        refine hand_yes (i := 10) (v := ?_) rfl (by kernel_rfl) (by kernel_rfl) (by kernel_rfl) (fun _ _ _ h => h) (by rfl) ?_ (by assumption) ?_
        rotate_left
        · intro w hSw
          (try dsimp only at hSw)
          go_simp
          all_goals with_reducible rfl
        try simp only [Act.put, List.setIfInBounds_toArray, List.set_cons_zero, List.set_cons_succ]
        refine hand_no (i := 11) rfl (by kernel_rfl) (by kernel_rfl) (by kernel_rfl) (fun _ _ _ h => h) (by rfl) (by assumption) ?_
        try simp only [Act.put, List.setIfInBounds_toArray, List.set_cons_zero, List.set_cons_succ]
        refine hand_no (i := 12) rfl (by kernel_rfl) (by kernel_rfl) (by kernel_rfl) (fun _ _ _ h => h) (by rfl) (by assumption) ?_
        try simp only [Act.put, List.setIfInBounds_toArray, List.set_cons_zero, List.set_cons_succ]
        refine hand_no (i := 13) rfl (by kernel_rfl) (by kernel_rfl) (by kernel_rfl) (fun _ _ _ h => h) (by rfl) (by assumption) ?_
        try simp only [Act.put, List.setIfInBounds_toArray, List.set_cons_zero, List.set_cons_succ]
        refine hand_no (i := 14) rfl (by kernel_rfl) (by kernel_rfl) (by kernel_rfl) (fun _ _ _ h => h) (by rfl) (by assumption) ?_
        try simp only [Act.put, List.setIfInBounds_toArray, List.set_cons_zero, List.set_cons_succ]
        refine hand_yes (i := 15) (v := ?_) rfl (by kernel_rfl) (by kernel_rfl) (by kernel_rfl) (fun _ _ _ h => h) (by rfl) ?_ (by assumption) ?_
        rotate_left
        · intro w hSw
          (try dsimp only at hSw)
          go_simp
          all_goals with_reducible rfl
        try simp only [Act.put, List.setIfInBounds_toArray, List.set_cons_zero, List.set_cons_succ]
        refine hand_yes (i := 16) (v := ?_) rfl (by kernel_rfl) (by kernel_rfl) (by kernel_rfl) (fun _ _ _ h => h) (by rfl) ?_ (by assumption) ?_
        rotate_left
        · intro w hSw
          (try dsimp only at hSw)
          go_simp
          all_goals with_reducible rfl
        try simp only [Act.put, List.setIfInBounds_toArray, List.set_cons_zero, List.set_cons_succ]
        refine hand_yes (i := 17) (v := ?_) rfl (by kernel_rfl) (by kernel_rfl) (by kernel_rfl) (fun _ _ _ h => h) (by rfl) ?_ (by assumption) ?_
        rotate_left
        · intro w hSw
          (try dsimp only at hSw)
          go_simp
          all_goals with_reducible rfl
        try simp only [Act.put, List.setIfInBounds_toArray, List.set_cons_zero, List.set_cons_succ]
        refine hand_yes (i := 18) (v := ?_) rfl (by kernel_rfl) (by kernel_rfl) (by kernel_rfl) (fun _ _ _ h => h) (by rfl) ?_ (by assumption) ?_
        rotate_left
        · intro w hSw
          (try dsimp only at hSw)
          go_simp
          all_goals with_reducible rfl
        try simp only [Act.put, List.setIfInBounds_toArray, List.set_cons_zero, List.set_cons_succ]
        refine hand_yes (i := 20) (v := ?_) rfl (by kernel_rfl) (by kernel_rfl) (by kernel_rfl) (fun _ _ _ h => h) (by rfl) ?_ (by assumption) ?_
        rotate_left
        · intro w hSw
          (try dsimp only at hSw)
          go_simp
          all_goals with_reducible rfl
        try simp only [Act.put, List.setIfInBounds_toArray, List.set_cons_zero, List.set_cons_succ]
        refine hand_yes (i := 21) (v := ?_) rfl (by kernel_rfl) (by kernel_rfl) (by kernel_rfl) (fun _ _ _ h => h) (by rfl) ?_ (by assumption) ?_
        rotate_left
        · intro w hSw
          (try dsimp only at hSw)
          go_simp
          all_goals with_reducible rfl
        try simp only [Act.put, List.setIfInBounds_toArray, List.set_cons_zero, List.set_cons_succ]
        refine hand_call (i := 19) rfl (by kernel_rfl) (fun K hK => ?_)
        go_simp
        refine (HC4.out _).mono ?_
        rintro e w' ⟨rfl, hb'⟩
        go_wp2_with fail
        refine hK.out _ _ ?_ (fun hHeld2 => ?_)
        · exact K6.next hHeld hb'
        clear hK K hHeld
        have hHeld := hHeld2
        clear hHeld2
        try simp only [Act.put, List.setIfInBounds_toArray, List.set_cons_zero, List.set_cons_succ]
        refine hand_call (i := 22) rfl (by kernel_rfl) (fun K hK => ?_)
        go_simp
        refine (HR4.out _).mono ?_
        rintro e w' ⟨rfl, hb'⟩
        go_wp2_with fail
        refine hK.out _ _ ?_ (fun hHeld2 => ?_)
        · exact K6.next hHeld hb'
        clear hK K hHeld
        have hHeld := hHeld2
        clear hHeld2
        try simp only [Act.put, List.setIfInBounds_toArray, List.set_cons_zero, List.set_cons_succ]
        refine hand_yes (i := 23) (v := ?_) rfl (by kernel_rfl) (by kernel_rfl) (by kernel_rfl) (fun _ _ _ h => h) (by rfl) ?_ (by assumption) ?_
        rotate_left
        · intro w hSw
          (try dsimp only at hSw)
          go_simp
          all_goals with_reducible rfl
        try simp only [Act.put, List.setIfInBounds_toArray, List.set_cons_zero, List.set_cons_succ]
        refine hand_yes (i := 24) (v := ?_) rfl (by kernel_rfl) (by kernel_rfl) (by kernel_rfl) (fun _ _ _ h => h) (by rfl) ?_ (by assumption) ?_
        rotate_left
        · intro w hSw
          (try dsimp only at hSw)
          go_simp
          all_goals with_reducible rfl
        try simp only [Act.put, List.setIfInBounds_toArray, List.set_cons_zero, List.set_cons_succ]
        refine wpAnyH_done (by kernel_rfl) ?_ _
        refine NoPanic.normal ?_
        go_wp2_with fail
        go_meet
        exact ⟨by first | rfl | simp, hHeld⟩
      · have g1 : decide (c1 ≤ 0) = true := by simpa using h1
        have g2 : decide (c2 ≤ 0) = false := by simpa using h2
        refine wp_region_noPanic ?_
        refine wp_region_held_drew (S := fun w' => w'.cell? ⟨hx0, 0, none⟩ = some (.int .i64 (F.n)) ∧ w'.cell? ⟨hx0, 1, none⟩ = some (.int .i64 (F.d - 1)) ∧ w'.cell? ⟨hx1, 0, none⟩ = some (.int .i64 (G.n)) ∧ w'.cell? ⟨hx1, 1, none⟩ = some (.int .i64 (G.d - 1)) ∧ w'.cell? ⟨hx2, 0, none⟩ = some (.int .i64 (K.n)) ∧ w'.cell? ⟨hx2, 1, none⟩ = some (.int .i64 (K.d - 1)) ∧ w'.cell? ⟨hx0 + 1, 0, none⟩ = some (.int .i64 (F.n)) ∧ w'.cell? ⟨hx0 + 1, 1, none⟩ = some (.int .i64 (F.d)) ∧ w'.cell? ⟨hx1 + 1, 0, none⟩ = some (.int .i64 (G.n)) ∧ w'.cell? ⟨hx1 + 1, 1, none⟩ = some (.int .i64 (G.d)) ∧ w'.cell? ⟨hx2 + 1, 0, none⟩ = some (.int .i64 (K.n)) ∧ w'.cell? ⟨hx2 + 1, 1, none⟩ = some (.int .i64 (K.d)) ∧ Two w' (hx0) (F.n) (F.d - 1) ∧ Two w' (hx1) (G.n) (G.d - 1) ∧ Two w' (hx2) (K.n) (K.d - 1) ∧ Two w' (hx0 + 1) (F.n) (F.d) ∧ Two w' (hx1 + 1) (G.n) (G.d) ∧ Two w' (hx2 + 1) (K.n) (K.d) ∧ Below w.heap.size w w') (by kernel_rfl) ?_ (fun hHeld => ?_)
        · exact K6.of HX0_8.out.drew HX1_8.out.drew HX2_8.out.drew HQ0_8.out.drew HQ1_8.out.drew HQ2_8.out.drew (Below.drew HB_8.out)
        refine hand_yes (i := 0) (v := ?_) rfl (by kernel_rfl) (by kernel_rfl) (by kernel_rfl) (fun _ _ _ h => h) (by rfl) ?_ (by assumption) ?_
        rotate_left
        · intro w hSw
          (try dsimp only at hSw)
          go_simp
          all_goals with_reducible rfl
        try simp only [Act.put, List.setIfInBounds_toArray, List.set_cons_zero, List.set_cons_succ]
        refine hand_yes (i := 1) (v := ?_) rfl (by kernel_rfl) (by kernel_rfl) (by kernel_rfl) (fun _ _ _ h => h) (by rfl) ?_ (by assumption) ?_
        rotate_left
        · intro w hSw
          (try dsimp only at hSw)
          go_simp
          all_goals with_reducible rfl
        try simp only [Act.put, List.setIfInBounds_toArray, List.set_cons_zero, List.set_cons_succ]
        refine hand_call (i := 2) rfl (by kernel_rfl) (fun K hK => ?_)
        go_simp
        refine (HC1.out _).mono ?_
        rintro e w' ⟨rfl, hb'⟩
        go_wp2_with fail
        refine hK.out _ _ ?_ (fun hHeld2 => ?_)
        · exact K6.next hHeld hb'
        clear hK K hHeld
        have hHeld := hHeld2
        clear hHeld2
        try simp only [Act.put, List.setIfInBounds_toArray, List.set_cons_zero, List.set_cons_succ]
        refine hand_yes (i := 3) (v := ?_) rfl (by kernel_rfl) (by kernel_rfl) (by kernel_rfl) (fun _ _ _ h => h) (by rfl) ?_ (by assumption) ?_
        rotate_left
        · intro w hSw
          (try dsimp only at hSw)
          go_simp
          all_goals with_reducible rfl
        try simp only [Act.put, List.setIfInBounds_toArray, List.set_cons_zero, List.set_cons_succ]
        refine hand_yes (i := 4) (v := ?_) rfl (by kernel_rfl) (by kernel_rfl) (by kernel_rfl) (fun _ _ _ h => h) (by rfl) ?_ (by assumption) ?_
        rotate_left
        · intro w hSw
          (try dsimp only at hSw)
          go_simp
          all_goals with_reducible rfl
        try simp only [Act.put, List.setIfInBounds_toArray, List.set_cons_zero, List.set_cons_succ]
        refine hand_yes (i := 5) (v := ?_) rfl (by kernel_rfl) (by kernel_rfl) (by kernel_rfl) (fun _ _ _ h => h) (by rfl) ?_ (by assumption) ?_
        rotate_left
        · intro w hSw
          (try dsimp only at hSw)
          go_simp
          all_goals with_reducible rfl
        try simp only [Act.put, List.setIfInBounds_toArray, List.set_cons_zero, List.set_cons_succ]
        refine hand_yes (i := 6) (v := ?_) rfl (by kernel_rfl) (by kernel_rfl) (by kernel_rfl) (fun _ _ _ h => h) (by rfl) ?_ (by assumption) ?_
        rotate_left
        · intro w hSw
          (try dsimp only at hSw)
          go_simp
          all_goals with_reducible rfl
        try simp only [Act.put, List.setIfInBounds_toArray, List.set_cons_zero, List.set_cons_succ]
        refine hand_call (i := 7) rfl (by kernel_rfl) (fun K hK => ?_)
        go_simp
        refine (HC2.out _).mono ?_
        rintro e w' ⟨rfl, hb'⟩
        go_wp2_with fail
        refine hK.out _ _ ?_ (fun hHeld2 => ?_)
        · exact K6.next hHeld hb'
        clear hK K hHeld
        have hHeld := hHeld2
        clear hHeld2
        try simp only [Act.put, List.setIfInBounds_toArray, List.set_cons_zero, List.set_cons_succ]
        refine hand_yes (i := 8) (v := ?_) rfl (by kernel_rfl) (by kernel_rfl) (by kernel_rfl) (fun _ _ _ h => h) (by rfl) ?_ (by assumption) ?_
        rotate_left
        · intro w hSw
          (try dsimp only at hSw)
          go_simp
          all_goals with_reducible rfl
        try simp only [Act.put, List.setIfInBounds_toArray, List.set_cons_zero, List.set_cons_succ]
        refine hand_yes (i := 9) (v := ?_) rfl (by kernel_rfl) (by kernel_rfl) (by kernel_rfl) (fun _ _ _ h => h) (by rfl) ?_ (by assumption) ?_
        rotate_left
        · intro w hSw
          (try dsimp only at hSw)
          go_simp
          all_goals with_reducible rfl
        try simp only [Act.put, List.setIfInBounds_toArray, List.set_cons_zero, List.set_cons_succ]
        refine hand_yes (i := 10) (v := ?_) rfl (by kernel_rfl) (by kernel_rfl) (by kernel_rfl) (fun _ _ _ h => h) (by rfl) ?_ (by assumption) ?_
        rotate_left
        · intro w hSw
          (try dsimp only at hSw)
          go_simp
          all_goals with_reducible rfl
        try simp only [Act.put, List.setIfInBounds_toArray, List.set_cons_zero, List.set_cons_succ]
        refine hand_no (i := 11) rfl (by kernel_rfl) (by kernel_rfl) (by kernel_rfl) (fun _ _ _ h => h) (by rfl) (by assumption) ?_
        try simp only [Act.put, List.setIfInBounds_toArray, List.set_cons_zero, List.set_cons_succ]
        refine hand_no (i := 12) rfl (by kernel_rfl) (by kernel_rfl) (by kernel_rfl) (fun _ _ _ h => h) (by rfl) (by assumption) ?_
        try simp only [Act.put, List.setIfInBounds_toArray, List.set_cons_zero, List.set_cons_succ]
        refine hand_no (i := 13) rfl (by kernel_rfl) (by kernel_rfl) (by kernel_rfl) (fun _ _ _ h => h) (by rfl) (by assumption) ?_
        try simp only [Act.put, List.setIfInBounds_toArray, List.set_cons_zero, List.set_cons_succ]
        refine hand_no (i := 14) rfl (by kernel_rfl) (by kernel_rfl) (by kernel_rfl) (fun _ _ _ h => h) (by rfl) (by assumption) ?_
        try simp only [Act.put, List.setIfInBounds_toArray, List.set_cons_zero, List.set_cons_succ]
        refine hand_yes (i := 15) (v := ?_) rfl (by kernel_rfl) (by kernel_rfl) (by kernel_rfl) (fun _ _ _ h => h) (by rfl) ?_ (by assumption) ?_
        rotate_left
        · intro w hSw
          (try dsimp only at hSw)
          go_simp
          all_goals with_reducible rfl
        try simp only [Act.put, List.setIfInBounds_toArray, List.set_cons_zero, List.set_cons_succ]
        refine hand_yes (i := 16) (v := ?_) rfl (by kernel_rfl) (by kernel_rfl) (by kernel_rfl) (fun _ _ _ h => h) (by rfl) ?_ (by assumption) ?_
        rotate_left
        · intro w hSw
          (try dsimp only at hSw)
          go_simp
          all_goals with_reducible rfl
        try simp only [Act.put, List.setIfInBounds_toArray, List.set_cons_zero, List.set_cons_succ]
        refine hand_yes (i := 17) (v := ?_) rfl (by kernel_rfl) (by kernel_rfl) (by kernel_rfl) (fun _ _ _ h => h) (by rfl) ?_ (by assumption) ?_
        rotate_left
        · intro w hSw
          (try dsimp only at hSw)
          go_simp
          all_goals with_reducible rfl
        try simp only [Act.put, List.setIfInBounds_toArray, List.set_cons_zero, List.set_cons_succ]
        refine hand_yes (i := 18) (v := ?_) rfl (by kernel_rfl) (by kernel_rfl) (by kernel_rfl) (fun _ _ _ h => h) (by rfl) ?_ (by assumption) ?_
        rotate_left
        · intro w hSw
          (try dsimp only at hSw)
          go_simp
          all_goals with_reducible rfl
        try simp only [Act.put, List.setIfInBounds_toArray, List.set_cons_zero, List.set_cons_succ]
        refine hand_yes (i := 20) (v := ?_) rfl (by kernel_rfl) (by kernel_rfl) (by kernel_rfl) (fun _ _ _ h => h) (by rfl) ?_ (by assumption) ?_
        rotate_left
        · intro w hSw
          (try dsimp only at hSw)
          go_simp
          all_goals with_reducible rfl
        try simp only [Act.put, List.setIfInBounds_toArray, List.set_cons_zero, List.set_cons_succ]
        refine hand_yes (i := 21) (v := ?_) rfl (by kernel_rfl) (by kernel_rfl) (by kernel_rfl) (fun _ _ _ h => h) (by rfl) ?_ (by assumption) ?_
        rotate_left
        · intro w hSw
          (try dsimp only at hSw)
          go_simp
          all_goals with_reducible rfl
        try simp only [Act.put, List.setIfInBounds_toArray, List.set_cons_zero, List.set_cons_succ]
        refine hand_call (i := 19) rfl (by kernel_rfl) (fun K hK => ?_)
        go_simp
        refine (HC4.out _).mono ?_
        rintro e w' ⟨rfl, hb'⟩
        go_wp2_with fail
        refine hK.out _ _ ?_ (fun hHeld2 => ?_)
        · exact K6.next hHeld hb'
        clear hK K hHeld
        have hHeld := hHeld2
        clear hHeld2
        try simp only [Act.put, List.setIfInBounds_toArray, List.set_cons_zero, List.set_cons_succ]
        refine hand_call (i := 22) rfl (by kernel_rfl) (fun K hK => ?_)
        go_simp
        refine (HR4.out _).mono ?_
        rintro e w' ⟨rfl, hb'⟩
        go_wp2_with fail
        refine hK.out _ _ ?_ (fun hHeld2 => ?_)
        · exact K6.next hHeld hb'
        clear hK K hHeld
        have hHeld := hHeld2
        clear hHeld2
        try simp only [Act.put, List.setIfInBounds_toArray, List.set_cons_zero, List.set_cons_succ]
        refine hand_yes (i := 23) (v := ?_) rfl (by kernel_rfl) (by kernel_rfl) (by kernel_rfl) (fun _ _ _ h => h) (by rfl) ?_ (by assumption) ?_
        rotate_left
        · intro w hSw
          (try dsimp only at hSw)
          go_simp
          all_goals with_reducible rfl
        try simp only [Act.put, List.setIfInBounds_toArray, List.set_cons_zero, List.set_cons_succ]
        refine hand_yes (i := 24) (v := ?_) rfl (by kernel_rfl) (by kernel_rfl) (by kernel_rfl) (fun _ _ _ h => h) (by rfl) ?_ (by assumption) ?_
        rotate_left
        · intro w hSw
          (try dsimp only at hSw)
          go_simp
          all_goals with_reducible rfl
        try simp only [Act.put, List.setIfInBounds_toArray, List.set_cons_zero, List.set_cons_succ]
        refine wpAnyH_done (by kernel_rfl) ?_ _
        refine NoPanic.normal ?_
        go_wp2_with fail
        go_meet
        exact ⟨by first | rfl | simp, hHeld⟩
      · have g1 : decide (c1 ≤ 0) = true := by simpa using h1
        have g2 : decide (c2 ≤ 0) = true := by simpa using h2
        have g3 : decide (0 < c3) = false := by simpa using h3
        refine wp_region_noPanic ?_
        refine wp_region_held_drew (S := fun w' => w'.cell? ⟨hx0, 0, none⟩ = some (.int .i64 (F.n)) ∧ w'.cell? ⟨hx0, 1, none⟩ = some (.int .i64 (F.d - 1)) ∧ w'.cell? ⟨hx1, 0, none⟩ = some (.int .i64 (G.n)) ∧ w'.cell? ⟨hx1, 1, none⟩ = some (.int .i64 (G.d - 1)) ∧ w'.cell? ⟨hx2, 0, none⟩ = some (.int .i64 (K.n)) ∧ w'.cell? ⟨hx2, 1, none⟩ = some (.int .i64 (K.d - 1)) ∧ w'.cell? ⟨hx0 + 1, 0, none⟩ = some (.int .i64 (F.n)) ∧ w'.cell? ⟨hx0 + 1, 1, none⟩ = some (.int .i64 (F.d)) ∧ w'.cell? ⟨hx1 + 1, 0, none⟩ = some (.int .i64 (G.n)) ∧ w'.cell? ⟨hx1 + 1, 1, none⟩ = some (.int .i64 (G.d)) ∧ w'.cell? ⟨hx2 + 1, 0, none⟩ = some (.int .i64 (K.n)) ∧ w'.cell? ⟨hx2 + 1, 1, none⟩ = some (.int .i64 (K.d)) ∧ Two w' (hx0) (F.n) (F.d - 1) ∧ Two w' (hx1) (G.n) (G.d - 1) ∧ Two w' (hx2) (K.n) (K.d - 1) ∧ Two w' (hx0 + 1) (F.n) (F.d) ∧ Two w' (hx1 + 1) (G.n) (G.d) ∧ Two w' (hx2 + 1) (K.n) (K.d) ∧ Below w.heap.size w w') (by kernel_rfl) ?_ (fun hHeld => ?_)
        · exact K6.of HX0_8.out.drew HX1_8.out.drew HX2_8.out.drew HQ0_8.out.drew HQ1_8.out.drew HQ2_8.out.drew (Below.drew HB_8.out)
        refine hand_yes (i := 0) (v := ?_) rfl (by kernel_rfl) (by kernel_rfl) (by kernel_rfl) (fun _ _ _ h => h) (by rfl) ?_ (by assumption) ?_
        rotate_left
        · intro w hSw
          (try dsimp only at hSw)
          go_simp
          all_goals with_reducible rfl
        try simp only [Act.put, List.setIfInBounds_toArray, List.set_cons_zero, List.set_cons_succ]
        refine hand_yes (i := 1) (v := ?_) rfl (by kernel_rfl) (by kernel_rfl) (by kernel_rfl) (fun _ _ _ h => h) (by rfl) ?_ (by assumption) ?_
        rotate_left
        · intro w hSw
          (try dsimp only at hSw)
          go_simp
          all_goals with_reducible rfl
        try simp only [Act.put, List.setIfInBounds_toArray, List.set_cons_zero, List.set_cons_succ]
        refine hand_call (i := 2) rfl (by kernel_rfl) (fun K hK => ?_)
        go_simp
        refine (HC1.out _).mono ?_
        rintro e w' ⟨rfl, hb'⟩
        go_wp2_with fail
        refine hK.out _ _ ?_ (fun hHeld2 => ?_)
        · exact K6.next hHeld hb'
        clear hK K hHeld
        have hHeld := hHeld2
        clear hHeld2
        try simp only [Act.put, List.setIfInBounds_toArray, List.set_cons_zero, List.set_cons_succ]
        refine hand_yes (i := 3) (v := ?_) rfl (by kernel_rfl) (by kernel_rfl) (by kernel_rfl) (fun _ _ _ h => h) (by rfl) ?_ (by assumption) ?_
        rotate_left
        · intro w hSw
          (try dsimp only at hSw)
          go_simp
          all_goals with_reducible rfl
        try simp only [Act.put, List.setIfInBounds_toArray, List.set_cons_zero, List.set_cons_succ]
        refine hand_yes (i := 4) (v := ?_) rfl (by kernel_rfl) (by kernel_rfl) (by kernel_rfl) (fun _ _ _ h => h) (by rfl) ?_ (by assumption) ?_
        rotate_left
        · intro w hSw
          (try dsimp only at hSw)
          go_simp
          all_goals with_reducible rfl
        try simp only [Act.put, List.setIfInBounds_toArray, List.set_cons_zero, List.set_cons_succ]
        refine hand_yes (i := 5) (v := ?_) rfl (by kernel_rfl) (by kernel_rfl) (by kernel_rfl) (fun _ _ _ h => h) (by rfl) ?_ (by assumption) ?_
        rotate_left
        · intro w hSw
          (try dsimp only at hSw)
          go_simp
          all_goals with_reducible rfl
        try simp only [Act.put, List.setIfInBounds_toArray, List.set_cons_zero, List.set_cons_succ]
        refine hand_yes (i := 6) (v := ?_) rfl (by kernel_rfl) (by kernel_rfl) (by kernel_rfl) (fun _ _ _ h => h) (by rfl) ?_ (by assumption) ?_
        rotate_left
        · intro w hSw
          (try dsimp only at hSw)
          go_simp
          all_goals with_reducible rfl
        try simp only [Act.put, List.setIfInBounds_toArray, List.set_cons_zero, List.set_cons_succ]
        refine hand_call (i := 7) rfl (by kernel_rfl) (fun K hK => ?_)
        go_simp
        refine (HC2.out _).mono ?_
        rintro e w' ⟨rfl, hb'⟩
        go_wp2_with fail
        refine hK.out _ _ ?_ (fun hHeld2 => ?_)
        · exact K6.next hHeld hb'
        clear hK K hHeld
        have hHeld := hHeld2
        clear hHeld2
        try simp only [Act.put, List.setIfInBounds_toArray, List.set_cons_zero, List.set_cons_succ]
        refine hand_yes (i := 8) (v := ?_) rfl (by kernel_rfl) (by kernel_rfl) (by kernel_rfl) (fun _ _ _ h => h) (by rfl) ?_ (by assumption) ?_
        rotate_left
        · intro w hSw
          (try dsimp only at hSw)
          go_simp
          all_goals with_reducible rfl
        try simp only [Act.put, List.setIfInBounds_toArray, List.set_cons_zero, List.set_cons_succ]
        refine hand_yes (i := 9) (v := ?_) rfl (by kernel_rfl) (by kernel_rfl) (by kernel_rfl) (fun _ _ _ h => h) (by rfl) ?_ (by assumption) ?_
        rotate_left
        · intro w hSw
          (try dsimp only at hSw)
          go_simp
          all_goals with_reducible rfl
        try simp only [Act.put, List.setIfInBounds_toArray, List.set_cons_zero, List.set_cons_succ]
        refine hand_yes (i := 10) (v := ?_) rfl (by kernel_rfl) (by kernel_rfl) (by kernel_rfl) (fun _ _ _ h => h) (by rfl) ?_ (by assumption) ?_
        rotate_left
        · intro w hSw
          (try dsimp only at hSw)
          go_simp
          all_goals with_reducible rfl
        try simp only [Act.put, List.setIfInBounds_toArray, List.set_cons_zero, List.set_cons_succ]
        refine hand_yes (i := 11) (v := ?_) rfl (by kernel_rfl) (by kernel_rfl) (by kernel_rfl) (fun _ _ _ h => h) (by rfl) ?_ (by assumption) ?_
        rotate_left
        · intro w hSw
          (try dsimp only at hSw)
          go_simp
          all_goals with_reducible rfl
        try simp only [Act.put, List.setIfInBounds_toArray, List.set_cons_zero, List.set_cons_succ]
        refine hand_yes (i := 12) (v := ?_) rfl (by kernel_rfl) (by kernel_rfl) (by kernel_rfl) (fun _ _ _ h => h) (by rfl) ?_ (by assumption) ?_
        rotate_left
        · intro w hSw
          (try dsimp only at hSw)
          go_simp
          all_goals with_reducible rfl
        try simp only [Act.put, List.setIfInBounds_toArray, List.set_cons_zero, List.set_cons_succ]
        refine hand_call (i := 13) rfl (by kernel_rfl) (fun K hK => ?_)
        go_simp
        refine (HC3.out _).mono ?_
        rintro e w' ⟨rfl, hb'⟩
        go_wp2_with fail
        refine hK.out _ _ ?_ (fun hHeld2 => ?_)
        · exact K6.next hHeld hb'
        clear hK K hHeld
        have hHeld := hHeld2
        clear hHeld2
        try simp only [Act.put, List.setIfInBounds_toArray, List.set_cons_zero, List.set_cons_succ]
        refine hand_yes (i := 14) (v := ?_) rfl (by kernel_rfl) (by kernel_rfl) (by kernel_rfl) (fun _ _ _ h => h) (by rfl) ?_ (by assumption) ?_
        rotate_left
        · intro w hSw
          (try dsimp only at hSw)
          go_simp
          all_goals with_reducible rfl
        try simp only [Act.put, List.setIfInBounds_toArray, List.set_cons_zero, List.set_cons_succ]
        refine hand_yes (i := 15) (v := ?_) rfl (by kernel_rfl) (by kernel_rfl) (by kernel_rfl) (fun _ _ _ h => h) (by rfl) ?_ (by assumption) ?_
        rotate_left
        · intro w hSw
          (try dsimp only at hSw)
          go_simp
          all_goals with_reducible rfl
        try simp only [Act.put, List.setIfInBounds_toArray, List.set_cons_zero, List.set_cons_succ]
        refine hand_yes (i := 16) (v := ?_) rfl (by kernel_rfl) (by kernel_rfl) (by kernel_rfl) (fun _ _ _ h => h) (by rfl) ?_ (by assumption) ?_
        rotate_left
        · intro w hSw
          (try dsimp only at hSw)
          go_simp
          all_goals with_reducible rfl
        try simp only [Act.put, List.setIfInBounds_toArray, List.set_cons_zero, List.set_cons_succ]
        refine hand_yes (i := 17) (v := ?_) rfl (by kernel_rfl) (by kernel_rfl) (by kernel_rfl) (fun _ _ _ h => h) (by rfl) ?_ (by assumption) ?_
        rotate_left
        · intro w hSw
          (try dsimp only at hSw)
          go_simp
          all_goals with_reducible rfl
        try simp only [Act.put, List.setIfInBounds_toArray, List.set_cons_zero, List.set_cons_succ]
        refine hand_yes (i := 18) (v := ?_) rfl (by kernel_rfl) (by kernel_rfl) (by kernel_rfl) (fun _ _ _ h => h) (by rfl) ?_ (by assumption) ?_
        rotate_left
        · intro w hSw
          (try dsimp only at hSw)
          go_simp
          all_goals with_reducible rfl
        try simp only [Act.put, List.setIfInBounds_toArray, List.set_cons_zero, List.set_cons_succ]
        refine hand_yes (i := 20) (v := ?_) rfl (by kernel_rfl) (by kernel_rfl) (by kernel_rfl) (fun _ _ _ h => h) (by rfl) ?_ (by assumption) ?_
        rotate_left
        · intro w hSw
          (try dsimp only at hSw)
          go_simp
          all_goals with_reducible rfl
        try simp only [Act.put, List.setIfInBounds_toArray, List.set_cons_zero, List.set_cons_succ]
        refine hand_yes (i := 21) (v := ?_) rfl (by kernel_rfl) (by kernel_rfl) (by kernel_rfl) (fun _ _ _ h => h) (by rfl) ?_ (by assumption) ?_
        rotate_left
        · intro w hSw
          (try dsimp only at hSw)
          go_simp
          all_goals with_reducible rfl
        try simp only [Act.put, List.setIfInBounds_toArray, List.set_cons_zero, List.set_cons_succ]
        refine hand_call (i := 19) rfl (by kernel_rfl) (fun K hK => ?_)
        go_simp
        refine (HC4.out _).mono ?_
        rintro e w' ⟨rfl, hb'⟩
        go_wp2_with fail
        refine hK.out _ _ ?_ (fun hHeld2 => ?_)
        · exact K6.next hHeld hb'
        clear hK K hHeld
        have hHeld := hHeld2
        clear hHeld2
        try simp only [Act.put, List.setIfInBounds_toArray, List.set_cons_zero, List.set_cons_succ]
        refine hand_call (i := 22) rfl (by kernel_rfl) (fun K hK => ?_)
        go_simp
        refine (HR4.out _).mono ?_
        rintro e w' ⟨rfl, hb'⟩
        go_wp2_with fail
        refine hK.out _ _ ?_ (fun hHeld2 => ?_)
        · exact K6.next hHeld hb'
        clear hK K hHeld
        have hHeld := hHeld2
        clear hHeld2
        try simp only [Act.put, List.setIfInBounds_toArray, List.set_cons_zero, List.set_cons_succ]
        refine hand_yes (i := 23) (v := ?_) rfl (by kernel_rfl) (by kernel_rfl) (by kernel_rfl) (fun _ _ _ h => h) (by rfl) ?_ (by assumption) ?_
        rotate_left
        · intro w hSw
          (try dsimp only at hSw)
          go_simp
          all_goals with_reducible rfl
        try simp only [Act.put, List.setIfInBounds_toArray, List.set_cons_zero, List.set_cons_succ]
        refine hand_yes (i := 24) (v := ?_) rfl (by kernel_rfl) (by kernel_rfl) (by kernel_rfl) (fun _ _ _ h => h) (by rfl) ?_ (by assumption) ?_
        rotate_left
        · intro w hSw
          (try dsimp only at hSw)
          go_simp
          all_goals with_reducible rfl
        try simp only [Act.put, List.setIfInBounds_toArray, List.set_cons_zero, List.set_cons_succ]
        refine wpAnyH_done (by kernel_rfl) ?_ _
        refine NoPanic.normal ?_
        go_wp2_with fail
        go_meet
        exact ⟨by first | rfl | simp, hHeld⟩
    case rest =>
      obtain ⟨rfl, hK⟩ := hcut
      have HX0_9 := hide (K6.t0 hK)
      have HX1_9 := hide (K6.t1 hK)
      have HX2_9 := hide (K6.t2 hK)
      have HQ0_9 := hide (K6.t3 hK)
      have HQ1_9 := hide (K6.t4 hK)
      have HQ2_9 := hide (K6.t5 hK)
      have HB_9 := hide (K6.bel hK)
      clear hK
      have c0 := HX0_9.out.c0
      have c1 := HX0_9.out.c1
      have c2 := HX2_9.out.c0
      have c3 := HX2_9.out.c1
      go_wp2_with fail
      clear c0 c1 c2 c3
      refine (HAd.out _).mono ?_
      rintro e w10 ⟨rfl, hb⟩
      have HX0_10 := hide (HX0_9.out.on hb HX0_9.out.lt)
      have HX1_10 := hide (HX1_9.out.on hb HX1_9.out.lt)
      have HX2_10 := hide (HX2_9.out.on hb HX2_9.out.lt)
      have HQ0_10 := hide (HQ0_9.out.on hb HQ0_9.out.lt)
      have HQ1_10 := hide (HQ1_9.out.on hb HQ1_9.out.lt)
      have HQ2_10 := hide (HQ2_9.out.on hb HQ2_9.out.lt)
      have HB_10 := hide (on_tr HB_9.out hb)
      clear hb HX0_9 HX1_9 HX2_9 HQ0_9 HQ1_9 HQ2_9 HB_9
      have HX0_11 := hide (HX0_10.out.on ((Below.refl w10.heap.size w10).alloc (Nat.le_refl _) (.cells #[.int .i64 S.n, .int .i64 (S.d - 1)] 24)) HX0_10.out.lt)
      have HX1_11 := hide (HX1_10.out.on ((Below.refl w10.heap.size w10).alloc (Nat.le_refl _) (.cells #[.int .i64 S.n, .int .i64 (S.d - 1)] 24)) HX1_10.out.lt)
      have HX2_11 := hide (HX2_10.out.on ((Below.refl w10.heap.size w10).alloc (Nat.le_refl _) (.cells #[.int .i64 S.n, .int .i64 (S.d - 1)] 24)) HX2_10.out.lt)
      have HQ0_11 := hide (HQ0_10.out.on ((Below.refl w10.heap.size w10).alloc (Nat.le_refl _) (.cells #[.int .i64 S.n, .int .i64 (S.d - 1)] 24)) HQ0_10.out.lt)
      have HQ1_11 := hide (HQ1_10.out.on ((Below.refl w10.heap.size w10).alloc (Nat.le_refl _) (.cells #[.int .i64 S.n, .int .i64 (S.d - 1)] 24)) HQ1_10.out.lt)
      have HQ2_11 := hide (HQ2_10.out.on ((Below.refl w10.heap.size w10).alloc (Nat.le_refl _) (.cells #[.int .i64 S.n, .int .i64 (S.d - 1)] 24)) HQ2_10.out.lt)
      have HB_11 := hide (HB_10.out.alloc HB_10.out.size (.cells #[.int .i64 S.n, .int .i64 (S.d - 1)] 24))
      have HS1_11 := hide (Two.new w10 S.n (S.d - 1) 24)
      have c0 := HX1_11.out.c0
      have c1 := HX1_11.out.c1
      have c2 := HX2_11.out.c0
      have c3 := HX2_11.out.c1
      go_wp2_with fail
      clear c0 c1 c2 c3
      generalize w10.alloc (.cells #[.int .i64 S.n, .int .i64 (S.d - 1)] 24) = w11 at HX0_11 HX1_11 HX2_11 HQ0_11 HQ1_11 HQ2_11 HB_11 HS1_11 ⊢
      generalize w10.heap.size = hs1 at HS1_11 ⊢
      clear HX0_10 HX1_10 HX2_10 HQ0_10 HQ1_10 HQ2_10 HB_10
      refine (HBd.out _).mono ?_
      rintro e w12 ⟨rfl, hb⟩
      have HX0_12 := hide (HX0_11.out.on hb HX0_11.out.lt)
      have HX1_12 := hide (HX1_11.out.on hb HX1_11.out.lt)
      have HX2_12 := hide (HX2_11.out.on hb HX2_11.out.lt)
      have HQ0_12 := hide (HQ0_11.out.on hb HQ0_11.out.lt)
      have HQ1_12 := hide (HQ1_11.out.on hb HQ1_11.out.lt)
      have HQ2_12 := hide (HQ2_11.out.on hb HQ2_11.out.lt)
      have HS1_12 := hide (HS1_11.out.on hb HS1_11.out.lt)
      have HB_12 := hide (on_tr HB_11.out hb)
      clear hb HX0_11 HX1_11 HX2_11 HQ0_11 HQ1_11 HQ2_11 HS1_11 HB_11
      have HX0_13 := hide (HX0_12.out.on ((Below.refl w12.heap.size w12).alloc (Nat.le_refl _) (.cells #[.int .i64 T.n, .int .i64 (T.d - 1)] 24)) HX0_12.out.lt)
      have HX1_13 := hide (HX1_12.out.on ((Below.refl w12.heap.size w12).alloc (Nat.le_refl _) (.cells #[.int .i64 T.n, .int .i64 (T.d - 1)] 24)) HX1_12.out.lt)
      have HX2_13 := hide (HX2_12.out.on ((Below.refl w12.heap.size w12).alloc (Nat.le_refl _) (.cells #[.int .i64 T.n, .int .i64 (T.d - 1)] 24)) HX2_12.out.lt)
      have HQ0_13 := hide (HQ0_12.out.on ((Below.refl w12.heap.size w12).alloc (Nat.le_refl _) (.cells #[.int .i64 T.n, .int .i64 (T.d - 1)] 24)) HQ0_12.out.lt)
      have HQ1_13 := hide (HQ1_12.out.on ((Below.refl w12.heap.size w12).alloc (Nat.le_refl _) (.cells #[.int .i64 T.n, .int .i64 (T.d - 1)] 24)) HQ1_12.out.lt)
      have HQ2_13 := hide (HQ2_12.out.on ((Below.refl w12.heap.size w12).alloc (Nat.le_refl _) (.cells #[.int .i64 T.n, .int .i64 (T.d - 1)] 24)) HQ2_12.out.lt)
      have HS1_13 := hide (HS1_12.out.on ((Below.refl w12.heap.size w12).alloc (Nat.le_refl _) (.cells #[.int .i64 T.n, .int .i64 (T.d - 1)] 24)) HS1_12.out.lt)
      have HB_13 := hide (HB_12.out.alloc HB_12.out.size (.cells #[.int .i64 T.n, .int .i64 (T.d - 1)] 24))
      have HT1_13 := hide (Two.new w12 T.n (T.d - 1) 24)
      go_wp2_with fail
      generalize w12.alloc (.cells #[.int .i64 T.n, .int .i64 (T.d - 1)] 24) = w13 at HX0_13 HX1_13 HX2_13 HQ0_13 HQ1_13 HQ2_13 HS1_13 HB_13 HT1_13 ⊢
      generalize w12.heap.size = ht1 at HT1_13 ⊢
      clear HX0_12 HX1_12 HX2_12 HQ0_12 HQ1_12 HQ2_12 HS1_12 HB_12
      by_cases hS : S.e = 0 <;> by_cases hT : T.e = 0
      · have h5 := HADD.out hS hT
        rw [h5] at HC5
        have z1 : (S.e != 0) = false := by simpa using hS
        have z2 : (T.e != 0) = false := by simpa using hT
        clear h5 hS hT
        first
        | (go_region_held3 (fun w' => w'.cell? ⟨hx0, 0, none⟩ = some (.int .i64 (F.n)) ∧ w'.cell? ⟨hx0, 1, none⟩ = some (.int .i64 (F.d - 1)) ∧ w'.cell? ⟨hx1, 0, none⟩ = some (.int .i64 (G.n)) ∧ w'.cell? ⟨hx1, 1, none⟩ = some (.int .i64 (G.d - 1)) ∧ w'.cell? ⟨hs1, 0, none⟩ = some (.int .i64 (S.n)) ∧ w'.cell? ⟨hs1, 1, none⟩ = some (.int .i64 (S.d - 1)) ∧ w'.cell? ⟨ht1, 0, none⟩ = some (.int .i64 (T.n)) ∧ w'.cell? ⟨ht1, 1, none⟩ = some (.int .i64 (T.d - 1)) ∧ Two w' (hx0) (F.n) (F.d - 1) ∧ Two w' (hx1) (G.n) (G.d - 1) ∧ Two w' (hs1) (S.n) (S.d - 1) ∧ Two w' (ht1) (T.n) (T.d - 1) ∧ Below w.heap.size w w') (first | assumption | (exact K4.of HX0_13.out.drew HX1_13.out.drew HS1_13.out.drew HT1_13.out.drew (Below.drew HB_13.out)) | (exact K4.next (by assumption) (by assumption))) (first | (go_at_call 42; (with_reducible refine (HC5.out _).mono ?_); rintro e w' ⟨rfl, hb'⟩) | (go_at_call 42; (with_reducible refine (HC1.out _).mono ?_); rintro e w' ⟨rfl, hb'⟩)))
        | fail
        all_goals
          go_wp2_with fail
          go_ret
          exact ⟨by first | rfl | simp, K4.bel (by assumption)⟩
      · have z1 : (S.e != 0) = false := by simpa using hS
        have z2 : (T.e != 0) = true := by simpa using hT
        clear hS hT
        refine wp_region_noPanic ?_
        refine wp_region_held_drew (S := fun w' => w'.cell? ⟨hx0, 0, none⟩ = some (.int .i64 (F.n)) ∧ w'.cell? ⟨hx0, 1, none⟩ = some (.int .i64 (F.d - 1)) ∧ w'.cell? ⟨hx1, 0, none⟩ = some (.int .i64 (G.n)) ∧ w'.cell? ⟨hx1, 1, none⟩ = some (.int .i64 (G.d - 1)) ∧ w'.cell? ⟨hs1, 0, none⟩ = some (.int .i64 (S.n)) ∧ w'.cell? ⟨hs1, 1, none⟩ = some (.int .i64 (S.d - 1)) ∧ w'.cell? ⟨ht1, 0, none⟩ = some (.int .i64 (T.n)) ∧ w'.cell? ⟨ht1, 1, none⟩ = some (.int .i64 (T.d - 1)) ∧ Two w' (hx0) (F.n) (F.d - 1) ∧ Two w' (hx1) (G.n) (G.d - 1) ∧ Two w' (hs1) (S.n) (S.d - 1) ∧ Two w' (ht1) (T.n) (T.d - 1) ∧ Below w.heap.size w w') (by kernel_rfl) ?_ (fun hHeld => ?_)
        · exact K4.of HX0_13.out.drew HX1_13.out.drew HS1_13.out.drew HT1_13.out.drew (Below.drew HB_13.out)
        refine hand_yes (i := 0) (v := ?_) rfl (by kernel_rfl) (by kernel_rfl) (by kernel_rfl) (fun _ _ _ h => h) (by rfl) ?_ (by assumption) ?_
        rotate_left
        · intro w hSw
          (try dsimp only at hSw)
          go_simp
          all_goals with_reducible rfl
        try simp only [Act.put, List.setIfInBounds_toArray, List.set_cons_zero, List.set_cons_succ]
        refine hand_yes (i := 1) (v := ?_) rfl (by kernel_rfl) (by kernel_rfl) (by kernel_rfl) (fun _ _ _ h => h) (by rfl) ?_ (by assumption) ?_
        rotate_left
        · intro w hSw
          (try dsimp only at hSw)
          go_simp
          all_goals with_reducible rfl
        try simp only [Act.put, List.setIfInBounds_toArray, List.set_cons_zero, List.set_cons_succ]
        refine hand_yes (i := 2) (v := ?_) rfl (by kernel_rfl) (by kernel_rfl) (by kernel_rfl) (fun _ _ _ h => h) (by rfl) ?_ (by assumption) ?_
        rotate_left
        · intro w hSw
          (try dsimp only at hSw)
          go_simp
          all_goals with_reducible rfl
        try simp only [Act.put, List.setIfInBounds_toArray, List.set_cons_zero, List.set_cons_succ]
        refine hand_yes (i := 3) (v := ?_) rfl (by kernel_rfl) (by kernel_rfl) (by kernel_rfl) (fun _ _ _ h => h) (by rfl) ?_ (by assumption) ?_
        rotate_left
        · intro w hSw
          (try dsimp only at hSw)
          go_simp
          all_goals with_reducible rfl
        try simp only [Act.put, List.setIfInBounds_toArray, List.set_cons_zero, List.set_cons_succ]
        refine hand_yes (i := 4) (v := ?_) rfl (by kernel_rfl) (by kernel_rfl) (by kernel_rfl) (fun _ _ _ h => h) (by rfl) ?_ (by assumption) ?_
        rotate_left
        · intro w hSw
          (try dsimp only at hSw)
          go_simp
          all_goals with_reducible rfl
        try simp only [Act.put, List.setIfInBounds_toArray, List.set_cons_zero, List.set_cons_succ]
        refine hand_yes (i := 5) (v := ?_) rfl (by kernel_rfl) (by kernel_rfl) (by kernel_rfl) (fun _ _ _ h => h) (by rfl) ?_ (by assumption) ?_
        rotate_left
        · intro w hSw
          (try dsimp only at hSw)
          go_simp
          all_goals with_reducible rfl
        try simp only [Act.put, List.setIfInBounds_toArray, List.set_cons_zero, List.set_cons_succ]
        refine hand_yes (i := 6) (v := ?_) rfl (by kernel_rfl) (by kernel_rfl) (by kernel_rfl) (fun _ _ _ h => h) (by rfl) ?_ (by assumption) ?_
        rotate_left
        · intro w hSw
          (try dsimp only at hSw)
          go_simp
          all_goals with_reducible rfl
        try simp only [Act.put, List.setIfInBounds_toArray, List.set_cons_zero, List.set_cons_succ]
        refine hand_no (i := 7) rfl (by kernel_rfl) (by kernel_rfl) (by kernel_rfl) (fun _ _ _ h => h) (by rfl) (by assumption) ?_
        try simp only [Act.put, List.setIfInBounds_toArray, List.set_cons_zero, List.set_cons_succ]
        refine hand_no (i := 8) rfl (by kernel_rfl) (by kernel_rfl) (by kernel_rfl) (fun _ _ _ h => h) (by rfl) (by assumption) ?_
        try simp only [Act.put, List.setIfInBounds_toArray, List.set_cons_zero, List.set_cons_succ]
        refine hand_no (i := 9) rfl (by kernel_rfl) (by kernel_rfl) (by kernel_rfl) (fun _ _ _ h => h) (by rfl) (by assumption) ?_
        try simp only [Act.put, List.setIfInBounds_toArray, List.set_cons_zero, List.set_cons_succ]
        refine hand_no (i := 10) rfl (by kernel_rfl) (by kernel_rfl) (by kernel_rfl) (fun _ _ _ h => h) (by rfl) (by assumption) ?_
        try simp only [Act.put, List.setIfInBounds_toArray, List.set_cons_zero, List.set_cons_succ]
        refine hand_no (i := 11) rfl (by kernel_rfl) (by kernel_rfl) (by kernel_rfl) (fun _ _ _ h => h) (by rfl) (by assumption) ?_
        try simp only [Act.put, List.setIfInBounds_toArray, List.set_cons_zero, List.set_cons_succ]
        refine hand_no (i := 12) rfl (by kernel_rfl) (by kernel_rfl) (by kernel_rfl) (fun _ _ _ h => h) (by rfl) (by assumption) ?_
        try simp only [Act.put, List.setIfInBounds_toArray, List.set_cons_zero, List.set_cons_succ]
        refine hand_no (i := 13) rfl (by kernel_rfl) (by kernel_rfl) (by kernel_rfl) (fun _ _ _ h => h) (by rfl) (by assumption) ?_
        try simp only [Act.put, List.setIfInBounds_toArray, List.set_cons_zero, List.set_cons_succ]
        refine hand_yes (i := 14) (v := ?_) rfl (by kernel_rfl) (by kernel_rfl) (by kernel_rfl) (fun _ _ _ h => h) (by rfl) ?_ (by assumption) ?_
        rotate_left
        · intro w hSw
          (try dsimp only at hSw)
          go_simp
          all_goals with_reducible rfl
        try simp only [Act.put, List.setIfInBounds_toArray, List.set_cons_zero, List.set_cons_succ]
        refine hand_yes (i := 15) (v := ?_) rfl (by kernel_rfl) (by kernel_rfl) (by kernel_rfl) (fun _ _ _ h => h) (by rfl) ?_ (by assumption) ?_
        rotate_left
        · intro w hSw
          (try dsimp only at hSw)
          go_simp
          all_goals with_reducible rfl
        try simp only [Act.put, List.setIfInBounds_toArray, List.set_cons_zero, List.set_cons_succ]
        refine wpAnyH_done (by kernel_rfl) ?_ _
        refine NoPanic.normal ?_
        go_wp2_with fail
        go_ret
        exact ⟨by first | rfl | simp, K4.bel hHeld⟩
      · have z1 : (S.e != 0) = true := by simpa using hS
        clear hS hT
        refine wp_region_noPanic ?_
        refine wp_region_held_drew (S := fun w' => w'.cell? ⟨hx0, 0, none⟩ = some (.int .i64 (F.n)) ∧ w'.cell? ⟨hx0, 1, none⟩ = some (.int .i64 (F.d - 1)) ∧ w'.cell? ⟨hx1, 0, none⟩ = some (.int .i64 (G.n)) ∧ w'.cell? ⟨hx1, 1, none⟩ = some (.int .i64 (G.d - 1)) ∧ w'.cell? ⟨hs1, 0, none⟩ = some (.int .i64 (S.n)) ∧ w'.cell? ⟨hs1, 1, none⟩ = some (.int .i64 (S.d - 1)) ∧ w'.cell? ⟨ht1, 0, none⟩ = some (.int .i64 (T.n)) ∧ w'.cell? ⟨ht1, 1, none⟩ = some (.int .i64 (T.d - 1)) ∧ Two w' (hx0) (F.n) (F.d - 1) ∧ Two w' (hx1) (G.n) (G.d - 1) ∧ Two w' (hs1) (S.n) (S.d - 1) ∧ Two w' (ht1) (T.n) (T.d - 1) ∧ Below w.heap.size w w') (by kernel_rfl) ?_ (fun hHeld => ?_)
        · exact K4.of HX0_13.out.drew HX1_13.out.drew HS1_13.out.drew HT1_13.out.drew (Below.drew HB_13.out)
        refine hand_yes (i := 0) (v := ?_) rfl (by kernel_rfl) (by kernel_rfl) (by kernel_rfl) (fun _ _ _ h => h) (by rfl) ?_ (by assumption) ?_
        rotate_left
        · intro w hSw
          (try dsimp only at hSw)
          go_simp
          all_goals with_reducible rfl
        try simp only [Act.put, List.setIfInBounds_toArray, List.set_cons_zero, List.set_cons_succ]
        refine hand_yes (i := 1) (v := ?_) rfl (by kernel_rfl) (by kernel_rfl) (by kernel_rfl) (fun _ _ _ h => h) (by rfl) ?_ (by assumption) ?_
        rotate_left
        · intro w hSw
          (try dsimp only at hSw)
          go_simp
          all_goals with_reducible rfl
        try simp only [Act.put, List.setIfInBounds_toArray, List.set_cons_zero, List.set_cons_succ]
        refine hand_yes (i := 2) (v := ?_) rfl (by kernel_rfl) (by kernel_rfl) (by kernel_rfl) (fun _ _ _ h => h) (by rfl) ?_ (by assumption) ?_
        rotate_left
        · intro w hSw
          (try dsimp only at hSw)
          go_simp
          all_goals with_reducible rfl
        try simp only [Act.put, List.setIfInBounds_toArray, List.set_cons_zero, List.set_cons_succ]
        refine hand_no (i := 3) rfl (by kernel_rfl) (by kernel_rfl) (by kernel_rfl) (fun _ _ _ h => h) (by rfl) (by assumption) ?_
        try simp only [Act.put, List.setIfInBounds_toArray, List.set_cons_zero, List.set_cons_succ]
        refine hand_no (i := 4) rfl (by kernel_rfl) (by kernel_rfl) (by kernel_rfl) (fun _ _ _ h => h) (by rfl) (by assumption) ?_
        try simp only [Act.put, List.setIfInBounds_toArray, List.set_cons_zero, List.set_cons_succ]
        refine hand_yes (i := 5) (v := ?_) rfl (by kernel_rfl) (by kernel_rfl) (by kernel_rfl) (fun _ _ _ h => h) (by rfl) ?_ (by assumption) ?_
        rotate_left
        · intro w hSw
          (try dsimp only at hSw)
          go_simp
          all_goals with_reducible rfl
        try simp only [Act.put, List.setIfInBounds_toArray, List.set_cons_zero, List.set_cons_succ]
        refine hand_yes (i := 6) (v := ?_) rfl (by kernel_rfl) (by kernel_rfl) (by kernel_rfl) (fun _ _ _ h => h) (by rfl) ?_ (by assumption) ?_
        rotate_left
        · intro w hSw
          (try dsimp only at hSw)
          go_simp
          all_goals with_reducible rfl
        try simp only [Act.put, List.setIfInBounds_toArray, List.set_cons_zero, List.set_cons_succ]
        refine hand_no (i := 7) rfl (by kernel_rfl) (by kernel_rfl) (by kernel_rfl) (fun _ _ _ h => h) (by rfl) (by assumption) ?_
        try simp only [Act.put, List.setIfInBounds_toArray, List.set_cons_zero, List.set_cons_succ]
        refine hand_no (i := 8) rfl (by kernel_rfl) (by kernel_rfl) (by kernel_rfl) (fun _ _ _ h => h) (by rfl) (by assumption) ?_
        try simp only [Act.put, List.setIfInBounds_toArray, List.set_cons_zero, List.set_cons_succ]
        refine hand_no (i := 9) rfl (by kernel_rfl) (by kernel_rfl) (by kernel_rfl) (fun _ _ _ h => h) (by rfl) (by assumption) ?_
        try simp only [Act.put, List.setIfInBounds_toArray, List.set_cons_zero, List.set_cons_succ]
        refine hand_no (i := 10) rfl (by kernel_rfl) (by kernel_rfl) (by kernel_rfl) (fun _ _ _ h => h) (by rfl) (by assumption) ?_
        try simp only [Act.put, List.setIfInBounds_toArray, List.set_cons_zero, List.set_cons_succ]
        refine hand_no (i := 11) rfl (by kernel_rfl) (by kernel_rfl) (by kernel_rfl) (fun _ _ _ h => h) (by rfl) (by assumption) ?_
        try simp only [Act.put, List.setIfInBounds_toArray, List.set_cons_zero, List.set_cons_succ]
        refine hand_no (i := 12) rfl (by kernel_rfl) (by kernel_rfl) (by kernel_rfl) (fun _ _ _ h => h) (by rfl) (by assumption) ?_
        try simp only [Act.put, List.setIfInBounds_toArray, List.set_cons_zero, List.set_cons_succ]
        refine hand_no (i := 13) rfl (by kernel_rfl) (by kernel_rfl) (by kernel_rfl) (fun _ _ _ h => h) (by rfl) (by assumption) ?_
        try simp only [Act.put, List.setIfInBounds_toArray, List.set_cons_zero, List.set_cons_succ]
        refine hand_yes (i := 14) (v := ?_) rfl (by kernel_rfl) (by kernel_rfl) (by kernel_rfl) (fun _ _ _ h => h) (by rfl) ?_ (by assumption) ?_
        rotate_left
        · intro w hSw
          (try dsimp only at hSw)
          go_simp
          all_goals with_reducible rfl
        try simp only [Act.put, List.setIfInBounds_toArray, List.set_cons_zero, List.set_cons_succ]
        refine hand_yes (i := 15) (v := ?_) rfl (by kernel_rfl) (by kernel_rfl) (by kernel_rfl) (fun _ _ _ h => h) (by rfl) ?_ (by assumption) ?_
        rotate_left
        · intro w hSw
          (try dsimp only at hSw)
          go_simp
          all_goals with_reducible rfl
        try simp only [Act.put, List.setIfInBounds_toArray, List.set_cons_zero, List.set_cons_succ]
        refine wpAnyH_done (by kernel_rfl) ?_ _
        refine NoPanic.normal ?_
        go_wp2_with fail
        go_ret
        exact ⟨by first | rfl | simp, K4.bel hHeld⟩
      · have z1 : (S.e != 0) = true := by simpa using hS
        clear hS hT
        refine wp_region_noPanic ?_
        refine wp_region_held_drew (S := fun w' => w'.cell? ⟨hx0, 0, none⟩ = some (.int .i64 (F.n)) ∧ w'.cell? ⟨hx0, 1, none⟩ = some (.int .i64 (F.d - 1)) ∧ w'.cell? ⟨hx1, 0, none⟩ = some (.int .i64 (G.n)) ∧ w'.cell? ⟨hx1, 1, none⟩ = some (.int .i64 (G.d - 1)) ∧ w'.cell? ⟨hs1, 0, none⟩ = some (.int .i64 (S.n)) ∧ w'.cell? ⟨hs1, 1, none⟩ = some (.int .i64 (S.d - 1)) ∧ w'.cell? ⟨ht1, 0, none⟩ = some (.int .i64 (T.n)) ∧ w'.cell? ⟨ht1, 1, none⟩ = some (.int .i64 (T.d - 1)) ∧ Two w' (hx0) (F.n) (F.d - 1) ∧ Two w' (hx1) (G.n) (G.d - 1) ∧ Two w' (hs1) (S.n) (S.d - 1) ∧ Two w' (ht1) (T.n) (T.d - 1) ∧ Below w.heap.size w w') (by kernel_rfl) ?_ (fun hHeld => ?_)
        · exact K4.of HX0_13.out.drew HX1_13.out.drew HS1_13.out.drew HT1_13.out.drew (Below.drew HB_13.out)
        refine hand_yes (i := 0) (v := ?_) rfl (by kernel_rfl) (by kernel_rfl) (by kernel_rfl) (fun _ _ _ h => h) (by rfl) ?_ (by assumption) ?_
        rotate_left
        · intro w hSw
          (try dsimp only at hSw)
          go_simp
          all_goals with_reducible rfl
        try simp only [Act.put, List.setIfInBounds_toArray, List.set_cons_zero, List.set_cons_succ]
        refine hand_yes (i := 1) (v := ?_) rfl (by kernel_rfl) (by kernel_rfl) (by kernel_rfl) (fun _ _ _ h => h) (by rfl) ?_ (by assumption) ?_
        rotate_left
        · intro w hSw
          (try dsimp only at hSw)
          go_simp
          all_goals with_reducible rfl
        try simp only [Act.put, List.setIfInBounds_toArray, List.set_cons_zero, List.set_cons_succ]
        refine hand_yes (i := 2) (v := ?_) rfl (by kernel_rfl) (by kernel_rfl) (by kernel_rfl) (fun _ _ _ h => h) (by rfl) ?_ (by assumption) ?_
        rotate_left
        · intro w hSw
          (try dsimp only at hSw)
          go_simp
          all_goals with_reducible rfl
        try simp only [Act.put, List.setIfInBounds_toArray, List.set_cons_zero, List.set_cons_succ]
        refine hand_no (i := 3) rfl (by kernel_rfl) (by kernel_rfl) (by kernel_rfl) (fun _ _ _ h => h) (by rfl) (by assumption) ?_
        try simp only [Act.put, List.setIfInBounds_toArray, List.set_cons_zero, List.set_cons_succ]
        refine hand_no (i := 4) rfl (by kernel_rfl) (by kernel_rfl) (by kernel_rfl) (fun _ _ _ h => h) (by rfl) (by assumption) ?_
        try simp only [Act.put, List.setIfInBounds_toArray, List.set_cons_zero, List.set_cons_succ]
        refine hand_yes (i := 5) (v := ?_) rfl (by kernel_rfl) (by kernel_rfl) (by kernel_rfl) (fun _ _ _ h => h) (by rfl) ?_ (by assumption) ?_
        rotate_left
        · intro w hSw
          (try dsimp only at hSw)
          go_simp
          all_goals with_reducible rfl
        try simp only [Act.put, List.setIfInBounds_toArray, List.set_cons_zero, List.set_cons_succ]
        refine hand_yes (i := 6) (v := ?_) rfl (by kernel_rfl) (by kernel_rfl) (by kernel_rfl) (fun _ _ _ h => h) (by rfl) ?_ (by assumption) ?_
        rotate_left
        · intro w hSw
          (try dsimp only at hSw)
          go_simp
          all_goals with_reducible rfl
        try simp only [Act.put, List.setIfInBounds_toArray, List.set_cons_zero, List.set_cons_succ]
        refine hand_no (i := 7) rfl (by kernel_rfl) (by kernel_rfl) (by kernel_rfl) (fun _ _ _ h => h) (by rfl) (by assumption) ?_
        try simp only [Act.put, List.setIfInBounds_toArray, List.set_cons_zero, List.set_cons_succ]
        refine hand_no (i := 8) rfl (by kernel_rfl) (by kernel_rfl) (by kernel_rfl) (fun _ _ _ h => h) (by rfl) (by assumption) ?_
        try simp only [Act.put, List.setIfInBounds_toArray, List.set_cons_zero, List.set_cons_succ]
        refine hand_no (i := 9) rfl (by kernel_rfl) (by kernel_rfl) (by kernel_rfl) (fun _ _ _ h => h) (by rfl) (by assumption) ?_
        try simp only [Act.put, List.setIfInBounds_toArray, List.set_cons_zero, List.set_cons_succ]
        refine hand_no (i := 10) rfl (by kernel_rfl) (by kernel_rfl) (by kernel_rfl) (fun _ _ _ h => h) (by rfl) (by assumption) ?_
        try simp only [Act.put, List.setIfInBounds_toArray, List.set_cons_zero, List.set_cons_succ]
        refine hand_no (i := 11) rfl (by kernel_rfl) (by kernel_rfl) (by kernel_rfl) (fun _ _ _ h => h) (by rfl) (by assumption) ?_
        try simp only [Act.put, List.setIfInBounds_toArray, List.set_cons_zero, List.set_cons_succ]
        refine hand_no (i := 12) rfl (by kernel_rfl) (by kernel_rfl) (by kernel_rfl) (fun _ _ _ h => h) (by rfl) (by assumption) ?_
        try simp only [Act.put, List.setIfInBounds_toArray, List.set_cons_zero, List.set_cons_succ]
        refine hand_no (i := 13) rfl (by kernel_rfl) (by kernel_rfl) (by kernel_rfl) (fun _ _ _ h => h) (by rfl) (by assumption) ?_
        try simp only [Act.put, List.setIfInBounds_toArray, List.set_cons_zero, List.set_cons_succ]
        refine hand_yes (i := 14) (v := ?_) rfl (by kernel_rfl) (by kernel_rfl) (by kernel_rfl) (fun _ _ _ h => h) (by rfl) ?_ (by assumption) ?_
        rotate_left
        · intro w hSw
          (try dsimp only at hSw)
          go_simp
          all_goals with_reducible rfl
        try simp only [Act.put, List.setIfInBounds_toArray, List.set_cons_zero, List.set_cons_succ]
        refine hand_yes (i := 15) (v := ?_) rfl (by kernel_rfl) (by kernel_rfl) (by kernel_rfl) (fun _ _ _ h => h) (by rfl) ?_ (by assumption) ?_
        rotate_left
        · intro w hSw
          (try dsimp only at hSw)
          go_simp
          all_goals with_reducible rfl
        try simp only [Act.put, List.setIfInBounds_toArray, List.set_cons_zero, List.set_cons_succ]
        refine wpAnyH_done (by kernel_rfl) ?_ _
        refine NoPanic.normal ?_
        go_wp2_with fail
        go_ret
        exact ⟨by first | rfl | simp, K4.bel hHeld⟩

end Go.Proofs.YtfappkhohddcjaaDoor
