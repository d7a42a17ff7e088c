/- The walk of RationalBack. -/
import Derived.Test.YtfappkhohddcjaaDoorFieldL
import Derived.Test.YtfappkhohddcjaaDoorKeep
import Derived.Test.YtfappkhohddcjaaDoorKn01
namespace Go.Proofs.YtfappkhohddcjaaDoor
open Go.RowKit

set_option maxRecDepth 100000 in
set_option maxHeartbeats 16000000 in
theorem rationalBack_walk (a0 b0 : Int) (_ : i64r a0) (_ : i64r b0) (a1 b1 : Int) (_ : i64r a1) (_ : i64r b1) (w : World) (ht : Tab w) :
    Calls Tryd.prog 13 #[.agg #[.int .i64 a0, .int .i64 b0], .agg #[.int .i64 a1, .int .i64 b1]] w fun e w' => e = .returned (.bool true) ∧ Below w.heap.size w w' := by
  have HT := hide ht
  have HO0 := hide (fun W => of_any a0 b0 W)
  have HLF := hide (show Low (ofF (clN a0) (clD b0)).n (ofF (clN a0) (clD b0)).d from (ofF_val (cl_low a0 b0)).2.2)
  generalize ofF (clN a0) (clD b0) = F at HO0 HLF
  have HO1 := hide (fun W => of_any a1 b1 W)
  have HLG := hide (show Low (ofF (clN a1) (clD b1)).n (ofF (clN a1) (clD b1)).d from (ofF_val (cl_low a1 b1)).2.2)
  generalize ofF (clN a1) (clD b1) = G at HO1 HLG
  have HK := hide (fun W (h : Tab W) => known_any W h)
  have HA := hide (fun W => Add_any F.n F.d G.n G.d W HLF.out.q HLG.out.q)
  have HM := hide (fun W => Mul_any F.n F.d G.n G.d W HLF.out.q HLG.out.q)
  have HSg := hide (fun W => Sign_any G.n G.d W HLG.out.q)
  have lA := ofF_low0 (F.n * G.d + G.n * F.d) (F.d * G.d)
  have lM := ofF_low0 (F.n * G.n) (F.d * G.d)
  obtain ⟨A, hA⟩ : ∃ A, A = ofF (F.n * G.d + G.n * F.d) (F.d * G.d) := ⟨_, rfl⟩
  obtain ⟨M, hM⟩ : ∃ M, M = ofF (F.n * G.n) (F.d * G.d) := ⟨_, rfl⟩
  have HBA := hide (back_add HLF.out HLG.out hA)
  have HBM := hide (back_mul HLF.out HLG.out hM)
  rw [← hA] at HA lA
  rw [← hM] at HM lM
  have HU := hide (fun W => Sub_any A.n A.d G.n G.d W lA.q HLG.out.q)
  have HV := hide (fun W => Div_any M.n M.d G.n G.d W lM.q HLG.out.q)
  generalize ofF (A.n * G.d + -G.n * A.d) (A.d * G.d) = U at HU HBA
  generalize ofF (M.n * G.d) (M.d * G.n) = V at HV HBM
  clear hA hM lA lM ht
  by_cases hA : A.e = 0 <;> by_cases hM : M.e = 0
  · by_cases hG : G.n = 0
    · obtain rfl := HBA.out hA
      rw [hA] at HA
      rw [hM] at HM
      have hs : (cmpQ G.n 0 == 0) = true := by rw [hG]; rfl
      clear hG
      clear hA
      have HB_0 := hide (Below.refl w.heap.size w)
      go_enter Tryd.func13, Tryd.ntmps13
      go_wp2_with fail
      have HB_1 := hide (box2_bel w a0 b0 a1 b1 22)
      have HP0_1 := hide (box2_0 w a0 b0 a1 b1 22)
      have HP1_1 := hide (box2_1 w a0 b0 a1 b1 22)
      generalize ((w.alloc (.cells #[.int .i64 a0, .int .i64 b0] 22)).alloc (.cells #[.int .i64 a1, .int .i64 b1] 22)) = w1 at HB_1 HP0_1 HP1_1 ⊢
      clear HB_0
      have c0 := HP0_1.out.c0
      have c1 := HP0_1.out.c1
      go_wp2_with fail
      clear c0 c1
      refine (HO0.out _).mono ?_
      rintro e w2 ⟨rfl, hb⟩
      have HP0_2 := hide (HP0_1.out.on hb HP0_1.out.lt)
      have HP1_2 := hide (HP1_1.out.on hb HP1_1.out.lt)
      have HB_2 := hide (on_tr HB_1.out hb)
      clear hb HP0_1 HP1_1 HB_1
      have HP0_3 := hide ((HP0_2.out.on ((Below.refl w2.heap.size w2).alloc (Nat.le_refl _) (.cells #[.int .i64 F.n, .int .i64 (F.d - 1)] 24)) HP0_2.out.lt).on ((Below.refl _ _).alloc (Nat.le_refl _) (.cells #[.int .i64 F.n, .int .i64 F.d] 26)) (by have := HP0_2.out.lt; simp; omega))
      have HP1_3 := hide ((HP1_2.out.on ((Below.refl w2.heap.size w2).alloc (Nat.le_refl _) (.cells #[.int .i64 F.n, .int .i64 (F.d - 1)] 24)) HP1_2.out.lt).on ((Below.refl _ _).alloc (Nat.le_refl _) (.cells #[.int .i64 F.n, .int .i64 F.d] 26)) (by have := HP1_2.out.lt; simp; omega))
      have HB_3 := hide ((HB_2.out.alloc HB_2.out.size (.cells #[.int .i64 F.n, .int .i64 (F.d - 1)] 24)).alloc (by have := HB_2.out.size; simp; omega) (.cells #[.int .i64 F.n, .int .i64 F.d] 26))
      have HP := hide (S2.new2 w2 F.n (F.d - 1) F.n F.d 24 26)
      have HX0_3 := hide HP.out.tx
      have HQ0_3 := hide HP.out.ty
      clear HP
      have c0 := HP1_3.out.c0
      have c1 := HP1_3.out.c1
      go_wp2_with fail
      clear c0 c1
      generalize (w2.alloc (.cells #[.int .i64 F.n, .int .i64 (F.d - 1)] 24)).alloc (.cells #[.int .i64 F.n, .int .i64 F.d] 26) = w3 at HP0_3 HP1_3 HB_3 HX0_3 HQ0_3 ⊢
      generalize w2.heap.size = hx0 at HX0_3 HQ0_3 ⊢
      clear HP0_2 HP1_2 HB_2
      refine (HO1.out _).mono ?_
      rintro e w4 ⟨rfl, hb⟩
      have HP0_4 := hide (HP0_3.out.on hb HP0_3.out.lt)
      have HP1_4 := hide (HP1_3.out.on hb HP1_3.out.lt)
      have HX0_4 := hide (HX0_3.out.on hb HX0_3.out.lt)
      have HQ0_4 := hide (HQ0_3.out.on hb HQ0_3.out.lt)
      have HB_4 := hide (on_tr HB_3.out hb)
      clear hb HP0_3 HP1_3 HX0_3 HQ0_3 HB_3
      have HP0_5 := hide ((HP0_4.out.on ((Below.refl w4.heap.size w4).alloc (Nat.le_refl _) (.cells #[.int .i64 G.n, .int .i64 (G.d - 1)] 24)) HP0_4.out.lt).on ((Below.refl _ _).alloc (Nat.le_refl _) (.cells #[.int .i64 G.n, .int .i64 G.d] 26)) (by have := HP0_4.out.lt; simp; omega))
      have HP1_5 := hide ((HP1_4.out.on ((Below.refl w4.heap.size w4).alloc (Nat.le_refl _) (.cells #[.int .i64 G.n, .int .i64 (G.d - 1)] 24)) HP1_4.out.lt).on ((Below.refl _ _).alloc (Nat.le_refl _) (.cells #[.int .i64 G.n, .int .i64 G.d] 26)) (by have := HP1_4.out.lt; simp; omega))
      have HX0_5 := hide ((HX0_4.out.on ((Below.refl w4.heap.size w4).alloc (Nat.le_refl _) (.cells #[.int .i64 G.n, .int .i64 (G.d - 1)] 24)) HX0_4.out.lt).on ((Below.refl _ _).alloc (Nat.le_refl _) (.cells #[.int .i64 G.n, .int .i64 G.d] 26)) (by have := HX0_4.out.lt; simp; omega))
      have HQ0_5 := hide ((HQ0_4.out.on ((Below.refl w4.heap.size w4).alloc (Nat.le_refl _) (.cells #[.int .i64 G.n, .int .i64 (G.d - 1)] 24)) HQ0_4.out.lt).on ((Below.refl _ _).alloc (Nat.le_refl _) (.cells #[.int .i64 G.n, .int .i64 G.d] 26)) (by have := HQ0_4.out.lt; simp; omega))
      have HB_5 := hide ((HB_4.out.alloc HB_4.out.size (.cells #[.int .i64 G.n, .int .i64 (G.d - 1)] 24)).alloc (by have := HB_4.out.size; simp; omega) (.cells #[.int .i64 G.n, .int .i64 G.d] 26))
      have HP := hide (S2.new2 w4 G.n (G.d - 1) G.n G.d 24 26)
      have HX1_5 := hide HP.out.tx
      have HQ1_5 := hide HP.out.ty
      clear HP
      have c0 := HX0_5.out.c0
      have c1 := HX0_5.out.c1
      have c2 := HX1_5.out.c0
      have c3 := HX1_5.out.c1
      go_wp2_with fail
      clear c0 c1 c2 c3
      generalize (w4.alloc (.cells #[.int .i64 G.n, .int .i64 (G.d - 1)] 24)).alloc (.cells #[.int .i64 G.n, .int .i64 G.d] 26) = w5 at HP0_5 HP1_5 HX0_5 HQ0_5 HB_5 HX1_5 HQ1_5 ⊢
      generalize w4.heap.size = hx1 at HX1_5 HQ1_5 ⊢
      clear HP0_4 HP1_4 HX0_4 HQ0_4 HB_4
      refine (HA.out _).mono ?_
      rintro e w6 ⟨rfl, hb⟩
      have HP0_6 := hide (HP0_5.out.on hb HP0_5.out.lt)
      have HP1_6 := hide (HP1_5.out.on hb HP1_5.out.lt)
      have HX0_6 := hide (HX0_5.out.on hb HX0_5.out.lt)
      have HQ0_6 := hide (HQ0_5.out.on hb HQ0_5.out.lt)
      have HX1_6 := hide (HX1_5.out.on hb HX1_5.out.lt)
      have HQ1_6 := hide (HQ1_5.out.on hb HQ1_5.out.lt)
      have HB_6 := hide (on_tr HB_5.out hb)
      clear hb HP0_5 HP1_5 HX0_5 HQ0_5 HX1_5 HQ1_5 HB_5
      have HP0_7 := hide (HP0_6.out.on ((Below.refl w6.heap.size w6).alloc (Nat.le_refl _) (.cells #[.int .i64 A.n, .int .i64 (A.d - 1)] 24)) HP0_6.out.lt)
      have HP1_7 := hide (HP1_6.out.on ((Below.refl w6.heap.size w6).alloc (Nat.le_refl _) (.cells #[.int .i64 A.n, .int .i64 (A.d - 1)] 24)) HP1_6.out.lt)
      have HX0_7 := hide (HX0_6.out.on ((Below.refl w6.heap.size w6).alloc (Nat.le_refl _) (.cells #[.int .i64 A.n, .int .i64 (A.d - 1)] 24)) HX0_6.out.lt)
      have HQ0_7 := hide (HQ0_6.out.on ((Below.refl w6.heap.size w6).alloc (Nat.le_refl _) (.cells #[.int .i64 A.n, .int .i64 (A.d - 1)] 24)) HQ0_6.out.lt)
      have HX1_7 := hide (HX1_6.out.on ((Below.refl w6.heap.size w6).alloc (Nat.le_refl _) (.cells #[.int .i64 A.n, .int .i64 (A.d - 1)] 24)) HX1_6.out.lt)
      have HQ1_7 := hide (HQ1_6.out.on ((Below.refl w6.heap.size w6).alloc (Nat.le_refl _) (.cells #[.int .i64 A.n, .int .i64 (A.d - 1)] 24)) HQ1_6.out.lt)
      have HB_7 := hide (HB_6.out.alloc HB_6.out.size (.cells #[.int .i64 A.n, .int .i64 (A.d - 1)] 24))
      have HS1_7 := hide (Two.new w6 A.n (A.d - 1) 24)
      have c0 := HS1_7.out.c0
      have c1 := HS1_7.out.c1
      have c2 := HX1_7.out.c0
      have c3 := HX1_7.out.c1
      go_wp2_with fail
      clear c0 c1 c2 c3
      generalize w6.alloc (.cells #[.int .i64 A.n, .int .i64 (A.d - 1)] 24) = w7 at HP0_7 HP1_7 HX0_7 HQ0_7 HX1_7 HQ1_7 HB_7 HS1_7 ⊢
      generalize w6.heap.size = hs1 at HS1_7 ⊢
      clear HP0_6 HP1_6 HX0_6 HQ0_6 HX1_6 HQ1_6 HB_6
      refine (HU.out _).mono ?_
      rintro e w8 ⟨rfl, hb⟩
      have HP0_8 := hide (HP0_7.out.on hb HP0_7.out.lt)
      have HP1_8 := hide (HP1_7.out.on hb HP1_7.out.lt)
      have HX0_8 := hide (HX0_7.out.on hb HX0_7.out.lt)
      have HQ0_8 := hide (HQ0_7.out.on hb HQ0_7.out.lt)
      have HX1_8 := hide (HX1_7.out.on hb HX1_7.out.lt)
      have HQ1_8 := hide (HQ1_7.out.on hb HQ1_7.out.lt)
      have HS1_8 := hide (HS1_7.out.on hb HS1_7.out.lt)
      have HB_8 := hide (on_tr HB_7.out hb)
      clear hb HP0_7 HP1_7 HX0_7 HQ0_7 HX1_7 HQ1_7 HS1_7 HB_7
      have HP0_9 := hide (HP0_8.out.on ((Below.refl w8.heap.size w8).alloc (Nat.le_refl _) (.cells #[.int .i64 F.n, .int .i64 (F.d - 1)] 24)) HP0_8.out.lt)
      have HP1_9 := hide (HP1_8.out.on ((Below.refl w8.heap.size w8).alloc (Nat.le_refl _) (.cells #[.int .i64 F.n, .int .i64 (F.d - 1)] 24)) HP1_8.out.lt)
      have HX0_9 := hide (HX0_8.out.on ((Below.refl w8.heap.size w8).alloc (Nat.le_refl _) (.cells #[.int .i64 F.n, .int .i64 (F.d - 1)] 24)) HX0_8.out.lt)
      have HQ0_9 := hide (HQ0_8.out.on ((Below.refl w8.heap.size w8).alloc (Nat.le_refl _) (.cells #[.int .i64 F.n, .int .i64 (F.d - 1)] 24)) HQ0_8.out.lt)
      have HX1_9 := hide (HX1_8.out.on ((Below.refl w8.heap.size w8).alloc (Nat.le_refl _) (.cells #[.int .i64 F.n, .int .i64 (F.d - 1)] 24)) HX1_8.out.lt)
      have HQ1_9 := hide (HQ1_8.out.on ((Below.refl w8.heap.size w8).alloc (Nat.le_refl _) (.cells #[.int .i64 F.n, .int .i64 (F.d - 1)] 24)) HQ1_8.out.lt)
      have HS1_9 := hide (HS1_8.out.on ((Below.refl w8.heap.size w8).alloc (Nat.le_refl _) (.cells #[.int .i64 F.n, .int .i64 (F.d - 1)] 24)) HS1_8.out.lt)
      have HB_9 := hide (HB_8.out.alloc HB_8.out.size (.cells #[.int .i64 F.n, .int .i64 (F.d - 1)] 24))
      have HU1_9 := hide (Two.new w8 F.n (F.d - 1) 24)
      have c0 := HX0_9.out.c0
      have c1 := HX0_9.out.c1
      have c2 := HX1_9.out.c0
      have c3 := HX1_9.out.c1
      go_wp2_with fail
      clear c0 c1 c2 c3
      generalize w8.alloc (.cells #[.int .i64 F.n, .int .i64 (F.d - 1)] 24) = w9 at HP0_9 HP1_9 HX0_9 HQ0_9 HX1_9 HQ1_9 HS1_9 HB_9 HU1_9 ⊢
      generalize w8.heap.size = hu1 at HU1_9 ⊢
      clear HP0_8 HP1_8 HX0_8 HQ0_8 HX1_8 HQ1_8 HS1_8 HB_8
      refine (HM.out _).mono ?_
      rintro e w10 ⟨rfl, hb⟩
      have HP0_10 := hide (HP0_9.out.on hb HP0_9.out.lt)
      have HP1_10 := hide (HP1_9.out.on hb HP1_9.out.lt)
      have HX0_10 := hide (HX0_9.out.on hb HX0_9.out.lt)
      have HQ0_10 := hide (HQ0_9.out.on hb HQ0_9.out.lt)
      have HX1_10 := hide (HX1_9.out.on hb HX1_9.out.lt)
      have HQ1_10 := hide (HQ1_9.out.on hb HQ1_9.out.lt)
      have HS1_10 := hide (HS1_9.out.on hb HS1_9.out.lt)
      have HU1_10 := hide (HU1_9.out.on hb HU1_9.out.lt)
      have HB_10 := hide (on_tr HB_9.out hb)
      clear hb HP0_9 HP1_9 HX0_9 HQ0_9 HX1_9 HQ1_9 HS1_9 HU1_9 HB_9
      have HP0_11 := hide (HP0_10.out.on ((Below.refl w10.heap.size w10).alloc (Nat.le_refl _) (.cells #[.int .i64 M.n, .int .i64 (M.d - 1)] 24)) HP0_10.out.lt)
      have HP1_11 := hide (HP1_10.out.on ((Below.refl w10.heap.size w10).alloc (Nat.le_refl _) (.cells #[.int .i64 M.n, .int .i64 (M.d - 1)] 24)) HP1_10.out.lt)
      have HX0_11 := hide (HX0_10.out.on ((Below.refl w10.heap.size w10).alloc (Nat.le_refl _) (.cells #[.int .i64 M.n, .int .i64 (M.d - 1)] 24)) HX0_10.out.lt)
      have HQ0_11 := hide (HQ0_10.out.on ((Below.refl w10.heap.size w10).alloc (Nat.le_refl _) (.cells #[.int .i64 M.n, .int .i64 (M.d - 1)] 24)) HQ0_10.out.lt)
      have HX1_11 := hide (HX1_10.out.on ((Below.refl w10.heap.size w10).alloc (Nat.le_refl _) (.cells #[.int .i64 M.n, .int .i64 (M.d - 1)] 24)) HX1_10.out.lt)
      have HQ1_11 := hide (HQ1_10.out.on ((Below.refl w10.heap.size w10).alloc (Nat.le_refl _) (.cells #[.int .i64 M.n, .int .i64 (M.d - 1)] 24)) HQ1_10.out.lt)
      have HS1_11 := hide (HS1_10.out.on ((Below.refl w10.heap.size w10).alloc (Nat.le_refl _) (.cells #[.int .i64 M.n, .int .i64 (M.d - 1)] 24)) HS1_10.out.lt)
      have HU1_11 := hide (HU1_10.out.on ((Below.refl w10.heap.size w10).alloc (Nat.le_refl _) (.cells #[.int .i64 M.n, .int .i64 (M.d - 1)] 24)) HU1_10.out.lt)
      have HB_11 := hide (HB_10.out.alloc HB_10.out.size (.cells #[.int .i64 M.n, .int .i64 (M.d - 1)] 24))
      have HM1_11 := hide (Two.new w10 M.n (M.d - 1) 24)
      have c0 := HM1_11.out.c0
      have c1 := HM1_11.out.c1
      have c2 := HX1_11.out.c0
      have c3 := HX1_11.out.c1
      go_wp2_with fail
      clear c0 c1 c2 c3
      generalize w10.alloc (.cells #[.int .i64 M.n, .int .i64 (M.d - 1)] 24) = w11 at HP0_11 HP1_11 HX0_11 HQ0_11 HX1_11 HQ1_11 HS1_11 HU1_11 HB_11 HM1_11 ⊢
      generalize w10.heap.size = hm1 at HM1_11 ⊢
      clear HP0_10 HP1_10 HX0_10 HQ0_10 HX1_10 HQ1_10 HS1_10 HU1_10 HB_10
      refine (HV.out _).mono ?_
      rintro e w12 ⟨rfl, hb⟩
      have HP0_12 := hide (HP0_11.out.on hb HP0_11.out.lt)
      have HP1_12 := hide (HP1_11.out.on hb HP1_11.out.lt)
      have HX0_12 := hide (HX0_11.out.on hb HX0_11.out.lt)
      have HQ0_12 := hide (HQ0_11.out.on hb HQ0_11.out.lt)
      have HX1_12 := hide (HX1_11.out.on hb HX1_11.out.lt)
      have HQ1_12 := hide (HQ1_11.out.on hb HQ1_11.out.lt)
      have HS1_12 := hide (HS1_11.out.on hb HS1_11.out.lt)
      have HU1_12 := hide (HU1_11.out.on hb HU1_11.out.lt)
      have HM1_12 := hide (HM1_11.out.on hb HM1_11.out.lt)
      have HB_12 := hide (on_tr HB_11.out hb)
      clear hb HP0_11 HP1_11 HX0_11 HQ0_11 HX1_11 HQ1_11 HS1_11 HU1_11 HM1_11 HB_11
      have HP0_13 := hide (HP0_12.out.on ((Below.refl w12.heap.size w12).alloc (Nat.le_refl _) (.cells #[.int .i64 V.n, .int .i64 (V.d - 1)] 24)) HP0_12.out.lt)
      have HP1_13 := hide (HP1_12.out.on ((Below.refl w12.heap.size w12).alloc (Nat.le_refl _) (.cells #[.int .i64 V.n, .int .i64 (V.d - 1)] 24)) HP1_12.out.lt)
      have HX0_13 := hide (HX0_12.out.on ((Below.refl w12.heap.size w12).alloc (Nat.le_refl _) (.cells #[.int .i64 V.n, .int .i64 (V.d - 1)] 24)) HX0_12.out.lt)
      have HQ0_13 := hide (HQ0_12.out.on ((Below.refl w12.heap.size w12).alloc (Nat.le_refl _) (.cells #[.int .i64 V.n, .int .i64 (V.d - 1)] 24)) HQ0_12.out.lt)
      have HX1_13 := hide (HX1_12.out.on ((Below.refl w12.heap.size w12).alloc (Nat.le_refl _) (.cells #[.int .i64 V.n, .int .i64 (V.d - 1)] 24)) HX1_12.out.lt)
      have HQ1_13 := hide (HQ1_12.out.on ((Below.refl w12.heap.size w12).alloc (Nat.le_refl _) (.cells #[.int .i64 V.n, .int .i64 (V.d - 1)] 24)) HQ1_12.out.lt)
      have HS1_13 := hide (HS1_12.out.on ((Below.refl w12.heap.size w12).alloc (Nat.le_refl _) (.cells #[.int .i64 V.n, .int .i64 (V.d - 1)] 24)) HS1_12.out.lt)
      have HU1_13 := hide (HU1_12.out.on ((Below.refl w12.heap.size w12).alloc (Nat.le_refl _) (.cells #[.int .i64 V.n, .int .i64 (V.d - 1)] 24)) HU1_12.out.lt)
      have HM1_13 := hide (HM1_12.out.on ((Below.refl w12.heap.size w12).alloc (Nat.le_refl _) (.cells #[.int .i64 V.n, .int .i64 (V.d - 1)] 24)) HM1_12.out.lt)
      have HB_13 := hide (HB_12.out.alloc HB_12.out.size (.cells #[.int .i64 V.n, .int .i64 (V.d - 1)] 24))
      have HV1_13 := hide (Two.new w12 V.n (V.d - 1) 24)
      go_wp2_with fail
      generalize w12.alloc (.cells #[.int .i64 V.n, .int .i64 (V.d - 1)] 24) = w13 at HP0_13 HP1_13 HX0_13 HQ0_13 HX1_13 HQ1_13 HS1_13 HU1_13 HM1_13 HB_13 HV1_13 ⊢
      generalize w12.heap.size = hv1 at HV1_13 ⊢
      clear HP0_12 HP1_12 HX0_12 HQ0_12 HX1_12 HQ1_12 HS1_12 HU1_12 HM1_12 HB_12
      have HTT := hide (HT.out.on HB_13.out)
      refine (HK.out _ HTT.out).mono ?_
      clear HTT
      rintro e w14 ⟨rfl, hb⟩
      have HP0_14 := hide (HP0_13.out.on hb HP0_13.out.lt)
      have HP1_14 := hide (HP1_13.out.on hb HP1_13.out.lt)
      have HX0_14 := hide (HX0_13.out.on hb HX0_13.out.lt)
      have HQ0_14 := hide (HQ0_13.out.on hb HQ0_13.out.lt)
      have HX1_14 := hide (HX1_13.out.on hb HX1_13.out.lt)
      have HQ1_14 := hide (HQ1_13.out.on hb HQ1_13.out.lt)
      have HS1_14 := hide (HS1_13.out.on hb HS1_13.out.lt)
      have HU1_14 := hide (HU1_13.out.on hb HU1_13.out.lt)
      have HM1_14 := hide (HM1_13.out.on hb HM1_13.out.lt)
      have HV1_14 := hide (HV1_13.out.on hb HV1_13.out.lt)
      have HB_14 := hide (on_tr HB_13.out hb)
      clear hb HP0_13 HP1_13 HX0_13 HQ0_13 HX1_13 HQ1_13 HS1_13 HU1_13 HM1_13 HV1_13 HB_13
      have c0 := HU1_14.out.c0
      have c1 := HU1_14.out.c1
      have c2 := HX0_14.out.c0
      have c3 := HX0_14.out.c1
      have c4 := HX1_14.out.c0
      have c5 := HX1_14.out.c1
      go_wp2_with fail
      clear c0 c1 c2 c3 c4 c5
      refine (HSg.out _).mono ?_
      rintro e w15 ⟨rfl, hb⟩
      have HP0_15 := hide (HP0_14.out.on hb HP0_14.out.lt)
      have HP1_15 := hide (HP1_14.out.on hb HP1_14.out.lt)
      have HX0_15 := hide (HX0_14.out.on hb HX0_14.out.lt)
      have HQ0_15 := hide (HQ0_14.out.on hb HQ0_14.out.lt)
      have HX1_15 := hide (HX1_14.out.on hb HX1_14.out.lt)
      have HQ1_15 := hide (HQ1_14.out.on hb HQ1_14.out.lt)
      have HS1_15 := hide (HS1_14.out.on hb HS1_14.out.lt)
      have HU1_15 := hide (HU1_14.out.on hb HU1_14.out.lt)
      have HM1_15 := hide (HM1_14.out.on hb HM1_14.out.lt)
      have HV1_15 := hide (HV1_14.out.on hb HV1_14.out.lt)
      have HB_15 := hide (on_tr HB_14.out hb)
      clear hb HP0_14 HP1_14 HX0_14 HQ0_14 HX1_14 HQ1_14 HS1_14 HU1_14 HM1_14 HV1_14 HB_14
      have c0 := HV1_15.out.c0
      have c1 := HV1_15.out.c1
      have c2 := HX0_15.out.c0
      have c3 := HX0_15.out.c1
      go_wp2_with fail
      go_ret
      exact ⟨by first | rfl | simp, HB_15.out⟩
    · obtain rfl := HBA.out hA
      rw [hA] at HA
      rw [hM] at HM
      obtain rfl := HBM.out hM hG
      have hs : (cmpQ G.n 0 == 0) = false := by simpa [cmpQ_zero] using hG
      clear hA
      have HB_0 := hide (Below.refl w.heap.size w)
      go_enter Tryd.func13, Tryd.ntmps13
      go_wp2_with fail
      have HB_1 := hide (box2_bel w a0 b0 a1 b1 22)
      have HP0_1 := hide (box2_0 w a0 b0 a1 b1 22)
      have HP1_1 := hide (box2_1 w a0 b0 a1 b1 22)
      generalize ((w.alloc (.cells #[.int .i64 a0, .int .i64 b0] 22)).alloc (.cells #[.int .i64 a1, .int .i64 b1] 22)) = w1 at HB_1 HP0_1 HP1_1 ⊢
      clear HB_0
      have c0 := HP0_1.out.c0
      have c1 := HP0_1.out.c1
      go_wp2_with fail
      clear c0 c1
      refine (HO0.out _).mono ?_
      rintro e w2 ⟨rfl, hb⟩
      have HP0_2 := hide (HP0_1.out.on hb HP0_1.out.lt)
      have HP1_2 := hide (HP1_1.out.on hb HP1_1.out.lt)
      have HB_2 := hide (on_tr HB_1.out hb)
      clear hb HP0_1 HP1_1 HB_1
      have HP0_3 := hide ((HP0_2.out.on ((Below.refl w2.heap.size w2).alloc (Nat.le_refl _) (.cells #[.int .i64 F.n, .int .i64 (F.d - 1)] 24)) HP0_2.out.lt).on ((Below.refl _ _).alloc (Nat.le_refl _) (.cells #[.int .i64 F.n, .int .i64 F.d] 26)) (by have := HP0_2.out.lt; simp; omega))
      have HP1_3 := hide ((HP1_2.out.on ((Below.refl w2.heap.size w2).alloc (Nat.le_refl _) (.cells #[.int .i64 F.n, .int .i64 (F.d - 1)] 24)) HP1_2.out.lt).on ((Below.refl _ _).alloc (Nat.le_refl _) (.cells #[.int .i64 F.n, .int .i64 F.d] 26)) (by have := HP1_2.out.lt; simp; omega))
      have HB_3 := hide ((HB_2.out.alloc HB_2.out.size (.cells #[.int .i64 F.n, .int .i64 (F.d - 1)] 24)).alloc (by have := HB_2.out.size; simp; omega) (.cells #[.int .i64 F.n, .int .i64 F.d] 26))
      have HP := hide (S2.new2 w2 F.n (F.d - 1) F.n F.d 24 26)
      have HX0_3 := hide HP.out.tx
      have HQ0_3 := hide HP.out.ty
      clear HP
      have c0 := HP1_3.out.c0
      have c1 := HP1_3.out.c1
      go_wp2_with fail
      clear c0 c1
      generalize (w2.alloc (.cells #[.int .i64 F.n, .int .i64 (F.d - 1)] 24)).alloc (.cells #[.int .i64 F.n, .int .i64 F.d] 26) = w3 at HP0_3 HP1_3 HB_3 HX0_3 HQ0_3 ⊢
      generalize w2.heap.size = hx0 at HX0_3 HQ0_3 ⊢
      clear HP0_2 HP1_2 HB_2
      refine (HO1.out _).mono ?_
      rintro e w4 ⟨rfl, hb⟩
      have HP0_4 := hide (HP0_3.out.on hb HP0_3.out.lt)
      have HP1_4 := hide (HP1_3.out.on hb HP1_3.out.lt)
      have HX0_4 := hide (HX0_3.out.on hb HX0_3.out.lt)
      have HQ0_4 := hide (HQ0_3.out.on hb HQ0_3.out.lt)
      have HB_4 := hide (on_tr HB_3.out hb)
      clear hb HP0_3 HP1_3 HX0_3 HQ0_3 HB_3
      have HP0_5 := hide ((HP0_4.out.on ((Below.refl w4.heap.size w4).alloc (Nat.le_refl _) (.cells #[.int .i64 G.n, .int .i64 (G.d - 1)] 24)) HP0_4.out.lt).on ((Below.refl _ _).alloc (Nat.le_refl _) (.cells #[.int .i64 G.n, .int .i64 G.d] 26)) (by have := HP0_4.out.lt; simp; omega))
      have HP1_5 := hide ((HP1_4.out.on ((Below.refl w4.heap.size w4).alloc (Nat.le_refl _) (.cells #[.int .i64 G.n, .int .i64 (G.d - 1)] 24)) HP1_4.out.lt).on ((Below.refl _ _).alloc (Nat.le_refl _) (.cells #[.int .i64 G.n, .int .i64 G.d] 26)) (by have := HP1_4.out.lt; simp; omega))
      have HX0_5 := hide ((HX0_4.out.on ((Below.refl w4.heap.size w4).alloc (Nat.le_refl _) (.cells #[.int .i64 G.n, .int .i64 (G.d - 1)] 24)) HX0_4.out.lt).on ((Below.refl _ _).alloc (Nat.le_refl _) (.cells #[.int .i64 G.n, .int .i64 G.d] 26)) (by have := HX0_4.out.lt; simp; omega))
      have HQ0_5 := hide ((HQ0_4.out.on ((Below.refl w4.heap.size w4).alloc (Nat.le_refl _) (.cells #[.int .i64 G.n, .int .i64 (G.d - 1)] 24)) HQ0_4.out.lt).on ((Below.refl _ _).alloc (Nat.le_refl _) (.cells #[.int .i64 G.n, .int .i64 G.d] 26)) (by have := HQ0_4.out.lt; simp; omega))
      have HB_5 := hide ((HB_4.out.alloc HB_4.out.size (.cells #[.int .i64 G.n, .int .i64 (G.d - 1)] 24)).alloc (by have := HB_4.out.size; simp; omega) (.cells #[.int .i64 G.n, .int .i64 G.d] 26))
      have HP := hide (S2.new2 w4 G.n (G.d - 1) G.n G.d 24 26)
      have HX1_5 := hide HP.out.tx
      have HQ1_5 := hide HP.out.ty
      clear HP
      have c0 := HX0_5.out.c0
      have c1 := HX0_5.out.c1
      have c2 := HX1_5.out.c0
      have c3 := HX1_5.out.c1
      go_wp2_with fail
      clear c0 c1 c2 c3
      generalize (w4.alloc (.cells #[.int .i64 G.n, .int .i64 (G.d - 1)] 24)).alloc (.cells #[.int .i64 G.n, .int .i64 G.d] 26) = w5 at HP0_5 HP1_5 HX0_5 HQ0_5 HB_5 HX1_5 HQ1_5 ⊢
      generalize w4.heap.size = hx1 at HX1_5 HQ1_5 ⊢
      clear HP0_4 HP1_4 HX0_4 HQ0_4 HB_4
      refine (HA.out _).mono ?_
      rintro e w6 ⟨rfl, hb⟩
      have HP0_6 := hide (HP0_5.out.on hb HP0_5.out.lt)
      have HP1_6 := hide (HP1_5.out.on hb HP1_5.out.lt)
      have HX0_6 := hide (HX0_5.out.on hb HX0_5.out.lt)
      have HQ0_6 := hide (HQ0_5.out.on hb HQ0_5.out.lt)
      have HX1_6 := hide (HX1_5.out.on hb HX1_5.out.lt)
      have HQ1_6 := hide (HQ1_5.out.on hb HQ1_5.out.lt)
      have HB_6 := hide (on_tr HB_5.out hb)
      clear hb HP0_5 HP1_5 HX0_5 HQ0_5 HX1_5 HQ1_5 HB_5
      have HP0_7 := hide (HP0_6.out.on ((Below.refl w6.heap.size w6).alloc (Nat.le_refl _) (.cells #[.int .i64 A.n, .int .i64 (A.d - 1)] 24)) HP0_6.out.lt)
      have HP1_7 := hide (HP1_6.out.on ((Below.refl w6.heap.size w6).alloc (Nat.le_refl _) (.cells #[.int .i64 A.n, .int .i64 (A.d - 1)] 24)) HP1_6.out.lt)
      have HX0_7 := hide (HX0_6.out.on ((Below.refl w6.heap.size w6).alloc (Nat.le_refl _) (.cells #[.int .i64 A.n, .int .i64 (A.d - 1)] 24)) HX0_6.out.lt)
      have HQ0_7 := hide (HQ0_6.out.on ((Below.refl w6.heap.size w6).alloc (Nat.le_refl _) (.cells #[.int .i64 A.n, .int .i64 (A.d - 1)] 24)) HQ0_6.out.lt)
      have HX1_7 := hide (HX1_6.out.on ((Below.refl w6.heap.size w6).alloc (Nat.le_refl _) (.cells #[.int .i64 A.n, .int .i64 (A.d - 1)] 24)) HX1_6.out.lt)
      have HQ1_7 := hide (HQ1_6.out.on ((Below.refl w6.heap.size w6).alloc (Nat.le_refl _) (.cells #[.int .i64 A.n, .int .i64 (A.d - 1)] 24)) HQ1_6.out.lt)
      have HB_7 := hide (HB_6.out.alloc HB_6.out.size (.cells #[.int .i64 A.n, .int .i64 (A.d - 1)] 24))
      have HS1_7 := hide (Two.new w6 A.n (A.d - 1) 24)
      have c0 := HS1_7.out.c0
      have c1 := HS1_7.out.c1
      have c2 := HX1_7.out.c0
      have c3 := HX1_7.out.c1
      go_wp2_with fail
      clear c0 c1 c2 c3
      generalize w6.alloc (.cells #[.int .i64 A.n, .int .i64 (A.d - 1)] 24) = w7 at HP0_7 HP1_7 HX0_7 HQ0_7 HX1_7 HQ1_7 HB_7 HS1_7 ⊢
      generalize w6.heap.size = hs1 at HS1_7 ⊢
      clear HP0_6 HP1_6 HX0_6 HQ0_6 HX1_6 HQ1_6 HB_6
      refine (HU.out _).mono ?_
      rintro e w8 ⟨rfl, hb⟩
      have HP0_8 := hide (HP0_7.out.on hb HP0_7.out.lt)
      have HP1_8 := hide (HP1_7.out.on hb HP1_7.out.lt)
      have HX0_8 := hide (HX0_7.out.on hb HX0_7.out.lt)
      have HQ0_8 := hide (HQ0_7.out.on hb HQ0_7.out.lt)
      have HX1_8 := hide (HX1_7.out.on hb HX1_7.out.lt)
      have HQ1_8 := hide (HQ1_7.out.on hb HQ1_7.out.lt)
      have HS1_8 := hide (HS1_7.out.on hb HS1_7.out.lt)
      have HB_8 := hide (on_tr HB_7.out hb)
      clear hb HP0_7 HP1_7 HX0_7 HQ0_7 HX1_7 HQ1_7 HS1_7 HB_7
      have HP0_9 := hide (HP0_8.out.on ((Below.refl w8.heap.size w8).alloc (Nat.le_refl _) (.cells #[.int .i64 F.n, .int .i64 (F.d - 1)] 24)) HP0_8.out.lt)
      have HP1_9 := hide (HP1_8.out.on ((Below.refl w8.heap.size w8).alloc (Nat.le_refl _) (.cells #[.int .i64 F.n, .int .i64 (F.d - 1)] 24)) HP1_8.out.lt)
      have HX0_9 := hide (HX0_8.out.on ((Below.refl w8.heap.size w8).alloc (Nat.le_refl _) (.cells #[.int .i64 F.n, .int .i64 (F.d - 1)] 24)) HX0_8.out.lt)
      have HQ0_9 := hide (HQ0_8.out.on ((Below.refl w8.heap.size w8).alloc (Nat.le_refl _) (.cells #[.int .i64 F.n, .int .i64 (F.d - 1)] 24)) HQ0_8.out.lt)
      have HX1_9 := hide (HX1_8.out.on ((Below.refl w8.heap.size w8).alloc (Nat.le_refl _) (.cells #[.int .i64 F.n, .int .i64 (F.d - 1)] 24)) HX1_8.out.lt)
      have HQ1_9 := hide (HQ1_8.out.on ((Below.refl w8.heap.size w8).alloc (Nat.le_refl _) (.cells #[.int .i64 F.n, .int .i64 (F.d - 1)] 24)) HQ1_8.out.lt)
      have HS1_9 := hide (HS1_8.out.on ((Below.refl w8.heap.size w8).alloc (Nat.le_refl _) (.cells #[.int .i64 F.n, .int .i64 (F.d - 1)] 24)) HS1_8.out.lt)
      have HB_9 := hide (HB_8.out.alloc HB_8.out.size (.cells #[.int .i64 F.n, .int .i64 (F.d - 1)] 24))
      have HU1_9 := hide (Two.new w8 F.n (F.d - 1) 24)
      have c0 := HX0_9.out.c0
      have c1 := HX0_9.out.c1
      have c2 := HX1_9.out.c0
      have c3 := HX1_9.out.c1
      go_wp2_with fail
      clear c0 c1 c2 c3
      generalize w8.alloc (.cells #[.int .i64 F.n, .int .i64 (F.d - 1)] 24) = w9 at HP0_9 HP1_9 HX0_9 HQ0_9 HX1_9 HQ1_9 HS1_9 HB_9 HU1_9 ⊢
      generalize w8.heap.size = hu1 at HU1_9 ⊢
      clear HP0_8 HP1_8 HX0_8 HQ0_8 HX1_8 HQ1_8 HS1_8 HB_8
      refine (HM.out _).mono ?_
      rintro e w10 ⟨rfl, hb⟩
      have HP0_10 := hide (HP0_9.out.on hb HP0_9.out.lt)
      have HP1_10 := hide (HP1_9.out.on hb HP1_9.out.lt)
      have HX0_10 := hide (HX0_9.out.on hb HX0_9.out.lt)
      have HQ0_10 := hide (HQ0_9.out.on hb HQ0_9.out.lt)
      have HX1_10 := hide (HX1_9.out.on hb HX1_9.out.lt)
      have HQ1_10 := hide (HQ1_9.out.on hb HQ1_9.out.lt)
      have HS1_10 := hide (HS1_9.out.on hb HS1_9.out.lt)
      have HU1_10 := hide (HU1_9.out.on hb HU1_9.out.lt)
      have HB_10 := hide (on_tr HB_9.out hb)
      clear hb HP0_9 HP1_9 HX0_9 HQ0_9 HX1_9 HQ1_9 HS1_9 HU1_9 HB_9
      have HP0_11 := hide (HP0_10.out.on ((Below.refl w10.heap.size w10).alloc (Nat.le_refl _) (.cells #[.int .i64 M.n, .int .i64 (M.d - 1)] 24)) HP0_10.out.lt)
      have HP1_11 := hide (HP1_10.out.on ((Below.refl w10.heap.size w10).alloc (Nat.le_refl _) (.cells #[.int .i64 M.n, .int .i64 (M.d - 1)] 24)) HP1_10.out.lt)
      have HX0_11 := hide (HX0_10.out.on ((Below.refl w10.heap.size w10).alloc (Nat.le_refl _) (.cells #[.int .i64 M.n, .int .i64 (M.d - 1)] 24)) HX0_10.out.lt)
      have HQ0_11 := hide (HQ0_10.out.on ((Below.refl w10.heap.size w10).alloc (Nat.le_refl _) (.cells #[.int .i64 M.n, .int .i64 (M.d - 1)] 24)) HQ0_10.out.lt)
      have HX1_11 := hide (HX1_10.out.on ((Below.refl w10.heap.size w10).alloc (Nat.le_refl _) (.cells #[.int .i64 M.n, .int .i64 (M.d - 1)] 24)) HX1_10.out.lt)
      have HQ1_11 := hide (HQ1_10.out.on ((Below.refl w10.heap.size w10).alloc (Nat.le_refl _) (.cells #[.int .i64 M.n, .int .i64 (M.d - 1)] 24)) HQ1_10.out.lt)
      have HS1_11 := hide (HS1_10.out.on ((Below.refl w10.heap.size w10).alloc (Nat.le_refl _) (.cells #[.int .i64 M.n, .int .i64 (M.d - 1)] 24)) HS1_10.out.lt)
      have HU1_11 := hide (HU1_10.out.on ((Below.refl w10.heap.size w10).alloc (Nat.le_refl _) (.cells #[.int .i64 M.n, .int .i64 (M.d - 1)] 24)) HU1_10.out.lt)
      have HB_11 := hide (HB_10.out.alloc HB_10.out.size (.cells #[.int .i64 M.n, .int .i64 (M.d - 1)] 24))
      have HM1_11 := hide (Two.new w10 M.n (M.d - 1) 24)
      have c0 := HM1_11.out.c0
      have c1 := HM1_11.out.c1
      have c2 := HX1_11.out.c0
      have c3 := HX1_11.out.c1
      go_wp2_with fail
      clear c0 c1 c2 c3
      generalize w10.alloc (.cells #[.int .i64 M.n, .int .i64 (M.d - 1)] 24) = w11 at HP0_11 HP1_11 HX0_11 HQ0_11 HX1_11 HQ1_11 HS1_11 HU1_11 HB_11 HM1_11 ⊢
      generalize w10.heap.size = hm1 at HM1_11 ⊢
      clear HP0_10 HP1_10 HX0_10 HQ0_10 HX1_10 HQ1_10 HS1_10 HU1_10 HB_10
      refine (HV.out _).mono ?_
      rintro e w12 ⟨rfl, hb⟩
      have HP0_12 := hide (HP0_11.out.on hb HP0_11.out.lt)
      have HP1_12 := hide (HP1_11.out.on hb HP1_11.out.lt)
      have HX0_12 := hide (HX0_11.out.on hb HX0_11.out.lt)
      have HQ0_12 := hide (HQ0_11.out.on hb HQ0_11.out.lt)
      have HX1_12 := hide (HX1_11.out.on hb HX1_11.out.lt)
      have HQ1_12 := hide (HQ1_11.out.on hb HQ1_11.out.lt)
      have HS1_12 := hide (HS1_11.out.on hb HS1_11.out.lt)
      have HU1_12 := hide (HU1_11.out.on hb HU1_11.out.lt)
      have HM1_12 := hide (HM1_11.out.on hb HM1_11.out.lt)
      have HB_12 := hide (on_tr HB_11.out hb)
      clear hb HP0_11 HP1_11 HX0_11 HQ0_11 HX1_11 HQ1_11 HS1_11 HU1_11 HM1_11 HB_11
      have HP0_13 := hide (HP0_12.out.on ((Below.refl w12.heap.size w12).alloc (Nat.le_refl _) (.cells #[.int .i64 F.n, .int .i64 (F.d - 1)] 24)) HP0_12.out.lt)
      have HP1_13 := hide (HP1_12.out.on ((Below.refl w12.heap.size w12).alloc (Nat.le_refl _) (.cells #[.int .i64 F.n, .int .i64 (F.d - 1)] 24)) HP1_12.out.lt)
      have HX0_13 := hide (HX0_12.out.on ((Below.refl w12.heap.size w12).alloc (Nat.le_refl _) (.cells #[.int .i64 F.n, .int .i64 (F.d - 1)] 24)) HX0_12.out.lt)
      have HQ0_13 := hide (HQ0_12.out.on ((Below.refl w12.heap.size w12).alloc (Nat.le_refl _) (.cells #[.int .i64 F.n, .int .i64 (F.d - 1)] 24)) HQ0_12.out.lt)
      have HX1_13 := hide (HX1_12.out.on ((Below.refl w12.heap.size w12).alloc (Nat.le_refl _) (.cells #[.int .i64 F.n, .int .i64 (F.d - 1)] 24)) HX1_12.out.lt)
      have HQ1_13 := hide (HQ1_12.out.on ((Below.refl w12.heap.size w12).alloc (Nat.le_refl _) (.cells #[.int .i64 F.n, .int .i64 (F.d - 1)] 24)) HQ1_12.out.lt)
      have HS1_13 := hide (HS1_12.out.on ((Below.refl w12.heap.size w12).alloc (Nat.le_refl _) (.cells #[.int .i64 F.n, .int .i64 (F.d - 1)] 24)) HS1_12.out.lt)
      have HU1_13 := hide (HU1_12.out.on ((Below.refl w12.heap.size w12).alloc (Nat.le_refl _) (.cells #[.int .i64 F.n, .int .i64 (F.d - 1)] 24)) HU1_12.out.lt)
      have HM1_13 := hide (HM1_12.out.on ((Below.refl w12.heap.size w12).alloc (Nat.le_refl _) (.cells #[.int .i64 F.n, .int .i64 (F.d - 1)] 24)) HM1_12.out.lt)
      have HB_13 := hide (HB_12.out.alloc HB_12.out.size (.cells #[.int .i64 F.n, .int .i64 (F.d - 1)] 24))
      have HV1_13 := hide (Two.new w12 F.n (F.d - 1) 24)
      go_wp2_with fail
      generalize w12.alloc (.cells #[.int .i64 F.n, .int .i64 (F.d - 1)] 24) = w13 at HP0_13 HP1_13 HX0_13 HQ0_13 HX1_13 HQ1_13 HS1_13 HU1_13 HM1_13 HB_13 HV1_13 ⊢
      generalize w12.heap.size = hv1 at HV1_13 ⊢
      clear HP0_12 HP1_12 HX0_12 HQ0_12 HX1_12 HQ1_12 HS1_12 HU1_12 HM1_12 HB_12
      have HTT := hide (HT.out.on HB_13.out)
      refine (HK.out _ HTT.out).mono ?_
      clear HTT
      rintro e w14 ⟨rfl, hb⟩
      have HP0_14 := hide (HP0_13.out.on hb HP0_13.out.lt)
      have HP1_14 := hide (HP1_13.out.on hb HP1_13.out.lt)
      have HX0_14 := hide (HX0_13.out.on hb HX0_13.out.lt)
      have HQ0_14 := hide (HQ0_13.out.on hb HQ0_13.out.lt)
      have HX1_14 := hide (HX1_13.out.on hb HX1_13.out.lt)
      have HQ1_14 := hide (HQ1_13.out.on hb HQ1_13.out.lt)
      have HS1_14 := hide (HS1_13.out.on hb HS1_13.out.lt)
      have HU1_14 := hide (HU1_13.out.on hb HU1_13.out.lt)
      have HM1_14 := hide (HM1_13.out.on hb HM1_13.out.lt)
      have HV1_14 := hide (HV1_13.out.on hb HV1_13.out.lt)
      have HB_14 := hide (on_tr HB_13.out hb)
      clear hb HP0_13 HP1_13 HX0_13 HQ0_13 HX1_13 HQ1_13 HS1_13 HU1_13 HM1_13 HV1_13 HB_13
      have c0 := HU1_14.out.c0
      have c1 := HU1_14.out.c1
      have c2 := HX0_14.out.c0
      have c3 := HX0_14.out.c1
      have c4 := HX1_14.out.c0
      have c5 := HX1_14.out.c1
      go_wp2_with fail
      clear c0 c1 c2 c3 c4 c5
      refine (HSg.out _).mono ?_
      rintro e w15 ⟨rfl, hb⟩
      have HP0_15 := hide (HP0_14.out.on hb HP0_14.out.lt)
      have HP1_15 := hide (HP1_14.out.on hb HP1_14.out.lt)
      have HX0_15 := hide (HX0_14.out.on hb HX0_14.out.lt)
      have HQ0_15 := hide (HQ0_14.out.on hb HQ0_14.out.lt)
      have HX1_15 := hide (HX1_14.out.on hb HX1_14.out.lt)
      have HQ1_15 := hide (HQ1_14.out.on hb HQ1_14.out.lt)
      have HS1_15 := hide (HS1_14.out.on hb HS1_14.out.lt)
      have HU1_15 := hide (HU1_14.out.on hb HU1_14.out.lt)
      have HM1_15 := hide (HM1_14.out.on hb HM1_14.out.lt)
      have HV1_15 := hide (HV1_14.out.on hb HV1_14.out.lt)
      have HB_15 := hide (on_tr HB_14.out hb)
      clear hb HP0_14 HP1_14 HX0_14 HQ0_14 HX1_14 HQ1_14 HS1_14 HU1_14 HM1_14 HV1_14 HB_14
      have c0 := HV1_15.out.c0
      have c1 := HV1_15.out.c1
      have c2 := HX0_15.out.c0
      have c3 := HX0_15.out.c1
      go_wp2_with fail
      go_ret
      exact ⟨by first | rfl | simp, HB_15.out⟩
  · obtain rfl := HBA.out hA
    rw [hA] at HA
    have hM2 : (M.e != 0) = true := by simpa using hM
    clear hA
    have HB_0 := hide (Below.refl w.heap.size w)
    go_enter Tryd.func13, Tryd.ntmps13
    go_wp2_with fail
    have HB_1 := hide (box2_bel w a0 b0 a1 b1 22)
    have HP0_1 := hide (box2_0 w a0 b0 a1 b1 22)
    have HP1_1 := hide (box2_1 w a0 b0 a1 b1 22)
    generalize ((w.alloc (.cells #[.int .i64 a0, .int .i64 b0] 22)).alloc (.cells #[.int .i64 a1, .int .i64 b1] 22)) = w1 at HB_1 HP0_1 HP1_1 ⊢
    clear HB_0
    have c0 := HP0_1.out.c0
    have c1 := HP0_1.out.c1
    go_wp2_with fail
    clear c0 c1
    refine (HO0.out _).mono ?_
    rintro e w2 ⟨rfl, hb⟩
    have HP0_2 := hide (HP0_1.out.on hb HP0_1.out.lt)
    have HP1_2 := hide (HP1_1.out.on hb HP1_1.out.lt)
    have HB_2 := hide (on_tr HB_1.out hb)
    clear hb HP0_1 HP1_1 HB_1
    have HP0_3 := hide ((HP0_2.out.on ((Below.refl w2.heap.size w2).alloc (Nat.le_refl _) (.cells #[.int .i64 F.n, .int .i64 (F.d - 1)] 24)) HP0_2.out.lt).on ((Below.refl _ _).alloc (Nat.le_refl _) (.cells #[.int .i64 F.n, .int .i64 F.d] 26)) (by have := HP0_2.out.lt; simp; omega))
    have HP1_3 := hide ((HP1_2.out.on ((Below.refl w2.heap.size w2).alloc (Nat.le_refl _) (.cells #[.int .i64 F.n, .int .i64 (F.d - 1)] 24)) HP1_2.out.lt).on ((Below.refl _ _).alloc (Nat.le_refl _) (.cells #[.int .i64 F.n, .int .i64 F.d] 26)) (by have := HP1_2.out.lt; simp; omega))
    have HB_3 := hide ((HB_2.out.alloc HB_2.out.size (.cells #[.int .i64 F.n, .int .i64 (F.d - 1)] 24)).alloc (by have := HB_2.out.size; simp; omega) (.cells #[.int .i64 F.n, .int .i64 F.d] 26))
    have HP := hide (S2.new2 w2 F.n (F.d - 1) F.n F.d 24 26)
    have HX0_3 := hide HP.out.tx
    have HQ0_3 := hide HP.out.ty
    clear HP
    have c0 := HP1_3.out.c0
    have c1 := HP1_3.out.c1
    go_wp2_with fail
    clear c0 c1
    generalize (w2.alloc (.cells #[.int .i64 F.n, .int .i64 (F.d - 1)] 24)).alloc (.cells #[.int .i64 F.n, .int .i64 F.d] 26) = w3 at HP0_3 HP1_3 HB_3 HX0_3 HQ0_3 ⊢
    generalize w2.heap.size = hx0 at HX0_3 HQ0_3 ⊢
    clear HP0_2 HP1_2 HB_2
    refine (HO1.out _).mono ?_
    rintro e w4 ⟨rfl, hb⟩
    have HP0_4 := hide (HP0_3.out.on hb HP0_3.out.lt)
    have HP1_4 := hide (HP1_3.out.on hb HP1_3.out.lt)
    have HX0_4 := hide (HX0_3.out.on hb HX0_3.out.lt)
    have HQ0_4 := hide (HQ0_3.out.on hb HQ0_3.out.lt)
    have HB_4 := hide (on_tr HB_3.out hb)
    clear hb HP0_3 HP1_3 HX0_3 HQ0_3 HB_3
    have HP0_5 := hide ((HP0_4.out.on ((Below.refl w4.heap.size w4).alloc (Nat.le_refl _) (.cells #[.int .i64 G.n, .int .i64 (G.d - 1)] 24)) HP0_4.out.lt).on ((Below.refl _ _).alloc (Nat.le_refl _) (.cells #[.int .i64 G.n, .int .i64 G.d] 26)) (by have := HP0_4.out.lt; simp; omega))
    have HP1_5 := hide ((HP1_4.out.on ((Below.refl w4.heap.size w4).alloc (Nat.le_refl _) (.cells #[.int .i64 G.n, .int .i64 (G.d - 1)] 24)) HP1_4.out.lt).on ((Below.refl _ _).alloc (Nat.le_refl _) (.cells #[.int .i64 G.n, .int .i64 G.d] 26)) (by have := HP1_4.out.lt; simp; omega))
    have HX0_5 := hide ((HX0_4.out.on ((Below.refl w4.heap.size w4).alloc (Nat.le_refl _) (.cells #[.int .i64 G.n, .int .i64 (G.d - 1)] 24)) HX0_4.out.lt).on ((Below.refl _ _).alloc (Nat.le_refl _) (.cells #[.int .i64 G.n, .int .i64 G.d] 26)) (by have := HX0_4.out.lt; simp; omega))
    have HQ0_5 := hide ((HQ0_4.out.on ((Below.refl w4.heap.size w4).alloc (Nat.le_refl _) (.cells #[.int .i64 G.n, .int .i64 (G.d - 1)] 24)) HQ0_4.out.lt).on ((Below.refl _ _).alloc (Nat.le_refl _) (.cells #[.int .i64 G.n, .int .i64 G.d] 26)) (by have := HQ0_4.out.lt; simp; omega))
    have HB_5 := hide ((HB_4.out.alloc HB_4.out.size (.cells #[.int .i64 G.n, .int .i64 (G.d - 1)] 24)).alloc (by have := HB_4.out.size; simp; omega) (.cells #[.int .i64 G.n, .int .i64 G.d] 26))
    have HP := hide (S2.new2 w4 G.n (G.d - 1) G.n G.d 24 26)
    have HX1_5 := hide HP.out.tx
    have HQ1_5 := hide HP.out.ty
    clear HP
    have c0 := HX0_5.out.c0
    have c1 := HX0_5.out.c1
    have c2 := HX1_5.out.c0
    have c3 := HX1_5.out.c1
    go_wp2_with fail
    clear c0 c1 c2 c3
    generalize (w4.alloc (.cells #[.int .i64 G.n, .int .i64 (G.d - 1)] 24)).alloc (.cells #[.int .i64 G.n, .int .i64 G.d] 26) = w5 at HP0_5 HP1_5 HX0_5 HQ0_5 HB_5 HX1_5 HQ1_5 ⊢
    generalize w4.heap.size = hx1 at HX1_5 HQ1_5 ⊢
    clear HP0_4 HP1_4 HX0_4 HQ0_4 HB_4
    refine (HA.out _).mono ?_
    rintro e w6 ⟨rfl, hb⟩
    have HP0_6 := hide (HP0_5.out.on hb HP0_5.out.lt)
    have HP1_6 := hide (HP1_5.out.on hb HP1_5.out.lt)
    have HX0_6 := hide (HX0_5.out.on hb HX0_5.out.lt)
    have HQ0_6 := hide (HQ0_5.out.on hb HQ0_5.out.lt)
    have HX1_6 := hide (HX1_5.out.on hb HX1_5.out.lt)
    have HQ1_6 := hide (HQ1_5.out.on hb HQ1_5.out.lt)
    have HB_6 := hide (on_tr HB_5.out hb)
    clear hb HP0_5 HP1_5 HX0_5 HQ0_5 HX1_5 HQ1_5 HB_5
    have HP0_7 := hide (HP0_6.out.on ((Below.refl w6.heap.size w6).alloc (Nat.le_refl _) (.cells #[.int .i64 A.n, .int .i64 (A.d - 1)] 24)) HP0_6.out.lt)
    have HP1_7 := hide (HP1_6.out.on ((Below.refl w6.heap.size w6).alloc (Nat.le_refl _) (.cells #[.int .i64 A.n, .int .i64 (A.d - 1)] 24)) HP1_6.out.lt)
    have HX0_7 := hide (HX0_6.out.on ((Below.refl w6.heap.size w6).alloc (Nat.le_refl _) (.cells #[.int .i64 A.n, .int .i64 (A.d - 1)] 24)) HX0_6.out.lt)
    have HQ0_7 := hide (HQ0_6.out.on ((Below.refl w6.heap.size w6).alloc (Nat.le_refl _) (.cells #[.int .i64 A.n, .int .i64 (A.d - 1)] 24)) HQ0_6.out.lt)
    have HX1_7 := hide (HX1_6.out.on ((Below.refl w6.heap.size w6).alloc (Nat.le_refl _) (.cells #[.int .i64 A.n, .int .i64 (A.d - 1)] 24)) HX1_6.out.lt)
    have HQ1_7 := hide (HQ1_6.out.on ((Below.refl w6.heap.size w6).alloc (Nat.le_refl _) (.cells #[.int .i64 A.n, .int .i64 (A.d - 1)] 24)) HQ1_6.out.lt)
    have HB_7 := hide (HB_6.out.alloc HB_6.out.size (.cells #[.int .i64 A.n, .int .i64 (A.d - 1)] 24))
    have HS1_7 := hide (Two.new w6 A.n (A.d - 1) 24)
    have c0 := HS1_7.out.c0
    have c1 := HS1_7.out.c1
    have c2 := HX1_7.out.c0
    have c3 := HX1_7.out.c1
    go_wp2_with fail
    clear c0 c1 c2 c3
    generalize w6.alloc (.cells #[.int .i64 A.n, .int .i64 (A.d - 1)] 24) = w7 at HP0_7 HP1_7 HX0_7 HQ0_7 HX1_7 HQ1_7 HB_7 HS1_7 ⊢
    generalize w6.heap.size = hs1 at HS1_7 ⊢
    clear HP0_6 HP1_6 HX0_6 HQ0_6 HX1_6 HQ1_6 HB_6
    refine (HU.out _).mono ?_
    rintro e w8 ⟨rfl, hb⟩
    have HP0_8 := hide (HP0_7.out.on hb HP0_7.out.lt)
    have HP1_8 := hide (HP1_7.out.on hb HP1_7.out.lt)
    have HX0_8 := hide (HX0_7.out.on hb HX0_7.out.lt)
    have HQ0_8 := hide (HQ0_7.out.on hb HQ0_7.out.lt)
    have HX1_8 := hide (HX1_7.out.on hb HX1_7.out.lt)
    have HQ1_8 := hide (HQ1_7.out.on hb HQ1_7.out.lt)
    have HS1_8 := hide (HS1_7.out.on hb HS1_7.out.lt)
    have HB_8 := hide (on_tr HB_7.out hb)
    clear hb HP0_7 HP1_7 HX0_7 HQ0_7 HX1_7 HQ1_7 HS1_7 HB_7
    have HP0_9 := hide (HP0_8.out.on ((Below.refl w8.heap.size w8).alloc (Nat.le_refl _) (.cells #[.int .i64 F.n, .int .i64 (F.d - 1)] 24)) HP0_8.out.lt)
    have HP1_9 := hide (HP1_8.out.on ((Below.refl w8.heap.size w8).alloc (Nat.le_refl _) (.cells #[.int .i64 F.n, .int .i64 (F.d - 1)] 24)) HP1_8.out.lt)
    have HX0_9 := hide (HX0_8.out.on ((Below.refl w8.heap.size w8).alloc (Nat.le_refl _) (.cells #[.int .i64 F.n, .int .i64 (F.d - 1)] 24)) HX0_8.out.lt)
    have HQ0_9 := hide (HQ0_8.out.on ((Below.refl w8.heap.size w8).alloc (Nat.le_refl _) (.cells #[.int .i64 F.n, .int .i64 (F.d - 1)] 24)) HQ0_8.out.lt)
    have HX1_9 := hide (HX1_8.out.on ((Below.refl w8.heap.size w8).alloc (Nat.le_refl _) (.cells #[.int .i64 F.n, .int .i64 (F.d - 1)] 24)) HX1_8.out.lt)
    have HQ1_9 := hide (HQ1_8.out.on ((Below.refl w8.heap.size w8).alloc (Nat.le_refl _) (.cells #[.int .i64 F.n, .int .i64 (F.d - 1)] 24)) HQ1_8.out.lt)
    have HS1_9 := hide (HS1_8.out.on ((Below.refl w8.heap.size w8).alloc (Nat.le_refl _) (.cells #[.int .i64 F.n, .int .i64 (F.d - 1)] 24)) HS1_8.out.lt)
    have HB_9 := hide (HB_8.out.alloc HB_8.out.size (.cells #[.int .i64 F.n, .int .i64 (F.d - 1)] 24))
    have HU1_9 := hide (Two.new w8 F.n (F.d - 1) 24)
    have c0 := HX0_9.out.c0
    have c1 := HX0_9.out.c1
    have c2 := HX1_9.out.c0
    have c3 := HX1_9.out.c1
    go_wp2_with fail
    clear c0 c1 c2 c3
    generalize w8.alloc (.cells #[.int .i64 F.n, .int .i64 (F.d - 1)] 24) = w9 at HP0_9 HP1_9 HX0_9 HQ0_9 HX1_9 HQ1_9 HS1_9 HB_9 HU1_9 ⊢
    generalize w8.heap.size = hu1 at HU1_9 ⊢
    clear HP0_8 HP1_8 HX0_8 HQ0_8 HX1_8 HQ1_8 HS1_8 HB_8
    refine (HM.out _).mono ?_
    rintro e w10 ⟨rfl, hb⟩
    have HP0_10 := hide (HP0_9.out.on hb HP0_9.out.lt)
    have HP1_10 := hide (HP1_9.out.on hb HP1_9.out.lt)
    have HX0_10 := hide (HX0_9.out.on hb HX0_9.out.lt)
    have HQ0_10 := hide (HQ0_9.out.on hb HQ0_9.out.lt)
    have HX1_10 := hide (HX1_9.out.on hb HX1_9.out.lt)
    have HQ1_10 := hide (HQ1_9.out.on hb HQ1_9.out.lt)
    have HS1_10 := hide (HS1_9.out.on hb HS1_9.out.lt)
    have HU1_10 := hide (HU1_9.out.on hb HU1_9.out.lt)
    have HB_10 := hide (on_tr HB_9.out hb)
    clear hb HP0_9 HP1_9 HX0_9 HQ0_9 HX1_9 HQ1_9 HS1_9 HU1_9 HB_9
    have HP0_11 := hide (HP0_10.out.on ((Below.refl w10.heap.size w10).alloc (Nat.le_refl _) (.cells #[.int .i64 M.n, .int .i64 (M.d - 1)] 24)) HP0_10.out.lt)
    have HP1_11 := hide (HP1_10.out.on ((Below.refl w10.heap.size w10).alloc (Nat.le_refl _) (.cells #[.int .i64 M.n, .int .i64 (M.d - 1)] 24)) HP1_10.out.lt)
    have HX0_11 := hide (HX0_10.out.on ((Below.refl w10.heap.size w10).alloc (Nat.le_refl _) (.cells #[.int .i64 M.n, .int .i64 (M.d - 1)] 24)) HX0_10.out.lt)
    have HQ0_11 := hide (HQ0_10.out.on ((Below.refl w10.heap.size w10).alloc (Nat.le_refl _) (.cells #[.int .i64 M.n, .int .i64 (M.d - 1)] 24)) HQ0_10.out.lt)
    have HX1_11 := hide (HX1_10.out.on ((Below.refl w10.heap.size w10).alloc (Nat.le_refl _) (.cells #[.int .i64 M.n, .int .i64 (M.d - 1)] 24)) HX1_10.out.lt)
    have HQ1_11 := hide (HQ1_10.out.on ((Below.refl w10.heap.size w10).alloc (Nat.le_refl _) (.cells #[.int .i64 M.n, .int .i64 (M.d - 1)] 24)) HQ1_10.out.lt)
    have HS1_11 := hide (HS1_10.out.on ((Below.refl w10.heap.size w10).alloc (Nat.le_refl _) (.cells #[.int .i64 M.n, .int .i64 (M.d - 1)] 24)) HS1_10.out.lt)
    have HU1_11 := hide (HU1_10.out.on ((Below.refl w10.heap.size w10).alloc (Nat.le_refl _) (.cells #[.int .i64 M.n, .int .i64 (M.d - 1)] 24)) HU1_10.out.lt)
    have HB_11 := hide (HB_10.out.alloc HB_10.out.size (.cells #[.int .i64 M.n, .int .i64 (M.d - 1)] 24))
    have HM1_11 := hide (Two.new w10 M.n (M.d - 1) 24)
    have c0 := HM1_11.out.c0
    have c1 := HM1_11.out.c1
    have c2 := HX1_11.out.c0
    have c3 := HX1_11.out.c1
    go_wp2_with fail
    clear c0 c1 c2 c3
    generalize w10.alloc (.cells #[.int .i64 M.n, .int .i64 (M.d - 1)] 24) = w11 at HP0_11 HP1_11 HX0_11 HQ0_11 HX1_11 HQ1_11 HS1_11 HU1_11 HB_11 HM1_11 ⊢
    generalize w10.heap.size = hm1 at HM1_11 ⊢
    clear HP0_10 HP1_10 HX0_10 HQ0_10 HX1_10 HQ1_10 HS1_10 HU1_10 HB_10
    refine (HV.out _).mono ?_
    rintro e w12 ⟨rfl, hb⟩
    have HP0_12 := hide (HP0_11.out.on hb HP0_11.out.lt)
    have HP1_12 := hide (HP1_11.out.on hb HP1_11.out.lt)
    have HX0_12 := hide (HX0_11.out.on hb HX0_11.out.lt)
    have HQ0_12 := hide (HQ0_11.out.on hb HQ0_11.out.lt)
    have HX1_12 := hide (HX1_11.out.on hb HX1_11.out.lt)
    have HQ1_12 := hide (HQ1_11.out.on hb HQ1_11.out.lt)
    have HS1_12 := hide (HS1_11.out.on hb HS1_11.out.lt)
    have HU1_12 := hide (HU1_11.out.on hb HU1_11.out.lt)
    have HM1_12 := hide (HM1_11.out.on hb HM1_11.out.lt)
    have HB_12 := hide (on_tr HB_11.out hb)
    clear hb HP0_11 HP1_11 HX0_11 HQ0_11 HX1_11 HQ1_11 HS1_11 HU1_11 HM1_11 HB_11
    have HP0_13 := hide (HP0_12.out.on ((Below.refl w12.heap.size w12).alloc (Nat.le_refl _) (.cells #[.int .i64 V.n, .int .i64 (V.d - 1)] 24)) HP0_12.out.lt)
    have HP1_13 := hide (HP1_12.out.on ((Below.refl w12.heap.size w12).alloc (Nat.le_refl _) (.cells #[.int .i64 V.n, .int .i64 (V.d - 1)] 24)) HP1_12.out.lt)
    have HX0_13 := hide (HX0_12.out.on ((Below.refl w12.heap.size w12).alloc (Nat.le_refl _) (.cells #[.int .i64 V.n, .int .i64 (V.d - 1)] 24)) HX0_12.out.lt)
    have HQ0_13 := hide (HQ0_12.out.on ((Below.refl w12.heap.size w12).alloc (Nat.le_refl _) (.cells #[.int .i64 V.n, .int .i64 (V.d - 1)] 24)) HQ0_12.out.lt)
    have HX1_13 := hide (HX1_12.out.on ((Below.refl w12.heap.size w12).alloc (Nat.le_refl _) (.cells #[.int .i64 V.n, .int .i64 (V.d - 1)] 24)) HX1_12.out.lt)
    have HQ1_13 := hide (HQ1_12.out.on ((Below.refl w12.heap.size w12).alloc (Nat.le_refl _) (.cells #[.int .i64 V.n, .int .i64 (V.d - 1)] 24)) HQ1_12.out.lt)
    have HS1_13 := hide (HS1_12.out.on ((Below.refl w12.heap.size w12).alloc (Nat.le_refl _) (.cells #[.int .i64 V.n, .int .i64 (V.d - 1)] 24)) HS1_12.out.lt)
    have HU1_13 := hide (HU1_12.out.on ((Below.refl w12.heap.size w12).alloc (Nat.le_refl _) (.cells #[.int .i64 V.n, .int .i64 (V.d - 1)] 24)) HU1_12.out.lt)
    have HM1_13 := hide (HM1_12.out.on ((Below.refl w12.heap.size w12).alloc (Nat.le_refl _) (.cells #[.int .i64 V.n, .int .i64 (V.d - 1)] 24)) HM1_12.out.lt)
    have HB_13 := hide (HB_12.out.alloc HB_12.out.size (.cells #[.int .i64 V.n, .int .i64 (V.d - 1)] 24))
    have HV1_13 := hide (Two.new w12 V.n (V.d - 1) 24)
    go_wp2_with fail
    generalize w12.alloc (.cells #[.int .i64 V.n, .int .i64 (V.d - 1)] 24) = w13 at HP0_13 HP1_13 HX0_13 HQ0_13 HX1_13 HQ1_13 HS1_13 HU1_13 HM1_13 HB_13 HV1_13 ⊢
    generalize w12.heap.size = hv1 at HV1_13 ⊢
    clear HP0_12 HP1_12 HX0_12 HQ0_12 HX1_12 HQ1_12 HS1_12 HU1_12 HM1_12 HB_12
    have HTT := hide (HT.out.on HB_13.out)
    refine (HK.out _ HTT.out).mono ?_
    clear HTT
    rintro e w14 ⟨rfl, hb⟩
    have HP0_14 := hide (HP0_13.out.on hb HP0_13.out.lt)
    have HP1_14 := hide (HP1_13.out.on hb HP1_13.out.lt)
    have HX0_14 := hide (HX0_13.out.on hb HX0_13.out.lt)
    have HQ0_14 := hide (HQ0_13.out.on hb HQ0_13.out.lt)
    have HX1_14 := hide (HX1_13.out.on hb HX1_13.out.lt)
    have HQ1_14 := hide (HQ1_13.out.on hb HQ1_13.out.lt)
    have HS1_14 := hide (HS1_13.out.on hb HS1_13.out.lt)
    have HU1_14 := hide (HU1_13.out.on hb HU1_13.out.lt)
    have HM1_14 := hide (HM1_13.out.on hb HM1_13.out.lt)
    have HV1_14 := hide (HV1_13.out.on hb HV1_13.out.lt)
    have HB_14 := hide (on_tr HB_13.out hb)
    clear hb HP0_13 HP1_13 HX0_13 HQ0_13 HX1_13 HQ1_13 HS1_13 HU1_13 HM1_13 HV1_13 HB_13
    have c0 := HU1_14.out.c0
    have c1 := HU1_14.out.c1
    have c2 := HX0_14.out.c0
    have c3 := HX0_14.out.c1
    have c4 := HX1_14.out.c0
    have c5 := HX1_14.out.c1
    go_wp2_with fail
    go_ret
    exact ⟨by first | rfl | simp, HB_14.out⟩
  · by_cases hG : G.n = 0
    · have hA1 : (A.e == 0) = false := by simpa using hA
      rw [hM] at HM
      have hs : (cmpQ G.n 0 == 0) = true := by rw [hG]; rfl
      clear hG
      clear hA
      have HB_0 := hide (Below.refl w.heap.size w)
      go_enter Tryd.func13, Tryd.ntmps13
      go_wp2_with fail
      have HB_1 := hide (box2_bel w a0 b0 a1 b1 22)
      have HP0_1 := hide (box2_0 w a0 b0 a1 b1 22)
      have HP1_1 := hide (box2_1 w a0 b0 a1 b1 22)
      generalize ((w.alloc (.cells #[.int .i64 a0, .int .i64 b0] 22)).alloc (.cells #[.int .i64 a1, .int .i64 b1] 22)) = w1 at HB_1 HP0_1 HP1_1 ⊢
      clear HB_0
      have c0 := HP0_1.out.c0
      have c1 := HP0_1.out.c1
      go_wp2_with fail
      clear c0 c1
      refine (HO0.out _).mono ?_
      rintro e w2 ⟨rfl, hb⟩
      have HP0_2 := hide (HP0_1.out.on hb HP0_1.out.lt)
      have HP1_2 := hide (HP1_1.out.on hb HP1_1.out.lt)
      have HB_2 := hide (on_tr HB_1.out hb)
      clear hb HP0_1 HP1_1 HB_1
      have HP0_3 := hide ((HP0_2.out.on ((Below.refl w2.heap.size w2).alloc (Nat.le_refl _) (.cells #[.int .i64 F.n, .int .i64 (F.d - 1)] 24)) HP0_2.out.lt).on ((Below.refl _ _).alloc (Nat.le_refl _) (.cells #[.int .i64 F.n, .int .i64 F.d] 26)) (by have := HP0_2.out.lt; simp; omega))
      have HP1_3 := hide ((HP1_2.out.on ((Below.refl w2.heap.size w2).alloc (Nat.le_refl _) (.cells #[.int .i64 F.n, .int .i64 (F.d - 1)] 24)) HP1_2.out.lt).on ((Below.refl _ _).alloc (Nat.le_refl _) (.cells #[.int .i64 F.n, .int .i64 F.d] 26)) (by have := HP1_2.out.lt; simp; omega))
      have HB_3 := hide ((HB_2.out.alloc HB_2.out.size (.cells #[.int .i64 F.n, .int .i64 (F.d - 1)] 24)).alloc (by have := HB_2.out.size; simp; omega) (.cells #[.int .i64 F.n, .int .i64 F.d] 26))
      have HP := hide (S2.new2 w2 F.n (F.d - 1) F.n F.d 24 26)
      have HX0_3 := hide HP.out.tx
      have HQ0_3 := hide HP.out.ty
      clear HP
      have c0 := HP1_3.out.c0
      have c1 := HP1_3.out.c1
      go_wp2_with fail
      clear c0 c1
      generalize (w2.alloc (.cells #[.int .i64 F.n, .int .i64 (F.d - 1)] 24)).alloc (.cells #[.int .i64 F.n, .int .i64 F.d] 26) = w3 at HP0_3 HP1_3 HB_3 HX0_3 HQ0_3 ⊢
      generalize w2.heap.size = hx0 at HX0_3 HQ0_3 ⊢
      clear HP0_2 HP1_2 HB_2
      refine (HO1.out _).mono ?_
      rintro e w4 ⟨rfl, hb⟩
      have HP0_4 := hide (HP0_3.out.on hb HP0_3.out.lt)
      have HP1_4 := hide (HP1_3.out.on hb HP1_3.out.lt)
      have HX0_4 := hide (HX0_3.out.on hb HX0_3.out.lt)
      have HQ0_4 := hide (HQ0_3.out.on hb HQ0_3.out.lt)
      have HB_4 := hide (on_tr HB_3.out hb)
      clear hb HP0_3 HP1_3 HX0_3 HQ0_3 HB_3
      have HP0_5 := hide ((HP0_4.out.on ((Below.refl w4.heap.size w4).alloc (Nat.le_refl _) (.cells #[.int .i64 G.n, .int .i64 (G.d - 1)] 24)) HP0_4.out.lt).on ((Below.refl _ _).alloc (Nat.le_refl _) (.cells #[.int .i64 G.n, .int .i64 G.d] 26)) (by have := HP0_4.out.lt; simp; omega))
      have HP1_5 := hide ((HP1_4.out.on ((Below.refl w4.heap.size w4).alloc (Nat.le_refl _) (.cells #[.int .i64 G.n, .int .i64 (G.d - 1)] 24)) HP1_4.out.lt).on ((Below.refl _ _).alloc (Nat.le_refl _) (.cells #[.int .i64 G.n, .int .i64 G.d] 26)) (by have := HP1_4.out.lt; simp; omega))
      have HX0_5 := hide ((HX0_4.out.on ((Below.refl w4.heap.size w4).alloc (Nat.le_refl _) (.cells #[.int .i64 G.n, .int .i64 (G.d - 1)] 24)) HX0_4.out.lt).on ((Below.refl _ _).alloc (Nat.le_refl _) (.cells #[.int .i64 G.n, .int .i64 G.d] 26)) (by have := HX0_4.out.lt; simp; omega))
      have HQ0_5 := hide ((HQ0_4.out.on ((Below.refl w4.heap.size w4).alloc (Nat.le_refl _) (.cells #[.int .i64 G.n, .int .i64 (G.d - 1)] 24)) HQ0_4.out.lt).on ((Below.refl _ _).alloc (Nat.le_refl _) (.cells #[.int .i64 G.n, .int .i64 G.d] 26)) (by have := HQ0_4.out.lt; simp; omega))
      have HB_5 := hide ((HB_4.out.alloc HB_4.out.size (.cells #[.int .i64 G.n, .int .i64 (G.d - 1)] 24)).alloc (by have := HB_4.out.size; simp; omega) (.cells #[.int .i64 G.n, .int .i64 G.d] 26))
      have HP := hide (S2.new2 w4 G.n (G.d - 1) G.n G.d 24 26)
      have HX1_5 := hide HP.out.tx
      have HQ1_5 := hide HP.out.ty
      clear HP
      have c0 := HX0_5.out.c0
      have c1 := HX0_5.out.c1
      have c2 := HX1_5.out.c0
      have c3 := HX1_5.out.c1
      go_wp2_with fail
      clear c0 c1 c2 c3
      generalize (w4.alloc (.cells #[.int .i64 G.n, .int .i64 (G.d - 1)] 24)).alloc (.cells #[.int .i64 G.n, .int .i64 G.d] 26) = w5 at HP0_5 HP1_5 HX0_5 HQ0_5 HB_5 HX1_5 HQ1_5 ⊢
      generalize w4.heap.size = hx1 at HX1_5 HQ1_5 ⊢
      clear HP0_4 HP1_4 HX0_4 HQ0_4 HB_4
      refine (HA.out _).mono ?_
      rintro e w6 ⟨rfl, hb⟩
      have HP0_6 := hide (HP0_5.out.on hb HP0_5.out.lt)
      have HP1_6 := hide (HP1_5.out.on hb HP1_5.out.lt)
      have HX0_6 := hide (HX0_5.out.on hb HX0_5.out.lt)
      have HQ0_6 := hide (HQ0_5.out.on hb HQ0_5.out.lt)
      have HX1_6 := hide (HX1_5.out.on hb HX1_5.out.lt)
      have HQ1_6 := hide (HQ1_5.out.on hb HQ1_5.out.lt)
      have HB_6 := hide (on_tr HB_5.out hb)
      clear hb HP0_5 HP1_5 HX0_5 HQ0_5 HX1_5 HQ1_5 HB_5
      have HP0_7 := hide (HP0_6.out.on ((Below.refl w6.heap.size w6).alloc (Nat.le_refl _) (.cells #[.int .i64 A.n, .int .i64 (A.d - 1)] 24)) HP0_6.out.lt)
      have HP1_7 := hide (HP1_6.out.on ((Below.refl w6.heap.size w6).alloc (Nat.le_refl _) (.cells #[.int .i64 A.n, .int .i64 (A.d - 1)] 24)) HP1_6.out.lt)
      have HX0_7 := hide (HX0_6.out.on ((Below.refl w6.heap.size w6).alloc (Nat.le_refl _) (.cells #[.int .i64 A.n, .int .i64 (A.d - 1)] 24)) HX0_6.out.lt)
      have HQ0_7 := hide (HQ0_6.out.on ((Below.refl w6.heap.size w6).alloc (Nat.le_refl _) (.cells #[.int .i64 A.n, .int .i64 (A.d - 1)] 24)) HQ0_6.out.lt)
      have HX1_7 := hide (HX1_6.out.on ((Below.refl w6.heap.size w6).alloc (Nat.le_refl _) (.cells #[.int .i64 A.n, .int .i64 (A.d - 1)] 24)) HX1_6.out.lt)
      have HQ1_7 := hide (HQ1_6.out.on ((Below.refl w6.heap.size w6).alloc (Nat.le_refl _) (.cells #[.int .i64 A.n, .int .i64 (A.d - 1)] 24)) HQ1_6.out.lt)
      have HB_7 := hide (HB_6.out.alloc HB_6.out.size (.cells #[.int .i64 A.n, .int .i64 (A.d - 1)] 24))
      have HS1_7 := hide (Two.new w6 A.n (A.d - 1) 24)
      have c0 := HS1_7.out.c0
      have c1 := HS1_7.out.c1
      have c2 := HX1_7.out.c0
      have c3 := HX1_7.out.c1
      go_wp2_with fail
      clear c0 c1 c2 c3
      generalize w6.alloc (.cells #[.int .i64 A.n, .int .i64 (A.d - 1)] 24) = w7 at HP0_7 HP1_7 HX0_7 HQ0_7 HX1_7 HQ1_7 HB_7 HS1_7 ⊢
      generalize w6.heap.size = hs1 at HS1_7 ⊢
      clear HP0_6 HP1_6 HX0_6 HQ0_6 HX1_6 HQ1_6 HB_6
      refine (HU.out _).mono ?_
      rintro e w8 ⟨rfl, hb⟩
      have HP0_8 := hide (HP0_7.out.on hb HP0_7.out.lt)
      have HP1_8 := hide (HP1_7.out.on hb HP1_7.out.lt)
      have HX0_8 := hide (HX0_7.out.on hb HX0_7.out.lt)
      have HQ0_8 := hide (HQ0_7.out.on hb HQ0_7.out.lt)
      have HX1_8 := hide (HX1_7.out.on hb HX1_7.out.lt)
      have HQ1_8 := hide (HQ1_7.out.on hb HQ1_7.out.lt)
      have HS1_8 := hide (HS1_7.out.on hb HS1_7.out.lt)
      have HB_8 := hide (on_tr HB_7.out hb)
      clear hb HP0_7 HP1_7 HX0_7 HQ0_7 HX1_7 HQ1_7 HS1_7 HB_7
      have HP0_9 := hide (HP0_8.out.on ((Below.refl w8.heap.size w8).alloc (Nat.le_refl _) (.cells #[.int .i64 U.n, .int .i64 (U.d - 1)] 24)) HP0_8.out.lt)
      have HP1_9 := hide (HP1_8.out.on ((Below.refl w8.heap.size w8).alloc (Nat.le_refl _) (.cells #[.int .i64 U.n, .int .i64 (U.d - 1)] 24)) HP1_8.out.lt)
      have HX0_9 := hide (HX0_8.out.on ((Below.refl w8.heap.size w8).alloc (Nat.le_refl _) (.cells #[.int .i64 U.n, .int .i64 (U.d - 1)] 24)) HX0_8.out.lt)
      have HQ0_9 := hide (HQ0_8.out.on ((Below.refl w8.heap.size w8).alloc (Nat.le_refl _) (.cells #[.int .i64 U.n, .int .i64 (U.d - 1)] 24)) HQ0_8.out.lt)
      have HX1_9 := hide (HX1_8.out.on ((Below.refl w8.heap.size w8).alloc (Nat.le_refl _) (.cells #[.int .i64 U.n, .int .i64 (U.d - 1)] 24)) HX1_8.out.lt)
      have HQ1_9 := hide (HQ1_8.out.on ((Below.refl w8.heap.size w8).alloc (Nat.le_refl _) (.cells #[.int .i64 U.n, .int .i64 (U.d - 1)] 24)) HQ1_8.out.lt)
      have HS1_9 := hide (HS1_8.out.on ((Below.refl w8.heap.size w8).alloc (Nat.le_refl _) (.cells #[.int .i64 U.n, .int .i64 (U.d - 1)] 24)) HS1_8.out.lt)
      have HB_9 := hide (HB_8.out.alloc HB_8.out.size (.cells #[.int .i64 U.n, .int .i64 (U.d - 1)] 24))
      have HU1_9 := hide (Two.new w8 U.n (U.d - 1) 24)
      have c0 := HX0_9.out.c0
      have c1 := HX0_9.out.c1
      have c2 := HX1_9.out.c0
      have c3 := HX1_9.out.c1
      go_wp2_with fail
      clear c0 c1 c2 c3
      generalize w8.alloc (.cells #[.int .i64 U.n, .int .i64 (U.d - 1)] 24) = w9 at HP0_9 HP1_9 HX0_9 HQ0_9 HX1_9 HQ1_9 HS1_9 HB_9 HU1_9 ⊢
      generalize w8.heap.size = hu1 at HU1_9 ⊢
      clear HP0_8 HP1_8 HX0_8 HQ0_8 HX1_8 HQ1_8 HS1_8 HB_8
      refine (HM.out _).mono ?_
      rintro e w10 ⟨rfl, hb⟩
      have HP0_10 := hide (HP0_9.out.on hb HP0_9.out.lt)
      have HP1_10 := hide (HP1_9.out.on hb HP1_9.out.lt)
      have HX0_10 := hide (HX0_9.out.on hb HX0_9.out.lt)
      have HQ0_10 := hide (HQ0_9.out.on hb HQ0_9.out.lt)
      have HX1_10 := hide (HX1_9.out.on hb HX1_9.out.lt)
      have HQ1_10 := hide (HQ1_9.out.on hb HQ1_9.out.lt)
      have HS1_10 := hide (HS1_9.out.on hb HS1_9.out.lt)
      have HU1_10 := hide (HU1_9.out.on hb HU1_9.out.lt)
      have HB_10 := hide (on_tr HB_9.out hb)
      clear hb HP0_9 HP1_9 HX0_9 HQ0_9 HX1_9 HQ1_9 HS1_9 HU1_9 HB_9
      have HP0_11 := hide (HP0_10.out.on ((Below.refl w10.heap.size w10).alloc (Nat.le_refl _) (.cells #[.int .i64 M.n, .int .i64 (M.d - 1)] 24)) HP0_10.out.lt)
      have HP1_11 := hide (HP1_10.out.on ((Below.refl w10.heap.size w10).alloc (Nat.le_refl _) (.cells #[.int .i64 M.n, .int .i64 (M.d - 1)] 24)) HP1_10.out.lt)
      have HX0_11 := hide (HX0_10.out.on ((Below.refl w10.heap.size w10).alloc (Nat.le_refl _) (.cells #[.int .i64 M.n, .int .i64 (M.d - 1)] 24)) HX0_10.out.lt)
      have HQ0_11 := hide (HQ0_10.out.on ((Below.refl w10.heap.size w10).alloc (Nat.le_refl _) (.cells #[.int .i64 M.n, .int .i64 (M.d - 1)] 24)) HQ0_10.out.lt)
      have HX1_11 := hide (HX1_10.out.on ((Below.refl w10.heap.size w10).alloc (Nat.le_refl _) (.cells #[.int .i64 M.n, .int .i64 (M.d - 1)] 24)) HX1_10.out.lt)
      have HQ1_11 := hide (HQ1_10.out.on ((Below.refl w10.heap.size w10).alloc (Nat.le_refl _) (.cells #[.int .i64 M.n, .int .i64 (M.d - 1)] 24)) HQ1_10.out.lt)
      have HS1_11 := hide (HS1_10.out.on ((Below.refl w10.heap.size w10).alloc (Nat.le_refl _) (.cells #[.int .i64 M.n, .int .i64 (M.d - 1)] 24)) HS1_10.out.lt)
      have HU1_11 := hide (HU1_10.out.on ((Below.refl w10.heap.size w10).alloc (Nat.le_refl _) (.cells #[.int .i64 M.n, .int .i64 (M.d - 1)] 24)) HU1_10.out.lt)
      have HB_11 := hide (HB_10.out.alloc HB_10.out.size (.cells #[.int .i64 M.n, .int .i64 (M.d - 1)] 24))
      have HM1_11 := hide (Two.new w10 M.n (M.d - 1) 24)
      have c0 := HM1_11.out.c0
      have c1 := HM1_11.out.c1
      have c2 := HX1_11.out.c0
      have c3 := HX1_11.out.c1
      go_wp2_with fail
      clear c0 c1 c2 c3
      generalize w10.alloc (.cells #[.int .i64 M.n, .int .i64 (M.d - 1)] 24) = w11 at HP0_11 HP1_11 HX0_11 HQ0_11 HX1_11 HQ1_11 HS1_11 HU1_11 HB_11 HM1_11 ⊢
      generalize w10.heap.size = hm1 at HM1_11 ⊢
      clear HP0_10 HP1_10 HX0_10 HQ0_10 HX1_10 HQ1_10 HS1_10 HU1_10 HB_10
      refine (HV.out _).mono ?_
      rintro e w12 ⟨rfl, hb⟩
      have HP0_12 := hide (HP0_11.out.on hb HP0_11.out.lt)
      have HP1_12 := hide (HP1_11.out.on hb HP1_11.out.lt)
      have HX0_12 := hide (HX0_11.out.on hb HX0_11.out.lt)
      have HQ0_12 := hide (HQ0_11.out.on hb HQ0_11.out.lt)
      have HX1_12 := hide (HX1_11.out.on hb HX1_11.out.lt)
      have HQ1_12 := hide (HQ1_11.out.on hb HQ1_11.out.lt)
      have HS1_12 := hide (HS1_11.out.on hb HS1_11.out.lt)
      have HU1_12 := hide (HU1_11.out.on hb HU1_11.out.lt)
      have HM1_12 := hide (HM1_11.out.on hb HM1_11.out.lt)
      have HB_12 := hide (on_tr HB_11.out hb)
      clear hb HP0_11 HP1_11 HX0_11 HQ0_11 HX1_11 HQ1_11 HS1_11 HU1_11 HM1_11 HB_11
      have HP0_13 := hide (HP0_12.out.on ((Below.refl w12.heap.size w12).alloc (Nat.le_refl _) (.cells #[.int .i64 V.n, .int .i64 (V.d - 1)] 24)) HP0_12.out.lt)
      have HP1_13 := hide (HP1_12.out.on ((Below.refl w12.heap.size w12).alloc (Nat.le_refl _) (.cells #[.int .i64 V.n, .int .i64 (V.d - 1)] 24)) HP1_12.out.lt)
      have HX0_13 := hide (HX0_12.out.on ((Below.refl w12.heap.size w12).alloc (Nat.le_refl _) (.cells #[.int .i64 V.n, .int .i64 (V.d - 1)] 24)) HX0_12.out.lt)
      have HQ0_13 := hide (HQ0_12.out.on ((Below.refl w12.heap.size w12).alloc (Nat.le_refl _) (.cells #[.int .i64 V.n, .int .i64 (V.d - 1)] 24)) HQ0_12.out.lt)
      have HX1_13 := hide (HX1_12.out.on ((Below.refl w12.heap.size w12).alloc (Nat.le_refl _) (.cells #[.int .i64 V.n, .int .i64 (V.d - 1)] 24)) HX1_12.out.lt)
      have HQ1_13 := hide (HQ1_12.out.on ((Below.refl w12.heap.size w12).alloc (Nat.le_refl _) (.cells #[.int .i64 V.n, .int .i64 (V.d - 1)] 24)) HQ1_12.out.lt)
      have HS1_13 := hide (HS1_12.out.on ((Below.refl w12.heap.size w12).alloc (Nat.le_refl _) (.cells #[.int .i64 V.n, .int .i64 (V.d - 1)] 24)) HS1_12.out.lt)
      have HU1_13 := hide (HU1_12.out.on ((Below.refl w12.heap.size w12).alloc (Nat.le_refl _) (.cells #[.int .i64 V.n, .int .i64 (V.d - 1)] 24)) HU1_12.out.lt)
      have HM1_13 := hide (HM1_12.out.on ((Below.refl w12.heap.size w12).alloc (Nat.le_refl _) (.cells #[.int .i64 V.n, .int .i64 (V.d - 1)] 24)) HM1_12.out.lt)
      have HB_13 := hide (HB_12.out.alloc HB_12.out.size (.cells #[.int .i64 V.n, .int .i64 (V.d - 1)] 24))
      have HV1_13 := hide (Two.new w12 V.n (V.d - 1) 24)
      go_wp2_with fail
      generalize w12.alloc (.cells #[.int .i64 V.n, .int .i64 (V.d - 1)] 24) = w13 at HP0_13 HP1_13 HX0_13 HQ0_13 HX1_13 HQ1_13 HS1_13 HU1_13 HM1_13 HB_13 HV1_13 ⊢
      generalize w12.heap.size = hv1 at HV1_13 ⊢
      clear HP0_12 HP1_12 HX0_12 HQ0_12 HX1_12 HQ1_12 HS1_12 HU1_12 HM1_12 HB_12
      have HTT := hide (HT.out.on HB_13.out)
      refine (HK.out _ HTT.out).mono ?_
      clear HTT
      rintro e w14 ⟨rfl, hb⟩
      have HP0_14 := hide (HP0_13.out.on hb HP0_13.out.lt)
      have HP1_14 := hide (HP1_13.out.on hb HP1_13.out.lt)
      have HX0_14 := hide (HX0_13.out.on hb HX0_13.out.lt)
      have HQ0_14 := hide (HQ0_13.out.on hb HQ0_13.out.lt)
      have HX1_14 := hide (HX1_13.out.on hb HX1_13.out.lt)
      have HQ1_14 := hide (HQ1_13.out.on hb HQ1_13.out.lt)
      have HS1_14 := hide (HS1_13.out.on hb HS1_13.out.lt)
      have HU1_14 := hide (HU1_13.out.on hb HU1_13.out.lt)
      have HM1_14 := hide (HM1_13.out.on hb HM1_13.out.lt)
      have HV1_14 := hide (HV1_13.out.on hb HV1_13.out.lt)
      have HB_14 := hide (on_tr HB_13.out hb)
      clear hb HP0_13 HP1_13 HX0_13 HQ0_13 HX1_13 HQ1_13 HS1_13 HU1_13 HM1_13 HV1_13 HB_13
      have c0 := HU1_14.out.c0
      have c1 := HU1_14.out.c1
      have c2 := HX0_14.out.c0
      have c3 := HX0_14.out.c1
      have c4 := HX1_14.out.c0
      have c5 := HX1_14.out.c1
      go_wp2_with fail
      clear c0 c1 c2 c3 c4 c5
      refine (HSg.out _).mono ?_
      rintro e w15 ⟨rfl, hb⟩
      have HP0_15 := hide (HP0_14.out.on hb HP0_14.out.lt)
      have HP1_15 := hide (HP1_14.out.on hb HP1_14.out.lt)
      have HX0_15 := hide (HX0_14.out.on hb HX0_14.out.lt)
      have HQ0_15 := hide (HQ0_14.out.on hb HQ0_14.out.lt)
      have HX1_15 := hide (HX1_14.out.on hb HX1_14.out.lt)
      have HQ1_15 := hide (HQ1_14.out.on hb HQ1_14.out.lt)
      have HS1_15 := hide (HS1_14.out.on hb HS1_14.out.lt)
      have HU1_15 := hide (HU1_14.out.on hb HU1_14.out.lt)
      have HM1_15 := hide (HM1_14.out.on hb HM1_14.out.lt)
      have HV1_15 := hide (HV1_14.out.on hb HV1_14.out.lt)
      have HB_15 := hide (on_tr HB_14.out hb)
      clear hb HP0_14 HP1_14 HX0_14 HQ0_14 HX1_14 HQ1_14 HS1_14 HU1_14 HM1_14 HV1_14 HB_14
      have c0 := HV1_15.out.c0
      have c1 := HV1_15.out.c1
      have c2 := HX0_15.out.c0
      have c3 := HX0_15.out.c1
      go_wp2_with fail
      go_ret
      exact ⟨by first | rfl | simp, HB_15.out⟩
    · have hA1 : (A.e == 0) = false := by simpa using hA
      rw [hM] at HM
      obtain rfl := HBM.out hM hG
      have hs : (cmpQ G.n 0 == 0) = false := by simpa [cmpQ_zero] using hG
      clear hA
      have HB_0 := hide (Below.refl w.heap.size w)
      go_enter Tryd.func13, Tryd.ntmps13
      go_wp2_with fail
      have HB_1 := hide (box2_bel w a0 b0 a1 b1 22)
      have HP0_1 := hide (box2_0 w a0 b0 a1 b1 22)
      have HP1_1 := hide (box2_1 w a0 b0 a1 b1 22)
      generalize ((w.alloc (.cells #[.int .i64 a0, .int .i64 b0] 22)).alloc (.cells #[.int .i64 a1, .int .i64 b1] 22)) = w1 at HB_1 HP0_1 HP1_1 ⊢
      clear HB_0
      have c0 := HP0_1.out.c0
      have c1 := HP0_1.out.c1
      go_wp2_with fail
      clear c0 c1
      refine (HO0.out _).mono ?_
      rintro e w2 ⟨rfl, hb⟩
      have HP0_2 := hide (HP0_1.out.on hb HP0_1.out.lt)
      have HP1_2 := hide (HP1_1.out.on hb HP1_1.out.lt)
      have HB_2 := hide (on_tr HB_1.out hb)
      clear hb HP0_1 HP1_1 HB_1
      have HP0_3 := hide ((HP0_2.out.on ((Below.refl w2.heap.size w2).alloc (Nat.le_refl _) (.cells #[.int .i64 F.n, .int .i64 (F.d - 1)] 24)) HP0_2.out.lt).on ((Below.refl _ _).alloc (Nat.le_refl _) (.cells #[.int .i64 F.n, .int .i64 F.d] 26)) (by have := HP0_2.out.lt; simp; omega))
      have HP1_3 := hide ((HP1_2.out.on ((Below.refl w2.heap.size w2).alloc (Nat.le_refl _) (.cells #[.int .i64 F.n, .int .i64 (F.d - 1)] 24)) HP1_2.out.lt).on ((Below.refl _ _).alloc (Nat.le_refl _) (.cells #[.int .i64 F.n, .int .i64 F.d] 26)) (by have := HP1_2.out.lt; simp; omega))
      have HB_3 := hide ((HB_2.out.alloc HB_2.out.size (.cells #[.int .i64 F.n, .int .i64 (F.d - 1)] 24)).alloc (by have := HB_2.out.size; simp; omega) (.cells #[.int .i64 F.n, .int .i64 F.d] 26))
      have HP := hide (S2.new2 w2 F.n (F.d - 1) F.n F.d 24 26)
      have HX0_3 := hide HP.out.tx
      have HQ0_3 := hide HP.out.ty
      clear HP
      have c0 := HP1_3.out.c0
      have c1 := HP1_3.out.c1
      go_wp2_with fail
      clear c0 c1
      generalize (w2.alloc (.cells #[.int .i64 F.n, .int .i64 (F.d - 1)] 24)).alloc (.cells #[.int .i64 F.n, .int .i64 F.d] 26) = w3 at HP0_3 HP1_3 HB_3 HX0_3 HQ0_3 ⊢
      generalize w2.heap.size = hx0 at HX0_3 HQ0_3 ⊢
      clear HP0_2 HP1_2 HB_2
      refine (HO1.out _).mono ?_
      rintro e w4 ⟨rfl, hb⟩
      have HP0_4 := hide (HP0_3.out.on hb HP0_3.out.lt)
      have HP1_4 := hide (HP1_3.out.on hb HP1_3.out.lt)
      have HX0_4 := hide (HX0_3.out.on hb HX0_3.out.lt)
      have HQ0_4 := hide (HQ0_3.out.on hb HQ0_3.out.lt)
      have HB_4 := hide (on_tr HB_3.out hb)
      clear hb HP0_3 HP1_3 HX0_3 HQ0_3 HB_3
      have HP0_5 := hide ((HP0_4.out.on ((Below.refl w4.heap.size w4).alloc (Nat.le_refl _) (.cells #[.int .i64 G.n, .int .i64 (G.d - 1)] 24)) HP0_4.out.lt).on ((Below.refl _ _).alloc (Nat.le_refl _) (.cells #[.int .i64 G.n, .int .i64 G.d] 26)) (by have := HP0_4.out.lt; simp; omega))
      have HP1_5 := hide ((HP1_4.out.on ((Below.refl w4.heap.size w4).alloc (Nat.le_refl _) (.cells #[.int .i64 G.n, .int .i64 (G.d - 1)] 24)) HP1_4.out.lt).on ((Below.refl _ _).alloc (Nat.le_refl _) (.cells #[.int .i64 G.n, .int .i64 G.d] 26)) (by have := HP1_4.out.lt; simp; omega))
      have HX0_5 := hide ((HX0_4.out.on ((Below.refl w4.heap.size w4).alloc (Nat.le_refl _) (.cells #[.int .i64 G.n, .int .i64 (G.d - 1)] 24)) HX0_4.out.lt).on ((Below.refl _ _).alloc (Nat.le_refl _) (.cells #[.int .i64 G.n, .int .i64 G.d] 26)) (by have := HX0_4.out.lt; simp; omega))
      have HQ0_5 := hide ((HQ0_4.out.on ((Below.refl w4.heap.size w4).alloc (Nat.le_refl _) (.cells #[.int .i64 G.n, .int .i64 (G.d - 1)] 24)) HQ0_4.out.lt).on ((Below.refl _ _).alloc (Nat.le_refl _) (.cells #[.int .i64 G.n, .int .i64 G.d] 26)) (by have := HQ0_4.out.lt; simp; omega))
      have HB_5 := hide ((HB_4.out.alloc HB_4.out.size (.cells #[.int .i64 G.n, .int .i64 (G.d - 1)] 24)).alloc (by have := HB_4.out.size; simp; omega) (.cells #[.int .i64 G.n, .int .i64 G.d] 26))
      have HP := hide (S2.new2 w4 G.n (G.d - 1) G.n G.d 24 26)
      have HX1_5 := hide HP.out.tx
      have HQ1_5 := hide HP.out.ty
      clear HP
      have c0 := HX0_5.out.c0
      have c1 := HX0_5.out.c1
      have c2 := HX1_5.out.c0
      have c3 := HX1_5.out.c1
      go_wp2_with fail
      clear c0 c1 c2 c3
      generalize (w4.alloc (.cells #[.int .i64 G.n, .int .i64 (G.d - 1)] 24)).alloc (.cells #[.int .i64 G.n, .int .i64 G.d] 26) = w5 at HP0_5 HP1_5 HX0_5 HQ0_5 HB_5 HX1_5 HQ1_5 ⊢
      generalize w4.heap.size = hx1 at HX1_5 HQ1_5 ⊢
      clear HP0_4 HP1_4 HX0_4 HQ0_4 HB_4
      refine (HA.out _).mono ?_
      rintro e w6 ⟨rfl, hb⟩
      have HP0_6 := hide (HP0_5.out.on hb HP0_5.out.lt)
      have HP1_6 := hide (HP1_5.out.on hb HP1_5.out.lt)
      have HX0_6 := hide (HX0_5.out.on hb HX0_5.out.lt)
      have HQ0_6 := hide (HQ0_5.out.on hb HQ0_5.out.lt)
      have HX1_6 := hide (HX1_5.out.on hb HX1_5.out.lt)
      have HQ1_6 := hide (HQ1_5.out.on hb HQ1_5.out.lt)
      have HB_6 := hide (on_tr HB_5.out hb)
      clear hb HP0_5 HP1_5 HX0_5 HQ0_5 HX1_5 HQ1_5 HB_5
      have HP0_7 := hide (HP0_6.out.on ((Below.refl w6.heap.size w6).alloc (Nat.le_refl _) (.cells #[.int .i64 A.n, .int .i64 (A.d - 1)] 24)) HP0_6.out.lt)
      have HP1_7 := hide (HP1_6.out.on ((Below.refl w6.heap.size w6).alloc (Nat.le_refl _) (.cells #[.int .i64 A.n, .int .i64 (A.d - 1)] 24)) HP1_6.out.lt)
      have HX0_7 := hide (HX0_6.out.on ((Below.refl w6.heap.size w6).alloc (Nat.le_refl _) (.cells #[.int .i64 A.n, .int .i64 (A.d - 1)] 24)) HX0_6.out.lt)
      have HQ0_7 := hide (HQ0_6.out.on ((Below.refl w6.heap.size w6).alloc (Nat.le_refl _) (.cells #[.int .i64 A.n, .int .i64 (A.d - 1)] 24)) HQ0_6.out.lt)
      have HX1_7 := hide (HX1_6.out.on ((Below.refl w6.heap.size w6).alloc (Nat.le_refl _) (.cells #[.int .i64 A.n, .int .i64 (A.d - 1)] 24)) HX1_6.out.lt)
      have HQ1_7 := hide (HQ1_6.out.on ((Below.refl w6.heap.size w6).alloc (Nat.le_refl _) (.cells #[.int .i64 A.n, .int .i64 (A.d - 1)] 24)) HQ1_6.out.lt)
      have HB_7 := hide (HB_6.out.alloc HB_6.out.size (.cells #[.int .i64 A.n, .int .i64 (A.d - 1)] 24))
      have HS1_7 := hide (Two.new w6 A.n (A.d - 1) 24)
      have c0 := HS1_7.out.c0
      have c1 := HS1_7.out.c1
      have c2 := HX1_7.out.c0
      have c3 := HX1_7.out.c1
      go_wp2_with fail
      clear c0 c1 c2 c3
      generalize w6.alloc (.cells #[.int .i64 A.n, .int .i64 (A.d - 1)] 24) = w7 at HP0_7 HP1_7 HX0_7 HQ0_7 HX1_7 HQ1_7 HB_7 HS1_7 ⊢
      generalize w6.heap.size = hs1 at HS1_7 ⊢
      clear HP0_6 HP1_6 HX0_6 HQ0_6 HX1_6 HQ1_6 HB_6
      refine (HU.out _).mono ?_
      rintro e w8 ⟨rfl, hb⟩
      have HP0_8 := hide (HP0_7.out.on hb HP0_7.out.lt)
      have HP1_8 := hide (HP1_7.out.on hb HP1_7.out.lt)
      have HX0_8 := hide (HX0_7.out.on hb HX0_7.out.lt)
      have HQ0_8 := hide (HQ0_7.out.on hb HQ0_7.out.lt)
      have HX1_8 := hide (HX1_7.out.on hb HX1_7.out.lt)
      have HQ1_8 := hide (HQ1_7.out.on hb HQ1_7.out.lt)
      have HS1_8 := hide (HS1_7.out.on hb HS1_7.out.lt)
      have HB_8 := hide (on_tr HB_7.out hb)
      clear hb HP0_7 HP1_7 HX0_7 HQ0_7 HX1_7 HQ1_7 HS1_7 HB_7
      have HP0_9 := hide (HP0_8.out.on ((Below.refl w8.heap.size w8).alloc (Nat.le_refl _) (.cells #[.int .i64 U.n, .int .i64 (U.d - 1)] 24)) HP0_8.out.lt)
      have HP1_9 := hide (HP1_8.out.on ((Below.refl w8.heap.size w8).alloc (Nat.le_refl _) (.cells #[.int .i64 U.n, .int .i64 (U.d - 1)] 24)) HP1_8.out.lt)
      have HX0_9 := hide (HX0_8.out.on ((Below.refl w8.heap.size w8).alloc (Nat.le_refl _) (.cells #[.int .i64 U.n, .int .i64 (U.d - 1)] 24)) HX0_8.out.lt)
      have HQ0_9 := hide (HQ0_8.out.on ((Below.refl w8.heap.size w8).alloc (Nat.le_refl _) (.cells #[.int .i64 U.n, .int .i64 (U.d - 1)] 24)) HQ0_8.out.lt)
      have HX1_9 := hide (HX1_8.out.on ((Below.refl w8.heap.size w8).alloc (Nat.le_refl _) (.cells #[.int .i64 U.n, .int .i64 (U.d - 1)] 24)) HX1_8.out.lt)
      have HQ1_9 := hide (HQ1_8.out.on ((Below.refl w8.heap.size w8).alloc (Nat.le_refl _) (.cells #[.int .i64 U.n, .int .i64 (U.d - 1)] 24)) HQ1_8.out.lt)
      have HS1_9 := hide (HS1_8.out.on ((Below.refl w8.heap.size w8).alloc (Nat.le_refl _) (.cells #[.int .i64 U.n, .int .i64 (U.d - 1)] 24)) HS1_8.out.lt)
      have HB_9 := hide (HB_8.out.alloc HB_8.out.size (.cells #[.int .i64 U.n, .int .i64 (U.d - 1)] 24))
      have HU1_9 := hide (Two.new w8 U.n (U.d - 1) 24)
      have c0 := HX0_9.out.c0
      have c1 := HX0_9.out.c1
      have c2 := HX1_9.out.c0
      have c3 := HX1_9.out.c1
      go_wp2_with fail
      clear c0 c1 c2 c3
      generalize w8.alloc (.cells #[.int .i64 U.n, .int .i64 (U.d - 1)] 24) = w9 at HP0_9 HP1_9 HX0_9 HQ0_9 HX1_9 HQ1_9 HS1_9 HB_9 HU1_9 ⊢
      generalize w8.heap.size = hu1 at HU1_9 ⊢
      clear HP0_8 HP1_8 HX0_8 HQ0_8 HX1_8 HQ1_8 HS1_8 HB_8
      refine (HM.out _).mono ?_
      rintro e w10 ⟨rfl, hb⟩
      have HP0_10 := hide (HP0_9.out.on hb HP0_9.out.lt)
      have HP1_10 := hide (HP1_9.out.on hb HP1_9.out.lt)
      have HX0_10 := hide (HX0_9.out.on hb HX0_9.out.lt)
      have HQ0_10 := hide (HQ0_9.out.on hb HQ0_9.out.lt)
      have HX1_10 := hide (HX1_9.out.on hb HX1_9.out.lt)
      have HQ1_10 := hide (HQ1_9.out.on hb HQ1_9.out.lt)
      have HS1_10 := hide (HS1_9.out.on hb HS1_9.out.lt)
      have HU1_10 := hide (HU1_9.out.on hb HU1_9.out.lt)
      have HB_10 := hide (on_tr HB_9.out hb)
      clear hb HP0_9 HP1_9 HX0_9 HQ0_9 HX1_9 HQ1_9 HS1_9 HU1_9 HB_9
      have HP0_11 := hide (HP0_10.out.on ((Below.refl w10.heap.size w10).alloc (Nat.le_refl _) (.cells #[.int .i64 M.n, .int .i64 (M.d - 1)] 24)) HP0_10.out.lt)
      have HP1_11 := hide (HP1_10.out.on ((Below.refl w10.heap.size w10).alloc (Nat.le_refl _) (.cells #[.int .i64 M.n, .int .i64 (M.d - 1)] 24)) HP1_10.out.lt)
      have HX0_11 := hide (HX0_10.out.on ((Below.refl w10.heap.size w10).alloc (Nat.le_refl _) (.cells #[.int .i64 M.n, .int .i64 (M.d - 1)] 24)) HX0_10.out.lt)
      have HQ0_11 := hide (HQ0_10.out.on ((Below.refl w10.heap.size w10).alloc (Nat.le_refl _) (.cells #[.int .i64 M.n, .int .i64 (M.d - 1)] 24)) HQ0_10.out.lt)
      have HX1_11 := hide (HX1_10.out.on ((Below.refl w10.heap.size w10).alloc (Nat.le_refl _) (.cells #[.int .i64 M.n, .int .i64 (M.d - 1)] 24)) HX1_10.out.lt)
      have HQ1_11 := hide (HQ1_10.out.on ((Below.refl w10.heap.size w10).alloc (Nat.le_refl _) (.cells #[.int .i64 M.n, .int .i64 (M.d - 1)] 24)) HQ1_10.out.lt)
      have HS1_11 := hide (HS1_10.out.on ((Below.refl w10.heap.size w10).alloc (Nat.le_refl _) (.cells #[.int .i64 M.n, .int .i64 (M.d - 1)] 24)) HS1_10.out.lt)
      have HU1_11 := hide (HU1_10.out.on ((Below.refl w10.heap.size w10).alloc (Nat.le_refl _) (.cells #[.int .i64 M.n, .int .i64 (M.d - 1)] 24)) HU1_10.out.lt)
      have HB_11 := hide (HB_10.out.alloc HB_10.out.size (.cells #[.int .i64 M.n, .int .i64 (M.d - 1)] 24))
      have HM1_11 := hide (Two.new w10 M.n (M.d - 1) 24)
      have c0 := HM1_11.out.c0
      have c1 := HM1_11.out.c1
      have c2 := HX1_11.out.c0
      have c3 := HX1_11.out.c1
      go_wp2_with fail
      clear c0 c1 c2 c3
      generalize w10.alloc (.cells #[.int .i64 M.n, .int .i64 (M.d - 1)] 24) = w11 at HP0_11 HP1_11 HX0_11 HQ0_11 HX1_11 HQ1_11 HS1_11 HU1_11 HB_11 HM1_11 ⊢
      generalize w10.heap.size = hm1 at HM1_11 ⊢
      clear HP0_10 HP1_10 HX0_10 HQ0_10 HX1_10 HQ1_10 HS1_10 HU1_10 HB_10
      refine (HV.out _).mono ?_
      rintro e w12 ⟨rfl, hb⟩
      have HP0_12 := hide (HP0_11.out.on hb HP0_11.out.lt)
      have HP1_12 := hide (HP1_11.out.on hb HP1_11.out.lt)
      have HX0_12 := hide (HX0_11.out.on hb HX0_11.out.lt)
      have HQ0_12 := hide (HQ0_11.out.on hb HQ0_11.out.lt)
      have HX1_12 := hide (HX1_11.out.on hb HX1_11.out.lt)
      have HQ1_12 := hide (HQ1_11.out.on hb HQ1_11.out.lt)
      have HS1_12 := hide (HS1_11.out.on hb HS1_11.out.lt)
      have HU1_12 := hide (HU1_11.out.on hb HU1_11.out.lt)
      have HM1_12 := hide (HM1_11.out.on hb HM1_11.out.lt)
      have HB_12 := hide (on_tr HB_11.out hb)
      clear hb HP0_11 HP1_11 HX0_11 HQ0_11 HX1_11 HQ1_11 HS1_11 HU1_11 HM1_11 HB_11
      have HP0_13 := hide (HP0_12.out.on ((Below.refl w12.heap.size w12).alloc (Nat.le_refl _) (.cells #[.int .i64 F.n, .int .i64 (F.d - 1)] 24)) HP0_12.out.lt)
      have HP1_13 := hide (HP1_12.out.on ((Below.refl w12.heap.size w12).alloc (Nat.le_refl _) (.cells #[.int .i64 F.n, .int .i64 (F.d - 1)] 24)) HP1_12.out.lt)
      have HX0_13 := hide (HX0_12.out.on ((Below.refl w12.heap.size w12).alloc (Nat.le_refl _) (.cells #[.int .i64 F.n, .int .i64 (F.d - 1)] 24)) HX0_12.out.lt)
      have HQ0_13 := hide (HQ0_12.out.on ((Below.refl w12.heap.size w12).alloc (Nat.le_refl _) (.cells #[.int .i64 F.n, .int .i64 (F.d - 1)] 24)) HQ0_12.out.lt)
      have HX1_13 := hide (HX1_12.out.on ((Below.refl w12.heap.size w12).alloc (Nat.le_refl _) (.cells #[.int .i64 F.n, .int .i64 (F.d - 1)] 24)) HX1_12.out.lt)
      have HQ1_13 := hide (HQ1_12.out.on ((Below.refl w12.heap.size w12).alloc (Nat.le_refl _) (.cells #[.int .i64 F.n, .int .i64 (F.d - 1)] 24)) HQ1_12.out.lt)
      have HS1_13 := hide (HS1_12.out.on ((Below.refl w12.heap.size w12).alloc (Nat.le_refl _) (.cells #[.int .i64 F.n, .int .i64 (F.d - 1)] 24)) HS1_12.out.lt)
      have HU1_13 := hide (HU1_12.out.on ((Below.refl w12.heap.size w12).alloc (Nat.le_refl _) (.cells #[.int .i64 F.n, .int .i64 (F.d - 1)] 24)) HU1_12.out.lt)
      have HM1_13 := hide (HM1_12.out.on ((Below.refl w12.heap.size w12).alloc (Nat.le_refl _) (.cells #[.int .i64 F.n, .int .i64 (F.d - 1)] 24)) HM1_12.out.lt)
      have HB_13 := hide (HB_12.out.alloc HB_12.out.size (.cells #[.int .i64 F.n, .int .i64 (F.d - 1)] 24))
      have HV1_13 := hide (Two.new w12 F.n (F.d - 1) 24)
      go_wp2_with fail
      generalize w12.alloc (.cells #[.int .i64 F.n, .int .i64 (F.d - 1)] 24) = w13 at HP0_13 HP1_13 HX0_13 HQ0_13 HX1_13 HQ1_13 HS1_13 HU1_13 HM1_13 HB_13 HV1_13 ⊢
      generalize w12.heap.size = hv1 at HV1_13 ⊢
      clear HP0_12 HP1_12 HX0_12 HQ0_12 HX1_12 HQ1_12 HS1_12 HU1_12 HM1_12 HB_12
      have HTT := hide (HT.out.on HB_13.out)
      refine (HK.out _ HTT.out).mono ?_
      clear HTT
      rintro e w14 ⟨rfl, hb⟩
      have HP0_14 := hide (HP0_13.out.on hb HP0_13.out.lt)
      have HP1_14 := hide (HP1_13.out.on hb HP1_13.out.lt)
      have HX0_14 := hide (HX0_13.out.on hb HX0_13.out.lt)
      have HQ0_14 := hide (HQ0_13.out.on hb HQ0_13.out.lt)
      have HX1_14 := hide (HX1_13.out.on hb HX1_13.out.lt)
      have HQ1_14 := hide (HQ1_13.out.on hb HQ1_13.out.lt)
      have HS1_14 := hide (HS1_13.out.on hb HS1_13.out.lt)
      have HU1_14 := hide (HU1_13.out.on hb HU1_13.out.lt)
      have HM1_14 := hide (HM1_13.out.on hb HM1_13.out.lt)
      have HV1_14 := hide (HV1_13.out.on hb HV1_13.out.lt)
      have HB_14 := hide (on_tr HB_13.out hb)
      clear hb HP0_13 HP1_13 HX0_13 HQ0_13 HX1_13 HQ1_13 HS1_13 HU1_13 HM1_13 HV1_13 HB_13
      have c0 := HU1_14.out.c0
      have c1 := HU1_14.out.c1
      have c2 := HX0_14.out.c0
      have c3 := HX0_14.out.c1
      have c4 := HX1_14.out.c0
      have c5 := HX1_14.out.c1
      go_wp2_with fail
      clear c0 c1 c2 c3 c4 c5
      refine (HSg.out _).mono ?_
      rintro e w15 ⟨rfl, hb⟩
      have HP0_15 := hide (HP0_14.out.on hb HP0_14.out.lt)
      have HP1_15 := hide (HP1_14.out.on hb HP1_14.out.lt)
      have HX0_15 := hide (HX0_14.out.on hb HX0_14.out.lt)
      have HQ0_15 := hide (HQ0_14.out.on hb HQ0_14.out.lt)
      have HX1_15 := hide (HX1_14.out.on hb HX1_14.out.lt)
      have HQ1_15 := hide (HQ1_14.out.on hb HQ1_14.out.lt)
      have HS1_15 := hide (HS1_14.out.on hb HS1_14.out.lt)
      have HU1_15 := hide (HU1_14.out.on hb HU1_14.out.lt)
      have HM1_15 := hide (HM1_14.out.on hb HM1_14.out.lt)
      have HV1_15 := hide (HV1_14.out.on hb HV1_14.out.lt)
      have HB_15 := hide (on_tr HB_14.out hb)
      clear hb HP0_14 HP1_14 HX0_14 HQ0_14 HX1_14 HQ1_14 HS1_14 HU1_14 HM1_14 HV1_14 HB_14
      have c0 := HV1_15.out.c0
      have c1 := HV1_15.out.c1
      have c2 := HX0_15.out.c0
      have c3 := HX0_15.out.c1
      go_wp2_with fail
      go_ret
      exact ⟨by first | rfl | simp, HB_15.out⟩
  · have hA1 : (A.e == 0) = false := by simpa using hA
    have hM2 : (M.e != 0) = true := by simpa using hM
    clear hA
    have HB_0 := hide (Below.refl w.heap.size w)
    go_enter Tryd.func13, Tryd.ntmps13
    go_wp2_with fail
    have HB_1 := hide (box2_bel w a0 b0 a1 b1 22)
    have HP0_1 := hide (box2_0 w a0 b0 a1 b1 22)
    have HP1_1 := hide (box2_1 w a0 b0 a1 b1 22)
    generalize ((w.alloc (.cells #[.int .i64 a0, .int .i64 b0] 22)).alloc (.cells #[.int .i64 a1, .int .i64 b1] 22)) = w1 at HB_1 HP0_1 HP1_1 ⊢
    clear HB_0
    have c0 := HP0_1.out.c0
    have c1 := HP0_1.out.c1
    go_wp2_with fail
    clear c0 c1
    refine (HO0.out _).mono ?_
    rintro e w2 ⟨rfl, hb⟩
    have HP0_2 := hide (HP0_1.out.on hb HP0_1.out.lt)
    have HP1_2 := hide (HP1_1.out.on hb HP1_1.out.lt)
    have HB_2 := hide (on_tr HB_1.out hb)
    clear hb HP0_1 HP1_1 HB_1
    have HP0_3 := hide ((HP0_2.out.on ((Below.refl w2.heap.size w2).alloc (Nat.le_refl _) (.cells #[.int .i64 F.n, .int .i64 (F.d - 1)] 24)) HP0_2.out.lt).on ((Below.refl _ _).alloc (Nat.le_refl _) (.cells #[.int .i64 F.n, .int .i64 F.d] 26)) (by have := HP0_2.out.lt; simp; omega))
    have HP1_3 := hide ((HP1_2.out.on ((Below.refl w2.heap.size w2).alloc (Nat.le_refl _) (.cells #[.int .i64 F.n, .int .i64 (F.d - 1)] 24)) HP1_2.out.lt).on ((Below.refl _ _).alloc (Nat.le_refl _) (.cells #[.int .i64 F.n, .int .i64 F.d] 26)) (by have := HP1_2.out.lt; simp; omega))
    have HB_3 := hide ((HB_2.out.alloc HB_2.out.size (.cells #[.int .i64 F.n, .int .i64 (F.d - 1)] 24)).alloc (by have := HB_2.out.size; simp; omega) (.cells #[.int .i64 F.n, .int .i64 F.d] 26))
    have HP := hide (S2.new2 w2 F.n (F.d - 1) F.n F.d 24 26)
    have HX0_3 := hide HP.out.tx
    have HQ0_3 := hide HP.out.ty
    clear HP
    have c0 := HP1_3.out.c0
    have c1 := HP1_3.out.c1
    go_wp2_with fail
    clear c0 c1
    generalize (w2.alloc (.cells #[.int .i64 F.n, .int .i64 (F.d - 1)] 24)).alloc (.cells #[.int .i64 F.n, .int .i64 F.d] 26) = w3 at HP0_3 HP1_3 HB_3 HX0_3 HQ0_3 ⊢
    generalize w2.heap.size = hx0 at HX0_3 HQ0_3 ⊢
    clear HP0_2 HP1_2 HB_2
    refine (HO1.out _).mono ?_
    rintro e w4 ⟨rfl, hb⟩
    have HP0_4 := hide (HP0_3.out.on hb HP0_3.out.lt)
    have HP1_4 := hide (HP1_3.out.on hb HP1_3.out.lt)
    have HX0_4 := hide (HX0_3.out.on hb HX0_3.out.lt)
    have HQ0_4 := hide (HQ0_3.out.on hb HQ0_3.out.lt)
    have HB_4 := hide (on_tr HB_3.out hb)
    clear hb HP0_3 HP1_3 HX0_3 HQ0_3 HB_3
    have HP0_5 := hide ((HP0_4.out.on ((Below.refl w4.heap.size w4).alloc (Nat.le_refl _) (.cells #[.int .i64 G.n, .int .i64 (G.d - 1)] 24)) HP0_4.out.lt).on ((Below.refl _ _).alloc (Nat.le_refl _) (.cells #[.int .i64 G.n, .int .i64 G.d] 26)) (by have := HP0_4.out.lt; simp; omega))
    have HP1_5 := hide ((HP1_4.out.on ((Below.refl w4.heap.size w4).alloc (Nat.le_refl _) (.cells #[.int .i64 G.n, .int .i64 (G.d - 1)] 24)) HP1_4.out.lt).on ((Below.refl _ _).alloc (Nat.le_refl _) (.cells #[.int .i64 G.n, .int .i64 G.d] 26)) (by have := HP1_4.out.lt; simp; omega))
    have HX0_5 := hide ((HX0_4.out.on ((Below.refl w4.heap.size w4).alloc (Nat.le_refl _) (.cells #[.int .i64 G.n, .int .i64 (G.d - 1)] 24)) HX0_4.out.lt).on ((Below.refl _ _).alloc (Nat.le_refl _) (.cells #[.int .i64 G.n, .int .i64 G.d] 26)) (by have := HX0_4.out.lt; simp; omega))
    have HQ0_5 := hide ((HQ0_4.out.on ((Below.refl w4.heap.size w4).alloc (Nat.le_refl _) (.cells #[.int .i64 G.n, .int .i64 (G.d - 1)] 24)) HQ0_4.out.lt).on ((Below.refl _ _).alloc (Nat.le_refl _) (.cells #[.int .i64 G.n, .int .i64 G.d] 26)) (by have := HQ0_4.out.lt; simp; omega))
    have HB_5 := hide ((HB_4.out.alloc HB_4.out.size (.cells #[.int .i64 G.n, .int .i64 (G.d - 1)] 24)).alloc (by have := HB_4.out.size; simp; omega) (.cells #[.int .i64 G.n, .int .i64 G.d] 26))
    have HP := hide (S2.new2 w4 G.n (G.d - 1) G.n G.d 24 26)
    have HX1_5 := hide HP.out.tx
    have HQ1_5 := hide HP.out.ty
    clear HP
    have c0 := HX0_5.out.c0
    have c1 := HX0_5.out.c1
    have c2 := HX1_5.out.c0
    have c3 := HX1_5.out.c1
    go_wp2_with fail
    clear c0 c1 c2 c3
    generalize (w4.alloc (.cells #[.int .i64 G.n, .int .i64 (G.d - 1)] 24)).alloc (.cells #[.int .i64 G.n, .int .i64 G.d] 26) = w5 at HP0_5 HP1_5 HX0_5 HQ0_5 HB_5 HX1_5 HQ1_5 ⊢
    generalize w4.heap.size = hx1 at HX1_5 HQ1_5 ⊢
    clear HP0_4 HP1_4 HX0_4 HQ0_4 HB_4
    refine (HA.out _).mono ?_
    rintro e w6 ⟨rfl, hb⟩
    have HP0_6 := hide (HP0_5.out.on hb HP0_5.out.lt)
    have HP1_6 := hide (HP1_5.out.on hb HP1_5.out.lt)
    have HX0_6 := hide (HX0_5.out.on hb HX0_5.out.lt)
    have HQ0_6 := hide (HQ0_5.out.on hb HQ0_5.out.lt)
    have HX1_6 := hide (HX1_5.out.on hb HX1_5.out.lt)
    have HQ1_6 := hide (HQ1_5.out.on hb HQ1_5.out.lt)
    have HB_6 := hide (on_tr HB_5.out hb)
    clear hb HP0_5 HP1_5 HX0_5 HQ0_5 HX1_5 HQ1_5 HB_5
    have HP0_7 := hide (HP0_6.out.on ((Below.refl w6.heap.size w6).alloc (Nat.le_refl _) (.cells #[.int .i64 A.n, .int .i64 (A.d - 1)] 24)) HP0_6.out.lt)
    have HP1_7 := hide (HP1_6.out.on ((Below.refl w6.heap.size w6).alloc (Nat.le_refl _) (.cells #[.int .i64 A.n, .int .i64 (A.d - 1)] 24)) HP1_6.out.lt)
    have HX0_7 := hide (HX0_6.out.on ((Below.refl w6.heap.size w6).alloc (Nat.le_refl _) (.cells #[.int .i64 A.n, .int .i64 (A.d - 1)] 24)) HX0_6.out.lt)
    have HQ0_7 := hide (HQ0_6.out.on ((Below.refl w6.heap.size w6).alloc (Nat.le_refl _) (.cells #[.int .i64 A.n, .int .i64 (A.d - 1)] 24)) HQ0_6.out.lt)
    have HX1_7 := hide (HX1_6.out.on ((Below.refl w6.heap.size w6).alloc (Nat.le_refl _) (.cells #[.int .i64 A.n, .int .i64 (A.d - 1)] 24)) HX1_6.out.lt)
    have HQ1_7 := hide (HQ1_6.out.on ((Below.refl w6.heap.size w6).alloc (Nat.le_refl _) (.cells #[.int .i64 A.n, .int .i64 (A.d - 1)] 24)) HQ1_6.out.lt)
    have HB_7 := hide (HB_6.out.alloc HB_6.out.size (.cells #[.int .i64 A.n, .int .i64 (A.d - 1)] 24))
    have HS1_7 := hide (Two.new w6 A.n (A.d - 1) 24)
    have c0 := HS1_7.out.c0
    have c1 := HS1_7.out.c1
    have c2 := HX1_7.out.c0
    have c3 := HX1_7.out.c1
    go_wp2_with fail
    clear c0 c1 c2 c3
    generalize w6.alloc (.cells #[.int .i64 A.n, .int .i64 (A.d - 1)] 24) = w7 at HP0_7 HP1_7 HX0_7 HQ0_7 HX1_7 HQ1_7 HB_7 HS1_7 ⊢
    generalize w6.heap.size = hs1 at HS1_7 ⊢
    clear HP0_6 HP1_6 HX0_6 HQ0_6 HX1_6 HQ1_6 HB_6
    refine (HU.out _).mono ?_
    rintro e w8 ⟨rfl, hb⟩
    have HP0_8 := hide (HP0_7.out.on hb HP0_7.out.lt)
    have HP1_8 := hide (HP1_7.out.on hb HP1_7.out.lt)
    have HX0_8 := hide (HX0_7.out.on hb HX0_7.out.lt)
    have HQ0_8 := hide (HQ0_7.out.on hb HQ0_7.out.lt)
    have HX1_8 := hide (HX1_7.out.on hb HX1_7.out.lt)
    have HQ1_8 := hide (HQ1_7.out.on hb HQ1_7.out.lt)
    have HS1_8 := hide (HS1_7.out.on hb HS1_7.out.lt)
    have HB_8 := hide (on_tr HB_7.out hb)
    clear hb HP0_7 HP1_7 HX0_7 HQ0_7 HX1_7 HQ1_7 HS1_7 HB_7
    have HP0_9 := hide (HP0_8.out.on ((Below.refl w8.heap.size w8).alloc (Nat.le_refl _) (.cells #[.int .i64 U.n, .int .i64 (U.d - 1)] 24)) HP0_8.out.lt)
    have HP1_9 := hide (HP1_8.out.on ((Below.refl w8.heap.size w8).alloc (Nat.le_refl _) (.cells #[.int .i64 U.n, .int .i64 (U.d - 1)] 24)) HP1_8.out.lt)
    have HX0_9 := hide (HX0_8.out.on ((Below.refl w8.heap.size w8).alloc (Nat.le_refl _) (.cells #[.int .i64 U.n, .int .i64 (U.d - 1)] 24)) HX0_8.out.lt)
    have HQ0_9 := hide (HQ0_8.out.on ((Below.refl w8.heap.size w8).alloc (Nat.le_refl _) (.cells #[.int .i64 U.n, .int .i64 (U.d - 1)] 24)) HQ0_8.out.lt)
    have HX1_9 := hide (HX1_8.out.on ((Below.refl w8.heap.size w8).alloc (Nat.le_refl _) (.cells #[.int .i64 U.n, .int .i64 (U.d - 1)] 24)) HX1_8.out.lt)
    have HQ1_9 := hide (HQ1_8.out.on ((Below.refl w8.heap.size w8).alloc (Nat.le_refl _) (.cells #[.int .i64 U.n, .int .i64 (U.d - 1)] 24)) HQ1_8.out.lt)
    have HS1_9 := hide (HS1_8.out.on ((Below.refl w8.heap.size w8).alloc (Nat.le_refl _) (.cells #[.int .i64 U.n, .int .i64 (U.d - 1)] 24)) HS1_8.out.lt)
    have HB_9 := hide (HB_8.out.alloc HB_8.out.size (.cells #[.int .i64 U.n, .int .i64 (U.d - 1)] 24))
    have HU1_9 := hide (Two.new w8 U.n (U.d - 1) 24)
    have c0 := HX0_9.out.c0
    have c1 := HX0_9.out.c1
    have c2 := HX1_9.out.c0
    have c3 := HX1_9.out.c1
    go_wp2_with fail
    clear c0 c1 c2 c3
    generalize w8.alloc (.cells #[.int .i64 U.n, .int .i64 (U.d - 1)] 24) = w9 at HP0_9 HP1_9 HX0_9 HQ0_9 HX1_9 HQ1_9 HS1_9 HB_9 HU1_9 ⊢
    generalize w8.heap.size = hu1 at HU1_9 ⊢
    clear HP0_8 HP1_8 HX0_8 HQ0_8 HX1_8 HQ1_8 HS1_8 HB_8
    refine (HM.out _).mono ?_
    rintro e w10 ⟨rfl, hb⟩
    have HP0_10 := hide (HP0_9.out.on hb HP0_9.out.lt)
    have HP1_10 := hide (HP1_9.out.on hb HP1_9.out.lt)
    have HX0_10 := hide (HX0_9.out.on hb HX0_9.out.lt)
    have HQ0_10 := hide (HQ0_9.out.on hb HQ0_9.out.lt)
    have HX1_10 := hide (HX1_9.out.on hb HX1_9.out.lt)
    have HQ1_10 := hide (HQ1_9.out.on hb HQ1_9.out.lt)
    have HS1_10 := hide (HS1_9.out.on hb HS1_9.out.lt)
    have HU1_10 := hide (HU1_9.out.on hb HU1_9.out.lt)
    have HB_10 := hide (on_tr HB_9.out hb)
    clear hb HP0_9 HP1_9 HX0_9 HQ0_9 HX1_9 HQ1_9 HS1_9 HU1_9 HB_9
    have HP0_11 := hide (HP0_10.out.on ((Below.refl w10.heap.size w10).alloc (Nat.le_refl _) (.cells #[.int .i64 M.n, .int .i64 (M.d - 1)] 24)) HP0_10.out.lt)
    have HP1_11 := hide (HP1_10.out.on ((Below.refl w10.heap.size w10).alloc (Nat.le_refl _) (.cells #[.int .i64 M.n, .int .i64 (M.d - 1)] 24)) HP1_10.out.lt)
    have HX0_11 := hide (HX0_10.out.on ((Below.refl w10.heap.size w10).alloc (Nat.le_refl _) (.cells #[.int .i64 M.n, .int .i64 (M.d - 1)] 24)) HX0_10.out.lt)
    have HQ0_11 := hide (HQ0_10.out.on ((Below.refl w10.heap.size w10).alloc (Nat.le_refl _) (.cells #[.int .i64 M.n, .int .i64 (M.d - 1)] 24)) HQ0_10.out.lt)
    have HX1_11 := hide (HX1_10.out.on ((Below.refl w10.heap.size w10).alloc (Nat.le_refl _) (.cells #[.int .i64 M.n, .int .i64 (M.d - 1)] 24)) HX1_10.out.lt)
    have HQ1_11 := hide (HQ1_10.out.on ((Below.refl w10.heap.size w10).alloc (Nat.le_refl _) (.cells #[.int .i64 M.n, .int .i64 (M.d - 1)] 24)) HQ1_10.out.lt)
    have HS1_11 := hide (HS1_10.out.on ((Below.refl w10.heap.size w10).alloc (Nat.le_refl _) (.cells #[.int .i64 M.n, .int .i64 (M.d - 1)] 24)) HS1_10.out.lt)
    have HU1_11 := hide (HU1_10.out.on ((Below.refl w10.heap.size w10).alloc (Nat.le_refl _) (.cells #[.int .i64 M.n, .int .i64 (M.d - 1)] 24)) HU1_10.out.lt)
    have HB_11 := hide (HB_10.out.alloc HB_10.out.size (.cells #[.int .i64 M.n, .int .i64 (M.d - 1)] 24))
    have HM1_11 := hide (Two.new w10 M.n (M.d - 1) 24)
    have c0 := HM1_11.out.c0
    have c1 := HM1_11.out.c1
    have c2 := HX1_11.out.c0
    have c3 := HX1_11.out.c1
    go_wp2_with fail
    clear c0 c1 c2 c3
    generalize w10.alloc (.cells #[.int .i64 M.n, .int .i64 (M.d - 1)] 24) = w11 at HP0_11 HP1_11 HX0_11 HQ0_11 HX1_11 HQ1_11 HS1_11 HU1_11 HB_11 HM1_11 ⊢
    generalize w10.heap.size = hm1 at HM1_11 ⊢
    clear HP0_10 HP1_10 HX0_10 HQ0_10 HX1_10 HQ1_10 HS1_10 HU1_10 HB_10
    refine (HV.out _).mono ?_
    rintro e w12 ⟨rfl, hb⟩
    have HP0_12 := hide (HP0_11.out.on hb HP0_11.out.lt)
    have HP1_12 := hide (HP1_11.out.on hb HP1_11.out.lt)
    have HX0_12 := hide (HX0_11.out.on hb HX0_11.out.lt)
    have HQ0_12 := hide (HQ0_11.out.on hb HQ0_11.out.lt)
    have HX1_12 := hide (HX1_11.out.on hb HX1_11.out.lt)
    have HQ1_12 := hide (HQ1_11.out.on hb HQ1_11.out.lt)
    have HS1_12 := hide (HS1_11.out.on hb HS1_11.out.lt)
    have HU1_12 := hide (HU1_11.out.on hb HU1_11.out.lt)
    have HM1_12 := hide (HM1_11.out.on hb HM1_11.out.lt)
    have HB_12 := hide (on_tr HB_11.out hb)
    clear hb HP0_11 HP1_11 HX0_11 HQ0_11 HX1_11 HQ1_11 HS1_11 HU1_11 HM1_11 HB_11
    have HP0_13 := hide (HP0_12.out.on ((Below.refl w12.heap.size w12).alloc (Nat.le_refl _) (.cells #[.int .i64 V.n, .int .i64 (V.d - 1)] 24)) HP0_12.out.lt)
    have HP1_13 := hide (HP1_12.out.on ((Below.refl w12.heap.size w12).alloc (Nat.le_refl _) (.cells #[.int .i64 V.n, .int .i64 (V.d - 1)] 24)) HP1_12.out.lt)
    have HX0_13 := hide (HX0_12.out.on ((Below.refl w12.heap.size w12).alloc (Nat.le_refl _) (.cells #[.int .i64 V.n, .int .i64 (V.d - 1)] 24)) HX0_12.out.lt)
    have HQ0_13 := hide (HQ0_12.out.on ((Below.refl w12.heap.size w12).alloc (Nat.le_refl _) (.cells #[.int .i64 V.n, .int .i64 (V.d - 1)] 24)) HQ0_12.out.lt)
    have HX1_13 := hide (HX1_12.out.on ((Below.refl w12.heap.size w12).alloc (Nat.le_refl _) (.cells #[.int .i64 V.n, .int .i64 (V.d - 1)] 24)) HX1_12.out.lt)
    have HQ1_13 := hide (HQ1_12.out.on ((Below.refl w12.heap.size w12).alloc (Nat.le_refl _) (.cells #[.int .i64 V.n, .int .i64 (V.d - 1)] 24)) HQ1_12.out.lt)
    have HS1_13 := hide (HS1_12.out.on ((Below.refl w12.heap.size w12).alloc (Nat.le_refl _) (.cells #[.int .i64 V.n, .int .i64 (V.d - 1)] 24)) HS1_12.out.lt)
    have HU1_13 := hide (HU1_12.out.on ((Below.refl w12.heap.size w12).alloc (Nat.le_refl _) (.cells #[.int .i64 V.n, .int .i64 (V.d - 1)] 24)) HU1_12.out.lt)
    have HM1_13 := hide (HM1_12.out.on ((Below.refl w12.heap.size w12).alloc (Nat.le_refl _) (.cells #[.int .i64 V.n, .int .i64 (V.d - 1)] 24)) HM1_12.out.lt)
    have HB_13 := hide (HB_12.out.alloc HB_12.out.size (.cells #[.int .i64 V.n, .int .i64 (V.d - 1)] 24))
    have HV1_13 := hide (Two.new w12 V.n (V.d - 1) 24)
    go_wp2_with fail
    generalize w12.alloc (.cells #[.int .i64 V.n, .int .i64 (V.d - 1)] 24) = w13 at HP0_13 HP1_13 HX0_13 HQ0_13 HX1_13 HQ1_13 HS1_13 HU1_13 HM1_13 HB_13 HV1_13 ⊢
    generalize w12.heap.size = hv1 at HV1_13 ⊢
    clear HP0_12 HP1_12 HX0_12 HQ0_12 HX1_12 HQ1_12 HS1_12 HU1_12 HM1_12 HB_12
    have HTT := hide (HT.out.on HB_13.out)
    refine (HK.out _ HTT.out).mono ?_
    clear HTT
    rintro e w14 ⟨rfl, hb⟩
    have HP0_14 := hide (HP0_13.out.on hb HP0_13.out.lt)
    have HP1_14 := hide (HP1_13.out.on hb HP1_13.out.lt)
    have HX0_14 := hide (HX0_13.out.on hb HX0_13.out.lt)
    have HQ0_14 := hide (HQ0_13.out.on hb HQ0_13.out.lt)
    have HX1_14 := hide (HX1_13.out.on hb HX1_13.out.lt)
    have HQ1_14 := hide (HQ1_13.out.on hb HQ1_13.out.lt)
    have HS1_14 := hide (HS1_13.out.on hb HS1_13.out.lt)
    have HU1_14 := hide (HU1_13.out.on hb HU1_13.out.lt)
    have HM1_14 := hide (HM1_13.out.on hb HM1_13.out.lt)
    have HV1_14 := hide (HV1_13.out.on hb HV1_13.out.lt)
    have HB_14 := hide (on_tr HB_13.out hb)
    clear hb HP0_13 HP1_13 HX0_13 HQ0_13 HX1_13 HQ1_13 HS1_13 HU1_13 HM1_13 HV1_13 HB_13
    have c0 := HU1_14.out.c0
    have c1 := HU1_14.out.c1
    have c2 := HX0_14.out.c0
    have c3 := HX0_14.out.c1
    have c4 := HX1_14.out.c0
    have c5 := HX1_14.out.c1
    go_wp2_with fail
    go_ret
    exact ⟨by first | rfl | simp, HB_14.out⟩

end Go.Proofs.YtfappkhohddcjaaDoor
