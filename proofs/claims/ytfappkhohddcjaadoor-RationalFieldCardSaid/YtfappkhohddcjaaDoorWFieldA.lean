/- The walk of RationalField, in part. -/
import Derived.Test.YtfappkhohddcjaaDoorAddF
import Derived.Test.YtfappkhohddcjaaDoorKeep
import Derived.Test.YtfappkhohddcjaaDoorKn01
namespace Go.Proofs.YtfappkhohddcjaaDoor
open Go.RowKit

set_option maxRecDepth 100000 in
set_option maxHeartbeats 16000000 in
theorem field_A (a0 b0 a1 b1 a2 b2 : Int) (kB0 : ¬ (addF (ofF (clN a1) (clD b1)) (ofF (clN a2) (clD b2))).e = 0) (w : World) (ht : Tab w) :
    Calls Tryd.prog 8 #[.agg #[.int .i64 a0, .int .i64 b0], .agg #[.int .i64 a1, .int .i64 b1], .agg #[.int .i64 a2, .int .i64 b2]] w fun e w' => e = .returned (.bool true) ∧ Below w.heap.size w w' := by
  have HT := hide ht
  have HO0 := hide (fun W => of_any a0 b0 W)
  have HLF := hide (show Low (ofF (clN a0) (clD b0)).n (ofF (clN a0) (clD b0)).d from (ofF_val (cl_low a0 b0)).2.2)
  generalize ofF (clN a0) (clD b0) = F at HO0 HLF 
  have HO1 := hide (fun W => of_any a1 b1 W)
  have HLG := hide (show Low (ofF (clN a1) (clD b1)).n (ofF (clN a1) (clD b1)).d from (ofF_val (cl_low a1 b1)).2.2)
  generalize ofF (clN a1) (clD b1) = G at HO1 HLG kB0
  have HO2 := hide (fun W => of_any a2 b2 W)
  have HLK := hide (show Low (ofF (clN a2) (clD b2)).n (ofF (clN a2) (clD b2)).d from (ofF_val (cl_low a2 b2)).2.2)
  generalize ofF (clN a2) (clD b2) = K at HO2 HLK kB0
  have HK := hide (fun W (h : Tab W) => known_any W h)
  have hA2 : ofF (G.n * F.d + F.n * G.d) (G.d * F.d) = ofF (F.n * G.d + G.n * F.d) (F.d * G.d) := by rw [Int.add_comm, Int.mul_comm G.d F.d]
  have hM2 : ofF (G.n * F.n) (G.d * F.d) = ofF (F.n * G.n) (F.d * G.d) := by rw [Int.mul_comm G.n, Int.mul_comm G.d]
  have HA := hide (fun W => Add_any F.n F.d G.n G.d W HLF.out.q HLG.out.q)
  have HA2 := hide (fun W => Add_any G.n G.d F.n F.d W HLG.out.q HLF.out.q)
  have HM := hide (fun W => Mul_any F.n F.d G.n G.d W HLF.out.q HLG.out.q)
  have HM2 := hide (fun W => Mul_any G.n G.d F.n F.d W HLG.out.q HLF.out.q)
  have HBc := hide (fun W => Add_any G.n G.d K.n K.d W HLG.out.q HLK.out.q)
  have HXc := hide (fun W => Mul_any F.n F.d K.n K.d W HLF.out.q HLK.out.q)
  rw [hA2] at HA2
  rw [hM2] at HM2
  have lA := ofF_low0 (F.n * G.d + G.n * F.d) (F.d * G.d)
  have lM := ofF_low0 (F.n * G.n) (F.d * G.d)
  have lB := ofF_low0 (G.n * K.d + K.n * G.d) (G.d * K.d)
  have lX := ofF_low0 (F.n * K.n) (F.d * K.d)
  have hLR := fun A B hA hB => add_assoc_ofF (A := A) (B := B) HLF.out HLG.out HLK.out hA hB
  have hPS := fun B M X hB hM hX => distrib_ofF (B := B) (M := M) (X := X) HLF.out HLG.out HLK.out hB hM hX
  obtain ⟨A, hA⟩ : ∃ A, A = ofF (F.n * G.d + G.n * F.d) (F.d * G.d) := ⟨_, rfl⟩
  obtain ⟨B, hB⟩ : ∃ B, B = ofF (G.n * K.d + K.n * G.d) (G.d * K.d) := ⟨_, rfl⟩
  obtain ⟨M, hM⟩ : ∃ M, M = ofF (F.n * G.n) (F.d * G.d) := ⟨_, rfl⟩
  obtain ⟨X, hX⟩ : ∃ X, X = ofF (F.n * K.n) (F.d * K.d) := ⟨_, rfl⟩
  have hLR := hLR A B hA hB
  have hPS := hPS B M X hB hM hX
  have kB : ¬ B.e = 0 := by rw [hB]; exact kB0
  rw [← hA] at HA HA2 lA
  rw [← hM] at HM HM2 lM
  rw [← hB] at HBc lB
  rw [← hX] at HXc lX
  have HLc := hide (fun W => Add_any A.n A.d K.n K.d W lA.q HLK.out.q)
  have HRc := hide (fun W => Add_any F.n F.d B.n B.d W HLF.out.q lB.q)
  have HPc := hide (fun W => Mul_any F.n F.d B.n B.d W HLF.out.q lB.q)
  have HSc := hide (fun W => Add_any M.n M.d X.n X.d W lM.q lX.q)
  generalize ofF (A.n * K.d + K.n * A.d) (A.d * K.d) = L at HLc hLR
  generalize ofF (F.n * B.d + B.n * F.d) (F.d * B.d) = R at HRc hLR
  generalize ofF (F.n * B.n) (F.d * B.d) = P at HPc hPS
  generalize ofF (M.n * X.d + X.n * M.d) (M.d * X.d) = S at HSc hPS
  have HLR := hide hLR
  have HPS := hide hPS
  clear hLR hPS hA hB hM hX lA lB lM lX hA2 hM2 ht kB0
  have hB := kB
  clear kB
  by_cases hA : A.e = 0
  · have hB1 : (B.e == 0) = false := by simpa using hB
    have hB2 : (B.e != 0) = true := by simpa using hB
    rw [hA] at HA HA2
    clear hB hA
    have HB_0 := hide (Below.refl w.heap.size w)
    go_enter Tryd.func8, Tryd.ntmps8
    go_wp2_with fail
    have HB_1 := hide (box3_bel w a0 b0 a1 b1 a2 b2 22)
    have HP0_1 := hide (box3_0 w a0 b0 a1 b1 a2 b2 22)
    have HP1_1 := hide (box3_1 w a0 b0 a1 b1 a2 b2 22)
    have HP2_1 := hide (box3_2 w a0 b0 a1 b1 a2 b2 22)
    generalize (((w.alloc (.cells #[.int .i64 a0, .int .i64 b0] 22)).alloc (.cells #[.int .i64 a1, .int .i64 b1] 22)).alloc (.cells #[.int .i64 a2, .int .i64 b2] 22)) = w1 at HB_1 HP0_1 HP1_1 HP2_1 ⊢
    clear HB_0
    have c0 := HP0_1.out.c0
    have c1 := HP0_1.out.c1
    go_wp2_with fail
    clear c0 c1
    refine (HO0.out _).mono ?_
    rintro e w2 ⟨rfl, hb⟩
    have HP0_2 := hide (HP0_1.out.on hb HP0_1.out.lt)
    have HP1_2 := hide (HP1_1.out.on hb HP1_1.out.lt)
    have HP2_2 := hide (HP2_1.out.on hb HP2_1.out.lt)
    have HB_2 := hide (on_tr HB_1.out hb)
    clear hb HP0_1 HP1_1 HP2_1 HB_1
    have HP0_3 := hide ((HP0_2.out.on ((Below.refl w2.heap.size w2).alloc (Nat.le_refl _) (.cells #[.int .i64 F.n, .int .i64 (F.d - 1)] 24)) HP0_2.out.lt).on ((Below.refl _ _).alloc (Nat.le_refl _) (.cells #[.int .i64 F.n, .int .i64 F.d] 26)) (by have := HP0_2.out.lt; simp; omega))
    have HP1_3 := hide ((HP1_2.out.on ((Below.refl w2.heap.size w2).alloc (Nat.le_refl _) (.cells #[.int .i64 F.n, .int .i64 (F.d - 1)] 24)) HP1_2.out.lt).on ((Below.refl _ _).alloc (Nat.le_refl _) (.cells #[.int .i64 F.n, .int .i64 F.d] 26)) (by have := HP1_2.out.lt; simp; omega))
    have HP2_3 := hide ((HP2_2.out.on ((Below.refl w2.heap.size w2).alloc (Nat.le_refl _) (.cells #[.int .i64 F.n, .int .i64 (F.d - 1)] 24)) HP2_2.out.lt).on ((Below.refl _ _).alloc (Nat.le_refl _) (.cells #[.int .i64 F.n, .int .i64 F.d] 26)) (by have := HP2_2.out.lt; simp; omega))
    have HB_3 := hide ((HB_2.out.alloc HB_2.out.size (.cells #[.int .i64 F.n, .int .i64 (F.d - 1)] 24)).alloc (by have := HB_2.out.size; simp; omega) (.cells #[.int .i64 F.n, .int .i64 F.d] 26))
    have HP := hide (S2.new2 w2 F.n (F.d - 1) F.n F.d 24 26)
    have HX0_3 := hide HP.out.tx
    have HQ0_3 := hide HP.out.ty
    clear HP
    have c0 := HP1_3.out.c0
    have c1 := HP1_3.out.c1
    go_wp2_with fail
    clear c0 c1
    generalize (w2.alloc (.cells #[.int .i64 F.n, .int .i64 (F.d - 1)] 24)).alloc (.cells #[.int .i64 F.n, .int .i64 F.d] 26) = w3 at HP0_3 HP1_3 HP2_3 HB_3 HX0_3 HQ0_3 ⊢
    generalize w2.heap.size = hx0 at HX0_3 HQ0_3 ⊢
    clear HP0_2 HP1_2 HP2_2 HB_2
    refine (HO1.out _).mono ?_
    rintro e w4 ⟨rfl, hb⟩
    have HP0_4 := hide (HP0_3.out.on hb HP0_3.out.lt)
    have HP1_4 := hide (HP1_3.out.on hb HP1_3.out.lt)
    have HP2_4 := hide (HP2_3.out.on hb HP2_3.out.lt)
    have HX0_4 := hide (HX0_3.out.on hb HX0_3.out.lt)
    have HQ0_4 := hide (HQ0_3.out.on hb HQ0_3.out.lt)
    have HB_4 := hide (on_tr HB_3.out hb)
    clear hb HP0_3 HP1_3 HP2_3 HX0_3 HQ0_3 HB_3
    have HP0_5 := hide ((HP0_4.out.on ((Below.refl w4.heap.size w4).alloc (Nat.le_refl _) (.cells #[.int .i64 G.n, .int .i64 (G.d - 1)] 24)) HP0_4.out.lt).on ((Below.refl _ _).alloc (Nat.le_refl _) (.cells #[.int .i64 G.n, .int .i64 G.d] 26)) (by have := HP0_4.out.lt; simp; omega))
    have HP1_5 := hide ((HP1_4.out.on ((Below.refl w4.heap.size w4).alloc (Nat.le_refl _) (.cells #[.int .i64 G.n, .int .i64 (G.d - 1)] 24)) HP1_4.out.lt).on ((Below.refl _ _).alloc (Nat.le_refl _) (.cells #[.int .i64 G.n, .int .i64 G.d] 26)) (by have := HP1_4.out.lt; simp; omega))
    have HP2_5 := hide ((HP2_4.out.on ((Below.refl w4.heap.size w4).alloc (Nat.le_refl _) (.cells #[.int .i64 G.n, .int .i64 (G.d - 1)] 24)) HP2_4.out.lt).on ((Below.refl _ _).alloc (Nat.le_refl _) (.cells #[.int .i64 G.n, .int .i64 G.d] 26)) (by have := HP2_4.out.lt; simp; omega))
    have HX0_5 := hide ((HX0_4.out.on ((Below.refl w4.heap.size w4).alloc (Nat.le_refl _) (.cells #[.int .i64 G.n, .int .i64 (G.d - 1)] 24)) HX0_4.out.lt).on ((Below.refl _ _).alloc (Nat.le_refl _) (.cells #[.int .i64 G.n, .int .i64 G.d] 26)) (by have := HX0_4.out.lt; simp; omega))
    have HQ0_5 := hide ((HQ0_4.out.on ((Below.refl w4.heap.size w4).alloc (Nat.le_refl _) (.cells #[.int .i64 G.n, .int .i64 (G.d - 1)] 24)) HQ0_4.out.lt).on ((Below.refl _ _).alloc (Nat.le_refl _) (.cells #[.int .i64 G.n, .int .i64 G.d] 26)) (by have := HQ0_4.out.lt; simp; omega))
    have HB_5 := hide ((HB_4.out.alloc HB_4.out.size (.cells #[.int .i64 G.n, .int .i64 (G.d - 1)] 24)).alloc (by have := HB_4.out.size; simp; omega) (.cells #[.int .i64 G.n, .int .i64 G.d] 26))
    have HP := hide (S2.new2 w4 G.n (G.d - 1) G.n G.d 24 26)
    have HX1_5 := hide HP.out.tx
    have HQ1_5 := hide HP.out.ty
    clear HP
    have c0 := HP2_5.out.c0
    have c1 := HP2_5.out.c1
    go_wp2_with fail
    clear c0 c1
    generalize (w4.alloc (.cells #[.int .i64 G.n, .int .i64 (G.d - 1)] 24)).alloc (.cells #[.int .i64 G.n, .int .i64 G.d] 26) = w5 at HP0_5 HP1_5 HP2_5 HX0_5 HQ0_5 HB_5 HX1_5 HQ1_5 ⊢
    generalize w4.heap.size = hx1 at HX1_5 HQ1_5 ⊢
    clear HP0_4 HP1_4 HP2_4 HX0_4 HQ0_4 HB_4
    refine (HO2.out _).mono ?_
    rintro e w6 ⟨rfl, hb⟩
    have HP0_6 := hide (HP0_5.out.on hb HP0_5.out.lt)
    have HP1_6 := hide (HP1_5.out.on hb HP1_5.out.lt)
    have HP2_6 := hide (HP2_5.out.on hb HP2_5.out.lt)
    have HX0_6 := hide (HX0_5.out.on hb HX0_5.out.lt)
    have HQ0_6 := hide (HQ0_5.out.on hb HQ0_5.out.lt)
    have HX1_6 := hide (HX1_5.out.on hb HX1_5.out.lt)
    have HQ1_6 := hide (HQ1_5.out.on hb HQ1_5.out.lt)
    have HB_6 := hide (on_tr HB_5.out hb)
    clear hb HP0_5 HP1_5 HP2_5 HX0_5 HQ0_5 HX1_5 HQ1_5 HB_5
    have HP0_7 := hide ((HP0_6.out.on ((Below.refl w6.heap.size w6).alloc (Nat.le_refl _) (.cells #[.int .i64 K.n, .int .i64 (K.d - 1)] 24)) HP0_6.out.lt).on ((Below.refl _ _).alloc (Nat.le_refl _) (.cells #[.int .i64 K.n, .int .i64 K.d] 26)) (by have := HP0_6.out.lt; simp; omega))
    have HP1_7 := hide ((HP1_6.out.on ((Below.refl w6.heap.size w6).alloc (Nat.le_refl _) (.cells #[.int .i64 K.n, .int .i64 (K.d - 1)] 24)) HP1_6.out.lt).on ((Below.refl _ _).alloc (Nat.le_refl _) (.cells #[.int .i64 K.n, .int .i64 K.d] 26)) (by have := HP1_6.out.lt; simp; omega))
    have HP2_7 := hide ((HP2_6.out.on ((Below.refl w6.heap.size w6).alloc (Nat.le_refl _) (.cells #[.int .i64 K.n, .int .i64 (K.d - 1)] 24)) HP2_6.out.lt).on ((Below.refl _ _).alloc (Nat.le_refl _) (.cells #[.int .i64 K.n, .int .i64 K.d] 26)) (by have := HP2_6.out.lt; simp; omega))
    have HX0_7 := hide ((HX0_6.out.on ((Below.refl w6.heap.size w6).alloc (Nat.le_refl _) (.cells #[.int .i64 K.n, .int .i64 (K.d - 1)] 24)) HX0_6.out.lt).on ((Below.refl _ _).alloc (Nat.le_refl _) (.cells #[.int .i64 K.n, .int .i64 K.d] 26)) (by have := HX0_6.out.lt; simp; omega))
    have HQ0_7 := hide ((HQ0_6.out.on ((Below.refl w6.heap.size w6).alloc (Nat.le_refl _) (.cells #[.int .i64 K.n, .int .i64 (K.d - 1)] 24)) HQ0_6.out.lt).on ((Below.refl _ _).alloc (Nat.le_refl _) (.cells #[.int .i64 K.n, .int .i64 K.d] 26)) (by have := HQ0_6.out.lt; simp; omega))
    have HX1_7 := hide ((HX1_6.out.on ((Below.refl w6.heap.size w6).alloc (Nat.le_refl _) (.cells #[.int .i64 K.n, .int .i64 (K.d - 1)] 24)) HX1_6.out.lt).on ((Below.refl _ _).alloc (Nat.le_refl _) (.cells #[.int .i64 K.n, .int .i64 K.d] 26)) (by have := HX1_6.out.lt; simp; omega))
    have HQ1_7 := hide ((HQ1_6.out.on ((Below.refl w6.heap.size w6).alloc (Nat.le_refl _) (.cells #[.int .i64 K.n, .int .i64 (K.d - 1)] 24)) HQ1_6.out.lt).on ((Below.refl _ _).alloc (Nat.le_refl _) (.cells #[.int .i64 K.n, .int .i64 K.d] 26)) (by have := HQ1_6.out.lt; simp; omega))
    have HB_7 := hide ((HB_6.out.alloc HB_6.out.size (.cells #[.int .i64 K.n, .int .i64 (K.d - 1)] 24)).alloc (by have := HB_6.out.size; simp; omega) (.cells #[.int .i64 K.n, .int .i64 K.d] 26))
    have HP := hide (S2.new2 w6 K.n (K.d - 1) K.n K.d 24 26)
    have HX2_7 := hide HP.out.tx
    have HQ2_7 := hide HP.out.ty
    clear HP
    have c0 := HX0_7.out.c0
    have c1 := HX0_7.out.c1
    have c2 := HX1_7.out.c0
    have c3 := HX1_7.out.c1
    go_wp2_with fail
    clear c0 c1 c2 c3
    generalize (w6.alloc (.cells #[.int .i64 K.n, .int .i64 (K.d - 1)] 24)).alloc (.cells #[.int .i64 K.n, .int .i64 K.d] 26) = w7 at HP0_7 HP1_7 HP2_7 HX0_7 HQ0_7 HX1_7 HQ1_7 HB_7 HX2_7 HQ2_7 ⊢
    generalize w6.heap.size = hx2 at HX2_7 HQ2_7 ⊢
    clear HP0_6 HP1_6 HP2_6 HX0_6 HQ0_6 HX1_6 HQ1_6 HB_6
    refine (HA.out _).mono ?_
    rintro e w8 ⟨rfl, hb⟩
    have HP0_8 := hide (HP0_7.out.on hb HP0_7.out.lt)
    have HP1_8 := hide (HP1_7.out.on hb HP1_7.out.lt)
    have HP2_8 := hide (HP2_7.out.on hb HP2_7.out.lt)
    have HX0_8 := hide (HX0_7.out.on hb HX0_7.out.lt)
    have HQ0_8 := hide (HQ0_7.out.on hb HQ0_7.out.lt)
    have HX1_8 := hide (HX1_7.out.on hb HX1_7.out.lt)
    have HQ1_8 := hide (HQ1_7.out.on hb HQ1_7.out.lt)
    have HX2_8 := hide (HX2_7.out.on hb HX2_7.out.lt)
    have HQ2_8 := hide (HQ2_7.out.on hb HQ2_7.out.lt)
    have HB_8 := hide (on_tr HB_7.out hb)
    clear hb HP0_7 HP1_7 HP2_7 HX0_7 HQ0_7 HX1_7 HQ1_7 HX2_7 HQ2_7 HB_7
    have HP0_9 := hide (HP0_8.out.on ((Below.refl w8.heap.size w8).alloc (Nat.le_refl _) (.cells #[.int .i64 A.n, .int .i64 (A.d - 1)] 24)) HP0_8.out.lt)
    have HP1_9 := hide (HP1_8.out.on ((Below.refl w8.heap.size w8).alloc (Nat.le_refl _) (.cells #[.int .i64 A.n, .int .i64 (A.d - 1)] 24)) HP1_8.out.lt)
    have HP2_9 := hide (HP2_8.out.on ((Below.refl w8.heap.size w8).alloc (Nat.le_refl _) (.cells #[.int .i64 A.n, .int .i64 (A.d - 1)] 24)) HP2_8.out.lt)
    have HX0_9 := hide (HX0_8.out.on ((Below.refl w8.heap.size w8).alloc (Nat.le_refl _) (.cells #[.int .i64 A.n, .int .i64 (A.d - 1)] 24)) HX0_8.out.lt)
    have HQ0_9 := hide (HQ0_8.out.on ((Below.refl w8.heap.size w8).alloc (Nat.le_refl _) (.cells #[.int .i64 A.n, .int .i64 (A.d - 1)] 24)) HQ0_8.out.lt)
    have HX1_9 := hide (HX1_8.out.on ((Below.refl w8.heap.size w8).alloc (Nat.le_refl _) (.cells #[.int .i64 A.n, .int .i64 (A.d - 1)] 24)) HX1_8.out.lt)
    have HQ1_9 := hide (HQ1_8.out.on ((Below.refl w8.heap.size w8).alloc (Nat.le_refl _) (.cells #[.int .i64 A.n, .int .i64 (A.d - 1)] 24)) HQ1_8.out.lt)
    have HX2_9 := hide (HX2_8.out.on ((Below.refl w8.heap.size w8).alloc (Nat.le_refl _) (.cells #[.int .i64 A.n, .int .i64 (A.d - 1)] 24)) HX2_8.out.lt)
    have HQ2_9 := hide (HQ2_8.out.on ((Below.refl w8.heap.size w8).alloc (Nat.le_refl _) (.cells #[.int .i64 A.n, .int .i64 (A.d - 1)] 24)) HQ2_8.out.lt)
    have HB_9 := hide (HB_8.out.alloc HB_8.out.size (.cells #[.int .i64 A.n, .int .i64 (A.d - 1)] 24))
    have HXY_9 := hide (Two.new w8 A.n (A.d - 1) 24)
    have c0 := HX1_9.out.c0
    have c1 := HX1_9.out.c1
    have c2 := HX0_9.out.c0
    have c3 := HX0_9.out.c1
    go_wp2_with fail
    clear c0 c1 c2 c3
    generalize w8.alloc (.cells #[.int .i64 A.n, .int .i64 (A.d - 1)] 24) = w9 at HP0_9 HP1_9 HP2_9 HX0_9 HQ0_9 HX1_9 HQ1_9 HX2_9 HQ2_9 HB_9 HXY_9 ⊢
    generalize w8.heap.size = hxy at HXY_9 ⊢
    clear HP0_8 HP1_8 HP2_8 HX0_8 HQ0_8 HX1_8 HQ1_8 HX2_8 HQ2_8 HB_8
    refine (HA2.out _).mono ?_
    rintro e w10 ⟨rfl, hb⟩
    have HP0_10 := hide (HP0_9.out.on hb HP0_9.out.lt)
    have HP1_10 := hide (HP1_9.out.on hb HP1_9.out.lt)
    have HP2_10 := hide (HP2_9.out.on hb HP2_9.out.lt)
    have HX0_10 := hide (HX0_9.out.on hb HX0_9.out.lt)
    have HQ0_10 := hide (HQ0_9.out.on hb HQ0_9.out.lt)
    have HX1_10 := hide (HX1_9.out.on hb HX1_9.out.lt)
    have HQ1_10 := hide (HQ1_9.out.on hb HQ1_9.out.lt)
    have HX2_10 := hide (HX2_9.out.on hb HX2_9.out.lt)
    have HQ2_10 := hide (HQ2_9.out.on hb HQ2_9.out.lt)
    have HXY_10 := hide (HXY_9.out.on hb HXY_9.out.lt)
    have HB_10 := hide (on_tr HB_9.out hb)
    clear hb HP0_9 HP1_9 HP2_9 HX0_9 HQ0_9 HX1_9 HQ1_9 HX2_9 HQ2_9 HXY_9 HB_9
    have HP0_11 := hide (HP0_10.out.on ((Below.refl w10.heap.size w10).alloc (Nat.le_refl _) (.cells #[.int .i64 A.n, .int .i64 (A.d - 1)] 24)) HP0_10.out.lt)
    have HP1_11 := hide (HP1_10.out.on ((Below.refl w10.heap.size w10).alloc (Nat.le_refl _) (.cells #[.int .i64 A.n, .int .i64 (A.d - 1)] 24)) HP1_10.out.lt)
    have HP2_11 := hide (HP2_10.out.on ((Below.refl w10.heap.size w10).alloc (Nat.le_refl _) (.cells #[.int .i64 A.n, .int .i64 (A.d - 1)] 24)) HP2_10.out.lt)
    have HX0_11 := hide (HX0_10.out.on ((Below.refl w10.heap.size w10).alloc (Nat.le_refl _) (.cells #[.int .i64 A.n, .int .i64 (A.d - 1)] 24)) HX0_10.out.lt)
    have HQ0_11 := hide (HQ0_10.out.on ((Below.refl w10.heap.size w10).alloc (Nat.le_refl _) (.cells #[.int .i64 A.n, .int .i64 (A.d - 1)] 24)) HQ0_10.out.lt)
    have HX1_11 := hide (HX1_10.out.on ((Below.refl w10.heap.size w10).alloc (Nat.le_refl _) (.cells #[.int .i64 A.n, .int .i64 (A.d - 1)] 24)) HX1_10.out.lt)
    have HQ1_11 := hide (HQ1_10.out.on ((Below.refl w10.heap.size w10).alloc (Nat.le_refl _) (.cells #[.int .i64 A.n, .int .i64 (A.d - 1)] 24)) HQ1_10.out.lt)
    have HX2_11 := hide (HX2_10.out.on ((Below.refl w10.heap.size w10).alloc (Nat.le_refl _) (.cells #[.int .i64 A.n, .int .i64 (A.d - 1)] 24)) HX2_10.out.lt)
    have HQ2_11 := hide (HQ2_10.out.on ((Below.refl w10.heap.size w10).alloc (Nat.le_refl _) (.cells #[.int .i64 A.n, .int .i64 (A.d - 1)] 24)) HQ2_10.out.lt)
    have HXY_11 := hide (HXY_10.out.on ((Below.refl w10.heap.size w10).alloc (Nat.le_refl _) (.cells #[.int .i64 A.n, .int .i64 (A.d - 1)] 24)) HXY_10.out.lt)
    have HB_11 := hide (HB_10.out.alloc HB_10.out.size (.cells #[.int .i64 A.n, .int .i64 (A.d - 1)] 24))
    have HYX_11 := hide (Two.new w10 A.n (A.d - 1) 24)
    have c0 := HX0_11.out.c0
    have c1 := HX0_11.out.c1
    have c2 := HX1_11.out.c0
    have c3 := HX1_11.out.c1
    go_wp2_with fail
    clear c0 c1 c2 c3
    generalize w10.alloc (.cells #[.int .i64 A.n, .int .i64 (A.d - 1)] 24) = w11 at HP0_11 HP1_11 HP2_11 HX0_11 HQ0_11 HX1_11 HQ1_11 HX2_11 HQ2_11 HXY_11 HB_11 HYX_11 ⊢
    generalize w10.heap.size = hyx at HYX_11 ⊢
    clear HP0_10 HP1_10 HP2_10 HX0_10 HQ0_10 HX1_10 HQ1_10 HX2_10 HQ2_10 HXY_10 HB_10
    refine (HM.out _).mono ?_
    rintro e w12 ⟨rfl, hb⟩
    have HP0_12 := hide (HP0_11.out.on hb HP0_11.out.lt)
    have HP1_12 := hide (HP1_11.out.on hb HP1_11.out.lt)
    have HP2_12 := hide (HP2_11.out.on hb HP2_11.out.lt)
    have HX0_12 := hide (HX0_11.out.on hb HX0_11.out.lt)
    have HQ0_12 := hide (HQ0_11.out.on hb HQ0_11.out.lt)
    have HX1_12 := hide (HX1_11.out.on hb HX1_11.out.lt)
    have HQ1_12 := hide (HQ1_11.out.on hb HQ1_11.out.lt)
    have HX2_12 := hide (HX2_11.out.on hb HX2_11.out.lt)
    have HQ2_12 := hide (HQ2_11.out.on hb HQ2_11.out.lt)
    have HXY_12 := hide (HXY_11.out.on hb HXY_11.out.lt)
    have HYX_12 := hide (HYX_11.out.on hb HYX_11.out.lt)
    have HB_12 := hide (on_tr HB_11.out hb)
    clear hb HP0_11 HP1_11 HP2_11 HX0_11 HQ0_11 HX1_11 HQ1_11 HX2_11 HQ2_11 HXY_11 HYX_11 HB_11
    have HP0_13 := hide (HP0_12.out.on ((Below.refl w12.heap.size w12).alloc (Nat.le_refl _) (.cells #[.int .i64 M.n, .int .i64 (M.d - 1)] 24)) HP0_12.out.lt)
    have HP1_13 := hide (HP1_12.out.on ((Below.refl w12.heap.size w12).alloc (Nat.le_refl _) (.cells #[.int .i64 M.n, .int .i64 (M.d - 1)] 24)) HP1_12.out.lt)
    have HP2_13 := hide (HP2_12.out.on ((Below.refl w12.heap.size w12).alloc (Nat.le_refl _) (.cells #[.int .i64 M.n, .int .i64 (M.d - 1)] 24)) HP2_12.out.lt)
    have HX0_13 := hide (HX0_12.out.on ((Below.refl w12.heap.size w12).alloc (Nat.le_refl _) (.cells #[.int .i64 M.n, .int .i64 (M.d - 1)] 24)) HX0_12.out.lt)
    have HQ0_13 := hide (HQ0_12.out.on ((Below.refl w12.heap.size w12).alloc (Nat.le_refl _) (.cells #[.int .i64 M.n, .int .i64 (M.d - 1)] 24)) HQ0_12.out.lt)
    have HX1_13 := hide (HX1_12.out.on ((Below.refl w12.heap.size w12).alloc (Nat.le_refl _) (.cells #[.int .i64 M.n, .int .i64 (M.d - 1)] 24)) HX1_12.out.lt)
    have HQ1_13 := hide (HQ1_12.out.on ((Below.refl w12.heap.size w12).alloc (Nat.le_refl _) (.cells #[.int .i64 M.n, .int .i64 (M.d - 1)] 24)) HQ1_12.out.lt)
    have HX2_13 := hide (HX2_12.out.on ((Below.refl w12.heap.size w12).alloc (Nat.le_refl _) (.cells #[.int .i64 M.n, .int .i64 (M.d - 1)] 24)) HX2_12.out.lt)
    have HQ2_13 := hide (HQ2_12.out.on ((Below.refl w12.heap.size w12).alloc (Nat.le_refl _) (.cells #[.int .i64 M.n, .int .i64 (M.d - 1)] 24)) HQ2_12.out.lt)
    have HXY_13 := hide (HXY_12.out.on ((Below.refl w12.heap.size w12).alloc (Nat.le_refl _) (.cells #[.int .i64 M.n, .int .i64 (M.d - 1)] 24)) HXY_12.out.lt)
    have HYX_13 := hide (HYX_12.out.on ((Below.refl w12.heap.size w12).alloc (Nat.le_refl _) (.cells #[.int .i64 M.n, .int .i64 (M.d - 1)] 24)) HYX_12.out.lt)
    have HB_13 := hide (HB_12.out.alloc HB_12.out.size (.cells #[.int .i64 M.n, .int .i64 (M.d - 1)] 24))
    have HMa_13 := hide (Two.new w12 M.n (M.d - 1) 24)
    have c0 := HX1_13.out.c0
    have c1 := HX1_13.out.c1
    have c2 := HX0_13.out.c0
    have c3 := HX0_13.out.c1
    go_wp2_with fail
    clear c0 c1 c2 c3
    generalize w12.alloc (.cells #[.int .i64 M.n, .int .i64 (M.d - 1)] 24) = w13 at HP0_13 HP1_13 HP2_13 HX0_13 HQ0_13 HX1_13 HQ1_13 HX2_13 HQ2_13 HXY_13 HYX_13 HB_13 HMa_13 ⊢
    generalize w12.heap.size = hma at HMa_13 ⊢
    clear HP0_12 HP1_12 HP2_12 HX0_12 HQ0_12 HX1_12 HQ1_12 HX2_12 HQ2_12 HXY_12 HYX_12 HB_12
    refine (HM2.out _).mono ?_
    rintro e w14 ⟨rfl, hb⟩
    have HP0_14 := hide (HP0_13.out.on hb HP0_13.out.lt)
    have HP1_14 := hide (HP1_13.out.on hb HP1_13.out.lt)
    have HP2_14 := hide (HP2_13.out.on hb HP2_13.out.lt)
    have HX0_14 := hide (HX0_13.out.on hb HX0_13.out.lt)
    have HQ0_14 := hide (HQ0_13.out.on hb HQ0_13.out.lt)
    have HX1_14 := hide (HX1_13.out.on hb HX1_13.out.lt)
    have HQ1_14 := hide (HQ1_13.out.on hb HQ1_13.out.lt)
    have HX2_14 := hide (HX2_13.out.on hb HX2_13.out.lt)
    have HQ2_14 := hide (HQ2_13.out.on hb HQ2_13.out.lt)
    have HXY_14 := hide (HXY_13.out.on hb HXY_13.out.lt)
    have HYX_14 := hide (HYX_13.out.on hb HYX_13.out.lt)
    have HMa_14 := hide (HMa_13.out.on hb HMa_13.out.lt)
    have HB_14 := hide (on_tr HB_13.out hb)
    clear hb HP0_13 HP1_13 HP2_13 HX0_13 HQ0_13 HX1_13 HQ1_13 HX2_13 HQ2_13 HXY_13 HYX_13 HMa_13 HB_13
    have HP0_15 := hide (HP0_14.out.on ((Below.refl w14.heap.size w14).alloc (Nat.le_refl _) (.cells #[.int .i64 M.n, .int .i64 (M.d - 1)] 24)) HP0_14.out.lt)
    have HP1_15 := hide (HP1_14.out.on ((Below.refl w14.heap.size w14).alloc (Nat.le_refl _) (.cells #[.int .i64 M.n, .int .i64 (M.d - 1)] 24)) HP1_14.out.lt)
    have HP2_15 := hide (HP2_14.out.on ((Below.refl w14.heap.size w14).alloc (Nat.le_refl _) (.cells #[.int .i64 M.n, .int .i64 (M.d - 1)] 24)) HP2_14.out.lt)
    have HX0_15 := hide (HX0_14.out.on ((Below.refl w14.heap.size w14).alloc (Nat.le_refl _) (.cells #[.int .i64 M.n, .int .i64 (M.d - 1)] 24)) HX0_14.out.lt)
    have HQ0_15 := hide (HQ0_14.out.on ((Below.refl w14.heap.size w14).alloc (Nat.le_refl _) (.cells #[.int .i64 M.n, .int .i64 (M.d - 1)] 24)) HQ0_14.out.lt)
    have HX1_15 := hide (HX1_14.out.on ((Below.refl w14.heap.size w14).alloc (Nat.le_refl _) (.cells #[.int .i64 M.n, .int .i64 (M.d - 1)] 24)) HX1_14.out.lt)
    have HQ1_15 := hide (HQ1_14.out.on ((Below.refl w14.heap.size w14).alloc (Nat.le_refl _) (.cells #[.int .i64 M.n, .int .i64 (M.d - 1)] 24)) HQ1_14.out.lt)
    have HX2_15 := hide (HX2_14.out.on ((Below.refl w14.heap.size w14).alloc (Nat.le_refl _) (.cells #[.int .i64 M.n, .int .i64 (M.d - 1)] 24)) HX2_14.out.lt)
    have HQ2_15 := hide (HQ2_14.out.on ((Below.refl w14.heap.size w14).alloc (Nat.le_refl _) (.cells #[.int .i64 M.n, .int .i64 (M.d - 1)] 24)) HQ2_14.out.lt)
    have HXY_15 := hide (HXY_14.out.on ((Below.refl w14.heap.size w14).alloc (Nat.le_refl _) (.cells #[.int .i64 M.n, .int .i64 (M.d - 1)] 24)) HXY_14.out.lt)
    have HYX_15 := hide (HYX_14.out.on ((Below.refl w14.heap.size w14).alloc (Nat.le_refl _) (.cells #[.int .i64 M.n, .int .i64 (M.d - 1)] 24)) HYX_14.out.lt)
    have HMa_15 := hide (HMa_14.out.on ((Below.refl w14.heap.size w14).alloc (Nat.le_refl _) (.cells #[.int .i64 M.n, .int .i64 (M.d - 1)] 24)) HMa_14.out.lt)
    have HB_15 := hide (HB_14.out.alloc HB_14.out.size (.cells #[.int .i64 M.n, .int .i64 (M.d - 1)] 24))
    have HMb_15 := hide (Two.new w14 M.n (M.d - 1) 24)
    go_wp2_with fail
    generalize w14.alloc (.cells #[.int .i64 M.n, .int .i64 (M.d - 1)] 24) = w15 at HP0_15 HP1_15 HP2_15 HX0_15 HQ0_15 HX1_15 HQ1_15 HX2_15 HQ2_15 HXY_15 HYX_15 HMa_15 HB_15 HMb_15 ⊢
    generalize w14.heap.size = hmb at HMb_15 ⊢
    clear HP0_14 HP1_14 HP2_14 HX0_14 HQ0_14 HX1_14 HQ1_14 HX2_14 HQ2_14 HXY_14 HYX_14 HMa_14 HB_14
    have HTT := hide (HT.out.on HB_15.out)
    refine (HK.out _ HTT.out).mono ?_
    clear HTT
    rintro e w16 ⟨rfl, hb⟩
    have HP0_16 := hide (HP0_15.out.on hb HP0_15.out.lt)
    have HP1_16 := hide (HP1_15.out.on hb HP1_15.out.lt)
    have HP2_16 := hide (HP2_15.out.on hb HP2_15.out.lt)
    have HX0_16 := hide (HX0_15.out.on hb HX0_15.out.lt)
    have HQ0_16 := hide (HQ0_15.out.on hb HQ0_15.out.lt)
    have HX1_16 := hide (HX1_15.out.on hb HX1_15.out.lt)
    have HQ1_16 := hide (HQ1_15.out.on hb HQ1_15.out.lt)
    have HX2_16 := hide (HX2_15.out.on hb HX2_15.out.lt)
    have HQ2_16 := hide (HQ2_15.out.on hb HQ2_15.out.lt)
    have HXY_16 := hide (HXY_15.out.on hb HXY_15.out.lt)
    have HYX_16 := hide (HYX_15.out.on hb HYX_15.out.lt)
    have HMa_16 := hide (HMa_15.out.on hb HMa_15.out.lt)
    have HMb_16 := hide (HMb_15.out.on hb HMb_15.out.lt)
    have HB_16 := hide (on_tr HB_15.out hb)
    clear hb HP0_15 HP1_15 HP2_15 HX0_15 HQ0_15 HX1_15 HQ1_15 HX2_15 HQ2_15 HXY_15 HYX_15 HMa_15 HMb_15 HB_15
    have c0 := HXY_16.out.c0
    have c1 := HXY_16.out.c1
    have c2 := HYX_16.out.c0
    have c3 := HYX_16.out.c1
    have c4 := HMa_16.out.c0
    have c5 := HMa_16.out.c1
    have c6 := HMb_16.out.c0
    have c7 := HMb_16.out.c1
    have c8 := HX1_16.out.c0
    have c9 := HX1_16.out.c1
    have c10 := HX2_16.out.c0
    have c11 := HX2_16.out.c1
    go_wp2_with fail
    clear c0 c1 c2 c3 c4 c5 c6 c7 c8 c9 c10 c11
    clear HQ0_16 HQ1_16 HQ2_16 HP0_16 HP1_16 HP2_16 HYX_16 HMb_16
    refine (HBc.out _).mono ?_
    rintro e w17 ⟨rfl, hb⟩
    have HX0_17 := hide (HX0_16.out.on hb HX0_16.out.lt)
    have HX1_17 := hide (HX1_16.out.on hb HX1_16.out.lt)
    have HX2_17 := hide (HX2_16.out.on hb HX2_16.out.lt)
    have HXY_17 := hide (HXY_16.out.on hb HXY_16.out.lt)
    have HMa_17 := hide (HMa_16.out.on hb HMa_16.out.lt)
    have HB_17 := hide (on_tr HB_16.out hb)
    clear hb HX0_16 HX1_16 HX2_16 HXY_16 HMa_16 HB_16
    have HX0_18 := hide (HX0_17.out.on ((Below.refl w17.heap.size w17).alloc (Nat.le_refl _) (.cells #[.int .i64 B.n, .int .i64 (B.d - 1)] 24)) HX0_17.out.lt)
    have HX1_18 := hide (HX1_17.out.on ((Below.refl w17.heap.size w17).alloc (Nat.le_refl _) (.cells #[.int .i64 B.n, .int .i64 (B.d - 1)] 24)) HX1_17.out.lt)
    have HX2_18 := hide (HX2_17.out.on ((Below.refl w17.heap.size w17).alloc (Nat.le_refl _) (.cells #[.int .i64 B.n, .int .i64 (B.d - 1)] 24)) HX2_17.out.lt)
    have HXY_18 := hide (HXY_17.out.on ((Below.refl w17.heap.size w17).alloc (Nat.le_refl _) (.cells #[.int .i64 B.n, .int .i64 (B.d - 1)] 24)) HXY_17.out.lt)
    have HMa_18 := hide (HMa_17.out.on ((Below.refl w17.heap.size w17).alloc (Nat.le_refl _) (.cells #[.int .i64 B.n, .int .i64 (B.d - 1)] 24)) HMa_17.out.lt)
    have HB_18 := hide (HB_17.out.alloc HB_17.out.size (.cells #[.int .i64 B.n, .int .i64 (B.d - 1)] 24))
    have HYZ_18 := hide (Two.new w17 B.n (B.d - 1) 24)
    have c0 := HXY_18.out.c0
    have c1 := HXY_18.out.c1
    have c2 := HX2_18.out.c0
    have c3 := HX2_18.out.c1
    go_wp2_with fail
    clear c0 c1 c2 c3
    generalize w17.alloc (.cells #[.int .i64 B.n, .int .i64 (B.d - 1)] 24) = w18 at HX0_18 HX1_18 HX2_18 HXY_18 HMa_18 HB_18 HYZ_18 ⊢
    generalize w17.heap.size = hyz at HYZ_18 ⊢
    clear HX0_17 HX1_17 HX2_17 HXY_17 HMa_17 HB_17
    refine (HLc.out _).mono ?_
    rintro e w19 ⟨rfl, hb⟩
    have HX0_19 := hide (HX0_18.out.on hb HX0_18.out.lt)
    have HX1_19 := hide (HX1_18.out.on hb HX1_18.out.lt)
    have HX2_19 := hide (HX2_18.out.on hb HX2_18.out.lt)
    have HXY_19 := hide (HXY_18.out.on hb HXY_18.out.lt)
    have HMa_19 := hide (HMa_18.out.on hb HMa_18.out.lt)
    have HYZ_19 := hide (HYZ_18.out.on hb HYZ_18.out.lt)
    have HB_19 := hide (on_tr HB_18.out hb)
    clear hb HX0_18 HX1_18 HX2_18 HXY_18 HMa_18 HYZ_18 HB_18
    have HX0_20 := hide (HX0_19.out.on ((Below.refl w19.heap.size w19).alloc (Nat.le_refl _) (.cells #[.int .i64 L.n, .int .i64 (L.d - 1)] 24)) HX0_19.out.lt)
    have HX1_20 := hide (HX1_19.out.on ((Below.refl w19.heap.size w19).alloc (Nat.le_refl _) (.cells #[.int .i64 L.n, .int .i64 (L.d - 1)] 24)) HX1_19.out.lt)
    have HX2_20 := hide (HX2_19.out.on ((Below.refl w19.heap.size w19).alloc (Nat.le_refl _) (.cells #[.int .i64 L.n, .int .i64 (L.d - 1)] 24)) HX2_19.out.lt)
    have HXY_20 := hide (HXY_19.out.on ((Below.refl w19.heap.size w19).alloc (Nat.le_refl _) (.cells #[.int .i64 L.n, .int .i64 (L.d - 1)] 24)) HXY_19.out.lt)
    have HMa_20 := hide (HMa_19.out.on ((Below.refl w19.heap.size w19).alloc (Nat.le_refl _) (.cells #[.int .i64 L.n, .int .i64 (L.d - 1)] 24)) HMa_19.out.lt)
    have HYZ_20 := hide (HYZ_19.out.on ((Below.refl w19.heap.size w19).alloc (Nat.le_refl _) (.cells #[.int .i64 L.n, .int .i64 (L.d - 1)] 24)) HYZ_19.out.lt)
    have HB_20 := hide (HB_19.out.alloc HB_19.out.size (.cells #[.int .i64 L.n, .int .i64 (L.d - 1)] 24))
    have HL1_20 := hide (Two.new w19 L.n (L.d - 1) 24)
    have c0 := HX0_20.out.c0
    have c1 := HX0_20.out.c1
    have c2 := HYZ_20.out.c0
    have c3 := HYZ_20.out.c1
    go_wp2_with fail
    clear c0 c1 c2 c3
    generalize w19.alloc (.cells #[.int .i64 L.n, .int .i64 (L.d - 1)] 24) = w20 at HX0_20 HX1_20 HX2_20 HXY_20 HMa_20 HYZ_20 HB_20 HL1_20 ⊢
    generalize w19.heap.size = hl1 at HL1_20 ⊢
    clear HX0_19 HX1_19 HX2_19 HXY_19 HMa_19 HYZ_19 HB_19
    clear HXY_20 HX1_20
    refine (HRc.out _).mono ?_
    rintro e w21 ⟨rfl, hb⟩
    have HX0_21 := hide (HX0_20.out.on hb HX0_20.out.lt)
    have HX2_21 := hide (HX2_20.out.on hb HX2_20.out.lt)
    have HMa_21 := hide (HMa_20.out.on hb HMa_20.out.lt)
    have HYZ_21 := hide (HYZ_20.out.on hb HYZ_20.out.lt)
    have HL1_21 := hide (HL1_20.out.on hb HL1_20.out.lt)
    have HB_21 := hide (on_tr HB_20.out hb)
    clear hb HX0_20 HX2_20 HMa_20 HYZ_20 HL1_20 HB_20
    have HX0_22 := hide (HX0_21.out.on ((Below.refl w21.heap.size w21).alloc (Nat.le_refl _) (.cells #[.int .i64 R.n, .int .i64 (R.d - 1)] 24)) HX0_21.out.lt)
    have HX2_22 := hide (HX2_21.out.on ((Below.refl w21.heap.size w21).alloc (Nat.le_refl _) (.cells #[.int .i64 R.n, .int .i64 (R.d - 1)] 24)) HX2_21.out.lt)
    have HMa_22 := hide (HMa_21.out.on ((Below.refl w21.heap.size w21).alloc (Nat.le_refl _) (.cells #[.int .i64 R.n, .int .i64 (R.d - 1)] 24)) HMa_21.out.lt)
    have HYZ_22 := hide (HYZ_21.out.on ((Below.refl w21.heap.size w21).alloc (Nat.le_refl _) (.cells #[.int .i64 R.n, .int .i64 (R.d - 1)] 24)) HYZ_21.out.lt)
    have HL1_22 := hide (HL1_21.out.on ((Below.refl w21.heap.size w21).alloc (Nat.le_refl _) (.cells #[.int .i64 R.n, .int .i64 (R.d - 1)] 24)) HL1_21.out.lt)
    have HB_22 := hide (HB_21.out.alloc HB_21.out.size (.cells #[.int .i64 R.n, .int .i64 (R.d - 1)] 24))
    have HR1_22 := hide (Two.new w21 R.n (R.d - 1) 24)
    have c0 := HL1_22.out.c0
    have c1 := HL1_22.out.c1
    have c2 := HR1_22.out.c0
    have c3 := HR1_22.out.c1
    have c4 := HX0_22.out.c0
    have c5 := HX0_22.out.c1
    have c6 := HX2_22.out.c0
    have c7 := HX2_22.out.c1
    go_wp2_with fail
    clear c0 c1 c2 c3 c4 c5 c6 c7
    generalize w21.alloc (.cells #[.int .i64 R.n, .int .i64 (R.d - 1)] 24) = w22 at HX0_22 HX2_22 HMa_22 HYZ_22 HL1_22 HB_22 HR1_22 ⊢
    generalize w21.heap.size = hr1 at HR1_22 ⊢
    clear HX0_21 HX2_21 HMa_21 HYZ_21 HL1_21 HB_21
    clear HL1_22 HR1_22 HX2_22
    refine (HXc.out _).mono ?_
    rintro e w23 ⟨rfl, hb⟩
    have HX0_23 := hide (HX0_22.out.on hb HX0_22.out.lt)
    have HMa_23 := hide (HMa_22.out.on hb HMa_22.out.lt)
    have HYZ_23 := hide (HYZ_22.out.on hb HYZ_22.out.lt)
    have HB_23 := hide (on_tr HB_22.out hb)
    clear hb HX0_22 HMa_22 HYZ_22 HB_22
    have HX0_24 := hide (HX0_23.out.on ((Below.refl w23.heap.size w23).alloc (Nat.le_refl _) (.cells #[.int .i64 X.n, .int .i64 (X.d - 1)] 24)) HX0_23.out.lt)
    have HMa_24 := hide (HMa_23.out.on ((Below.refl w23.heap.size w23).alloc (Nat.le_refl _) (.cells #[.int .i64 X.n, .int .i64 (X.d - 1)] 24)) HMa_23.out.lt)
    have HYZ_24 := hide (HYZ_23.out.on ((Below.refl w23.heap.size w23).alloc (Nat.le_refl _) (.cells #[.int .i64 X.n, .int .i64 (X.d - 1)] 24)) HYZ_23.out.lt)
    have HB_24 := hide (HB_23.out.alloc HB_23.out.size (.cells #[.int .i64 X.n, .int .i64 (X.d - 1)] 24))
    have HXZ_24 := hide (Two.new w23 X.n (X.d - 1) 24)
    have c0 := HX0_24.out.c0
    have c1 := HX0_24.out.c1
    have c2 := HYZ_24.out.c0
    have c3 := HYZ_24.out.c1
    go_wp2_with fail
    clear c0 c1 c2 c3
    generalize w23.alloc (.cells #[.int .i64 X.n, .int .i64 (X.d - 1)] 24) = w24 at HX0_24 HMa_24 HYZ_24 HB_24 HXZ_24 ⊢
    generalize w23.heap.size = hxz at HXZ_24 ⊢
    clear HX0_23 HMa_23 HYZ_23 HB_23
    refine (HPc.out _).mono ?_
    rintro e w25 ⟨rfl, hb⟩
    have HX0_25 := hide (HX0_24.out.on hb HX0_24.out.lt)
    have HMa_25 := hide (HMa_24.out.on hb HMa_24.out.lt)
    have HYZ_25 := hide (HYZ_24.out.on hb HYZ_24.out.lt)
    have HXZ_25 := hide (HXZ_24.out.on hb HXZ_24.out.lt)
    have HB_25 := hide (on_tr HB_24.out hb)
    clear hb HX0_24 HMa_24 HYZ_24 HXZ_24 HB_24
    have HX0_26 := hide (HX0_25.out.on ((Below.refl w25.heap.size w25).alloc (Nat.le_refl _) (.cells #[.int .i64 P.n, .int .i64 (P.d - 1)] 24)) HX0_25.out.lt)
    have HMa_26 := hide (HMa_25.out.on ((Below.refl w25.heap.size w25).alloc (Nat.le_refl _) (.cells #[.int .i64 P.n, .int .i64 (P.d - 1)] 24)) HMa_25.out.lt)
    have HYZ_26 := hide (HYZ_25.out.on ((Below.refl w25.heap.size w25).alloc (Nat.le_refl _) (.cells #[.int .i64 P.n, .int .i64 (P.d - 1)] 24)) HYZ_25.out.lt)
    have HXZ_26 := hide (HXZ_25.out.on ((Below.refl w25.heap.size w25).alloc (Nat.le_refl _) (.cells #[.int .i64 P.n, .int .i64 (P.d - 1)] 24)) HXZ_25.out.lt)
    have HB_26 := hide (HB_25.out.alloc HB_25.out.size (.cells #[.int .i64 P.n, .int .i64 (P.d - 1)] 24))
    have HPx_26 := hide (Two.new w25 P.n (P.d - 1) 24)
    have c0 := HMa_26.out.c0
    have c1 := HMa_26.out.c1
    have c2 := HXZ_26.out.c0
    have c3 := HXZ_26.out.c1
    go_wp2_with fail
    clear c0 c1 c2 c3
    generalize w25.alloc (.cells #[.int .i64 P.n, .int .i64 (P.d - 1)] 24) = w26 at HX0_26 HMa_26 HYZ_26 HXZ_26 HB_26 HPx_26 ⊢
    generalize w25.heap.size = hpx at HPx_26 ⊢
    clear HX0_25 HMa_25 HYZ_25 HXZ_25 HB_25
    refine (HSc.out _).mono ?_
    rintro e w27 ⟨rfl, hb⟩
    have HX0_27 := hide (HX0_26.out.on hb HX0_26.out.lt)
    have HMa_27 := hide (HMa_26.out.on hb HMa_26.out.lt)
    have HYZ_27 := hide (HYZ_26.out.on hb HYZ_26.out.lt)
    have HXZ_27 := hide (HXZ_26.out.on hb HXZ_26.out.lt)
    have HPx_27 := hide (HPx_26.out.on hb HPx_26.out.lt)
    have HB_27 := hide (on_tr HB_26.out hb)
    clear hb HX0_26 HMa_26 HYZ_26 HXZ_26 HPx_26 HB_26
    have HX0_28 := hide (HX0_27.out.on ((Below.refl w27.heap.size w27).alloc (Nat.le_refl _) (.cells #[.int .i64 S.n, .int .i64 (S.d - 1)] 24)) HX0_27.out.lt)
    have HMa_28 := hide (HMa_27.out.on ((Below.refl w27.heap.size w27).alloc (Nat.le_refl _) (.cells #[.int .i64 S.n, .int .i64 (S.d - 1)] 24)) HMa_27.out.lt)
    have HYZ_28 := hide (HYZ_27.out.on ((Below.refl w27.heap.size w27).alloc (Nat.le_refl _) (.cells #[.int .i64 S.n, .int .i64 (S.d - 1)] 24)) HYZ_27.out.lt)
    have HXZ_28 := hide (HXZ_27.out.on ((Below.refl w27.heap.size w27).alloc (Nat.le_refl _) (.cells #[.int .i64 S.n, .int .i64 (S.d - 1)] 24)) HXZ_27.out.lt)
    have HPx_28 := hide (HPx_27.out.on ((Below.refl w27.heap.size w27).alloc (Nat.le_refl _) (.cells #[.int .i64 S.n, .int .i64 (S.d - 1)] 24)) HPx_27.out.lt)
    have HB_28 := hide (HB_27.out.alloc HB_27.out.size (.cells #[.int .i64 S.n, .int .i64 (S.d - 1)] 24))
    have HSm_28 := hide (Two.new w27 S.n (S.d - 1) 24)
    have c0 := HPx_28.out.c0
    have c1 := HPx_28.out.c1
    have c2 := HSm_28.out.c0
    have c3 := HSm_28.out.c1
    go_wp2_with fail
    clear c0 c1 c2 c3
    generalize w27.alloc (.cells #[.int .i64 S.n, .int .i64 (S.d - 1)] 24) = w28 at HX0_28 HMa_28 HYZ_28 HXZ_28 HPx_28 HB_28 HSm_28 ⊢
    generalize w27.heap.size = hsm at HSm_28 ⊢
    clear HX0_27 HMa_27 HYZ_27 HXZ_27 HPx_27 HB_27
    go_ret
    exact ⟨by first | rfl | simp, HB_28.out⟩
  · have hB1 : (B.e == 0) = false := by simpa using hB
    have hB2 : (B.e != 0) = true := by simpa using hB
    have hA1 : (A.e == 0) = false := by simpa using hA
    have hA2 : (A.e != 0) = true := by simpa using hA
    clear hB hA
    have HB_0 := hide (Below.refl w.heap.size w)
    go_enter Tryd.func8, Tryd.ntmps8
    go_wp2_with fail
    have HB_1 := hide (box3_bel w a0 b0 a1 b1 a2 b2 22)
    have HP0_1 := hide (box3_0 w a0 b0 a1 b1 a2 b2 22)
    have HP1_1 := hide (box3_1 w a0 b0 a1 b1 a2 b2 22)
    have HP2_1 := hide (box3_2 w a0 b0 a1 b1 a2 b2 22)
    generalize (((w.alloc (.cells #[.int .i64 a0, .int .i64 b0] 22)).alloc (.cells #[.int .i64 a1, .int .i64 b1] 22)).alloc (.cells #[.int .i64 a2, .int .i64 b2] 22)) = w1 at HB_1 HP0_1 HP1_1 HP2_1 ⊢
    clear HB_0
    have c0 := HP0_1.out.c0
    have c1 := HP0_1.out.c1
    go_wp2_with fail
    clear c0 c1
    refine (HO0.out _).mono ?_
    rintro e w2 ⟨rfl, hb⟩
    have HP0_2 := hide (HP0_1.out.on hb HP0_1.out.lt)
    have HP1_2 := hide (HP1_1.out.on hb HP1_1.out.lt)
    have HP2_2 := hide (HP2_1.out.on hb HP2_1.out.lt)
    have HB_2 := hide (on_tr HB_1.out hb)
    clear hb HP0_1 HP1_1 HP2_1 HB_1
    have HP0_3 := hide ((HP0_2.out.on ((Below.refl w2.heap.size w2).alloc (Nat.le_refl _) (.cells #[.int .i64 F.n, .int .i64 (F.d - 1)] 24)) HP0_2.out.lt).on ((Below.refl _ _).alloc (Nat.le_refl _) (.cells #[.int .i64 F.n, .int .i64 F.d] 26)) (by have := HP0_2.out.lt; simp; omega))
    have HP1_3 := hide ((HP1_2.out.on ((Below.refl w2.heap.size w2).alloc (Nat.le_refl _) (.cells #[.int .i64 F.n, .int .i64 (F.d - 1)] 24)) HP1_2.out.lt).on ((Below.refl _ _).alloc (Nat.le_refl _) (.cells #[.int .i64 F.n, .int .i64 F.d] 26)) (by have := HP1_2.out.lt; simp; omega))
    have HP2_3 := hide ((HP2_2.out.on ((Below.refl w2.heap.size w2).alloc (Nat.le_refl _) (.cells #[.int .i64 F.n, .int .i64 (F.d - 1)] 24)) HP2_2.out.lt).on ((Below.refl _ _).alloc (Nat.le_refl _) (.cells #[.int .i64 F.n, .int .i64 F.d] 26)) (by have := HP2_2.out.lt; simp; omega))
    have HB_3 := hide ((HB_2.out.alloc HB_2.out.size (.cells #[.int .i64 F.n, .int .i64 (F.d - 1)] 24)).alloc (by have := HB_2.out.size; simp; omega) (.cells #[.int .i64 F.n, .int .i64 F.d] 26))
    have HP := hide (S2.new2 w2 F.n (F.d - 1) F.n F.d 24 26)
    have HX0_3 := hide HP.out.tx
    have HQ0_3 := hide HP.out.ty
    clear HP
    have c0 := HP1_3.out.c0
    have c1 := HP1_3.out.c1
    go_wp2_with fail
    clear c0 c1
    generalize (w2.alloc (.cells #[.int .i64 F.n, .int .i64 (F.d - 1)] 24)).alloc (.cells #[.int .i64 F.n, .int .i64 F.d] 26) = w3 at HP0_3 HP1_3 HP2_3 HB_3 HX0_3 HQ0_3 ⊢
    generalize w2.heap.size = hx0 at HX0_3 HQ0_3 ⊢
    clear HP0_2 HP1_2 HP2_2 HB_2
    refine (HO1.out _).mono ?_
    rintro e w4 ⟨rfl, hb⟩
    have HP0_4 := hide (HP0_3.out.on hb HP0_3.out.lt)
    have HP1_4 := hide (HP1_3.out.on hb HP1_3.out.lt)
    have HP2_4 := hide (HP2_3.out.on hb HP2_3.out.lt)
    have HX0_4 := hide (HX0_3.out.on hb HX0_3.out.lt)
    have HQ0_4 := hide (HQ0_3.out.on hb HQ0_3.out.lt)
    have HB_4 := hide (on_tr HB_3.out hb)
    clear hb HP0_3 HP1_3 HP2_3 HX0_3 HQ0_3 HB_3
    have HP0_5 := hide ((HP0_4.out.on ((Below.refl w4.heap.size w4).alloc (Nat.le_refl _) (.cells #[.int .i64 G.n, .int .i64 (G.d - 1)] 24)) HP0_4.out.lt).on ((Below.refl _ _).alloc (Nat.le_refl _) (.cells #[.int .i64 G.n, .int .i64 G.d] 26)) (by have := HP0_4.out.lt; simp; omega))
    have HP1_5 := hide ((HP1_4.out.on ((Below.refl w4.heap.size w4).alloc (Nat.le_refl _) (.cells #[.int .i64 G.n, .int .i64 (G.d - 1)] 24)) HP1_4.out.lt).on ((Below.refl _ _).alloc (Nat.le_refl _) (.cells #[.int .i64 G.n, .int .i64 G.d] 26)) (by have := HP1_4.out.lt; simp; omega))
    have HP2_5 := hide ((HP2_4.out.on ((Below.refl w4.heap.size w4).alloc (Nat.le_refl _) (.cells #[.int .i64 G.n, .int .i64 (G.d - 1)] 24)) HP2_4.out.lt).on ((Below.refl _ _).alloc (Nat.le_refl _) (.cells #[.int .i64 G.n, .int .i64 G.d] 26)) (by have := HP2_4.out.lt; simp; omega))
    have HX0_5 := hide ((HX0_4.out.on ((Below.refl w4.heap.size w4).alloc (Nat.le_refl _) (.cells #[.int .i64 G.n, .int .i64 (G.d - 1)] 24)) HX0_4.out.lt).on ((Below.refl _ _).alloc (Nat.le_refl _) (.cells #[.int .i64 G.n, .int .i64 G.d] 26)) (by have := HX0_4.out.lt; simp; omega))
    have HQ0_5 := hide ((HQ0_4.out.on ((Below.refl w4.heap.size w4).alloc (Nat.le_refl _) (.cells #[.int .i64 G.n, .int .i64 (G.d - 1)] 24)) HQ0_4.out.lt).on ((Below.refl _ _).alloc (Nat.le_refl _) (.cells #[.int .i64 G.n, .int .i64 G.d] 26)) (by have := HQ0_4.out.lt; simp; omega))
    have HB_5 := hide ((HB_4.out.alloc HB_4.out.size (.cells #[.int .i64 G.n, .int .i64 (G.d - 1)] 24)).alloc (by have := HB_4.out.size; simp; omega) (.cells #[.int .i64 G.n, .int .i64 G.d] 26))
    have HP := hide (S2.new2 w4 G.n (G.d - 1) G.n G.d 24 26)
    have HX1_5 := hide HP.out.tx
    have HQ1_5 := hide HP.out.ty
    clear HP
    have c0 := HP2_5.out.c0
    have c1 := HP2_5.out.c1
    go_wp2_with fail
    clear c0 c1
    generalize (w4.alloc (.cells #[.int .i64 G.n, .int .i64 (G.d - 1)] 24)).alloc (.cells #[.int .i64 G.n, .int .i64 G.d] 26) = w5 at HP0_5 HP1_5 HP2_5 HX0_5 HQ0_5 HB_5 HX1_5 HQ1_5 ⊢
    generalize w4.heap.size = hx1 at HX1_5 HQ1_5 ⊢
    clear HP0_4 HP1_4 HP2_4 HX0_4 HQ0_4 HB_4
    refine (HO2.out _).mono ?_
    rintro e w6 ⟨rfl, hb⟩
    have HP0_6 := hide (HP0_5.out.on hb HP0_5.out.lt)
    have HP1_6 := hide (HP1_5.out.on hb HP1_5.out.lt)
    have HP2_6 := hide (HP2_5.out.on hb HP2_5.out.lt)
    have HX0_6 := hide (HX0_5.out.on hb HX0_5.out.lt)
    have HQ0_6 := hide (HQ0_5.out.on hb HQ0_5.out.lt)
    have HX1_6 := hide (HX1_5.out.on hb HX1_5.out.lt)
    have HQ1_6 := hide (HQ1_5.out.on hb HQ1_5.out.lt)
    have HB_6 := hide (on_tr HB_5.out hb)
    clear hb HP0_5 HP1_5 HP2_5 HX0_5 HQ0_5 HX1_5 HQ1_5 HB_5
    have HP0_7 := hide ((HP0_6.out.on ((Below.refl w6.heap.size w6).alloc (Nat.le_refl _) (.cells #[.int .i64 K.n, .int .i64 (K.d - 1)] 24)) HP0_6.out.lt).on ((Below.refl _ _).alloc (Nat.le_refl _) (.cells #[.int .i64 K.n, .int .i64 K.d] 26)) (by have := HP0_6.out.lt; simp; omega))
    have HP1_7 := hide ((HP1_6.out.on ((Below.refl w6.heap.size w6).alloc (Nat.le_refl _) (.cells #[.int .i64 K.n, .int .i64 (K.d - 1)] 24)) HP1_6.out.lt).on ((Below.refl _ _).alloc (Nat.le_refl _) (.cells #[.int .i64 K.n, .int .i64 K.d] 26)) (by have := HP1_6.out.lt; simp; omega))
    have HP2_7 := hide ((HP2_6.out.on ((Below.refl w6.heap.size w6).alloc (Nat.le_refl _) (.cells #[.int .i64 K.n, .int .i64 (K.d - 1)] 24)) HP2_6.out.lt).on ((Below.refl _ _).alloc (Nat.le_refl _) (.cells #[.int .i64 K.n, .int .i64 K.d] 26)) (by have := HP2_6.out.lt; simp; omega))
    have HX0_7 := hide ((HX0_6.out.on ((Below.refl w6.heap.size w6).alloc (Nat.le_refl _) (.cells #[.int .i64 K.n, .int .i64 (K.d - 1)] 24)) HX0_6.out.lt).on ((Below.refl _ _).alloc (Nat.le_refl _) (.cells #[.int .i64 K.n, .int .i64 K.d] 26)) (by have := HX0_6.out.lt; simp; omega))
    have HQ0_7 := hide ((HQ0_6.out.on ((Below.refl w6.heap.size w6).alloc (Nat.le_refl _) (.cells #[.int .i64 K.n, .int .i64 (K.d - 1)] 24)) HQ0_6.out.lt).on ((Below.refl _ _).alloc (Nat.le_refl _) (.cells #[.int .i64 K.n, .int .i64 K.d] 26)) (by have := HQ0_6.out.lt; simp; omega))
    have HX1_7 := hide ((HX1_6.out.on ((Below.refl w6.heap.size w6).alloc (Nat.le_refl _) (.cells #[.int .i64 K.n, .int .i64 (K.d - 1)] 24)) HX1_6.out.lt).on ((Below.refl _ _).alloc (Nat.le_refl _) (.cells #[.int .i64 K.n, .int .i64 K.d] 26)) (by have := HX1_6.out.lt; simp; omega))
    have HQ1_7 := hide ((HQ1_6.out.on ((Below.refl w6.heap.size w6).alloc (Nat.le_refl _) (.cells #[.int .i64 K.n, .int .i64 (K.d - 1)] 24)) HQ1_6.out.lt).on ((Below.refl _ _).alloc (Nat.le_refl _) (.cells #[.int .i64 K.n, .int .i64 K.d] 26)) (by have := HQ1_6.out.lt; simp; omega))
    have HB_7 := hide ((HB_6.out.alloc HB_6.out.size (.cells #[.int .i64 K.n, .int .i64 (K.d - 1)] 24)).alloc (by have := HB_6.out.size; simp; omega) (.cells #[.int .i64 K.n, .int .i64 K.d] 26))
    have HP := hide (S2.new2 w6 K.n (K.d - 1) K.n K.d 24 26)
    have HX2_7 := hide HP.out.tx
    have HQ2_7 := hide HP.out.ty
    clear HP
    have c0 := HX0_7.out.c0
    have c1 := HX0_7.out.c1
    have c2 := HX1_7.out.c0
    have c3 := HX1_7.out.c1
    go_wp2_with fail
    clear c0 c1 c2 c3
    generalize (w6.alloc (.cells #[.int .i64 K.n, .int .i64 (K.d - 1)] 24)).alloc (.cells #[.int .i64 K.n, .int .i64 K.d] 26) = w7 at HP0_7 HP1_7 HP2_7 HX0_7 HQ0_7 HX1_7 HQ1_7 HB_7 HX2_7 HQ2_7 ⊢
    generalize w6.heap.size = hx2 at HX2_7 HQ2_7 ⊢
    clear HP0_6 HP1_6 HP2_6 HX0_6 HQ0_6 HX1_6 HQ1_6 HB_6
    refine (HA.out _).mono ?_
    rintro e w8 ⟨rfl, hb⟩
    have HP0_8 := hide (HP0_7.out.on hb HP0_7.out.lt)
    have HP1_8 := hide (HP1_7.out.on hb HP1_7.out.lt)
    have HP2_8 := hide (HP2_7.out.on hb HP2_7.out.lt)
    have HX0_8 := hide (HX0_7.out.on hb HX0_7.out.lt)
    have HQ0_8 := hide (HQ0_7.out.on hb HQ0_7.out.lt)
    have HX1_8 := hide (HX1_7.out.on hb HX1_7.out.lt)
    have HQ1_8 := hide (HQ1_7.out.on hb HQ1_7.out.lt)
    have HX2_8 := hide (HX2_7.out.on hb HX2_7.out.lt)
    have HQ2_8 := hide (HQ2_7.out.on hb HQ2_7.out.lt)
    have HB_8 := hide (on_tr HB_7.out hb)
    clear hb HP0_7 HP1_7 HP2_7 HX0_7 HQ0_7 HX1_7 HQ1_7 HX2_7 HQ2_7 HB_7
    have HP0_9 := hide (HP0_8.out.on ((Below.refl w8.heap.size w8).alloc (Nat.le_refl _) (.cells #[.int .i64 A.n, .int .i64 (A.d - 1)] 24)) HP0_8.out.lt)
    have HP1_9 := hide (HP1_8.out.on ((Below.refl w8.heap.size w8).alloc (Nat.le_refl _) (.cells #[.int .i64 A.n, .int .i64 (A.d - 1)] 24)) HP1_8.out.lt)
    have HP2_9 := hide (HP2_8.out.on ((Below.refl w8.heap.size w8).alloc (Nat.le_refl _) (.cells #[.int .i64 A.n, .int .i64 (A.d - 1)] 24)) HP2_8.out.lt)
    have HX0_9 := hide (HX0_8.out.on ((Below.refl w8.heap.size w8).alloc (Nat.le_refl _) (.cells #[.int .i64 A.n, .int .i64 (A.d - 1)] 24)) HX0_8.out.lt)
    have HQ0_9 := hide (HQ0_8.out.on ((Below.refl w8.heap.size w8).alloc (Nat.le_refl _) (.cells #[.int .i64 A.n, .int .i64 (A.d - 1)] 24)) HQ0_8.out.lt)
    have HX1_9 := hide (HX1_8.out.on ((Below.refl w8.heap.size w8).alloc (Nat.le_refl _) (.cells #[.int .i64 A.n, .int .i64 (A.d - 1)] 24)) HX1_8.out.lt)
    have HQ1_9 := hide (HQ1_8.out.on ((Below.refl w8.heap.size w8).alloc (Nat.le_refl _) (.cells #[.int .i64 A.n, .int .i64 (A.d - 1)] 24)) HQ1_8.out.lt)
    have HX2_9 := hide (HX2_8.out.on ((Below.refl w8.heap.size w8).alloc (Nat.le_refl _) (.cells #[.int .i64 A.n, .int .i64 (A.d - 1)] 24)) HX2_8.out.lt)
    have HQ2_9 := hide (HQ2_8.out.on ((Below.refl w8.heap.size w8).alloc (Nat.le_refl _) (.cells #[.int .i64 A.n, .int .i64 (A.d - 1)] 24)) HQ2_8.out.lt)
    have HB_9 := hide (HB_8.out.alloc HB_8.out.size (.cells #[.int .i64 A.n, .int .i64 (A.d - 1)] 24))
    have HXY_9 := hide (Two.new w8 A.n (A.d - 1) 24)
    have c0 := HX1_9.out.c0
    have c1 := HX1_9.out.c1
    have c2 := HX0_9.out.c0
    have c3 := HX0_9.out.c1
    go_wp2_with fail
    clear c0 c1 c2 c3
    generalize w8.alloc (.cells #[.int .i64 A.n, .int .i64 (A.d - 1)] 24) = w9 at HP0_9 HP1_9 HP2_9 HX0_9 HQ0_9 HX1_9 HQ1_9 HX2_9 HQ2_9 HB_9 HXY_9 ⊢
    generalize w8.heap.size = hxy at HXY_9 ⊢
    clear HP0_8 HP1_8 HP2_8 HX0_8 HQ0_8 HX1_8 HQ1_8 HX2_8 HQ2_8 HB_8
    refine (HA2.out _).mono ?_
    rintro e w10 ⟨rfl, hb⟩
    have HP0_10 := hide (HP0_9.out.on hb HP0_9.out.lt)
    have HP1_10 := hide (HP1_9.out.on hb HP1_9.out.lt)
    have HP2_10 := hide (HP2_9.out.on hb HP2_9.out.lt)
    have HX0_10 := hide (HX0_9.out.on hb HX0_9.out.lt)
    have HQ0_10 := hide (HQ0_9.out.on hb HQ0_9.out.lt)
    have HX1_10 := hide (HX1_9.out.on hb HX1_9.out.lt)
    have HQ1_10 := hide (HQ1_9.out.on hb HQ1_9.out.lt)
    have HX2_10 := hide (HX2_9.out.on hb HX2_9.out.lt)
    have HQ2_10 := hide (HQ2_9.out.on hb HQ2_9.out.lt)
    have HXY_10 := hide (HXY_9.out.on hb HXY_9.out.lt)
    have HB_10 := hide (on_tr HB_9.out hb)
    clear hb HP0_9 HP1_9 HP2_9 HX0_9 HQ0_9 HX1_9 HQ1_9 HX2_9 HQ2_9 HXY_9 HB_9
    have HP0_11 := hide (HP0_10.out.on ((Below.refl w10.heap.size w10).alloc (Nat.le_refl _) (.cells #[.int .i64 A.n, .int .i64 (A.d - 1)] 24)) HP0_10.out.lt)
    have HP1_11 := hide (HP1_10.out.on ((Below.refl w10.heap.size w10).alloc (Nat.le_refl _) (.cells #[.int .i64 A.n, .int .i64 (A.d - 1)] 24)) HP1_10.out.lt)
    have HP2_11 := hide (HP2_10.out.on ((Below.refl w10.heap.size w10).alloc (Nat.le_refl _) (.cells #[.int .i64 A.n, .int .i64 (A.d - 1)] 24)) HP2_10.out.lt)
    have HX0_11 := hide (HX0_10.out.on ((Below.refl w10.heap.size w10).alloc (Nat.le_refl _) (.cells #[.int .i64 A.n, .int .i64 (A.d - 1)] 24)) HX0_10.out.lt)
    have HQ0_11 := hide (HQ0_10.out.on ((Below.refl w10.heap.size w10).alloc (Nat.le_refl _) (.cells #[.int .i64 A.n, .int .i64 (A.d - 1)] 24)) HQ0_10.out.lt)
    have HX1_11 := hide (HX1_10.out.on ((Below.refl w10.heap.size w10).alloc (Nat.le_refl _) (.cells #[.int .i64 A.n, .int .i64 (A.d - 1)] 24)) HX1_10.out.lt)
    have HQ1_11 := hide (HQ1_10.out.on ((Below.refl w10.heap.size w10).alloc (Nat.le_refl _) (.cells #[.int .i64 A.n, .int .i64 (A.d - 1)] 24)) HQ1_10.out.lt)
    have HX2_11 := hide (HX2_10.out.on ((Below.refl w10.heap.size w10).alloc (Nat.le_refl _) (.cells #[.int .i64 A.n, .int .i64 (A.d - 1)] 24)) HX2_10.out.lt)
    have HQ2_11 := hide (HQ2_10.out.on ((Below.refl w10.heap.size w10).alloc (Nat.le_refl _) (.cells #[.int .i64 A.n, .int .i64 (A.d - 1)] 24)) HQ2_10.out.lt)
    have HXY_11 := hide (HXY_10.out.on ((Below.refl w10.heap.size w10).alloc (Nat.le_refl _) (.cells #[.int .i64 A.n, .int .i64 (A.d - 1)] 24)) HXY_10.out.lt)
    have HB_11 := hide (HB_10.out.alloc HB_10.out.size (.cells #[.int .i64 A.n, .int .i64 (A.d - 1)] 24))
    have HYX_11 := hide (Two.new w10 A.n (A.d - 1) 24)
    have c0 := HX0_11.out.c0
    have c1 := HX0_11.out.c1
    have c2 := HX1_11.out.c0
    have c3 := HX1_11.out.c1
    go_wp2_with fail
    clear c0 c1 c2 c3
    generalize w10.alloc (.cells #[.int .i64 A.n, .int .i64 (A.d - 1)] 24) = w11 at HP0_11 HP1_11 HP2_11 HX0_11 HQ0_11 HX1_11 HQ1_11 HX2_11 HQ2_11 HXY_11 HB_11 HYX_11 ⊢
    generalize w10.heap.size = hyx at HYX_11 ⊢
    clear HP0_10 HP1_10 HP2_10 HX0_10 HQ0_10 HX1_10 HQ1_10 HX2_10 HQ2_10 HXY_10 HB_10
    refine (HM.out _).mono ?_
    rintro e w12 ⟨rfl, hb⟩
    have HP0_12 := hide (HP0_11.out.on hb HP0_11.out.lt)
    have HP1_12 := hide (HP1_11.out.on hb HP1_11.out.lt)
    have HP2_12 := hide (HP2_11.out.on hb HP2_11.out.lt)
    have HX0_12 := hide (HX0_11.out.on hb HX0_11.out.lt)
    have HQ0_12 := hide (HQ0_11.out.on hb HQ0_11.out.lt)
    have HX1_12 := hide (HX1_11.out.on hb HX1_11.out.lt)
    have HQ1_12 := hide (HQ1_11.out.on hb HQ1_11.out.lt)
    have HX2_12 := hide (HX2_11.out.on hb HX2_11.out.lt)
    have HQ2_12 := hide (HQ2_11.out.on hb HQ2_11.out.lt)
    have HXY_12 := hide (HXY_11.out.on hb HXY_11.out.lt)
    have HYX_12 := hide (HYX_11.out.on hb HYX_11.out.lt)
    have HB_12 := hide (on_tr HB_11.out hb)
    clear hb HP0_11 HP1_11 HP2_11 HX0_11 HQ0_11 HX1_11 HQ1_11 HX2_11 HQ2_11 HXY_11 HYX_11 HB_11
    have HP0_13 := hide (HP0_12.out.on ((Below.refl w12.heap.size w12).alloc (Nat.le_refl _) (.cells #[.int .i64 M.n, .int .i64 (M.d - 1)] 24)) HP0_12.out.lt)
    have HP1_13 := hide (HP1_12.out.on ((Below.refl w12.heap.size w12).alloc (Nat.le_refl _) (.cells #[.int .i64 M.n, .int .i64 (M.d - 1)] 24)) HP1_12.out.lt)
    have HP2_13 := hide (HP2_12.out.on ((Below.refl w12.heap.size w12).alloc (Nat.le_refl _) (.cells #[.int .i64 M.n, .int .i64 (M.d - 1)] 24)) HP2_12.out.lt)
    have HX0_13 := hide (HX0_12.out.on ((Below.refl w12.heap.size w12).alloc (Nat.le_refl _) (.cells #[.int .i64 M.n, .int .i64 (M.d - 1)] 24)) HX0_12.out.lt)
    have HQ0_13 := hide (HQ0_12.out.on ((Below.refl w12.heap.size w12).alloc (Nat.le_refl _) (.cells #[.int .i64 M.n, .int .i64 (M.d - 1)] 24)) HQ0_12.out.lt)
    have HX1_13 := hide (HX1_12.out.on ((Below.refl w12.heap.size w12).alloc (Nat.le_refl _) (.cells #[.int .i64 M.n, .int .i64 (M.d - 1)] 24)) HX1_12.out.lt)
    have HQ1_13 := hide (HQ1_12.out.on ((Below.refl w12.heap.size w12).alloc (Nat.le_refl _) (.cells #[.int .i64 M.n, .int .i64 (M.d - 1)] 24)) HQ1_12.out.lt)
    have HX2_13 := hide (HX2_12.out.on ((Below.refl w12.heap.size w12).alloc (Nat.le_refl _) (.cells #[.int .i64 M.n, .int .i64 (M.d - 1)] 24)) HX2_12.out.lt)
    have HQ2_13 := hide (HQ2_12.out.on ((Below.refl w12.heap.size w12).alloc (Nat.le_refl _) (.cells #[.int .i64 M.n, .int .i64 (M.d - 1)] 24)) HQ2_12.out.lt)
    have HXY_13 := hide (HXY_12.out.on ((Below.refl w12.heap.size w12).alloc (Nat.le_refl _) (.cells #[.int .i64 M.n, .int .i64 (M.d - 1)] 24)) HXY_12.out.lt)
    have HYX_13 := hide (HYX_12.out.on ((Below.refl w12.heap.size w12).alloc (Nat.le_refl _) (.cells #[.int .i64 M.n, .int .i64 (M.d - 1)] 24)) HYX_12.out.lt)
    have HB_13 := hide (HB_12.out.alloc HB_12.out.size (.cells #[.int .i64 M.n, .int .i64 (M.d - 1)] 24))
    have HMa_13 := hide (Two.new w12 M.n (M.d - 1) 24)
    have c0 := HX1_13.out.c0
    have c1 := HX1_13.out.c1
    have c2 := HX0_13.out.c0
    have c3 := HX0_13.out.c1
    go_wp2_with fail
    clear c0 c1 c2 c3
    generalize w12.alloc (.cells #[.int .i64 M.n, .int .i64 (M.d - 1)] 24) = w13 at HP0_13 HP1_13 HP2_13 HX0_13 HQ0_13 HX1_13 HQ1_13 HX2_13 HQ2_13 HXY_13 HYX_13 HB_13 HMa_13 ⊢
    generalize w12.heap.size = hma at HMa_13 ⊢
    clear HP0_12 HP1_12 HP2_12 HX0_12 HQ0_12 HX1_12 HQ1_12 HX2_12 HQ2_12 HXY_12 HYX_12 HB_12
    refine (HM2.out _).mono ?_
    rintro e w14 ⟨rfl, hb⟩
    have HP0_14 := hide (HP0_13.out.on hb HP0_13.out.lt)
    have HP1_14 := hide (HP1_13.out.on hb HP1_13.out.lt)
    have HP2_14 := hide (HP2_13.out.on hb HP2_13.out.lt)
    have HX0_14 := hide (HX0_13.out.on hb HX0_13.out.lt)
    have HQ0_14 := hide (HQ0_13.out.on hb HQ0_13.out.lt)
    have HX1_14 := hide (HX1_13.out.on hb HX1_13.out.lt)
    have HQ1_14 := hide (HQ1_13.out.on hb HQ1_13.out.lt)
    have HX2_14 := hide (HX2_13.out.on hb HX2_13.out.lt)
    have HQ2_14 := hide (HQ2_13.out.on hb HQ2_13.out.lt)
    have HXY_14 := hide (HXY_13.out.on hb HXY_13.out.lt)
    have HYX_14 := hide (HYX_13.out.on hb HYX_13.out.lt)
    have HMa_14 := hide (HMa_13.out.on hb HMa_13.out.lt)
    have HB_14 := hide (on_tr HB_13.out hb)
    clear hb HP0_13 HP1_13 HP2_13 HX0_13 HQ0_13 HX1_13 HQ1_13 HX2_13 HQ2_13 HXY_13 HYX_13 HMa_13 HB_13
    have HP0_15 := hide (HP0_14.out.on ((Below.refl w14.heap.size w14).alloc (Nat.le_refl _) (.cells #[.int .i64 M.n, .int .i64 (M.d - 1)] 24)) HP0_14.out.lt)
    have HP1_15 := hide (HP1_14.out.on ((Below.refl w14.heap.size w14).alloc (Nat.le_refl _) (.cells #[.int .i64 M.n, .int .i64 (M.d - 1)] 24)) HP1_14.out.lt)
    have HP2_15 := hide (HP2_14.out.on ((Below.refl w14.heap.size w14).alloc (Nat.le_refl _) (.cells #[.int .i64 M.n, .int .i64 (M.d - 1)] 24)) HP2_14.out.lt)
    have HX0_15 := hide (HX0_14.out.on ((Below.refl w14.heap.size w14).alloc (Nat.le_refl _) (.cells #[.int .i64 M.n, .int .i64 (M.d - 1)] 24)) HX0_14.out.lt)
    have HQ0_15 := hide (HQ0_14.out.on ((Below.refl w14.heap.size w14).alloc (Nat.le_refl _) (.cells #[.int .i64 M.n, .int .i64 (M.d - 1)] 24)) HQ0_14.out.lt)
    have HX1_15 := hide (HX1_14.out.on ((Below.refl w14.heap.size w14).alloc (Nat.le_refl _) (.cells #[.int .i64 M.n, .int .i64 (M.d - 1)] 24)) HX1_14.out.lt)
    have HQ1_15 := hide (HQ1_14.out.on ((Below.refl w14.heap.size w14).alloc (Nat.le_refl _) (.cells #[.int .i64 M.n, .int .i64 (M.d - 1)] 24)) HQ1_14.out.lt)
    have HX2_15 := hide (HX2_14.out.on ((Below.refl w14.heap.size w14).alloc (Nat.le_refl _) (.cells #[.int .i64 M.n, .int .i64 (M.d - 1)] 24)) HX2_14.out.lt)
    have HQ2_15 := hide (HQ2_14.out.on ((Below.refl w14.heap.size w14).alloc (Nat.le_refl _) (.cells #[.int .i64 M.n, .int .i64 (M.d - 1)] 24)) HQ2_14.out.lt)
    have HXY_15 := hide (HXY_14.out.on ((Below.refl w14.heap.size w14).alloc (Nat.le_refl _) (.cells #[.int .i64 M.n, .int .i64 (M.d - 1)] 24)) HXY_14.out.lt)
    have HYX_15 := hide (HYX_14.out.on ((Below.refl w14.heap.size w14).alloc (Nat.le_refl _) (.cells #[.int .i64 M.n, .int .i64 (M.d - 1)] 24)) HYX_14.out.lt)
    have HMa_15 := hide (HMa_14.out.on ((Below.refl w14.heap.size w14).alloc (Nat.le_refl _) (.cells #[.int .i64 M.n, .int .i64 (M.d - 1)] 24)) HMa_14.out.lt)
    have HB_15 := hide (HB_14.out.alloc HB_14.out.size (.cells #[.int .i64 M.n, .int .i64 (M.d - 1)] 24))
    have HMb_15 := hide (Two.new w14 M.n (M.d - 1) 24)
    go_wp2_with fail
    generalize w14.alloc (.cells #[.int .i64 M.n, .int .i64 (M.d - 1)] 24) = w15 at HP0_15 HP1_15 HP2_15 HX0_15 HQ0_15 HX1_15 HQ1_15 HX2_15 HQ2_15 HXY_15 HYX_15 HMa_15 HB_15 HMb_15 ⊢
    generalize w14.heap.size = hmb at HMb_15 ⊢
    clear HP0_14 HP1_14 HP2_14 HX0_14 HQ0_14 HX1_14 HQ1_14 HX2_14 HQ2_14 HXY_14 HYX_14 HMa_14 HB_14
    have HTT := hide (HT.out.on HB_15.out)
    refine (HK.out _ HTT.out).mono ?_
    clear HTT
    rintro e w16 ⟨rfl, hb⟩
    have HP0_16 := hide (HP0_15.out.on hb HP0_15.out.lt)
    have HP1_16 := hide (HP1_15.out.on hb HP1_15.out.lt)
    have HP2_16 := hide (HP2_15.out.on hb HP2_15.out.lt)
    have HX0_16 := hide (HX0_15.out.on hb HX0_15.out.lt)
    have HQ0_16 := hide (HQ0_15.out.on hb HQ0_15.out.lt)
    have HX1_16 := hide (HX1_15.out.on hb HX1_15.out.lt)
    have HQ1_16 := hide (HQ1_15.out.on hb HQ1_15.out.lt)
    have HX2_16 := hide (HX2_15.out.on hb HX2_15.out.lt)
    have HQ2_16 := hide (HQ2_15.out.on hb HQ2_15.out.lt)
    have HXY_16 := hide (HXY_15.out.on hb HXY_15.out.lt)
    have HYX_16 := hide (HYX_15.out.on hb HYX_15.out.lt)
    have HMa_16 := hide (HMa_15.out.on hb HMa_15.out.lt)
    have HMb_16 := hide (HMb_15.out.on hb HMb_15.out.lt)
    have HB_16 := hide (on_tr HB_15.out hb)
    clear hb HP0_15 HP1_15 HP2_15 HX0_15 HQ0_15 HX1_15 HQ1_15 HX2_15 HQ2_15 HXY_15 HYX_15 HMa_15 HMb_15 HB_15
    have c0 := HXY_16.out.c0
    have c1 := HXY_16.out.c1
    have c2 := HYX_16.out.c0
    have c3 := HYX_16.out.c1
    have c4 := HMa_16.out.c0
    have c5 := HMa_16.out.c1
    have c6 := HMb_16.out.c0
    have c7 := HMb_16.out.c1
    have c8 := HX1_16.out.c0
    have c9 := HX1_16.out.c1
    have c10 := HX2_16.out.c0
    have c11 := HX2_16.out.c1
    go_wp2_with fail
    clear c0 c1 c2 c3 c4 c5 c6 c7 c8 c9 c10 c11
    clear HQ0_16 HQ1_16 HQ2_16 HP0_16 HP1_16 HP2_16 HYX_16 HMb_16
    refine (HBc.out _).mono ?_
    rintro e w17 ⟨rfl, hb⟩
    have HX0_17 := hide (HX0_16.out.on hb HX0_16.out.lt)
    have HX1_17 := hide (HX1_16.out.on hb HX1_16.out.lt)
    have HX2_17 := hide (HX2_16.out.on hb HX2_16.out.lt)
    have HXY_17 := hide (HXY_16.out.on hb HXY_16.out.lt)
    have HMa_17 := hide (HMa_16.out.on hb HMa_16.out.lt)
    have HB_17 := hide (on_tr HB_16.out hb)
    clear hb HX0_16 HX1_16 HX2_16 HXY_16 HMa_16 HB_16
    have HX0_18 := hide (HX0_17.out.on ((Below.refl w17.heap.size w17).alloc (Nat.le_refl _) (.cells #[.int .i64 B.n, .int .i64 (B.d - 1)] 24)) HX0_17.out.lt)
    have HX1_18 := hide (HX1_17.out.on ((Below.refl w17.heap.size w17).alloc (Nat.le_refl _) (.cells #[.int .i64 B.n, .int .i64 (B.d - 1)] 24)) HX1_17.out.lt)
    have HX2_18 := hide (HX2_17.out.on ((Below.refl w17.heap.size w17).alloc (Nat.le_refl _) (.cells #[.int .i64 B.n, .int .i64 (B.d - 1)] 24)) HX2_17.out.lt)
    have HXY_18 := hide (HXY_17.out.on ((Below.refl w17.heap.size w17).alloc (Nat.le_refl _) (.cells #[.int .i64 B.n, .int .i64 (B.d - 1)] 24)) HXY_17.out.lt)
    have HMa_18 := hide (HMa_17.out.on ((Below.refl w17.heap.size w17).alloc (Nat.le_refl _) (.cells #[.int .i64 B.n, .int .i64 (B.d - 1)] 24)) HMa_17.out.lt)
    have HB_18 := hide (HB_17.out.alloc HB_17.out.size (.cells #[.int .i64 B.n, .int .i64 (B.d - 1)] 24))
    have HYZ_18 := hide (Two.new w17 B.n (B.d - 1) 24)
    have c0 := HXY_18.out.c0
    have c1 := HXY_18.out.c1
    have c2 := HX2_18.out.c0
    have c3 := HX2_18.out.c1
    go_wp2_with fail
    clear c0 c1 c2 c3
    generalize w17.alloc (.cells #[.int .i64 B.n, .int .i64 (B.d - 1)] 24) = w18 at HX0_18 HX1_18 HX2_18 HXY_18 HMa_18 HB_18 HYZ_18 ⊢
    generalize w17.heap.size = hyz at HYZ_18 ⊢
    clear HX0_17 HX1_17 HX2_17 HXY_17 HMa_17 HB_17
    refine (HLc.out _).mono ?_
    rintro e w19 ⟨rfl, hb⟩
    have HX0_19 := hide (HX0_18.out.on hb HX0_18.out.lt)
    have HX1_19 := hide (HX1_18.out.on hb HX1_18.out.lt)
    have HX2_19 := hide (HX2_18.out.on hb HX2_18.out.lt)
    have HXY_19 := hide (HXY_18.out.on hb HXY_18.out.lt)
    have HMa_19 := hide (HMa_18.out.on hb HMa_18.out.lt)
    have HYZ_19 := hide (HYZ_18.out.on hb HYZ_18.out.lt)
    have HB_19 := hide (on_tr HB_18.out hb)
    clear hb HX0_18 HX1_18 HX2_18 HXY_18 HMa_18 HYZ_18 HB_18
    have HX0_20 := hide (HX0_19.out.on ((Below.refl w19.heap.size w19).alloc (Nat.le_refl _) (.cells #[.int .i64 L.n, .int .i64 (L.d - 1)] 24)) HX0_19.out.lt)
    have HX1_20 := hide (HX1_19.out.on ((Below.refl w19.heap.size w19).alloc (Nat.le_refl _) (.cells #[.int .i64 L.n, .int .i64 (L.d - 1)] 24)) HX1_19.out.lt)
    have HX2_20 := hide (HX2_19.out.on ((Below.refl w19.heap.size w19).alloc (Nat.le_refl _) (.cells #[.int .i64 L.n, .int .i64 (L.d - 1)] 24)) HX2_19.out.lt)
    have HXY_20 := hide (HXY_19.out.on ((Below.refl w19.heap.size w19).alloc (Nat.le_refl _) (.cells #[.int .i64 L.n, .int .i64 (L.d - 1)] 24)) HXY_19.out.lt)
    have HMa_20 := hide (HMa_19.out.on ((Below.refl w19.heap.size w19).alloc (Nat.le_refl _) (.cells #[.int .i64 L.n, .int .i64 (L.d - 1)] 24)) HMa_19.out.lt)
    have HYZ_20 := hide (HYZ_19.out.on ((Below.refl w19.heap.size w19).alloc (Nat.le_refl _) (.cells #[.int .i64 L.n, .int .i64 (L.d - 1)] 24)) HYZ_19.out.lt)
    have HB_20 := hide (HB_19.out.alloc HB_19.out.size (.cells #[.int .i64 L.n, .int .i64 (L.d - 1)] 24))
    have HL1_20 := hide (Two.new w19 L.n (L.d - 1) 24)
    have c0 := HX0_20.out.c0
    have c1 := HX0_20.out.c1
    have c2 := HYZ_20.out.c0
    have c3 := HYZ_20.out.c1
    go_wp2_with fail
    clear c0 c1 c2 c3
    generalize w19.alloc (.cells #[.int .i64 L.n, .int .i64 (L.d - 1)] 24) = w20 at HX0_20 HX1_20 HX2_20 HXY_20 HMa_20 HYZ_20 HB_20 HL1_20 ⊢
    generalize w19.heap.size = hl1 at HL1_20 ⊢
    clear HX0_19 HX1_19 HX2_19 HXY_19 HMa_19 HYZ_19 HB_19
    clear HXY_20 HX1_20
    refine (HRc.out _).mono ?_
    rintro e w21 ⟨rfl, hb⟩
    have HX0_21 := hide (HX0_20.out.on hb HX0_20.out.lt)
    have HX2_21 := hide (HX2_20.out.on hb HX2_20.out.lt)
    have HMa_21 := hide (HMa_20.out.on hb HMa_20.out.lt)
    have HYZ_21 := hide (HYZ_20.out.on hb HYZ_20.out.lt)
    have HL1_21 := hide (HL1_20.out.on hb HL1_20.out.lt)
    have HB_21 := hide (on_tr HB_20.out hb)
    clear hb HX0_20 HX2_20 HMa_20 HYZ_20 HL1_20 HB_20
    have HX0_22 := hide (HX0_21.out.on ((Below.refl w21.heap.size w21).alloc (Nat.le_refl _) (.cells #[.int .i64 R.n, .int .i64 (R.d - 1)] 24)) HX0_21.out.lt)
    have HX2_22 := hide (HX2_21.out.on ((Below.refl w21.heap.size w21).alloc (Nat.le_refl _) (.cells #[.int .i64 R.n, .int .i64 (R.d - 1)] 24)) HX2_21.out.lt)
    have HMa_22 := hide (HMa_21.out.on ((Below.refl w21.heap.size w21).alloc (Nat.le_refl _) (.cells #[.int .i64 R.n, .int .i64 (R.d - 1)] 24)) HMa_21.out.lt)
    have HYZ_22 := hide (HYZ_21.out.on ((Below.refl w21.heap.size w21).alloc (Nat.le_refl _) (.cells #[.int .i64 R.n, .int .i64 (R.d - 1)] 24)) HYZ_21.out.lt)
    have HL1_22 := hide (HL1_21.out.on ((Below.refl w21.heap.size w21).alloc (Nat.le_refl _) (.cells #[.int .i64 R.n, .int .i64 (R.d - 1)] 24)) HL1_21.out.lt)
    have HB_22 := hide (HB_21.out.alloc HB_21.out.size (.cells #[.int .i64 R.n, .int .i64 (R.d - 1)] 24))
    have HR1_22 := hide (Two.new w21 R.n (R.d - 1) 24)
    have c0 := HL1_22.out.c0
    have c1 := HL1_22.out.c1
    have c2 := HR1_22.out.c0
    have c3 := HR1_22.out.c1
    have c4 := HX0_22.out.c0
    have c5 := HX0_22.out.c1
    have c6 := HX2_22.out.c0
    have c7 := HX2_22.out.c1
    go_wp2_with fail
    clear c0 c1 c2 c3 c4 c5 c6 c7
    generalize w21.alloc (.cells #[.int .i64 R.n, .int .i64 (R.d - 1)] 24) = w22 at HX0_22 HX2_22 HMa_22 HYZ_22 HL1_22 HB_22 HR1_22 ⊢
    generalize w21.heap.size = hr1 at HR1_22 ⊢
    clear HX0_21 HX2_21 HMa_21 HYZ_21 HL1_21 HB_21
    clear HL1_22 HR1_22 HX2_22
    refine (HXc.out _).mono ?_
    rintro e w23 ⟨rfl, hb⟩
    have HX0_23 := hide (HX0_22.out.on hb HX0_22.out.lt)
    have HMa_23 := hide (HMa_22.out.on hb HMa_22.out.lt)
    have HYZ_23 := hide (HYZ_22.out.on hb HYZ_22.out.lt)
    have HB_23 := hide (on_tr HB_22.out hb)
    clear hb HX0_22 HMa_22 HYZ_22 HB_22
    have HX0_24 := hide (HX0_23.out.on ((Below.refl w23.heap.size w23).alloc (Nat.le_refl _) (.cells #[.int .i64 X.n, .int .i64 (X.d - 1)] 24)) HX0_23.out.lt)
    have HMa_24 := hide (HMa_23.out.on ((Below.refl w23.heap.size w23).alloc (Nat.le_refl _) (.cells #[.int .i64 X.n, .int .i64 (X.d - 1)] 24)) HMa_23.out.lt)
    have HYZ_24 := hide (HYZ_23.out.on ((Below.refl w23.heap.size w23).alloc (Nat.le_refl _) (.cells #[.int .i64 X.n, .int .i64 (X.d - 1)] 24)) HYZ_23.out.lt)
    have HB_24 := hide (HB_23.out.alloc HB_23.out.size (.cells #[.int .i64 X.n, .int .i64 (X.d - 1)] 24))
    have HXZ_24 := hide (Two.new w23 X.n (X.d - 1) 24)
    have c0 := HX0_24.out.c0
    have c1 := HX0_24.out.c1
    have c2 := HYZ_24.out.c0
    have c3 := HYZ_24.out.c1
    go_wp2_with fail
    clear c0 c1 c2 c3
    generalize w23.alloc (.cells #[.int .i64 X.n, .int .i64 (X.d - 1)] 24) = w24 at HX0_24 HMa_24 HYZ_24 HB_24 HXZ_24 ⊢
    generalize w23.heap.size = hxz at HXZ_24 ⊢
    clear HX0_23 HMa_23 HYZ_23 HB_23
    refine (HPc.out _).mono ?_
    rintro e w25 ⟨rfl, hb⟩
    have HX0_25 := hide (HX0_24.out.on hb HX0_24.out.lt)
    have HMa_25 := hide (HMa_24.out.on hb HMa_24.out.lt)
    have HYZ_25 := hide (HYZ_24.out.on hb HYZ_24.out.lt)
    have HXZ_25 := hide (HXZ_24.out.on hb HXZ_24.out.lt)
    have HB_25 := hide (on_tr HB_24.out hb)
    clear hb HX0_24 HMa_24 HYZ_24 HXZ_24 HB_24
    have HX0_26 := hide (HX0_25.out.on ((Below.refl w25.heap.size w25).alloc (Nat.le_refl _) (.cells #[.int .i64 P.n, .int .i64 (P.d - 1)] 24)) HX0_25.out.lt)
    have HMa_26 := hide (HMa_25.out.on ((Below.refl w25.heap.size w25).alloc (Nat.le_refl _) (.cells #[.int .i64 P.n, .int .i64 (P.d - 1)] 24)) HMa_25.out.lt)
    have HYZ_26 := hide (HYZ_25.out.on ((Below.refl w25.heap.size w25).alloc (Nat.le_refl _) (.cells #[.int .i64 P.n, .int .i64 (P.d - 1)] 24)) HYZ_25.out.lt)
    have HXZ_26 := hide (HXZ_25.out.on ((Below.refl w25.heap.size w25).alloc (Nat.le_refl _) (.cells #[.int .i64 P.n, .int .i64 (P.d - 1)] 24)) HXZ_25.out.lt)
    have HB_26 := hide (HB_25.out.alloc HB_25.out.size (.cells #[.int .i64 P.n, .int .i64 (P.d - 1)] 24))
    have HPx_26 := hide (Two.new w25 P.n (P.d - 1) 24)
    have c0 := HMa_26.out.c0
    have c1 := HMa_26.out.c1
    have c2 := HXZ_26.out.c0
    have c3 := HXZ_26.out.c1
    go_wp2_with fail
    clear c0 c1 c2 c3
    generalize w25.alloc (.cells #[.int .i64 P.n, .int .i64 (P.d - 1)] 24) = w26 at HX0_26 HMa_26 HYZ_26 HXZ_26 HB_26 HPx_26 ⊢
    generalize w25.heap.size = hpx at HPx_26 ⊢
    clear HX0_25 HMa_25 HYZ_25 HXZ_25 HB_25
    refine (HSc.out _).mono ?_
    rintro e w27 ⟨rfl, hb⟩
    have HX0_27 := hide (HX0_26.out.on hb HX0_26.out.lt)
    have HMa_27 := hide (HMa_26.out.on hb HMa_26.out.lt)
    have HYZ_27 := hide (HYZ_26.out.on hb HYZ_26.out.lt)
    have HXZ_27 := hide (HXZ_26.out.on hb HXZ_26.out.lt)
    have HPx_27 := hide (HPx_26.out.on hb HPx_26.out.lt)
    have HB_27 := hide (on_tr HB_26.out hb)
    clear hb HX0_26 HMa_26 HYZ_26 HXZ_26 HPx_26 HB_26
    have HX0_28 := hide (HX0_27.out.on ((Below.refl w27.heap.size w27).alloc (Nat.le_refl _) (.cells #[.int .i64 S.n, .int .i64 (S.d - 1)] 24)) HX0_27.out.lt)
    have HMa_28 := hide (HMa_27.out.on ((Below.refl w27.heap.size w27).alloc (Nat.le_refl _) (.cells #[.int .i64 S.n, .int .i64 (S.d - 1)] 24)) HMa_27.out.lt)
    have HYZ_28 := hide (HYZ_27.out.on ((Below.refl w27.heap.size w27).alloc (Nat.le_refl _) (.cells #[.int .i64 S.n, .int .i64 (S.d - 1)] 24)) HYZ_27.out.lt)
    have HXZ_28 := hide (HXZ_27.out.on ((Below.refl w27.heap.size w27).alloc (Nat.le_refl _) (.cells #[.int .i64 S.n, .int .i64 (S.d - 1)] 24)) HXZ_27.out.lt)
    have HPx_28 := hide (HPx_27.out.on ((Below.refl w27.heap.size w27).alloc (Nat.le_refl _) (.cells #[.int .i64 S.n, .int .i64 (S.d - 1)] 24)) HPx_27.out.lt)
    have HB_28 := hide (HB_27.out.alloc HB_27.out.size (.cells #[.int .i64 S.n, .int .i64 (S.d - 1)] 24))
    have HSm_28 := hide (Two.new w27 S.n (S.d - 1) 24)
    have c0 := HPx_28.out.c0
    have c1 := HPx_28.out.c1
    have c2 := HSm_28.out.c0
    have c3 := HSm_28.out.c1
    go_wp2_with fail
    clear c0 c1 c2 c3
    generalize w27.alloc (.cells #[.int .i64 S.n, .int .i64 (S.d - 1)] 24) = w28 at HX0_28 HMa_28 HYZ_28 HXZ_28 HPx_28 HB_28 HSm_28 ⊢
    generalize w27.heap.size = hsm at HSm_28 ⊢
    clear HX0_27 HMa_27 HYZ_27 HXZ_27 HPx_27 HB_27
    go_ret
    exact ⟨by first | rfl | simp, HB_28.out⟩

end Go.Proofs.YtfappkhohddcjaaDoor
