/- The walk of RationalArithmetic. -/
import Derived.Test.YtfappkhohddcjaaDoorOfL
import Derived.Test.YtfappkhohddcjaaDoorKeep2
import Derived.Test.YtfappkhohddcjaaDoorKn01
namespace Go.Proofs.YtfappkhohddcjaaDoor
open Go.RowKit

set_option maxRecDepth 100000 in
set_option maxHeartbeats 16000000 in
theorem rationalArithmetic_walk (a0 b0 : Int) (_ : i64r a0) (_ : i64r b0) (a1 b1 : Int) (_ : i64r a1) (_ : i64r b1) (w : World) (ht : Tab w) :
    Calls Tryd.prog 9 #[.agg #[.int .i64 a0, .int .i64 b0], .agg #[.int .i64 a1, .int .i64 b1]] w fun e w' => e = .returned (.bool true) ∧ Below w.heap.size w w' := by
  have HT := hide ht
  have HO0 := hide (fun W => of_any a0 b0 W)
  have HLF := hide (show Low (ofF (clN a0) (clD b0)).n (ofF (clN a0) (clD b0)).d from (ofF_val (cl_low a0 b0)).2.2)
  generalize ofF (clN a0) (clD b0) = F at HO0 HLF
  have HO1 := hide (fun W => of_any a1 b1 W)
  have HLG := hide (show Low (ofF (clN a1) (clD b1)).n (ofF (clN a1) (clD b1)).d from (ofF_val (cl_low a1 b1)).2.2)
  generalize ofF (clN a1) (clD b1) = G at HO1 HLG
  have HK := hide (fun W (h : Tab W) => known_any W h)
  have HA := hide (fun W => Add_any F.n F.d G.n G.d W HLF.out.q HLG.out.q)
  have HRA := hide (fun W => RAdd_any F.n F.d G.n G.d W HLF.out.q HLG.out.q)
  have HSu := hide (fun W => Sub_any F.n F.d G.n G.d W HLF.out.q HLG.out.q)
  have hgn : Fq (-G.n) G.d := by obtain ⟨q1, q2, q3, q4⟩ := HLG.out.q; exact ⟨by omega, by omega, q3, q4⟩
  have hfn : Fq (-F.n) F.d := by obtain ⟨q1, q2, q3, q4⟩ := HLF.out.q; exact ⟨by omega, by omega, q3, q4⟩
  have hgb : bigr G.n := by obtain ⟨q1, q2, q3, q4⟩ := HLG.out.q; exact ⟨by omega, by omega⟩
  have hfb : bigr F.n := by obtain ⟨q1, q2, q3, q4⟩ := HLF.out.q; exact ⟨by omega, by omega⟩
  have HRN := hide (fun W => RNeg_any G.n G.d W hgb)
  have HRA2 := hide (fun W => RAdd_any F.n F.d (-G.n) G.d W HLF.out.q hgn)
  have HM := hide (fun W => Mul_any F.n F.d G.n G.d W HLF.out.q HLG.out.q)
  have HRM := hide (fun W => RMul_any F.n F.d G.n G.d W HLF.out.q HLG.out.q)
  have HDv := hide (fun W => Div_any F.n F.d G.n G.d W HLF.out.q HLG.out.q)
  have HRD := hide (fun W => RDiv_any F.n F.d G.n G.d W HLF.out.q HLG.out.q)
  have HNg := hide (fun W => Neg_any F.n (F.d - 1) W hfb)
  have HRNg := hide (fun W => RNeg_any F.n F.d W hfb)
  have HS5 := hide (fun W => same_ok (-F.n) F.d W hfn)
  have HSA := hide (fun W => same_any (ofF (F.n * G.d + G.n * F.d) (F.d * G.d)) W (ofF_fq _ _) (ofF_err _ _))
  have HSB := hide (fun W => same_any (ofF (F.n * G.d + -G.n * F.d) (F.d * G.d)) W (ofF_fq _ _) (ofF_err _ _))
  have HSC := hide (fun W => same_any (ofF (F.n * G.n) (F.d * G.d)) W (ofF_fq _ _) (ofF_err _ _))
  have HSD := hide (fun W => same_any (ofF (F.n * G.d) (F.d * G.n)) W (ofF_fq _ _) (ofF_err _ _))
  generalize ofF (F.n * G.d + G.n * F.d) (F.d * G.d) = A at HA HRA HSA
  generalize ofF (F.n * G.d + -G.n * F.d) (F.d * G.d) = B at HSu HRA2 HSB
  generalize ofF (F.n * G.n) (F.d * G.d) = C at HM HRM HSC
  generalize ofF (F.n * G.d) (F.d * G.n) = D at HDv HRD HSD
  clear ht hgn hfn hgb hfb
  have HB_0 := hide (Below.refl w.heap.size w)
  go_enter Tryd.func9, Tryd.ntmps9
  go_wp2_with fail
  have HB_1 := hide (box2_bel w a0 b0 a1 b1 22)
  have HP0_1 := hide (box2_0 w a0 b0 a1 b1 22)
  have HP1_1 := hide (box2_1 w a0 b0 a1 b1 22)
  generalize ((w.alloc (.cells #[.int .i64 a0, .int .i64 b0] 22)).alloc (.cells #[.int .i64 a1, .int .i64 b1] 22)) = w1 at HB_1 HP0_1 HP1_1 ⊢
  clear HB_0
  have c0 := HP0_1.out.c0
  have c1 := HP0_1.out.c1
  go_wp2_with fail
  clear c0 c1
  refine (HO0.out _).mono ?_
  rintro e w2 ⟨rfl, hb⟩
  have HP0_2 := hide (HP0_1.out.on hb HP0_1.out.lt)
  have HP1_2 := hide (HP1_1.out.on hb HP1_1.out.lt)
  have HB_2 := hide (on_tr HB_1.out hb)
  clear hb HP0_1 HP1_1 HB_1
  have HP0_3 := hide ((HP0_2.out.on ((Below.refl w2.heap.size w2).alloc (Nat.le_refl _) (.cells #[.int .i64 F.n, .int .i64 (F.d - 1)] 24)) HP0_2.out.lt).on ((Below.refl _ _).alloc (Nat.le_refl _) (.cells #[.int .i64 F.n, .int .i64 F.d] 26)) (by have := HP0_2.out.lt; simp; omega))
  have HP1_3 := hide ((HP1_2.out.on ((Below.refl w2.heap.size w2).alloc (Nat.le_refl _) (.cells #[.int .i64 F.n, .int .i64 (F.d - 1)] 24)) HP1_2.out.lt).on ((Below.refl _ _).alloc (Nat.le_refl _) (.cells #[.int .i64 F.n, .int .i64 F.d] 26)) (by have := HP1_2.out.lt; simp; omega))
  have HB_3 := hide ((HB_2.out.alloc HB_2.out.size (.cells #[.int .i64 F.n, .int .i64 (F.d - 1)] 24)).alloc (by have := HB_2.out.size; simp; omega) (.cells #[.int .i64 F.n, .int .i64 F.d] 26))
  have HP := hide (S2.new2 w2 F.n (F.d - 1) F.n F.d 24 26)
  have HX0_3 := hide HP.out.tx
  have HQ0_3 := hide HP.out.ty
  clear HP
  have c0 := HP1_3.out.c0
  have c1 := HP1_3.out.c1
  go_wp2_with fail
  clear c0 c1
  generalize (w2.alloc (.cells #[.int .i64 F.n, .int .i64 (F.d - 1)] 24)).alloc (.cells #[.int .i64 F.n, .int .i64 F.d] 26) = w3 at HP0_3 HP1_3 HB_3 HX0_3 HQ0_3 ⊢
  generalize w2.heap.size = hx0 at HX0_3 HQ0_3 ⊢
  clear HP0_2 HP1_2 HB_2
  refine (HO1.out _).mono ?_
  rintro e w4 ⟨rfl, hb⟩
  have HP0_4 := hide (HP0_3.out.on hb HP0_3.out.lt)
  have HP1_4 := hide (HP1_3.out.on hb HP1_3.out.lt)
  have HX0_4 := hide (HX0_3.out.on hb HX0_3.out.lt)
  have HQ0_4 := hide (HQ0_3.out.on hb HQ0_3.out.lt)
  have HB_4 := hide (on_tr HB_3.out hb)
  clear hb HP0_3 HP1_3 HX0_3 HQ0_3 HB_3
  have HP0_5 := hide ((HP0_4.out.on ((Below.refl w4.heap.size w4).alloc (Nat.le_refl _) (.cells #[.int .i64 G.n, .int .i64 (G.d - 1)] 24)) HP0_4.out.lt).on ((Below.refl _ _).alloc (Nat.le_refl _) (.cells #[.int .i64 G.n, .int .i64 G.d] 26)) (by have := HP0_4.out.lt; simp; omega))
  have HP1_5 := hide ((HP1_4.out.on ((Below.refl w4.heap.size w4).alloc (Nat.le_refl _) (.cells #[.int .i64 G.n, .int .i64 (G.d - 1)] 24)) HP1_4.out.lt).on ((Below.refl _ _).alloc (Nat.le_refl _) (.cells #[.int .i64 G.n, .int .i64 G.d] 26)) (by have := HP1_4.out.lt; simp; omega))
  have HX0_5 := hide ((HX0_4.out.on ((Below.refl w4.heap.size w4).alloc (Nat.le_refl _) (.cells #[.int .i64 G.n, .int .i64 (G.d - 1)] 24)) HX0_4.out.lt).on ((Below.refl _ _).alloc (Nat.le_refl _) (.cells #[.int .i64 G.n, .int .i64 G.d] 26)) (by have := HX0_4.out.lt; simp; omega))
  have HQ0_5 := hide ((HQ0_4.out.on ((Below.refl w4.heap.size w4).alloc (Nat.le_refl _) (.cells #[.int .i64 G.n, .int .i64 (G.d - 1)] 24)) HQ0_4.out.lt).on ((Below.refl _ _).alloc (Nat.le_refl _) (.cells #[.int .i64 G.n, .int .i64 G.d] 26)) (by have := HQ0_4.out.lt; simp; omega))
  have HB_5 := hide ((HB_4.out.alloc HB_4.out.size (.cells #[.int .i64 G.n, .int .i64 (G.d - 1)] 24)).alloc (by have := HB_4.out.size; simp; omega) (.cells #[.int .i64 G.n, .int .i64 G.d] 26))
  have HP := hide (S2.new2 w4 G.n (G.d - 1) G.n G.d 24 26)
  have HX1_5 := hide HP.out.tx
  have HQ1_5 := hide HP.out.ty
  clear HP
  have c0 := HX0_5.out.c0
  have c1 := HX0_5.out.c1
  have c2 := HX1_5.out.c0
  have c3 := HX1_5.out.c1
  go_wp2_with fail
  clear c0 c1 c2 c3
  generalize (w4.alloc (.cells #[.int .i64 G.n, .int .i64 (G.d - 1)] 24)).alloc (.cells #[.int .i64 G.n, .int .i64 G.d] 26) = w5 at HP0_5 HP1_5 HX0_5 HQ0_5 HB_5 HX1_5 HQ1_5 ⊢
  generalize w4.heap.size = hx1 at HX1_5 HQ1_5 ⊢
  clear HP0_4 HP1_4 HX0_4 HQ0_4 HB_4
  refine (HA.out _).mono ?_
  rintro e w6 ⟨rfl, hb⟩
  have HP0_6 := hide (HP0_5.out.on hb HP0_5.out.lt)
  have HP1_6 := hide (HP1_5.out.on hb HP1_5.out.lt)
  have HX0_6 := hide (HX0_5.out.on hb HX0_5.out.lt)
  have HQ0_6 := hide (HQ0_5.out.on hb HQ0_5.out.lt)
  have HX1_6 := hide (HX1_5.out.on hb HX1_5.out.lt)
  have HQ1_6 := hide (HQ1_5.out.on hb HQ1_5.out.lt)
  have HB_6 := hide (on_tr HB_5.out hb)
  clear hb HP0_5 HP1_5 HX0_5 HQ0_5 HX1_5 HQ1_5 HB_5
  have HP0_7 := hide (HP0_6.out.on ((Below.refl w6.heap.size w6).alloc (Nat.le_refl _) (.cells #[.int .i64 A.n, .int .i64 (A.d - 1)] 24)) HP0_6.out.lt)
  have HP1_7 := hide (HP1_6.out.on ((Below.refl w6.heap.size w6).alloc (Nat.le_refl _) (.cells #[.int .i64 A.n, .int .i64 (A.d - 1)] 24)) HP1_6.out.lt)
  have HX0_7 := hide (HX0_6.out.on ((Below.refl w6.heap.size w6).alloc (Nat.le_refl _) (.cells #[.int .i64 A.n, .int .i64 (A.d - 1)] 24)) HX0_6.out.lt)
  have HQ0_7 := hide (HQ0_6.out.on ((Below.refl w6.heap.size w6).alloc (Nat.le_refl _) (.cells #[.int .i64 A.n, .int .i64 (A.d - 1)] 24)) HQ0_6.out.lt)
  have HX1_7 := hide (HX1_6.out.on ((Below.refl w6.heap.size w6).alloc (Nat.le_refl _) (.cells #[.int .i64 A.n, .int .i64 (A.d - 1)] 24)) HX1_6.out.lt)
  have HQ1_7 := hide (HQ1_6.out.on ((Below.refl w6.heap.size w6).alloc (Nat.le_refl _) (.cells #[.int .i64 A.n, .int .i64 (A.d - 1)] 24)) HQ1_6.out.lt)
  have HB_7 := hide (HB_6.out.alloc HB_6.out.size (.cells #[.int .i64 A.n, .int .i64 (A.d - 1)] 24))
  have HS1_7 := hide (Two.new w6 A.n (A.d - 1) 24)
  have c0 := HQ0_7.out.c0
  have c1 := HQ0_7.out.c1
  have c2 := HQ1_7.out.c0
  have c3 := HQ1_7.out.c1
  go_wp2_with fail
  clear c0 c1 c2 c3
  generalize w6.alloc (.cells #[.int .i64 A.n, .int .i64 (A.d - 1)] 24) = w7 at HP0_7 HP1_7 HX0_7 HQ0_7 HX1_7 HQ1_7 HB_7 HS1_7 ⊢
  generalize w6.heap.size = hs1 at HS1_7 ⊢
  clear HP0_6 HP1_6 HX0_6 HQ0_6 HX1_6 HQ1_6 HB_6
  refine (HRA.out _).mono ?_
  rintro e w8 ⟨rfl, hb⟩
  have HP0_8 := hide (HP0_7.out.on hb HP0_7.out.lt)
  have HP1_8 := hide (HP1_7.out.on hb HP1_7.out.lt)
  have HX0_8 := hide (HX0_7.out.on hb HX0_7.out.lt)
  have HQ0_8 := hide (HQ0_7.out.on hb HQ0_7.out.lt)
  have HX1_8 := hide (HX1_7.out.on hb HX1_7.out.lt)
  have HQ1_8 := hide (HQ1_7.out.on hb HQ1_7.out.lt)
  have HS1_8 := hide (HS1_7.out.on hb HS1_7.out.lt)
  have HB_8 := hide (on_tr HB_7.out hb)
  clear hb HP0_7 HP1_7 HX0_7 HQ0_7 HX1_7 HQ1_7 HS1_7 HB_7
  have HP0_9 := hide (HP0_8.out.on ((Below.refl w8.heap.size w8).alloc (Nat.le_refl _) (.cells #[.int .i64 A.n, .int .i64 A.d] 26)) HP0_8.out.lt)
  have HP1_9 := hide (HP1_8.out.on ((Below.refl w8.heap.size w8).alloc (Nat.le_refl _) (.cells #[.int .i64 A.n, .int .i64 A.d] 26)) HP1_8.out.lt)
  have HX0_9 := hide (HX0_8.out.on ((Below.refl w8.heap.size w8).alloc (Nat.le_refl _) (.cells #[.int .i64 A.n, .int .i64 A.d] 26)) HX0_8.out.lt)
  have HQ0_9 := hide (HQ0_8.out.on ((Below.refl w8.heap.size w8).alloc (Nat.le_refl _) (.cells #[.int .i64 A.n, .int .i64 A.d] 26)) HQ0_8.out.lt)
  have HX1_9 := hide (HX1_8.out.on ((Below.refl w8.heap.size w8).alloc (Nat.le_refl _) (.cells #[.int .i64 A.n, .int .i64 A.d] 26)) HX1_8.out.lt)
  have HQ1_9 := hide (HQ1_8.out.on ((Below.refl w8.heap.size w8).alloc (Nat.le_refl _) (.cells #[.int .i64 A.n, .int .i64 A.d] 26)) HQ1_8.out.lt)
  have HS1_9 := hide (HS1_8.out.on ((Below.refl w8.heap.size w8).alloc (Nat.le_refl _) (.cells #[.int .i64 A.n, .int .i64 A.d] 26)) HS1_8.out.lt)
  have HB_9 := hide (HB_8.out.alloc HB_8.out.size (.cells #[.int .i64 A.n, .int .i64 A.d] 26))
  have HU1_9 := hide (Two.new w8 A.n A.d 26)
  have c0 := HX0_9.out.c0
  have c1 := HX0_9.out.c1
  have c2 := HX1_9.out.c0
  have c3 := HX1_9.out.c1
  go_wp2_with fail
  clear c0 c1 c2 c3
  generalize w8.alloc (.cells #[.int .i64 A.n, .int .i64 A.d] 26) = w9 at HP0_9 HP1_9 HX0_9 HQ0_9 HX1_9 HQ1_9 HS1_9 HB_9 HU1_9 ⊢
  generalize w8.heap.size = hu1 at HU1_9 ⊢
  clear HP0_8 HP1_8 HX0_8 HQ0_8 HX1_8 HQ1_8 HS1_8 HB_8
  refine (HSu.out _).mono ?_
  rintro e w10 ⟨rfl, hb⟩
  have HP0_10 := hide (HP0_9.out.on hb HP0_9.out.lt)
  have HP1_10 := hide (HP1_9.out.on hb HP1_9.out.lt)
  have HX0_10 := hide (HX0_9.out.on hb HX0_9.out.lt)
  have HQ0_10 := hide (HQ0_9.out.on hb HQ0_9.out.lt)
  have HX1_10 := hide (HX1_9.out.on hb HX1_9.out.lt)
  have HQ1_10 := hide (HQ1_9.out.on hb HQ1_9.out.lt)
  have HS1_10 := hide (HS1_9.out.on hb HS1_9.out.lt)
  have HU1_10 := hide (HU1_9.out.on hb HU1_9.out.lt)
  have HB_10 := hide (on_tr HB_9.out hb)
  clear hb HP0_9 HP1_9 HX0_9 HQ0_9 HX1_9 HQ1_9 HS1_9 HU1_9 HB_9
  have HP0_11 := hide (HP0_10.out.on ((Below.refl w10.heap.size w10).alloc (Nat.le_refl _) (.cells #[.int .i64 B.n, .int .i64 (B.d - 1)] 24)) HP0_10.out.lt)
  have HP1_11 := hide (HP1_10.out.on ((Below.refl w10.heap.size w10).alloc (Nat.le_refl _) (.cells #[.int .i64 B.n, .int .i64 (B.d - 1)] 24)) HP1_10.out.lt)
  have HX0_11 := hide (HX0_10.out.on ((Below.refl w10.heap.size w10).alloc (Nat.le_refl _) (.cells #[.int .i64 B.n, .int .i64 (B.d - 1)] 24)) HX0_10.out.lt)
  have HQ0_11 := hide (HQ0_10.out.on ((Below.refl w10.heap.size w10).alloc (Nat.le_refl _) (.cells #[.int .i64 B.n, .int .i64 (B.d - 1)] 24)) HQ0_10.out.lt)
  have HX1_11 := hide (HX1_10.out.on ((Below.refl w10.heap.size w10).alloc (Nat.le_refl _) (.cells #[.int .i64 B.n, .int .i64 (B.d - 1)] 24)) HX1_10.out.lt)
  have HQ1_11 := hide (HQ1_10.out.on ((Below.refl w10.heap.size w10).alloc (Nat.le_refl _) (.cells #[.int .i64 B.n, .int .i64 (B.d - 1)] 24)) HQ1_10.out.lt)
  have HS1_11 := hide (HS1_10.out.on ((Below.refl w10.heap.size w10).alloc (Nat.le_refl _) (.cells #[.int .i64 B.n, .int .i64 (B.d - 1)] 24)) HS1_10.out.lt)
  have HU1_11 := hide (HU1_10.out.on ((Below.refl w10.heap.size w10).alloc (Nat.le_refl _) (.cells #[.int .i64 B.n, .int .i64 (B.d - 1)] 24)) HU1_10.out.lt)
  have HB_11 := hide (HB_10.out.alloc HB_10.out.size (.cells #[.int .i64 B.n, .int .i64 (B.d - 1)] 24))
  have HS2_11 := hide (Two.new w10 B.n (B.d - 1) 24)
  go_wp2_with fail
  generalize w10.alloc (.cells #[.int .i64 B.n, .int .i64 (B.d - 1)] 24) = w11 at HP0_11 HP1_11 HX0_11 HQ0_11 HX1_11 HQ1_11 HS1_11 HU1_11 HB_11 HS2_11 ⊢
  generalize w10.heap.size = hs2 at HS2_11 ⊢
  clear HP0_10 HP1_10 HX0_10 HQ0_10 HX1_10 HQ1_10 HS1_10 HU1_10 HB_10
  have l_HX0 := HX0_11.out.lt
  have l_HX1 := HX1_11.out.lt
  have l_HQ0 := HQ0_11.out.lt
  have l_HQ1 := HQ1_11.out.lt
  have l_HS1 := HS1_11.out.lt
  have l_HU1 := HU1_11.out.lt
  have l_HS2 := HS2_11.out.lt
  have l_B := HB_11.out.size
  go_region_held3 (fun w' => w'.cell? ⟨hx0, 0, none⟩ = some (.int .i64 (F.n)) ∧ w'.cell? ⟨hx0, 1, none⟩ = some (.int .i64 (F.d - 1)) ∧ w'.cell? ⟨hx1, 0, none⟩ = some (.int .i64 (G.n)) ∧ w'.cell? ⟨hx1, 1, none⟩ = some (.int .i64 (G.d - 1)) ∧ w'.cell? ⟨hx0 + 1, 0, none⟩ = some (.int .i64 (F.n)) ∧ w'.cell? ⟨hx0 + 1, 1, none⟩ = some (.int .i64 (F.d)) ∧ w'.cell? ⟨hx1 + 1, 0, none⟩ = some (.int .i64 (G.n)) ∧ w'.cell? ⟨hx1 + 1, 1, none⟩ = some (.int .i64 (G.d)) ∧ w'.cell? ⟨hs1, 0, none⟩ = some (.int .i64 (A.n)) ∧ w'.cell? ⟨hs1, 1, none⟩ = some (.int .i64 (A.d - 1)) ∧ w'.cell? ⟨hu1, 0, none⟩ = some (.int .i64 (A.n)) ∧ w'.cell? ⟨hu1, 1, none⟩ = some (.int .i64 (A.d)) ∧ w'.cell? ⟨hs2, 0, none⟩ = some (.int .i64 (B.n)) ∧ w'.cell? ⟨hs2, 1, none⟩ = some (.int .i64 (B.d - 1)) ∧ Two w' (hx0) (F.n) (F.d - 1) ∧ Two w' (hx1) (G.n) (G.d - 1) ∧ Two w' (hx0 + 1) (F.n) (F.d) ∧ Two w' (hx1 + 1) (G.n) (G.d) ∧ Two w' (hs1) (A.n) (A.d - 1) ∧ Two w' (hu1) (A.n) (A.d) ∧ Two w' (hs2) (B.n) (B.d - 1) ∧ Below w.heap.size w w') (first | assumption | (exact K7.of HX0_11.out.drew HX1_11.out.drew HQ0_11.out.drew HQ1_11.out.drew HS1_11.out.drew HU1_11.out.drew HS2_11.out.drew (Below.drew HB_11.out)) | (exact K7.next (by assumption) (by assumption)) | (exact K7.next (by assumption) ((Below.refl _ _).alloc (Nat.le_refl _) _)) | (exact K7.st (by assumption) (by first | omega | (simp; omega)) (by first | omega | (simp; omega)) _ _)) (first | (go_at_call 20; (with_reducible refine (HRN.out _).mono ?_); rintro e w' ⟨rfl, hb'⟩; have hKn := K7.next (by assumption) hb'; have l_HX0 := (K7.t0 hKn).lt; have l_HX1 := (K7.t1 hKn).lt; have l_HQ0 := (K7.t2 hKn).lt; have l_HQ1 := (K7.t3 hKn).lt; have l_HS1 := (K7.t4 hKn).lt; have l_HU1 := (K7.t5 hKn).lt; have l_HS2 := (K7.t6 hKn).lt; have l_B := hKn.bel.size; (first | (have hz := Two.on hz hb' hz.lt; have z0 := hz.c0; have z1 := hz.c1; have z2 := hz.f0; have z3 := hz.f1) | (have hz := (Two.new _ 0 0 _).on hb' (by simp); have z0 := hz.c0; have z1 := hz.c1; have z2 := hz.f0; have z3 := hz.f1) | (have hz := ((Two.new _ 0 0 _).drew).on hb' (by simp); have z0 := hz.c0; have z1 := hz.c1; have z2 := hz.f0; have z3 := hz.f1) | skip)) | (go_at_call 33; (with_reducible refine (HRA2.out _).mono ?_); rintro e w' ⟨rfl, hb'⟩; have hKn := K7.next (by assumption) hb'; have l_HX0 := (K7.t0 hKn).lt; have l_HX1 := (K7.t1 hKn).lt; have l_HQ0 := (K7.t2 hKn).lt; have l_HQ1 := (K7.t3 hKn).lt; have l_HS1 := (K7.t4 hKn).lt; have l_HU1 := (K7.t5 hKn).lt; have l_HS2 := (K7.t6 hKn).lt; have l_B := hKn.bel.size; (first | (have hz := Two.on hz hb' hz.lt; have z0 := hz.c0; have z1 := hz.c1; have z2 := hz.f0; have z3 := hz.f1) | (have hz := (Two.new _ 0 0 _).on hb' (by simp); have z0 := hz.c0; have z1 := hz.c1; have z2 := hz.f0; have z3 := hz.f1) | (have hz := ((Two.new _ 0 0 _).drew).on hb' (by simp); have z0 := hz.c0; have z1 := hz.c1; have z2 := hz.f0; have z3 := hz.f1) | skip)))
  all_goals
    first
    | (have hf := K7.fin1 hKn hz (by omega) (by omega) (B.n) (B.d); obtain ⟨hu2, hy, HV, HE⟩ := hf)
    | (have hf := K7.fin2 hKn (B.n) (B.d) 26; obtain ⟨hu2, hy, HV, HE⟩ := hf)
    try rw [hy] at HV
    try rw [hy] at HE
    rw [hy]
    have HX0_12 := hide (K7.t0 HE)
    have HX1_12 := hide (K7.t1 HE)
    have HQ0_12 := hide (K7.t2 HE)
    have HQ1_12 := hide (K7.t3 HE)
    have HS1_12 := hide (K7.t4 HE)
    have HU1_12 := hide (K7.t5 HE)
    have HS2_12 := hide (K7.t6 HE)
    have HU2_12 := hide HV
    have HB_12 := hide (K7.bel HE)
    clear HV HE
    go_wp2_with fail
    have HTT := hide (HT.out.on HB_12.out)
    refine (HK.out _ HTT.out).mono ?_
    clear HTT
    rintro e w13 ⟨rfl, hb⟩
    have HX0_13 := hide (HX0_12.out.on hb HX0_12.out.lt)
    have HX1_13 := hide (HX1_12.out.on hb HX1_12.out.lt)
    have HQ0_13 := hide (HQ0_12.out.on hb HQ0_12.out.lt)
    have HQ1_13 := hide (HQ1_12.out.on hb HQ1_12.out.lt)
    have HS1_13 := hide (HS1_12.out.on hb HS1_12.out.lt)
    have HU1_13 := hide (HU1_12.out.on hb HU1_12.out.lt)
    have HS2_13 := hide (HS2_12.out.on hb HS2_12.out.lt)
    have HU2_13 := hide (HU2_12.out.on hb HU2_12.out.lt)
    have HB_13 := hide (on_tr HB_12.out hb)
    clear hb HX0_12 HX1_12 HQ0_12 HQ1_12 HS1_12 HU1_12 HS2_12 HU2_12 HB_12
    have c0 := HS1_13.out.c0
    have c1 := HS1_13.out.c1
    have c2 := HU1_13.out.c0
    have c3 := HU1_13.out.c1
    go_wp2_with fail
    clear c0 c1 c2 c3
    refine (HSA.out _).mono ?_
    rintro e w14 ⟨rfl, hb⟩
    have HX0_14 := hide (HX0_13.out.on hb HX0_13.out.lt)
    have HX1_14 := hide (HX1_13.out.on hb HX1_13.out.lt)
    have HQ0_14 := hide (HQ0_13.out.on hb HQ0_13.out.lt)
    have HQ1_14 := hide (HQ1_13.out.on hb HQ1_13.out.lt)
    have HS1_14 := hide (HS1_13.out.on hb HS1_13.out.lt)
    have HU1_14 := hide (HU1_13.out.on hb HU1_13.out.lt)
    have HS2_14 := hide (HS2_13.out.on hb HS2_13.out.lt)
    have HU2_14 := hide (HU2_13.out.on hb HU2_13.out.lt)
    have HB_14 := hide (on_tr HB_13.out hb)
    clear hb HX0_13 HX1_13 HQ0_13 HQ1_13 HS1_13 HU1_13 HS2_13 HU2_13 HB_13
    have c0 := HS2_14.out.c0
    have c1 := HS2_14.out.c1
    have c2 := HU2_14.out.c0
    have c3 := HU2_14.out.c1
    have c4 := HX0_14.out.c0
    have c5 := HX0_14.out.c1
    have c6 := HX1_14.out.c0
    have c7 := HX1_14.out.c1
    go_wp2_with fail
    clear c0 c1 c2 c3 c4 c5 c6 c7
    refine (HSB.out _).mono ?_
    rintro e w15 ⟨rfl, hb⟩
    have HX0_15 := hide (HX0_14.out.on hb HX0_14.out.lt)
    have HX1_15 := hide (HX1_14.out.on hb HX1_14.out.lt)
    have HQ0_15 := hide (HQ0_14.out.on hb HQ0_14.out.lt)
    have HQ1_15 := hide (HQ1_14.out.on hb HQ1_14.out.lt)
    have HS1_15 := hide (HS1_14.out.on hb HS1_14.out.lt)
    have HU1_15 := hide (HU1_14.out.on hb HU1_14.out.lt)
    have HS2_15 := hide (HS2_14.out.on hb HS2_14.out.lt)
    have HU2_15 := hide (HU2_14.out.on hb HU2_14.out.lt)
    have HB_15 := hide (on_tr HB_14.out hb)
    clear hb HX0_14 HX1_14 HQ0_14 HQ1_14 HS1_14 HU1_14 HS2_14 HU2_14 HB_14
    have c0 := HX0_15.out.c0
    have c1 := HX0_15.out.c1
    have c2 := HX1_15.out.c0
    have c3 := HX1_15.out.c1
    go_wp2_with fail
    clear c0 c1 c2 c3
    refine (HM.out _).mono ?_
    rintro e w16 ⟨rfl, hb⟩
    have HX0_16 := hide (HX0_15.out.on hb HX0_15.out.lt)
    have HX1_16 := hide (HX1_15.out.on hb HX1_15.out.lt)
    have HQ0_16 := hide (HQ0_15.out.on hb HQ0_15.out.lt)
    have HQ1_16 := hide (HQ1_15.out.on hb HQ1_15.out.lt)
    have HS1_16 := hide (HS1_15.out.on hb HS1_15.out.lt)
    have HU1_16 := hide (HU1_15.out.on hb HU1_15.out.lt)
    have HS2_16 := hide (HS2_15.out.on hb HS2_15.out.lt)
    have HU2_16 := hide (HU2_15.out.on hb HU2_15.out.lt)
    have HB_16 := hide (on_tr HB_15.out hb)
    clear hb HX0_15 HX1_15 HQ0_15 HQ1_15 HS1_15 HU1_15 HS2_15 HU2_15 HB_15
    have HX0_17 := hide (HX0_16.out.on ((Below.refl w16.heap.size w16).alloc (Nat.le_refl _) (.cells #[.int .i64 C.n, .int .i64 (C.d - 1)] 24)) HX0_16.out.lt)
    have HX1_17 := hide (HX1_16.out.on ((Below.refl w16.heap.size w16).alloc (Nat.le_refl _) (.cells #[.int .i64 C.n, .int .i64 (C.d - 1)] 24)) HX1_16.out.lt)
    have HQ0_17 := hide (HQ0_16.out.on ((Below.refl w16.heap.size w16).alloc (Nat.le_refl _) (.cells #[.int .i64 C.n, .int .i64 (C.d - 1)] 24)) HQ0_16.out.lt)
    have HQ1_17 := hide (HQ1_16.out.on ((Below.refl w16.heap.size w16).alloc (Nat.le_refl _) (.cells #[.int .i64 C.n, .int .i64 (C.d - 1)] 24)) HQ1_16.out.lt)
    have HS1_17 := hide (HS1_16.out.on ((Below.refl w16.heap.size w16).alloc (Nat.le_refl _) (.cells #[.int .i64 C.n, .int .i64 (C.d - 1)] 24)) HS1_16.out.lt)
    have HU1_17 := hide (HU1_16.out.on ((Below.refl w16.heap.size w16).alloc (Nat.le_refl _) (.cells #[.int .i64 C.n, .int .i64 (C.d - 1)] 24)) HU1_16.out.lt)
    have HS2_17 := hide (HS2_16.out.on ((Below.refl w16.heap.size w16).alloc (Nat.le_refl _) (.cells #[.int .i64 C.n, .int .i64 (C.d - 1)] 24)) HS2_16.out.lt)
    have HU2_17 := hide (HU2_16.out.on ((Below.refl w16.heap.size w16).alloc (Nat.le_refl _) (.cells #[.int .i64 C.n, .int .i64 (C.d - 1)] 24)) HU2_16.out.lt)
    have HB_17 := hide (HB_16.out.alloc HB_16.out.size (.cells #[.int .i64 C.n, .int .i64 (C.d - 1)] 24))
    have HS3_17 := hide (Two.new w16 C.n (C.d - 1) 24)
    have c0 := HQ0_17.out.c0
    have c1 := HQ0_17.out.c1
    have c2 := HQ1_17.out.c0
    have c3 := HQ1_17.out.c1
    go_wp2_with fail
    clear c0 c1 c2 c3
    generalize w16.alloc (.cells #[.int .i64 C.n, .int .i64 (C.d - 1)] 24) = w17 at HX0_17 HX1_17 HQ0_17 HQ1_17 HS1_17 HU1_17 HS2_17 HU2_17 HB_17 HS3_17 ⊢
    generalize w16.heap.size = hs3 at HS3_17 ⊢
    clear HX0_16 HX1_16 HQ0_16 HQ1_16 HS1_16 HU1_16 HS2_16 HU2_16 HB_16
    refine (HRM.out _).mono ?_
    rintro e w18 ⟨rfl, hb⟩
    have HX0_18 := hide (HX0_17.out.on hb HX0_17.out.lt)
    have HX1_18 := hide (HX1_17.out.on hb HX1_17.out.lt)
    have HQ0_18 := hide (HQ0_17.out.on hb HQ0_17.out.lt)
    have HQ1_18 := hide (HQ1_17.out.on hb HQ1_17.out.lt)
    have HS1_18 := hide (HS1_17.out.on hb HS1_17.out.lt)
    have HU1_18 := hide (HU1_17.out.on hb HU1_17.out.lt)
    have HS2_18 := hide (HS2_17.out.on hb HS2_17.out.lt)
    have HU2_18 := hide (HU2_17.out.on hb HU2_17.out.lt)
    have HS3_18 := hide (HS3_17.out.on hb HS3_17.out.lt)
    have HB_18 := hide (on_tr HB_17.out hb)
    clear hb HX0_17 HX1_17 HQ0_17 HQ1_17 HS1_17 HU1_17 HS2_17 HU2_17 HS3_17 HB_17
    have HX0_19 := hide (HX0_18.out.on ((Below.refl w18.heap.size w18).alloc (Nat.le_refl _) (.cells #[.int .i64 C.n, .int .i64 C.d] 26)) HX0_18.out.lt)
    have HX1_19 := hide (HX1_18.out.on ((Below.refl w18.heap.size w18).alloc (Nat.le_refl _) (.cells #[.int .i64 C.n, .int .i64 C.d] 26)) HX1_18.out.lt)
    have HQ0_19 := hide (HQ0_18.out.on ((Below.refl w18.heap.size w18).alloc (Nat.le_refl _) (.cells #[.int .i64 C.n, .int .i64 C.d] 26)) HQ0_18.out.lt)
    have HQ1_19 := hide (HQ1_18.out.on ((Below.refl w18.heap.size w18).alloc (Nat.le_refl _) (.cells #[.int .i64 C.n, .int .i64 C.d] 26)) HQ1_18.out.lt)
    have HS1_19 := hide (HS1_18.out.on ((Below.refl w18.heap.size w18).alloc (Nat.le_refl _) (.cells #[.int .i64 C.n, .int .i64 C.d] 26)) HS1_18.out.lt)
    have HU1_19 := hide (HU1_18.out.on ((Below.refl w18.heap.size w18).alloc (Nat.le_refl _) (.cells #[.int .i64 C.n, .int .i64 C.d] 26)) HU1_18.out.lt)
    have HS2_19 := hide (HS2_18.out.on ((Below.refl w18.heap.size w18).alloc (Nat.le_refl _) (.cells #[.int .i64 C.n, .int .i64 C.d] 26)) HS2_18.out.lt)
    have HU2_19 := hide (HU2_18.out.on ((Below.refl w18.heap.size w18).alloc (Nat.le_refl _) (.cells #[.int .i64 C.n, .int .i64 C.d] 26)) HU2_18.out.lt)
    have HS3_19 := hide (HS3_18.out.on ((Below.refl w18.heap.size w18).alloc (Nat.le_refl _) (.cells #[.int .i64 C.n, .int .i64 C.d] 26)) HS3_18.out.lt)
    have HB_19 := hide (HB_18.out.alloc HB_18.out.size (.cells #[.int .i64 C.n, .int .i64 C.d] 26))
    have HU3_19 := hide (Two.new w18 C.n C.d 26)
    have c0 := HX0_19.out.c0
    have c1 := HX0_19.out.c1
    have c2 := HX1_19.out.c0
    have c3 := HX1_19.out.c1
    go_wp2_with fail
    clear c0 c1 c2 c3
    generalize w18.alloc (.cells #[.int .i64 C.n, .int .i64 C.d] 26) = w19 at HX0_19 HX1_19 HQ0_19 HQ1_19 HS1_19 HU1_19 HS2_19 HU2_19 HS3_19 HB_19 HU3_19 ⊢
    generalize w18.heap.size = hu3 at HU3_19 ⊢
    clear HX0_18 HX1_18 HQ0_18 HQ1_18 HS1_18 HU1_18 HS2_18 HU2_18 HS3_18 HB_18
    refine (HDv.out _).mono ?_
    rintro e w20 ⟨rfl, hb⟩
    have HX0_20 := hide (HX0_19.out.on hb HX0_19.out.lt)
    have HX1_20 := hide (HX1_19.out.on hb HX1_19.out.lt)
    have HQ0_20 := hide (HQ0_19.out.on hb HQ0_19.out.lt)
    have HQ1_20 := hide (HQ1_19.out.on hb HQ1_19.out.lt)
    have HS1_20 := hide (HS1_19.out.on hb HS1_19.out.lt)
    have HU1_20 := hide (HU1_19.out.on hb HU1_19.out.lt)
    have HS2_20 := hide (HS2_19.out.on hb HS2_19.out.lt)
    have HU2_20 := hide (HU2_19.out.on hb HU2_19.out.lt)
    have HS3_20 := hide (HS3_19.out.on hb HS3_19.out.lt)
    have HU3_20 := hide (HU3_19.out.on hb HU3_19.out.lt)
    have HB_20 := hide (on_tr HB_19.out hb)
    clear hb HX0_19 HX1_19 HQ0_19 HQ1_19 HS1_19 HU1_19 HS2_19 HU2_19 HS3_19 HU3_19 HB_19
    have HX0_21 := hide (HX0_20.out.on ((Below.refl w20.heap.size w20).alloc (Nat.le_refl _) (.cells #[.int .i64 D.n, .int .i64 (D.d - 1)] 24)) HX0_20.out.lt)
    have HX1_21 := hide (HX1_20.out.on ((Below.refl w20.heap.size w20).alloc (Nat.le_refl _) (.cells #[.int .i64 D.n, .int .i64 (D.d - 1)] 24)) HX1_20.out.lt)
    have HQ0_21 := hide (HQ0_20.out.on ((Below.refl w20.heap.size w20).alloc (Nat.le_refl _) (.cells #[.int .i64 D.n, .int .i64 (D.d - 1)] 24)) HQ0_20.out.lt)
    have HQ1_21 := hide (HQ1_20.out.on ((Below.refl w20.heap.size w20).alloc (Nat.le_refl _) (.cells #[.int .i64 D.n, .int .i64 (D.d - 1)] 24)) HQ1_20.out.lt)
    have HS1_21 := hide (HS1_20.out.on ((Below.refl w20.heap.size w20).alloc (Nat.le_refl _) (.cells #[.int .i64 D.n, .int .i64 (D.d - 1)] 24)) HS1_20.out.lt)
    have HU1_21 := hide (HU1_20.out.on ((Below.refl w20.heap.size w20).alloc (Nat.le_refl _) (.cells #[.int .i64 D.n, .int .i64 (D.d - 1)] 24)) HU1_20.out.lt)
    have HS2_21 := hide (HS2_20.out.on ((Below.refl w20.heap.size w20).alloc (Nat.le_refl _) (.cells #[.int .i64 D.n, .int .i64 (D.d - 1)] 24)) HS2_20.out.lt)
    have HU2_21 := hide (HU2_20.out.on ((Below.refl w20.heap.size w20).alloc (Nat.le_refl _) (.cells #[.int .i64 D.n, .int .i64 (D.d - 1)] 24)) HU2_20.out.lt)
    have HS3_21 := hide (HS3_20.out.on ((Below.refl w20.heap.size w20).alloc (Nat.le_refl _) (.cells #[.int .i64 D.n, .int .i64 (D.d - 1)] 24)) HS3_20.out.lt)
    have HU3_21 := hide (HU3_20.out.on ((Below.refl w20.heap.size w20).alloc (Nat.le_refl _) (.cells #[.int .i64 D.n, .int .i64 (D.d - 1)] 24)) HU3_20.out.lt)
    have HB_21 := hide (HB_20.out.alloc HB_20.out.size (.cells #[.int .i64 D.n, .int .i64 (D.d - 1)] 24))
    have HS4_21 := hide (Two.new w20 D.n (D.d - 1) 24)
    have c0 := HQ0_21.out.c0
    have c1 := HQ0_21.out.c1
    have c2 := HQ1_21.out.c0
    have c3 := HQ1_21.out.c1
    go_wp2_with fail
    clear c0 c1 c2 c3
    generalize w20.alloc (.cells #[.int .i64 D.n, .int .i64 (D.d - 1)] 24) = w21 at HX0_21 HX1_21 HQ0_21 HQ1_21 HS1_21 HU1_21 HS2_21 HU2_21 HS3_21 HU3_21 HB_21 HS4_21 ⊢
    generalize w20.heap.size = hs4 at HS4_21 ⊢
    clear HX0_20 HX1_20 HQ0_20 HQ1_20 HS1_20 HU1_20 HS2_20 HU2_20 HS3_20 HU3_20 HB_20
    refine (HRD.out _).mono ?_
    rintro e w22 ⟨rfl, hb⟩
    have HX0_22 := hide (HX0_21.out.on hb HX0_21.out.lt)
    have HX1_22 := hide (HX1_21.out.on hb HX1_21.out.lt)
    have HQ0_22 := hide (HQ0_21.out.on hb HQ0_21.out.lt)
    have HQ1_22 := hide (HQ1_21.out.on hb HQ1_21.out.lt)
    have HS1_22 := hide (HS1_21.out.on hb HS1_21.out.lt)
    have HU1_22 := hide (HU1_21.out.on hb HU1_21.out.lt)
    have HS2_22 := hide (HS2_21.out.on hb HS2_21.out.lt)
    have HU2_22 := hide (HU2_21.out.on hb HU2_21.out.lt)
    have HS3_22 := hide (HS3_21.out.on hb HS3_21.out.lt)
    have HU3_22 := hide (HU3_21.out.on hb HU3_21.out.lt)
    have HS4_22 := hide (HS4_21.out.on hb HS4_21.out.lt)
    have HB_22 := hide (on_tr HB_21.out hb)
    clear hb HX0_21 HX1_21 HQ0_21 HQ1_21 HS1_21 HU1_21 HS2_21 HU2_21 HS3_21 HU3_21 HS4_21 HB_21
    have HX0_23 := hide (HX0_22.out.on ((Below.refl w22.heap.size w22).alloc (Nat.le_refl _) (.cells #[.int .i64 D.n, .int .i64 D.d] 26)) HX0_22.out.lt)
    have HX1_23 := hide (HX1_22.out.on ((Below.refl w22.heap.size w22).alloc (Nat.le_refl _) (.cells #[.int .i64 D.n, .int .i64 D.d] 26)) HX1_22.out.lt)
    have HQ0_23 := hide (HQ0_22.out.on ((Below.refl w22.heap.size w22).alloc (Nat.le_refl _) (.cells #[.int .i64 D.n, .int .i64 D.d] 26)) HQ0_22.out.lt)
    have HQ1_23 := hide (HQ1_22.out.on ((Below.refl w22.heap.size w22).alloc (Nat.le_refl _) (.cells #[.int .i64 D.n, .int .i64 D.d] 26)) HQ1_22.out.lt)
    have HS1_23 := hide (HS1_22.out.on ((Below.refl w22.heap.size w22).alloc (Nat.le_refl _) (.cells #[.int .i64 D.n, .int .i64 D.d] 26)) HS1_22.out.lt)
    have HU1_23 := hide (HU1_22.out.on ((Below.refl w22.heap.size w22).alloc (Nat.le_refl _) (.cells #[.int .i64 D.n, .int .i64 D.d] 26)) HU1_22.out.lt)
    have HS2_23 := hide (HS2_22.out.on ((Below.refl w22.heap.size w22).alloc (Nat.le_refl _) (.cells #[.int .i64 D.n, .int .i64 D.d] 26)) HS2_22.out.lt)
    have HU2_23 := hide (HU2_22.out.on ((Below.refl w22.heap.size w22).alloc (Nat.le_refl _) (.cells #[.int .i64 D.n, .int .i64 D.d] 26)) HU2_22.out.lt)
    have HS3_23 := hide (HS3_22.out.on ((Below.refl w22.heap.size w22).alloc (Nat.le_refl _) (.cells #[.int .i64 D.n, .int .i64 D.d] 26)) HS3_22.out.lt)
    have HU3_23 := hide (HU3_22.out.on ((Below.refl w22.heap.size w22).alloc (Nat.le_refl _) (.cells #[.int .i64 D.n, .int .i64 D.d] 26)) HU3_22.out.lt)
    have HS4_23 := hide (HS4_22.out.on ((Below.refl w22.heap.size w22).alloc (Nat.le_refl _) (.cells #[.int .i64 D.n, .int .i64 D.d] 26)) HS4_22.out.lt)
    have HB_23 := hide (HB_22.out.alloc HB_22.out.size (.cells #[.int .i64 D.n, .int .i64 D.d] 26))
    have HU4_23 := hide (Two.new w22 D.n D.d 26)
    go_wp2_with fail
    generalize w22.alloc (.cells #[.int .i64 D.n, .int .i64 D.d] 26) = w23 at HX0_23 HX1_23 HQ0_23 HQ1_23 HS1_23 HU1_23 HS2_23 HU2_23 HS3_23 HU3_23 HS4_23 HB_23 HU4_23 ⊢
    generalize w22.heap.size = hu4 at HU4_23 ⊢
    clear HX0_22 HX1_22 HQ0_22 HQ1_22 HS1_22 HU1_22 HS2_22 HU2_22 HS3_22 HU3_22 HS4_22 HB_22
    first
    | (go_region_held3 (fun w' => w'.cell? ⟨hx0, 0, none⟩ = some (.int .i64 (F.n)) ∧ w'.cell? ⟨hx0, 1, none⟩ = some (.int .i64 (F.d - 1)) ∧ w'.cell? ⟨hx0 + 1, 0, none⟩ = some (.int .i64 (F.n)) ∧ w'.cell? ⟨hx0 + 1, 1, none⟩ = some (.int .i64 (F.d)) ∧ w'.cell? ⟨hs3, 0, none⟩ = some (.int .i64 (C.n)) ∧ w'.cell? ⟨hs3, 1, none⟩ = some (.int .i64 (C.d - 1)) ∧ w'.cell? ⟨hu3, 0, none⟩ = some (.int .i64 (C.n)) ∧ w'.cell? ⟨hu3, 1, none⟩ = some (.int .i64 (C.d)) ∧ w'.cell? ⟨hs4, 0, none⟩ = some (.int .i64 (D.n)) ∧ w'.cell? ⟨hs4, 1, none⟩ = some (.int .i64 (D.d - 1)) ∧ w'.cell? ⟨hu4, 0, none⟩ = some (.int .i64 (D.n)) ∧ w'.cell? ⟨hu4, 1, none⟩ = some (.int .i64 (D.d)) ∧ Two w' (hx0) (F.n) (F.d - 1) ∧ Two w' (hx0 + 1) (F.n) (F.d) ∧ Two w' (hs3) (C.n) (C.d - 1) ∧ Two w' (hu3) (C.n) (C.d) ∧ Two w' (hs4) (D.n) (D.d - 1) ∧ Two w' (hu4) (D.n) (D.d) ∧ Below w.heap.size w w') (first | assumption | (exact K6.of HX0_23.out.drew HQ0_23.out.drew HS3_23.out.drew HU3_23.out.drew HS4_23.out.drew HU4_23.out.drew (Below.drew HB_23.out)) | (exact K6.next (by assumption) (by assumption))) (first | (go_at_call 23; (with_reducible refine (HSC.out _).mono ?_); rintro e w' ⟨rfl, hb'⟩) | (go_at_call 23; (with_reducible refine (HSD.out _).mono ?_); rintro e w' ⟨rfl, hb'⟩) | (go_at_call 38; (with_reducible refine (HNg.out _).mono ?_); rintro e w' ⟨rfl, hb'⟩) | (go_at_call 20; (with_reducible refine (HRNg.out _).mono ?_); rintro e w' ⟨rfl, hb'⟩) | (go_at_call 23; (with_reducible refine (HS5.out _).mono ?_); rintro e w' ⟨rfl, hb'⟩)))
    | fail
    all_goals
      go_wp2_with fail
      go_ret
      exact ⟨by first | rfl | simp, K6.bel (by assumption)⟩

end Go.Proofs.YtfappkhohddcjaaDoor
