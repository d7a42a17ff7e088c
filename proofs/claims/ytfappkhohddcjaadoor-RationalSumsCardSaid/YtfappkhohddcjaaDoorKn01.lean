/- The examples of the chapter hold. -/
import Derived.Test.YtfappkhohddcjaaDoorPar
import Derived.Test.YtfappkhohddcjaaDoorSameR
import Derived.Test.YtfappkhohddcjaaDoorBest1
namespace Go.Proofs.YtfappkhohddcjaaDoor
open Go.RowKit

theorem ofF_a : ofF 6 (-4) = ⟨-3, 2, 0⟩ := rfl
theorem ofF_b : ofF 355 113 = ⟨355, 113, 0⟩ := rfl
theorem ofF_c : ofF 22 7 = ⟨22, 7, 0⟩ := rfl
theorem near_c : Nearest 355 113 10 22 7 :=
  near_pair (b := 1) (c := 15) (p2 := 25) (q2 := 8) (by omega) (by omega) (by omega) (by omega) (by omega) (by omega) (by omega) (by omega) (by omega) (by omega)
theorem dec1 (n : Nat) (h : n < 10) : Lib.decDigits n = [UInt8.ofNat (48 + n)] := by rw [Lib.decDigits, dif_pos h]
theorem text_a : textF (-3) 2 = [45, 51, 47, 50] := by
  have e1 : Lib.itoa (-3) = [45, 51] := by rw [itoa_abs, if_pos (by omega), show Int.natAbs (-3) = 3 from rfl, dec1 3 (by omega)]; rfl
  have e2 : Lib.itoa 2 = [50] := by rw [itoa_abs, if_neg (by omega), show Int.natAbs 2 = 2 from rfl, dec1 2 (by omega)]; rfl
  rw [textF, e1, e2]; rfl
theorem par_a : parF [49, 47] = (⟨0, 1, 4⟩, 2) := rfl

set_option maxRecDepth 100000 in
set_option maxHeartbeats 8000000 in
theorem known_any (w : World) (ht : Tab w) : Calls Tryd.prog 17 #[] w fun e w' => e = .returned (.bool true) ∧ Below w.heap.size w w' := by
  have HT := hide ht
  have h1 := fun W => Of_any 6 (-4) W ⟨by omega, by omega⟩ ⟨by omega, by omega⟩
  rw [ofF_a] at h1
  have H1 := hide (show ∀ W, Calls Tryd.prog 29 #[.int .i64 6, .int .i64 (-4)] W fun e w' => e = .returned (.tuple #[.agg #[.int .i64 (-3), .int .i64 1], .int .i64 0]) ∧ Below W.heap.size W w' from h1)
  have h2 := fun W => Of_any 355 113 W ⟨by omega, by omega⟩ ⟨by omega, by omega⟩
  rw [ofF_b] at h2
  have H2 := hide (show ∀ W, Calls Tryd.prog 29 #[.int .i64 355, .int .i64 113] W fun e w' => e = .returned (.tuple #[.agg #[.int .i64 355, .int .i64 112], .int .i64 0]) ∧ Below W.heap.size W w' from h2)
  have h3 := fun W => Best_any 355 113 10 22 7 W ⟨by omega, by omega, by omega, by omega⟩ (by decide) (by omega) (by omega) near_c
  rw [ofF_c] at h3
  have H3 := hide (show ∀ W, Calls Tryd.prog 22 #[.agg #[.int .i64 355, .int .i64 112], .int .i64 10] W fun e w' => e = .returned (.tuple #[.agg #[.int .i64 22, .int .i64 6], .int .i64 0]) ∧ Below W.heap.size W w' from h3)
  have h4 := fun W (h : Tab W) => Parse_any ⟨#[49, 47]⟩ W (by decide) h
  rw [show (⟨#[49, 47]⟩ : ByteArray).data.toList = [49, 47] from rfl, par_a] at h4
  have H4 := hide (show ∀ W, Tab W → Calls Tryd.prog 25 #[.string ⟨#[49, 47]⟩] W fun e w' => e = .returned (.tuple #[.agg #[.int .i64 0, .int .i64 0], .int .i64 2, .int .i64 4]) ∧ Below W.heap.size W w' from h4)
  have H5 := hide (fun W => Num_any (-3) 1 W)
  have H6 := hide (show ∀ W, Calls Tryd.prog 40 #[.agg #[.int .i64 (-3), .int .i64 1]] W fun e w' => e = .returned (.int .i64 2) ∧ Below W.heap.size W w' from fun W => Den_any (-3) 2 W (by omega) (by omega))
  have h7 := fun W (h : Tab W) => Text_any (-3) 2 W ⟨by omega, by omega, by omega, by omega⟩ h
  rw [text_a] at h7
  have H7 := hide (show ∀ W, Tab W → Calls Tryd.prog 26 #[.agg #[.int .i64 (-3), .int .i64 1]] W fun e w' => e = .returned (.string ⟨#[45, 51, 47, 50]⟩) ∧ Below W.heap.size W w' from h7)
  have H8 := hide (show ∀ W, Calls Tryd.prog 18 #[.agg #[.int .i64 (-3), .int .i64 1]] W fun e w' => e = .returned (.int .i64 (-2)) ∧ Below W.heap.size W w' from fun W => Floor_any (-3) 2 W ⟨by omega, by omega, by omega, by omega⟩)
  have H9 := hide (show ∀ W, Calls Tryd.prog 19 #[.agg #[.int .i64 (-3), .int .i64 1]] W fun e w' => e = .returned (.int .i64 (-1)) ∧ Below W.heap.size W w' from fun W => Ceil_any (-3) 2 W ⟨by omega, by omega, by omega, by omega⟩)
  have H10 := hide (show ∀ W, Calls Tryd.prog 21 #[.agg #[.int .i64 (-3), .int .i64 1]] W fun e w' => e = .returned (.int .i64 (-1)) ∧ Below W.heap.size W w' from fun W => Round_any (-3) 2 W ⟨by omega, by omega, by omega, by omega⟩)
  have H11 := hide (fun W => Num_any 22 6 W)
  have H12 := hide (show ∀ W, Calls Tryd.prog 40 #[.agg #[.int .i64 22, .int .i64 6]] W fun e w' => e = .returned (.int .i64 7) ∧ Below W.heap.size W w' from fun W => Den_any 22 7 W (by omega) (by omega))
  clear h1 h2 h3 h4 h7 ht
  go_enter Tryd.func17, Tryd.ntmps17
  go_wp2_with fail
  refine (H1.out _).mono ?_
  rintro e w1 ⟨rfl, hb⟩
  have HB_1 := hide (hb)
  clear hb
  go_wp2_with fail
  have HB_2 := hide (HB_1.out.alloc HB_1.out.size (.cells #[.int .i64 (-3), .int .i64 1] 24))
  have HX_2 := hide (Two.new w1 (-3) 1 24)
  generalize w1.alloc (.cells #[.int .i64 (-3), .int .i64 1] 24) = w2 at  HB_2 HX_2 ⊢
  generalize w1.heap.size = hx at HX_2 ⊢
  refine (H2.out _).mono ?_
  rintro e w3 ⟨rfl, hb⟩
  have HX_3 := hide (HX_2.out.on hb HX_2.out.lt)
  have HB_3 := hide (on_tr HB_2.out hb)
  clear hb
  clear HX_2
  clear HB_2
  go_wp2_with fail
  have HX_4 := hide (HX_3.out.on ((Below.refl w3.heap.size w3).alloc (Nat.le_refl _) (.cells #[.int .i64 355, .int .i64 112] 24)) HX_3.out.lt)
  have HB_4 := hide (HB_3.out.alloc HB_3.out.size (.cells #[.int .i64 355, .int .i64 112] 24))
  have HY_4 := hide (Two.new w3 355 112 24)
  generalize w3.alloc (.cells #[.int .i64 355, .int .i64 112] 24) = w4 at HX_4 HB_4 HY_4 ⊢
  generalize w3.heap.size = hy at HY_4 ⊢
  have c0 := HY_4.out.c0
  have c1 := HY_4.out.c1
  go_wp2_with fail
  clear c0 c1
  refine (H3.out _).mono ?_
  rintro e w5 ⟨rfl, hb⟩
  have HX_5 := hide (HX_4.out.on hb HX_4.out.lt)
  have HY_5 := hide (HY_4.out.on hb HY_4.out.lt)
  have HB_5 := hide (on_tr HB_4.out hb)
  clear hb
  clear HX_4
  clear HY_4
  clear HB_4
  go_wp2_with fail
  have HX_6 := hide (HX_5.out.on ((Below.refl w5.heap.size w5).alloc (Nat.le_refl _) (.cells #[.int .i64 22, .int .i64 6] 24)) HX_5.out.lt)
  have HY_6 := hide (HY_5.out.on ((Below.refl w5.heap.size w5).alloc (Nat.le_refl _) (.cells #[.int .i64 22, .int .i64 6] 24)) HY_5.out.lt)
  have HB_6 := hide (HB_5.out.alloc HB_5.out.size (.cells #[.int .i64 22, .int .i64 6] 24))
  have HZ_6 := hide (Two.new w5 22 6 24)
  generalize w5.alloc (.cells #[.int .i64 22, .int .i64 6] 24) = w6 at HX_6 HY_6 HB_6 HZ_6 ⊢
  generalize w5.heap.size = hz at HZ_6 ⊢
  have HTT := hide (HT.out.on HB_6.out)
  refine (H4.out _ HTT.out).mono ?_
  rintro e w7 ⟨rfl, hb⟩
  have HX_7 := hide (HX_6.out.on hb HX_6.out.lt)
  have HY_7 := hide (HY_6.out.on hb HY_6.out.lt)
  have HZ_7 := hide (HZ_6.out.on hb HZ_6.out.lt)
  have HB_7 := hide (on_tr HB_6.out hb)
  clear hb
  clear HX_6
  clear HY_6
  clear HZ_6
  clear HB_6
  have q0 := HX_7.out.c0
  have q1 := HX_7.out.c1
  have HX_8 := hide (HX_7.out.on ((Below.refl w7.heap.size w7).alloc (Nat.le_refl _) (.cells #[.int .i64 0, .int .i64 0] 24)) HX_7.out.lt)
  have c0 := HX_8.out.c0
  have c1 := HX_8.out.c1
  clear q0 q1 HX_8
  go_wp2_with fail
  clear c0 c1
  have HX_8 := hide (HX_7.out.on ((Below.refl w7.heap.size w7).alloc (Nat.le_refl _) (.cells #[.int .i64 0, .int .i64 0] 24)) HX_7.out.lt)
  have HY_8 := hide (HY_7.out.on ((Below.refl w7.heap.size w7).alloc (Nat.le_refl _) (.cells #[.int .i64 0, .int .i64 0] 24)) HY_7.out.lt)
  have HZ_8 := hide (HZ_7.out.on ((Below.refl w7.heap.size w7).alloc (Nat.le_refl _) (.cells #[.int .i64 0, .int .i64 0] 24)) HZ_7.out.lt)
  have HB_8 := hide (HB_7.out.alloc HB_7.out.size (.cells #[.int .i64 0, .int .i64 0] 24))
  have HW_8 := hide (Two.new w7 0 0 24)
  generalize w7.alloc (.cells #[.int .i64 0, .int .i64 0] 24) = w8 at HX_8 HY_8 HZ_8 HB_8 HW_8 ⊢
  generalize w7.heap.size = hw at HW_8 ⊢
  refine (H5.out _).mono ?_
  rintro e w9 ⟨rfl, hb⟩
  have HX_9 := hide (HX_8.out.on hb HX_8.out.lt)
  have HY_9 := hide (HY_8.out.on hb HY_8.out.lt)
  have HZ_9 := hide (HZ_8.out.on hb HZ_8.out.lt)
  have HW_9 := hide (HW_8.out.on hb HW_8.out.lt)
  have HB_9 := hide (on_tr HB_8.out hb)
  clear hb
  clear HX_8
  clear HY_8
  clear HZ_8
  clear HW_8
  clear HB_8
  have c0 := HX_9.out.c0
  have c1 := HX_9.out.c1
  go_wp2_with fail
  clear c0 c1
  refine (H6.out _).mono ?_
  rintro e w10 ⟨rfl, hb⟩
  have HX_10 := hide (HX_9.out.on hb HX_9.out.lt)
  have HY_10 := hide (HY_9.out.on hb HY_9.out.lt)
  have HZ_10 := hide (HZ_9.out.on hb HZ_9.out.lt)
  have HW_10 := hide (HW_9.out.on hb HW_9.out.lt)
  have HB_10 := hide (on_tr HB_9.out hb)
  clear hb
  clear HX_9
  clear HY_9
  clear HZ_9
  clear HW_9
  clear HB_9
  have c0 := HX_10.out.c0
  have c1 := HX_10.out.c1
  go_wp2_with fail
  clear c0 c1
  have HTT2 := hide (HT.out.on HB_10.out)
  refine (H7.out _ HTT2.out).mono ?_
  rintro e w11 ⟨rfl, hb⟩
  have HX_11 := hide (HX_10.out.on hb HX_10.out.lt)
  have HY_11 := hide (HY_10.out.on hb HY_10.out.lt)
  have HZ_11 := hide (HZ_10.out.on hb HZ_10.out.lt)
  have HW_11 := hide (HW_10.out.on hb HW_10.out.lt)
  have HB_11 := hide (on_tr HB_10.out hb)
  clear hb
  clear HX_10
  clear HY_10
  clear HZ_10
  clear HW_10
  clear HB_10
  have c0 := HX_11.out.c0
  have c1 := HX_11.out.c1
  go_wp2_with fail
  clear c0 c1
  refine (H8.out _).mono ?_
  rintro e w12 ⟨rfl, hb⟩
  have HX_12 := hide (HX_11.out.on hb HX_11.out.lt)
  have HY_12 := hide (HY_11.out.on hb HY_11.out.lt)
  have HZ_12 := hide (HZ_11.out.on hb HZ_11.out.lt)
  have HW_12 := hide (HW_11.out.on hb HW_11.out.lt)
  have HB_12 := hide (on_tr HB_11.out hb)
  clear hb
  clear HX_11
  clear HY_11
  clear HZ_11
  clear HW_11
  clear HB_11
  have c0 := HX_12.out.c0
  have c1 := HX_12.out.c1
  go_wp2_with fail
  clear c0 c1
  refine (H9.out _).mono ?_
  rintro e w13 ⟨rfl, hb⟩
  have HX_13 := hide (HX_12.out.on hb HX_12.out.lt)
  have HY_13 := hide (HY_12.out.on hb HY_12.out.lt)
  have HZ_13 := hide (HZ_12.out.on hb HZ_12.out.lt)
  have HW_13 := hide (HW_12.out.on hb HW_12.out.lt)
  have HB_13 := hide (on_tr HB_12.out hb)
  clear hb
  clear HX_12
  clear HY_12
  clear HZ_12
  clear HW_12
  clear HB_12
  have c0 := HX_13.out.c0
  have c1 := HX_13.out.c1
  go_wp2_with fail
  clear c0 c1
  refine (H10.out _).mono ?_
  rintro e w14 ⟨rfl, hb⟩
  have HX_14 := hide (HX_13.out.on hb HX_13.out.lt)
  have HY_14 := hide (HY_13.out.on hb HY_13.out.lt)
  have HZ_14 := hide (HZ_13.out.on hb HZ_13.out.lt)
  have HW_14 := hide (HW_13.out.on hb HW_13.out.lt)
  have HB_14 := hide (on_tr HB_13.out hb)
  clear hb
  clear HX_13
  clear HY_13
  clear HZ_13
  clear HW_13
  clear HB_13
  have c0 := HZ_14.out.c0
  have c1 := HZ_14.out.c1
  go_wp2_with fail
  clear c0 c1
  refine (H11.out _).mono ?_
  rintro e w15 ⟨rfl, hb⟩
  have HX_15 := hide (HX_14.out.on hb HX_14.out.lt)
  have HY_15 := hide (HY_14.out.on hb HY_14.out.lt)
  have HZ_15 := hide (HZ_14.out.on hb HZ_14.out.lt)
  have HW_15 := hide (HW_14.out.on hb HW_14.out.lt)
  have HB_15 := hide (on_tr HB_14.out hb)
  clear hb
  clear HX_14
  clear HY_14
  clear HZ_14
  clear HW_14
  clear HB_14
  have c0 := HZ_15.out.c0
  have c1 := HZ_15.out.c1
  go_wp2_with fail
  clear c0 c1
  refine (H12.out _).mono ?_
  rintro e w16 ⟨rfl, hb⟩
  have HX_16 := hide (HX_15.out.on hb HX_15.out.lt)
  have HY_16 := hide (HY_15.out.on hb HY_15.out.lt)
  have HZ_16 := hide (HZ_15.out.on hb HZ_15.out.lt)
  have HW_16 := hide (HW_15.out.on hb HW_15.out.lt)
  have HB_16 := hide (on_tr HB_15.out hb)
  clear hb
  clear HX_15
  clear HY_15
  clear HZ_15
  clear HW_15
  clear HB_15
  have c0 := HZ_16.out.c0
  have c1 := HZ_16.out.c1
  go_wp2_with fail
  clear c0 c1
  go_ret
  exact ⟨rfl, HB_16.out⟩

end Go.Proofs.YtfappkhohddcjaaDoor
