/- The walk of RationalZero. -/
import Derived.Test.YtfappkhohddcjaaDoorOfL
import Derived.Test.YtfappkhohddcjaaDoorKn01
namespace Go.Proofs.YtfappkhohddcjaaDoor
open Go.RowKit

set_option maxRecDepth 100000 in
set_option maxHeartbeats 16000000 in
theorem rationalZero_walk (n : Int) (_ : i64r n) (w : World) (ht : Tab w) :
    Calls Tryd.prog 10 #[.int .i64 n] w fun e w' => e = .returned (.bool true) ∧ Below w.heap.size w w' := by
  have HT := hide ht
  have hm : 1 ≤ max n 1 := by omega
  have hm2 : max n 1 ≤ 9223372036854775807 := by have := (‹i64r n›).2; omega
  have e1 : ofF 0 (max n 1) = ⟨0, 1, 0⟩ := ofF_of_cross (by omega) ⟨⟨by omega, by omega, by omega, by omega⟩, rfl⟩ (by simp)
  have h1 := fun W => Of_any 0 (max n 1) W ⟨by omega, by omega⟩ ⟨by omega, by omega⟩
  rw [e1] at h1
  have HO := hide (show ∀ W, Calls Tryd.prog 29 #[.int .i64 0, .int .i64 (max n 1)] W fun e w' => e = .returned (.tuple #[.agg #[.int .i64 0, .int .i64 0], .int .i64 0]) ∧ Below W.heap.size W w' from h1)
  have HI := hide (show ∀ W, Calls Tryd.prog 30 #[.int .i64 0] W fun e w' => e = .returned (.tuple #[.agg #[.int .i64 0, .int .i64 0], .int .i64 0]) ∧ Below W.heap.size W w' from fun W => Int_any 0 W ⟨by omega, by omega⟩)
  have HK := hide (fun W (h : Tab W) => known_any W h)
  have HN := hide (fun W => Num_any 0 0 W)
  have HD := hide (show ∀ W, Calls Tryd.prog 40 #[.agg #[.int .i64 0, .int .i64 0]] W fun e w' => e = .returned (.int .i64 1) ∧ Below W.heap.size W w' from fun W => Den_any 0 1 W (by omega) (by omega))
  have h2 := fun W (h : Tab W) => Text_any 0 1 W ⟨by omega, by omega, by omega, by omega⟩ h
  rw [show textF 0 1 = [48] from by rw [textF, if_neg (by omega), itoa_abs, if_neg (by omega), show Int.natAbs 0 = 0 from rfl, dec1 0 (by omega)]; rfl] at h2
  have HX := hide (show ∀ W, Tab W → Calls Tryd.prog 26 #[.agg #[.int .i64 0, .int .i64 0]] W fun e w' => e = .returned (.string ⟨#[48]⟩) ∧ Below W.heap.size W w' from h2)
  have HSg := hide (show ∀ W, Calls Tryd.prog 41 #[.agg #[.int .i64 0, .int .i64 0]] W fun e w' => e = .returned (.int .i64 0) ∧ Below W.heap.size W w' from fun W => Sign_any 0 1 W ⟨by omega, by omega, by omega, by omega⟩)
  have hmk : IntKind.i64.wrap (max n 1) = max n 1 := IntWalk.i64_in _ (by omega)
  clear h1 h2 e1 ht
  have HB_0 := hide (Below.refl w.heap.size w)
  go_enter Tryd.func10, Tryd.ntmps10
  go_wp2_with fail
  have HB_1 := hide (HB_0.out.alloc HB_0.out.size (.cells #[.int .i64 0, .int .i64 0] 24))
  have HX0_1 := hide (Two.new w 0 0 24)
  generalize w.alloc (.cells #[.int .i64 0, .int .i64 0] 24) = w1 at  HB_1 HX0_1 ⊢
  generalize w.heap.size = hx0 at HX0_1 ⊢
  clear  HB_0
  refine (HO.out _).mono ?_
  rintro e w2 ⟨rfl, hb⟩
  have HX0_2 := hide (HX0_1.out.on hb HX0_1.out.lt)
  have HB_2 := hide (on_tr HB_1.out hb)
  clear hb HX0_1 HB_1
  go_wp2_with fail
  have HX0_3 := hide (HX0_2.out.on ((Below.refl w2.heap.size w2).alloc (Nat.le_refl _) (.cells #[.int .i64 0, .int .i64 0] 24)) HX0_2.out.lt)
  have HB_3 := hide (HB_2.out.alloc HB_2.out.size (.cells #[.int .i64 0, .int .i64 0] 24))
  have HY_3 := hide (Two.new w2 0 0 24)
  generalize w2.alloc (.cells #[.int .i64 0, .int .i64 0] 24) = w3 at HX0_3 HB_3 HY_3 ⊢
  generalize w2.heap.size = hy at HY_3 ⊢
  clear HX0_2 HB_2
  refine (HI.out _).mono ?_
  rintro e w4 ⟨rfl, hb⟩
  have HX0_4 := hide (HX0_3.out.on hb HX0_3.out.lt)
  have HY_4 := hide (HY_3.out.on hb HY_3.out.lt)
  have HB_4 := hide (on_tr HB_3.out hb)
  clear hb HX0_3 HY_3 HB_3
  go_wp2_with fail
  have HX0_5 := hide (HX0_4.out.on ((Below.refl w4.heap.size w4).alloc (Nat.le_refl _) (.cells #[.int .i64 0, .int .i64 0] 24)) HX0_4.out.lt)
  have HY_5 := hide (HY_4.out.on ((Below.refl w4.heap.size w4).alloc (Nat.le_refl _) (.cells #[.int .i64 0, .int .i64 0] 24)) HY_4.out.lt)
  have HB_5 := hide (HB_4.out.alloc HB_4.out.size (.cells #[.int .i64 0, .int .i64 0] 24))
  have HZ_5 := hide (Two.new w4 0 0 24)
  generalize w4.alloc (.cells #[.int .i64 0, .int .i64 0] 24) = w5 at HX0_5 HY_5 HB_5 HZ_5 ⊢
  generalize w4.heap.size = hz at HZ_5 ⊢
  clear HX0_4 HY_4 HB_4
  have HTT := hide (HT.out.on HB_5.out)
  refine (HK.out _ HTT.out).mono ?_
  clear HTT
  rintro e w6 ⟨rfl, hb⟩
  have HX0_6 := hide (HX0_5.out.on hb HX0_5.out.lt)
  have HY_6 := hide (HY_5.out.on hb HY_5.out.lt)
  have HZ_6 := hide (HZ_5.out.on hb HZ_5.out.lt)
  have HB_6 := hide (on_tr HB_5.out hb)
  clear hb HX0_5 HY_5 HZ_5 HB_5
  have c0 := HX0_6.out.c0
  have c1 := HX0_6.out.c1
  have c2 := HY_6.out.c0
  have c3 := HY_6.out.c1
  have c4 := HZ_6.out.c0
  have c5 := HZ_6.out.c1
  go_wp2_with fail
  clear c0 c1 c2 c3 c4 c5
  refine (HN.out _).mono ?_
  rintro e w7 ⟨rfl, hb⟩
  have HX0_7 := hide (HX0_6.out.on hb HX0_6.out.lt)
  have HY_7 := hide (HY_6.out.on hb HY_6.out.lt)
  have HZ_7 := hide (HZ_6.out.on hb HZ_6.out.lt)
  have HB_7 := hide (on_tr HB_6.out hb)
  clear hb HX0_6 HY_6 HZ_6 HB_6
  have c0 := HX0_7.out.c0
  have c1 := HX0_7.out.c1
  go_wp2_with fail
  clear c0 c1
  refine (HD.out _).mono ?_
  rintro e w8 ⟨rfl, hb⟩
  have HX0_8 := hide (HX0_7.out.on hb HX0_7.out.lt)
  have HY_8 := hide (HY_7.out.on hb HY_7.out.lt)
  have HZ_8 := hide (HZ_7.out.on hb HZ_7.out.lt)
  have HB_8 := hide (on_tr HB_7.out hb)
  clear hb HX0_7 HY_7 HZ_7 HB_7
  have c0 := HX0_8.out.c0
  have c1 := HX0_8.out.c1
  go_wp2_with fail
  clear c0 c1
  have HTT := hide (HT.out.on HB_8.out)
  refine (HX.out _ HTT.out).mono ?_
  clear HTT
  rintro e w9 ⟨rfl, hb⟩
  have HX0_9 := hide (HX0_8.out.on hb HX0_8.out.lt)
  have HY_9 := hide (HY_8.out.on hb HY_8.out.lt)
  have HZ_9 := hide (HZ_8.out.on hb HZ_8.out.lt)
  have HB_9 := hide (on_tr HB_8.out hb)
  clear hb HX0_8 HY_8 HZ_8 HB_8
  have c0 := HX0_9.out.c0
  have c1 := HX0_9.out.c1
  go_wp2_with fail
  clear c0 c1
  refine (HSg.out _).mono ?_
  rintro e w10 ⟨rfl, hb⟩
  have HX0_10 := hide (HX0_9.out.on hb HX0_9.out.lt)
  have HY_10 := hide (HY_9.out.on hb HY_9.out.lt)
  have HZ_10 := hide (HZ_9.out.on hb HZ_9.out.lt)
  have HB_10 := hide (on_tr HB_9.out hb)
  clear hb HX0_9 HY_9 HZ_9 HB_9
  go_wp2_with fail
  go_ret
  exact ⟨rfl, HB_10.out⟩

end Go.Proofs.YtfappkhohddcjaaDoor
