/- The walk of RationalTexts. -/
import Derived.Test.YtfappkhohddcjaaDoorTextL
import Derived.Test.YtfappkhohddcjaaDoorKeep
import Derived.Test.YtfappkhohddcjaaDoorKn01
namespace Go.Proofs.YtfappkhohddcjaaDoor
open Go.RowKit

set_option maxRecDepth 100000 in
set_option maxHeartbeats 16000000 in
theorem rationalTexts_walk (a0 b0 : Int) (_ : i64r a0) (_ : i64r b0) (w : World) (ht : Tab w) :
    Calls Tryd.prog 5 #[.agg #[.int .i64 a0, .int .i64 b0]] w fun e w' => e = .returned (.bool true) ∧ Below w.heap.size w w' := by
  have HT := hide ht
  have HOf := hide (fun W => of_any a0 b0 W)
  have HLF := hide (show Low (ofF (clN a0) (clD b0)).n (ofF (clN a0) (clD b0)).d from (ofF_val (cl_low a0 b0)).2.2)
  generalize ofF (clN a0) (clD b0) = F at HOf HLF
  have HK := hide (fun W (h : Tab W) => known_any W h)
  have HX := hide (fun W (h : Tab W) => Text_any F.n F.d W HLF.out.q h)
  have HR := hide (fun W => RText_any F.n F.d W HLF.out.q)
  have hpa := parF_text HLF.out
  have hlen := textF_len HLF.out.q
  generalize textF F.n F.d = L at HX HR hpa hlen
  have hP := fun W (h : Tab W) => Parse_any ⟨L.toArray⟩ W (by simp [ByteArray.size]; omega) h
  rw [show (⟨L.toArray⟩ : ByteArray).data.toList = L from rfl, hpa] at hP
  have HP := hide (show ∀ W, Tab W → Calls Tryd.prog 25 #[.string ⟨L.toArray⟩] W fun e w' => e = .returned (.tuple #[.agg #[.int .i64 F.n, .int .i64 (F.d - 1)], .int .i64 0, .int .i64 0]) ∧ Below W.heap.size W w' from hP)
  clear hP hpa hlen ht
  have HB_0 := hide (Below.refl w.heap.size w)
  go_enter Tryd.func5, Tryd.ntmps5
  go_wp2_with fail
  have HB_1 := hide (HB_0.out.alloc HB_0.out.size (.cells #[.int .i64 a0, .int .i64 b0] 22))
  have HP0_1 := hide (Two.new w a0 b0 22)
  generalize w.alloc (.cells #[.int .i64 a0, .int .i64 b0] 22) = w1 at  HB_1 HP0_1 ⊢
  generalize w.heap.size = hp0 at HP0_1 ⊢
  clear  HB_0
  have c0 := HP0_1.out.c0
  have c1 := HP0_1.out.c1
  go_wp2_with fail
  clear c0 c1
  refine (HOf.out _).mono ?_
  rintro e w2 ⟨rfl, hb⟩
  have HP0_2 := hide (HP0_1.out.on hb HP0_1.out.lt)
  have HB_2 := hide (on_tr HB_1.out hb)
  clear hb HP0_1 HB_1
  go_wp2_with fail
  have HP0_3 := hide ((HP0_2.out.on ((Below.refl w2.heap.size w2).alloc (Nat.le_refl _) (.cells #[.int .i64 F.n, .int .i64 (F.d - 1)] 24)) HP0_2.out.lt).on ((Below.refl _ _).alloc (Nat.le_refl _) (.cells #[.int .i64 F.n, .int .i64 F.d] 26)) (by have := HP0_2.out.lt; simp; omega))
  have HB_3 := hide ((HB_2.out.alloc HB_2.out.size (.cells #[.int .i64 F.n, .int .i64 (F.d - 1)] 24)).alloc (by have := HB_2.out.size; simp; omega) (.cells #[.int .i64 F.n, .int .i64 F.d] 26))
  have HP := hide (S2.new2 w2 F.n (F.d - 1) F.n F.d 24 26)
  have HX1_3 := hide HP.out.tx
  have HX2_3 := hide HP.out.ty
  clear HP
  generalize (w2.alloc (.cells #[.int .i64 F.n, .int .i64 (F.d - 1)] 24)).alloc (.cells #[.int .i64 F.n, .int .i64 F.d] 26) = w3 at HP0_3 HB_3 HX1_3 HX2_3 ⊢
  generalize w2.heap.size = hx1 at HX1_3 HX2_3 ⊢
  clear HP0_2 HB_2
  have c0 := HX1_3.out.c0
  have c1 := HX1_3.out.c1
  go_wp2_with fail
  clear c0 c1
  have HTT := hide (HT.out.on HB_3.out)
  refine (HX.out _ HTT.out).mono ?_
  clear HTT
  rintro e w4 ⟨rfl, hb⟩
  have HP0_4 := hide (HP0_3.out.on hb HP0_3.out.lt)
  have HX1_4 := hide (HX1_3.out.on hb HX1_3.out.lt)
  have HX2_4 := hide (HX2_3.out.on hb HX2_3.out.lt)
  have HB_4 := hide (on_tr HB_3.out hb)
  clear hb HP0_3 HX1_3 HX2_3 HB_3
  go_wp2_with fail
  have HTT := hide (HT.out.on HB_4.out)
  refine (HP.out _ HTT.out).mono ?_
  clear HTT
  rintro e w5 ⟨rfl, hb⟩
  have HP0_5 := hide (HP0_4.out.on hb HP0_4.out.lt)
  have HX1_5 := hide (HX1_4.out.on hb HX1_4.out.lt)
  have HX2_5 := hide (HX2_4.out.on hb HX2_4.out.lt)
  have HB_5 := hide (on_tr HB_4.out hb)
  clear hb HP0_4 HX1_4 HX2_4 HB_4
  go_wp2_with fail
  have HP0_6 := hide (HP0_5.out.on ((Below.refl w5.heap.size w5).alloc (Nat.le_refl _) (.cells #[.int .i64 F.n, .int .i64 (F.d - 1)] 24)) HP0_5.out.lt)
  have HX1_6 := hide (HX1_5.out.on ((Below.refl w5.heap.size w5).alloc (Nat.le_refl _) (.cells #[.int .i64 F.n, .int .i64 (F.d - 1)] 24)) HX1_5.out.lt)
  have HX2_6 := hide (HX2_5.out.on ((Below.refl w5.heap.size w5).alloc (Nat.le_refl _) (.cells #[.int .i64 F.n, .int .i64 (F.d - 1)] 24)) HX2_5.out.lt)
  have HB_6 := hide (HB_5.out.alloc HB_5.out.size (.cells #[.int .i64 F.n, .int .i64 (F.d - 1)] 24))
  have HY_6 := hide (Two.new w5 F.n (F.d - 1) 24)
  generalize w5.alloc (.cells #[.int .i64 F.n, .int .i64 (F.d - 1)] 24) = w6 at HP0_6 HX1_6 HX2_6 HB_6 HY_6 ⊢
  generalize w5.heap.size = hy at HY_6 ⊢
  clear HP0_5 HX1_5 HX2_5 HB_5
  first
  | (go_region_held3 (fun w' => w'.cell? ⟨hx1, 0, none⟩ = some (.int .i64 (F.n)) ∧ w'.cell? ⟨hx1, 1, none⟩ = some (.int .i64 (F.d - 1)) ∧ w'.cell? ⟨hx1 + 1, 0, none⟩ = some (.int .i64 (F.n)) ∧ w'.cell? ⟨hx1 + 1, 1, none⟩ = some (.int .i64 (F.d)) ∧ w'.cell? ⟨hy, 0, none⟩ = some (.int .i64 (F.n)) ∧ w'.cell? ⟨hy, 1, none⟩ = some (.int .i64 (F.d - 1)) ∧ Two w' (hx1) (F.n) (F.d - 1) ∧ Two w' (hx1 + 1) (F.n) (F.d) ∧ Two w' (hy) (F.n) (F.d - 1) ∧ Below w.heap.size w w') (first | assumption | (exact K3.of HX1_6.out.drew HX2_6.out.drew HY_6.out.drew (Below.drew HB_6.out)) | (exact K3.next (by assumption) (by assumption))) (first | (go_at_call 17; have hK := K3.hid (by assumption); (with_reducible refine (HK.out _ (HT.out.on (K3.bel hK.out))).mono ?_); rintro e w' ⟨rfl, hb'⟩) | (go_at_call 26; have hK := K3.hid (by assumption); (with_reducible refine (HX.out _ (HT.out.on (K3.bel hK.out))).mono ?_); rintro e w' ⟨rfl, hb'⟩) | (go_at_call 27; (with_reducible refine (HR.out _).mono ?_); rintro e w' ⟨rfl, hb'⟩)))
  | fail
  all_goals
    go_wp2_with fail
    go_ret
    exact ⟨by first | rfl | simp, K3.bel (by assumption)⟩

end Go.Proofs.YtfappkhohddcjaaDoor
