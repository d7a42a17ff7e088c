/- The walk of RationalParses. -/
import Derived.Test.YtfappkhohddcjaaDoorOfL
import Derived.Test.YtfappkhohddcjaaDoorKn01
namespace Go.Proofs.YtfappkhohddcjaaDoor
open Go.RowKit

theorem parF_same (l : List UInt8) : Fq (parF l).1.n (parF l).1.d ∧ (¬ (parF l).1.e = 0 → (parF l).1.n = 0 ∧ (parF l).1.d = 1) := by
  have key : ∀ (n d : Int) (k : Nat), Fq (finF l n d k).1.n (finF l n d k).1.d ∧ (¬ (finF l n d k).1.e = 0 → (finF l n d k).1.n = 0 ∧ (finF l n d k).1.d = 1) := by
    intro n d k
    unfold finF
    split
    · exact ⟨⟨by simp, by simp, by simp, by simp⟩, fun _ => ⟨rfl, rfl⟩⟩
    · split
      · exact ⟨ofF_fq n d, ofF_err n d⟩
      · exact ⟨⟨by simp, by simp, by simp, by simp⟩, fun _ => ⟨rfl, rfl⟩⟩
  unfold parF
  split
  · unfold slash
    split
    · split
      · exact key _ _ _
      · exact ⟨⟨by simp, by simp, by simp, by simp⟩, fun _ => ⟨rfl, rfl⟩⟩
    · exact key _ _ _
  · exact ⟨⟨by simp, by simp, by simp, by simp⟩, fun _ => ⟨rfl, rfl⟩⟩

set_option maxRecDepth 100000 in
set_option maxHeartbeats 16000000 in
theorem rationalParses_walk (s : ByteArray) (hs : s.size ≤ 9223372036854775807) (w : World) (ht : Tab w) :
    Calls Tryd.prog 6 #[.string s] w fun e w' => e = .returned (.bool true) ∧ Below w.heap.size w w' := by
  have HT := hide ht
  have HK := hide (fun W (h : Tab W) => known_any W h)
  obtain ⟨u, hu⟩ : ∃ u, u = s.extract 0 (min s.size 60) := ⟨_, rfl⟩
  have hus : u.size ≤ 1000000000 := by rw [hu, ByteArray.size_extract]; omega
  have HP := hide (fun W (h : Tab W) => Parse_any u W hus h)
  have HR := hide (fun W => RParse_any u W hus)
  have hsm := parF_same u.data.toList
  have HS := hide (fun W => same_any (parF u.data.toList).1 W hsm.1 hsm.2)
  generalize parF u.data.toList = F at HP HR HS
  clear hsm hus ht
  have e1 : min (s.size : Int) 60 = ((min s.size 60 : Nat) : Int) := by omega
  rcases (show s.size ≤ 60 ∨ 60 < s.size by omega) with h60 | h60
  · have hmn : min (s.size : Int) 60 = (s.size : Int) := by omega
    have hex : u = s.extract 0 s.size := by rw [hu, show min s.size 60 = s.size by omega]
    have hex2 := hex.symm
    clear hex hu e1
    have HB_0 := hide (Below.refl w.heap.size w)
    go_enter Tryd.func6, Tryd.ntmps6
    go_wp2_with fail
    have HTT := hide (HT.out.on HB_0.out)
    refine (HP.out _ HTT.out).mono ?_
    clear HTT
    rintro e w1 ⟨rfl, hb⟩
    have HB_1 := hide (on_tr HB_0.out hb)
    clear hb  HB_0
    go_wp2_with fail
    have HB_2 := hide (HB_1.out.alloc HB_1.out.size (.cells #[.int .i64 F.1.n, .int .i64 (F.1.d - 1)] 24))
    have HX_2 := hide (Two.new w1 F.1.n (F.1.d - 1) 24)
    generalize w1.alloc (.cells #[.int .i64 F.1.n, .int .i64 (F.1.d - 1)] 24) = w2 at  HB_2 HX_2 ⊢
    generalize w1.heap.size = hx at HX_2 ⊢
    clear  HB_1
    refine (HR.out _).mono ?_
    rintro e w3 ⟨rfl, hb⟩
    have HX_3 := hide (HX_2.out.on hb HX_2.out.lt)
    have HB_3 := hide (on_tr HB_2.out hb)
    clear hb HX_2 HB_2
    go_wp2_with fail
    have HX_4 := hide (HX_3.out.on ((Below.refl w3.heap.size w3).alloc (Nat.le_refl _) (.cells #[.int .i64 F.1.n, .int .i64 F.1.d] 26)) HX_3.out.lt)
    have HB_4 := hide (HB_3.out.alloc HB_3.out.size (.cells #[.int .i64 F.1.n, .int .i64 F.1.d] 26))
    have HY_4 := hide (Two.new w3 F.1.n F.1.d 26)
    generalize w3.alloc (.cells #[.int .i64 F.1.n, .int .i64 F.1.d] 26) = w4 at HX_4 HB_4 HY_4 ⊢
    generalize w3.heap.size = hy at HY_4 ⊢
    clear HX_3 HB_3
    have HTT := hide (HT.out.on HB_4.out)
    refine (HK.out _ HTT.out).mono ?_
    clear HTT
    rintro e w5 ⟨rfl, hb⟩
    have HX_5 := hide (HX_4.out.on hb HX_4.out.lt)
    have HY_5 := hide (HY_4.out.on hb HY_4.out.lt)
    have HB_5 := hide (on_tr HB_4.out hb)
    clear hb HX_4 HY_4 HB_4
    have c0 := HX_5.out.c0
    have c1 := HX_5.out.c1
    have c2 := HY_5.out.c0
    have c3 := HY_5.out.c1
    go_wp2_with fail
    clear c0 c1 c2 c3
    refine (HS.out _).mono ?_
    rintro e w6 ⟨rfl, hb⟩
    have HX_6 := hide (HX_5.out.on hb HX_5.out.lt)
    have HY_6 := hide (HY_5.out.on hb HY_5.out.lt)
    have HB_6 := hide (on_tr HB_5.out hb)
    clear hb HX_5 HY_5 HB_5
    go_wp2_with fail
    go_ret
    exact ⟨by first | rfl | simp, HB_6.out⟩
  · have hmn : min (s.size : Int) 60 = 60 := by omega
    have hex : u = s.extract 0 60 := by rw [hu, show min s.size 60 = 60 by omega]
    have hex2 := hex.symm
    clear hex hu e1
    have HB_0 := hide (Below.refl w.heap.size w)
    go_enter Tryd.func6, Tryd.ntmps6
    go_wp2_with fail
    have HTT := hide (HT.out.on HB_0.out)
    refine (HP.out _ HTT.out).mono ?_
    clear HTT
    rintro e w1 ⟨rfl, hb⟩
    have HB_1 := hide (on_tr HB_0.out hb)
    clear hb  HB_0
    go_wp2_with fail
    have HB_2 := hide (HB_1.out.alloc HB_1.out.size (.cells #[.int .i64 F.1.n, .int .i64 (F.1.d - 1)] 24))
    have HX_2 := hide (Two.new w1 F.1.n (F.1.d - 1) 24)
    generalize w1.alloc (.cells #[.int .i64 F.1.n, .int .i64 (F.1.d - 1)] 24) = w2 at  HB_2 HX_2 ⊢
    generalize w1.heap.size = hx at HX_2 ⊢
    clear  HB_1
    refine (HR.out _).mono ?_
    rintro e w3 ⟨rfl, hb⟩
    have HX_3 := hide (HX_2.out.on hb HX_2.out.lt)
    have HB_3 := hide (on_tr HB_2.out hb)
    clear hb HX_2 HB_2
    go_wp2_with fail
    have HX_4 := hide (HX_3.out.on ((Below.refl w3.heap.size w3).alloc (Nat.le_refl _) (.cells #[.int .i64 F.1.n, .int .i64 F.1.d] 26)) HX_3.out.lt)
    have HB_4 := hide (HB_3.out.alloc HB_3.out.size (.cells #[.int .i64 F.1.n, .int .i64 F.1.d] 26))
    have HY_4 := hide (Two.new w3 F.1.n F.1.d 26)
    generalize w3.alloc (.cells #[.int .i64 F.1.n, .int .i64 F.1.d] 26) = w4 at HX_4 HB_4 HY_4 ⊢
    generalize w3.heap.size = hy at HY_4 ⊢
    clear HX_3 HB_3
    have HTT := hide (HT.out.on HB_4.out)
    refine (HK.out _ HTT.out).mono ?_
    clear HTT
    rintro e w5 ⟨rfl, hb⟩
    have HX_5 := hide (HX_4.out.on hb HX_4.out.lt)
    have HY_5 := hide (HY_4.out.on hb HY_4.out.lt)
    have HB_5 := hide (on_tr HB_4.out hb)
    clear hb HX_4 HY_4 HB_4
    have c0 := HX_5.out.c0
    have c1 := HX_5.out.c1
    have c2 := HY_5.out.c0
    have c3 := HY_5.out.c1
    go_wp2_with fail
    clear c0 c1 c2 c3
    refine (HS.out _).mono ?_
    rintro e w6 ⟨rfl, hb⟩
    have HX_6 := hide (HX_5.out.on hb HX_5.out.lt)
    have HY_6 := hide (HY_5.out.on hb HY_5.out.lt)
    have HB_6 := hide (on_tr HB_5.out hb)
    clear hb HX_5 HY_5 HB_5
    go_wp2_with fail
    go_ret
    exact ⟨by first | rfl | simp, HB_6.out⟩

end Go.Proofs.YtfappkhohddcjaaDoor
