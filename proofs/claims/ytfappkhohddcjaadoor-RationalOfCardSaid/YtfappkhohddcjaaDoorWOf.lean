/- The walk of RationalOf. -/
import Derived.Test.YtfappkhohddcjaaDoorKn01
namespace Go.Proofs.YtfappkhohddcjaaDoor
open Go.RowKit

set_option maxRecDepth 100000 in
set_option maxHeartbeats 16000000 in
theorem rationalOf_walk (n : Int) (hn : i64r n) (d : Int) (hd : i64r d) (w : World) (ht : Tab w) :
    Calls Tryd.prog 7 #[.int .i64 n, .int .i64 d] w fun e w' => e = .returned (.bool true) ∧ Below w.heap.size w w' := by
  have HT := hide ht
  have HO := hide (fun W => Of_any n d W hn hd)
  have HR := hide (fun W => ROf_any n d W hn hd)
  have HI := hide (fun W => Int_any n W hn)
  have HR1 := hide (fun W => ROf_any n 1 W hn ⟨by omega, by omega⟩)
  have HK := hide (fun W (h : Tab W) => known_any W h)
  have HS1 := hide (fun W => same_any (ofF n d) W (ofF_fq n d) (ofF_err n d))
  have HS2 := hide (fun W => same_any (ofF n 1) W (ofF_fq n 1) (ofF_err n 1))
  generalize ofF n d = F at HO HR HS1
  generalize ofF n 1 = G at HI HR1 HS2
  clear ht hn hd
  have HB_0 := hide (Below.refl w.heap.size w)
  go_enter Tryd.func7, Tryd.ntmps7
  go_wp2_with fail
  refine (HO.out _).mono ?_
  rintro e w1 ⟨rfl, hb⟩
  have HB_1 := hide (on_tr HB_0.out hb)
  clear hb  HB_0
  go_wp2_with fail
  have HB_2 := hide (HB_1.out.alloc HB_1.out.size (.cells #[.int .i64 F.n, .int .i64 (F.d - 1)] 24))
  have HX_2 := hide (Two.new w1 F.n (F.d - 1) 24)
  generalize w1.alloc (.cells #[.int .i64 F.n, .int .i64 (F.d - 1)] 24) = w2 at  HB_2 HX_2 ⊢
  generalize w1.heap.size = hx at HX_2 ⊢
  clear  HB_1
  refine (HR.out _).mono ?_
  rintro e w3 ⟨rfl, hb⟩
  have HX_3 := hide (HX_2.out.on hb HX_2.out.lt)
  have HB_3 := hide (on_tr HB_2.out hb)
  clear hb HX_2 HB_2
  go_wp2_with fail
  have HX_4 := hide (HX_3.out.on ((Below.refl w3.heap.size w3).alloc (Nat.le_refl _) (.cells #[.int .i64 F.n, .int .i64 F.d] 26)) HX_3.out.lt)
  have HB_4 := hide (HB_3.out.alloc HB_3.out.size (.cells #[.int .i64 F.n, .int .i64 F.d] 26))
  have HY_4 := hide (Two.new w3 F.n F.d 26)
  generalize w3.alloc (.cells #[.int .i64 F.n, .int .i64 F.d] 26) = w4 at HX_4 HB_4 HY_4 ⊢
  generalize w3.heap.size = hy at HY_4 ⊢
  clear HX_3 HB_3
  refine (HI.out _).mono ?_
  rintro e w5 ⟨rfl, hb⟩
  have HX_5 := hide (HX_4.out.on hb HX_4.out.lt)
  have HY_5 := hide (HY_4.out.on hb HY_4.out.lt)
  have HB_5 := hide (on_tr HB_4.out hb)
  clear hb HX_4 HY_4 HB_4
  go_wp2_with fail
  have HX_6 := hide (HX_5.out.on ((Below.refl w5.heap.size w5).alloc (Nat.le_refl _) (.cells #[.int .i64 G.n, .int .i64 (G.d - 1)] 24)) HX_5.out.lt)
  have HY_6 := hide (HY_5.out.on ((Below.refl w5.heap.size w5).alloc (Nat.le_refl _) (.cells #[.int .i64 G.n, .int .i64 (G.d - 1)] 24)) HY_5.out.lt)
  have HB_6 := hide (HB_5.out.alloc HB_5.out.size (.cells #[.int .i64 G.n, .int .i64 (G.d - 1)] 24))
  have HZ_6 := hide (Two.new w5 G.n (G.d - 1) 24)
  generalize w5.alloc (.cells #[.int .i64 G.n, .int .i64 (G.d - 1)] 24) = w6 at HX_6 HY_6 HB_6 HZ_6 ⊢
  generalize w5.heap.size = hz at HZ_6 ⊢
  clear HX_5 HY_5 HB_5
  refine (HR1.out _).mono ?_
  rintro e w7 ⟨rfl, hb⟩
  have HX_7 := hide (HX_6.out.on hb HX_6.out.lt)
  have HY_7 := hide (HY_6.out.on hb HY_6.out.lt)
  have HZ_7 := hide (HZ_6.out.on hb HZ_6.out.lt)
  have HB_7 := hide (on_tr HB_6.out hb)
  clear hb HX_6 HY_6 HZ_6 HB_6
  go_wp2_with fail
  have HX_8 := hide (HX_7.out.on ((Below.refl w7.heap.size w7).alloc (Nat.le_refl _) (.cells #[.int .i64 G.n, .int .i64 G.d] 26)) HX_7.out.lt)
  have HY_8 := hide (HY_7.out.on ((Below.refl w7.heap.size w7).alloc (Nat.le_refl _) (.cells #[.int .i64 G.n, .int .i64 G.d] 26)) HY_7.out.lt)
  have HZ_8 := hide (HZ_7.out.on ((Below.refl w7.heap.size w7).alloc (Nat.le_refl _) (.cells #[.int .i64 G.n, .int .i64 G.d] 26)) HZ_7.out.lt)
  have HB_8 := hide (HB_7.out.alloc HB_7.out.size (.cells #[.int .i64 G.n, .int .i64 G.d] 26))
  have HV_8 := hide (Two.new w7 G.n G.d 26)
  generalize w7.alloc (.cells #[.int .i64 G.n, .int .i64 G.d] 26) = w8 at HX_8 HY_8 HZ_8 HB_8 HV_8 ⊢
  generalize w7.heap.size = hv at HV_8 ⊢
  clear HX_7 HY_7 HZ_7 HB_7
  have HTT := hide (HT.out.on HB_8.out)
  refine (HK.out _ HTT.out).mono ?_
  clear HTT
  rintro e w9 ⟨rfl, hb⟩
  have HX_9 := hide (HX_8.out.on hb HX_8.out.lt)
  have HY_9 := hide (HY_8.out.on hb HY_8.out.lt)
  have HZ_9 := hide (HZ_8.out.on hb HZ_8.out.lt)
  have HV_9 := hide (HV_8.out.on hb HV_8.out.lt)
  have HB_9 := hide (on_tr HB_8.out hb)
  clear hb HX_8 HY_8 HZ_8 HV_8 HB_8
  have c0 := HX_9.out.c0
  have c1 := HX_9.out.c1
  have c2 := HY_9.out.c0
  have c3 := HY_9.out.c1
  go_wp2_with fail
  clear c0 c1 c2 c3
  refine (HS1.out _).mono ?_
  rintro e w10 ⟨rfl, hb⟩
  have HX_10 := hide (HX_9.out.on hb HX_9.out.lt)
  have HY_10 := hide (HY_9.out.on hb HY_9.out.lt)
  have HZ_10 := hide (HZ_9.out.on hb HZ_9.out.lt)
  have HV_10 := hide (HV_9.out.on hb HV_9.out.lt)
  have HB_10 := hide (on_tr HB_9.out hb)
  clear hb HX_9 HY_9 HZ_9 HV_9 HB_9
  have c0 := HZ_10.out.c0
  have c1 := HZ_10.out.c1
  have c2 := HV_10.out.c0
  have c3 := HV_10.out.c1
  go_wp2_with fail
  clear c0 c1 c2 c3
  refine (HS2.out _).mono ?_
  rintro e w11 ⟨rfl, hb⟩
  have HX_11 := hide (HX_10.out.on hb HX_10.out.lt)
  have HY_11 := hide (HY_10.out.on hb HY_10.out.lt)
  have HZ_11 := hide (HZ_10.out.on hb HZ_10.out.lt)
  have HV_11 := hide (HV_10.out.on hb HV_10.out.lt)
  have HB_11 := hide (on_tr HB_10.out hb)
  clear hb HX_10 HY_10 HZ_10 HV_10 HB_10
  go_wp2_with fail
  go_ret
  exact ⟨rfl, HB_11.out⟩

end Go.Proofs.YtfappkhohddcjaaDoor
