/- Parse at every text of bounded length; the comparison of a result with the reference's. -/
import Derived.Test.YtfappkhohddcjaaDoorParA
import Derived.Test.YtfappkhohddcjaaDoorParB
import Derived.Test.YtfappkhohddcjaaDoorRParA
import Derived.Test.YtfappkhohddcjaaDoorRParB
namespace Go.Proofs.YtfappkhohddcjaaDoor
open Go.RowKit

theorem par_nil {s : ByteArray} (h : s.size = 0) : parF s.data.toList = (⟨0, 1, 4⟩, 0) ∧ numF s.data.toList 0 = ⟨0, 0, 4⟩ := by
  rw [(str_nil h).2]
  exact ⟨rfl, rfl⟩

set_option maxRecDepth 100000 in
set_option maxHeartbeats 1000000 in
theorem Parse_nil (s : ByteArray) (w : World) (h0 : s.size = 0) :
    Calls Tryd.prog 25 #[.string s] w fun e w' => e = .returned (.tuple #[.agg #[.int .i64 (parF s.data.toList).1.n, .int .i64 ((parF s.data.toList).1.d - 1)], .int .i64 ((parF s.data.toList).2 : Nat), .int .i64 (parF s.data.toList).1.e]) ∧ Below w.heap.size w w' := by
  have HV := hide (par_nil h0).1
  have ha : ∀ W, Calls Tryd.prog 50 #[.string s, .int .i64 0] W fun e w' => e = .returned (.tuple #[.int .i64 (((numF s.data.toList 0).v : Int)), .int .i64 (((numF s.data.toList 0).at_ : Int)), .int .i64 ((numF s.data.toList 0).e)]) ∧ W = w' := fun W => number_any s 0 W (by omega) (by omega)
  rw [(par_nil h0).2] at ha
  have HA := hide (show ∀ W, Calls Tryd.prog 50 #[.string s, .int .i64 0] W fun e w' => e = .returned (.tuple #[.int .i64 0, .int .i64 0, .int .i64 4]) ∧ W = w' from ha)
  have t1 := (str_nil h0).1
  have HS := hide (S1.new w 0 0 24)
  clear ha h0
  go_enter Tryd.func25, Tryd.ntmps25
  go_wp2_with fail
  generalize w.alloc (.cells #[.int .i64 0, .int .i64 0] 24) = wX at HS ⊢
  refine (HA.out _).mono ?_
  rintro e1 w1 ⟨rfl, rfl⟩
  have r0 := HS.out.tx.c0
  have r1 := HS.out.tx.c1
  have r2 := HS.out.tx.f0
  have r3 := HS.out.tx.f1
  have d0 := (HS.out.tx.set 0 0).c0
  have d1 := (HS.out.tx.set 0 0).c1
  go_wp2_with fail
  refine bodyPost_ret (v := .tuple #[.agg #[.int .i64 0, .int .i64 0], .int .i64 0, .int .i64 4]) (by simp [results, Tryd.results25, go_sem, d0, d1]) rfl ?_
  exact ⟨by rw [HV.out] <;> (first | rfl | simp), (HS.out.set (Nat.le_refl _) _ _).bel⟩

set_option maxRecDepth 100000 in
set_option maxHeartbeats 1000000 in
theorem RParse_nil (s : ByteArray) (w : World) (h0 : s.size = 0) :
    Calls Tryd.prog 28 #[.string s] w fun e w' => e = .returned (.tuple #[.agg #[.int .i64 (parF s.data.toList).1.n, .int .i64 (parF s.data.toList).1.d], .int .i64 ((parF s.data.toList).2 : Nat), .int .i64 (parF s.data.toList).1.e]) ∧ Below w.heap.size w w' := by
  have HV := hide (par_nil h0).1
  have ha : ∀ W, Calls Tryd.prog 53 #[.string s, .int .i64 0] W fun e w' => e = .returned (.tuple #[.int .i64 (((numF s.data.toList 0).v : Int)), .int .i64 (((numF s.data.toList 0).at_ : Int)), .int .i64 ((numF s.data.toList 0).e), .int .i64 (numB (numF s.data.toList 0))]) ∧ W = w' := fun W => rnumber_any s 0 W (by omega) (by omega)
  rw [(par_nil h0).2] at ha
  have HA := hide (show ∀ W, Calls Tryd.prog 53 #[.string s, .int .i64 0] W fun e w' => e = .returned (.tuple #[.int .i64 0, .int .i64 0, .int .i64 4, .int .i64 0]) ∧ W = w' from ha)
  have t1 := (str_nil h0).1
  have HS := hide (S2.new w 0 0 0 1 26)
  clear ha h0
  go_enter Tryd.func28, Tryd.ntmps28
  go_wp2_with fail
  generalize (w.alloc (.cells #[.int .i64 0, .int .i64 0] 26)).alloc (.cells #[.int .i64 0, .int .i64 1] 26) = wX at HS ⊢
  refine (HA.out _).mono ?_
  rintro e1 w1 ⟨rfl, rfl⟩
  have r0 := HS.out.tx.c0
  have r1 := HS.out.tx.c1
  have r2 := HS.out.tx.f0
  have r3 := HS.out.tx.f1
  have z0 := HS.out.ty.c0
  have z1 := HS.out.ty.c1
  have d0 := (HS.out.tx.set 0 1).c0
  have d1 := (HS.out.tx.set 0 1).c1
  go_wp2_with fail
  refine bodyPost_ret (v := .tuple #[.agg #[.int .i64 0, .int .i64 1], .int .i64 0, .int .i64 4]) (by simp [results, Tryd.results28, go_sem, d0, d1]) rfl ?_
  exact ⟨by rw [HV.out] <;> (first | rfl | simp), (HS.out.set1 (Nat.le_refl _) _ _).bel⟩

theorem Parse_any (s : ByteArray) (w : World) (hs : s.size ≤ 1000000000) (ht : Tab w) :
    Calls Tryd.prog 25 #[.string s] w fun e w' => e = .returned (.tuple #[.agg #[.int .i64 (parF s.data.toList).1.n, .int .i64 ((parF s.data.toList).1.d - 1)], .int .i64 ((parF s.data.toList).2 : Nat), .int .i64 (parF s.data.toList).1.e]) ∧ Below w.heap.size w w' := by
  by_cases h0 : s.size = 0
  · exact Parse_nil s w h0
  · by_cases h45 : s.data.toList[0]? = some 45
    · exact Parse_minus s w hs (by omega) h45 ht
    · exact Parse_plain s w hs (by omega) h45 ht
theorem RParse_any (s : ByteArray) (w : World) (hs : s.size ≤ 1000000000) :
    Calls Tryd.prog 28 #[.string s] w fun e w' => e = .returned (.tuple #[.agg #[.int .i64 (parF s.data.toList).1.n, .int .i64 (parF s.data.toList).1.d], .int .i64 ((parF s.data.toList).2 : Nat), .int .i64 (parF s.data.toList).1.e]) ∧ Below w.heap.size w w' := by
  by_cases h0 : s.size = 0
  · exact RParse_nil s w h0
  · by_cases h45 : s.data.toList[0]? = some 45
    · exact RParse_minus s w hs (by omega) h45
    · exact RParse_plain s w hs (by omega) h45

end Go.Proofs.YtfappkhohddcjaaDoor
