/- Sign, Text of rational.R. -/
import Derived.Test.YtfappkhohddcjaaDoorRat8
import Derived.Test.YtfappkhohddcjaaDoorShelf
import Derived.Lib.SmallJoins
import Derived.Lib.ItoaLen
namespace Go.Proofs.YtfappkhohddcjaaDoor
open Go.RowKit

/-- the library's table of powers of ten stands -/
def Tab (w : World) : Prop := Lib.TabIs Tryd.prog w "internal/strconv.uint64pow10" .u64 Lib.pow10Tab
theorem Tab.on {w w' : World} (h : Tab w) (hb : Below w.heap.size w w') : Tab w' := by
  obtain ⟨g, hg⟩ : ∃ g, Tryd.prog.globalNamed "internal/strconv.uint64pow10" = some g := by
    cases hg : Tryd.prog.globalNamed "internal/strconv.uint64pow10" with
    | some g => exact ⟨g, rfl⟩
    | none => simp [Tab, Lib.TabIs, World.var?, hg] at h
  exact Joins.tab_stays hg h hb (Nat.le_refl _)

theorem below_grew1 (w : World) (k : Nat) (os : Array Obj) : Below w.heap.size w (Go.Sort.grow (w.drewN k) os) :=
  ⟨rfl, rfl, rfl, by simp [Go.Sort.grow], fun j hj => (show (w.heap ++ os)[j]? = w.heap[j]? from by rw [Array.getElem?_append_left hj])⟩
theorem Itoa_any (n : Int) (w : World) (hn : i64r n) (ht : Tab w) : Calls Tryd.prog 51 #[.int .i64 n] w fun e w' => e = .returned (.string ⟨(Lib.itoa n).toArray⟩) ∧ Below w.heap.size w w' := by
  refine (Tryd.strconv_Itoa n hn.1 hn.2 w ht).mono ?_
  rintro e w' ⟨h1, k, os, rfl⟩
  exact ⟨h1, below_grew1 w k os⟩

set_option maxHeartbeats 1000000 in
theorem Sign_any (n d : Int) (w : World) (h1 : Fq n d) :
    Calls Tryd.prog 41 #[.agg #[.int .i64 n, .int .i64 (d - 1)]] w fun e w' => e = .returned (.int .i64 (cmpQ n 0)) ∧ Below w.heap.size w w' := by
  have hc : ∀ W, Calls Tryd.prog 42 #[.agg #[.int .i64 n, .int .i64 (d - 1)], .agg #[.int .i64 0, .int .i64 0]] W fun e w' => e = .returned (.int .i64 (cmpQ n 0)) ∧ Below W.heap.size W w' := fun W => by
    have := Cmp_any n d 0 1 W h1 ⟨by omega, by omega, by omega, by omega⟩
    rw [Int.mul_one, Int.zero_mul] at this
    exact this
  have HC := hide hc
  have HS := hide (S1.new w n (d - 1) 24)
  clear hc h1
  go_enter Tryd.func41, Tryd.ntmps41
  go_wp2_with fail
  refine (HC.out _).mono ?_
  rintro e w' ⟨rfl, hb⟩
  go_wp2_with fail
  go_ret
  exact ⟨rfl, on_tr HS.out.bel hb⟩

/-- the text of a fraction -/
def textF (n d : Int) : List UInt8 := Lib.itoa n ++ if 1 < d then 47 :: Lib.itoa d else []

set_option maxHeartbeats 1000000 in
theorem Text_any (n d : Int) (w : World) (h1 : Fq n d) (ht : Tab w) :
    Calls Tryd.prog 26 #[.agg #[.int .i64 n, .int .i64 (d - 1)]] w fun e w' => e = .returned (.string ⟨(textF n d).toArray⟩) ∧ Below w.heap.size w w' := by
  obtain ⟨a1, a2, a3, a4⟩ := h1
  have HI := hide (fun W => Itoa_any n W ⟨by omega, by omega⟩)
  have HJ := hide (fun W => Itoa_any d W ⟨by omega, by omega⟩)
  have HD := hide (fun W => Den_any n d W (by omega) (by omega))
  have HS := hide (S1.new w n (d - 1) 24)
  have HT := hide ht
  clear ht
  by_cases hd : 1 < d
  · have hd' : 0 < d - 1 := by omega
    have l1 := Lib.itoa_length_le n (by omega) (by omega)
    have l2 := Lib.itoa_length_le d (by omega) (by omega)
    have hl1 : ¬ 9223372036854775807 < 1 + (Lib.itoa d).length := by omega
    have hl2 : ¬ 9223372036854775807 < (Lib.itoa n).length + (1 + (Lib.itoa d).length) := by omega
    have HV := hide (show textF n d = Lib.itoa n ++ 47 :: Lib.itoa d by rw [textF, if_pos hd])
    go_enter Tryd.func26, Tryd.ntmps26
    go_wp2_with fail
    generalize w.alloc (.cells #[.int .i64 n, .int .i64 (d - 1)] 24) = wX at HS ⊢
    refine (HI.out _ (HT.out.on HS.out.bel)).mono ?_
    rintro e w1 ⟨rfl, hb1⟩
    have HS1 := hide (HS.out.on hb1)
    have c0 := HS1.out.tx.c0
    have c1 := HS1.out.tx.c1
    clear hb1
    go_wp2_with fail
    refine (HD.out _).mono ?_
    rintro e w2 ⟨rfl, hb2⟩
    have HS2 := hide (HS1.out.on hb2)
    clear hb2
    go_wp2_with fail
    refine (HJ.out _ (HT.out.on HS2.out.bel)).mono ?_
    rintro e w3 ⟨rfl, hb3⟩
    have HS3 := hide (HS2.out.on hb3)
    clear hb3
    go_wp2_with fail
    go_ret
    exact ⟨by rw [HV.out]; simp; exact (congrArg (ByteArray.mk (Lib.itoa n).toArray ++ ·) (ByteArray.mk_append_mk [47] (Lib.itoa d))).trans (ByteArray.mk_append_mk _ _), HS3.out.bel⟩
  · have hd' : ¬ 0 < d - 1 := by omega
    have HV := hide (show textF n d = Lib.itoa n by rw [textF, if_neg hd, List.append_nil])
    go_enter Tryd.func26, Tryd.ntmps26
    go_wp2_with fail
    generalize w.alloc (.cells #[.int .i64 n, .int .i64 (d - 1)] 24) = wX at HS ⊢
    refine (HI.out _ (HT.out.on HS.out.bel)).mono ?_
    rintro e w1 ⟨rfl, hb1⟩
    have HS1 := hide (HS.out.on hb1)
    have c0 := HS1.out.tx.c0
    have c1 := HS1.out.tx.c1
    clear hb1
    go_wp2_with fail
    go_ret
    exact ⟨by rw [HV.out]; rfl, HS1.out.bel⟩

end Go.Proofs.YtfappkhohddcjaaDoor
