/- spring.Minimal and spring.Natural. -/
import Derived.Test.YtajkmlejklgbbaaSpTot
namespace Go.Proofs.Ytajkmlejklgbbaa
open Go.RowKit

def okOr (l : List Spr) (v : Int) : Int := if spErr l = 0 then v else 0

set_option maxHeartbeats 1000000 in
theorem Minimal_any (A : Option Addr) (n c : Nat) (l : List Spr) (w : World) (hn : n = l.length) (hm : n ≤ 9223372036854775807) (h : Rds w w.heap.size A (sprs l)) :
    Calls Try.prog 39 #[.slice A n c] w fun e w' => e = .returned (.tuple #[.int .i64 (okOr l (mins l)), .int .i64 (spErr l)]) ∧ Below w.heap.size w w' := by
  have HN := hide hn
  have H := hide h
  clear hn h
  by_cases he : spErr l = 0
  · obtain ⟨hl, hok⟩ := spErr_all l he
    have HO := hide (show okOr l (mins l) = mins l by rw [okOr, if_pos he])
    have HE := hide he
    have HOK := hide hok
    have hn2 : n ≤ 8192 := by rw [HN.out]; exact hl
    clear he hok hl
    go_enter Try.func39, Try.ntmps39
    go_wp2_with fail
    refine (spCheck_any A n c l _ HN.out hm H.out).mono ?_
    rw [HE.out]
    rintro e w1 ⟨rfl, hb1⟩
    go_wp2_with fail
    refine (minimal_any A n c l _ HN.out hn2 ((H.out.below hb1).more hb1.size) HOK.out).mono ?_
    rintro e w2 ⟨rfl, hb2⟩
    go_wp2_with fail
    go_ret2
    exact ⟨by rw [HO.out, HE.out]; rfl, hb1.trans (hb2.mono hb1.size)⟩
  · have HO := hide (show okOr l (mins l) = 0 by rw [okOr, if_neg he])
    have he2 : (spErr l != 0) = true := by simpa using he
    clear he
    go_enter Try.func39, Try.ntmps39
    go_wp2_with fail
    refine (spCheck_any A n c l _ HN.out hm H.out).mono ?_
    rintro e w1 ⟨rfl, hb1⟩
    go_wp2_with fail
    go_ret2
    exact ⟨by rw [HO.out]; rfl, hb1⟩

set_option maxHeartbeats 1000000 in
theorem NaturalSp_any (A : Option Addr) (n c : Nat) (l : List Spr) (w : World) (hn : n = l.length) (hm : n ≤ 9223372036854775807) (h : Rds w w.heap.size A (sprs l)) :
    Calls Try.prog 40 #[.slice A n c] w fun e w' => e = .returned (.tuple #[.int .i64 (okOr l (lens l 1 1)), .int .i64 (spErr l)]) ∧ Below w.heap.size w w' := by
  have HN := hide hn
  have H := hide h
  clear hn h
  by_cases he : spErr l = 0
  · obtain ⟨hl, hok⟩ := spErr_all l he
    have HO := hide (show okOr l (lens l 1 1) = lens l 1 1 by rw [okOr, if_pos he])
    have HE := hide he
    have HOK := hide hok
    have hn2 : n ≤ 8192 := by rw [HN.out]; exact hl
    clear he hok hl
    go_enter Try.func40, Try.ntmps40
    go_wp2_with fail
    refine (spCheck_any A n c l _ HN.out hm H.out).mono ?_
    rw [HE.out]
    rintro e w1 ⟨rfl, hb1⟩
    go_wp2_with fail
    refine (total_any A n c l 1 1 _ HN.out hn2 ((H.out.below hb1).more hb1.size) HOK.out (by omega) (by omega) (by omega) (by omega)).mono ?_
    rintro e w2 ⟨rfl, hb2⟩
    go_wp2_with fail
    go_ret2
    exact ⟨by rw [HO.out, HE.out]; rfl, hb1.trans (hb2.mono hb1.size)⟩
  · have HO := hide (show okOr l (lens l 1 1) = 0 by rw [okOr, if_neg he])
    have he2 : (spErr l != 0) = true := by simpa using he
    clear he
    go_enter Try.func40, Try.ntmps40
    go_wp2_with fail
    refine (spCheck_any A n c l _ HN.out hm H.out).mono ?_
    rintro e w1 ⟨rfl, hb1⟩
    go_wp2_with fail
    go_ret2
    exact ⟨by rw [HO.out]; rfl, hb1⟩

end Go.Proofs.Ytajkmlejklgbbaa
