/- The law's comparison of a result with the reference's. -/
import Derived.Test.YtfappkhohddcjaaDoorRat10
namespace Go.Proofs.YtfappkhohddcjaaDoor
open Go.RowKit

theorem S2.new2 (w : World) (a b c d : Int) (t u : TypeId) : S2 w w.heap.size a b c d ((w.alloc (.cells #[.int .i64 a, .int .i64 b] t)).alloc (.cells #[.int .i64 c, .int .i64 d] u)) := by
  refine ⟨(Two.new w a b t).on ((Below.refl _ _).alloc (Nat.le_refl _) _) (by simp), ?_, ((Below.refl _ w).alloc (Nat.le_refl _) _).alloc (by simp) _⟩
  have := Two.new (w.alloc (.cells #[.int .i64 a, .int .i64 b] t)) c d u
  simpa using this
theorem S2.fin2 {w0 w1 : World} {k : Nat} {n1 d1 n2 d2 : Int} (h : w1.cell? ⟨k, 0, none⟩ = some (.int .i64 n1) ∧ w1.cell? ⟨k, 1, none⟩ = some (.int .i64 d1) ∧ w1.cell? ⟨k + 1, 0, none⟩ = some (.int .i64 n2) ∧ w1.cell? ⟨k + 1, 1, none⟩ = some (.int .i64 d2) ∧ S2 w0 k n1 d1 n2 d2 w1) : Below w0.heap.size w0 w1 := h.2.2.2.2.bel

set_option maxRecDepth 100000 in
set_option maxHeartbeats 4000000 in
theorem same_ok (n d : Int) (w : World) (h : Fq n d) :
    Calls Tryd.prog 23 #[.agg #[.int .i64 n, .int .i64 (d - 1)], .int .i64 0, .agg #[.int .i64 n, .int .i64 d], .int .i64 0] w fun e w' => e = .returned (.bool true) ∧ Below w.heap.size w w' := by
  obtain ⟨a1, a2, a3, a4⟩ := h
  have HD := hide (fun W => Den_any n d W (by omega) (by omega))
  have HN := hide (fun W => Num_any n (d - 1) W)
  have HS := hide (S2.new2 w n (d - 1) n d 24 26)
  go_enter Tryd.func23, Tryd.ntmps23
  go_wp2_with fail
  generalize (w.alloc (.cells #[.int .i64 n, .int .i64 (d - 1)] 24)).alloc (.cells #[.int .i64 n, .int .i64 d] 26) = wX at HS ⊢
  go_region_held3 (fun w' => w'.cell? ⟨w.heap.size, 0, none⟩ = some (.int .i64 n) ∧ w'.cell? ⟨w.heap.size, 1, none⟩ = some (.int .i64 (d - 1)) ∧ w'.cell? ⟨w.heap.size + 1, 0, none⟩ = some (.int .i64 n) ∧ w'.cell? ⟨w.heap.size + 1, 1, none⟩ = some (.int .i64 d) ∧ S2 w w.heap.size n (d - 1) n d w')
    (first | (exact HS.out.drew.all) | (exact S2.next (by assumption) (by assumption)))
    (first | (go_at_call 40; refine (HD.out _).mono ?_; rintro e w' ⟨rfl, hb'⟩) | (go_at_call 39; refine (HN.out _).mono ?_; rintro e w' ⟨rfl, hb'⟩))
  all_goals
    go_wp2_with fail
    go_ret
    exact ⟨by first | rfl | simp, S2.fin2 (by assumption)⟩

set_option maxRecDepth 100000 in
set_option maxHeartbeats 4000000 in
theorem same_err (e : Int) (w : World) (h : ¬ e = 0) :
    Calls Tryd.prog 23 #[.agg #[.int .i64 0, .int .i64 0], .int .i64 e, .agg #[.int .i64 0, .int .i64 1], .int .i64 e] w fun e w' => e = .returned (.bool true) ∧ Below w.heap.size w w' := by
  have h' : (e != 0) = true := by simpa using h
  go_enter Tryd.func23, Tryd.ntmps23
  go_wp2_with fail
  go_ret
  exact ⟨by first | rfl | simp, by go_grown⟩

theorem ofF_err (n d : Int) (h : ¬ (ofF n d).e = 0) : (ofF n d).n = 0 ∧ (ofF n d).d = 1 := by
  by_cases hd : d = 0
  · subst hd; rw [ofF_zero]; exact ⟨rfl, rfl⟩
  · rw [ofF_pos hd] at h ⊢
    unfold redF at h ⊢
    by_cases hc : 1073741824 < n.natAbs / Nat.gcd n.natAbs d.natAbs ∨ 1073741824 < d.natAbs / Nat.gcd n.natAbs d.natAbs
    · rw [if_pos hc]; exact ⟨rfl, rfl⟩
    · rw [if_neg hc] at h; exact absurd rfl h

/-- a result and the reference's: the same -/
theorem same_any (F : Fr) (w : World) (h : Fq F.n F.d) (he : ¬ F.e = 0 → F.n = 0 ∧ F.d = 1) :
    Calls Tryd.prog 23 #[.agg #[.int .i64 F.n, .int .i64 (F.d - 1)], .int .i64 F.e, .agg #[.int .i64 F.n, .int .i64 F.d], .int .i64 F.e] w fun e w' => e = .returned (.bool true) ∧ Below w.heap.size w w' := by
  by_cases h0 : F.e = 0
  · rw [h0]; exact same_ok F.n F.d w h
  · obtain ⟨e1, e2⟩ := he h0
    rw [e1, e2]
    exact same_err F.e w h0

end Go.Proofs.YtfappkhohddcjaaDoor
