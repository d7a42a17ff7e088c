/- spring.Force; the law's known. -/
import Derived.Test.YtcnejnaeahffhaaSpSolve
namespace Go.Proofs.Ytcnejnaeahffhaa
open Go.RowKit

set_option maxHeartbeats 1000000 in
theorem Force_err (A : Option Addr) (n c : Nat) (l : List Spr) (width : Int) (w : World) (hn : n = l.length) (hm : n ≤ 9223372036854775807) (h : Rds w w.heap.size A (sprs l)) (he : fitErr l width ≠ 0) :
    Calls Try.prog 15 #[.slice A n c, .int .i64 width] w fun e w' => e = .returned (.tuple #[.int .i64 0, .int .i64 0, .int .i64 (fitErr l width)]) ∧ Below w.heap.size w w' := by
  have HN := hide hn
  have HR := hide h
  have he2 : (fitErr l width != 0) = true := by simpa using he
  have hc : Calls Try.prog 32 #[.slice A n c, .int .i64 width] w fun e w' => e = .returned (.int .i64 (fitErr l width)) ∧ Below w.heap.size w w' := spfits_any A n c l width w hn hm h
  obtain ⟨r, hr⟩ : ∃ r, r = fitErr l width := ⟨_, rfl⟩
  rw [← hr] at he2 hc
  rw [← hr]
  have HC := hide hc
  clear hn h he hr hc
  go_enter Try.func15, Try.ntmps15
  go_wp2_with fail
  refine HC.out.mono ?_
  rintro e w1 ⟨rfl, hb1⟩
  go_wp2_with fail
  go_ret3
  exact ⟨rfl, hb1⟩

set_option maxHeartbeats 1000000 in
theorem Force_ok (A : Option Addr) (n c : Nat) (l : List Spr) (width : Int) (w : World) (hn : n = l.length) (h : Rds w w.heap.size A (sprs l)) (he : fitErr l width = 0) :
    Calls Try.prog 15 #[.slice A n c, .int .i64 width] w fun e w' => ∃ p q : Int, e = .returned (.tuple #[.int .i64 p, .int .i64 q, .int .i64 0]) ∧ Low l width p q ∧ Below w.heap.size w w' := by
  obtain ⟨he1, hw0, hw1, hmin⟩ := fitErr_zero he
  obtain ⟨hl8, hok⟩ := spErr_all l he1
  have HN := hide hn
  have HR := hide h
  have HOK := hide hok
  have hn2 : n ≤ 8192 := by omega
  have hc : Calls Try.prog 32 #[.slice A n c, .int .i64 width] w fun e w' => e = .returned (.int .i64 (fitErr l width)) ∧ Below w.heap.size w w' := spfits_any A n c l width w hn (by omega) h
  rw [he] at hc
  have HC := hide hc
  have HMIN := hide hmin
  clear hn h hok he he1 hl8 hc hmin
  go_enter Try.func15, Try.ntmps15
  go_wp2_with fail
  refine HC.out.mono ?_
  rintro e w1 ⟨rfl, hb1⟩
  go_wp2_with fail
  refine (find_any A n c l width _ HN.out hn2 (Rds.on2 HR.out hb1) HOK.out hw0 hw1 HMIN.out).mono ?_
  rintro e w2 ⟨p, q, rfl, hlow, hb2⟩
  have HLOW := hide hlow
  have HB := hide (find1_tr hb1 (hb2.alloc hb2.size (.cells #[.int .i64 p, .int .i64 q] 64)))
  clear hlow hb1 hb2
  go_upto_region 5 with fail
  go_quiet (fail)
  go_wp2_with fail
  go_ret3
  exact ⟨p, q, rfl, HLOW.out, below_drewN HB.out _⟩

def kl : List Spr := [⟨2, 0⟩, ⟨3, 0⟩]
theorem kl_len (k d : Int) : lens kl k d = max 0 (2 * k / d) + max 0 (3 * k / d) := by simp [lens, kl, lenF]
theorem kl_low : Low kl 4 2 3 := by
  refine ⟨by omega, by omega, by omega, by omega, by rw [kl_len]; decide, .inr ⟨⟨3, 0⟩, by simp [kl], by simp, 2, by omega, by simp⟩, fun s hs sn k k0 hk => ?_, by decide⟩
  rw [kl_len] at hk
  simp only [kl, List.mem_cons, List.not_mem_nil, or_false] at hs
  rcases hs with rfl | rfl <;> simp only at hk ⊢ <;> omega
theorem kl_fit : fitErr kl 4 = 0 := by decide
theorem kl_nn : ∀ s ∈ kl, 0 ≤ s.n := by
  intro s hs
  simp only [kl, List.mem_cons, List.not_mem_nil, or_false] at hs
  rcases hs with rfl | rfl <;> decide
theorem kl_bal : Bal kl [2, 2] 4 := by
  refine ⟨rfl, rfl, fun i s v hs hv => ?_, fun i j s t v u hs ht hv hu sn tn hlt => ?_⟩
  · match i, hs, hv with
    | 0, hs, hv => cases hs; cases hv; decide
    | 1, hs, hv => cases hs; cases hv; decide
    | i + 2, hs, hv => simp [kl] at hs
  · match i, j, hs, ht, hv, hu with
    | 0, 0, hs, ht, hv, hu => cases hs; cases hv; cases ht; cases hu; decide
    | 0, 1, hs, ht, hv, hu => cases hs; cases hv; cases ht; cases hu; decide
    | 1, 0, hs, ht, hv, hu => cases hs; cases hv; cases ht; cases hu; decide
    | 1, 1, hs, ht, hv, hu => cases hs; cases hv; cases ht; cases hu; decide
    | i + 2, _, hs, ht, hv, hu => simp [kl] at hs
    | 0, j + 2, hs, ht, hv, hu => simp [kl] at ht
    | 1, j + 2, hs, ht, hv, hu => simp [kl] at ht

set_option maxRecDepth 100000 in
set_option maxHeartbeats 1000000 in
theorem known_any (w : World) : Calls Try.prog 17 #[] w fun e w' => e = .returned (.bool true) ∧ Below w.heap.size w w' := by
  go_enter Try.func17, Try.ntmps17
  go_wp2_with fail
  have hb0 : Below w.heap.size w (w.alloc (.cells #[.int .i64 2, .int .i64 0, .int .i64 3, .int .i64 0] 46)) := (Below.refl _ w).alloc (Nat.le_refl _) _
  have hr0 : Rds (w.alloc (.cells #[.int .i64 2, .int .i64 0, .int .i64 3, .int .i64 0] 46)) (w.alloc (.cells #[.int .i64 2, .int .i64 0, .int .i64 3, .int .i64 0] 46)).heap.size (some ⟨w.heap.size, 0, none⟩) (sprs kl) := (Rds.new w _ _).more (by simp)
  generalize hw1 : w.alloc (.cells #[.int .i64 2, .int .i64 0, .int .i64 3, .int .i64 0] 46) = w1 at hb0 hr0 ⊢
  clear hw1
  refine (Force_ok (some ⟨w.heap.size, 0, none⟩) 2 2 kl 4 _ rfl hr0 kl_fit).mono ?_
  rintro e w2 ⟨p, q, rfl, hlow, hb2⟩
  obtain ⟨rfl, rfl⟩ := hlow.unique kl_nn kl_low
  have hr2 := Rds.on2 hr0 hb2
  have hb2' := find1_tr hb0 hb2
  clear hlow hb2 hb0 hr0
  go_wp2_with fail
  refine (Solve_ok (some ⟨w.heap.size, 0, none⟩) 2 2 kl 4 _ rfl (by omega) hr2 kl_fit).mono ?_
  rintro e w3 ⟨g, xs, rfl, hr3, hso, hb3⟩
  have hx : xs = [2, 2] := (hso.bal ⟨⟨2, 0⟩, by simp [kl], by decide⟩).unique kl_nn kl_bal
  subst hx
  have HB := hide (find1_tr hb2' hb3)
  obtain ⟨b, off, e1, hbl, hcn⟩ := hr3.get (k := 0) (by simp)
  simp only [Option.some.injEq, Addr.mk.injEq, and_true] at e1
  obtain ⟨rfl, rfl⟩ := e1
  have c0 := hcn 0 (.int .i64 2) rfl
  have c1 := hcn 1 (.int .i64 2) rfl
  rw [Nat.zero_add] at c0 c1
  clear hcn hr3 hso hb3 hb2' hr2
  go_wp2_with fail
  go_ret
  exact ⟨rfl, HB.out⟩

end Go.Proofs.Ytcnejnaeahffhaa
