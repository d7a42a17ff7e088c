/- spring.Badness. -/
import Derived.Test.YtcnejnaeahffhaaRef30
namespace Go.Proofs.Ytcnejnaeahffhaa
open Go.RowKit

def badR (S M width : Int) : Int := if S < width then (if S = 0 then 10000 else min 10000 (1000 * (width - S) / S)) else if width < S then 1000 * (S - width) / (S - M) else 0
def badF (S M width : Int) : Int := min 10000 (badR S M width * badR S M width * badR S M width / 10000000)

theorem lens11_bnd {l : List Spr} (h : ∀ s ∈ l, s.ok) : lens l 1 1 ≤ 1048576 * l.length := by
  induction l with
  | nil => simp [lens]
  | cons s l ih =>
    have h1 := Spr.ok_of (h s (by simp))
    have h2 := ih fun x hx => h x (by simp [hx])
    have h3 : lenF s 1 1 ≤ 1048576 := by
      unfold lenF
      rw [Int.mul_one, Int.ediv_one]
      omega
    rw [lens_cons, List.length_cons]
    omega

theorem cube_bnd {r : Int} (h0 : 0 ≤ r) (h1 : r ≤ 10000) : 0 ≤ r * r ∧ r * r ≤ 100000000 ∧ 0 ≤ r * r * r ∧ r * r * r ≤ 1000000000000 := by
  have a := Int.mul_nonneg h0 h0
  have b : r * r ≤ 10000 * 10000 := Int.mul_le_mul h1 h1 h0 (by omega)
  have c := Int.mul_nonneg a h0
  have d : r * r * r ≤ 100000000 * 10000 := Int.mul_le_mul (by omega) h1 h0 (by omega)
  omega

set_option maxHeartbeats 1000000 in
theorem Badness_err (A : Option Addr) (n c : Nat) (l : List Spr) (width : Int) (w : World) (hn : n = l.length) (hm : n ≤ 9223372036854775807) (h : Rds w w.heap.size A (sprs l)) (he : fitErr l width ≠ 0) :
    Calls Try.prog 28 #[.slice A n c, .int .i64 width] w fun e w' => e = .returned (.tuple #[.int .i64 0, .int .i64 (fitErr l width)]) ∧ Below w.heap.size w w' := by
  have HN := hide hn
  have HR := hide h
  have he2 : (fitErr l width != 0) = true := by simpa using he
  have hc : Calls Try.prog 32 #[.slice A n c, .int .i64 width] w fun e w' => e = .returned (.int .i64 (fitErr l width)) ∧ Below w.heap.size w w' := spfits_any A n c l width w hn hm h
  obtain ⟨r, hr⟩ : ∃ r, r = fitErr l width := ⟨_, rfl⟩
  rw [← hr] at he2 hc
  rw [← hr]
  have HC := hide hc
  clear hn h he hr hc
  go_enter Try.func28, Try.ntmps28
  go_wp2_with fail
  refine HC.out.mono ?_
  rintro e w1 ⟨rfl, hb1⟩
  go_wp2_with fail
  go_ret2
  exact ⟨rfl, hb1⟩

set_option maxRecDepth 100000 in
set_option maxHeartbeats 2000000 in
theorem Badness_ok (A : Option Addr) (n c : Nat) (l : List Spr) (width : Int) (w : World) (hn : n = l.length) (h : Rds w w.heap.size A (sprs l)) (he : fitErr l width = 0) :
    Calls Try.prog 28 #[.slice A n c, .int .i64 width] w fun e w' => e = .returned (.tuple #[.int .i64 (badF (lens l 1 1) (mins l) width), .int .i64 0]) ∧ Below w.heap.size w w' := by
  obtain ⟨he1, hw0, hw1, hmin⟩ := fitErr_zero he
  obtain ⟨hl8, hok⟩ := spErr_all l he1
  have HN := hide hn
  have HR := hide h
  have HOK := hide hok
  have hn2 : n ≤ 8192 := by omega
  have hc : Calls Try.prog 32 #[.slice A n c, .int .i64 width] w fun e w' => e = .returned (.int .i64 (fitErr l width)) ∧ Below w.heap.size w w' := spfits_any A n c l width w hn (by omega) h
  rw [he] at hc
  have HC := hide hc
  have hSb := lens_bnd l 1 1 hok (by omega) (by omega) (by omega)
  have hS2 := lens11_bnd hok
  have hMb := mins_bnd l hok
  have hlen := HN.out
  obtain ⟨S, hS⟩ : ∃ S, S = lens l 1 1 := ⟨_, rfl⟩
  obtain ⟨M, hM⟩ : ∃ M, M = mins l := ⟨_, rfl⟩
  rw [← hS] at hSb hS2
  rw [← hM] at hMb hmin
  rw [← hS, ← hM]
  have HT := hide (fun W (hW : Rds W W.heap.size A (sprs l)) => show Calls Try.prog 39 #[.slice A n c, .agg #[.int .i64 1, .int .i64 1]] W fun e w' => e = .returned (.int .i64 S) ∧ Below W.heap.size W w' from by rw [hS]; exact total_any A n c l 1 1 W HN.out hn2 hW HOK.out (by omega) (by omega) (by omega) (by omega))
  have HMI := hide (fun W (hW : Rds W W.heap.size A (sprs l)) => show Calls Try.prog 36 #[.slice A n c] W fun e w' => e = .returned (.int .i64 M) ∧ Below W.heap.size W w' from by rw [hM]; exact minimal_any A n c l W HN.out hn2 hW HOK.out)
  have S1 : S ≤ 1048576 * 8192 := by omega
  have S0 : 0 ≤ S := hSb.1
  have M0 : 0 ≤ M := hMb.1
  clear hn h hok he he1 hl8 hc hS hM hSb hMb hlen hS2
  obtain ⟨s, hs⟩ : ∃ s, s = width - S := ⟨_, rfl⟩
  have i1 : IntKind.i64.wrap (width - S) = s := by rw [hs]; exact IntWalk.i64_in _ (by omega)
  have key : ∃ r : Int, badR S M width = r ∧ 0 ≤ r ∧ r ≤ 10000 ∧ ((S < width ∧ S = 0 ∧ r = 10000) ∨ (S < width ∧ 0 < S ∧ 1000 * s / S < 10000 ∧ r = 1000 * s / S) ∨ (S < width ∧ 0 < S ∧ 10000 ≤ 1000 * s / S ∧ r = 10000) ∨ (width < S ∧ r = 1000 * -s / (S - M)) ∨ (width = S ∧ r = 0)) := by
    refine ⟨_, rfl, ?_⟩
    unfold badR
    by_cases h1 : S < width
    · rw [if_pos h1]
      by_cases h2 : S = 0
      · rw [if_pos h2]; exact ⟨by omega, by omega, .inl ⟨h1, h2, rfl⟩⟩
      · rw [if_neg h2, ← hs]
        have h3 : 0 ≤ 1000 * s / S := Int.ediv_nonneg (by omega) S0
        rcases (show 1000 * s / S < 10000 ∨ 10000 ≤ 1000 * s / S by omega) with h4 | h4
        · exact ⟨by omega, by omega, .inr (.inl ⟨h1, by omega, h4, by omega⟩)⟩
        · exact ⟨by omega, by omega, .inr (.inr (.inl ⟨h1, by omega, h4, by omega⟩))⟩
    · rw [if_neg h1]
      by_cases h2 : width < S
      · rw [if_pos h2]
        have h3 : 0 ≤ 1000 * (S - width) / (S - M) := Int.ediv_nonneg (by omega) (by omega)
        have h4 : 1000 * (S - width) / (S - M) ≤ 1000 := by
          have := Int.ediv_le_of_le_mul (a := 1000 * (S - width)) (b := 1000) (show 0 < S - M by omega) (by omega)
          omega
        exact ⟨h3, by omega, .inr (.inr (.inr (.inl ⟨h2, by rw [show -s = S - width by omega]⟩)))⟩
      · rw [if_neg h2]; exact ⟨by omega, by omega, .inr (.inr (.inr (.inr ⟨by omega, rfl⟩)))⟩
  obtain ⟨r, hr, r0, r1, hcase⟩ := key
  obtain ⟨c0, c1, c2, c3⟩ := cube_bnd r0 r1
  obtain ⟨d, hd⟩ : ∃ d, d = r * r * r / 10000000 := ⟨_, rfl⟩
  have d0 : 0 ≤ d := by rw [hd]; exact Int.ediv_nonneg c2 (by omega)
  have d1 : d ≤ 1000000000000 := by have := Int.ediv_le_self 10000000 c2; omega
  have HF := hide (show badF S M width = min 10000 d by rw [badF, hr, hd])
  have e1 : IntKind.i64.wrap (r * r) = r * r := IntWalk.i64_in _ (by omega)
  have e2 : IntKind.i64.wrap (r * r * r) = r * r * r := IntWalk.i64_in _ (by omega)
  have e3 : (r * r * r).tdiv 10000000 = d := by rw [hd]; exact Int.tdiv_eq_ediv_of_nonneg c2
  have e4 : IntKind.i64.wrap d = d := IntWalk.i64_in _ (by omega)
  have HD := hide hd
  clear hr hd
  rcases hcase with ⟨h1, h2, h3⟩ | ⟨h1, h2, h3, h4⟩ | ⟨h1, h2, h3, h4⟩ | ⟨h1, h2⟩ | ⟨h1, h2⟩
  · subst h2 h3
    have hd5 : d = 100000 := by rw [HD.out]; rfl
    have hs0 : s = width := by omega
    subst hs0
    clear e1 e2 e3 e4 hs i1
    have j1 : IntKind.i64.wrap s = s := IntWalk.i64_in _ (by omega)
    go_enter Try.func28, Try.ntmps28
    go_wp2_with fail
    refine HC.out.mono ?_
    rintro e w1 ⟨rfl, hb1⟩
    go_wp2_with fail
    refine (HT.out _ (Rds.on2 HR.out hb1)).mono ?_
    rintro e w2 ⟨rfl, hb2⟩
    have hb2 := find1_tr hb1 hb2
    clear hb1
    go_wp2_with fail
    refine (HMI.out _ (Rds.on2 HR.out hb2)).mono ?_
    rintro e w3 ⟨rfl, hb3⟩
    have hb3 := find1_tr hb2 hb3
    clear hb2
    go_wp2_with fail
    go_ret2
    exact ⟨by rw [HF.out, hd5]; rfl, hb3⟩
  · have HQ := hide h4
    have j1 : IntKind.i64.wrap (1000 * s) = 1000 * s := IntWalk.i64_in _ (by omega)
    have j2 : (1000 * s).tdiv S = r := by rw [h4]; exact Int.tdiv_eq_ediv_of_nonneg (by omega)
    have j3 : IntKind.i64.wrap r = r := IntWalk.i64_in _ (by omega)
    have j4 : ¬ S = 0 := by omega
    have j5 : (S == 0) = false := by simpa using j4
    have j6 : 0 < s := by omega
    have j7 : min 10000 r = r := by rw [h4]; omega
    clear h3 h4 hs
    all_goals
      go_enter Try.func28, Try.ntmps28
      go_wp2_with fail
      refine HC.out.mono ?_
      rintro e w1 ⟨rfl, hb1⟩
      go_wp2_with fail
      refine (HT.out _ (Rds.on2 HR.out hb1)).mono ?_
      rintro e w2 ⟨rfl, hb2⟩
      have hb2 := find1_tr hb1 hb2
      clear hb1
      go_wp2_with fail
      refine (HMI.out _ (Rds.on2 HR.out hb2)).mono ?_
      rintro e w3 ⟨rfl, hb3⟩
      have hb3 := find1_tr hb2 hb3
      clear hb2
      go_wp2_with fail
      go_ret2
      exact ⟨by rw [HF.out]; rfl, hb3⟩
  · subst h4
    have HQ := hide h3
    obtain ⟨q, hq⟩ : ∃ q, q = 1000 * s / S := ⟨_, rfl⟩
    have hd5 : d = 100000 := by rw [HD.out]; rfl
    have qb : q ≤ 1000 * s := by rw [hq]; exact Int.ediv_le_self _ (by omega)
    rw [← hq] at h3
    have j1 : IntKind.i64.wrap (1000 * s) = 1000 * s := IntWalk.i64_in _ (by omega)
    have j2 : (1000 * s).tdiv S = q := by rw [hq]; exact Int.tdiv_eq_ediv_of_nonneg (by omega)
    have j3 : IntKind.i64.wrap q = q := IntWalk.i64_in _ (by omega)
    have j4 : ¬ S = 0 := by omega
    have j5 : (S == 0) = false := by simpa using j4
    have j6 : 0 < s := by omega
    have j7 : min 10000 q = 10000 := by omega
    clear hq hs e1 e2 e3 e4
    go_enter Try.func28, Try.ntmps28
    go_wp2_with fail
    refine HC.out.mono ?_
    rintro e w1 ⟨rfl, hb1⟩
    go_wp2_with fail
    refine (HT.out _ (Rds.on2 HR.out hb1)).mono ?_
    rintro e w2 ⟨rfl, hb2⟩
    have hb2 := find1_tr hb1 hb2
    clear hb1
    go_wp2_with fail
    refine (HMI.out _ (Rds.on2 HR.out hb2)).mono ?_
    rintro e w3 ⟨rfl, hb3⟩
    have hb3 := find1_tr hb2 hb3
    clear hb2
    go_wp2_with fail
    go_ret2
    exact ⟨by rw [HF.out, hd5]; rfl, hb3⟩
  · have j1 : IntKind.i64.wrap (-s) = -s := IntWalk.i64_in _ (by omega)
    have j2 : IntKind.i64.wrap (1000 * -s) = 1000 * -s := IntWalk.i64_in _ (by omega)
    have j3 : IntKind.i64.wrap (S - M) = S - M := IntWalk.i64_in _ (by omega)
    have j4 : (1000 * -s).tdiv (S - M) = r := by rw [h2]; exact Int.tdiv_eq_ediv_of_nonneg (by omega)
    have j5 : IntKind.i64.wrap r = r := IntWalk.i64_in _ (by omega)
    have j6 : ¬ S - M = 0 := by omega
    have j7 : s < 0 := by omega
    have j8 : ¬ 0 < s := by omega
    clear h2 hs
    all_goals
      go_enter Try.func28, Try.ntmps28
      go_wp2_with fail
      refine HC.out.mono ?_
      rintro e w1 ⟨rfl, hb1⟩
      go_wp2_with fail
      refine (HT.out _ (Rds.on2 HR.out hb1)).mono ?_
      rintro e w2 ⟨rfl, hb2⟩
      have hb2 := find1_tr hb1 hb2
      clear hb1
      go_wp2_with fail
      refine (HMI.out _ (Rds.on2 HR.out hb2)).mono ?_
      rintro e w3 ⟨rfl, hb3⟩
      have hb3 := find1_tr hb2 hb3
      clear hb2
      go_wp2_with fail
      go_ret2
      exact ⟨by rw [HF.out]; rfl, hb3⟩
  · subst h1 h2
    have hs0 : s = 0 := by omega
    subst hs0
    have hd5 : d = 0 := by rw [HD.out]; rfl
    clear e1 e2 e3 e4 hs
    go_enter Try.func28, Try.ntmps28
    go_wp2_with fail
    refine HC.out.mono ?_
    rintro e w1 ⟨rfl, hb1⟩
    go_wp2_with fail
    refine (HT.out _ (Rds.on2 HR.out hb1)).mono ?_
    rintro e w2 ⟨rfl, hb2⟩
    have hb2 := find1_tr hb1 hb2
    clear hb1
    go_wp2_with fail
    refine (HMI.out _ (Rds.on2 HR.out hb2)).mono ?_
    rintro e w3 ⟨rfl, hb3⟩
    have hb3 := find1_tr hb2 hb3
    clear hb2
    go_wp2_with fail
    go_ret2
    exact ⟨by rw [HF.out, hd5]; rfl, hb3⟩

end Go.Proofs.Ytcnejnaeahffhaa
