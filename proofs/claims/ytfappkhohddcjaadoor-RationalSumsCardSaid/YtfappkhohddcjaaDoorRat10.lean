/- distance; the reference's near; of; the law's clamp. -/
import Derived.Test.YtfappkhohddcjaaDoorRat8
import Derived.Test.YtfappkhohddcjaaDoorBestP
import Derived.Lib.MinMax
namespace Go.Proofs.YtfappkhohddcjaaDoor
open Go.RowKit

def i61 (n : Int) : Prop := -2305843009213693952 ≤ n ∧ n ≤ 2305843009213693952

set_option maxRecDepth 100000 in
set_option maxHeartbeats 2000000 in
theorem distance_any (n d p q : Int) (w : World) (hd : 1 ≤ d) (hd2 : d ≤ 1073741824) (h1 : i61 (p * d)) (h2 : i61 (n * q)) :
    Calls Tryd.prog 48 #[.agg #[.int .i64 n, .int .i64 (d - 1)], .int .i64 p, .int .i64 q] w fun e w' => e = .returned (.int .i64 (dist n d p q)) ∧ Below w.heap.size w w' := by
  obtain ⟨a1, a2⟩ := h1
  obtain ⟨b1, b2⟩ := h2
  have i1 : IntKind.i64.wrap (p * d) = p * d := IntWalk.i64_in _ (by omega)
  have i2 : IntKind.i64.wrap (n * q) = n * q := IntWalk.i64_in _ (by omega)
  have i3 : IntKind.i64.wrap (p * d - n * q) = p * d - n * q := IntWalk.i64_in _ (by omega)
  have i4 : IntKind.i64.wrap (((p * d - n * q).natAbs : Nat) : Int) = (((p * d - n * q).natAbs : Nat) : Int) := IntWalk.i64_in _ (by omega)
  have HZ := hide (fun W => same_below (size_any (p * d - n * q) W ⟨by omega, by omega⟩))
  have HD := hide (fun W => Den_any n d W (by omega) (by omega))
  have HS := hide (S1.new w n (d - 1) 24)
  go_enter Tryd.func48, Tryd.ntmps48
  go_wp2_with fail
  generalize w.alloc (.cells #[.int .i64 n, .int .i64 (d - 1)] 24) = wX at HS ⊢
  go_region_held3 (fun w' => w'.cell? ⟨w.heap.size, 0, none⟩ = some (.int .i64 n) ∧ w'.cell? ⟨w.heap.size, 1, none⟩ = some (.int .i64 (d - 1)) ∧ S1 w w.heap.size n (d - 1) w')
    (first | (exact HS.out.drew.all) | (exact S1.next (by assumption) (by assumption)))
    (first | (go_at_call 40; refine (HD.out _).mono ?_; rintro e w' ⟨rfl, hb'⟩) | (go_at_call 55; refine (HZ.out _).mono ?_; rintro e w' ⟨rfl, hb'⟩))
  all_goals
    go_wp2_with fail
    go_ret
    exact ⟨by first | rfl | (unfold dist; rfl) | (unfold dist; simp), S1.fin (by assumption)⟩

def nearB (n d an ad bn bd : Int) : Prop := dist n d an ad * bd < dist n d bn bd * ad

set_option maxRecDepth 100000 in
set_option maxHeartbeats 4000000 in
theorem near_any (n d an ad bn bd : Int) (w : World) (b : Bool) (hb : b = true ↔ nearB n d an ad bn bd) (h1 : i61 (n * ad)) (h2 : i61 (an * d)) (h3 : i61 (n * bd)) (h4 : i61 (bn * d)) (h5 : i61 (dist n d an ad * bd)) (h6 : i61 (dist n d bn bd * ad)) :
    Calls Tryd.prog 49 #[.agg #[.int .i64 n, .int .i64 d], .agg #[.int .i64 an, .int .i64 ad], .agg #[.int .i64 bn, .int .i64 bd]] w fun e w' => e = .returned (.bool b) ∧ Below w.heap.size w w' := by
  obtain ⟨a1, a2⟩ := h1
  obtain ⟨b1, b2⟩ := h2
  obtain ⟨c1, c2⟩ := h3
  obtain ⟨d1, d2⟩ := h4
  obtain ⟨e1, e2⟩ := h5
  obtain ⟨f1, f2⟩ := h6
  unfold nearB at hb
  obtain ⟨P, hP⟩ : ∃ P, P = n * ad - an * d := ⟨_, rfl⟩
  obtain ⟨Q, hQ⟩ : ∃ Q, Q = n * bd - bn * d := ⟨_, rfl⟩
  have i1 : IntKind.i64.wrap (n * ad) = n * ad := IntWalk.i64_in _ (by omega)
  have i2 : IntKind.i64.wrap (an * d) = an * d := IntWalk.i64_in _ (by omega)
  have i3 : IntKind.i64.wrap (n * bd) = n * bd := IntWalk.i64_in _ (by omega)
  have i4 : IntKind.i64.wrap (bn * d) = bn * d := IntWalk.i64_in _ (by omega)
  have i5 : n * ad - an * d = P := hP.symm
  have i6 : n * bd - bn * d = Q := hQ.symm
  have i7 : IntKind.i64.wrap P = P := IntWalk.i64_in _ (by omega)
  have i8 : IntKind.i64.wrap Q = Q := IntWalk.i64_in _ (by omega)
  have i9 : IntKind.i64.wrap (-P) = -P := IntWalk.i64_in _ (by omega)
  have i10 : IntKind.i64.wrap (-Q) = -Q := IntWalk.i64_in _ (by omega)
  have eA : dist n d an ad = (P.natAbs : Int) := by unfold dist; omega
  have eB : dist n d bn bd = (Q.natAbs : Int) := by unfold dist; omega
  rw [eA] at e1 e2 hb
  rw [eB] at f1 f2 hb
  clear hP hQ eA eB
  rcases (show P < 0 ∨ ¬ P < 0 by omega) with hp | hp <;> rcases (show Q < 0 ∨ ¬ Q < 0 by omega) with hq | hq
  · rw [show (P.natAbs : Int) = -P by omega] at e1 e2 hb
    rw [show (Q.natAbs : Int) = -Q by omega] at f1 f2 hb
    have i11 : IntKind.i64.wrap (-P * bd) = -P * bd := IntWalk.i64_in _ (by omega)
    have i12 : IntKind.i64.wrap (-Q * ad) = -Q * ad := IntWalk.i64_in _ (by omega)
    have HV := hide (show decide (-P * bd < -Q * ad) = b by rw [Bool.eq_iff_iff]; simp only [decide_eq_true_eq]; exact hb.symm)
    clear hb e1 e2 f1 f2 a1 a2 b1 b2 c1 c2 d1 d2
    go_enter Tryd.func49, Tryd.ntmps49
    go_wp2_with fail
    go_quiet (fail)
    go_wp2_with fail
    all_goals
      go_ret
      exact ⟨by rw [← HV.out]; first | rfl | simp [*], below_drewN (by go_grown) _⟩
  · rw [show (P.natAbs : Int) = -P by omega] at e1 e2 hb
    rw [show (Q.natAbs : Int) = Q by omega] at f1 f2 hb
    have i11 : IntKind.i64.wrap (-P * bd) = -P * bd := IntWalk.i64_in _ (by omega)
    have i12 : IntKind.i64.wrap (Q * ad) = Q * ad := IntWalk.i64_in _ (by omega)
    have HV := hide (show decide (-P * bd < Q * ad) = b by rw [Bool.eq_iff_iff]; simp only [decide_eq_true_eq]; exact hb.symm)
    clear hb e1 e2 f1 f2 a1 a2 b1 b2 c1 c2 d1 d2
    go_enter Tryd.func49, Tryd.ntmps49
    go_wp2_with fail
    go_quiet (fail)
    go_wp2_with fail
    all_goals
      go_ret
      exact ⟨by rw [← HV.out]; first | rfl | simp [*], below_drewN (by go_grown) _⟩
  · rw [show (P.natAbs : Int) = P by omega] at e1 e2 hb
    rw [show (Q.natAbs : Int) = -Q by omega] at f1 f2 hb
    have i11 : IntKind.i64.wrap (P * bd) = P * bd := IntWalk.i64_in _ (by omega)
    have i12 : IntKind.i64.wrap (-Q * ad) = -Q * ad := IntWalk.i64_in _ (by omega)
    have HV := hide (show decide (P * bd < -Q * ad) = b by rw [Bool.eq_iff_iff]; simp only [decide_eq_true_eq]; exact hb.symm)
    clear hb e1 e2 f1 f2 a1 a2 b1 b2 c1 c2 d1 d2
    go_enter Tryd.func49, Tryd.ntmps49
    go_wp2_with fail
    go_quiet (fail)
    go_wp2_with fail
    all_goals
      go_ret
      exact ⟨by rw [← HV.out]; first | rfl | simp [*], below_drewN (by go_grown) _⟩
  · rw [show (P.natAbs : Int) = P by omega] at e1 e2 hb
    rw [show (Q.natAbs : Int) = Q by omega] at f1 f2 hb
    have i11 : IntKind.i64.wrap (P * bd) = P * bd := IntWalk.i64_in _ (by omega)
    have i12 : IntKind.i64.wrap (Q * ad) = Q * ad := IntWalk.i64_in _ (by omega)
    have HV := hide (show decide (P * bd < Q * ad) = b by rw [Bool.eq_iff_iff]; simp only [decide_eq_true_eq]; exact hb.symm)
    clear hb e1 e2 f1 f2 a1 a2 b1 b2 c1 c2 d1 d2
    go_enter Tryd.func49, Tryd.ntmps49
    go_wp2_with fail
    go_quiet (fail)
    go_wp2_with fail
    all_goals
      go_ret
      exact ⟨by rw [← HV.out]; first | rfl | simp [*], below_drewN (by go_grown) _⟩

/-- a number brought into the range -/
def clN (n : Int) : Int := max (min n 1073741824) (-1073741824)
def clD (n : Int) : Int := max (min n 1073741824) 1

theorem clN_cases (n : Int) : (1073741824 < n ∧ clN n = 1073741824) ∨ (¬ 1073741824 < n ∧ ¬ n < -1073741824 ∧ clN n = n) ∨ (¬ 1073741824 < n ∧ n < -1073741824 ∧ clN n = -1073741824) := by unfold clN; omega
theorem clD_cases (n : Int) : (1073741824 < n ∧ clD n = 1073741824) ∨ (¬ 1073741824 < n ∧ ¬ n < 1 ∧ clD n = n) ∨ (¬ 1073741824 < n ∧ n < 1 ∧ clD n = 1) := by unfold clD; omega

set_option maxRecDepth 100000 in
set_option maxHeartbeats 4000000 in
theorem of_core (n d a b : Int) (w : World) (ha : max (min n 1073741824) (-1073741824) = a) (hb : max (min d 1073741824) 1 = b) (ha2 : -1073741824 ≤ a ∧ a ≤ 1073741824) (hb2 : 1 ≤ b ∧ b ≤ 1073741824) :
    Calls Tryd.prog 14 #[.int .i64 n, .int .i64 d] w fun e w' => e = .returned (.tuple #[.agg #[.int .i64 (ofF a b).n, .int .i64 ((ofF a b).d - 1)], .agg #[.int .i64 (ofF a b).n, .int .i64 (ofF a b).d]]) ∧ Below w.heap.size w w' := by
  have HOF := hide (fun W => Of_any a b W ⟨by omega, by omega⟩ ⟨by omega, by omega⟩)
  have HRF := hide (fun W => ROf_any a b W ⟨by omega, by omega⟩ ⟨by omega, by omega⟩)
  obtain ⟨F, hF⟩ : ∃ F, F = ofF a b := ⟨_, rfl⟩
  rw [← hF] at HOF HRF
  rw [← hF]
  clear hF
  have HS := hide (show Two ((w.alloc (.cells #[.int .i64 0, .int .i64 0] 24)).alloc (.cells #[.int .i64 0, .int .i64 0] 26)) w.heap.size 0 0 ∧ Two ((w.alloc (.cells #[.int .i64 0, .int .i64 0] 24)).alloc (.cells #[.int .i64 0, .int .i64 0] 26)) (w.heap.size + 1) 0 0 ∧ Below w.heap.size w ((w.alloc (.cells #[.int .i64 0, .int .i64 0] 24)).alloc (.cells #[.int .i64 0, .int .i64 0] 26)) from
    ⟨(Two.new w 0 0 _).on ((Below.refl _ _).alloc (Nat.le_refl _) _) (by simp), by have := Two.new (w.alloc (.cells #[.int .i64 0, .int .i64 0] 24)) 0 0 26; simpa using this, ((Below.refl _ _).alloc (Nat.le_refl _) _).alloc (by simp) _⟩)
  go_enter Tryd.func14, Tryd.ntmps14
  go_wp2_with fail
  generalize (w.alloc (.cells #[.int .i64 0, .int .i64 0] 24)).alloc (.cells #[.int .i64 0, .int .i64 0] 26) = wX at HS ⊢
  refine (HOF.out _).mono ?_
  rintro e w1 ⟨rfl, hb1⟩
  have HX1 := hide (HS.out.1.on hb1 HS.out.1.lt)
  have HY1 := hide (HS.out.2.1.on hb1 HS.out.2.1.lt)
  have HB1 := hide (on_tr HS.out.2.2 hb1)
  clear hb1
  go_wp2_with fail
  have HZ1 := hide (Two.new w1 F.n (F.d - 1) 24)
  have HX2 := hide (HX1.out.on ((Below.refl w1.heap.size w1).alloc (Nat.le_refl _) (.cells #[.int .i64 F.n, .int .i64 (F.d - 1)] 24)) HX1.out.lt)
  have HY2 := hide (HY1.out.on ((Below.refl w1.heap.size w1).alloc (Nat.le_refl _) (.cells #[.int .i64 F.n, .int .i64 (F.d - 1)] 24)) HY1.out.lt)
  have HB2 := hide (HB1.out.alloc HB1.out.size (.cells #[.int .i64 F.n, .int .i64 (F.d - 1)] 24))
  obtain ⟨z, hz⟩ : ∃ z, z = w1.heap.size := ⟨_, rfl⟩
  have HZ := hide (show w.heap.size + 2 ≤ z by have := HY1.out.lt; omega)
  generalize w1.alloc (.cells #[.int .i64 F.n, .int .i64 (F.d - 1)] 24) = wY at HZ1 HX2 HY2 HB2 ⊢
  rw [← hz] at HZ1 ⊢
  clear hz HX1 HY1 HB1 HS
  refine (HRF.out _).mono ?_
  rintro e w2 ⟨rfl, hb2⟩
  have HX3 := hide (HX2.out.on hb2 HX2.out.lt)
  have HY3 := hide (HY2.out.on hb2 HY2.out.lt)
  have HZ3 := hide (HZ1.out.on hb2 HZ1.out.lt)
  have HB3 := hide (on_tr HB2.out hb2)
  clear hb2
  go_wp2_with fail
  have HW4 := hide (Two.new w2 F.n F.d 26)
  have HX4 := hide (HX3.out.on ((Below.refl w2.heap.size w2).alloc (Nat.le_refl _) (.cells #[.int .i64 F.n, .int .i64 F.d] 26)) HX3.out.lt)
  have HY4 := hide (HY3.out.on ((Below.refl w2.heap.size w2).alloc (Nat.le_refl _) (.cells #[.int .i64 F.n, .int .i64 F.d] 26)) HY3.out.lt)
  have HZ4 := hide (HZ3.out.on ((Below.refl w2.heap.size w2).alloc (Nat.le_refl _) (.cells #[.int .i64 F.n, .int .i64 F.d] 26)) HZ3.out.lt)
  have HB4 := hide (HB3.out.alloc HB3.out.size (.cells #[.int .i64 F.n, .int .i64 F.d] 26))
  obtain ⟨y, hy⟩ : ∃ y, y = w2.heap.size := ⟨_, rfl⟩
  have HYY := hide (show z < y by have := HZ3.out.lt; omega)
  generalize w2.alloc (.cells #[.int .i64 F.n, .int .i64 F.d] 26) = wV at HW4 HX4 HY4 HZ4 HB4 ⊢
  rw [← hy] at HW4 ⊢
  clear hy HX3 HY3 HZ3 HB3 HX2 HY2 HB2 HZ1
  --have HS4 := hide (S4.mk (w0 := w) (k := w.heap.size) HZ4.out HW4.out ⟨_, _, HX4.out⟩ ⟨_, _, HY4.out⟩ HZ.out (by have := HZ.out; have := HYY.out; omega) rfl HB4.out)
  have n1 : ¬ z = w.heap.size := by have := HZ.out; omega
  have n2 : ¬ z = w.heap.size + 1 := by have := HZ.out; omega
  have n3 : ¬ y = w.heap.size := by have := HZ.out; have := HYY.out; omega
  have n4 : ¬ y = w.heap.size + 1 := by have := HZ.out; have := HYY.out; omega
  have z0 := HZ4.out.c0
  have z1 := HZ4.out.c1
  have v0 := HW4.out.c0
  have v1 := HW4.out.c1
  have x0 := HX4.out.c0
  have x1 := HX4.out.c1
  have x2 := HX4.out.f0
  have x3 := HX4.out.f1
  have y0 := HY4.out.c0
  have y1 := HY4.out.c1
  have y2 := HY4.out.f0
  have y3 := HY4.out.f1
  clear HW4 HX4 HY4 HZ4 HZ HYY
  go_region
  go_wp2_with fail
  refine bodyPost_ret (v := .tuple #[.agg #[.int .i64 F.n, .int .i64 (F.d - 1)], .agg #[.int .i64 F.n, .int .i64 F.d]]) (by simp [results, Tryd.results14, go_sem, *]) rfl ?_
  exact ⟨rfl, Below.drew ((((HB4.out.setCell (by simp) _).setCell (by simp) _).setCell (by simp) _).setCell (by simp) _)⟩

theorem of_any (n d : Int) (w : World) :
    Calls Tryd.prog 14 #[.int .i64 n, .int .i64 d] w fun e w' => e = .returned (.tuple #[.agg #[.int .i64 (ofF (clN n) (clD d)).n, .int .i64 ((ofF (clN n) (clD d)).d - 1)], .agg #[.int .i64 (ofF (clN n) (clD d)).n, .int .i64 (ofF (clN n) (clD d)).d]]) ∧ Below w.heap.size w w' :=
  of_core n d _ _ w rfl rfl (by unfold clN; omega) (by unfold clD; omega)

end Go.Proofs.YtfappkhohddcjaaDoor
