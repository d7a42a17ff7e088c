/- The law SpringGrows, walked. -/
import Derived.Test.YtcnejnaeahffhaaPlaces30
import Derived.Test.YtcnejnaeahffhaaSpEven
namespace Go.Proofs.Ytcnejnaeahffhaa
open Go.RowKit

theorem take_sum_le {x : List Int} (h : ∀ v ∈ x, 0 ≤ v) : ∀ k, 0 ≤ (x.take k).sum ∧ (x.take k).sum ≤ x.sum := by
  induction x with
  | nil => intro k; simp
  | cons a x ih =>
    intro k
    have h0 := h a (by simp)
    cases k with
    | zero =>
      have := ih (fun v hv => h v (by simp [hv])) 0
      simp at this ⊢
      omega
    | succ k =>
      have := ih (fun v hv => h v (by simp [hv])) k
      simp only [List.take_succ_cons, List.sum_cons]
      omega
theorem solve_sum {l : List Spr} (hn : ∀ s ∈ l, 0 ≤ s.n ∧ 0 ≤ s.m) (h0 : 0 < l.length) {width : Int} {x : List Int} (hx : SolveOut l width x) (hw : mins l ≤ width) : (∀ v ∈ x, 0 ≤ v) ∧ x.sum = width := by
  by_cases hp : ∃ s ∈ l, 0 < s.n
  · have b := hx.bal hp
    refine ⟨fun v hv => ?_, b.sum⟩
    obtain ⟨i, hi⟩ := List.getElem?_of_mem hv
    obtain ⟨s, hs⟩ : ∃ s, l[i]? = some s := ⟨_, List.getElem?_eq_getElem (by rw [← b.len]; exact (List.getElem?_eq_some_iff.1 hi).1)⟩
    have := (b.low i s v hs hi).1
    have := (hn s (List.mem_of_getElem? hs)).2
    omega
  · have hz : ∀ s ∈ l, s.n = 0 := fun s hs => by
      have := (hn s hs).1
      rcases (show s.n = 0 ∨ 0 < s.n by omega) with h | h
      · exact h
      · exact absurd ⟨s, hs, h⟩ hp
    have ex := hx.even hz
    refine ⟨fun v hv => ?_, by rw [ex, evenF_sum h0]; omega⟩
    obtain ⟨i, hi⟩ := List.getElem?_of_mem hv
    rw [ex] at hi
    obtain ⟨s, hs⟩ : ∃ s, l[i]? = some s := ⟨_, List.getElem?_eq_getElem (by rw [← evenF_len l (width - mins l)]; exact (List.getElem?_eq_some_iff.1 hi).1)⟩
    rw [evenF_get l _ hs] at hi
    cases hi
    have := (hn s (List.mem_of_getElem? hs)).2
    have : 0 ≤ (width - mins l) / (l.length : Int) := Int.ediv_nonneg (by omega) (by omega)
    split <;> omega
theorem solve_sums {l : List Spr} (hn : ∀ s ∈ l, 0 ≤ s.n ∧ 0 ≤ s.m) (h0 : 0 < l.length) {width : Int} {x y : List Int} (hx : SolveOut l width x) (hy : SolveOut l (width + 1) y) (hw : mins l ≤ width) :
    (∀ v ∈ x, 0 ≤ v) ∧ (∀ v ∈ y, 0 ≤ v) ∧ x.sum = width ∧ y.sum = width + 1 :=
  ⟨(solve_sum hn h0 hx hw).1, (solve_sum hn h0 hy (by omega)).1, (solve_sum hn h0 hx hw).2, (solve_sum hn h0 hy (by omega)).2⟩

set_option maxRecDepth 100000 in
set_option maxHeartbeats 2000000 in
theorem grows_law (A : Option Addr) (n c : Nat) (l : List Spr) (width : Int) (w : World) (hn : n = l.length) (h : Rds w w.heap.size A (sprs l)) :
    Calls Try.prog 5 #[.slice A n c, .int .i64 width] w fun e w' => e = .returned (.bool true) ∧ Below w.heap.size w w' := by
  have HN := hide hn
  have HR := hide h
  clear hn h
  rcases (show n = 0 ∨ 8 < n ∨ (0 < n ∧ n ≤ 8) by omega) with h30 | h30 | ⟨h29, h30⟩
  · subst h30
    go_enter Try.func5, Try.ntmps5
    have HB0 := hide (Below.refl w.heap.size w)
    go_wp2_with fail
    refine (known_any _).mono ?_
    rintro e w1 ⟨rfl, hb⟩
    have HB1 := hide (find1_tr HB0.out hb)
    clear hb
    go_wp2_with fail
    refine (known_any _).mono ?_
    rintro e w2 ⟨rfl, hb⟩
    have HB2 := hide (find1_tr HB1.out hb)
    clear hb
    go_wp2_with fail
    go_ret
    exact ⟨rfl, HB2.out⟩
  · have hz : ((n : Int) == 0) = false := by simp; omega
    go_enter Try.func5, Try.ntmps5
    have HB0 := hide (Below.refl w.heap.size w)
    go_wp2_with fail
    refine (known_any _).mono ?_
    rintro e w1 ⟨rfl, hb⟩
    have HB1 := hide (find1_tr HB0.out hb)
    clear hb
    go_wp2_with fail
    refine (known_any _).mono ?_
    rintro e w2 ⟨rfl, hb⟩
    have HB2 := hide (find1_tr HB1.out hb)
    clear hb
    go_wp2_with fail
    go_ret
    exact ⟨rfl, HB2.out⟩
  · have hz : ((n : Int) == 0) = false := by simp; omega
    by_cases he : spErr l = 0
    · have HE := hide he
      have HOK := hide (spErr_all l he).2
      have HNM := hide (show ∀ s ∈ l, 0 ≤ s.n ∧ 0 ≤ s.m from fun s hs => ⟨(Spr.ok_of (HOK.out s hs)).1, (Spr.ok_of (HOK.out s hs)).2.2.1⟩)
      obtain ⟨M, hM⟩ : ∃ M, M = mins l := ⟨_, rfl⟩
      have HT := hide (fun W (hW : Rds W W.heap.size A (sprs l)) => show Calls Try.prog 14 #[.slice A n c, .int .i64 0, .int .i64 1] W fun e w' => e = .returned (.int .i64 M) ∧ Below W.heap.size W w' from by
        have := rtotal_any A n c l 0 1 W HN.out (by omega) hW HOK.out (by omega) (by omega) (by omega) (by omega)
        rw [lens_zero fun s hs => (Spr.ok_of (HOK.out s hs)).2.2.1, ← hM] at this
        exact this)
      have HM := hide hM
      clear he
      rcases (show width < M ∨ (M ≤ width ∧ 67108864 ≤ width) ∨ (M ≤ width ∧ width < 67108864) by omega) with h1 | ⟨h1, h2⟩ | ⟨h1, h2⟩
      · clear hM
        go_enter Try.func5, Try.ntmps5
        have HB0 := hide (Below.refl w.heap.size w)
        go_wp2_with fail
        refine (known_any _).mono ?_
        rintro e w1 ⟨rfl, hb⟩
        have HB1 := hide (find1_tr HB0.out hb)
        clear hb
        go_wp2_with fail
        refine (rcheck_any A n c l _ HN.out (by omega) (Rds.on2 HR.out HB1.out)).mono ?_
        rw [HE.out]
        rintro e w101 ⟨rfl, rfl⟩
        go_wp2_with fail
        refine (HT.out _ (Rds.on2 HR.out HB1.out)).mono ?_
        rintro e w2 ⟨rfl, hb⟩
        have HB2 := hide (find1_tr HB1.out hb)
        clear hb
        go_wp2_with fail
        refine (known_any _).mono ?_
        rintro e w3 ⟨rfl, hb⟩
        have HB3 := hide (find1_tr HB2.out hb)
        clear hb
        go_wp2_with fail
        go_ret
        exact ⟨rfl, HB3.out⟩
      · clear hM
        have h3 : ¬ width < M := by omega
        go_enter Try.func5, Try.ntmps5
        have HB0 := hide (Below.refl w.heap.size w)
        go_wp2_with fail
        refine (known_any _).mono ?_
        rintro e w1 ⟨rfl, hb⟩
        have HB1 := hide (find1_tr HB0.out hb)
        clear hb
        go_wp2_with fail
        refine (rcheck_any A n c l _ HN.out (by omega) (Rds.on2 HR.out HB1.out)).mono ?_
        rw [HE.out]
        rintro e w101 ⟨rfl, rfl⟩
        go_wp2_with fail
        refine (HT.out _ (Rds.on2 HR.out HB1.out)).mono ?_
        rintro e w2 ⟨rfl, hb⟩
        have HB2 := hide (find1_tr HB1.out hb)
        clear hb
        go_wp2_with fail
        refine (known_any _).mono ?_
        rintro e w3 ⟨rfl, hb⟩
        have HB3 := hide (find1_tr HB2.out hb)
        clear hb
        go_wp2_with fail
        go_ret
        exact ⟨rfl, HB3.out⟩
      · have h3 : ¬ width < M := by omega
        have hMb := mins_bnd l HOK.out
        rw [← hM] at hMb
        have HF0 := hide (show fitErr l width = 0 by rw [fitErr, if_neg (by rw [HE.out]; simp), if_neg (by omega), if_neg (by rw [← hM]; omega)])
        have HF1 := hide (show fitErr l (width + 1) = 0 by rw [fitErr, if_neg (by rw [HE.out]; simp), if_neg (by omega), if_neg (by rw [← hM]; omega)])
        have i1 : IntKind.i64.wrap (width + 1) = width + 1 := IntWalk.i64_in _ (by omega)
        have h4 : ¬ 67108864 ≤ width := by omega
        clear hM hMb
        go_enter Try.func5, Try.ntmps5
        have HB0 := hide (Below.refl w.heap.size w)
        go_wp2_with fail
        refine (known_any _).mono ?_
        rintro e w1 ⟨rfl, hb⟩
        have HB1 := hide (find1_tr HB0.out hb)
        clear hb
        go_wp2_with fail
        refine (rcheck_any A n c l _ HN.out (by omega) (Rds.on2 HR.out HB1.out)).mono ?_
        rw [HE.out]
        rintro e w101 ⟨rfl, rfl⟩
        go_wp2_with fail
        refine (HT.out _ (Rds.on2 HR.out HB1.out)).mono ?_
        rintro e w2 ⟨rfl, hb⟩
        have HB2 := hide (find1_tr HB1.out hb)
        clear hb
        go_wp2_with fail
        refine (own_any A n c l _ HN.out (by omega) (Rds.on2 HR.out HB2.out)).mono ?_
        rintro e w3 ⟨A2, c2, rfl, hr2, hb⟩
        have HB3 := hide (find1_tr HB2.out hb)
        clear hb
        go_wp2_with fail
        refine (Solve_ok A2 n c2 l width _ HN.out h29 hr2 HF0.out).mono ?_
        rintro e w4 ⟨g1, xs, rfl, hrx, hsx, hb⟩
        have HB4 := hide (find1_tr HB3.out hb)
        clear hb
        have HRX := hide hrx
        have HSX := hide hsx
        clear hrx hsx
        go_wp2_with fail
        refine (own_any A n c l _ HN.out (by omega) (Rds.on2 HR.out HB4.out)).mono ?_
        rintro e w5 ⟨A4, c4, rfl, hr4, hb⟩
        have HB5 := hide (find1_tr HB4.out hb)
        have HRX := hide (Rds.on2 HRX.out hb)
        clear hb
        go_wp2_with fail
        refine (Solve_ok A4 n c4 l (width + 1) _ HN.out h29 hr4 HF1.out).mono ?_
        rintro e w6 ⟨g2, ys, rfl, hry, hsy, hb⟩
        have HB6 := hide (find1_tr HB5.out hb)
        have HRX := hide (Rds.on2 HRX.out hb)
        clear hb
        have HRY := hide hry
        have HSY := hide hsy
        clear hry hsy
        go_wp2_with fail
        have hgr := grows HNM.out (by have := HN.out; omega) HSX.out HSY.out
        have hxl := HSX.out.len
        have hyl := HSY.out.len
        have HXL := hide (show xs.length = n by rw [hxl]; exact HN.out.symm)
        have HYL := hide (show ys.length = n by rw [hyl]; exact HN.out.symm)
        have HGR := hide hgr
        have hsum : (∀ v ∈ xs, 0 ≤ v) ∧ (∀ v ∈ ys, 0 ≤ v) ∧ xs.sum = width ∧ ys.sum = width + 1 := solve_sums HNM.out (by have := HN.out; omega) HSX.out HSY.out (by rw [← HM.out]; omega)
        have HSUM := hide hsum
        clear hgr hxl hyl hsum
        go_loopg [9, 10] n (fun gk s9 i wr => ∃ k : Nat, k ≤ n ∧ i = .int .i64 k ∧ n ≤ gk + k ∧ s9 = .int .i64 ((ys.take k).sum - (xs.take k).sum) ∧ Hid (Below w6.heap.size w6 wr))
        case atStart => exact ⟨0, Nat.zero_le _, rfl, by omega, by simp, Below.refl _ _⟩
        case round =>
          obtain ⟨k, hk, rfl, hgk, rfl, HB⟩ := hrel
          by_cases hlt : k < n
          · obtain ⟨x, hx⟩ : ∃ x, xs[k]? = some x := ⟨_, List.getElem?_eq_getElem (by have := HXL.out; omega)⟩
            obtain ⟨y, hy⟩ : ∃ y, ys[k]? = some y := ⟨_, List.getElem?_eq_getElem (by have := HYL.out; omega)⟩
            obtain ⟨bx, ox, e1, hbx, c0⟩ := (Rds.on2 HRX.out HB.out).int hx
            obtain ⟨by_, oy, e2, hby, c1⟩ := (Rds.on2 HRY.out HB.out).int hy
            simp only [Option.some.injEq, Addr.mk.injEq, and_true] at e1 e2
            obtain ⟨rfl, rfl⟩ := e1
            obtain ⟨rfl, rfl⟩ := e2
            rw [Nat.zero_add] at c0 c1
            have hxy := HGR.out.1 k x y hx hy
            have hx0 := HSUM.out.1 x (List.mem_of_getElem? hx)
            have s1 := take_sum_le HSUM.out.1 k
            have s2 := take_sum_le HSUM.out.2.1 k
            have s3 := take_sum_le HSUM.out.1 (k + 1)
            have s4 := take_sum_le HSUM.out.2.1 (k + 1)
            have e3 : (xs.take (k + 1)).sum = (xs.take k).sum + x := by rw [List.take_add_one, hx, Option.toList_some, List.sum_append]; simp
            have e4 : (ys.take (k + 1)).sum = (ys.take k).sum + y := by rw [List.take_add_one, hy, Option.toList_some, List.sum_append]; simp
            have hsx := HSUM.out.2.2.1
            have hsy := HSUM.out.2.2.2
            obtain ⟨a, ha⟩ : ∃ a, a = (xs.take k).sum := ⟨_, rfl⟩
            obtain ⟨b, hb⟩ : ∃ b, b = (ys.take k).sum := ⟨_, rfl⟩
            rw [← ha] at s1 e3
            rw [← hb] at s2 e4
            obtain ⟨d, hd⟩ : ∃ d, d = b - a := ⟨_, rfl⟩
            have HNEW := hide (show d + y - x = (ys.take (k + 1)).sum - (xs.take (k + 1)).sum by omega)
            rw [← ha, ← hb, ← hd]
            have d0 : -67108864 ≤ d := by omega
            have d1 : d ≤ 67108865 := by omega
            have y1 : y ≤ 67108865 := by omega
            have j0 : IntKind.i64.wrap (d + y) = d + y := IntWalk.i64_in _ (by omega)
            have j2 : IntKind.i64.wrap (d + y - x) = d + y - x := IntWalk.i64_in _ (by omega)
            have j1 : IntKind.i64.wrap (k : Int) = (k : Int) := IntWalk.i64_in _ (by omega)
            have j3 : ((k : Int)).toNat = k := by omega
            have j4 : (0 : Int) ≤ (k : Int) := by omega
            have j5 : (k : Int) < (n : Int) := by omega
            have j6 : ¬ y < x := by omega
            clear hx hy s1 s2 s3 s4 e3 e4 hsx hsy ha hb hd
            go_wp2_with fail
            go_quiet (fail)
            go_wp2_with fail
            go_quiet (fail)
            go_wp2_with fail
            go_roundg (gk - 1)
            case measure => omega
            case rel => exact ⟨k + 1, by omega, by go_num, by omega, by rw [HNEW.out], hide (below_drewN HB.out _)⟩
          · have hkn : k = n := by omega
            subst hkn
            have h1' : (ys.take k).sum - (xs.take k).sum = 1 := by
              rw [List.take_of_length_le (by have := HYL.out; omega), List.take_of_length_le (by have := HXL.out; omega), HSUM.out.2.2.1, HSUM.out.2.2.2]; omega
            rw [h1']
            clear h1'
            go_wp2_with fail
            go_ret
            exact ⟨rfl, find1_tr HB6.out HB.out⟩
    · obtain ⟨r, hr⟩ : ∃ r, r = spErr l := ⟨_, rfl⟩
      have hr2 : (r != 0) = true := by rw [hr]; simpa using he
      have HRR := hide hr
      clear he hr
      go_enter Try.func5, Try.ntmps5
      have HB0 := hide (Below.refl w.heap.size w)
      go_wp2_with fail
      refine (known_any _).mono ?_
      rintro e w1 ⟨rfl, hb⟩
      have HB1 := hide (find1_tr HB0.out hb)
      clear hb
      go_wp2_with fail
      refine (rcheck_any A n c l _ HN.out (by omega) (Rds.on2 HR.out HB1.out)).mono ?_
      rw [← HRR.out]
      rintro e w101 ⟨rfl, rfl⟩
      go_wp2_with fail
      refine (known_any _).mono ?_
      rintro e w2 ⟨rfl, hb⟩
      have HB2 := hide (find1_tr HB1.out hb)
      clear hb
      go_wp2_with fail
      go_ret
      exact ⟨rfl, HB2.out⟩

theorem springGrows_walk {w : World} (a : Sl Spr) (ha : Sl.Good Spr.cells Spr.wf w a) (x : Int) (_ : (Lit.int .i64 x).wf = true) :
    Calls Try.prog 5 #[.slice a.A a.n a.c, .int .i64 x] w fun e w' => e = .returned (.bool true) ∧ Below w.heap.size w w' :=
  grows_law a.A a.n a.c a.l x w ha.len ha.rds

end Go.Proofs.Ytcnejnaeahffhaa
