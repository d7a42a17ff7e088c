/- The law SpacingWidths, walked: fits, widths, the law. -/
import Derived.Test.YtajkmlejklgbbaaWidth
import Derived.Test.YtajkmlejklgbbaaKnown
import Derived.Test.YtajkmlejklgbbaaDec
import Derived.Test.YtajkmlejklgbbaaTake
namespace Go.Proofs.Ytajkmlejklgbbaa
open Go.RowKit

set_option maxHeartbeats 1000000 in
theorem fits_any (A A' : Option Addr) (n c n' c' : Nat) (l : List Col) (s : List Spr) (w : World) (hn : n = l.length) (hm : n ≤ 9223372036854775807) (h : Rds w w.heap.size A (cols l))
    (hn' : n' = s.length) (hm' : n' ≤ 9223372036854775807) (h' : Rds w w.heap.size A' (sprs s)) :
    Calls Try.prog 26 #[.slice A n c, .slice A' n' c'] w fun e w' => e = .returned (.int .i64 (fitsE l s)) ∧ Below w.heap.size w w' := by
  have HN := hide hn
  have HN' := hide hn'
  by_cases hc : colErr l = 0
  · have HC := hide hc
    by_cases hl : s.length = l.length - 1
    · have HE := hide (show fitsE l s = spErr s by rw [fitsE, if_neg (by simpa using hc), if_neg (by simpa using hl)])
      have hnn1 : n' ≤ n - 1 := by omega
      have hnn2 : n - 1 ≤ n' := by omega
      clear hc hl hn hn'
      rcases (show 1 ≤ n ∨ n < 1 by omega) with hn1 | hn1
      all_goals
        have t1 : ((n : Int) - 1 < 0) = (n < 1) := propext (by omega)
        go_enter Try.func26, Try.ntmps26
        go_wp2_with fail
        refine (lcheck_any A n c l _ HN.out hm h).mono ?_
        rw [HC.out]
        rintro e w1 ⟨rfl, rfl⟩
        go_wp2_with fail
        refine (spCheck_any A' n' c' s _ HN'.out hm' h').mono ?_
        rintro e w2 ⟨rfl, hb2⟩
        go_wp2_with fail
        go_ret
        exact ⟨by rw [HE.out]; rfl, hb2⟩
    · have HE := hide (show fitsE l s = 20 by rw [fitsE, if_neg (by simpa using hc), if_pos hl])
      have hnn : ¬ n' = n - 1 := by rw [hn, hn']; exact hl
      clear hc hl hn hn'
      rcases (show 1 ≤ n ∨ n < 1 by omega) with hn1 | hn1
      all_goals
        have t1 : ((n : Int) - 1 < 0) = (n < 1) := propext (by omega)
        go_enter Try.func26, Try.ntmps26
        go_wp2_with fail
        refine (lcheck_any A n c l _ HN.out hm h).mono ?_
        rw [HC.out]
        rintro e w1 ⟨rfl, rfl⟩
        go_wp2_with fail
        go_ret
        exact ⟨by rw [HE.out]; rfl, Below.refl _ _⟩
  · have HE := hide (show fitsE l s = colErr l by rw [fitsE, if_pos hc])
    have hc2 : (colErr l != 0) = true := by simpa using hc
    clear hc hn hn'
    go_enter Try.func26, Try.ntmps26
    go_wp2_with fail
    refine (lcheck_any A n c l _ HN.out hm h).mono ?_
    rintro e w1 ⟨rfl, rfl⟩
    go_wp2_with fail
    go_ret
    exact ⟨by rw [HE.out]; rfl, Below.refl _ _⟩

theorem len11 (s : Spr) : lenF s 1 1 = if s.m < s.n then s.n else s.m := by
  unfold lenF
  rw [Int.mul_one, Int.ediv_one]
  by_cases h : s.m < s.n
  · rw [if_pos h]; omega
  · rw [if_neg h]; omega

set_option maxRecDepth 100000 in
set_option maxHeartbeats 1000000 in
theorem widths_any (A A' : Option Addr) (n c n' c' : Nat) (l : List Col) (s : List Spr) (w : World) (hn : n = l.length) (h : Rds w w.heap.size A (cols l))
    (hn' : n' = s.length) (h' : Rds w w.heap.size A' (sprs s)) (he : fitsE l s = 0) :
    Calls Try.prog 27 #[.slice A n c, .slice A' n' c'] w fun e w' => e = .returned (.tuple #[.int .i64 (widA l s), .int .i64 (widB l s)]) ∧ Below w.heap.size w w' := by
  have HN := hide hn
  have HN' := hide hn'
  obtain ⟨hc, hl, hs⟩ := fitsE_zero he
  obtain ⟨hc1, hc2⟩ := colErr_all' l hc
  have HC2 := hide hc2
  have HS2 := hide (spErr_all s hs).2
  have hn4 : n ≤ 4096 := by omega
  have hnn2 : n' ≤ n := by omega
  clear hc hl hs hc1 hc2 hn hn' he
  by_cases h0 : n = 0
  · have hl : l = [] := List.eq_nil_of_length_eq_zero (by rw [← HN.out]; exact h0)
    have HA := hide (show widA l s = 0 by rw [widA, if_pos hl])
    have HB := hide (show widB l s = 0 by rw [widB, if_pos hl])
    subst h0
    clear hl
    go_enter Try.func27, Try.ntmps27
    go_wp2_with fail
    go_ret2
    exact ⟨by rw [HA.out, HB.out]; rfl, Below.refl _ _⟩
  · obtain ⟨a, ha⟩ : ∃ a, l[0]? = some a := ⟨_, List.getElem?_eq_getElem (by have := HN.out; omega)⟩
    obtain ⟨z, hz⟩ : ∃ z, l[n - 1]? = some z := ⟨_, List.getElem?_eq_getElem (by have := HN.out; omega)⟩
    have hne : l ≠ [] := by intro e; rw [e] at ha; simp at ha
    have hends : ends l = a.l + z.r := by
      unfold ends
      rw [List.head?_eq_getElem?, ha, List.getLast?_eq_getElem?, ← HN.out, hz]
    obtain ⟨a0, a1, a2, a3, a4, a5⟩ := Col.ok_of (HC2.out a (List.mem_of_getElem? ha))
    obtain ⟨z0, z1, z2, z3, z4, z5⟩ := Col.ok_of (HC2.out z (List.mem_of_getElem? hz))
    have HA := hide (show widA l s = mins s + (a.l + z.r) by rw [widA, if_neg hne, hends])
    have HB := hide (show widB l s = lens s 1 1 + (a.l + z.r) by rw [widB, if_neg hne, hends])
    obtain ⟨b, off, hA1, hbB, c0, -, -⟩ := h.col ha
    obtain ⟨b', off', hA2, -, -, d1, -⟩ := h.col hz
    subst hA1
    simp only [Option.some.injEq, Addr.mk.injEq, and_true] at hA2
    obtain ⟨rfl, rfl⟩ := hA2
    rw [Nat.zero_mul, Nat.add_zero] at c0
    obtain ⟨en, hen⟩ : ∃ en, en = a.l + z.r := ⟨_, rfl⟩
    have HEN := hide hen
    have i6 : IntKind.i64.wrap (a.l + z.r) = en := by rw [hen]; exact IntWalk.i64_in _ (by omega)
    have en0 : 0 ≤ en := by omega
    have en1 : en ≤ 131072 := by omega
    rw [← hen] at HA HB
    have h01 : ((n : Int) == 0) = false := by simpa using h0
    have hpos : 0 < n := by omega
    have i1 : (0 : Int) < (n : Int) := by omega
    have i7 : (0 : Int) ≤ (n : Int) - 1 := by omega
    have i8 : n - 1 < n := by omega
    have i2 : (n : Int) - 1 < (n : Int) := by omega
    have i3 : (1 : Int) ≤ (n : Int) := by omega
    have i4 : ((n : Int) - 1).toNat = n - 1 := by omega
    have i5 : IntKind.i64.wrap ((n : Int) - 1) = (n : Int) - 1 := IntWalk.i64_in _ (by omega)
    clear ha hz hne hends hen
    go_enter Try.func27, Try.ntmps27
    go_wp2_with fail
    go_quiet (fail)
    clear i1 i7 i8 i2 i3 i4 i5 i6 c0 d1 a0 a1 a2 a3 a4 a5 z0 z1 z2 z3 z4 z5 h01
    go_wp2_with fail
    go_loopg [6, 7, 8] n' (fun gk x y i wr => ∃ k : Nat, k ≤ n' ∧ i = .int .i64 k ∧ n' ≤ gk + k ∧ x = .int .i64 (mins (s.take k) + en) ∧ y = .int .i64 (lens (s.take k) 1 1 + en) ∧ Below w.heap.size w wr)
    case atStart => exact ⟨0, Nat.zero_le _, rfl, by omega, by simp [mins], by simp [lens], below_drewN (Below.refl _ _) _⟩
    case round =>
      obtain ⟨k, hk, rfl, hgk, rfl, rfl, hb⟩ := hrel
      have hbd := mins_bnd (s.take k) fun s hs => HS2.out s (List.mem_of_mem_take hs)
      have hbd2 := lens_bnd (s.take k) 1 1 (fun s hs => HS2.out s (List.mem_of_mem_take hs)) (by omega) (by omega) (by omega)
      have hlk : (s.take k).length ≤ k := List.length_take_le _ _
      by_cases hlt : k < n'
      · obtain ⟨x, hx⟩ : ∃ x, s[k]? = some x := ⟨_, List.getElem?_eq_getElem (by have := HN'.out; omega)⟩
        obtain ⟨b2, off2, rfl, hb2, e0, e1⟩ := (h'.below hb).spr hx
        obtain ⟨g0, g1, g2, g3⟩ := Spr.ok_of (HS2.out x (List.mem_of_getElem? hx))
        have hs1 : mins (s.take (k + 1)) = mins (s.take k) + x.m := by rw [List.take_add_one, hx, Option.toList_some, mins_snoc]
        have hs2 : lens (s.take (k + 1)) 1 1 = lens (s.take k) 1 1 + lenF x 1 1 := by rw [List.take_add_one, hx, Option.toList_some, lens_snoc]
        have HS1 := hide hs1
        have HS3 := hide hs2
        have HB2 := hide hb
        clear hx hb hs1 hs2 h h'
        obtain ⟨m, hm2⟩ : ∃ m, m = mins (s.take k) + en := ⟨_, rfl⟩
        obtain ⟨q, hq2⟩ : ∃ q, q = lens (s.take k) 1 1 + en := ⟨_, rfl⟩
        rw [← hm2, ← hq2]
        have m0 : 0 ≤ m := by omega
        have m1 : m ≤ 1048576 * 4096 + 131072 := by omega
        have q0 : 0 ≤ q := by omega
        have q1 : q ≤ 281474976710656 * 4096 + 131072 := by omega
        have HM2 := hide hm2
        have HQ2 := hide hq2
        clear hm2 hq2 hbd hbd2
        have j1 : IntKind.i64.wrap (k : Int) = (k : Int) := IntWalk.i64_in _ (by omega)
        have j3 : ((k : Int)).toNat = k := by omega
        have j4 : (0 : Int) ≤ (k : Int) := by omega
        have j5 : (k : Int) < (n' : Int) := by omega
        have j2 : IntKind.i64.wrap (m + x.m) = m + x.m := IntWalk.i64_in _ (by omega)
        have H1 := hide (show mins (s.take (k + 1)) + en = m + x.m by rw [HS1.out, HM2.out]; omega)
        rcases (show (x.m < x.n) ∨ (x.n ≤ x.m) by omega) with hlt2 | hlt2
        · have H2 := hide (show lens (s.take (k + 1)) 1 1 + en = q + x.n by rw [HS3.out, HQ2.out, len11, if_pos hlt2]; omega)
          have j6 : IntKind.i64.wrap (q + x.n) = q + x.n := IntWalk.i64_in _ (by omega)
          go_wp2_with fail
          go_quiet (fail)
          go_wp2_with fail
          go_roundg (gk - 1)
          case measure => omega
          case rel => exact ⟨k + 1, by omega, by go_num, by omega, by rw [H1.out], by rw [H2.out], below_drewN HB2.out _⟩
        · have H2 := hide (show lens (s.take (k + 1)) 1 1 + en = q + x.m by rw [HS3.out, HQ2.out, len11, if_neg (by omega)]; omega)
          have j6 : IntKind.i64.wrap (q + x.m) = q + x.m := IntWalk.i64_in _ (by omega)
          have hlt3 : ¬ x.m < x.n := by omega
          go_wp2_with fail
          go_quiet (fail)
          go_wp2_with fail
          go_roundg (gk - 1)
          case measure => omega
          case rel => exact ⟨k + 1, by omega, by go_num, by omega, by rw [H1.out], by rw [H2.out], below_drewN HB2.out _⟩
      · have hall : s.take k = s := List.take_of_length_le (by have := HN'.out; omega)
        rw [hall]
        clear hall
        go_wp2_with fail
        go_ret2
        exact ⟨by rw [HA.out, HB.out]; rfl, hb⟩

set_option maxRecDepth 100000 in
set_option maxHeartbeats 2000000 in
theorem widths_law (A A' : Option Addr) (n c n' c' : Nat) (l : List Col) (s : List Spr) (w : World) (hn : n = l.length) (hc : n ≤ c) (hm : c ≤ 9223372036854775807) (h : Rds w w.heap.size A (cols l))
    (hn' : n' = s.length) (hc' : n' ≤ c') (hm' : c' ≤ 9223372036854775807) (h' : Rds w w.heap.size A' (sprs s)) :
    Calls Try.prog 10 #[.slice A n c, .slice A' n' c'] w fun e w' => e = .returned (.bool true) ∧ Below w.heap.size w w' := by
  have HN := hide hn
  have HN' := hide hn'
  clear hn hn'
  go_enter Try.func10, Try.ntmps10
  go_upto_region 2 with fail
  go_cut [0, 1] (fun v0 v1 wx => ∃ n1 n2 : Nat, v0 = .slice A n1 c ∧ v1 = .slice A' n2 c' ∧ n1 ≤ n ∧ n1 ≤ 40 ∧ n2 ≤ n' ∧ n2 ≤ 40 ∧ ∃ q, wx = w.drewN q)
  case first =>
    rcases (show n ≤ 40 ∨ 40 < n by omega) with h40 | h40
    all_goals
      rcases (show n' ≤ 40 ∨ 40 < n' by omega) with h41 | h41
      all_goals
        have t1 : ((40 : Int) < (n : Int)) = (40 < n) := propext (by omega)
        have t2 : ((40 : Int) < (n' : Int)) = (40 < n') := propext (by omega)
        go_wp2_with fail
        go_quiet (fail)
        go_wp2_with fail
        go_meet
    · exact ⟨n, n', rfl, rfl, by omega, by omega, by omega, by omega, _, rfl⟩
    · exact ⟨n, 40, rfl, rfl, by omega, by omega, by omega, by omega, _, rfl⟩
    · exact ⟨40, n', rfl, rfl, by omega, by omega, by omega, by omega, _, rfl⟩
    · exact ⟨40, 40, rfl, rfl, by omega, by omega, by omega, by omega, _, rfl⟩
  case rest =>
    obtain ⟨n1, n2, rfl, rfl, g1, g2, g3, g4, q, rfl⟩ := hcut
    obtain ⟨l1, hl1⟩ : ∃ l1, l1 = l.take n1 := ⟨_, rfl⟩
    obtain ⟨s1, hs1⟩ : ∃ s1, s1 = s.take n2 := ⟨_, rfl⟩
    have HN1 := hide (show n1 = l1.length by rw [hl1, List.length_take, ← HN.out]; omega)
    have HN2 := hide (show n2 = s1.length by rw [hs1, List.length_take, ← HN'.out]; omega)
    have hb0 : Below w.heap.size w (w.drewN q) := below_drewN (Below.refl _ _) _
    have r1 : Rds w w.heap.size A (cols l1) := by rw [hl1]; exact Rds.tk h n1
    have r2 : Rds w w.heap.size A' (sprs s1) := by rw [hs1]; exact Rds.tk h' n2
    have R1 := hide r1
    have R2 := hide r2
    clear hl1 hs1 r1 r2 h h' HN HN'
    by_cases hf : fitsE l1 s1 = 0
    · have HF := hide hf
      go_wp2_with fail
      refine (Width_ok A A' n1 c n2 c' l1 s1 _ HN1.out ((R1.out.below hb0).more hb0.size) HN2.out ((R2.out.below hb0).more hb0.size) HF.out).mono ?_
      rintro e w1 ⟨rfl, hb1⟩
      have b1 := hb0.trans (hb1.mono hb0.size)
      clear hb1 hb0
      go_wp2_with fail
      refine (known_any _).mono ?_
      rintro e w2 ⟨rfl, hb2⟩
      have b2 := b1.trans (hb2.mono b1.size)
      clear hb2 b1
      go_wp2_with fail
      refine (fits_any A A' n1 c n2 c' l1 s1 _ HN1.out (by omega) ((R1.out.below b2).more b2.size) HN2.out (by omega) ((R2.out.below b2).more b2.size)).mono ?_
      rw [HF.out]
      rintro e w3 ⟨rfl, hb3⟩
      have b3 := b2.trans (hb3.mono b2.size)
      clear hb3 b2
      go_wp2_with fail
      refine (widths_any A A' n1 c n2 c' l1 s1 _ HN1.out ((R1.out.below b3).more b3.size) HN2.out ((R2.out.below b3).more b3.size) HF.out).mono ?_
      rintro e w4 ⟨rfl, hb4⟩
      have b4 := b3.trans (hb4.mono b3.size)
      clear hb4 b3
      go_wp2_with fail
      go_ret
      exact ⟨rfl, b4⟩
    · have hne : (fitsE l1 s1 != 0) = true := by simpa using hf
      have HF := hide hf
      clear hf
      go_wp2_with fail
      refine (Width_bad A A' n1 c n2 c' l1 s1 _ HN1.out (by omega) ((R1.out.below hb0).more hb0.size) HN2.out (by omega) ((R2.out.below hb0).more hb0.size) HF.out).mono ?_
      rintro e w1 ⟨rfl, hb1⟩
      have b1 := hb0.trans (hb1.mono hb0.size)
      clear hb1 hb0
      go_wp2_with fail
      refine (known_any _).mono ?_
      rintro e w2 ⟨rfl, hb2⟩
      have b2 := b1.trans (hb2.mono b1.size)
      clear hb2 b1
      go_wp2_with fail
      refine (fits_any A A' n1 c n2 c' l1 s1 _ HN1.out (by omega) ((R1.out.below b2).more b2.size) HN2.out (by omega) ((R2.out.below b2).more b2.size)).mono ?_
      rintro e w3 ⟨rfl, hb3⟩
      have b3 := b2.trans (hb3.mono b2.size)
      clear hb3 b2
      go_wp2_with fail
      go_ret
      exact ⟨rfl, b3⟩

theorem spacingWidths_walk {w : World} (a : Sl Col) (ha : Sl.Good Col.cells Col.wf w a) (s : Sl Spr) (hs : Sl.Good Spr.cells Spr.wf w s) :
    Calls Try.prog 10 #[.slice a.A a.n a.c, .slice s.A s.n s.c] w fun e w' => e = .returned (.bool true) ∧ Below w.heap.size w w' :=
  widths_law a.A s.A a.n a.c s.n s.c a.l s.l w ha.len ha.cap (len63 ha.max) ha.rds hs.len hs.cap (len63 hs.max) hs.rds

end Go.Proofs.Ytajkmlejklgbbaa
