/- spacing.Width. -/
import Derived.Test.YtajkmlejklgbbaaChk
import Derived.Test.YtajkmlejklgbbaaSpPub
namespace Go.Proofs.Ytajkmlejklgbbaa
open Go.RowKit

theorem colErr_all' (l : List Col) (h : colErr l = 0) : l.length ≤ 4096 ∧ ∀ c ∈ l, c.ok := by
  unfold colErr at h
  by_cases h1 : l.length > 4096
  · rw [if_pos h1] at h; omega
  · rw [if_neg h1] at h
    by_cases h2 : ∀ c ∈ l, c.ok
    · exact ⟨by omega, h2⟩
    · rw [if_neg h2] at h; omega

/-- the first error of columns with springs -/
def fitsE (l : List Col) (s : List Spr) : Int := if colErr l ≠ 0 then colErr l else if s.length ≠ l.length - 1 then 20 else spErr s
def ends (l : List Col) : Int := match l.head?, l.getLast? with
  | some a, some b => a.l + b.r
  | _, _ => 0
def widA (l : List Col) (s : List Spr) : Int := if l = [] then 0 else mins s + ends l
def widB (l : List Col) (s : List Spr) : Int := if l = [] then 0 else lens s 1 1 + ends l

set_option maxRecDepth 100000 in
set_option maxHeartbeats 1000000 in
theorem Width_bad (A A' : Option Addr) (n c n' c' : Nat) (l : List Col) (s : List Spr) (w : World) (hn : n = l.length) (hm : n ≤ 9223372036854775807) (h : Rds w w.heap.size A (cols l))
    (hn' : n' = s.length) (hm' : n' ≤ 9223372036854775807) (h' : Rds w w.heap.size A' (sprs s)) (he : fitsE l s ≠ 0) :
    Calls Try.prog 25 #[.slice A n c, .slice A' n' c'] w fun e w' => e = .returned (.tuple #[.int .i64 0, .int .i64 0, .int .i64 (fitsE l s)]) ∧ Below w.heap.size w w' := by
  have HN := hide hn
  have HN' := hide hn'
  by_cases hc : colErr l = 0
  · by_cases hl : s.length = l.length - 1
    · have hsp : spErr s ≠ 0 := by rw [fitsE, if_neg (by simpa using hc), if_neg (by simpa using hl)] at he; exact he
      have HE := hide (show fitsE l s = spErr s by rw [fitsE, if_neg (by simpa using hc), if_neg (by simpa using hl)])
      have hs2 : (spErr s != 0) = true := by simpa using hsp
      have HO := hide (show okOr s (mins s) = 0 by rw [okOr, if_neg hsp])
      have HC := hide hc
      have hnn1 : n' ≤ n - 1 := by omega
      have hnn2 : n - 1 ≤ n' := by omega
      clear hc hl hsp he hn hn'
      rcases (show 1 < n ∨ n ≤ 1 by omega) with hn1 | hn1
      all_goals
        go_enter Try.func25, Try.ntmps25
        go_wp2_with fail
        refine (check_any A n c l _ HN.out hm h).mono ?_
        rw [HC.out]
        rintro e w1 ⟨rfl, hb1⟩
        go_wp2_with fail
        refine (Minimal_any A' n' c' s _ HN'.out hm' ((h'.below hb1).more hb1.size)).mono ?_
        rw [HO.out]
        rintro e w2 ⟨rfl, hb2⟩
        go_wp2_with fail
        go_ret3
        exact ⟨by rw [HE.out]; rfl, hb1.trans (hb2.mono hb1.size)⟩
    · have HE := hide (show fitsE l s = 20 by rw [fitsE, if_neg (by simpa using hc), if_pos hl])
      have HC := hide hc
      have hnn : ¬ n' = n - 1 := by rw [hn, hn']; exact hl
      clear hc hl he hn hn'
      rcases (show 1 < n ∨ n ≤ 1 by omega) with hn1 | hn1
      all_goals
        go_enter Try.func25, Try.ntmps25
        go_wp2_with fail
        refine (check_any A n c l _ HN.out hm h).mono ?_
        rw [HC.out]
        rintro e w1 ⟨rfl, hb1⟩
        go_wp2_with fail
        go_ret3
        exact ⟨by rw [HE.out]; rfl, hb1⟩
  · have HE := hide (show fitsE l s = colErr l by rw [fitsE, if_pos hc])
    have hc2 : (colErr l != 0) = true := by simpa using hc
    clear hc he hn hn'
    go_enter Try.func25, Try.ntmps25
    go_wp2_with fail
    refine (check_any A n c l _ HN.out hm h).mono ?_
    rintro e w1 ⟨rfl, hb1⟩
    go_wp2_with fail
    go_ret3
    exact ⟨by rw [HE.out]; rfl, hb1⟩

theorem fitsE_zero {l : List Col} {s : List Spr} (h : fitsE l s = 0) : colErr l = 0 ∧ s.length = l.length - 1 ∧ spErr s = 0 := by
  unfold fitsE at h
  by_cases h1 : colErr l = 0
  · rw [if_neg (by simpa using h1)] at h
    by_cases h2 : s.length = l.length - 1
    · rw [if_neg (by simpa using h2)] at h
      exact ⟨h1, h2, h⟩
    · rw [if_pos h2] at h; omega
  · rw [if_pos h1] at h; exact absurd h h1

set_option maxRecDepth 100000 in
set_option maxHeartbeats 1000000 in
theorem Width_ok (A A' : Option Addr) (n c n' c' : Nat) (l : List Col) (s : List Spr) (w : World) (hn : n = l.length) (h : Rds w w.heap.size A (cols l))
    (hn' : n' = s.length) (h' : Rds w w.heap.size A' (sprs s)) (he : fitsE l s = 0) :
    Calls Try.prog 25 #[.slice A n c, .slice A' n' c'] w fun e w' => e = .returned (.tuple #[.int .i64 (widA l s), .int .i64 (widB l s), .int .i64 0]) ∧ Below w.heap.size w w' := by
  have HN := hide hn
  have HN' := hide hn'
  obtain ⟨hc, hl, hs⟩ := fitsE_zero he
  obtain ⟨hc1, hc2⟩ := colErr_all' l hc
  have hb1 := mins_bnd s (spErr_all s hs).2
  have hb2 := lens_bnd s 1 1 (spErr_all s hs).2 (by omega) (by omega) (by omega)
  have HS := hide hs
  have HC := hide hc
  have HC2 := hide hc2
  have hnn1 : n' ≤ n - 1 := by omega
  have hnn2 : n - 1 ≤ n' := by omega
  have hn4 : n ≤ 4096 := by omega
  rw [← hn'] at hb1 hb2
  obtain ⟨mi, hmi⟩ : ∃ mi, mi = mins s := ⟨_, rfl⟩
  obtain ⟨na, hna⟩ : ∃ na, na = lens s 1 1 := ⟨_, rfl⟩
  rw [← hmi] at hb1
  rw [← hna] at hb2
  have HOm := hide (show okOr s (mins s) = mi by rw [hmi, okOr, if_pos hs])
  have HOn := hide (show okOr s (lens s 1 1) = na by rw [hna, okOr, if_pos hs])
  have HMI := hide hmi
  have HNA := hide hna
  clear hc hl hs hc1 hc2 hn hn' he hmi hna
  by_cases h0 : n = 0
  · have hl : l = [] := List.eq_nil_of_length_eq_zero (by rw [← HN.out]; exact h0)
    have hsn : s = [] := List.eq_nil_of_length_eq_zero (by rw [← HN'.out]; omega)
    have hmi0 : mi = 0 := by rw [HMI.out, hsn]; rfl
    have hna0 : na = 0 := by rw [HNA.out, hsn]; rfl
    have hA : widA l s = 0 := by rw [widA, if_pos hl]
    have hB : widB l s = 0 := by rw [widB, if_pos hl]
    have HA := hide hA
    have HB := hide hB
    subst h0 hmi0 hna0
    obtain rfl : n' = 0 := by omega
    clear hl hsn hA hB hb1 hb2 hnn1 hnn2
    go_enter Try.func25, Try.ntmps25
    go_wp2_with fail
    refine (check_any A 0 c l _ HN.out (by omega) h).mono ?_
    rw [HC.out]
    rintro e w1 ⟨rfl, hb1⟩
    go_wp2_with fail
    refine (Minimal_any A' 0 c' s _ HN'.out (by omega) ((h'.below hb1).more hb1.size)).mono ?_
    rw [HOm.out, HS.out]
    rintro e w2 ⟨rfl, hb2⟩
    have hb12 := hb1.trans (hb2.mono hb1.size)
    clear hb1 hb2
    go_wp2_with fail
    refine (NaturalSp_any A' 0 c' s _ HN'.out (by omega) ((h'.below hb12).more hb12.size)).mono ?_
    rw [HOn.out, HS.out]
    rintro e w3 ⟨rfl, hb3⟩
    go_wp2_with fail
    go_ret3
    exact ⟨by rw [HA.out, HB.out]; rfl, hb12.trans (hb3.mono hb12.size)⟩
  · obtain ⟨a, ha⟩ : ∃ a, l[0]? = some a := ⟨_, List.getElem?_eq_getElem (by have := HN.out; omega)⟩
    obtain ⟨z, hz⟩ : ∃ z, l[n - 1]? = some z := ⟨_, List.getElem?_eq_getElem (by have := HN.out; omega)⟩
    have hne : l ≠ [] := by intro e; rw [e] at ha; simp at ha
    have hends : ends l = a.l + z.r := by
      unfold ends
      rw [List.head?_eq_getElem?, ha, List.getLast?_eq_getElem?, ← HN.out, hz]
    have hA : widA l s = mi + (a.l + z.r) := by rw [widA, if_neg hne, hends, HMI.out]
    have hB : widB l s = na + (a.l + z.r) := by rw [widB, if_neg hne, hends, HNA.out]
    obtain ⟨a0, a1, a2, a3, a4, a5⟩ := Col.ok_of (HC2.out a (List.mem_of_getElem? ha))
    obtain ⟨z0, z1, z2, z3, z4, z5⟩ := Col.ok_of (HC2.out z (List.mem_of_getElem? hz))
    have HA := hide hA
    have HB := hide hB
    have HAA := hide ha
    have HZZ := hide hz
    have h01 : ((n : Int) == 0) = false := by simpa using h0
    have i1 : (0 : Int) < (n : Int) := by omega
    have hpos : 0 < n := by omega
    have hp2 : 1 ≤ n := by omega
    have i7 : (0 : Int) ≤ (n : Int) - 1 := by omega
    have i8 : n - 1 < n := by omega
    clear hA hB ha hz hne hends
    rcases (show n = 1 ∨ 1 < n by omega) with hn1 | hn1
    · subst hn1
      obtain rfl : n' = 0 := by omega
      clear i1 hpos hp2 i7 i8 h0 h01 hnn1 hnn2 hn4
      go_enter Try.func25, Try.ntmps25
      go_wp2_with fail
      refine (check_any A 1 c l _ HN.out (by omega) h).mono ?_
      rw [HC.out]
      rintro e w1 ⟨rfl, hb1'⟩
      go_wp2_with fail
      refine (Minimal_any A' 0 c' s _ HN'.out (by omega) ((h'.below hb1').more hb1'.size)).mono ?_
      rw [HOm.out, HS.out]
      rintro e w2 ⟨rfl, hb2'⟩
      have hb12 := hb1'.trans (hb2'.mono hb1'.size)
      clear hb1' hb2'
      go_wp2_with fail
      refine (NaturalSp_any A' 0 c' s _ HN'.out (by omega) ((h'.below hb12).more hb12.size)).mono ?_
      rw [HOn.out, HS.out]
      rintro e w3 ⟨rfl, hb3⟩
      have hb := hb12.trans (hb3.mono hb12.size)
      obtain ⟨b, off, hA1, hbB, c0, -, -⟩ := (h.below hb).col HAA.out
      obtain ⟨b', off', hA2, -, -, d1, -⟩ := (h.below hb).col HZZ.out
      subst hA1
      simp only [Option.some.injEq, Addr.mk.injEq, and_true] at hA2
      obtain ⟨rfl, rfl⟩ := hA2
      rw [Nat.zero_mul, Nat.add_zero] at c0
      rw [Nat.sub_self, Nat.zero_mul, Nat.add_zero] at d1
      have i6 : IntKind.i64.wrap (a.l + z.r) = a.l + z.r := IntWalk.i64_in _ (by omega)
      clear hb12 hb3
      go_wp2_with fail
      go_quiet (fail)
      go_wp2_with fail
      go_ret3
      exact ⟨by rw [HA.out, HB.out]; rfl, below_drewN hb _⟩
    all_goals
      go_enter Try.func25, Try.ntmps25
      go_wp2_with fail
      refine (check_any A n c l _ HN.out (by omega) h).mono ?_
      rw [HC.out]
      rintro e w1 ⟨rfl, hb1'⟩
      go_wp2_with fail
      refine (Minimal_any A' n' c' s _ HN'.out (by omega) ((h'.below hb1').more hb1'.size)).mono ?_
      rw [HOm.out, HS.out]
      rintro e w2 ⟨rfl, hb2'⟩
      have hb12 := hb1'.trans (hb2'.mono hb1'.size)
      clear hb1' hb2'
      go_wp2_with fail
      refine (NaturalSp_any A' n' c' s _ HN'.out (by omega) ((h'.below hb12).more hb12.size)).mono ?_
      rw [HOn.out, HS.out]
      rintro e w3 ⟨rfl, hb3⟩
      have hb := hb12.trans (hb3.mono hb12.size)
      obtain ⟨b, off, hA1, hbB, c0, -, -⟩ := (h.below hb).col HAA.out
      obtain ⟨b', off', hA2, -, -, d1, -⟩ := (h.below hb).col HZZ.out
      subst hA1
      simp only [Option.some.injEq, Addr.mk.injEq, and_true] at hA2
      obtain ⟨rfl, rfl⟩ := hA2
      rw [Nat.zero_mul, Nat.add_zero] at c0
      have i2 : (n : Int) - 1 < (n : Int) := by omega
      have i3 : (1 : Int) ≤ (n : Int) := by omega
      have i4 : ((n : Int) - 1).toNat = n - 1 := by omega
      have i5 : IntKind.i64.wrap ((n : Int) - 1) = (n : Int) - 1 := IntWalk.i64_in _ (by omega)
      have i6 : IntKind.i64.wrap (a.l + z.r) = a.l + z.r := IntWalk.i64_in _ (by omega)
      clear hb12 hb3
      go_wp2_with fail
      go_quiet (fail)
      go_wp2_with fail
      go_ret3
      exact ⟨by rw [HA.out, HB.out]; rfl, below_drewN hb _⟩

end Go.Proofs.Ytajkmlejklgbbaa
