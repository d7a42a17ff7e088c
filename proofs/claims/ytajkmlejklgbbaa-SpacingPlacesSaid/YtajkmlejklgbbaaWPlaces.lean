/- The walk of SpacingPlaces. -/
import Derived.Test.YtajkmlejklgbbaaPlaceE
import Derived.Test.YtajkmlejklgbbaaPlacesP
import Derived.Test.YtajkmlejklgbbaaShort
import Derived.Test.YtajkmlejklgbbaaWidthsW
import Derived.Test.YtajkmlejklgbbaaLspr
import Derived.Test.YtajkmlejklgbbaaWrong
import Derived.Test.YtajkmlejklgbbaaHand
namespace Go.Proofs.Ytajkmlejklgbbaa
open Go.RowKit

theorem shF_bnd : ∀ (l : List Col) (n : Int), (∀ c ∈ l, c.ok) → (0 ≤ n ∧ n ≤ 15482880) → 0 ≤ l.foldl shStep n ∧ l.foldl shStep n ≤ 15482880
  | [], _, _, h => h
  | c :: l, n, hc, h => by
    rw [List.foldl_cons]
    obtain ⟨_, _, _, _, c4, c5⟩ := Col.ok_of (hc c (List.mem_cons_self ..))
    refine shF_bnd l _ (fun x hx => hc x (List.mem_cons_of_mem _ hx)) ?_
    unfold shStep
    split <;> omega
theorem shortest_bnd {l : List Col} (h : ∀ c ∈ l, c.ok) : 1 ≤ shortest l ∧ shortest l ≤ 15482880 := by
  have := shF_bnd l 0 h (by omega)
  unfold shortest
  split
  · omega
  · rename_i hne
    have e : shF l = l.foldl shStep 0 := rfl
    rw [e] at hne ⊢
    omega
theorem lst_ok_all {L : List Lst} {n : Nat} (h : lstErr L n = 0) : ∀ x ∈ L, x.ok n := by
  unfold lstErr at h
  split at h
  · assumption
  · cases h
theorem spErr_two {s : List Spr} (hl : s.length ≤ 8192) (h : ¬ spErr s = 0) : spErr s = 2 := by
  unfold spErr at h ⊢
  rw [if_neg (by omega)] at h ⊢
  split at h
  · exact absurd rfl h
  · rename_i hn; rw [if_neg hn]

set_option linter.unusedSimpArgs false in
set_option maxRecDepth 100000 in
set_option maxHeartbeats 16000000 in
theorem places_law (A A' : Option Addr) (n c n' c' : Nat) (l : List Col) (L : List Lst) (width : Int) (w : World) (hn : n = l.length) (hc : n ≤ c) (h : Rds w w.heap.size A (cols l))
    (hn' : n' = L.length) (hc' : n' ≤ c') (h' : Rds w w.heap.size A' (lsts L)) :
    Calls Try.prog 12 #[.slice A n c, .slice A' n' c', .int .i64 width] w fun e w' => e = .returned (.bool true) ∧ Below w.heap.size w w' := by
  have HN := hide hn
  have HN' := hide hn'
  clear hn hn'
  go_enter Try.func12, Try.ntmps12
  go_upto_region 2 with fail
  go_cut [0, 1] (fun v0 v1 wx => ∃ n1 n2 : Nat, v0 = .slice A n1 c ∧ v1 = .slice A' n2 c' ∧ n1 ≤ n ∧ n1 ≤ 30 ∧ n2 ≤ n' ∧ n2 ≤ 10 ∧ ∃ q, wx = w.drewN q)
  case first =>
    obtain ⟨n1, hn1⟩ : ∃ n1 : Nat, n1 = min n 30 := ⟨_, rfl⟩
    obtain ⟨n2, hn2⟩ : ∃ n2 : Nat, n2 = min n' 10 := ⟨_, rfl⟩
    have m1 : min (n : Int) 30 = (n1 : Int) := by omega
    have m2 : min (n' : Int) 10 = (n2 : Int) := by omega
    have m3 : (n1 : Int) ≤ (c : Int) := by omega
    have m4 : (n2 : Int) ≤ (c' : Int) := by omega
    have m5 : n1 ≤ c := by omega
    have m6 : n2 ≤ c' := by omega
    have m7 : n1 ≤ n ∧ n1 ≤ 30 ∧ n2 ≤ n' ∧ n2 ≤ 10 := by omega
    clear hn1 hn2
    go_wp2_with fail
    go_quiet (fail)
    go_wp2_with fail
    go_meet
    exact ⟨n1, n2, rfl, rfl, m7.1, m7.2.1, m7.2.2.1, m7.2.2.2, _, rfl⟩
  case rest =>
    obtain ⟨n1, n2, rfl, rfl, g1, g2, g3, g4, q, rfl⟩ := hcut
    obtain ⟨l1, hl1⟩ : ∃ l1, l1 = l.take n1 := ⟨_, rfl⟩
    obtain ⟨L1, hL1⟩ : ∃ L1, L1 = L.take n2 := ⟨_, rfl⟩
    have HN1 := hide (show n1 = l1.length by rw [hl1, List.length_take, ← HN.out]; omega)
    have HN2 := hide (show n2 = L1.length by rw [hL1, List.length_take, ← HN'.out]; omega)
    have HB0 := hide (show Below w.heap.size w (w.drewN q) from below_drewN (Below.refl _ _) _)
    have R1 := hide (show Rds w w.heap.size A (cols l1) by rw [hl1]; exact Rds.tk h n1)
    have R2 := hide (show Rds w w.heap.size A' (lsts L1) by rw [hL1]; exact Rds.tk h' n2)
    clear hl1 hL1 h h' HN HN' g1 g3 hc hc' 
    go_wp2_with fail
    refine (known_any _).mono ?_
    rintro e w1 ⟨rfl, hb⟩
    have HB1 := hide (HB0.out.trans (hb.mono HB0.out.size))
    clear hb HB0
    by_cases hce : colErr l1 = 0
    case neg =>
      have hne : (colErr l1 != 0) = true := by simpa using hce
      have HCE := hide hce
      clear hce
      go_wp2_with fail
      refine (lcheck_any A n1 c l1 _ HN1.out (by omega) ((R1.out.below HB1.out).more HB1.out.size)).mono ?_
      rintro e w2 ⟨rfl, rfl⟩
      go_wp2_with fail
      refine (known_any _).mono ?_
      rintro e w3 ⟨rfl, hb⟩
      have HB3 := hide (HB1.out.trans (hb.mono HB1.out.size))
      clear hb HB1
      go_wp2_with fail
      go_ret
      exact ⟨rfl, HB3.out⟩
    have HCE := hide hce
    clear hce
    go_wp2_with fail
    refine (lcheck_any A n1 c l1 _ HN1.out (by omega) ((R1.out.below HB1.out).more HB1.out.size)).mono ?_
    rw [HCE.out]
    rintro e w2 ⟨rfl, rfl⟩
    go_wp2_with fail
    by_cases hle : lstErr L1 n1 = 0
    case neg =>
      have hne : (lstErr L1 n1 != 0) = true := by simpa using hle
      clear hle
      refine (wrong_any A' n2 c' n1 L1 _ HN2.out (by omega) ((R2.out.below HB1.out).more HB1.out.size)).mono ?_
      rintro e w3 ⟨rfl, hb⟩
      have HB3 := hide (HB1.out.trans (hb.mono HB1.out.size))
      clear hb HB1
      go_wp2_with fail
      refine (known_any _).mono ?_
      rintro e w4 ⟨rfl, hb⟩
      have HB4 := hide (HB3.out.trans (hb.mono HB3.out.size))
      clear hb HB3
      go_wp2_with fail
      go_ret
      exact ⟨rfl, HB4.out⟩
    have HLE := hide hle
    clear hle
    refine (wrong_any A' n2 c' n1 L1 _ HN2.out (by omega) ((R2.out.below HB1.out).more HB1.out.size)).mono ?_
    rw [HLE.out]
    rintro e w3 ⟨rfl, hb⟩
    have HB3 := hide (HB1.out.trans (hb.mono HB1.out.size))
    clear hb HB1
    go_wp2_with fail
    obtain ⟨hcl, hcok⟩ := colErr_all l1 HCE.out
    have HCO := hide hcok
    have HLO := hide (lst_ok_all HLE.out)
    have hsb := shortest_bnd hcok
    obtain ⟨sh, hsh⟩ : ∃ sh, sh = shortest l1 := ⟨_, rfl⟩
    rw [← hsh] at hsb
    have HSH := hide hsh
    have HSB := hide hsb
    clear hcl hcok hsh hsb
    refine (shortest_any A n1 c l1 _ HN1.out (by omega) ((R1.out.below HB3.out).more HB3.out.size)).mono ?_
    rw [← HSH.out]
    rintro e w4 ⟨rfl, hb⟩
    have HB4 := hide (HB3.out.trans (hb.mono HB3.out.size))
    clear hb HB3
    go_wp2_with fail
    obtain ⟨s, hs⟩ : ∃ s, s = adjs (srt L1) (baseS sh 8 l1) := ⟨_, rfl⟩
    obtain ⟨n3, hn3⟩ : ∃ n3, n3 = n1 - 1 := ⟨_, rfl⟩
    have hsp := lsprings_any A A' n1 c n2 c' l1 sh 8 L1 _ HN1.out (by omega) ((R1.out.below HB4.out).more HB4.out.size) HCE.out ⟨HSB.out.1, HSB.out.2, by omega, by omega⟩ HN2.out (by omega) ((R2.out.below HB4.out).more HB4.out.size) HLO.out
    rw [← hs, ← hn3] at hsp
    have HSP := hide hsp
    have HS := hide hs
    have HN3 := hide hn3
    clear hsp hs hn3
    refine HSP.out.mono ?_
    rintro e w5 ⟨v, rfl, ho, hb⟩
    obtain ⟨A3, c3, rfl, -, -, -⟩ := own_form ho
    have HB5 := hide (HB4.out.trans (hb.mono HB4.out.size))
    have R3 := hide (Rds.own ho)
    clear hb ho HB4 HSP
    have HSL := hide (show s.length = n3 by rw [HS.out, adjs_length, baseS_length, ← HN1.out, HN3.out])
    have HPAIR := hide (show ∀ (i : Nat) (a b : Col), l1[i]? = some a → l1[i + 1]? = some b → a.nz = true → b.nz = true → ∃ t, s[i]? = some t ∧ a.r + b.l + 8 ≤ t.m from fun i a b ha hb na nb => by
      have h1 := baseS_get sh 8 l1 i a b ha hb
      obtain ⟨t, ht, h2⟩ := (adjs_sub (srt L1) (baseS sh 8 l1)).le i _ h1
      refine ⟨t, by rw [HS.out]; exact ht, ?_⟩
      simp only [sprOf, na, nb, Bool.and_self, if_true] at h2
      exact h2)
    have HKEEP := hide (show ∀ y ∈ L1, y.d ≤ sumM ((s.drop y.f.toNat).take (y.l.toNat - y.f.toNat)) from fun y hy => by
      rw [HS.out]
      refine adjs_keeps (srt_all HLO.out hy) fun x hx => ?_
      obtain ⟨x0, x1, x2, x3, x4⟩ := Lst.ok_of (HLO.out x (srt_mem L1 x hx))
      have hnx := HN1.out
      refine ⟨x0, x1, ?_, x3, x4⟩
      rw [baseS_length]
      omega)
    clear HS
    by_cases hse : spErr s = 0
    case neg =>
      have HE2 := hide (spErr_two (by have := HSL.out; have := HN3.out; omega) hse)
      have HFE := hide (show fitsE l1 s = 2 by rw [fitsE, if_neg (by simpa using HCE.out), if_neg (by have := HSL.out; have := HN3.out; have := HN1.out; simp; omega), HE2.out])
      have hpe : placeErr l1 s width = 2 := by rw [placeErr, if_pos (by rw [HFE.out]; decide), HFE.out]
      have HPE := hide hpe
      clear hse hpe
      go_wp2_with fail
      refine (Place_err A A3 n1 c n3 c3 l1 s width _ HN1.out (by omega) ((R1.out.below HB5.out).more HB5.out.size) HSL.out.symm (by have := HN3.out; omega) R3.out (by rw [HPE.out]; decide)).mono ?_
      rw [HPE.out]
      rintro e w6 ⟨rfl, hb⟩
      have R3_6 := hide (Rds.on2 R3.out hb)
      have HB6 := hide (HB5.out.trans (hb.mono HB5.out.size))
      clear hb HB5
      go_wp2_with fail
      refine (spCheck_any A3 n3 c3 s _ HSL.out.symm (by have := HN3.out; omega) R3_6.out).mono ?_
      rw [HE2.out]
      rintro e w7 ⟨rfl, hb⟩
      have R3_7 := hide (Rds.on2 R3_6.out hb)
      have HB7 := hide (HB6.out.trans (hb.mono HB6.out.size))
      clear hb HB6
      go_wp2_with fail
      go_ret
      exact ⟨rfl, HB7.out⟩
    have HSE := hide hse
    have HFE := hide (show fitsE l1 s = 0 by rw [fitsE, if_neg (by simpa using HCE.out), if_neg (by have := HSL.out; have := HN3.out; have := HN1.out; simp; omega), HSE.out])
    clear hse
    obtain ⟨wa, hwa⟩ : ∃ wa, wa = widA l1 s := ⟨_, rfl⟩
    obtain ⟨wb, hwb⟩ : ∃ wb, wb = widB l1 s := ⟨_, rfl⟩
    have HWA := hide hwa
    have HWB := hide hwb
    clear hwa hwb
    by_cases hwr : width < 0 ∨ 67108864 < width
    case pos =>
      have HPE := hide (show placeErr l1 s width = 2 by rw [placeErr, if_neg (by rw [HFE.out]; decide), if_pos hwr])
      go_wp2_with fail
      refine (Place_err A A3 n1 c n3 c3 l1 s width _ HN1.out (by omega) ((R1.out.below HB5.out).more HB5.out.size) HSL.out.symm (by have := HN3.out; omega) R3.out (by rw [HPE.out]; decide)).mono ?_
      rw [HPE.out]
      rintro e w6 ⟨rfl, hb⟩
      have R3_6 := hide (Rds.on2 R3.out hb)
      have HB6 := hide (HB5.out.trans (hb.mono HB5.out.size))
      clear hb HB5
      go_wp2_with fail
      refine (spCheck_any A3 n3 c3 s _ HSL.out.symm (by have := HN3.out; omega) R3_6.out).mono ?_
      rw [HSE.out]
      rintro e w7 ⟨rfl, hb⟩
      have R3_7 := hide (Rds.on2 R3_6.out hb)
      have HB7 := hide (HB6.out.trans (hb.mono HB6.out.size))
      clear hb HB6
      go_wp2_with fail
      refine (widths_any A A3 n1 c n3 c3 l1 s _ HN1.out ((R1.out.below HB7.out).more HB7.out.size) HSL.out.symm R3_7.out HFE.out).mono ?_
      rw [← HWA.out, ← HWB.out]
      rintro e w8 ⟨rfl, hb⟩
      have R3_8 := hide (Rds.on2 R3_7.out hb)
      have HB8 := hide (HB7.out.trans (hb.mono HB7.out.size))
      clear hb HB7
      rcases hwr with hwr | hwr
      all_goals
        by_cases hwn : width < 0
        all_goals
          go_wp2_with fail
          go_ret
          exact ⟨rfl, HB8.out⟩
    have hw0 : ¬ width < 0 := by omega
    have hw1 : ¬ 67108864 < width := by omega
    by_cases hwa : width < wa
    case pos =>
      have HPE := hide (show placeErr l1 s width = 28 by rw [placeErr, if_neg (by rw [HFE.out]; decide), if_neg hwr, if_pos (by rw [← HWA.out]; exact hwa)])
      clear hwr
      go_wp2_with fail
      refine (Place_err A A3 n1 c n3 c3 l1 s width _ HN1.out (by omega) ((R1.out.below HB5.out).more HB5.out.size) HSL.out.symm (by have := HN3.out; omega) R3.out (by rw [HPE.out]; decide)).mono ?_
      rw [HPE.out]
      rintro e w6 ⟨rfl, hb⟩
      have R3_6 := hide (Rds.on2 R3.out hb)
      have HB6 := hide (HB5.out.trans (hb.mono HB5.out.size))
      clear hb HB5
      go_wp2_with fail
      refine (spCheck_any A3 n3 c3 s _ HSL.out.symm (by have := HN3.out; omega) R3_6.out).mono ?_
      rw [HSE.out]
      rintro e w7 ⟨rfl, hb⟩
      have R3_7 := hide (Rds.on2 R3_6.out hb)
      have HB7 := hide (HB6.out.trans (hb.mono HB6.out.size))
      clear hb HB6
      go_wp2_with fail
      refine (widths_any A A3 n1 c n3 c3 l1 s _ HN1.out ((R1.out.below HB7.out).more HB7.out.size) HSL.out.symm R3_7.out HFE.out).mono ?_
      rw [← HWA.out, ← HWB.out]
      rintro e w8 ⟨rfl, hb⟩
      have R3_8 := hide (Rds.on2 R3_7.out hb)
      have HB8 := hide (HB7.out.trans (hb.mono HB7.out.size))
      clear hb HB7
      go_wp2_with fail
      go_ret
      exact ⟨rfl, HB8.out⟩
    clear hwr
    rcases (show n1 = 0 ∨ n1 = 1 ∨ 2 ≤ n1 by omega) with h0 | h0 | h2
    case inl =>
      obtain rfl : n1 = 0 := h0
      obtain rfl : n3 = 0 := (by have := HN3.out; omega)
      have HL0 := hide (show l1 = [] from List.length_eq_zero_iff.1 HN1.out.symm)
      have HS0 := hide (show s = [] from List.length_eq_zero_iff.1 HSL.out)
      go_wp2_with fail
      refine (Place_nil A A3 c c3 width _ ⟨by omega, by omega⟩).mono ?_
      rintro e w6 ⟨rfl, hb⟩
      have R3_6 := hide (Rds.on2 R3.out hb)
      have HB6 := hide (HB5.out.trans (hb.mono HB5.out.size))
      clear hb HB5
      go_wp2_with fail
      refine (spCheck_any A3 0 c3 s _ HSL.out.symm (by omega) R3_6.out).mono ?_
      rw [HSE.out]
      rintro e w7 ⟨rfl, hb⟩
      have R3_7 := hide (Rds.on2 R3_6.out hb)
      have HB7 := hide (HB6.out.trans (hb.mono HB6.out.size))
      clear hb HB6
      go_wp2_with fail
      refine (widths_any A A3 0 c 0 c3 l1 s _ HN1.out ((R1.out.below HB7.out).more HB7.out.size) HSL.out.symm R3_7.out HFE.out).mono ?_
      rw [← HWA.out, ← HWB.out]
      rintro e w8 ⟨rfl, hb⟩
      have R3_8 := hide (Rds.on2 R3_7.out hb)
      have HB8 := hide (HB7.out.trans (hb.mono HB7.out.size))
      clear hb HB7
      go_wp2_with fail
      go_quiet (fail)
      go_wp2_with fail
      go_ret
      exact ⟨rfl, below_drewN HB8.out _⟩
    case inr.inl =>
      obtain rfl : n1 = 1 := h0
      obtain rfl : n3 = 0 := (by have := HN3.out; omega)
      obtain ⟨a, hl1⟩ : ∃ a, l1 = [a] := (by have := HN1.out; match l1, this with | [a], _ => exact ⟨a, rfl⟩)
      obtain rfl := hl1
      obtain rfl : s = [] := List.length_eq_zero_iff.1 HSL.out
      have hao := HCO.out a (List.mem_cons_self ..)
      go_wp2_with fail
      refine (Place_one A A3 c c3 a width _ ((R1.out.below HB5.out).more HB5.out.size) hao ⟨by omega, by omega⟩ (by rw [← HWA.out]; omega)).mono ?_
      rintro e w6 ⟨A4, rfl, hr4, hb⟩
      have R4 := hide (show Rds w6 w6.heap.size A4 ([a.l].map (Value.int .i64)) from hr4)
      have R3_6 := hide (Rds.on2 R3.out hb)
      have HB6 := hide (HB5.out.trans (hb.mono HB5.out.size))
      clear hb HB5 hr4
      go_wp2_with fail
      refine (spCheck_any A3 0 c3 [] _ rfl (by omega) R3_6.out).mono ?_
      rw [HSE.out]
      rintro e w7 ⟨rfl, hb⟩
      have R3_7 := hide (Rds.on2 R3_6.out hb)
      have R4_7 := hide (Rds.on2 R4.out hb)
      have HB7 := hide (HB6.out.trans (hb.mono HB6.out.size))
      clear hb HB6
      go_wp2_with fail
      refine (widths_any A A3 1 c 0 c3 [a] [] _ rfl ((R1.out.below HB7.out).more HB7.out.size) rfl R3_7.out HFE.out).mono ?_
      rw [← HWA.out, ← HWB.out]
      rintro e w8 ⟨rfl, hb⟩
      have R3_8 := hide (Rds.on2 R3_7.out hb)
      have R4_8 := hide (Rds.on2 R4_7.out hb)
      have HB8 := hide (HB7.out.trans (hb.mono HB7.out.size))
      clear hb HB7
      obtain ⟨b4, o4, rfl, -, c4⟩ := R4_8.out.int (show [a.l][0]? = some a.l from rfl)
      obtain ⟨b1, o1, rfl, -, c1, -, -⟩ := ((R1.out.below HB8.out).more HB8.out.size).col (show [a][0]? = some a from rfl)
      rw [Nat.add_zero] at c4
      rw [Nat.zero_mul, Nat.add_zero] at c1
      go_wp2_with fail
      go_quiet (fail)
      go_wp2_with fail
      go_ret
      exact ⟨rfl, below_drewN HB8.out _⟩
    obtain ⟨a, ha⟩ : ∃ a, l1[0]? = some a := ⟨_, List.getElem?_eq_getElem (by have := HN1.out; omega)⟩
    obtain ⟨z, hz⟩ : ∃ z, l1[n1 - 1]? = some z := ⟨_, List.getElem?_eq_getElem (by have := HN1.out; omega)⟩
    have hpl := Place_ok A A3 n1 c n3 c3 l1 s width a z w5 HN1.out ((R1.out.below HB5.out).more HB5.out.size) HSL.out.symm R3.out HFE.out h2 ha hz (by rw [← HWA.out]; omega) (by omega)
    have HPL := hide hpl
    have HA := hide ha
    have HZ := hide hz
    clear hpl ha hz
    go_wp2_with fail
    refine HPL.out.mono ?_
    rintro e w6 ⟨A4, c4, ps, xs, rfl, hr4, hpo, hb⟩
    have R4 := hide hr4
    have HPO := hide hpo
    have R3_6 := hide (Rds.on2 R3.out hb)
    have HB6 := hide (HB5.out.trans (hb.mono HB5.out.size))
    clear hb HB5 hr4 hpo HPL
    go_wp2_with fail
    refine (spCheck_any A3 n3 c3 s _ HSL.out.symm (by have := HN3.out; omega) R3_6.out).mono ?_
    rw [HSE.out]
    rintro e w7 ⟨rfl, hb⟩
    have R3_7 := hide (Rds.on2 R3_6.out hb)
    have R4_7 := hide (Rds.on2 R4.out hb)
    have HB7 := hide (HB6.out.trans (hb.mono HB6.out.size))
    clear hb HB6
    go_wp2_with fail
    refine (widths_any A A3 n1 c n3 c3 l1 s _ HN1.out ((R1.out.below HB7.out).more HB7.out.size) HSL.out.symm R3_7.out HFE.out).mono ?_
    rw [← HWA.out, ← HWB.out]
    rintro e w8 ⟨rfl, hb⟩
    have R3_8 := hide (Rds.on2 R3_7.out hb)
    have R4_8 := hide (Rds.on2 R4_7.out hb)
    have HB8 := hide (HB7.out.trans (hb.mono HB7.out.size))
    clear hb HB7
    have hn2 : ¬ (n1 : Int) < 2 := by omega
    obtain ⟨b, off, hA1, hbB, c0, -, -⟩ := ((R1.out.below HB8.out).more HB8.out.size).col HA.out
    obtain ⟨b2, off2, hA2, -, -, d1, -⟩ := ((R1.out.below HB8.out).more HB8.out.size).col HZ.out
    subst hA1
    simp only [Option.some.injEq, Addr.mk.injEq, and_true] at hA2
    obtain ⟨rfl, rfl⟩ := hA2
    rw [Nat.zero_mul, Nat.add_zero] at c0
    obtain ⟨a0, a1, a2, a3, -, -⟩ := Col.ok_of (HCO.out a (List.mem_of_getElem? HA.out))
    obtain ⟨z0, z1, z2, z3, -, -⟩ := Col.ok_of (HCO.out z (List.mem_of_getElem? HZ.out))
    obtain ⟨hs1, hs2⟩ := spErr_all s HSE.out
    have HNN := hide (show ∀ t ∈ s, 0 ≤ t.n ∧ 0 ≤ t.m from fun t ht => ⟨(Spr.ok_of (hs2 t ht)).1, (Spr.ok_of (hs2 t ht)).2.2.1⟩)
    have hmb := mins_bnd s hs2
    have hends : widA l1 s = mins s + (a.l + z.r) := by
      have hne : l1 ≠ [] := by intro e; have := HA.out; rw [e] at this; simp at this
      rw [widA, if_neg hne, ends, List.head?_eq_getElem?, HA.out, List.getLast?_eq_getElem?, ← HN1.out, HZ.out]
    have hwid : mins s + (a.l + z.r) ≤ width := by rw [← hends, ← HWA.out]; omega
    obtain ⟨W, hW⟩ : ∃ W, W = width - a.l - z.r := ⟨_, rfl⟩
    have W0 : 0 ≤ W := by omega
    have HWE := hide hW
    have HFT := hide (show fitErr s W = 0 by rw [fitErr, if_neg (by rw [HSE.out]; simp), if_neg (by omega), if_neg (by omega)])
    have HMW := hide (show mins s ≤ W by omega)
    have i1 : IntKind.i64.wrap (width - a.l) = width - a.l := IntWalk.i64_in _ (by omega)
    have i2 : IntKind.i64.wrap (width - a.l - z.r) = W := by rw [hW]; exact IntWalk.i64_in _ (by omega)
    have t1 : IntKind.i64.wrap ((n1 : Int) - 1) = (n1 : Int) - 1 := IntWalk.i64_in _ (by omega)
    have t2 : ((n1 : Int) - 1).toNat = n1 - 1 := by omega
    have t3 : (0 : Int) ≤ (n1 : Int) - 1 := by omega
    have t4 : (n1 : Int) - 1 < (n1 : Int) := by omega
    have t5 : (0 : Int) < (n1 : Int) := by omega
    have t6 : 0 < n1 := by omega
    have t7 : n1 - 1 < n1 := by omega
    have t8 : (1 : Int) ≤ (n1 : Int) := by omega
    have HPO2 := hide (show PlaceOut l1 s width a z ps xs from HPO.out)
    have hp30 : 0 < n3 := by have := HN3.out; omega
    have hn31 : n3 + 1 = n1 := by have := HN3.out; omega
    clear hs1 hs2 hmb hends hwid hW
    go_upto_region 15 with fail
    have HS15 := hide (fun Wd (hWd : Rds Wd Wd.heap.size A3 (sprs s)) => Solve_ok A3 n3 c3 s W Wd HSL.out.symm hp30 hWd HFT.out)
    go_region_held3 (fun w' => w'.cell? ⟨b, off, none⟩ = some (.int .i64 a.l) ∧ w'.cell? ⟨b, off + (n1 - 1) * 3 + 1, none⟩ = some (.int .i64 z.r) ∧ Below w8.heap.size w8 w')
      (first | (go_keep; done) | (exact keep2 (Below.drew (Below.refl _ _)) hbB hbB c0 d1) | (exact keep2 (find1_tr (below3 (by assumption)) (by assumption)) hbB hbB c0 d1) | (exact keep2 (Below.drew (below3 (by assumption))) hbB hbB c0 d1))
      (first | (go_at_call 30; refine (HS15.out _ (Rds.on2 R3_8.out (below3 (by assumption)))).mono ?_; rintro e w' ⟨g, ys, rfl, hrx, hso, hb'⟩))
    have hB := below3 (show _ by assumption)
    obtain rfl : ys = xs := solve_one (fun t ht => (HNN.out t ht).1) hso (by have := HPO2.out.so; rw [← HWE.out] at this; exact this)
    have RX := hide hrx
    have R49 := hide (Rds.on2 R4_8.out hB)
    have HB9 := hide (HB8.out.trans (hB.mono HB8.out.size))
    have HLOW := hide (show ∀ (i : Nat) (t : Spr) (v : Int), s[i]? = some t → ys[i]? = some v → t.m ≤ v from fun i t v ht hv => solve_low HNN.out hso HMW.out ht hv)
    have HYL := hide (show ys.length = s.length from hso.len)
    clear hB hrx hso hb' c0 d1 HPO HB8 HS15 HFT
    have HAT := hide (show ∀ k : Nat, k ≤ n3 → ps[k]? = some (a.l + (ys.take k).sum) ∧ 0 ≤ a.l + (ys.take k).sum ∧ a.l + (ys.take k).sum ≤ 67108864 from fun k hk => by
      have h1 := HPO2.out.at_ k (by have := HN1.out; omega)
      have h2 := take_sum_le HPO2.out.nn k
      have h3 := HPO2.out.sum
      exact ⟨h1, by omega, by omega⟩)
    have HSUM := hide (show (ys.take n3).sum = W by rw [List.take_of_length_le (by rw [HYL.out, HSL.out]; exact Nat.le_refl _), HPO2.out.sum, HWE.out])
    obtain ⟨p0, -, -⟩ := HAT.out 0 (by omega)
    obtain ⟨p1, -, -⟩ := HAT.out (n1 - 1) (by omega)
    rw [List.take_zero, List.sum_nil, Int.add_zero] at p0
    rw [show n1 - 1 = n3 by omega, HSUM.out] at p1
    obtain ⟨b4, o4, hA4, hb4, d4⟩ := R49.out.int p0
    obtain ⟨b5, o5, hA5, -, d5⟩ := R49.out.int p1
    subst hA4
    simp only [Option.some.injEq, Addr.mk.injEq, and_true] at hA5
    obtain ⟨rfl, rfl⟩ := hA5
    rw [Nat.add_zero] at d4
    obtain ⟨b1, off1, hA1, hbB9, e0, -, -⟩ := ((R1.out.below HB9.out).more HB9.out.size).col HA.out
    obtain ⟨b2, off2, hA2, -, -, e1, -⟩ := ((R1.out.below HB9.out).more HB9.out.size).col HZ.out
    simp only [Option.some.injEq, Addr.mk.injEq, and_true] at hA1 hA2
    obtain ⟨rfl, rfl⟩ := hA1
    obtain ⟨rfl, rfl⟩ := hA2
    rw [Nat.zero_mul, Nat.add_zero] at e0
    have j1 : IntKind.i64.wrap (a.l + W + z.r) = width := by rw [show a.l + W + z.r = width by have := HWE.out; omega]; exact IntWalk.i64_in _ (by omega)
    have t9 : ((n1 : Int) - 1).toNat = n3 := by omega
    have t10 : n3 < n1 := by omega
    have t11 : n1 - 1 = n3 := by omega
    rw [t11] at e1
    rw [t11] at t2
    clear t11 p0 p1
    go_wp2_with fail
    go_quiet (fail)
    go_wp2_with fail
    clear e0 e1 d4 d5 j1 t1 t2 t3 t4 t5 t6 t7 t8 t9 t10 i1 i2
    go_loopg [6, 14] n3 (fun gl s6 s14 wr => ∃ k : Nat, s14 = .int .i64 k ∧ s6 = .bool false ∧ k ≤ n3 ∧ n3 ≤ gl + k ∧ Hid (Below w'.heap.size w' wr))
    case atStart => exact ⟨0, rfl, rfl, Nat.zero_le _, by omega, below_drewN (Below.refl _ _) _⟩
    case round =>
      obtain ⟨k, rfl, rfl, hk, hgk, HC⟩ := hrel
      by_cases hlt : k < n3
      · obtain ⟨x, hx⟩ : ∃ x, ys[k]? = some x := ⟨_, List.getElem?_eq_getElem (by have := HYL.out; have := HSL.out; omega)⟩
        obtain ⟨t, ht⟩ : ∃ t, s[k]? = some t := ⟨_, List.getElem?_eq_getElem (by have := HSL.out; omega)⟩
        have hlow := HLOW.out k t x ht hx
        obtain ⟨ca, hca⟩ : ∃ ca, l1[k]? = some ca := ⟨_, List.getElem?_eq_getElem (by have := HN1.out; omega)⟩
        obtain ⟨cb, hcb⟩ : ∃ cb, l1[k + 1]? = some cb := ⟨_, List.getElem?_eq_getElem (by have := HN1.out; omega)⟩
        obtain ⟨ca0, ca1, ca2, ca3, ca4, ca5⟩ := Col.ok_of (HCO.out ca (List.mem_of_getElem? hca))
        obtain ⟨cb0, cb1, cb2, cb3, cb4, cb5⟩ := Col.ok_of (HCO.out cb (List.mem_of_getElem? hcb))
        have hpair : ca.nz = true → cb.nz = true → ca.r + cb.l + 8 ≤ x := fun na nb => by
          obtain ⟨t2, ht2, h8⟩ := HPAIR.out k ca cb hca hcb na nb
          rw [ht] at ht2
          cases ht2
          omega
        obtain ⟨hp, P0, P1⟩ := HAT.out k (by omega)
        obtain ⟨hp1, Q0, Q1⟩ := HAT.out (k + 1) (by omega)
        have e5 : (ys.take (k + 1)).sum = (ys.take k).sum + x := by rw [List.take_add_one, hx, Option.toList_some, List.sum_append]; simp
        rw [e5, ← Int.add_assoc] at hp1 Q0 Q1
        generalize a.l + (ys.take k).sum = P at hp P0 P1 hp1 Q0 Q1
        have HBk := hide (HB9.out.trans (HC.out.mono HB9.out.size))
        obtain ⟨b5, o5, e3, -, c6⟩ := (Rds.on2 R49.out HC.out).int hp
        obtain ⟨b6, o6, e4, -, c7⟩ := (Rds.on2 R49.out HC.out).int hp1
        obtain ⟨b7, o7, e6, -, c8⟩ := (Rds.on2 RX.out HC.out).int hx
        obtain ⟨b8, o8, e7, -, d0, d1, d2⟩ := ((R1.out.below HBk.out).more HBk.out.size).col hca
        obtain ⟨b9, o9, e8, -, d3, d4, d5⟩ := ((R1.out.below HBk.out).more HBk.out.size).col hcb
        simp only [Option.some.injEq, Addr.mk.injEq, and_true] at e3 e4 e6 e7 e8
        obtain ⟨rfl, rfl⟩ := e3
        obtain ⟨rfl, rfl⟩ := e4
        obtain ⟨rfl, rfl⟩ := e6
        obtain ⟨rfl, rfl⟩ := e7
        obtain ⟨rfl, rfl⟩ := e8
        rw [Nat.zero_add] at c8
        have hnec := run_neq_col cb
        have i1 : IntKind.i64.wrap ((k : Int) + 1) = (k : Int) + 1 := IntWalk.i64_in _ (by omega)
        have i2 : ((k : Int) + 1).toNat = k + 1 := by omega
        have i3 : (0 : Int) ≤ (k : Int) + 1 := by omega
        have i4 : (k : Int) + 1 < (n1 : Int) := by omega
        have i5 : ((k : Int)).toNat = k := by omega
        have i6 : (0 : Int) ≤ (k : Int) := by omega
        have i7 : (k : Int) < (n1 : Int) := by omega
        have i8 : (k : Int) < (n3 : Int) := by omega
        have i9 : k < n1 := by omega
        have i10 : k + 1 < n1 := by omega
        have j1 : IntKind.i64.wrap (P + x - P) = x := by rw [show P + x - P = x by omega]; exact IntWalk.i64_in _ (by omega)
        have j2 : IntKind.i64.wrap (ca.t + ca.l) = ca.t + ca.l := IntWalk.i64_in _ (by omega)
        have j3 : IntKind.i64.wrap (ca.t + ca.l + ca.r) = ca.t + ca.l + ca.r := IntWalk.i64_in _ (by omega)
        have j4 : IntKind.i64.wrap (P + ca.r) = P + ca.r := IntWalk.i64_in _ (by omega)
        have j5 : IntKind.i64.wrap (P + ca.r + 8) = P + ca.r + 8 := IntWalk.i64_in _ (by omega)
        have j6 : IntKind.i64.wrap (P + x - cb.l) = P + x - cb.l := IntWalk.i64_in _ (by omega)
        have hcase : (¬ 0 < ca.t + ca.l + ca.r) ∨ (0 < ca.t + ca.l + ca.r ∧ cb.nz = false) ∨ (0 < ca.t + ca.l + ca.r ∧ cb.nz = true ∧ ¬ P + x - cb.l < P + ca.r + 8) := by
          by_cases h0 : 0 < ca.t + ca.l + ca.r
          · rcases hb : cb.nz with _ | _
            · exact .inr (.inl ⟨h0, rfl⟩)
            · refine .inr (.inr ⟨h0, rfl, ?_⟩)
              have hna : ca.nz = true := by
                rcases hna : ca.nz with _ | _
                · simp only [Col.nz, Bool.not_eq_false', Bool.and_eq_true, beq_iff_eq] at hna
                  omega
                · rfl
              have := hpair hna hb
              omega
          · exact .inl h0
        clear hx ht hca hcb hp hp1 e5 hpair hlow HBk
        have HS := hide (show wr.drew.cell? ⟨b4, o4 + k, none⟩ = some (.int .i64 P) ∧ wr.drew.cell? ⟨b4, o4 + (k + 1), none⟩ = some (.int .i64 (P + x)) ∧ wr.drew.cell? ⟨g, k, none⟩ = some (.int .i64 x) ∧ wr.drew.cell? ⟨b, off + k * 3, none⟩ = some (.int .i64 ca.l) ∧ wr.drew.cell? ⟨b, off + k * 3 + 1, none⟩ = some (.int .i64 ca.r) ∧ wr.drew.cell? ⟨b, off + k * 3 + 2, none⟩ = some (.int .i64 ca.t) ∧ wr.drew.cell? ⟨b, off + (k + 1) * 3, none⟩ = some (.int .i64 cb.l) ∧ wr.drew.cell? ⟨b, off + (k + 1) * 3 + 1, none⟩ = some (.int .i64 cb.r) ∧ wr.drew.cell? ⟨b, off + (k + 1) * 3 + 2, none⟩ = some (.int .i64 cb.t) from ⟨c6, c7, c8, d0, d1, d2, d3, d4, d5⟩)
        clear c6 c7 c8 d0 d1 d2 d3 d4 d5
        rcases hcase with h0 | ⟨h0, h1⟩ | ⟨h0, h1, h2⟩
        · as_aux_lemma =>
          go_upto_region 21 with fail
          refine wp_region_noPanic ?_
          refine wp_region_held_drew (S := fun w' => w'.cell? ⟨b4, o4 + k, none⟩ = some (.int .i64 P) ∧ w'.cell? ⟨b4, o4 + (k + 1), none⟩ = some (.int .i64 (P + x)) ∧ w'.cell? ⟨g, k, none⟩ = some (.int .i64 x) ∧ w'.cell? ⟨b, off + k * 3, none⟩ = some (.int .i64 ca.l) ∧ w'.cell? ⟨b, off + k * 3 + 1, none⟩ = some (.int .i64 ca.r) ∧ w'.cell? ⟨b, off + k * 3 + 2, none⟩ = some (.int .i64 ca.t) ∧ w'.cell? ⟨b, off + (k + 1) * 3, none⟩ = some (.int .i64 cb.l) ∧ w'.cell? ⟨b, off + (k + 1) * 3 + 1, none⟩ = some (.int .i64 cb.r) ∧ w'.cell? ⟨b, off + (k + 1) * 3 + 2, none⟩ = some (.int .i64 cb.t)) (by kernel_rfl) HS.out (fun hHeld => ?_)
          refine hand_yes (i := 0) (v := ?_) rfl (by as_aux_lemma => kernel_rfl) (by as_aux_lemma => kernel_rfl) (by as_aux_lemma => kernel_rfl) (fun _ _ _ h => h) (by rfl) ?_ (by assumption) ?_
          rotate_left
          · intro w hSw
            (try dsimp only at hSw)
            go_simp
            all_goals with_reducible rfl
          try simp only [Act.put, List.setIfInBounds_toArray, List.set_cons_zero, List.set_cons_succ]
          refine hand_yes (i := 1) (v := ?_) rfl (by as_aux_lemma => kernel_rfl) (by as_aux_lemma => kernel_rfl) (by as_aux_lemma => kernel_rfl) (fun _ _ _ h => h) (by rfl) ?_ (by assumption) ?_
          rotate_left
          · intro w hSw
            (try dsimp only at hSw)
            go_simp
            all_goals with_reducible rfl
          try simp only [Act.put, List.setIfInBounds_toArray, List.set_cons_zero, List.set_cons_succ]
          refine hand_yes (i := 2) (v := ?_) rfl (by as_aux_lemma => kernel_rfl) (by as_aux_lemma => kernel_rfl) (by as_aux_lemma => kernel_rfl) (fun _ _ _ h => h) (by rfl) ?_ (by assumption) ?_
          rotate_left
          · intro w hSw
            (try dsimp only at hSw)
            go_simp
            all_goals with_reducible rfl
          try simp only [Act.put, List.setIfInBounds_toArray, List.set_cons_zero, List.set_cons_succ]
          refine hand_yes (i := 3) (v := ?_) rfl (by as_aux_lemma => kernel_rfl) (by as_aux_lemma => kernel_rfl) (by as_aux_lemma => kernel_rfl) (fun _ _ _ h => h) (by rfl) ?_ (by assumption) ?_
          rotate_left
          · intro w hSw
            (try dsimp only at hSw)
            go_simp
            all_goals with_reducible rfl
          try simp only [Act.put, List.setIfInBounds_toArray, List.set_cons_zero, List.set_cons_succ]
          refine hand_yes (i := 4) (v := ?_) rfl (by as_aux_lemma => kernel_rfl) (by as_aux_lemma => kernel_rfl) (by as_aux_lemma => kernel_rfl) (fun _ _ _ h => h) (by rfl) ?_ (by assumption) ?_
          rotate_left
          · intro w hSw
            (try dsimp only at hSw)
            go_simp
            all_goals with_reducible rfl
          try simp only [Act.put, List.setIfInBounds_toArray, List.set_cons_zero, List.set_cons_succ]
          refine hand_yes (i := 5) (v := ?_) rfl (by as_aux_lemma => kernel_rfl) (by as_aux_lemma => kernel_rfl) (by as_aux_lemma => kernel_rfl) (fun _ _ _ h => h) (by rfl) ?_ (by assumption) ?_
          rotate_left
          · intro w hSw
            (try dsimp only at hSw)
            go_simp
            all_goals with_reducible rfl
          try simp only [Act.put, List.setIfInBounds_toArray, List.set_cons_zero, List.set_cons_succ]
          refine hand_yes (i := 6) (v := ?_) rfl (by as_aux_lemma => kernel_rfl) (by as_aux_lemma => kernel_rfl) (by as_aux_lemma => kernel_rfl) (fun _ _ _ h => h) (by rfl) ?_ (by assumption) ?_
          rotate_left
          · intro w hSw
            (try dsimp only at hSw)
            go_simp
            all_goals with_reducible rfl
          try simp only [Act.put, List.setIfInBounds_toArray, List.set_cons_zero, List.set_cons_succ]
          refine hand_yes (i := 7) (v := ?_) rfl (by as_aux_lemma => kernel_rfl) (by as_aux_lemma => kernel_rfl) (by as_aux_lemma => kernel_rfl) (fun _ _ _ h => h) (by rfl) ?_ (by assumption) ?_
          rotate_left
          · intro w hSw
            (try dsimp only at hSw)
            go_simp
            all_goals with_reducible rfl
          try simp only [Act.put, List.setIfInBounds_toArray, List.set_cons_zero, List.set_cons_succ]
          refine hand_yes (i := 8) (v := ?_) rfl (by as_aux_lemma => kernel_rfl) (by as_aux_lemma => kernel_rfl) (by as_aux_lemma => kernel_rfl) (fun _ _ _ h => h) (by rfl) ?_ (by assumption) ?_
          rotate_left
          · intro w hSw
            (try dsimp only at hSw)
            go_simp
            all_goals with_reducible rfl
          try simp only [Act.put, List.setIfInBounds_toArray, List.set_cons_zero, List.set_cons_succ]
          refine hand_yes (i := 9) (v := ?_) rfl (by as_aux_lemma => kernel_rfl) (by as_aux_lemma => kernel_rfl) (by as_aux_lemma => kernel_rfl) (fun _ _ _ h => h) (by rfl) ?_ (by assumption) ?_
          rotate_left
          · intro w hSw
            (try dsimp only at hSw)
            go_simp
            all_goals with_reducible rfl
          try simp only [Act.put, List.setIfInBounds_toArray, List.set_cons_zero, List.set_cons_succ]
          refine hand_yes (i := 10) (v := ?_) rfl (by as_aux_lemma => kernel_rfl) (by as_aux_lemma => kernel_rfl) (by as_aux_lemma => kernel_rfl) (fun _ _ _ h => h) (by rfl) ?_ (by assumption) ?_
          rotate_left
          · intro w hSw
            (try dsimp only at hSw)
            go_simp
            all_goals with_reducible rfl
          try simp only [Act.put, List.setIfInBounds_toArray, List.set_cons_zero, List.set_cons_succ]
          refine hand_yes (i := 11) (v := ?_) rfl (by as_aux_lemma => kernel_rfl) (by as_aux_lemma => kernel_rfl) (by as_aux_lemma => kernel_rfl) (fun _ _ _ h => h) (by rfl) ?_ (by assumption) ?_
          rotate_left
          · intro w hSw
            (try dsimp only at hSw)
            go_simp
            all_goals with_reducible rfl
          try simp only [Act.put, List.setIfInBounds_toArray, List.set_cons_zero, List.set_cons_succ]
          refine hand_yes (i := 12) (v := ?_) rfl (by as_aux_lemma => kernel_rfl) (by as_aux_lemma => kernel_rfl) (by as_aux_lemma => kernel_rfl) (fun _ _ _ h => h) (by rfl) ?_ (by assumption) ?_
          rotate_left
          · intro w hSw
            (try dsimp only at hSw)
            go_simp
            all_goals with_reducible rfl
          try simp only [Act.put, List.setIfInBounds_toArray, List.set_cons_zero, List.set_cons_succ]
          refine hand_yes (i := 13) (v := ?_) rfl (by as_aux_lemma => kernel_rfl) (by as_aux_lemma => kernel_rfl) (by as_aux_lemma => kernel_rfl) (fun _ _ _ h => h) (by rfl) ?_ (by assumption) ?_
          rotate_left
          · intro w hSw
            (try dsimp only at hSw)
            go_simp
            all_goals with_reducible rfl
          try simp only [Act.put, List.setIfInBounds_toArray, List.set_cons_zero, List.set_cons_succ]
          refine hand_yes (i := 14) (v := ?_) rfl (by as_aux_lemma => kernel_rfl) (by as_aux_lemma => kernel_rfl) (by as_aux_lemma => kernel_rfl) (fun _ _ _ h => h) (by rfl) ?_ (by assumption) ?_
          rotate_left
          · intro w hSw
            (try dsimp only at hSw)
            go_simp
            all_goals with_reducible rfl
          try simp only [Act.put, List.setIfInBounds_toArray, List.set_cons_zero, List.set_cons_succ]
          refine hand_yes (i := 15) (v := ?_) rfl (by as_aux_lemma => kernel_rfl) (by as_aux_lemma => kernel_rfl) (by as_aux_lemma => kernel_rfl) (fun _ _ _ h => h) (by rfl) ?_ (by assumption) ?_
          rotate_left
          · intro w hSw
            (try dsimp only at hSw)
            go_simp
            all_goals with_reducible rfl
          try simp only [Act.put, List.setIfInBounds_toArray, List.set_cons_zero, List.set_cons_succ]
          refine hand_yes (i := 16) (v := ?_) rfl (by as_aux_lemma => kernel_rfl) (by as_aux_lemma => kernel_rfl) (by as_aux_lemma => kernel_rfl) (fun _ _ _ h => h) (by rfl) ?_ (by assumption) ?_
          rotate_left
          · intro w hSw
            (try dsimp only at hSw)
            go_simp
            all_goals with_reducible rfl
          try simp only [Act.put, List.setIfInBounds_toArray, List.set_cons_zero, List.set_cons_succ]
          refine hand_yes (i := 17) (v := ?_) rfl (by as_aux_lemma => kernel_rfl) (by as_aux_lemma => kernel_rfl) (by as_aux_lemma => kernel_rfl) (fun _ _ _ h => h) (by rfl) ?_ (by assumption) ?_
          rotate_left
          · intro w hSw
            (try dsimp only at hSw)
            go_simp
            all_goals with_reducible rfl
          try simp only [Act.put, List.setIfInBounds_toArray, List.set_cons_zero, List.set_cons_succ]
          refine hand_yes (i := 18) (v := ?_) rfl (by as_aux_lemma => kernel_rfl) (by as_aux_lemma => kernel_rfl) (by as_aux_lemma => kernel_rfl) (fun _ _ _ h => h) (by rfl) ?_ (by assumption) ?_
          rotate_left
          · intro w hSw
            (try dsimp only at hSw)
            go_simp
            all_goals with_reducible rfl
          try simp only [Act.put, List.setIfInBounds_toArray, List.set_cons_zero, List.set_cons_succ]
          refine hand_yes (i := 19) (v := ?_) rfl (by as_aux_lemma => kernel_rfl) (by as_aux_lemma => kernel_rfl) (by as_aux_lemma => kernel_rfl) (fun _ _ _ h => h) (by rfl) ?_ (by assumption) ?_
          rotate_left
          · intro w hSw
            (try dsimp only at hSw)
            go_simp
            all_goals with_reducible rfl
          try simp only [Act.put, List.setIfInBounds_toArray, List.set_cons_zero, List.set_cons_succ]
          refine hand_yes (i := 20) (v := ?_) rfl (by as_aux_lemma => kernel_rfl) (by as_aux_lemma => kernel_rfl) (by as_aux_lemma => kernel_rfl) (fun _ _ _ h => h) (by rfl) ?_ (by assumption) ?_
          rotate_left
          · intro w hSw
            (try dsimp only at hSw)
            go_simp
            all_goals with_reducible rfl
          try simp only [Act.put, List.setIfInBounds_toArray, List.set_cons_zero, List.set_cons_succ]
          refine hand_yes (i := 21) (v := ?_) rfl (by as_aux_lemma => kernel_rfl) (by as_aux_lemma => kernel_rfl) (by as_aux_lemma => kernel_rfl) (fun _ _ _ h => h) (by rfl) ?_ (by assumption) ?_
          rotate_left
          · intro w hSw
            (try dsimp only at hSw)
            go_simp
            all_goals with_reducible rfl
          try simp only [Act.put, List.setIfInBounds_toArray, List.set_cons_zero, List.set_cons_succ]
          refine hand_yes (i := 22) (v := ?_) rfl (by as_aux_lemma => kernel_rfl) (by as_aux_lemma => kernel_rfl) (by as_aux_lemma => kernel_rfl) (fun _ _ _ h => h) (by rfl) ?_ (by assumption) ?_
          rotate_left
          · intro w hSw
            (try dsimp only at hSw)
            go_simp
            all_goals with_reducible rfl
          try simp only [Act.put, List.setIfInBounds_toArray, List.set_cons_zero, List.set_cons_succ]
          refine hand_yes (i := 23) (v := ?_) rfl (by as_aux_lemma => kernel_rfl) (by as_aux_lemma => kernel_rfl) (by as_aux_lemma => kernel_rfl) (fun _ _ _ h => h) (by rfl) ?_ (by assumption) ?_
          rotate_left
          · intro w hSw
            (try dsimp only at hSw)
            go_simp
            all_goals with_reducible rfl
          try simp only [Act.put, List.setIfInBounds_toArray, List.set_cons_zero, List.set_cons_succ]
          refine hand_yes (i := 24) (v := ?_) rfl (by as_aux_lemma => kernel_rfl) (by as_aux_lemma => kernel_rfl) (by as_aux_lemma => kernel_rfl) (fun _ _ _ h => h) (by rfl) ?_ (by assumption) ?_
          rotate_left
          · intro w hSw
            (try dsimp only at hSw)
            go_simp
            all_goals with_reducible rfl
          try simp only [Act.put, List.setIfInBounds_toArray, List.set_cons_zero, List.set_cons_succ]
          refine hand_yes (i := 25) (v := ?_) rfl (by as_aux_lemma => kernel_rfl) (by as_aux_lemma => kernel_rfl) (by as_aux_lemma => kernel_rfl) (fun _ _ _ h => h) (by rfl) ?_ (by assumption) ?_
          rotate_left
          · intro w hSw
            (try dsimp only at hSw)
            go_simp
            all_goals with_reducible rfl
          try simp only [Act.put, List.setIfInBounds_toArray, List.set_cons_zero, List.set_cons_succ]
          refine hand_yes (i := 26) (v := ?_) rfl (by as_aux_lemma => kernel_rfl) (by as_aux_lemma => kernel_rfl) (by as_aux_lemma => kernel_rfl) (fun _ _ _ h => h) (by rfl) ?_ (by assumption) ?_
          rotate_left
          · intro w hSw
            (try dsimp only at hSw)
            go_simp
            all_goals with_reducible rfl
          try simp only [Act.put, List.setIfInBounds_toArray, List.set_cons_zero, List.set_cons_succ]
          refine hand_yes (i := 27) (v := ?_) rfl (by as_aux_lemma => kernel_rfl) (by as_aux_lemma => kernel_rfl) (by as_aux_lemma => kernel_rfl) (fun _ _ _ h => h) (by rfl) ?_ (by assumption) ?_
          rotate_left
          · intro w hSw
            (try dsimp only at hSw)
            go_simp
            all_goals with_reducible rfl
          try simp only [Act.put, List.setIfInBounds_toArray, List.set_cons_zero, List.set_cons_succ]
          refine hand_yes (i := 28) (v := ?_) rfl (by as_aux_lemma => kernel_rfl) (by as_aux_lemma => kernel_rfl) (by as_aux_lemma => kernel_rfl) (fun _ _ _ h => h) (by rfl) ?_ (by assumption) ?_
          rotate_left
          · intro w hSw
            (try dsimp only at hSw)
            go_simp
            all_goals with_reducible rfl
          try simp only [Act.put, List.setIfInBounds_toArray, List.set_cons_zero, List.set_cons_succ]
          refine hand_yes (i := 29) (v := ?_) rfl (by as_aux_lemma => kernel_rfl) (by as_aux_lemma => kernel_rfl) (by as_aux_lemma => kernel_rfl) (fun _ _ _ h => h) (by rfl) ?_ (by assumption) ?_
          rotate_left
          · intro w hSw
            (try dsimp only at hSw)
            go_simp
            all_goals with_reducible rfl
          try simp only [Act.put, List.setIfInBounds_toArray, List.set_cons_zero, List.set_cons_succ]
          refine hand_yes (i := 30) (v := ?_) rfl (by as_aux_lemma => kernel_rfl) (by as_aux_lemma => kernel_rfl) (by as_aux_lemma => kernel_rfl) (fun _ _ _ h => h) (by rfl) ?_ (by assumption) ?_
          rotate_left
          · intro w hSw
            (try dsimp only at hSw)
            go_simp
            all_goals with_reducible rfl
          try simp only [Act.put, List.setIfInBounds_toArray, List.set_cons_zero, List.set_cons_succ]
          refine hand_yes (i := 31) (v := ?_) rfl (by as_aux_lemma => kernel_rfl) (by as_aux_lemma => kernel_rfl) (by as_aux_lemma => kernel_rfl) (fun _ _ _ h => h) (by rfl) ?_ (by assumption) ?_
          rotate_left
          · intro w hSw
            (try dsimp only at hSw)
            go_simp
            all_goals with_reducible rfl
          try simp only [Act.put, List.setIfInBounds_toArray, List.set_cons_zero, List.set_cons_succ]
          refine hand_yes (i := 32) (v := ?_) rfl (by as_aux_lemma => kernel_rfl) (by as_aux_lemma => kernel_rfl) (by as_aux_lemma => kernel_rfl) (fun _ _ _ h => h) (by rfl) ?_ (by assumption) ?_
          rotate_left
          · intro w hSw
            (try dsimp only at hSw)
            go_simp
            all_goals with_reducible rfl
          try simp only [Act.put, List.setIfInBounds_toArray, List.set_cons_zero, List.set_cons_succ]
          refine hand_yes (i := 33) (v := ?_) rfl (by as_aux_lemma => kernel_rfl) (by as_aux_lemma => kernel_rfl) (by as_aux_lemma => kernel_rfl) (fun _ _ _ h => h) (by rfl) ?_ (by assumption) ?_
          rotate_left
          · intro w hSw
            (try dsimp only at hSw)
            go_simp
            all_goals with_reducible rfl
          try simp only [Act.put, List.setIfInBounds_toArray, List.set_cons_zero, List.set_cons_succ]
          refine hand_yes (i := 34) (v := ?_) rfl (by as_aux_lemma => kernel_rfl) (by as_aux_lemma => kernel_rfl) (by as_aux_lemma => kernel_rfl) (fun _ _ _ h => h) (by rfl) ?_ (by assumption) ?_
          rotate_left
          · intro w hSw
            (try dsimp only at hSw)
            go_simp
            all_goals with_reducible rfl
          try simp only [Act.put, List.setIfInBounds_toArray, List.set_cons_zero, List.set_cons_succ]
          refine hand_no (i := 35) rfl (by as_aux_lemma => kernel_rfl) (by as_aux_lemma => kernel_rfl) (by as_aux_lemma => kernel_rfl) (fun _ _ _ h => h) (by rfl) (by assumption) ?_
          try simp only [Act.put, List.setIfInBounds_toArray, List.set_cons_zero, List.set_cons_succ]
          refine hand_no (i := 36) rfl (by as_aux_lemma => kernel_rfl) (by as_aux_lemma => kernel_rfl) (by as_aux_lemma => kernel_rfl) (fun _ _ _ h => h) (by rfl) (by assumption) ?_
          try simp only [Act.put, List.setIfInBounds_toArray, List.set_cons_zero, List.set_cons_succ]
          refine hand_no (i := 37) rfl (by as_aux_lemma => kernel_rfl) (by as_aux_lemma => kernel_rfl) (by as_aux_lemma => kernel_rfl) (fun _ _ _ h => h) (by rfl) (by assumption) ?_
          try simp only [Act.put, List.setIfInBounds_toArray, List.set_cons_zero, List.set_cons_succ]
          refine hand_no (i := 38) rfl (by as_aux_lemma => kernel_rfl) (by as_aux_lemma => kernel_rfl) (by as_aux_lemma => kernel_rfl) (fun _ _ _ h => h) (by rfl) (by assumption) ?_
          try simp only [Act.put, List.setIfInBounds_toArray, List.set_cons_zero, List.set_cons_succ]
          refine hand_no (i := 39) rfl (by as_aux_lemma => kernel_rfl) (by as_aux_lemma => kernel_rfl) (by as_aux_lemma => kernel_rfl) (fun _ _ _ h => h) (by rfl) (by assumption) ?_
          try simp only [Act.put, List.setIfInBounds_toArray, List.set_cons_zero, List.set_cons_succ]
          refine hand_no (i := 40) rfl (by as_aux_lemma => kernel_rfl) (by as_aux_lemma => kernel_rfl) (by as_aux_lemma => kernel_rfl) (fun _ _ _ h => h) (by rfl) (by assumption) ?_
          try simp only [Act.put, List.setIfInBounds_toArray, List.set_cons_zero, List.set_cons_succ]
          refine hand_no (i := 41) rfl (by as_aux_lemma => kernel_rfl) (by as_aux_lemma => kernel_rfl) (by as_aux_lemma => kernel_rfl) (fun _ _ _ h => h) (by rfl) (by assumption) ?_
          try simp only [Act.put, List.setIfInBounds_toArray, List.set_cons_zero, List.set_cons_succ]
          refine hand_yes (i := 42) (v := ?_) rfl (by as_aux_lemma => kernel_rfl) (by as_aux_lemma => kernel_rfl) (by as_aux_lemma => kernel_rfl) (fun _ _ _ h => h) (by rfl) ?_ (by assumption) ?_
          rotate_left
          · intro w hSw
            (try dsimp only at hSw)
            go_simp
            all_goals with_reducible rfl
          try simp only [Act.put, List.setIfInBounds_toArray, List.set_cons_zero, List.set_cons_succ]
          refine hand_yes (i := 43) (v := ?_) rfl (by as_aux_lemma => kernel_rfl) (by as_aux_lemma => kernel_rfl) (by as_aux_lemma => kernel_rfl) (fun _ _ _ h => h) (by rfl) ?_ (by assumption) ?_
          rotate_left
          · intro w hSw
            (try dsimp only at hSw)
            go_simp
            all_goals with_reducible rfl
          try simp only [Act.put, List.setIfInBounds_toArray, List.set_cons_zero, List.set_cons_succ]
          refine hand_no (i := 44) rfl (by as_aux_lemma => kernel_rfl) (by as_aux_lemma => kernel_rfl) (by as_aux_lemma => kernel_rfl) (fun _ _ _ h => h) (by rfl) (by assumption) ?_
          try simp only [Act.put, List.setIfInBounds_toArray, List.set_cons_zero, List.set_cons_succ]
          refine hand_no (i := 45) rfl (by as_aux_lemma => kernel_rfl) (by as_aux_lemma => kernel_rfl) (by as_aux_lemma => kernel_rfl) (fun _ _ _ h => h) (by rfl) (by assumption) ?_
          try simp only [Act.put, List.setIfInBounds_toArray, List.set_cons_zero, List.set_cons_succ]
          refine hand_no (i := 46) rfl (by as_aux_lemma => kernel_rfl) (by as_aux_lemma => kernel_rfl) (by as_aux_lemma => kernel_rfl) (fun _ _ _ h => h) (by rfl) (by assumption) ?_
          try simp only [Act.put, List.setIfInBounds_toArray, List.set_cons_zero, List.set_cons_succ]
          refine hand_no (i := 47) rfl (by as_aux_lemma => kernel_rfl) (by as_aux_lemma => kernel_rfl) (by as_aux_lemma => kernel_rfl) (fun _ _ _ h => h) (by rfl) (by assumption) ?_
          try simp only [Act.put, List.setIfInBounds_toArray, List.set_cons_zero, List.set_cons_succ]
          refine hand_no (i := 48) rfl (by as_aux_lemma => kernel_rfl) (by as_aux_lemma => kernel_rfl) (by as_aux_lemma => kernel_rfl) (fun _ _ _ h => h) (by rfl) (by assumption) ?_
          try simp only [Act.put, List.setIfInBounds_toArray, List.set_cons_zero, List.set_cons_succ]
          refine hand_no (i := 49) rfl (by as_aux_lemma => kernel_rfl) (by as_aux_lemma => kernel_rfl) (by as_aux_lemma => kernel_rfl) (fun _ _ _ h => h) (by rfl) (by assumption) ?_
          try simp only [Act.put, List.setIfInBounds_toArray, List.set_cons_zero, List.set_cons_succ]
          refine hand_no (i := 50) rfl (by as_aux_lemma => kernel_rfl) (by as_aux_lemma => kernel_rfl) (by as_aux_lemma => kernel_rfl) (fun _ _ _ h => h) (by rfl) (by assumption) ?_
          try simp only [Act.put, List.setIfInBounds_toArray, List.set_cons_zero, List.set_cons_succ]
          refine hand_no (i := 51) rfl (by as_aux_lemma => kernel_rfl) (by as_aux_lemma => kernel_rfl) (by as_aux_lemma => kernel_rfl) (fun _ _ _ h => h) (by rfl) (by assumption) ?_
          try simp only [Act.put, List.setIfInBounds_toArray, List.set_cons_zero, List.set_cons_succ]
          refine hand_no (i := 52) rfl (by as_aux_lemma => kernel_rfl) (by as_aux_lemma => kernel_rfl) (by as_aux_lemma => kernel_rfl) (fun _ _ _ h => h) (by rfl) (by assumption) ?_
          try simp only [Act.put, List.setIfInBounds_toArray, List.set_cons_zero, List.set_cons_succ]
          refine hand_no (i := 53) rfl (by as_aux_lemma => kernel_rfl) (by as_aux_lemma => kernel_rfl) (by as_aux_lemma => kernel_rfl) (fun _ _ _ h => h) (by rfl) (by assumption) ?_
          try simp only [Act.put, List.setIfInBounds_toArray, List.set_cons_zero, List.set_cons_succ]
          refine hand_no (i := 54) rfl (by as_aux_lemma => kernel_rfl) (by as_aux_lemma => kernel_rfl) (by as_aux_lemma => kernel_rfl) (fun _ _ _ h => h) (by rfl) (by assumption) ?_
          try simp only [Act.put, List.setIfInBounds_toArray, List.set_cons_zero, List.set_cons_succ]
          refine hand_no (i := 55) rfl (by as_aux_lemma => kernel_rfl) (by as_aux_lemma => kernel_rfl) (by as_aux_lemma => kernel_rfl) (fun _ _ _ h => h) (by rfl) (by assumption) ?_
          try simp only [Act.put, List.setIfInBounds_toArray, List.set_cons_zero, List.set_cons_succ]
          refine hand_no (i := 56) rfl (by as_aux_lemma => kernel_rfl) (by as_aux_lemma => kernel_rfl) (by as_aux_lemma => kernel_rfl) (fun _ _ _ h => h) (by rfl) (by assumption) ?_
          try simp only [Act.put, List.setIfInBounds_toArray, List.set_cons_zero, List.set_cons_succ]
          refine hand_no (i := 57) rfl (by as_aux_lemma => kernel_rfl) (by as_aux_lemma => kernel_rfl) (by as_aux_lemma => kernel_rfl) (fun _ _ _ h => h) (by rfl) (by assumption) ?_
          try simp only [Act.put, List.setIfInBounds_toArray, List.set_cons_zero, List.set_cons_succ]
          refine hand_no (i := 58) rfl (by as_aux_lemma => kernel_rfl) (by as_aux_lemma => kernel_rfl) (by as_aux_lemma => kernel_rfl) (fun _ _ _ h => h) (by rfl) (by assumption) ?_
          try simp only [Act.put, List.setIfInBounds_toArray, List.set_cons_zero, List.set_cons_succ]
          refine hand_no (i := 59) rfl (by as_aux_lemma => kernel_rfl) (by as_aux_lemma => kernel_rfl) (by as_aux_lemma => kernel_rfl) (fun _ _ _ h => h) (by rfl) (by assumption) ?_
          try simp only [Act.put, List.setIfInBounds_toArray, List.set_cons_zero, List.set_cons_succ]
          refine hand_no (i := 60) rfl (by as_aux_lemma => kernel_rfl) (by as_aux_lemma => kernel_rfl) (by as_aux_lemma => kernel_rfl) (fun _ _ _ h => h) (by rfl) (by assumption) ?_
          try simp only [Act.put, List.setIfInBounds_toArray, List.set_cons_zero, List.set_cons_succ]
          refine hand_no (i := 61) rfl (by as_aux_lemma => kernel_rfl) (by as_aux_lemma => kernel_rfl) (by as_aux_lemma => kernel_rfl) (fun _ _ _ h => h) (by rfl) (by assumption) ?_
          try simp only [Act.put, List.setIfInBounds_toArray, List.set_cons_zero, List.set_cons_succ]
          refine hand_no (i := 62) rfl (by as_aux_lemma => kernel_rfl) (by as_aux_lemma => kernel_rfl) (by as_aux_lemma => kernel_rfl) (fun _ _ _ h => h) (by rfl) (by assumption) ?_
          try simp only [Act.put, List.setIfInBounds_toArray, List.set_cons_zero, List.set_cons_succ]
          refine hand_no (i := 63) rfl (by as_aux_lemma => kernel_rfl) (by as_aux_lemma => kernel_rfl) (by as_aux_lemma => kernel_rfl) (fun _ _ _ h => h) (by rfl) (by assumption) ?_
          try simp only [Act.put, List.setIfInBounds_toArray, List.set_cons_zero, List.set_cons_succ]
          refine hand_no (i := 64) rfl (by as_aux_lemma => kernel_rfl) (by as_aux_lemma => kernel_rfl) (by as_aux_lemma => kernel_rfl) (fun _ _ _ h => h) (by rfl) (by assumption) ?_
          try simp only [Act.put, List.setIfInBounds_toArray, List.set_cons_zero, List.set_cons_succ]
          refine hand_no (i := 65) rfl (by as_aux_lemma => kernel_rfl) (by as_aux_lemma => kernel_rfl) (by as_aux_lemma => kernel_rfl) (fun _ _ _ h => h) (by rfl) (by assumption) ?_
          try simp only [Act.put, List.setIfInBounds_toArray, List.set_cons_zero, List.set_cons_succ]
          refine hand_no (i := 66) rfl (by as_aux_lemma => kernel_rfl) (by as_aux_lemma => kernel_rfl) (by as_aux_lemma => kernel_rfl) (fun _ _ _ h => h) (by rfl) (by assumption) ?_
          try simp only [Act.put, List.setIfInBounds_toArray, List.set_cons_zero, List.set_cons_succ]
          refine hand_no (i := 67) rfl (by as_aux_lemma => kernel_rfl) (by as_aux_lemma => kernel_rfl) (by as_aux_lemma => kernel_rfl) (fun _ _ _ h => h) (by rfl) (by assumption) ?_
          try simp only [Act.put, List.setIfInBounds_toArray, List.set_cons_zero, List.set_cons_succ]
          refine hand_yes (i := 68) (v := ?_) rfl (by as_aux_lemma => kernel_rfl) (by as_aux_lemma => kernel_rfl) (by as_aux_lemma => kernel_rfl) (fun _ _ _ h => h) (by rfl) ?_ (by assumption) ?_
          rotate_left
          · intro w hSw
            (try dsimp only at hSw)
            go_simp
            all_goals with_reducible rfl
          try simp only [Act.put, List.setIfInBounds_toArray, List.set_cons_zero, List.set_cons_succ]
          refine hand_yes (i := 69) (v := ?_) rfl (by as_aux_lemma => kernel_rfl) (by as_aux_lemma => kernel_rfl) (by as_aux_lemma => kernel_rfl) (fun _ _ _ h => h) (by rfl) ?_ (by assumption) ?_
          rotate_left
          · intro w hSw
            (try dsimp only at hSw)
            go_simp
            all_goals with_reducible rfl
          try simp only [Act.put, List.setIfInBounds_toArray, List.set_cons_zero, List.set_cons_succ]
          refine wpAnyH_done (by kernel_rfl) ?_ _
          refine NoPanic.normal ?_
          go_wp2_with fail
          go_roundg (gk - 1)
          case measure => omega
          case rel => exact ⟨k + 1, by go_num, rfl, by omega, by omega, hide (Below.drew HC.out)⟩
        · as_aux_lemma =>
          go_upto_region 21 with fail
          refine wp_region_noPanic ?_
          refine wp_region_held_drew (S := fun w' => w'.cell? ⟨b4, o4 + k, none⟩ = some (.int .i64 P) ∧ w'.cell? ⟨b4, o4 + (k + 1), none⟩ = some (.int .i64 (P + x)) ∧ w'.cell? ⟨g, k, none⟩ = some (.int .i64 x) ∧ w'.cell? ⟨b, off + k * 3, none⟩ = some (.int .i64 ca.l) ∧ w'.cell? ⟨b, off + k * 3 + 1, none⟩ = some (.int .i64 ca.r) ∧ w'.cell? ⟨b, off + k * 3 + 2, none⟩ = some (.int .i64 ca.t) ∧ w'.cell? ⟨b, off + (k + 1) * 3, none⟩ = some (.int .i64 cb.l) ∧ w'.cell? ⟨b, off + (k + 1) * 3 + 1, none⟩ = some (.int .i64 cb.r) ∧ w'.cell? ⟨b, off + (k + 1) * 3 + 2, none⟩ = some (.int .i64 cb.t)) (by kernel_rfl) HS.out (fun hHeld => ?_)
          refine hand_yes (i := 0) (v := ?_) rfl (by as_aux_lemma => kernel_rfl) (by as_aux_lemma => kernel_rfl) (by as_aux_lemma => kernel_rfl) (fun _ _ _ h => h) (by rfl) ?_ (by assumption) ?_
          rotate_left
          · intro w hSw
            (try dsimp only at hSw)
            go_simp
            all_goals with_reducible rfl
          try simp only [Act.put, List.setIfInBounds_toArray, List.set_cons_zero, List.set_cons_succ]
          refine hand_yes (i := 1) (v := ?_) rfl (by as_aux_lemma => kernel_rfl) (by as_aux_lemma => kernel_rfl) (by as_aux_lemma => kernel_rfl) (fun _ _ _ h => h) (by rfl) ?_ (by assumption) ?_
          rotate_left
          · intro w hSw
            (try dsimp only at hSw)
            go_simp
            all_goals with_reducible rfl
          try simp only [Act.put, List.setIfInBounds_toArray, List.set_cons_zero, List.set_cons_succ]
          refine hand_yes (i := 2) (v := ?_) rfl (by as_aux_lemma => kernel_rfl) (by as_aux_lemma => kernel_rfl) (by as_aux_lemma => kernel_rfl) (fun _ _ _ h => h) (by rfl) ?_ (by assumption) ?_
          rotate_left
          · intro w hSw
            (try dsimp only at hSw)
            go_simp
            all_goals with_reducible rfl
          try simp only [Act.put, List.setIfInBounds_toArray, List.set_cons_zero, List.set_cons_succ]
          refine hand_yes (i := 3) (v := ?_) rfl (by as_aux_lemma => kernel_rfl) (by as_aux_lemma => kernel_rfl) (by as_aux_lemma => kernel_rfl) (fun _ _ _ h => h) (by rfl) ?_ (by assumption) ?_
          rotate_left
          · intro w hSw
            (try dsimp only at hSw)
            go_simp
            all_goals with_reducible rfl
          try simp only [Act.put, List.setIfInBounds_toArray, List.set_cons_zero, List.set_cons_succ]
          refine hand_yes (i := 4) (v := ?_) rfl (by as_aux_lemma => kernel_rfl) (by as_aux_lemma => kernel_rfl) (by as_aux_lemma => kernel_rfl) (fun _ _ _ h => h) (by rfl) ?_ (by assumption) ?_
          rotate_left
          · intro w hSw
            (try dsimp only at hSw)
            go_simp
            all_goals with_reducible rfl
          try simp only [Act.put, List.setIfInBounds_toArray, List.set_cons_zero, List.set_cons_succ]
          refine hand_yes (i := 5) (v := ?_) rfl (by as_aux_lemma => kernel_rfl) (by as_aux_lemma => kernel_rfl) (by as_aux_lemma => kernel_rfl) (fun _ _ _ h => h) (by rfl) ?_ (by assumption) ?_
          rotate_left
          · intro w hSw
            (try dsimp only at hSw)
            go_simp
            all_goals with_reducible rfl
          try simp only [Act.put, List.setIfInBounds_toArray, List.set_cons_zero, List.set_cons_succ]
          refine hand_yes (i := 6) (v := ?_) rfl (by as_aux_lemma => kernel_rfl) (by as_aux_lemma => kernel_rfl) (by as_aux_lemma => kernel_rfl) (fun _ _ _ h => h) (by rfl) ?_ (by assumption) ?_
          rotate_left
          · intro w hSw
            (try dsimp only at hSw)
            go_simp
            all_goals with_reducible rfl
          try simp only [Act.put, List.setIfInBounds_toArray, List.set_cons_zero, List.set_cons_succ]
          refine hand_yes (i := 7) (v := ?_) rfl (by as_aux_lemma => kernel_rfl) (by as_aux_lemma => kernel_rfl) (by as_aux_lemma => kernel_rfl) (fun _ _ _ h => h) (by rfl) ?_ (by assumption) ?_
          rotate_left
          · intro w hSw
            (try dsimp only at hSw)
            go_simp
            all_goals with_reducible rfl
          try simp only [Act.put, List.setIfInBounds_toArray, List.set_cons_zero, List.set_cons_succ]
          refine hand_yes (i := 8) (v := ?_) rfl (by as_aux_lemma => kernel_rfl) (by as_aux_lemma => kernel_rfl) (by as_aux_lemma => kernel_rfl) (fun _ _ _ h => h) (by rfl) ?_ (by assumption) ?_
          rotate_left
          · intro w hSw
            (try dsimp only at hSw)
            go_simp
            all_goals with_reducible rfl
          try simp only [Act.put, List.setIfInBounds_toArray, List.set_cons_zero, List.set_cons_succ]
          refine hand_yes (i := 9) (v := ?_) rfl (by as_aux_lemma => kernel_rfl) (by as_aux_lemma => kernel_rfl) (by as_aux_lemma => kernel_rfl) (fun _ _ _ h => h) (by rfl) ?_ (by assumption) ?_
          rotate_left
          · intro w hSw
            (try dsimp only at hSw)
            go_simp
            all_goals with_reducible rfl
          try simp only [Act.put, List.setIfInBounds_toArray, List.set_cons_zero, List.set_cons_succ]
          refine hand_yes (i := 10) (v := ?_) rfl (by as_aux_lemma => kernel_rfl) (by as_aux_lemma => kernel_rfl) (by as_aux_lemma => kernel_rfl) (fun _ _ _ h => h) (by rfl) ?_ (by assumption) ?_
          rotate_left
          · intro w hSw
            (try dsimp only at hSw)
            go_simp
            all_goals with_reducible rfl
          try simp only [Act.put, List.setIfInBounds_toArray, List.set_cons_zero, List.set_cons_succ]
          refine hand_yes (i := 11) (v := ?_) rfl (by as_aux_lemma => kernel_rfl) (by as_aux_lemma => kernel_rfl) (by as_aux_lemma => kernel_rfl) (fun _ _ _ h => h) (by rfl) ?_ (by assumption) ?_
          rotate_left
          · intro w hSw
            (try dsimp only at hSw)
            go_simp
            all_goals with_reducible rfl
          try simp only [Act.put, List.setIfInBounds_toArray, List.set_cons_zero, List.set_cons_succ]
          refine hand_yes (i := 12) (v := ?_) rfl (by as_aux_lemma => kernel_rfl) (by as_aux_lemma => kernel_rfl) (by as_aux_lemma => kernel_rfl) (fun _ _ _ h => h) (by rfl) ?_ (by assumption) ?_
          rotate_left
          · intro w hSw
            (try dsimp only at hSw)
            go_simp
            all_goals with_reducible rfl
          try simp only [Act.put, List.setIfInBounds_toArray, List.set_cons_zero, List.set_cons_succ]
          refine hand_yes (i := 13) (v := ?_) rfl (by as_aux_lemma => kernel_rfl) (by as_aux_lemma => kernel_rfl) (by as_aux_lemma => kernel_rfl) (fun _ _ _ h => h) (by rfl) ?_ (by assumption) ?_
          rotate_left
          · intro w hSw
            (try dsimp only at hSw)
            go_simp
            all_goals with_reducible rfl
          try simp only [Act.put, List.setIfInBounds_toArray, List.set_cons_zero, List.set_cons_succ]
          refine hand_yes (i := 14) (v := ?_) rfl (by as_aux_lemma => kernel_rfl) (by as_aux_lemma => kernel_rfl) (by as_aux_lemma => kernel_rfl) (fun _ _ _ h => h) (by rfl) ?_ (by assumption) ?_
          rotate_left
          · intro w hSw
            (try dsimp only at hSw)
            go_simp
            all_goals with_reducible rfl
          try simp only [Act.put, List.setIfInBounds_toArray, List.set_cons_zero, List.set_cons_succ]
          refine hand_yes (i := 15) (v := ?_) rfl (by as_aux_lemma => kernel_rfl) (by as_aux_lemma => kernel_rfl) (by as_aux_lemma => kernel_rfl) (fun _ _ _ h => h) (by rfl) ?_ (by assumption) ?_
          rotate_left
          · intro w hSw
            (try dsimp only at hSw)
            go_simp
            all_goals with_reducible rfl
          try simp only [Act.put, List.setIfInBounds_toArray, List.set_cons_zero, List.set_cons_succ]
          refine hand_yes (i := 16) (v := ?_) rfl (by as_aux_lemma => kernel_rfl) (by as_aux_lemma => kernel_rfl) (by as_aux_lemma => kernel_rfl) (fun _ _ _ h => h) (by rfl) ?_ (by assumption) ?_
          rotate_left
          · intro w hSw
            (try dsimp only at hSw)
            go_simp
            all_goals with_reducible rfl
          try simp only [Act.put, List.setIfInBounds_toArray, List.set_cons_zero, List.set_cons_succ]
          refine hand_yes (i := 17) (v := ?_) rfl (by as_aux_lemma => kernel_rfl) (by as_aux_lemma => kernel_rfl) (by as_aux_lemma => kernel_rfl) (fun _ _ _ h => h) (by rfl) ?_ (by assumption) ?_
          rotate_left
          · intro w hSw
            (try dsimp only at hSw)
            go_simp
            all_goals with_reducible rfl
          try simp only [Act.put, List.setIfInBounds_toArray, List.set_cons_zero, List.set_cons_succ]
          refine hand_yes (i := 18) (v := ?_) rfl (by as_aux_lemma => kernel_rfl) (by as_aux_lemma => kernel_rfl) (by as_aux_lemma => kernel_rfl) (fun _ _ _ h => h) (by rfl) ?_ (by assumption) ?_
          rotate_left
          · intro w hSw
            (try dsimp only at hSw)
            go_simp
            all_goals with_reducible rfl
          try simp only [Act.put, List.setIfInBounds_toArray, List.set_cons_zero, List.set_cons_succ]
          refine hand_yes (i := 19) (v := ?_) rfl (by as_aux_lemma => kernel_rfl) (by as_aux_lemma => kernel_rfl) (by as_aux_lemma => kernel_rfl) (fun _ _ _ h => h) (by rfl) ?_ (by assumption) ?_
          rotate_left
          · intro w hSw
            (try dsimp only at hSw)
            go_simp
            all_goals with_reducible rfl
          try simp only [Act.put, List.setIfInBounds_toArray, List.set_cons_zero, List.set_cons_succ]
          refine hand_yes (i := 20) (v := ?_) rfl (by as_aux_lemma => kernel_rfl) (by as_aux_lemma => kernel_rfl) (by as_aux_lemma => kernel_rfl) (fun _ _ _ h => h) (by rfl) ?_ (by assumption) ?_
          rotate_left
          · intro w hSw
            (try dsimp only at hSw)
            go_simp
            all_goals with_reducible rfl
          try simp only [Act.put, List.setIfInBounds_toArray, List.set_cons_zero, List.set_cons_succ]
          refine hand_yes (i := 21) (v := ?_) rfl (by as_aux_lemma => kernel_rfl) (by as_aux_lemma => kernel_rfl) (by as_aux_lemma => kernel_rfl) (fun _ _ _ h => h) (by rfl) ?_ (by assumption) ?_
          rotate_left
          · intro w hSw
            (try dsimp only at hSw)
            go_simp
            all_goals with_reducible rfl
          try simp only [Act.put, List.setIfInBounds_toArray, List.set_cons_zero, List.set_cons_succ]
          refine hand_yes (i := 22) (v := ?_) rfl (by as_aux_lemma => kernel_rfl) (by as_aux_lemma => kernel_rfl) (by as_aux_lemma => kernel_rfl) (fun _ _ _ h => h) (by rfl) ?_ (by assumption) ?_
          rotate_left
          · intro w hSw
            (try dsimp only at hSw)
            go_simp
            all_goals with_reducible rfl
          try simp only [Act.put, List.setIfInBounds_toArray, List.set_cons_zero, List.set_cons_succ]
          refine hand_yes (i := 23) (v := ?_) rfl (by as_aux_lemma => kernel_rfl) (by as_aux_lemma => kernel_rfl) (by as_aux_lemma => kernel_rfl) (fun _ _ _ h => h) (by rfl) ?_ (by assumption) ?_
          rotate_left
          · intro w hSw
            (try dsimp only at hSw)
            go_simp
            all_goals with_reducible rfl
          try simp only [Act.put, List.setIfInBounds_toArray, List.set_cons_zero, List.set_cons_succ]
          refine hand_yes (i := 24) (v := ?_) rfl (by as_aux_lemma => kernel_rfl) (by as_aux_lemma => kernel_rfl) (by as_aux_lemma => kernel_rfl) (fun _ _ _ h => h) (by rfl) ?_ (by assumption) ?_
          rotate_left
          · intro w hSw
            (try dsimp only at hSw)
            go_simp
            all_goals with_reducible rfl
          try simp only [Act.put, List.setIfInBounds_toArray, List.set_cons_zero, List.set_cons_succ]
          refine hand_yes (i := 25) (v := ?_) rfl (by as_aux_lemma => kernel_rfl) (by as_aux_lemma => kernel_rfl) (by as_aux_lemma => kernel_rfl) (fun _ _ _ h => h) (by rfl) ?_ (by assumption) ?_
          rotate_left
          · intro w hSw
            (try dsimp only at hSw)
            go_simp
            all_goals with_reducible rfl
          try simp only [Act.put, List.setIfInBounds_toArray, List.set_cons_zero, List.set_cons_succ]
          refine hand_yes (i := 26) (v := ?_) rfl (by as_aux_lemma => kernel_rfl) (by as_aux_lemma => kernel_rfl) (by as_aux_lemma => kernel_rfl) (fun _ _ _ h => h) (by rfl) ?_ (by assumption) ?_
          rotate_left
          · intro w hSw
            (try dsimp only at hSw)
            go_simp
            all_goals with_reducible rfl
          try simp only [Act.put, List.setIfInBounds_toArray, List.set_cons_zero, List.set_cons_succ]
          refine hand_yes (i := 27) (v := ?_) rfl (by as_aux_lemma => kernel_rfl) (by as_aux_lemma => kernel_rfl) (by as_aux_lemma => kernel_rfl) (fun _ _ _ h => h) (by rfl) ?_ (by assumption) ?_
          rotate_left
          · intro w hSw
            (try dsimp only at hSw)
            go_simp
            all_goals with_reducible rfl
          try simp only [Act.put, List.setIfInBounds_toArray, List.set_cons_zero, List.set_cons_succ]
          refine hand_yes (i := 28) (v := ?_) rfl (by as_aux_lemma => kernel_rfl) (by as_aux_lemma => kernel_rfl) (by as_aux_lemma => kernel_rfl) (fun _ _ _ h => h) (by rfl) ?_ (by assumption) ?_
          rotate_left
          · intro w hSw
            (try dsimp only at hSw)
            go_simp
            all_goals with_reducible rfl
          try simp only [Act.put, List.setIfInBounds_toArray, List.set_cons_zero, List.set_cons_succ]
          refine hand_yes (i := 29) (v := ?_) rfl (by as_aux_lemma => kernel_rfl) (by as_aux_lemma => kernel_rfl) (by as_aux_lemma => kernel_rfl) (fun _ _ _ h => h) (by rfl) ?_ (by assumption) ?_
          rotate_left
          · intro w hSw
            (try dsimp only at hSw)
            go_simp
            all_goals with_reducible rfl
          try simp only [Act.put, List.setIfInBounds_toArray, List.set_cons_zero, List.set_cons_succ]
          refine hand_yes (i := 30) (v := ?_) rfl (by as_aux_lemma => kernel_rfl) (by as_aux_lemma => kernel_rfl) (by as_aux_lemma => kernel_rfl) (fun _ _ _ h => h) (by rfl) ?_ (by assumption) ?_
          rotate_left
          · intro w hSw
            (try dsimp only at hSw)
            go_simp
            all_goals with_reducible rfl
          try simp only [Act.put, List.setIfInBounds_toArray, List.set_cons_zero, List.set_cons_succ]
          refine hand_yes (i := 31) (v := ?_) rfl (by as_aux_lemma => kernel_rfl) (by as_aux_lemma => kernel_rfl) (by as_aux_lemma => kernel_rfl) (fun _ _ _ h => h) (by rfl) ?_ (by assumption) ?_
          rotate_left
          · intro w hSw
            (try dsimp only at hSw)
            go_simp
            all_goals with_reducible rfl
          try simp only [Act.put, List.setIfInBounds_toArray, List.set_cons_zero, List.set_cons_succ]
          refine hand_yes (i := 32) (v := ?_) rfl (by as_aux_lemma => kernel_rfl) (by as_aux_lemma => kernel_rfl) (by as_aux_lemma => kernel_rfl) (fun _ _ _ h => h) (by rfl) ?_ (by assumption) ?_
          rotate_left
          · intro w hSw
            (try dsimp only at hSw)
            go_simp
            all_goals with_reducible rfl
          try simp only [Act.put, List.setIfInBounds_toArray, List.set_cons_zero, List.set_cons_succ]
          refine hand_yes (i := 33) (v := ?_) rfl (by as_aux_lemma => kernel_rfl) (by as_aux_lemma => kernel_rfl) (by as_aux_lemma => kernel_rfl) (fun _ _ _ h => h) (by rfl) ?_ (by assumption) ?_
          rotate_left
          · intro w hSw
            (try dsimp only at hSw)
            go_simp
            all_goals with_reducible rfl
          try simp only [Act.put, List.setIfInBounds_toArray, List.set_cons_zero, List.set_cons_succ]
          refine hand_yes (i := 34) (v := ?_) rfl (by as_aux_lemma => kernel_rfl) (by as_aux_lemma => kernel_rfl) (by as_aux_lemma => kernel_rfl) (fun _ _ _ h => h) (by rfl) ?_ (by assumption) ?_
          rotate_left
          · intro w hSw
            (try dsimp only at hSw)
            go_simp
            all_goals with_reducible rfl
          try simp only [Act.put, List.setIfInBounds_toArray, List.set_cons_zero, List.set_cons_succ]
          refine hand_yes (i := 35) (v := ?_) rfl (by as_aux_lemma => kernel_rfl) (by as_aux_lemma => kernel_rfl) (by as_aux_lemma => kernel_rfl) (fun _ _ _ h => h) (by rfl) ?_ (by assumption) ?_
          rotate_left
          · intro w hSw
            (try dsimp only at hSw)
            go_simp
            all_goals with_reducible rfl
          try simp only [Act.put, List.setIfInBounds_toArray, List.set_cons_zero, List.set_cons_succ]
          refine hand_yes (i := 36) (v := ?_) rfl (by as_aux_lemma => kernel_rfl) (by as_aux_lemma => kernel_rfl) (by as_aux_lemma => kernel_rfl) (fun _ _ _ h => h) (by rfl) ?_ (by assumption) ?_
          rotate_left
          · intro w hSw
            (try dsimp only at hSw)
            go_simp
            all_goals with_reducible rfl
          try simp only [Act.put, List.setIfInBounds_toArray, List.set_cons_zero, List.set_cons_succ]
          refine hand_yes (i := 37) (v := ?_) rfl (by as_aux_lemma => kernel_rfl) (by as_aux_lemma => kernel_rfl) (by as_aux_lemma => kernel_rfl) (fun _ _ _ h => h) (by rfl) ?_ (by assumption) ?_
          rotate_left
          · intro w hSw
            (try dsimp only at hSw)
            go_simp
            all_goals with_reducible rfl
          try simp only [Act.put, List.setIfInBounds_toArray, List.set_cons_zero, List.set_cons_succ]
          refine hand_yes (i := 38) (v := ?_) rfl (by as_aux_lemma => kernel_rfl) (by as_aux_lemma => kernel_rfl) (by as_aux_lemma => kernel_rfl) (fun _ _ _ h => h) (by rfl) ?_ (by assumption) ?_
          rotate_left
          · intro w hSw
            (try dsimp only at hSw)
            go_simp
            all_goals with_reducible rfl
          try simp only [Act.put, List.setIfInBounds_toArray, List.set_cons_zero, List.set_cons_succ]
          refine hand_yes (i := 39) (v := ?_) rfl (by as_aux_lemma => kernel_rfl) (by as_aux_lemma => kernel_rfl) (by as_aux_lemma => kernel_rfl) (fun _ _ _ h => h) (by rfl) ?_ (by assumption) ?_
          rotate_left
          · intro w hSw
            (try dsimp only at hSw)
            go_simp
            all_goals with_reducible rfl
          try simp only [Act.put, List.setIfInBounds_toArray, List.set_cons_zero, List.set_cons_succ]
          refine hand_yes (i := 40) (v := ?_) rfl (by as_aux_lemma => kernel_rfl) (by as_aux_lemma => kernel_rfl) (by as_aux_lemma => kernel_rfl) (fun _ _ _ h => h) (by rfl) ?_ (by assumption) ?_
          rotate_left
          · intro w hSw
            (try dsimp only at hSw)
            go_simp
            all_goals with_reducible rfl
          try simp only [Act.put, List.setIfInBounds_toArray, List.set_cons_zero, List.set_cons_succ]
          refine hand_yes (i := 41) (v := ?_) rfl (by as_aux_lemma => kernel_rfl) (by as_aux_lemma => kernel_rfl) (by as_aux_lemma => kernel_rfl) (fun _ _ _ h => h) (by rfl) ?_ (by assumption) ?_
          rotate_left
          · intro w hSw
            (try dsimp only at hSw)
            go_simp
            all_goals with_reducible rfl
          try simp only [Act.put, List.setIfInBounds_toArray, List.set_cons_zero, List.set_cons_succ]
          refine hand_yes (i := 42) (v := ?_) rfl (by as_aux_lemma => kernel_rfl) (by as_aux_lemma => kernel_rfl) (by as_aux_lemma => kernel_rfl) (fun _ _ _ h => h) (by rfl) ?_ (by assumption) ?_
          rotate_left
          · intro w hSw
            (try dsimp only at hSw)
            go_simp
            all_goals with_reducible rfl
          try simp only [Act.put, List.setIfInBounds_toArray, List.set_cons_zero, List.set_cons_succ]
          refine hand_yes (i := 43) (v := ?_) rfl (by as_aux_lemma => kernel_rfl) (by as_aux_lemma => kernel_rfl) (by as_aux_lemma => kernel_rfl) (fun _ _ _ h => h) (by rfl) ?_ (by assumption) ?_
          rotate_left
          · intro w hSw
            (try dsimp only at hSw)
            go_simp
            all_goals with_reducible rfl
          try simp only [Act.put, List.setIfInBounds_toArray, List.set_cons_zero, List.set_cons_succ]
          refine hand_no (i := 44) rfl (by as_aux_lemma => kernel_rfl) (by as_aux_lemma => kernel_rfl) (by as_aux_lemma => kernel_rfl) (fun _ _ _ h => h) (by rfl) (by assumption) ?_
          try simp only [Act.put, List.setIfInBounds_toArray, List.set_cons_zero, List.set_cons_succ]
          refine hand_no (i := 45) rfl (by as_aux_lemma => kernel_rfl) (by as_aux_lemma => kernel_rfl) (by as_aux_lemma => kernel_rfl) (fun _ _ _ h => h) (by rfl) (by assumption) ?_
          try simp only [Act.put, List.setIfInBounds_toArray, List.set_cons_zero, List.set_cons_succ]
          refine hand_no (i := 46) rfl (by as_aux_lemma => kernel_rfl) (by as_aux_lemma => kernel_rfl) (by as_aux_lemma => kernel_rfl) (fun _ _ _ h => h) (by rfl) (by assumption) ?_
          try simp only [Act.put, List.setIfInBounds_toArray, List.set_cons_zero, List.set_cons_succ]
          refine hand_no (i := 47) rfl (by as_aux_lemma => kernel_rfl) (by as_aux_lemma => kernel_rfl) (by as_aux_lemma => kernel_rfl) (fun _ _ _ h => h) (by rfl) (by assumption) ?_
          try simp only [Act.put, List.setIfInBounds_toArray, List.set_cons_zero, List.set_cons_succ]
          refine hand_no (i := 48) rfl (by as_aux_lemma => kernel_rfl) (by as_aux_lemma => kernel_rfl) (by as_aux_lemma => kernel_rfl) (fun _ _ _ h => h) (by rfl) (by assumption) ?_
          try simp only [Act.put, List.setIfInBounds_toArray, List.set_cons_zero, List.set_cons_succ]
          refine hand_no (i := 49) rfl (by as_aux_lemma => kernel_rfl) (by as_aux_lemma => kernel_rfl) (by as_aux_lemma => kernel_rfl) (fun _ _ _ h => h) (by rfl) (by assumption) ?_
          try simp only [Act.put, List.setIfInBounds_toArray, List.set_cons_zero, List.set_cons_succ]
          refine hand_no (i := 50) rfl (by as_aux_lemma => kernel_rfl) (by as_aux_lemma => kernel_rfl) (by as_aux_lemma => kernel_rfl) (fun _ _ _ h => h) (by rfl) (by assumption) ?_
          try simp only [Act.put, List.setIfInBounds_toArray, List.set_cons_zero, List.set_cons_succ]
          refine hand_no (i := 51) rfl (by as_aux_lemma => kernel_rfl) (by as_aux_lemma => kernel_rfl) (by as_aux_lemma => kernel_rfl) (fun _ _ _ h => h) (by rfl) (by assumption) ?_
          try simp only [Act.put, List.setIfInBounds_toArray, List.set_cons_zero, List.set_cons_succ]
          refine hand_no (i := 52) rfl (by as_aux_lemma => kernel_rfl) (by as_aux_lemma => kernel_rfl) (by as_aux_lemma => kernel_rfl) (fun _ _ _ h => h) (by rfl) (by assumption) ?_
          try simp only [Act.put, List.setIfInBounds_toArray, List.set_cons_zero, List.set_cons_succ]
          refine hand_no (i := 53) rfl (by as_aux_lemma => kernel_rfl) (by as_aux_lemma => kernel_rfl) (by as_aux_lemma => kernel_rfl) (fun _ _ _ h => h) (by rfl) (by assumption) ?_
          try simp only [Act.put, List.setIfInBounds_toArray, List.set_cons_zero, List.set_cons_succ]
          refine hand_no (i := 54) rfl (by as_aux_lemma => kernel_rfl) (by as_aux_lemma => kernel_rfl) (by as_aux_lemma => kernel_rfl) (fun _ _ _ h => h) (by rfl) (by assumption) ?_
          try simp only [Act.put, List.setIfInBounds_toArray, List.set_cons_zero, List.set_cons_succ]
          refine hand_no (i := 55) rfl (by as_aux_lemma => kernel_rfl) (by as_aux_lemma => kernel_rfl) (by as_aux_lemma => kernel_rfl) (fun _ _ _ h => h) (by rfl) (by assumption) ?_
          try simp only [Act.put, List.setIfInBounds_toArray, List.set_cons_zero, List.set_cons_succ]
          refine hand_no (i := 56) rfl (by as_aux_lemma => kernel_rfl) (by as_aux_lemma => kernel_rfl) (by as_aux_lemma => kernel_rfl) (fun _ _ _ h => h) (by rfl) (by assumption) ?_
          try simp only [Act.put, List.setIfInBounds_toArray, List.set_cons_zero, List.set_cons_succ]
          refine hand_no (i := 57) rfl (by as_aux_lemma => kernel_rfl) (by as_aux_lemma => kernel_rfl) (by as_aux_lemma => kernel_rfl) (fun _ _ _ h => h) (by rfl) (by assumption) ?_
          try simp only [Act.put, List.setIfInBounds_toArray, List.set_cons_zero, List.set_cons_succ]
          refine hand_no (i := 58) rfl (by as_aux_lemma => kernel_rfl) (by as_aux_lemma => kernel_rfl) (by as_aux_lemma => kernel_rfl) (fun _ _ _ h => h) (by rfl) (by assumption) ?_
          try simp only [Act.put, List.setIfInBounds_toArray, List.set_cons_zero, List.set_cons_succ]
          refine hand_no (i := 59) rfl (by as_aux_lemma => kernel_rfl) (by as_aux_lemma => kernel_rfl) (by as_aux_lemma => kernel_rfl) (fun _ _ _ h => h) (by rfl) (by assumption) ?_
          try simp only [Act.put, List.setIfInBounds_toArray, List.set_cons_zero, List.set_cons_succ]
          refine hand_no (i := 60) rfl (by as_aux_lemma => kernel_rfl) (by as_aux_lemma => kernel_rfl) (by as_aux_lemma => kernel_rfl) (fun _ _ _ h => h) (by rfl) (by assumption) ?_
          try simp only [Act.put, List.setIfInBounds_toArray, List.set_cons_zero, List.set_cons_succ]
          refine hand_no (i := 61) rfl (by as_aux_lemma => kernel_rfl) (by as_aux_lemma => kernel_rfl) (by as_aux_lemma => kernel_rfl) (fun _ _ _ h => h) (by rfl) (by assumption) ?_
          try simp only [Act.put, List.setIfInBounds_toArray, List.set_cons_zero, List.set_cons_succ]
          refine hand_no (i := 62) rfl (by as_aux_lemma => kernel_rfl) (by as_aux_lemma => kernel_rfl) (by as_aux_lemma => kernel_rfl) (fun _ _ _ h => h) (by rfl) (by assumption) ?_
          try simp only [Act.put, List.setIfInBounds_toArray, List.set_cons_zero, List.set_cons_succ]
          refine hand_no (i := 63) rfl (by as_aux_lemma => kernel_rfl) (by as_aux_lemma => kernel_rfl) (by as_aux_lemma => kernel_rfl) (fun _ _ _ h => h) (by rfl) (by assumption) ?_
          try simp only [Act.put, List.setIfInBounds_toArray, List.set_cons_zero, List.set_cons_succ]
          refine hand_no (i := 64) rfl (by as_aux_lemma => kernel_rfl) (by as_aux_lemma => kernel_rfl) (by as_aux_lemma => kernel_rfl) (fun _ _ _ h => h) (by rfl) (by assumption) ?_
          try simp only [Act.put, List.setIfInBounds_toArray, List.set_cons_zero, List.set_cons_succ]
          refine hand_no (i := 65) rfl (by as_aux_lemma => kernel_rfl) (by as_aux_lemma => kernel_rfl) (by as_aux_lemma => kernel_rfl) (fun _ _ _ h => h) (by rfl) (by assumption) ?_
          try simp only [Act.put, List.setIfInBounds_toArray, List.set_cons_zero, List.set_cons_succ]
          refine hand_no (i := 66) rfl (by as_aux_lemma => kernel_rfl) (by as_aux_lemma => kernel_rfl) (by as_aux_lemma => kernel_rfl) (fun _ _ _ h => h) (by rfl) (by assumption) ?_
          try simp only [Act.put, List.setIfInBounds_toArray, List.set_cons_zero, List.set_cons_succ]
          refine hand_no (i := 67) rfl (by as_aux_lemma => kernel_rfl) (by as_aux_lemma => kernel_rfl) (by as_aux_lemma => kernel_rfl) (fun _ _ _ h => h) (by rfl) (by assumption) ?_
          try simp only [Act.put, List.setIfInBounds_toArray, List.set_cons_zero, List.set_cons_succ]
          refine hand_yes (i := 68) (v := ?_) rfl (by as_aux_lemma => kernel_rfl) (by as_aux_lemma => kernel_rfl) (by as_aux_lemma => kernel_rfl) (fun _ _ _ h => h) (by rfl) ?_ (by assumption) ?_
          rotate_left
          · intro w hSw
            (try dsimp only at hSw)
            go_simp
            all_goals with_reducible rfl
          try simp only [Act.put, List.setIfInBounds_toArray, List.set_cons_zero, List.set_cons_succ]
          refine hand_yes (i := 69) (v := ?_) rfl (by as_aux_lemma => kernel_rfl) (by as_aux_lemma => kernel_rfl) (by as_aux_lemma => kernel_rfl) (fun _ _ _ h => h) (by rfl) ?_ (by assumption) ?_
          rotate_left
          · intro w hSw
            (try dsimp only at hSw)
            go_simp
            all_goals with_reducible rfl
          try simp only [Act.put, List.setIfInBounds_toArray, List.set_cons_zero, List.set_cons_succ]
          refine wpAnyH_done (by kernel_rfl) ?_ _
          refine NoPanic.normal ?_
          go_wp2_with fail
          go_roundg (gk - 1)
          case measure => omega
          case rel => exact ⟨k + 1, by go_num, rfl, by omega, by omega, hide (Below.drew HC.out)⟩
        · as_aux_lemma =>
          go_upto_region 21 with fail
          refine wp_region_noPanic ?_
          refine wp_region_held_drew (S := fun w' => w'.cell? ⟨b4, o4 + k, none⟩ = some (.int .i64 P) ∧ w'.cell? ⟨b4, o4 + (k + 1), none⟩ = some (.int .i64 (P + x)) ∧ w'.cell? ⟨g, k, none⟩ = some (.int .i64 x) ∧ w'.cell? ⟨b, off + k * 3, none⟩ = some (.int .i64 ca.l) ∧ w'.cell? ⟨b, off + k * 3 + 1, none⟩ = some (.int .i64 ca.r) ∧ w'.cell? ⟨b, off + k * 3 + 2, none⟩ = some (.int .i64 ca.t) ∧ w'.cell? ⟨b, off + (k + 1) * 3, none⟩ = some (.int .i64 cb.l) ∧ w'.cell? ⟨b, off + (k + 1) * 3 + 1, none⟩ = some (.int .i64 cb.r) ∧ w'.cell? ⟨b, off + (k + 1) * 3 + 2, none⟩ = some (.int .i64 cb.t)) (by kernel_rfl) HS.out (fun hHeld => ?_)
          refine hand_yes (i := 0) (v := ?_) rfl (by as_aux_lemma => kernel_rfl) (by as_aux_lemma => kernel_rfl) (by as_aux_lemma => kernel_rfl) (fun _ _ _ h => h) (by rfl) ?_ (by assumption) ?_
          rotate_left
          · intro w hSw
            (try dsimp only at hSw)
            go_simp
            all_goals with_reducible rfl
          try simp only [Act.put, List.setIfInBounds_toArray, List.set_cons_zero, List.set_cons_succ]
          refine hand_yes (i := 1) (v := ?_) rfl (by as_aux_lemma => kernel_rfl) (by as_aux_lemma => kernel_rfl) (by as_aux_lemma => kernel_rfl) (fun _ _ _ h => h) (by rfl) ?_ (by assumption) ?_
          rotate_left
          · intro w hSw
            (try dsimp only at hSw)
            go_simp
            all_goals with_reducible rfl
          try simp only [Act.put, List.setIfInBounds_toArray, List.set_cons_zero, List.set_cons_succ]
          refine hand_yes (i := 2) (v := ?_) rfl (by as_aux_lemma => kernel_rfl) (by as_aux_lemma => kernel_rfl) (by as_aux_lemma => kernel_rfl) (fun _ _ _ h => h) (by rfl) ?_ (by assumption) ?_
          rotate_left
          · intro w hSw
            (try dsimp only at hSw)
            go_simp
            all_goals with_reducible rfl
          try simp only [Act.put, List.setIfInBounds_toArray, List.set_cons_zero, List.set_cons_succ]
          refine hand_yes (i := 3) (v := ?_) rfl (by as_aux_lemma => kernel_rfl) (by as_aux_lemma => kernel_rfl) (by as_aux_lemma => kernel_rfl) (fun _ _ _ h => h) (by rfl) ?_ (by assumption) ?_
          rotate_left
          · intro w hSw
            (try dsimp only at hSw)
            go_simp
            all_goals with_reducible rfl
          try simp only [Act.put, List.setIfInBounds_toArray, List.set_cons_zero, List.set_cons_succ]
          refine hand_yes (i := 4) (v := ?_) rfl (by as_aux_lemma => kernel_rfl) (by as_aux_lemma => kernel_rfl) (by as_aux_lemma => kernel_rfl) (fun _ _ _ h => h) (by rfl) ?_ (by assumption) ?_
          rotate_left
          · intro w hSw
            (try dsimp only at hSw)
            go_simp
            all_goals with_reducible rfl
          try simp only [Act.put, List.setIfInBounds_toArray, List.set_cons_zero, List.set_cons_succ]
          refine hand_yes (i := 5) (v := ?_) rfl (by as_aux_lemma => kernel_rfl) (by as_aux_lemma => kernel_rfl) (by as_aux_lemma => kernel_rfl) (fun _ _ _ h => h) (by rfl) ?_ (by assumption) ?_
          rotate_left
          · intro w hSw
            (try dsimp only at hSw)
            go_simp
            all_goals with_reducible rfl
          try simp only [Act.put, List.setIfInBounds_toArray, List.set_cons_zero, List.set_cons_succ]
          refine hand_yes (i := 6) (v := ?_) rfl (by as_aux_lemma => kernel_rfl) (by as_aux_lemma => kernel_rfl) (by as_aux_lemma => kernel_rfl) (fun _ _ _ h => h) (by rfl) ?_ (by assumption) ?_
          rotate_left
          · intro w hSw
            (try dsimp only at hSw)
            go_simp
            all_goals with_reducible rfl
          try simp only [Act.put, List.setIfInBounds_toArray, List.set_cons_zero, List.set_cons_succ]
          refine hand_yes (i := 7) (v := ?_) rfl (by as_aux_lemma => kernel_rfl) (by as_aux_lemma => kernel_rfl) (by as_aux_lemma => kernel_rfl) (fun _ _ _ h => h) (by rfl) ?_ (by assumption) ?_
          rotate_left
          · intro w hSw
            (try dsimp only at hSw)
            go_simp
            all_goals with_reducible rfl
          try simp only [Act.put, List.setIfInBounds_toArray, List.set_cons_zero, List.set_cons_succ]
          refine hand_yes (i := 8) (v := ?_) rfl (by as_aux_lemma => kernel_rfl) (by as_aux_lemma => kernel_rfl) (by as_aux_lemma => kernel_rfl) (fun _ _ _ h => h) (by rfl) ?_ (by assumption) ?_
          rotate_left
          · intro w hSw
            (try dsimp only at hSw)
            go_simp
            all_goals with_reducible rfl
          try simp only [Act.put, List.setIfInBounds_toArray, List.set_cons_zero, List.set_cons_succ]
          refine hand_yes (i := 9) (v := ?_) rfl (by as_aux_lemma => kernel_rfl) (by as_aux_lemma => kernel_rfl) (by as_aux_lemma => kernel_rfl) (fun _ _ _ h => h) (by rfl) ?_ (by assumption) ?_
          rotate_left
          · intro w hSw
            (try dsimp only at hSw)
            go_simp
            all_goals with_reducible rfl
          try simp only [Act.put, List.setIfInBounds_toArray, List.set_cons_zero, List.set_cons_succ]
          refine hand_yes (i := 10) (v := ?_) rfl (by as_aux_lemma => kernel_rfl) (by as_aux_lemma => kernel_rfl) (by as_aux_lemma => kernel_rfl) (fun _ _ _ h => h) (by rfl) ?_ (by assumption) ?_
          rotate_left
          · intro w hSw
            (try dsimp only at hSw)
            go_simp
            all_goals with_reducible rfl
          try simp only [Act.put, List.setIfInBounds_toArray, List.set_cons_zero, List.set_cons_succ]
          refine hand_yes (i := 11) (v := ?_) rfl (by as_aux_lemma => kernel_rfl) (by as_aux_lemma => kernel_rfl) (by as_aux_lemma => kernel_rfl) (fun _ _ _ h => h) (by rfl) ?_ (by assumption) ?_
          rotate_left
          · intro w hSw
            (try dsimp only at hSw)
            go_simp
            all_goals with_reducible rfl
          try simp only [Act.put, List.setIfInBounds_toArray, List.set_cons_zero, List.set_cons_succ]
          refine hand_yes (i := 12) (v := ?_) rfl (by as_aux_lemma => kernel_rfl) (by as_aux_lemma => kernel_rfl) (by as_aux_lemma => kernel_rfl) (fun _ _ _ h => h) (by rfl) ?_ (by assumption) ?_
          rotate_left
          · intro w hSw
            (try dsimp only at hSw)
            go_simp
            all_goals with_reducible rfl
          try simp only [Act.put, List.setIfInBounds_toArray, List.set_cons_zero, List.set_cons_succ]
          refine hand_yes (i := 13) (v := ?_) rfl (by as_aux_lemma => kernel_rfl) (by as_aux_lemma => kernel_rfl) (by as_aux_lemma => kernel_rfl) (fun _ _ _ h => h) (by rfl) ?_ (by assumption) ?_
          rotate_left
          · intro w hSw
            (try dsimp only at hSw)
            go_simp
            all_goals with_reducible rfl
          try simp only [Act.put, List.setIfInBounds_toArray, List.set_cons_zero, List.set_cons_succ]
          refine hand_yes (i := 14) (v := ?_) rfl (by as_aux_lemma => kernel_rfl) (by as_aux_lemma => kernel_rfl) (by as_aux_lemma => kernel_rfl) (fun _ _ _ h => h) (by rfl) ?_ (by assumption) ?_
          rotate_left
          · intro w hSw
            (try dsimp only at hSw)
            go_simp
            all_goals with_reducible rfl
          try simp only [Act.put, List.setIfInBounds_toArray, List.set_cons_zero, List.set_cons_succ]
          refine hand_yes (i := 15) (v := ?_) rfl (by as_aux_lemma => kernel_rfl) (by as_aux_lemma => kernel_rfl) (by as_aux_lemma => kernel_rfl) (fun _ _ _ h => h) (by rfl) ?_ (by assumption) ?_
          rotate_left
          · intro w hSw
            (try dsimp only at hSw)
            go_simp
            all_goals with_reducible rfl
          try simp only [Act.put, List.setIfInBounds_toArray, List.set_cons_zero, List.set_cons_succ]
          refine hand_yes (i := 16) (v := ?_) rfl (by as_aux_lemma => kernel_rfl) (by as_aux_lemma => kernel_rfl) (by as_aux_lemma => kernel_rfl) (fun _ _ _ h => h) (by rfl) ?_ (by assumption) ?_
          rotate_left
          · intro w hSw
            (try dsimp only at hSw)
            go_simp
            all_goals with_reducible rfl
          try simp only [Act.put, List.setIfInBounds_toArray, List.set_cons_zero, List.set_cons_succ]
          refine hand_yes (i := 17) (v := ?_) rfl (by as_aux_lemma => kernel_rfl) (by as_aux_lemma => kernel_rfl) (by as_aux_lemma => kernel_rfl) (fun _ _ _ h => h) (by rfl) ?_ (by assumption) ?_
          rotate_left
          · intro w hSw
            (try dsimp only at hSw)
            go_simp
            all_goals with_reducible rfl
          try simp only [Act.put, List.setIfInBounds_toArray, List.set_cons_zero, List.set_cons_succ]
          refine hand_yes (i := 18) (v := ?_) rfl (by as_aux_lemma => kernel_rfl) (by as_aux_lemma => kernel_rfl) (by as_aux_lemma => kernel_rfl) (fun _ _ _ h => h) (by rfl) ?_ (by assumption) ?_
          rotate_left
          · intro w hSw
            (try dsimp only at hSw)
            go_simp
            all_goals with_reducible rfl
          try simp only [Act.put, List.setIfInBounds_toArray, List.set_cons_zero, List.set_cons_succ]
          refine hand_yes (i := 19) (v := ?_) rfl (by as_aux_lemma => kernel_rfl) (by as_aux_lemma => kernel_rfl) (by as_aux_lemma => kernel_rfl) (fun _ _ _ h => h) (by rfl) ?_ (by assumption) ?_
          rotate_left
          · intro w hSw
            (try dsimp only at hSw)
            go_simp
            all_goals with_reducible rfl
          try simp only [Act.put, List.setIfInBounds_toArray, List.set_cons_zero, List.set_cons_succ]
          refine hand_yes (i := 20) (v := ?_) rfl (by as_aux_lemma => kernel_rfl) (by as_aux_lemma => kernel_rfl) (by as_aux_lemma => kernel_rfl) (fun _ _ _ h => h) (by rfl) ?_ (by assumption) ?_
          rotate_left
          · intro w hSw
            (try dsimp only at hSw)
            go_simp
            all_goals with_reducible rfl
          try simp only [Act.put, List.setIfInBounds_toArray, List.set_cons_zero, List.set_cons_succ]
          refine hand_yes (i := 21) (v := ?_) rfl (by as_aux_lemma => kernel_rfl) (by as_aux_lemma => kernel_rfl) (by as_aux_lemma => kernel_rfl) (fun _ _ _ h => h) (by rfl) ?_ (by assumption) ?_
          rotate_left
          · intro w hSw
            (try dsimp only at hSw)
            go_simp
            all_goals with_reducible rfl
          try simp only [Act.put, List.setIfInBounds_toArray, List.set_cons_zero, List.set_cons_succ]
          refine hand_yes (i := 22) (v := ?_) rfl (by as_aux_lemma => kernel_rfl) (by as_aux_lemma => kernel_rfl) (by as_aux_lemma => kernel_rfl) (fun _ _ _ h => h) (by rfl) ?_ (by assumption) ?_
          rotate_left
          · intro w hSw
            (try dsimp only at hSw)
            go_simp
            all_goals with_reducible rfl
          try simp only [Act.put, List.setIfInBounds_toArray, List.set_cons_zero, List.set_cons_succ]
          refine hand_yes (i := 23) (v := ?_) rfl (by as_aux_lemma => kernel_rfl) (by as_aux_lemma => kernel_rfl) (by as_aux_lemma => kernel_rfl) (fun _ _ _ h => h) (by rfl) ?_ (by assumption) ?_
          rotate_left
          · intro w hSw
            (try dsimp only at hSw)
            go_simp
            all_goals with_reducible rfl
          try simp only [Act.put, List.setIfInBounds_toArray, List.set_cons_zero, List.set_cons_succ]
          refine hand_yes (i := 24) (v := ?_) rfl (by as_aux_lemma => kernel_rfl) (by as_aux_lemma => kernel_rfl) (by as_aux_lemma => kernel_rfl) (fun _ _ _ h => h) (by rfl) ?_ (by assumption) ?_
          rotate_left
          · intro w hSw
            (try dsimp only at hSw)
            go_simp
            all_goals with_reducible rfl
          try simp only [Act.put, List.setIfInBounds_toArray, List.set_cons_zero, List.set_cons_succ]
          refine hand_yes (i := 25) (v := ?_) rfl (by as_aux_lemma => kernel_rfl) (by as_aux_lemma => kernel_rfl) (by as_aux_lemma => kernel_rfl) (fun _ _ _ h => h) (by rfl) ?_ (by assumption) ?_
          rotate_left
          · intro w hSw
            (try dsimp only at hSw)
            go_simp
            all_goals with_reducible rfl
          try simp only [Act.put, List.setIfInBounds_toArray, List.set_cons_zero, List.set_cons_succ]
          refine hand_yes (i := 26) (v := ?_) rfl (by as_aux_lemma => kernel_rfl) (by as_aux_lemma => kernel_rfl) (by as_aux_lemma => kernel_rfl) (fun _ _ _ h => h) (by rfl) ?_ (by assumption) ?_
          rotate_left
          · intro w hSw
            (try dsimp only at hSw)
            go_simp
            all_goals with_reducible rfl
          try simp only [Act.put, List.setIfInBounds_toArray, List.set_cons_zero, List.set_cons_succ]
          refine hand_yes (i := 27) (v := ?_) rfl (by as_aux_lemma => kernel_rfl) (by as_aux_lemma => kernel_rfl) (by as_aux_lemma => kernel_rfl) (fun _ _ _ h => h) (by rfl) ?_ (by assumption) ?_
          rotate_left
          · intro w hSw
            (try dsimp only at hSw)
            go_simp
            all_goals with_reducible rfl
          try simp only [Act.put, List.setIfInBounds_toArray, List.set_cons_zero, List.set_cons_succ]
          refine hand_yes (i := 28) (v := ?_) rfl (by as_aux_lemma => kernel_rfl) (by as_aux_lemma => kernel_rfl) (by as_aux_lemma => kernel_rfl) (fun _ _ _ h => h) (by rfl) ?_ (by assumption) ?_
          rotate_left
          · intro w hSw
            (try dsimp only at hSw)
            go_simp
            all_goals with_reducible rfl
          try simp only [Act.put, List.setIfInBounds_toArray, List.set_cons_zero, List.set_cons_succ]
          refine hand_yes (i := 29) (v := ?_) rfl (by as_aux_lemma => kernel_rfl) (by as_aux_lemma => kernel_rfl) (by as_aux_lemma => kernel_rfl) (fun _ _ _ h => h) (by rfl) ?_ (by assumption) ?_
          rotate_left
          · intro w hSw
            (try dsimp only at hSw)
            go_simp
            all_goals with_reducible rfl
          try simp only [Act.put, List.setIfInBounds_toArray, List.set_cons_zero, List.set_cons_succ]
          refine hand_yes (i := 30) (v := ?_) rfl (by as_aux_lemma => kernel_rfl) (by as_aux_lemma => kernel_rfl) (by as_aux_lemma => kernel_rfl) (fun _ _ _ h => h) (by rfl) ?_ (by assumption) ?_
          rotate_left
          · intro w hSw
            (try dsimp only at hSw)
            go_simp
            all_goals with_reducible rfl
          try simp only [Act.put, List.setIfInBounds_toArray, List.set_cons_zero, List.set_cons_succ]
          refine hand_yes (i := 31) (v := ?_) rfl (by as_aux_lemma => kernel_rfl) (by as_aux_lemma => kernel_rfl) (by as_aux_lemma => kernel_rfl) (fun _ _ _ h => h) (by rfl) ?_ (by assumption) ?_
          rotate_left
          · intro w hSw
            (try dsimp only at hSw)
            go_simp
            all_goals with_reducible rfl
          try simp only [Act.put, List.setIfInBounds_toArray, List.set_cons_zero, List.set_cons_succ]
          refine hand_yes (i := 32) (v := ?_) rfl (by as_aux_lemma => kernel_rfl) (by as_aux_lemma => kernel_rfl) (by as_aux_lemma => kernel_rfl) (fun _ _ _ h => h) (by rfl) ?_ (by assumption) ?_
          rotate_left
          · intro w hSw
            (try dsimp only at hSw)
            go_simp
            all_goals with_reducible rfl
          try simp only [Act.put, List.setIfInBounds_toArray, List.set_cons_zero, List.set_cons_succ]
          refine hand_yes (i := 33) (v := ?_) rfl (by as_aux_lemma => kernel_rfl) (by as_aux_lemma => kernel_rfl) (by as_aux_lemma => kernel_rfl) (fun _ _ _ h => h) (by rfl) ?_ (by assumption) ?_
          rotate_left
          · intro w hSw
            (try dsimp only at hSw)
            go_simp
            all_goals with_reducible rfl
          try simp only [Act.put, List.setIfInBounds_toArray, List.set_cons_zero, List.set_cons_succ]
          refine hand_yes (i := 34) (v := ?_) rfl (by as_aux_lemma => kernel_rfl) (by as_aux_lemma => kernel_rfl) (by as_aux_lemma => kernel_rfl) (fun _ _ _ h => h) (by rfl) ?_ (by assumption) ?_
          rotate_left
          · intro w hSw
            (try dsimp only at hSw)
            go_simp
            all_goals with_reducible rfl
          try simp only [Act.put, List.setIfInBounds_toArray, List.set_cons_zero, List.set_cons_succ]
          refine hand_yes (i := 35) (v := ?_) rfl (by as_aux_lemma => kernel_rfl) (by as_aux_lemma => kernel_rfl) (by as_aux_lemma => kernel_rfl) (fun _ _ _ h => h) (by rfl) ?_ (by assumption) ?_
          rotate_left
          · intro w hSw
            (try dsimp only at hSw)
            go_simp
            all_goals with_reducible rfl
          try simp only [Act.put, List.setIfInBounds_toArray, List.set_cons_zero, List.set_cons_succ]
          refine hand_yes (i := 36) (v := ?_) rfl (by as_aux_lemma => kernel_rfl) (by as_aux_lemma => kernel_rfl) (by as_aux_lemma => kernel_rfl) (fun _ _ _ h => h) (by rfl) ?_ (by assumption) ?_
          rotate_left
          · intro w hSw
            (try dsimp only at hSw)
            go_simp
            all_goals with_reducible rfl
          try simp only [Act.put, List.setIfInBounds_toArray, List.set_cons_zero, List.set_cons_succ]
          refine hand_yes (i := 37) (v := ?_) rfl (by as_aux_lemma => kernel_rfl) (by as_aux_lemma => kernel_rfl) (by as_aux_lemma => kernel_rfl) (fun _ _ _ h => h) (by rfl) ?_ (by assumption) ?_
          rotate_left
          · intro w hSw
            (try dsimp only at hSw)
            go_simp
            all_goals with_reducible rfl
          try simp only [Act.put, List.setIfInBounds_toArray, List.set_cons_zero, List.set_cons_succ]
          refine hand_yes (i := 38) (v := ?_) rfl (by as_aux_lemma => kernel_rfl) (by as_aux_lemma => kernel_rfl) (by as_aux_lemma => kernel_rfl) (fun _ _ _ h => h) (by rfl) ?_ (by assumption) ?_
          rotate_left
          · intro w hSw
            (try dsimp only at hSw)
            go_simp
            all_goals with_reducible rfl
          try simp only [Act.put, List.setIfInBounds_toArray, List.set_cons_zero, List.set_cons_succ]
          refine hand_yes (i := 39) (v := ?_) rfl (by as_aux_lemma => kernel_rfl) (by as_aux_lemma => kernel_rfl) (by as_aux_lemma => kernel_rfl) (fun _ _ _ h => h) (by rfl) ?_ (by assumption) ?_
          rotate_left
          · intro w hSw
            (try dsimp only at hSw)
            go_simp
            all_goals with_reducible rfl
          try simp only [Act.put, List.setIfInBounds_toArray, List.set_cons_zero, List.set_cons_succ]
          refine hand_yes (i := 40) (v := ?_) rfl (by as_aux_lemma => kernel_rfl) (by as_aux_lemma => kernel_rfl) (by as_aux_lemma => kernel_rfl) (fun _ _ _ h => h) (by rfl) ?_ (by assumption) ?_
          rotate_left
          · intro w hSw
            (try dsimp only at hSw)
            go_simp
            all_goals with_reducible rfl
          try simp only [Act.put, List.setIfInBounds_toArray, List.set_cons_zero, List.set_cons_succ]
          refine hand_yes (i := 41) (v := ?_) rfl (by as_aux_lemma => kernel_rfl) (by as_aux_lemma => kernel_rfl) (by as_aux_lemma => kernel_rfl) (fun _ _ _ h => h) (by rfl) ?_ (by assumption) ?_
          rotate_left
          · intro w hSw
            (try dsimp only at hSw)
            go_simp
            all_goals with_reducible rfl
          try simp only [Act.put, List.setIfInBounds_toArray, List.set_cons_zero, List.set_cons_succ]
          refine hand_yes (i := 42) (v := ?_) rfl (by as_aux_lemma => kernel_rfl) (by as_aux_lemma => kernel_rfl) (by as_aux_lemma => kernel_rfl) (fun _ _ _ h => h) (by rfl) ?_ (by assumption) ?_
          rotate_left
          · intro w hSw
            (try dsimp only at hSw)
            go_simp
            all_goals with_reducible rfl
          try simp only [Act.put, List.setIfInBounds_toArray, List.set_cons_zero, List.set_cons_succ]
          refine hand_yes (i := 43) (v := ?_) rfl (by as_aux_lemma => kernel_rfl) (by as_aux_lemma => kernel_rfl) (by as_aux_lemma => kernel_rfl) (fun _ _ _ h => h) (by rfl) ?_ (by assumption) ?_
          rotate_left
          · intro w hSw
            (try dsimp only at hSw)
            go_simp
            all_goals with_reducible rfl
          try simp only [Act.put, List.setIfInBounds_toArray, List.set_cons_zero, List.set_cons_succ]
          refine hand_yes (i := 44) (v := ?_) rfl (by as_aux_lemma => kernel_rfl) (by as_aux_lemma => kernel_rfl) (by as_aux_lemma => kernel_rfl) (fun _ _ _ h => h) (by rfl) ?_ (by assumption) ?_
          rotate_left
          · intro w hSw
            (try dsimp only at hSw)
            go_simp
            all_goals with_reducible rfl
          try simp only [Act.put, List.setIfInBounds_toArray, List.set_cons_zero, List.set_cons_succ]
          refine hand_yes (i := 45) (v := ?_) rfl (by as_aux_lemma => kernel_rfl) (by as_aux_lemma => kernel_rfl) (by as_aux_lemma => kernel_rfl) (fun _ _ _ h => h) (by rfl) ?_ (by assumption) ?_
          rotate_left
          · intro w hSw
            (try dsimp only at hSw)
            go_simp
            all_goals with_reducible rfl
          try simp only [Act.put, List.setIfInBounds_toArray, List.set_cons_zero, List.set_cons_succ]
          refine hand_yes (i := 46) (v := ?_) rfl (by as_aux_lemma => kernel_rfl) (by as_aux_lemma => kernel_rfl) (by as_aux_lemma => kernel_rfl) (fun _ _ _ h => h) (by rfl) ?_ (by assumption) ?_
          rotate_left
          · intro w hSw
            (try dsimp only at hSw)
            go_simp
            all_goals with_reducible rfl
          try simp only [Act.put, List.setIfInBounds_toArray, List.set_cons_zero, List.set_cons_succ]
          refine hand_yes (i := 47) (v := ?_) rfl (by as_aux_lemma => kernel_rfl) (by as_aux_lemma => kernel_rfl) (by as_aux_lemma => kernel_rfl) (fun _ _ _ h => h) (by rfl) ?_ (by assumption) ?_
          rotate_left
          · intro w hSw
            (try dsimp only at hSw)
            go_simp
            all_goals with_reducible rfl
          try simp only [Act.put, List.setIfInBounds_toArray, List.set_cons_zero, List.set_cons_succ]
          refine hand_yes (i := 48) (v := ?_) rfl (by as_aux_lemma => kernel_rfl) (by as_aux_lemma => kernel_rfl) (by as_aux_lemma => kernel_rfl) (fun _ _ _ h => h) (by rfl) ?_ (by assumption) ?_
          rotate_left
          · intro w hSw
            (try dsimp only at hSw)
            go_simp
            all_goals with_reducible rfl
          try simp only [Act.put, List.setIfInBounds_toArray, List.set_cons_zero, List.set_cons_succ]
          refine hand_yes (i := 49) (v := ?_) rfl (by as_aux_lemma => kernel_rfl) (by as_aux_lemma => kernel_rfl) (by as_aux_lemma => kernel_rfl) (fun _ _ _ h => h) (by rfl) ?_ (by assumption) ?_
          rotate_left
          · intro w hSw
            (try dsimp only at hSw)
            go_simp
            all_goals with_reducible rfl
          try simp only [Act.put, List.setIfInBounds_toArray, List.set_cons_zero, List.set_cons_succ]
          refine hand_yes (i := 50) (v := ?_) rfl (by as_aux_lemma => kernel_rfl) (by as_aux_lemma => kernel_rfl) (by as_aux_lemma => kernel_rfl) (fun _ _ _ h => h) (by rfl) ?_ (by assumption) ?_
          rotate_left
          · intro w hSw
            (try dsimp only at hSw)
            go_simp
            all_goals with_reducible rfl
          try simp only [Act.put, List.setIfInBounds_toArray, List.set_cons_zero, List.set_cons_succ]
          refine hand_yes (i := 51) (v := ?_) rfl (by as_aux_lemma => kernel_rfl) (by as_aux_lemma => kernel_rfl) (by as_aux_lemma => kernel_rfl) (fun _ _ _ h => h) (by rfl) ?_ (by assumption) ?_
          rotate_left
          · intro w hSw
            (try dsimp only at hSw)
            go_simp
            all_goals with_reducible rfl
          try simp only [Act.put, List.setIfInBounds_toArray, List.set_cons_zero, List.set_cons_succ]
          refine hand_yes (i := 52) (v := ?_) rfl (by as_aux_lemma => kernel_rfl) (by as_aux_lemma => kernel_rfl) (by as_aux_lemma => kernel_rfl) (fun _ _ _ h => h) (by rfl) ?_ (by assumption) ?_
          rotate_left
          · intro w hSw
            (try dsimp only at hSw)
            go_simp
            all_goals with_reducible rfl
          try simp only [Act.put, List.setIfInBounds_toArray, List.set_cons_zero, List.set_cons_succ]
          refine hand_yes (i := 53) (v := ?_) rfl (by as_aux_lemma => kernel_rfl) (by as_aux_lemma => kernel_rfl) (by as_aux_lemma => kernel_rfl) (fun _ _ _ h => h) (by rfl) ?_ (by assumption) ?_
          rotate_left
          · intro w hSw
            (try dsimp only at hSw)
            go_simp
            all_goals with_reducible rfl
          try simp only [Act.put, List.setIfInBounds_toArray, List.set_cons_zero, List.set_cons_succ]
          refine hand_yes (i := 54) (v := ?_) rfl (by as_aux_lemma => kernel_rfl) (by as_aux_lemma => kernel_rfl) (by as_aux_lemma => kernel_rfl) (fun _ _ _ h => h) (by rfl) ?_ (by assumption) ?_
          rotate_left
          · intro w hSw
            (try dsimp only at hSw)
            go_simp
            all_goals with_reducible rfl
          try simp only [Act.put, List.setIfInBounds_toArray, List.set_cons_zero, List.set_cons_succ]
          refine hand_yes (i := 55) (v := ?_) rfl (by as_aux_lemma => kernel_rfl) (by as_aux_lemma => kernel_rfl) (by as_aux_lemma => kernel_rfl) (fun _ _ _ h => h) (by rfl) ?_ (by assumption) ?_
          rotate_left
          · intro w hSw
            (try dsimp only at hSw)
            go_simp
            all_goals with_reducible rfl
          try simp only [Act.put, List.setIfInBounds_toArray, List.set_cons_zero, List.set_cons_succ]
          refine hand_yes (i := 56) (v := ?_) rfl (by as_aux_lemma => kernel_rfl) (by as_aux_lemma => kernel_rfl) (by as_aux_lemma => kernel_rfl) (fun _ _ _ h => h) (by rfl) ?_ (by assumption) ?_
          rotate_left
          · intro w hSw
            (try dsimp only at hSw)
            go_simp
            all_goals with_reducible rfl
          try simp only [Act.put, List.setIfInBounds_toArray, List.set_cons_zero, List.set_cons_succ]
          refine hand_yes (i := 57) (v := ?_) rfl (by as_aux_lemma => kernel_rfl) (by as_aux_lemma => kernel_rfl) (by as_aux_lemma => kernel_rfl) (fun _ _ _ h => h) (by rfl) ?_ (by assumption) ?_
          rotate_left
          · intro w hSw
            (try dsimp only at hSw)
            go_simp
            all_goals with_reducible rfl
          try simp only [Act.put, List.setIfInBounds_toArray, List.set_cons_zero, List.set_cons_succ]
          refine hand_yes (i := 58) (v := ?_) rfl (by as_aux_lemma => kernel_rfl) (by as_aux_lemma => kernel_rfl) (by as_aux_lemma => kernel_rfl) (fun _ _ _ h => h) (by rfl) ?_ (by assumption) ?_
          rotate_left
          · intro w hSw
            (try dsimp only at hSw)
            go_simp
            all_goals with_reducible rfl
          try simp only [Act.put, List.setIfInBounds_toArray, List.set_cons_zero, List.set_cons_succ]
          refine hand_yes (i := 59) (v := ?_) rfl (by as_aux_lemma => kernel_rfl) (by as_aux_lemma => kernel_rfl) (by as_aux_lemma => kernel_rfl) (fun _ _ _ h => h) (by rfl) ?_ (by assumption) ?_
          rotate_left
          · intro w hSw
            (try dsimp only at hSw)
            go_simp
            all_goals with_reducible rfl
          try simp only [Act.put, List.setIfInBounds_toArray, List.set_cons_zero, List.set_cons_succ]
          refine hand_yes (i := 60) (v := ?_) rfl (by as_aux_lemma => kernel_rfl) (by as_aux_lemma => kernel_rfl) (by as_aux_lemma => kernel_rfl) (fun _ _ _ h => h) (by rfl) ?_ (by assumption) ?_
          rotate_left
          · intro w hSw
            (try dsimp only at hSw)
            go_simp
            all_goals with_reducible rfl
          try simp only [Act.put, List.setIfInBounds_toArray, List.set_cons_zero, List.set_cons_succ]
          refine hand_yes (i := 61) (v := ?_) rfl (by as_aux_lemma => kernel_rfl) (by as_aux_lemma => kernel_rfl) (by as_aux_lemma => kernel_rfl) (fun _ _ _ h => h) (by rfl) ?_ (by assumption) ?_
          rotate_left
          · intro w hSw
            (try dsimp only at hSw)
            go_simp
            all_goals with_reducible rfl
          try simp only [Act.put, List.setIfInBounds_toArray, List.set_cons_zero, List.set_cons_succ]
          refine hand_yes (i := 62) (v := ?_) rfl (by as_aux_lemma => kernel_rfl) (by as_aux_lemma => kernel_rfl) (by as_aux_lemma => kernel_rfl) (fun _ _ _ h => h) (by rfl) ?_ (by assumption) ?_
          rotate_left
          · intro w hSw
            (try dsimp only at hSw)
            go_simp
            all_goals with_reducible rfl
          try simp only [Act.put, List.setIfInBounds_toArray, List.set_cons_zero, List.set_cons_succ]
          refine hand_yes (i := 63) (v := ?_) rfl (by as_aux_lemma => kernel_rfl) (by as_aux_lemma => kernel_rfl) (by as_aux_lemma => kernel_rfl) (fun _ _ _ h => h) (by rfl) ?_ (by assumption) ?_
          rotate_left
          · intro w hSw
            (try dsimp only at hSw)
            go_simp
            all_goals with_reducible rfl
          try simp only [Act.put, List.setIfInBounds_toArray, List.set_cons_zero, List.set_cons_succ]
          refine hand_yes (i := 64) (v := ?_) rfl (by as_aux_lemma => kernel_rfl) (by as_aux_lemma => kernel_rfl) (by as_aux_lemma => kernel_rfl) (fun _ _ _ h => h) (by rfl) ?_ (by assumption) ?_
          rotate_left
          · intro w hSw
            (try dsimp only at hSw)
            go_simp
            all_goals with_reducible rfl
          try simp only [Act.put, List.setIfInBounds_toArray, List.set_cons_zero, List.set_cons_succ]
          refine hand_yes (i := 65) (v := ?_) rfl (by as_aux_lemma => kernel_rfl) (by as_aux_lemma => kernel_rfl) (by as_aux_lemma => kernel_rfl) (fun _ _ _ h => h) (by rfl) ?_ (by assumption) ?_
          rotate_left
          · intro w hSw
            (try dsimp only at hSw)
            go_simp
            all_goals with_reducible rfl
          try simp only [Act.put, List.setIfInBounds_toArray, List.set_cons_zero, List.set_cons_succ]
          refine hand_yes (i := 66) (v := ?_) rfl (by as_aux_lemma => kernel_rfl) (by as_aux_lemma => kernel_rfl) (by as_aux_lemma => kernel_rfl) (fun _ _ _ h => h) (by rfl) ?_ (by assumption) ?_
          rotate_left
          · intro w hSw
            (try dsimp only at hSw)
            go_simp
            all_goals with_reducible rfl
          try simp only [Act.put, List.setIfInBounds_toArray, List.set_cons_zero, List.set_cons_succ]
          refine hand_yes (i := 67) (v := ?_) rfl (by as_aux_lemma => kernel_rfl) (by as_aux_lemma => kernel_rfl) (by as_aux_lemma => kernel_rfl) (fun _ _ _ h => h) (by rfl) ?_ (by assumption) ?_
          rotate_left
          · intro w hSw
            (try dsimp only at hSw)
            go_simp
            all_goals with_reducible rfl
          try simp only [Act.put, List.setIfInBounds_toArray, List.set_cons_zero, List.set_cons_succ]
          refine hand_yes (i := 68) (v := ?_) rfl (by as_aux_lemma => kernel_rfl) (by as_aux_lemma => kernel_rfl) (by as_aux_lemma => kernel_rfl) (fun _ _ _ h => h) (by rfl) ?_ (by assumption) ?_
          rotate_left
          · intro w hSw
            (try dsimp only at hSw)
            go_simp
            all_goals with_reducible rfl
          try simp only [Act.put, List.setIfInBounds_toArray, List.set_cons_zero, List.set_cons_succ]
          refine hand_yes (i := 69) (v := ?_) rfl (by as_aux_lemma => kernel_rfl) (by as_aux_lemma => kernel_rfl) (by as_aux_lemma => kernel_rfl) (fun _ _ _ h => h) (by rfl) ?_ (by assumption) ?_
          rotate_left
          · intro w hSw
            (try dsimp only at hSw)
            go_simp
            all_goals with_reducible rfl
          try simp only [Act.put, List.setIfInBounds_toArray, List.set_cons_zero, List.set_cons_succ]
          refine wpAnyH_done (by kernel_rfl) ?_ _
          refine NoPanic.normal ?_
          go_wp2_with fail
          go_roundg (gk - 1)
          case measure => omega
          case rel => exact ⟨k + 1, by go_num, rfl, by omega, by omega, hide (Below.drew HC.out)⟩
      · have hkn : k = n3 := by omega
        subst hkn
        clear hgk
        go_wp2_with fail
        go_loopg [6, 269] n2 (fun gl s6 s269 wo => ∃ q : Nat, s269 = .int .i64 q ∧ s6 = .bool false ∧ q ≤ n2 ∧ n2 ≤ gl + q ∧ Hid (Below w'.heap.size w' wo))
        case atStart => exact ⟨0, rfl, rfl, Nat.zero_le _, by omega, HC⟩
        case round =>
          clear HC
          obtain ⟨q, rfl, rfl, hq, hgq, HC⟩ := hrel
          have HBk := hide (HB9.out.trans (HC.out.mono HB9.out.size))
          by_cases hlt2 : q < n2
          · obtain ⟨y, hy⟩ : ∃ y, L1[q]? = some y := ⟨_, List.getElem?_eq_getElem (by have := HN2.out; omega)⟩
            obtain ⟨y0, y1, y2, y3, y4⟩ := Lst.ok_of (HLO.out y (List.mem_of_getElem? hy))
            obtain ⟨F, hF⟩ : ∃ F : Nat, y.f = F := ⟨y.f.toNat, by omega⟩
            obtain ⟨G, hG⟩ : ∃ G : Nat, y.l = G := ⟨y.l.toNat, by omega⟩
            have hFG : F ≤ G := by omega
            have hG3 : G ≤ k := by omega
            have hkeep := HKEEP.out y (List.mem_of_getElem? hy)
            rw [hF, hG, Int.toNat_natCast, Int.toNat_natCast] at hkeep
            have hfar := place_far HYL.out HLOW.out hFG hkeep
            obtain ⟨hp, P0, P1⟩ := HAT.out F (by omega)
            obtain ⟨hp1, Q0, Q1⟩ := HAT.out G hG3
            obtain ⟨PF, hPF⟩ : ∃ PF, PF = a.l + (ys.take F).sum := ⟨_, rfl⟩
            obtain ⟨PG, hPG⟩ : ∃ PG, PG = a.l + (ys.take G).sum := ⟨_, rfl⟩
            rw [← hPF] at hp P0 P1
            rw [← hPG] at hp1 Q0 Q1
            have hd : ¬ PG - PF < y.d := by omega
            obtain ⟨b5, o5, e3, hb5, c6⟩ := (Rds.on2 R49.out HC.out).int hp
            obtain ⟨b6, o6, e4, -, c7⟩ := (Rds.on2 R49.out HC.out).int hp1
            obtain ⟨by_, oy, hAy, hby, d0, d1, d2⟩ := ((R2.out.below HBk.out).more HBk.out.size).lst hy
            subst hAy
            simp only [Option.some.injEq, Addr.mk.injEq, and_true] at e3 e4
            obtain ⟨rfl, rfl⟩ := e3
            obtain ⟨rfl, rfl⟩ := e4
            rw [hF] at d0
            rw [hG] at d1
            have ba := (Below.refl wr.heap.size wr).alloc (Nat.le_refl _) (.cells #[.int .i64 (F : Int), .int .i64 (G : Int), .int .i64 y.d] 73)
            have HP0 := hide ((ba.cell (p := ⟨_, _, none⟩) hb5).trans c6)
            have HP1 := hide ((ba.cell (p := ⟨_, _, none⟩) hb5).trans c7)
            have HCa := hide (HC.out.trans (ba.mono HC.out.size))
            have HA0 := hide (show (wr.alloc (.cells #[.int .i64 (F : Int), .int .i64 (G : Int), .int .i64 y.d] 73)).cell? ⟨wr.heap.size, 0, none⟩ = some (.int .i64 (F : Int)) by simp [go_sem])
            have HA1 := hide (show (wr.alloc (.cells #[.int .i64 (F : Int), .int .i64 (G : Int), .int .i64 y.d] 73)).cell? ⟨wr.heap.size, 1, none⟩ = some (.int .i64 (G : Int)) by simp [go_sem])
            have HA2 := hide (show (wr.alloc (.cells #[.int .i64 (F : Int), .int .i64 (G : Int), .int .i64 y.d] 73)).cell? ⟨wr.heap.size, 2, none⟩ = some (.int .i64 y.d) by simp [go_sem])
            have i1 : ((q : Int)).toNat = q := by omega
            have i2 : (0 : Int) ≤ (q : Int) := by omega
            have i3 : (q : Int) < (n2 : Int) := by omega
            have i4 : ((F : Int)).toNat = F := by omega
            have i5 : (0 : Int) ≤ (F : Int) := by omega
            have i6 : (F : Int) < (n1 : Int) := by omega
            have i7 : ((G : Int)).toNat = G := by omega
            have i8 : (0 : Int) ≤ (G : Int) := by omega
            have i9 : (G : Int) < (n1 : Int) := by omega
            have i10 : F < n1 := by omega
            have i11 : G < n1 := by omega
            have j1 : IntKind.i64.wrap (PG - PF) = PG - PF := IntWalk.i64_in _ (by omega)
            clear hy hF hG hkeep hfar hp hp1 hPF hPG ba c6 c7 HBk y0 y1 y2
            go_upto_region 26 with fail
            generalize wr.alloc (.cells #[.int .i64 (F : Int), .int .i64 (G : Int), .int .i64 y.d] 73) = wa at HP0 HP1 HA0 HA1 HA2 HCa ⊢
            generalize wr.heap.size = pm at HA0 HA1 HA2 ⊢
            have a0 := HA0.out
            have a1 := HA1.out
            have a2 := HA2.out
            have c6 := HP0.out
            have c7 := HP1.out
            clear d0 d1 d2
            go_quiet (fail)
            go_wp2_with fail
            go_roundg (gk - 1)
            case measure => omega
            case rel => exact ⟨q + 1, by go_num, rfl, by omega, by omega, hide (below_drewN HCa.out _)⟩
          · have hqn : q = n2 := by omega
            subst hqn
            go_wp2_with fail
            go_ret
            exact ⟨rfl, HBk.out⟩

end Go.Proofs.Ytajkmlejklgbbaa
