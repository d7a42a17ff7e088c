/- rational.Parse at a text without a sign. -/
import Derived.Test.YtfappkhohddcjaaDoorParP
namespace Go.Proofs.YtfappkhohddcjaaDoor
open Go.RowKit

set_option maxRecDepth 100000 in
set_option maxHeartbeats 16000000 in
theorem Parse_plain (s : ByteArray) (w : World) (hs : s.size ≤ 1000000000) (hpos : 0 < s.size) (h45 : ¬ s.data.toList[0]? = some 45) (ht : Tab w) :
    Calls Tryd.prog 25 #[.string s] w fun e w' => e = .returned (.tuple #[.agg #[.int .i64 (parF s.data.toList).1.n, .int .i64 ((parF s.data.toList).1.d - 1)], .int .i64 ((parF s.data.toList).2 : Nat), .int .i64 (parF s.data.toList).1.e]) ∧ Below w.heap.size w w' := by
  have hlen := toList_len s
  obtain ⟨t1, t2⟩ := str_ne (s := s) (by omega)
  have t3 := (get_bool (s := s) (k := 0) (h := hpos) (c := 45) (m := 45) rfl).2.1 h45
  have hsg : signF s.data.toList = 0 := by rw [signF, if_neg h45]
  have HT := hide ht
  have HS := hide (S1.new w 0 0 24)
  have HA := hide (show ∀ W, Calls Tryd.prog 50 #[.string s, .int .i64 0] W fun e w' => e = .returned (.tuple #[.int .i64 (((numF s.data.toList 0).v : Int)), .int .i64 (((numF s.data.toList 0).at_ : Int)), .int .i64 ((numF s.data.toList 0).e)]) ∧ W = w' from fun W => number_any s 0 W hs (by omega))
  obtain ⟨hk, hv⟩ := numF_at s.data.toList 0 (by omega)
  have hp0 : parF s.data.toList = if (numF s.data.toList 0).e = 0 then slash s.data.toList (((numF s.data.toList 0).v : Int)) (numF s.data.toList 0).at_ else (⟨0, 1, (numF s.data.toList 0).e⟩, (numF s.data.toList 0).at_) := by
    rw [parF, hsg]; rfl
  obtain ⟨A, hA⟩ : ∃ A, A = numF s.data.toList 0 := ⟨_, rfl⟩
  rw [← hA] at HA hk hv hp0
  obtain ⟨v, k, e⟩ := A
  simp only at HA hk hv hp0
  rw [hlen] at hk
  clear hA ht h45 hsg
  by_cases he : e = 0
  · subst he
    rw [if_pos rfl] at hp0
    rcases (show k = s.size ∨ k < s.size by omega) with hke | hkl
    · subst hke
      have HP := hide (hp0.trans (by rw [slash, if_neg (by rw [List.getElem?_eq_none (by omega)]; simp)]))
      clear hp0
      have HO := hide (fun W => Of_any ((v : Int)) 1 W ⟨by omega, by omega⟩ ⟨by omega, by omega⟩)
      have HQ := hide (ofF_fq ((v : Int)) 1)
      have HV0 := hide (show parF s.data.toList = if (ofF ((v : Int)) 1).e = 0 ∧ textF (ofF ((v : Int)) 1).n (ofF ((v : Int)) 1).d = s.data.toList then (ofF ((v : Int)) 1, 0) else (⟨0, 1, 3⟩, 0) from HP.out.trans (by rw [finF, if_neg (by omega)]))
      obtain ⟨F, hF⟩ : ∃ F, F = ofF ((v : Int)) 1 := ⟨_, rfl⟩
      rw [← hF] at HO HQ HV0
      clear hF
      by_cases hFe : F.e = 0
      · have HX := hide (fun W (h : Tab W) => Text_any F.n F.d W HQ.out h)
        obtain ⟨T, hT⟩ : ∃ T, T = textF F.n F.d := ⟨_, rfl⟩
        rw [← hT] at HX HV0
        rw [hFe] at HO
        have HFE := hide hFe
        clear hT hFe
        by_cases hts : T = s.data.toList
        · have HV := hide (show parF s.data.toList = (F, 0) by rw [HV0.out, if_pos ⟨HFE.out, hts⟩])
          have hne := ne_bool.1 hts
          clear hts HV0
          go_enter Tryd.func25, Tryd.ntmps25
          go_wp2_with fail
          generalize w.alloc (.cells #[.int .i64 0, .int .i64 0] 24) = wX at HS ⊢
          refine (HA.out _).mono ?_
          rintro e1 w1 ⟨rfl, rfl⟩
          go_wp2_with fail
          refine (HO.out _).mono ?_
          rintro e3 w3 ⟨rfl, hb⟩
          have HS3 := hide (HS.out.on hb)
          clear hb
          have r0 := HS3.out.tx.c0
          have r1 := HS3.out.tx.c1
          have r2 := HS3.out.tx.f0
          have r3 := HS3.out.tx.f1
          have d0 := (HS3.out.tx.set F.n (F.d - 1)).c0
          have d1 := (HS3.out.tx.set F.n (F.d - 1)).c1
          have HS4 := hide (HS3.out.set (Nat.le_refl _) F.n (F.d - 1))
          go_wp2_with fail
          generalize (w3.setCell ⟨w.heap.size, 0, none⟩ (.int .i64 F.n)).setCell ⟨w.heap.size, 1, none⟩ (.int .i64 (F.d - 1)) = w4 at HS4 ⊢ d0 d1
          clear r0 r1 r2 r3 d0 d1
          refine (HX.out _ (HT.out.on HS4.out.bel)).mono ?_
          rintro e5 w5 ⟨rfl, hb⟩
          have HS5 := hide (HS4.out.on hb)
          clear hb
          have r0 := HS5.out.tx.c0
          have r1 := HS5.out.tx.c1
          have r2 := HS5.out.tx.f0
          have r3 := HS5.out.tx.f1
          have d0 := (HS5.out.tx.set F.n (F.d - 1)).c0
          have d1 := (HS5.out.tx.set F.n (F.d - 1)).c1
          go_wp2_with fail
          refine bodyPost_ret (v := .tuple #[.agg #[.int .i64 F.n, .int .i64 (F.d - 1)], .int .i64 0, .int .i64 0]) (by simp [results, Tryd.results25, go_sem, d0, d1]) rfl ?_
          exact ⟨by rw [HV.out]; simp [HFE.out], (HS5.out.set (Nat.le_refl _) _ _).bel⟩
        · have HV := hide (show parF s.data.toList = (⟨0, 1, 3⟩, 0) by rw [HV0.out, if_neg (fun h => hts h.2)])
          have hne := ne_bool.2 hts
          clear hts HV0
          go_enter Tryd.func25, Tryd.ntmps25
          go_wp2_with fail
          generalize w.alloc (.cells #[.int .i64 0, .int .i64 0] 24) = wX at HS ⊢
          refine (HA.out _).mono ?_
          rintro e1 w1 ⟨rfl, rfl⟩
          go_wp2_with fail
          refine (HO.out _).mono ?_
          rintro e3 w3 ⟨rfl, hb⟩
          have HS3 := hide (HS.out.on hb)
          clear hb
          have r0 := HS3.out.tx.c0
          have r1 := HS3.out.tx.c1
          have r2 := HS3.out.tx.f0
          have r3 := HS3.out.tx.f1
          have d0 := (HS3.out.tx.set F.n (F.d - 1)).c0
          have d1 := (HS3.out.tx.set F.n (F.d - 1)).c1
          have HS4 := hide (HS3.out.set (Nat.le_refl _) F.n (F.d - 1))
          go_wp2_with fail
          generalize (w3.setCell ⟨w.heap.size, 0, none⟩ (.int .i64 F.n)).setCell ⟨w.heap.size, 1, none⟩ (.int .i64 (F.d - 1)) = w4 at HS4 ⊢ d0 d1
          clear r0 r1 r2 r3 d0 d1
          refine (HX.out _ (HT.out.on HS4.out.bel)).mono ?_
          rintro e5 w5 ⟨rfl, hb⟩
          have HS5 := hide (HS4.out.on hb)
          clear hb
          have r0 := HS5.out.tx.c0
          have r1 := HS5.out.tx.c1
          have r2 := HS5.out.tx.f0
          have r3 := HS5.out.tx.f1
          have d0 := (HS5.out.tx.set 0 0).c0
          have d1 := (HS5.out.tx.set 0 0).c1
          go_wp2_with fail
          refine bodyPost_ret (v := .tuple #[.agg #[.int .i64 0, .int .i64 0], .int .i64 0, .int .i64 3]) (by simp [results, Tryd.results25, go_sem, d0, d1]) rfl ?_
          exact ⟨by rw [HV.out]; first | rfl | simp, (HS5.out.set (Nat.le_refl _) _ _).bel⟩
      · have HV := hide (show parF s.data.toList = (⟨0, 1, 3⟩, 0) by rw [HV0.out, if_neg (fun h => hFe h.1)])
        have hFe' : (F.e != 0) = true := by simpa using hFe
        clear HV0
        go_enter Tryd.func25, Tryd.ntmps25
        go_wp2_with fail
        generalize w.alloc (.cells #[.int .i64 0, .int .i64 0] 24) = wX at HS ⊢
        refine (HA.out _).mono ?_
        rintro e1 w1 ⟨rfl, rfl⟩
        go_wp2_with fail
        refine (HO.out _).mono ?_
        rintro e3 w3 ⟨rfl, hb⟩
        have HS3 := hide (HS.out.on hb)
        clear hb
        have r0 := HS3.out.tx.c0
        have r1 := HS3.out.tx.c1
        have r2 := HS3.out.tx.f0
        have r3 := HS3.out.tx.f1
        have d0 := (HS3.out.tx.set F.n (F.d - 1)).c0
        have d1 := (HS3.out.tx.set F.n (F.d - 1)).c1
        have HS4 := hide (HS3.out.set (Nat.le_refl _) F.n (F.d - 1))
        have g0 := (HS4.out.tx.set 0 0).c0
        have g1 := (HS4.out.tx.set 0 0).c1
        have s0 := HS4.out.tx.c0
        have s1 := HS4.out.tx.c1
        have s2 := HS4.out.tx.f0
        have s3 := HS4.out.tx.f1
        go_wp2_with fail
        first | (refine bodyPost_ret (v := .tuple #[.agg #[.int .i64 0, .int .i64 0], .int .i64 0, .int .i64 3]) (by simp [results, Tryd.results25, go_sem, g0, g1]) rfl ?_) | (refine bodyPost_ret (v := .tuple #[.agg #[.int .i64 0, .int .i64 0], .int .i64 0, .int .i64 3]) (by simp [results, Tryd.results25, go_sem, *]) rfl ?_)
        exact ⟨by rw [HV.out]; first | rfl | simp, by first | exact (HS4.out.set (Nat.le_refl _) _ _).bel | exact (HS3.out.set (Nat.le_refl _) _ _).bel⟩
    · have hkl' : (k : Int) < (s.size : Int) := by omega
      by_cases hsl : s.data.toList[k]? = some 47
      · have t4 := (get_bool (s := s) (k := k) (h := hkl) (c := 47) (m := 47) rfl).1.1 hsl
        have HB := hide (show ∀ W, Calls Tryd.prog 50 #[.string s, .int .i64 ((k : Int) + 1)] W fun e w' => e = .returned (.tuple #[.int .i64 (((numF s.data.toList (k + 1)).v : Int)), .int .i64 (((numF s.data.toList (k + 1)).at_ : Int)), .int .i64 ((numF s.data.toList (k + 1)).e)]) ∧ W = w' from fun W => number_any s (k + 1) W hs (by omega))
        have i2 : IntKind.i64.wrap ((k : Int) + 1) = (k : Int) + 1 := IntWalk.i64_in _ (by omega)
        obtain ⟨hk2, hv2⟩ := numF_at s.data.toList (k + 1) (by omega)
        rw [slash, if_pos hsl] at hp0
        obtain ⟨B, hB⟩ : ∃ B, B = numF s.data.toList (k + 1) := ⟨_, rfl⟩
        rw [← hB] at HB hk2 hv2 hp0
        obtain ⟨v2, k2, e2⟩ := B
        simp only at HB hk2 hv2 hp0
        rw [hlen] at hk2
        clear hB hsl
        by_cases he2 : e2 = 0
        · subst he2
          rw [if_pos rfl] at hp0
          rcases (show k2 = s.size ∨ k2 < s.size by omega) with hke | hkl2
          · subst hke
            have HP := hide hp0
            clear hp0
            have HO := hide (fun W => Of_any ((v : Int)) (v2 : Int) W ⟨by omega, by omega⟩ ⟨by omega, by omega⟩)
            have HQ := hide (ofF_fq ((v : Int)) (v2 : Int))
            have HV0 := hide (show parF s.data.toList = if (ofF ((v : Int)) (v2 : Int)).e = 0 ∧ textF (ofF ((v : Int)) (v2 : Int)).n (ofF ((v : Int)) (v2 : Int)).d = s.data.toList then (ofF ((v : Int)) (v2 : Int), 0) else (⟨0, 1, 3⟩, 0) from HP.out.trans (by rw [finF, if_neg (by omega)]))
            obtain ⟨F, hF⟩ : ∃ F, F = ofF ((v : Int)) (v2 : Int) := ⟨_, rfl⟩
            rw [← hF] at HO HQ HV0
            clear hF
            by_cases hFe : F.e = 0
            · have HX := hide (fun W (h : Tab W) => Text_any F.n F.d W HQ.out h)
              obtain ⟨T, hT⟩ : ∃ T, T = textF F.n F.d := ⟨_, rfl⟩
              rw [← hT] at HX HV0
              rw [hFe] at HO
              have HFE := hide hFe
              clear hT hFe
              by_cases hts : T = s.data.toList
              · have HV := hide (show parF s.data.toList = (F, 0) by rw [HV0.out, if_pos ⟨HFE.out, hts⟩])
                have hne := ne_bool.1 hts
                clear hts HV0
                go_enter Tryd.func25, Tryd.ntmps25
                go_wp2_with fail
                generalize w.alloc (.cells #[.int .i64 0, .int .i64 0] 24) = wX at HS ⊢
                refine (HA.out _).mono ?_
                rintro e1 w1 ⟨rfl, rfl⟩
                go_wp2_with fail
                refine (HB.out _).mono ?_
                rintro e2 w2 ⟨rfl, rfl⟩
                go_wp2_with fail
                refine (HO.out _).mono ?_
                rintro e3 w3 ⟨rfl, hb⟩
                have HS3 := hide (HS.out.on hb)
                clear hb
                have r0 := HS3.out.tx.c0
                have r1 := HS3.out.tx.c1
                have r2 := HS3.out.tx.f0
                have r3 := HS3.out.tx.f1
                have d0 := (HS3.out.tx.set F.n (F.d - 1)).c0
                have d1 := (HS3.out.tx.set F.n (F.d - 1)).c1
                have HS4 := hide (HS3.out.set (Nat.le_refl _) F.n (F.d - 1))
                go_wp2_with fail
                generalize (w3.setCell ⟨w.heap.size, 0, none⟩ (.int .i64 F.n)).setCell ⟨w.heap.size, 1, none⟩ (.int .i64 (F.d - 1)) = w4 at HS4 ⊢ d0 d1
                clear r0 r1 r2 r3 d0 d1
                refine (HX.out _ (HT.out.on HS4.out.bel)).mono ?_
                rintro e5 w5 ⟨rfl, hb⟩
                have HS5 := hide (HS4.out.on hb)
                clear hb
                have r0 := HS5.out.tx.c0
                have r1 := HS5.out.tx.c1
                have r2 := HS5.out.tx.f0
                have r3 := HS5.out.tx.f1
                have d0 := (HS5.out.tx.set F.n (F.d - 1)).c0
                have d1 := (HS5.out.tx.set F.n (F.d - 1)).c1
                go_wp2_with fail
                refine bodyPost_ret (v := .tuple #[.agg #[.int .i64 F.n, .int .i64 (F.d - 1)], .int .i64 0, .int .i64 0]) (by simp [results, Tryd.results25, go_sem, d0, d1]) rfl ?_
                exact ⟨by rw [HV.out]; simp [HFE.out], (HS5.out.set (Nat.le_refl _) _ _).bel⟩
              · have HV := hide (show parF s.data.toList = (⟨0, 1, 3⟩, 0) by rw [HV0.out, if_neg (fun h => hts h.2)])
                have hne := ne_bool.2 hts
                clear hts HV0
                go_enter Tryd.func25, Tryd.ntmps25
                go_wp2_with fail
                generalize w.alloc (.cells #[.int .i64 0, .int .i64 0] 24) = wX at HS ⊢
                refine (HA.out _).mono ?_
                rintro e1 w1 ⟨rfl, rfl⟩
                go_wp2_with fail
                refine (HB.out _).mono ?_
                rintro e2 w2 ⟨rfl, rfl⟩
                go_wp2_with fail
                refine (HO.out _).mono ?_
                rintro e3 w3 ⟨rfl, hb⟩
                have HS3 := hide (HS.out.on hb)
                clear hb
                have r0 := HS3.out.tx.c0
                have r1 := HS3.out.tx.c1
                have r2 := HS3.out.tx.f0
                have r3 := HS3.out.tx.f1
                have d0 := (HS3.out.tx.set F.n (F.d - 1)).c0
                have d1 := (HS3.out.tx.set F.n (F.d - 1)).c1
                have HS4 := hide (HS3.out.set (Nat.le_refl _) F.n (F.d - 1))
                go_wp2_with fail
                generalize (w3.setCell ⟨w.heap.size, 0, none⟩ (.int .i64 F.n)).setCell ⟨w.heap.size, 1, none⟩ (.int .i64 (F.d - 1)) = w4 at HS4 ⊢ d0 d1
                clear r0 r1 r2 r3 d0 d1
                refine (HX.out _ (HT.out.on HS4.out.bel)).mono ?_
                rintro e5 w5 ⟨rfl, hb⟩
                have HS5 := hide (HS4.out.on hb)
                clear hb
                have r0 := HS5.out.tx.c0
                have r1 := HS5.out.tx.c1
                have r2 := HS5.out.tx.f0
                have r3 := HS5.out.tx.f1
                have d0 := (HS5.out.tx.set 0 0).c0
                have d1 := (HS5.out.tx.set 0 0).c1
                go_wp2_with fail
                refine bodyPost_ret (v := .tuple #[.agg #[.int .i64 0, .int .i64 0], .int .i64 0, .int .i64 3]) (by simp [results, Tryd.results25, go_sem, d0, d1]) rfl ?_
                exact ⟨by rw [HV.out]; first | rfl | simp, (HS5.out.set (Nat.le_refl _) _ _).bel⟩
            · have HV := hide (show parF s.data.toList = (⟨0, 1, 3⟩, 0) by rw [HV0.out, if_neg (fun h => hFe h.1)])
              have hFe' : (F.e != 0) = true := by simpa using hFe
              clear HV0
              go_enter Tryd.func25, Tryd.ntmps25
              go_wp2_with fail
              generalize w.alloc (.cells #[.int .i64 0, .int .i64 0] 24) = wX at HS ⊢
              refine (HA.out _).mono ?_
              rintro e1 w1 ⟨rfl, rfl⟩
              go_wp2_with fail
              refine (HB.out _).mono ?_
              rintro e2 w2 ⟨rfl, rfl⟩
              go_wp2_with fail
              refine (HO.out _).mono ?_
              rintro e3 w3 ⟨rfl, hb⟩
              have HS3 := hide (HS.out.on hb)
              clear hb
              have r0 := HS3.out.tx.c0
              have r1 := HS3.out.tx.c1
              have r2 := HS3.out.tx.f0
              have r3 := HS3.out.tx.f1
              have d0 := (HS3.out.tx.set F.n (F.d - 1)).c0
              have d1 := (HS3.out.tx.set F.n (F.d - 1)).c1
              have HS4 := hide (HS3.out.set (Nat.le_refl _) F.n (F.d - 1))
              have g0 := (HS4.out.tx.set 0 0).c0
              have g1 := (HS4.out.tx.set 0 0).c1
              have s0 := HS4.out.tx.c0
              have s1 := HS4.out.tx.c1
              have s2 := HS4.out.tx.f0
              have s3 := HS4.out.tx.f1
              go_wp2_with fail
              first | (refine bodyPost_ret (v := .tuple #[.agg #[.int .i64 0, .int .i64 0], .int .i64 0, .int .i64 3]) (by simp [results, Tryd.results25, go_sem, g0, g1]) rfl ?_) | (refine bodyPost_ret (v := .tuple #[.agg #[.int .i64 0, .int .i64 0], .int .i64 0, .int .i64 3]) (by simp [results, Tryd.results25, go_sem, *]) rfl ?_)
              exact ⟨by rw [HV.out]; first | rfl | simp, by first | exact (HS4.out.set (Nat.le_refl _) _ _).bel | exact (HS3.out.set (Nat.le_refl _) _ _).bel⟩
          · have hkl2' : (k2 : Int) < (s.size : Int) := by omega
            have HV := hide (show parF s.data.toList = (⟨0, 1, 6⟩, k2) from hp0.trans (by rw [finF, if_pos (by omega)]))
            clear hp0
            go_enter Tryd.func25, Tryd.ntmps25
            go_wp2_with fail
            generalize w.alloc (.cells #[.int .i64 0, .int .i64 0] 24) = wX at HS ⊢
            refine (HA.out _).mono ?_
            rintro e1 w1 ⟨rfl, rfl⟩
            go_wp2_with fail
            refine (HB.out _).mono ?_
            rintro e2 w2 ⟨rfl, rfl⟩
            have r0 := HS.out.tx.c0
            have r1 := HS.out.tx.c1
            have r2 := HS.out.tx.f0
            have r3 := HS.out.tx.f1
            have d0 := (HS.out.tx.set 0 0).c0
            have d1 := (HS.out.tx.set 0 0).c1
            go_wp2_with fail
            refine bodyPost_ret (v := .tuple #[.agg #[.int .i64 0, .int .i64 0], .int .i64 k2, .int .i64 6]) (by simp [results, Tryd.results25, go_sem, d0, d1]) rfl ?_
            exact ⟨by rw [HV.out]; first | rfl | simp, (HS.out.set (Nat.le_refl _) _ _).bel⟩
        · have HV := hide (show parF s.data.toList = (⟨0, 1, e2⟩, k2) from hp0.trans (by rw [if_neg he2]))
          have he2' : (e2 != 0) = true := by simpa using he2
          clear hp0
          go_enter Tryd.func25, Tryd.ntmps25
          go_wp2_with fail
          generalize w.alloc (.cells #[.int .i64 0, .int .i64 0] 24) = wX at HS ⊢
          refine (HA.out _).mono ?_
          rintro e1 w1 ⟨rfl, rfl⟩
          go_wp2_with fail
          refine (HB.out _).mono ?_
          rintro e2 w2 ⟨rfl, rfl⟩
          have r0 := HS.out.tx.c0
          have r1 := HS.out.tx.c1
          have r2 := HS.out.tx.f0
          have r3 := HS.out.tx.f1
          have d0 := (HS.out.tx.set 0 0).c0
          have d1 := (HS.out.tx.set 0 0).c1
          go_wp2_with fail
          refine bodyPost_ret (v := .tuple #[.agg #[.int .i64 0, .int .i64 0], .int .i64 k2, .int .i64 e2]) (by simp [results, Tryd.results25, go_sem, d0, d1]) rfl ?_
          exact ⟨by rw [HV.out]; first | rfl | simp, (HS.out.set (Nat.le_refl _) _ _).bel⟩
      · have t4 := (get_bool (s := s) (k := k) (h := hkl) (c := 47) (m := 47) rfl).2.1 hsl
        have HV := hide (show parF s.data.toList = (⟨0, 1, 6⟩, k) from hp0.trans (by rw [slash, if_neg hsl, finF, if_pos (by omega)]))
        clear hp0 hsl
        go_enter Tryd.func25, Tryd.ntmps25
        go_wp2_with fail
        generalize w.alloc (.cells #[.int .i64 0, .int .i64 0] 24) = wX at HS ⊢
        refine (HA.out _).mono ?_
        rintro e1 w1 ⟨rfl, rfl⟩
        have r0 := HS.out.tx.c0
        have r1 := HS.out.tx.c1
        have r2 := HS.out.tx.f0
        have r3 := HS.out.tx.f1
        have d0 := (HS.out.tx.set 0 0).c0
        have d1 := (HS.out.tx.set 0 0).c1
        go_wp2_with fail
        refine bodyPost_ret (v := .tuple #[.agg #[.int .i64 0, .int .i64 0], .int .i64 k, .int .i64 6]) (by simp [results, Tryd.results25, go_sem, d0, d1]) rfl ?_
        exact ⟨by rw [HV.out]; first | rfl | simp, (HS.out.set (Nat.le_refl _) _ _).bel⟩
  · have HV := hide (show parF s.data.toList = (⟨0, 1, e⟩, k) from hp0.trans (by rw [if_neg he]))
    have he' : (e != 0) = true := by simpa using he
    clear hp0
    go_enter Tryd.func25, Tryd.ntmps25
    go_wp2_with fail
    generalize w.alloc (.cells #[.int .i64 0, .int .i64 0] 24) = wX at HS ⊢
    refine (HA.out _).mono ?_
    rintro e1 w1 ⟨rfl, rfl⟩
    have r0 := HS.out.tx.c0
    have r1 := HS.out.tx.c1
    have r2 := HS.out.tx.f0
    have r3 := HS.out.tx.f1
    have d0 := (HS.out.tx.set 0 0).c0
    have d1 := (HS.out.tx.set 0 0).c1
    go_wp2_with fail
    refine bodyPost_ret (v := .tuple #[.agg #[.int .i64 0, .int .i64 0], .int .i64 k, .int .i64 e]) (by simp [results, Tryd.results25, go_sem, d0, d1]) rfl ?_
    exact ⟨by rw [HV.out]; first | rfl | simp, (HS.out.set (Nat.le_refl _) _ _).bel⟩

end Go.Proofs.YtfappkhohddcjaaDoor
